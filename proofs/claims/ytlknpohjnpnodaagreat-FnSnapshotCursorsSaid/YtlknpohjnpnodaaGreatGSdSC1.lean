/-
  Functions of the program as typed functions, printed by gen.py, and that the program's functions do what they say. No conditions.
-/
import Derived.Test.YtlknpohjnpnodaaGreatGScSC1
namespace Go.Proofs.YtlknpohjnpnodaaGreat
open Go.RowKit
set_option linter.unusedVariables false
set_option maxRecDepth 100000
set_option maxHeartbeats 1000000
def A3 (e13 : List Int) (v17 : (List Int) × Int) (rec : ((List (List Int)) × Int) -> Option ((List (List Int)))) (s : (List (List Int)) × Int) : Option ((List (List Int))) := match s with
  | (y29, y30) => cond (decide (y30 < (List.length v17.1 : Int))) (Ad (AA v17.1 y30) fun e23 => Ad (BG e13) fun v25 => chk (List.length v25 + List.length [e23] <= lim) (chk (List.length y29 + List.length ([v25 ++ [e23]]) <= lim) (rec ((y29 ++ ([v25 ++ [e23]])), (IntKind.i64.wrap (y30 + 1)))))) (some y29)
def A2 (a0 : Y29) (a1 : List Y40) (a2 : List Int) (y10 : List (List Int)) (rec : (Int × (List (List Int)) × Int) -> Option (Int × (List (List Int)))) (s : Int × (List (List Int)) × Int) : Option (Int × (List (List Int))) := match s with
  | (y24, y25, y26) => cond (decide (y26 < (List.length y10 : Int))) (Ad (AA y10 y26) fun e13 => Ad (G6 a0 a1 a2 e13) fun v15 => Ad (C4 v15) fun v17 => Ad (Ai (A3 e13 v17) fz (y25, 0)) fun z19 => rec ((IntKind.i64.wrap (y24 + v17.2)), z19, (IntKind.i64.wrap (y26 + 1)))) (some (y24, y25))
def A1 (a0 : Y29) (a1 : List Y40) (a2 : List Int) (a3 : Int) (rec : ((List (List Int)) × Int × Int) -> Option ((List (List Int)) × Int)) (s : (List (List Int)) × Int × Int) : Option ((List (List Int)) × Int) := match s with
  | (y10, y11, y12) => cond (decide (y12 < a3)) (Ad (Ai (A2 a0 a1 a2 y10) fz (y11, ([] : List (List Int)), 0)) fun o2 => (match o2 with
  | (z8, z9) => (rec (z9, z8, (IntKind.i64.wrap (y12 + 1)))))) (some (y10, y11))
def BH (a0 : Y29) (a1 : List Y40) (a2 : List Int) (a3 : Int) : Option ((List (List Int)) × Int × Bool) := Ad (Ai (A1 a0 a1 a2 a3) fz (([[]]), 0, 0)) fun o1 => (match o1 with
  | (z2, z3) => (some (z2, z3, decide ((List.length z2 : Int) <= 4000))))
theorem If {a0 : Y29} {a1 : List Y40} {a2 : List Int} {a3 : Int} {r : (List (List Int)) × Int × Bool} (h : BH a0 a1 a2 a3 = some r) : Ah Tryz.prog 107 [.agg (CZ a0), dL BS a1, dL An a2, nI a3, .fn 108] (.tup [oL 27 Aj r.1, nI r.2.1, .bool r.2.2]) := by
 unfold BH at h
 refine st bS rfl (rn 1 rfl (rs (qBs An [] rfl rfl rfl Ar (qBs Aj [[]] rfl rfl rfl AZ (sp 1 rfl (evn (rn 1 rfl (Ac fun K1 hK1 => rn 1 rfl ?_))))))))
 obtain ⟨o1, hl, hr1⟩ := Aa h
 have kXB1 : ∀ {z2 : List (List Int)} {z3 : Int}, (z2, z3) = o1 -> Jn K1 [(13, oL 27 Aj z2), (14, nI z3)] := by
  intro z2 z3 h σ' hk
  subst h
  replace h := hr1
  try dsimp only at h
  exact hK1 _ (lh hk rfl (rn 1 rfl (Af ((by cases h; exact ⟨.inl rfl, rfl⟩)))))
 refine As (fun (s : (List (List Int)) × Int × Int) => match s with | (y10, y11, y12) => [(1, dL BS a1), (2, dL An a2), (3, nI a3), (4, .fn 108), (5, .box [nI a0.1, dL Bt a0.2.1, dL An a0.2.2]), (13, oL 27 Aj y10), (14, nI y11), (15, nI y12)]) _ _ _ _ hl (okr rfl) (fun _ => rfl) ?_
 rintro m ⟨y10, y11, y12⟩ N h hN
 unfold A1 at h
 dsimp only at h
 refine Ac fun K4 hK4 => rn 1 rfl ?_
 rcases Ab h with ⟨g5, h⟩ | ⟨g5, h⟩
 ·refine qT rfl g5 (Ae (hK4 _ (Ac fun K6 hK6 => Aq (rn 1 rfl (Ac fun K7 hK7 => rn 1 rfl ?_)))))
  obtain ⟨o2, hl, hr2⟩ := Aa h
  have kXB2 : ∀ {z8 : Int} {z9 : List (List Int)}, (z8, z9) = o2 -> Jn K7 [(1, dL BS a1), (2, dL An a2), (3, nI a3), (4, .fn 108), (5, .box [nI a0.1, dL Bt a0.2.1, dL An a0.2.2]), (14, nI z8), (15, nI y12), (16, oL 27 Aj z9)] := by
   intro z8 z9 h σ' hk
   subst h
   replace h := hr2
   try dsimp only at h
   exact hK7 _ (lh hk rfl (rg (sp 2 rfl (evn (hK6 _ (rg (sp 3 rfl (evn (hN _ _ h (okr rfl))))))))))
  refine As (fun (s : Int × (List (List Int)) × Int) => match s with | (y24, y25, y26) => [(1, dL BS a1), (2, dL An a2), (3, nI a3), (4, .fn 108), (5, .box [nI a0.1, dL Bt a0.2.1, dL An a0.2.2]), (14, nI y24), (15, nI y12), (16, oL 27 Aj y25), (30, dL Aj y10), (31, nI (List.length y10 : Int)), (32, nI y26)]) _ _ _ _ hl (okr rfl) (fun _ => rfl) ?_
  rintro m ⟨y24, y25, y26⟩ N h hN
  unfold A2 at h
  dsimp only at h
  refine rn 1 rfl (Ac fun K10 hK10 => ?_)
  rcases Ab h with ⟨g11, h⟩ | ⟨g11, h⟩
  ·refine qT rfl g11 (Ae (hK10 _ (Ac fun K12 hK12 => Aq (rs ?_))))
   obtain ⟨e13, g14, h⟩ := Aa h
   refine qI rfl AZ g14 (sp 2 rfl (evn (rs (sp 5 rfl (?_)))))
   obtain ⟨v15, g16, h⟩ := Aa h
   refine qC (qa rfl (erg (erc rfl (erc (erD Cn _) (erc (erD Ap _) rfl)))) (qa rfl (erD Pn _) (qa rfl (erD Ap _) (qa rfl (erD Ap _) At)))) (M5 g16) (?_)
   obtain ⟨v17, g18, h⟩ := Aa h
   refine qCt rfl (qa rfl (erO Ca _) At) (Jx g18) (sp 5 rfl (evn (rn 2 rfl ?_)))
   obtain ⟨o3, hl, hr3⟩ := Aa h
   have kXB3 : ∀ {z19 : List (List Int)}, z19 = o3 -> Jn K12 [(1, dL BS a1), (2, dL An a2), (3, nI a3), (4, .fn 108), (5, .box [nI a0.1, dL Bt a0.2.1, dL An a0.2.2]), (14, nI (IntKind.i64.wrap (y24 + v17.2))), (15, nI y12), (16, oL 27 Aj z19), (30, dL Aj y10), (31, nI (List.length y10 : Int)), (32, nI y26)] := by
    intro z19 h σ' hk
    subst h
    replace h := hr3
    try dsimp only at h
    exact hK12 _ (lh hk rfl (rg (sp 2 rfl (evn (hN _ _ h (okr rfl))))))
   refine As (fun (s : (List (List Int)) × Int) => match s with | (y29, y30) => [(1, dL BS a1), (2, dL An a2), (3, nI a3), (4, .fn 108), (5, .box [nI a0.1, dL Bt a0.2.1, dL An a0.2.2]), (14, nI (IntKind.i64.wrap (y24 + v17.2))), (15, nI y12), (16, oL 27 Aj y29), (18, dL An e13), (30, dL Aj y10), (31, nI (List.length y10 : Int)), (32, nI y26), (49, dL An v17.1), (50, nI (List.length v17.1 : Int)), (51, nI y30)]) _ _ _ _ hl (okr rfl) (fun _ => rfl) ?_
   rintro m ⟨y29, y30⟩ N h hN
   unfold A3 at h
   dsimp only at h
   refine rn 1 rfl (Ac fun K20 hK20 => ?_)
   rcases Ab h with ⟨g21, h⟩ | ⟨g21, h⟩
   ·refine qT rfl g21 (Ae (hK20 _ (Ac fun K22 hK22 => Aq (rs ?_))))
    obtain ⟨e23, g24, h⟩ := Aa h
    refine qI rfl Ar g24 (sp 2 rfl (evn (rg (sp 2 rfl (?_)))))
    obtain ⟨v25, g26, h⟩ := Aa h
    refine qC (qa rfl (erD Ap _) At) (Cg g26) (sp 1 rfl (qBs An [e23] rfl rfl rfl Ar (?_)))
    obtain ⟨g27, h⟩ := Ag h
    refine qA An v25 [e23] rfl rfl (Ao Ar [e23]) rfl g27 (qBs Aj [v25 ++ [e23]] rfl rfl rfl AZ (?_))
    obtain ⟨g28, h⟩ := Ag h
    exact qA Aj y29 ([v25 ++ [e23]]) rfl rfl (Ao AZ ([v25 ++ [e23]])) rfl g28 (sp 1 rfl (evn (hK22 _ (rg (sp 2 rfl (evn (hN _ _ h (okr rfl))))))))
   ·exact qF rfl g21 (Al (kXB3 (Option.some.inj h) _ (okr rfl)))
  ·exact qF rfl g11 (Al (kXB2 (Option.some.inj h) _ (okr rfl)))
 ·exact qF rfl g5 (Al (kXB1 (Option.some.inj h) _ (okr rfl)))
def Fn (a0 : List AU) (a1 : Y29) (a2 : List Int) : Option (Y40 × Int × Bool) := Ad (Gr a0 a1 a2) fun v1 => cond (!v1.2) (some ((0, []), 0, false)) (Ad (G7 v1.1) fun v6 => cond v6 (some ((a1.1, []), 0, true)) (Ad (BH a1 v1.1 a2 a1.1) fun v9 => cond (!v9.2.2) (some ((0, []), 0, false)) (some ((a1.1, v9.1), v9.2.1, true))))
theorem Lr {a0 : List AU} {a1 : Y29} {a2 : List Int} {r : Y40 × Int × Bool} (h : Fn a0 a1 a2 = some r) : Ah Tryz.prog 69 [.agg [dL AE a0], .agg (CZ a1), dL An a2] (.tup [.agg (Ht r.1), nI r.2.1, .bool r.2.2]) := by
 unfold Fn at h
 refine st i6 rfl (rn 1 rfl (rs (sp 3 rfl (?_))))
 obtain ⟨v1, g2, h⟩ := Aa h
 refine qC (qa rfl (erg (erc (erD AP _) rfl)) (qa rfl (erg (erc rfl (erc (erD Cn _) (erc (erD Ap _) rfl)))) (qa rfl (erD Ap _) At))) (My g2) (sp 5 rfl (evn (Ac fun K3 hK3 => rn 1 rfl ?_)))
 rcases Ab h with ⟨g4, h⟩ | ⟨g4, h⟩
 ·exact qT rfl g4 (rn 1 rfl (Af ((by cases h; exact ⟨.inl rfl, rfl⟩))))
 ·refine qF rfl g4 (Ae (hK3 _ (Ac fun K5 hK5 => rs (sp 1 rfl (?_)))))
  obtain ⟨v6, g7, h⟩ := Aa h
  refine qC (qa rfl (erD Nm _) At) (M7 g7) (evn ?_)
  rcases Ab h with ⟨g8, h⟩ | ⟨g8, h⟩
  ·exact qT rfl g8 (rn 1 rfl (qk [6, 7, 8] rfl (Af ((by cases h; exact ⟨.inl rfl, rfl⟩)))))
  ·refine qF rfl g8 (Ae (hK5 _ (rs (sp 5 rfl (?_)))))
   obtain ⟨v9, g10, h⟩ := Aa h
   refine qC (qa rfl (erg (erc rfl (erc (erD Cn _) (erc (erD Ap _) rfl)))) (qa rfl (erD Nm _) (qa rfl (erD Ap _) (qs rfl (qs rfl At))))) (If g10) (sp 7 rfl (evn (Ac fun K11 hK11 => rn 1 rfl ?_)))
   rcases Ab h with ⟨g12, h⟩ | ⟨g12, h⟩
   ·exact qT rfl g12 (rn 1 rfl (Af ((by cases h; exact ⟨.inl rfl, rfl⟩))))
   ·exact qF rfl g12 (Ae (hK11 _ (rn 1 rfl (Af ((by cases h; exact ⟨.inl rfl, rfl⟩))))))
def FL  : Option ((List Int) × Bool) := some (([] : List Int), false)
def Eo (a3 : List Int) (v1 : Y40 × Int × Bool) (rec : Int -> Option (Sum (Unit) ((List Int) × Bool))) (y2 : Int) : Option (Sum (Unit) ((List Int) × Bool)) := cond (decide (y2 < (List.length (AK 0 v1.1.2) : Int))) (Ad (AA (AK 0 v1.1.2) y2) fun e8 => cond ((List.length a3 : Int) == 0) (chk (okJ (v1.1.2) ([Sum.inl e8]) [] = true) (some (.inr (e8.2, true)))) (Ad (Bg e8.2 a3) fun v12 => cond (decide (0 < v12)) (chk (okJ (v1.1.2) ([Sum.inl e8]) [] = true) (some (.inr (e8.2, true)))) (rec (IntKind.i64.wrap (y2 + 1))))) (some (.inl ()))
def FY (a0 : List AU) (a1 : Y29) (a2 : List Int) (a3 : List Int) : Option ((List Int) × Bool) := Ad (Fn a0 a1 a2) fun v1 => cond v1.2.2 (Ad (Ai (Eo a3 v1) fz 0) fun o2 => (match o2 with
  | .inl _ => (FL )
  | .inr r => some r)) (FL )
theorem LR {a0 : List AU} {a1 : Y29} {a2 : List Int} {a3 : List Int} {r : (List Int) × Bool} (h : FY a0 a1 a2 a3 = some r) : Ah Tryz.prog 35 [.agg [dL AE a0], .agg (CZ a1), dL An a2, dL An a3] (.tup [oL 3 An r.1, .bool r.2]) := by
 unfold FY at h
 refine st iE rfl (rn 1 rfl (rs (sp 3 rfl (?_))))
 obtain ⟨v1, g2, h⟩ := Aa h
 refine qC (qa rfl (erg (erc (erD AP _) rfl)) (qa rfl (erg (erc rfl (erc (erD Cn _) (erc (erD Ap _) rfl)))) (qa rfl (erD Ap _) At))) (Lr g2) (sp 8 rfl (evn (Ac fun K3 hK3 => qk [3, 10, 12] rfl (Ks (gSb (f := Aj) (l := v1.1.2) (q := 900001) (b := 10) [nI v1.1.1] [] rfl rfl rfl (fun _ => rfl) ?_)))))
 intro U us1 hU
 refine kp [(3, dL An a3), (10, .box [nI v1.1.1, oL 27 (pE Aj U) (AK 0 v1.1.2)]), (12, .bool v1.2.2), (900001, .gh us1 (List.map (fun x => Jl (Aj x)) v1.1.2))] rfl rfl (rn 1 rfl ?_)
 have kJ1 : FL = some r -> Jn K3 [(900001, .gh us1 (List.map (fun x => Jl (Aj x)) v1.1.2))] := by
  intro h σ' hk
  unfold FL at h
  exact hK3 _ (lh hk rfl (rn 1 rfl (Af ((by cases h; exact ⟨.inl rfl, rfl⟩)))))
 rcases Ab h with ⟨g4, h⟩ | ⟨g4, h⟩
 ·refine qT rfl g4 (rn 1 rfl ?_)
  obtain ⟨o2, hl, hr2⟩ := Aa h
  have kXB2 : (.inl ()) = o2 -> Jn K3 [(900001, .gh us1 (List.map (fun x => Jl (Aj x)) v1.1.2))] := by
   intro h σ' hk
   subst h
   replace h := hr2
   try dsimp only at h
   exact kJ1 h _ ⟨hk.1, trivial⟩
  refine As (fun (y2 : Int) => [(3, dL An a3), (25, dL (pE Aj U) (AK 0 v1.1.2)), (26, nI (List.length (AK 0 v1.1.2) : Int)), (27, nI y2), (900001, .gh us1 (List.map (fun x => Jl (Aj x)) v1.1.2))]) _ _ _ _ hl (okr rfl) (fun _ => rfl) ?_
  rintro m y2 N h hN
  unfold Eo at h
  refine rn 1 rfl (Ac fun K5 hK5 => ?_)
  rcases Ab h with ⟨g6, h⟩ | ⟨g6, h⟩
  ·refine qT rfl g6 (Ae (hK5 _ (Ac fun K7 hK7 => Aq (rs ?_))))
   obtain ⟨e8, g9, h⟩ := Aa h
   refine qI rfl (zpE AZ) g9 (sp 2 rfl (evn (rs (sp 4 rfl (?_)))))
   rcases Ab h with ⟨g10, h⟩ | ⟨g10, h⟩
   ·refine qg 34 g10 rfl (sp 5 rfl (evn (qT rfl rfl (qk [14, 900001] rfl ?_))))
    obtain ⟨g11, h⟩ := Ag h
    exact L4 (f := Aj) (s := 14) (q := 900001) (l := v1.1.2) (U := U) (L := [Sum.inl e8]) rfl rfl rfl (by decide) (Nq (fun _ => rfl) rfl) hU g11 rfl rfl (kp [(14, oL 3 An e8.2)] rfl rfl (rn 1 rfl (Af ((by cases h; cases hr2; exact ⟨.inl rfl, rfl⟩)))))
   ·refine qg 34 g10 rfl (sp 2 rfl (?_))
    obtain ⟨v12, g13, h⟩ := Aa h
    refine oGR rfl rfl (qC (qa rfl (erP Ap Ap _) (qa rfl (erD Ap _) At)) (Cb g13) (sp 2 rfl (evn ?_)))
    rcases Ab h with ⟨g14, h⟩ | ⟨g14, h⟩
    ·refine qT rfl g14 (qk [14, 900001] rfl ?_)
     obtain ⟨g15, h⟩ := Ag h
     exact L4 (f := Aj) (s := 14) (q := 900001) (l := v1.1.2) (U := U) (L := [Sum.inl e8]) rfl rfl rfl (by decide) (Nq (fun _ => rfl) rfl) hU g15 rfl rfl (kp [(14, oL 3 An e8.2)] rfl rfl (rn 1 rfl (Af ((by cases h; cases hr2; exact ⟨.inl rfl, rfl⟩)))))
    ·exact qF rfl g14 (Ae (hK7 _ (rg (sp 2 rfl (evn (hN _ _ h (okr rfl)))))))
  ·exact qF rfl g6 (Al (kXB2 (Option.some.inj h) _ (okr rfl)))
 ·exact qF rfl g4 (Ae (kJ1 h _ (okr rfl)))
def DL (a0 : Y25) (a1 : Y31) : Option (Y31 × (List Int) × Bool) := Ad (BG a1.2.1) fun v1 => Ad (BG a1.2.2.1) fun v3 => Ad (G5 a1.2.2.2) fun v5 => Ad (Gv a0 a1.1) fun v7 => cond (!v7.2) (some ((a1.1, v1, v3, v5), ([] : List Int), false)) (Ad (FY v7.1 a1.2.2.2 a1.2.1 a1.2.2.1) fun v11 => cond (!v11.2) (some ((a1.1, v1, v3, v5), ([] : List Int), false)) (Ad (BG v11.1) fun v15 => some ((a1.1, v1, v15, v5), v11.1, true)))
theorem IA {a0 : Y25} {a1 : Y31} {r : Y31 × (List Int) × Bool} (h : DL a0 a1 = some r) : Ah Tryz.prog 7 [.agg (C1 a0), .agg (FW a1)] (.tup [.agg (HA r.1), oL 3 An r.2.1, .bool r.2.2]) := by
 unfold DL at h
 refine st kP rfl (rn 1 rfl (rd (by kernel_rfl) (sd 4 rfl (?_))))
 obtain ⟨v1, g2, h⟩ := Aa h
 refine ed rfl (qC (qa rfl (erD Ap _) At) (Cg g2) (sd 2 rfl (?_)))
 obtain ⟨v3, g4, h⟩ := Aa h
 refine ed rfl (qC (qa rfl (erD Ap _) At) (Cg g4) (sd 2 rfl (?_)))
 obtain ⟨v5, g6, h⟩ := Aa h
 refine ed rfl (qC (qa rfl (erg (erc rfl (erc (erD Cn _) (erc (erD Ap _) rfl)))) At) (M3 g6) (sd 3 rfl (Cy (rs (sp 3 rfl (?_))))))
 obtain ⟨v7, g8, h⟩ := Aa h
 refine qC (qa rfl (erg (erc rfl (erc (erD Gb _) rfl))) (qs rfl At)) (MB g8) (sp 6 rfl (evn (Ac fun K9 hK9 => rn 1 rfl ?_)))
 rcases Ab h with ⟨g10, h⟩ | ⟨g10, h⟩
 ·exact qT rfl g10 (rn 1 rfl (qk [4, 5, 6] rfl (Af ((by cases h; exact ⟨.inl rfl, rfl⟩)))))
 ·refine qF rfl g10 (Ae (hK9 _ (rs (sp 7 rfl (?_)))))
  obtain ⟨v11, g12, h⟩ := Aa h
  refine qC (qa rfl (erg (erc (erD LI _) rfl)) (qa rfl (erg (erc rfl (erc (erD Cn _) (erc (erD Ap _) rfl)))) (qa rfl (erD Ap _) (qa rfl (erD Ap _) At)))) (LR g12) (sp 5 rfl (evn (Ac fun K13 hK13 => rn 1 rfl ?_)))
  rcases Ab h with ⟨g14, h⟩ | ⟨g14, h⟩
  ·exact qT rfl g14 (rn 1 rfl (Af ((by cases h; exact ⟨.inl rfl, rfl⟩))))
  ·refine qF rfl g14 (Ae (hK13 _ (rs (sp 1 rfl (?_)))))
   obtain ⟨v15, g16, h⟩ := Aa h
   exact qC (qa rfl (erD Ap _) At) (Cg g16) (sp 2 rfl (evn (rn 1 rfl (qk [4, 5, 6] rfl (Af ((by cases h; exact ⟨.inl rfl, rfl⟩)))))))
def EV (a0 : List Int) (a1 : List Int) (rec : Int -> Option (Sum (Unit) (Bool))) (y1 : Int) : Option (Sum (Unit) (Bool)) := cond (decide (y1 < (List.length a0 : Int))) (Ad (AA a0 y1) fun e7 => Ad (AA a1 y1) fun e9 => cond (e7 != e9) (some (.inr false)) (rec (IntKind.i64.wrap (y1 + 1)))) (some (.inl ()))
def FO (a0 : List Int) (a1 : List Int) : Option (Bool) := cond ((List.length a0 : Int) != (List.length a1 : Int)) (some false) (Ad (Ai (EV a0 a1) fz 0) fun o1 => (match o1 with
  | .inl _ => (some true)
  | .inr r => some r))
theorem IX {a0 : List Int} {a1 : List Int} {r : Bool} (h : FO a0 a1 = some r) : Ah Tryz.prog 9 [dL An a0, dL An a1] (.bool r) := by
 unfold FO at h
 refine st kR rfl (rn 1 rfl (Ac fun K1 hK1 => rn 1 rfl ?_))
 rcases Ab h with ⟨g2, h⟩ | ⟨g2, h⟩
 ·exact qT rfl g2 (rn 1 rfl (Af ((by cases h; exact ⟨.inl rfl, rfl⟩))))
 ·refine qF rfl g2 (Ae (hK1 _ (Ac fun K3 hK3 => rn 1 rfl ?_)))
  obtain ⟨o1, hl, hr1⟩ := Aa h
  have kXB1 : (.inl ()) = o1 -> Jn K3 [] := by
   intro h σ' hk
   subst h
   replace h := hr1
   try dsimp only at h
   exact hK3 _ (lh hk rfl (rn 1 rfl (Af ((by cases h; exact ⟨.inl rfl, rfl⟩)))))
  refine As (fun (y1 : Int) => [(0, dL An a0), (1, dL An a1), (5, nI y1)]) _ _ _ _ hl (okr rfl) (fun _ => rfl) ?_
  rintro m y1 N h hN
  unfold EV at h
  refine Ac fun K4 hK4 => rn 1 rfl ?_
  rcases Ab h with ⟨g5, h⟩ | ⟨g5, h⟩
  ·refine qT rfl g5 (Ae (hK4 _ (Ac fun K6 hK6 => Aq (rd (by kernel_rfl) (sd 2 rfl (?_))))))
   obtain ⟨e7, g8, h⟩ := Aa h
   refine ed rfl (qI rfl Ar g8 (sd 3 rfl (?_)))
   obtain ⟨e9, g10, h⟩ := Aa h
   refine ed rfl (qI rfl Ar g10 (sd 2 rfl (Cy ?_)))
   rcases Ab h with ⟨g11, h⟩ | ⟨g11, h⟩
   ·exact qT rfl g11 (rn 1 rfl (Af ((by cases h; cases hr1; exact ⟨.inl rfl, rfl⟩))))
   ·exact qF rfl g11 (Ae (hK6 _ (rg (sp 3 rfl (evn (hN _ _ h (okr rfl)))))))
  ·exact qF rfl g5 (Al (kXB1 (Option.some.inj h) _ trivial))
def Pe (x : Y25) : List V := [nI x.1, dL JU x.2]
theorem eZ (x : Y25) : (Pe x).length = 2 := rfl
theorem aU (x : Y25) : erL (Pe x) = C1 x := (erc rfl (erc (erD Hj _) rfl))
def CG (a0 : List Int) : Option (Y25 × Y42) := Ad (IOQ a0) fun v1 => Ad (Hx v1) fun v3 => Ad (AA v3.1.2 (IntKind.i64.wrap ((List.length v3.1.2 : Int) - 1))) fun e5 => Ad (GS v3.2 e5) fun v7 => some (v3.1, v7.1)
theorem Jt {a0 : List Int} {r : Y25 × Y42} (h : CG a0 = some r) : Ah Tryz.prog 12 [aL cu8 a0] (.tup [.agg (Pe r.1), .agg (Nk r.2)]) := by
 unfold CG at h
 refine st iq rfl (rn 1 rfl (rs (sp 1 rfl (?_))))
 obtain ⟨v1, g2, h⟩ := Aa h
 refine qN rfl rfl rfl rfl (MV g2) (sp 1 rfl (evn (rs (sp 1 rfl (?_)))))
 obtain ⟨v3, g4, h⟩ := Aa h
 refine qP rfl rfl rfl rfl At (Lh g4) (sp 2 rfl (evn (rd (by kernel_rfl) (sd 8 rfl (?_)))))
 obtain ⟨e5, g6, h⟩ := Aa h
 refine ed rfl (qI rfl Ta g6 (sd 1 rfl (?_)))
 obtain ⟨v7, g8, h⟩ := Aa h
 exact ed rfl (qP rfl rfl rfl rfl (qa rfl (erg (erc (erG KO _) rfl)) At) (KH g8) (sd 2 rfl (Cy (Af ((by cases h; exact ⟨.inl rfl, rfl⟩))))))
def EM (a0 : Y40) (a1 : Y40) (rec : Int -> Option (Sum (Unit) (Bool))) (y1 : Int) : Option (Sum (Unit) (Bool)) := cond (decide (y1 < (List.length a0.2 : Int))) (Ad (AA a0.2 y1) fun e8 => Ad (AA a1.2 y1) fun e10 => Ad (A9 e8 e10) fun v12 => cond (v12 != 0) (some (.inr false)) (rec (IntKind.i64.wrap (y1 + 1)))) (some (.inl ()))
def Ey (a0 : Y40) (a1 : Y40) : Option (Bool) := cond (a0.1 != a1.1) (some false) (cond ((List.length a0.2 : Int) != (List.length a1.2 : Int)) (some false) (Ad (Ai (EM a0 a1) fz 0) fun o1 => (match o1 with
  | .inl _ => (some true)
  | .inr r => some r)))
theorem KD {a0 : Y40} {a1 : Y40} {r : Bool} (h : Ey a0 a1 = some r) : Ah Tryz.prog 82 [.agg (Ek a0), .agg (Ek a1)] (.bool r) := by
 unfold Ey at h
 refine st jj rfl (rn 1 rfl (Ac fun K1 hK1 => rs (sp 6 rfl (?_))))
 rcases Ab h with ⟨g2, h⟩ | ⟨g2, h⟩
 ·exact qg 11 g2 rfl (sp 8 rfl (evn (qT rfl rfl (rn 1 rfl (Af ((by cases h; exact ⟨.inl rfl, rfl⟩)))))))
 ·refine qg 11 g2 rfl (sp 8 rfl (evn ?_))
  rcases Ab h with ⟨g3, h⟩ | ⟨g3, h⟩
  ·exact qT rfl g3 (rn 1 rfl (qk [4] rfl (Af ((by cases h; exact ⟨.inl rfl, rfl⟩)))))
  ·refine qF rfl g3 (Ae (hK1 _ (Ac fun K4 hK4 => rn 1 rfl ?_)))
   obtain ⟨o1, hl, hr1⟩ := Aa h
   have kXB1 : (.inl ()) = o1 -> Jn K4 [] := by
    intro h σ' hk
    subst h
    replace h := hr1
    try dsimp only at h
    exact hK4 _ (lh hk rfl (rn 1 rfl (Af ((by cases h; exact ⟨.inl rfl, rfl⟩)))))
   refine As (fun (y1 : Int) => [(2, .box [nI a0.1, dL Aw a0.2]), (3, .box [nI a1.1, dL Aw a1.2]), (5, nI y1)]) _ _ _ _ hl (okr rfl) (fun _ => rfl) ?_
   rintro m y1 N h hN
   unfold EM at h
   refine Ac fun K5 hK5 => rn 1 rfl ?_
   rcases Ab h with ⟨g6, h⟩ | ⟨g6, h⟩
   ·refine qT rfl g6 (Ae (hK5 _ (Ac fun K7 hK7 => Aq (rd (by kernel_rfl) (sd 3 rfl (?_))))))
    obtain ⟨e8, g9, h⟩ := Aa h
    refine ed rfl (qI rfl AX g9 (sd 4 rfl (?_)))
    obtain ⟨e10, g11, h⟩ := Aa h
    refine ed rfl (qI rfl AX g11 (sd 1 rfl (?_)))
    obtain ⟨v12, g13, h⟩ := Aa h
    refine ed rfl (qC (qa rfl (erD Ap _) (qa rfl (erD Ap _) At)) (BI g13) (sd 1 rfl (Cy ?_)))
    rcases Ab h with ⟨g14, h⟩ | ⟨g14, h⟩
    ·exact qT rfl g14 (rn 1 rfl (Af ((by cases h; cases hr1; exact ⟨.inl rfl, rfl⟩))))
    ·exact qF rfl g14 (Ae (hK7 _ (rg (sp 3 rfl (evn (hN _ _ h (okr rfl)))))))
   ·exact qF rfl g6 (Al (kXB1 (Option.some.inj h) _ trivial))
def EL (a0 : List AU) (a1 : List AU) (rec : Int -> Option (Sum (Unit) (Bool))) (y1 : Int) : Option (Sum (Unit) (Bool)) := cond (decide (y1 < (List.length a0 : Int))) (Ad (AA a0 y1) fun e7 => Ad (AA a1 y1) fun e9 => cond (!(e7.1 == e9.1)) (some (.inr false)) (Ad (AA a0 y1) fun e12 => Ad (AA a1 y1) fun e14 => Ad (Ey e12.2 e14.2) fun v16 => cond (!v16) (some (.inr false)) (rec (IntKind.i64.wrap (y1 + 1))))) (some (.inl ()))
def Ew (a0 : List AU) (a1 : List AU) : Option (Bool) := cond ((List.length a0 : Int) != (List.length a1 : Int)) (some false) (Ad (Ai (EL a0 a1) fz 0) fun o1 => (match o1 with
  | .inl _ => (some true)
  | .inr r => some r))
theorem KB {a0 : List AU} {a1 : List AU} {r : Bool} (h : Ew a0 a1 = some r) : Ah Tryz.prog 44 [.agg [dL AE a0], .agg [dL AE a1]] (.bool r) := by
 unfold Ew at h
 refine st iN rfl (rn 1 rfl (Ac fun K1 hK1 => rn 1 rfl ?_))
 rcases Ab h with ⟨g2, h⟩ | ⟨g2, h⟩
 ·exact qT rfl g2 (rn 1 rfl (Af ((by cases h; exact ⟨.inl rfl, rfl⟩))))
 ·refine qF rfl g2 (Ae (hK1 _ (Ac fun K3 hK3 => rn 1 rfl ?_)))
  obtain ⟨o1, hl, hr1⟩ := Aa h
  have kXB1 : (.inl ()) = o1 -> Jn K3 [] := by
   intro h σ' hk
   subst h
   replace h := hr1
   try dsimp only at h
   exact hK3 _ (lh hk rfl (rn 1 rfl (Af ((by cases h; exact ⟨.inl rfl, rfl⟩)))))
  refine As (fun (y1 : Int) => [(2, .box [dL AE a0]), (3, .box [dL AE a1]), (5, nI y1)]) _ _ _ _ hl (okr rfl) (fun _ => rfl) ?_
  rintro m y1 N h hN
  unfold EL at h
  refine Ac fun K4 hK4 => rn 1 rfl ?_
  rcases Ab h with ⟨g5, h⟩ | ⟨g5, h⟩
  ·refine qT rfl g5 (Ae (hK4 _ (Ac fun K6 hK6 => Aq (rd (by kernel_rfl) (sd 3 rfl (?_))))))
   obtain ⟨e7, g8, h⟩ := Aa h
   refine ed rfl (qI rfl C2 g8 (sd 5 rfl (?_)))
   obtain ⟨e9, g10, h⟩ := Aa h
   refine ed rfl (qI rfl C2 g10 (sd 4 rfl (?_)))
   rcases Ab h with ⟨g11, h⟩ | ⟨g11, h⟩
   ·exact qgd 33 g11 rfl (sd 15 rfl (Cy (qT rfl rfl (rn 1 rfl (qk [4] rfl (Af ((by cases h; cases hr1; exact ⟨.inl rfl, rfl⟩))))))))
   ·refine qgd 33 g11 rfl (sd 3 rfl (?_))
    obtain ⟨e12, g13, h⟩ := Aa h
    refine ed rfl (oGR rfl rfl (qI rfl C2 g13 (sd 5 rfl (?_))))
    obtain ⟨e14, g15, h⟩ := Aa h
    refine ed rfl (oGR rfl rfl (qI rfl C2 g15 (sd 2 rfl (?_))))
    obtain ⟨v16, g17, h⟩ := Aa h
    refine ed rfl (oGR rfl rfl (qC (qa rfl (erg (erc rfl (erc (erD AJ _) rfl))) (qa rfl (erg (erc rfl (erc (erD AJ _) rfl))) At)) (KD g17) (sd 2 rfl (Cy ?_))))
    rcases Ab h with ⟨g18, h⟩ | ⟨g18, h⟩
    ·exact qT rfl g18 (rn 1 rfl (Af ((by cases h; cases hr1; exact ⟨.inl rfl, rfl⟩))))
    ·exact qF rfl g18 (Ae (hK6 _ (rg (sp 3 rfl (evn (hN _ _ h (okr rfl)))))))
  ·exact qF rfl g5 (Al (kXB1 (Option.some.inj h) _ trivial))
def Ce (a0 : Y25) (a1 : Y25) (rec : Int -> Option (Sum (Unit) (Bool))) (y1 : Int) : Option (Sum (Unit) (Bool)) := cond (decide (y1 < (List.length a0.2 : Int))) (Ad (AA a0.2 y1) fun e8 => Ad (AA a1.2 y1) fun e10 => Ad (Ew e8 e10) fun v12 => cond (!v12) (some (.inr false)) (rec (IntKind.i64.wrap (y1 + 1)))) (some (.inl ()))
def Ex (a0 : Y25) (a1 : Y25) : Option (Bool) := cond (a0.1 != a1.1) (some false) (cond ((List.length a0.2 : Int) != (List.length a1.2 : Int)) (some false) (Ad (Ai (Ce a0 a1) fz 0) fun o1 => (match o1 with
  | .inl _ => (some true)
  | .inr r => some r)))
theorem KC {a0 : Y25} {a1 : Y25} {r : Bool} (h : Ex a0 a1 = some r) : Ah Tryz.prog 13 [.agg (C1 a0), .agg (C1 a1)] (.bool r) := by
 unfold Ex at h
 refine st ir rfl (rn 1 rfl (Ac fun K1 hK1 => rs (sp 6 rfl (?_))))
 rcases Ab h with ⟨g2, h⟩ | ⟨g2, h⟩
 ·exact qg 11 g2 rfl (sp 8 rfl (evn (qT rfl rfl (rn 1 rfl (Af ((by cases h; exact ⟨.inl rfl, rfl⟩)))))))
 ·refine qg 11 g2 rfl (sp 8 rfl (evn ?_))
  rcases Ab h with ⟨g3, h⟩ | ⟨g3, h⟩
  ·exact qT rfl g3 (rn 1 rfl (qk [4] rfl (Af ((by cases h; exact ⟨.inl rfl, rfl⟩)))))
  ·refine qF rfl g3 (Ae (hK1 _ (Ac fun K4 hK4 => rn 1 rfl ?_)))
   obtain ⟨o1, hl, hr1⟩ := Aa h
   have kXB1 : (.inl ()) = o1 -> Jn K4 [] := by
    intro h σ' hk
    subst h
    replace h := hr1
    try dsimp only at h
    exact hK4 _ (lh hk rfl (rn 1 rfl (Af ((by cases h; exact ⟨.inl rfl, rfl⟩)))))
   refine As (fun (y1 : Int) => [(2, .box [nI a0.1, dL HB a0.2]), (3, .box [nI a1.1, dL HB a1.2]), (5, nI y1)]) _ _ _ _ hl (okr rfl) (fun _ => rfl) ?_
   rintro m y1 N h hN
   unfold Ce at h
   refine Ac fun K5 hK5 => rn 1 rfl ?_
   rcases Ab h with ⟨g6, h⟩ | ⟨g6, h⟩
   ·refine qT rfl g6 (Ae (hK5 _ (Ac fun K7 hK7 => Aq (rd (by kernel_rfl) (sd 3 rfl (?_))))))
    obtain ⟨e8, g9, h⟩ := Aa h
    refine ed rfl (qI rfl HU g9 (sd 4 rfl (?_)))
    obtain ⟨e10, g11, h⟩ := Aa h
    refine ed rfl (qI rfl HU g11 (sd 1 rfl (?_)))
    obtain ⟨v12, g13, h⟩ := Aa h
    refine ed rfl (qC (qa rfl (erg (erc (erD AP _) rfl)) (qa rfl (erg (erc (erD AP _) rfl)) At)) (KB g13) (sd 1 rfl (Cy ?_)))
    rcases Ab h with ⟨g14, h⟩ | ⟨g14, h⟩
    ·exact qT rfl g14 (rn 1 rfl (Af ((by cases h; cases hr1; exact ⟨.inl rfl, rfl⟩))))
    ·exact qF rfl g14 (Ae (hK7 _ (rg (sp 3 rfl (evn (hN _ _ h (okr rfl)))))))
   ·exact qF rfl g6 (Al (kXB1 (Option.some.inj h) _ trivial))
def FM (a0 : Y25) (rec : ((List (List AU)) × Int) -> Option ((List (List AU)))) (s : (List (List AU)) × Int) : Option ((List (List AU))) := match s with
  | (y1, y2) => cond (decide (y2 < (List.length a0.2 : Int))) (Ad (AA a0.2 y2) fun e6 => Ad (Bi e6) fun v8 => chk (List.length y1 + List.length [v8] <= lim) (rec ((y1 ++ [v8]), (IntKind.i64.wrap (y2 + 1))))) (some y1)
def EU (a0 : Y25) : Option (Y25) := Ad (Ai (FM a0) fz (([] : List (List AU)), 0)) fun z2 => some (a0.1, z2)
theorem Jd {a0 : Y25} {r : Y25} (h : EU a0 = some r) : Ah Tryz.prog 45 [.agg (C1 a0)] (.agg (JT r)) := by
 unfold EU at h
 refine st iO rfl (rn 2 rfl (Ac fun K1 hK1 => rn 1 rfl ?_))
 obtain ⟨o1, hl, hr1⟩ := Aa h
 have kXB1 : ∀ {z2 : List (List AU)}, z2 = o1 -> Jn K1 [(2, .box [nI 0, oL 77 Bu []]), (3, .box [nI a0.1, oL 77 Bu z2])] := by
  intro z2 h σ' hk
  subst h
  replace h := hr1
  try dsimp only at h
  exact hK1 _ (lh hk rfl (rn 1 rfl (Af ((by cases h; exact ⟨.inl rfl, rfl⟩)))))
 refine As (fun (s : (List (List AU)) × Int) => match s with | (y1, y2) => [(2, .box [nI 0, oL 77 Bu []]), (3, .box [nI a0.1, oL 77 Bu y1]), (10, dL HB a0.2), (11, nI (List.length a0.2 : Int)), (12, nI y2)]) _ _ _ _ hl (okr rfl) (fun _ => rfl) ?_
 rintro m ⟨y1, y2⟩ N h hN
 unfold FM at h
 dsimp only at h
 refine rn 1 rfl (Ac fun K3 hK3 => ?_)
 rcases Ab h with ⟨g4, h⟩ | ⟨g4, h⟩
 ·refine qT rfl g4 (Ae (hK3 _ (Ac fun K5 hK5 => Aq (rs ?_))))
  obtain ⟨e6, g7, h⟩ := Aa h
  refine qI rfl HU g7 (sp 3 rfl (evn (rgd (by kernel_rfl) (sd 3 rfl (?_)))))
  obtain ⟨v8, g9, h⟩ := Aa h
  refine ed rfl (qC (qa rfl (erg (erc (erD AP _) rfl)) At) (Co g9) (ed rfl (qBs Bu [v8] rfl rfl rfl GX (?_))))
  obtain ⟨g10, h⟩ := Ag h
  exact ed rfl (qA Bu y1 [v8] rfl rfl (Ao GX [v8]) rfl g10 (sd 2 rfl (Cy (hK5 _ (rg (sp 2 rfl (evn (hN _ _ h (okr rfl)))))))))
 ·exact qF rfl g4 (Al (kXB1 (Option.some.inj h) _ (okr rfl)))
def T3 (x : Y40) : List V := [nI x.1, dL Aj x.2]
theorem jN (x : Y40) : (T3 x).length = 2 := rfl
theorem gH (x : Y40) : erL (T3 x) = Ek x := (erc rfl (erc (erD Ca _) rfl))
def DO (v1 : Y40 × Bool) (x6 : Bool) : Option (Y40 × Bool) := some (v1.1, x6)
def DN (a1 : Y42) (v1 : Y40 × Bool) (x4 : Bool) : Option (Y40 × Bool) := cond x4 (cond (a1.2.1.1 == v1.1.1) (DO v1 (a1.2.2.1 == v1.1.1)) (DO v1 false)) (DO v1 false)
def Gw (a0 : List AU) (a1 : Y42) : Option (Y40 × Bool) := Ad (BM a0 a1.1) fun v1 => cond v1.2 (Ad (AF a1.2.1) fun v10 => cond v10 (Ad (AF a1.2.2) fun v13 => DN a1 v1 v13) (DN a1 v1 false)) (DN a1 v1 false)
theorem MC {a0 : List AU} {a1 : Y42} {r : Y40 × Bool} (h : Gw a0 a1 = some r) : Ah Tryz.prog 119 [.agg [dL AE a0], .agg (GN a1)] (.tup [.agg (T3 r.1), .bool r.2]) := by
 unfold Gw at h
 refine st cd rfl (rn 1 rfl (rs (sp 3 rfl (?_))))
 obtain ⟨v1, g2, h⟩ := Aa h
 refine qC (qa rfl (erg (erc (erD AP _) rfl)) (qs rfl At)) (E2 g2) (sp 6 rfl (evn (rk fun K3 hK3 => ?_)))
 have kJ1 : ∀ {x4 : Bool}, DN a1 v1 x4 = some r -> Jn K3 [(3, .box [.str a1.1, nI a1.2.1.1, dL Aw a1.2.1.2, nI a1.2.2.1, dL Aw a1.2.2.2]), (4, .box [nI 0, oL 27 Aj []]), (6, .box [nI v1.1.1, oL 27 Aj v1.1.2]), (7, .bool x4)] := by
  intro x4 h σ' hk
  unfold DN at h
  refine hK3 _ (lh hk rfl (rdk (by kernel_rfl) fun K5 hK5 => ?_))
  have kJ2 : ∀ {x6 : Bool}, DO v1 x6 = some r -> Jn K5 [(4, .box [nI v1.1.1, dL Aj v1.1.2]), (5, .bool x6)] := by
   intro x6 h σ' hk
   unfold DO at h
   exact hK5 _ (lh hk rfl (Af ((by cases h; exact ⟨.inl rfl, rfl⟩))))
  refine sd 3 rfl (?_)
  rcases Ab h with ⟨g7, h⟩ | ⟨g7, h⟩
  ·refine qgd 28 g7 rfl (sd 8 rfl (?_))
   rcases Ab h with ⟨g8, h⟩ | ⟨g8, h⟩
   ·exact qgd 36 g8 rfl (sd 9 rfl (Cy (kJ2 h _ (okr rfl))))
   ·exact qgd 36 g8 rfl (sd 9 rfl (Cy (kJ2 h _ (okr rfl))))
  ·exact qgd 28 g7 rfl (sd 17 rfl (Cy (kJ2 h _ (okr rfl))))
 refine sp 2 rfl (?_)
 rcases Ab h with ⟨g9, h⟩ | ⟨g9, h⟩
 ·refine qg 16 g9 rfl (sp 2 rfl (?_))
  obtain ⟨v10, g11, h⟩ := Aa h
  refine oGR rfl rfl (qC (qa rfl (erg (erc rfl (erc (erD AJ _) rfl))) At) (AL g11) (sp 2 rfl (?_)))
  rcases Ab h with ⟨g12, h⟩ | ⟨g12, h⟩
  ·refine qg 21 g12 rfl (sp 2 rfl (?_))
   obtain ⟨v13, g14, h⟩ := Aa h
   exact oGR rfl rfl (qC (qa rfl (erg (erc rfl (erc (erD AJ _) rfl))) At) (AL g14) (sp 2 rfl (evn (kJ1 h _ (okr rfl)))))
  ·exact qg 21 g12 rfl (sp 5 rfl (evn (kJ1 h _ (okr rfl))))
 ·exact qg 16 g9 rfl (sp 10 rfl (evn (kJ1 h _ (okr rfl))))
def HG (a0 : List (List Int)) (a1 : List Int) (rec : (Int × Int) -> Option (Int)) (s : Int × Int) : Option (Int) := match s with
  | (y1, y2) => cond (decide (y1 < y2)) (Ad (AA a0 (IntKind.i64.wrap (Int.tdiv (IntKind.i64.wrap (y1 + y2)) 2))) fun e5 => Ad (Bg e5 a1) fun v7 => cond (decide (v7 < 0)) (rec ((IntKind.i64.wrap ((IntKind.i64.wrap (Int.tdiv (IntKind.i64.wrap (y1 + y2)) 2)) + 1)), y2)) (rec (y1, (IntKind.i64.wrap (Int.tdiv (IntKind.i64.wrap (y1 + y2)) 2))))) (some y1)
def HH (z2 : Int) (x11 : Bool) : Option (Int × Bool) := some (z2, x11)
def JA (a0 : List (List Int)) (a1 : List Int) : Option (Int × Bool) := Ad (Ai (HG a0 a1) fz (0, (List.length a0 : Int))) fun z2 => cond (decide (z2 < (List.length a0 : Int))) (Ad (AA a0 z2) fun e13 => Ad (Bg e13 a1) fun v15 => HH z2 (v15 == 0)) (HH z2 false)
theorem Qw {a0 : List (List Int)} {a1 : List Int} {r : Int × Bool} (h : JA a0 a1 = some r) : Ah Tryz.prog 158 [dL Aw a0, dL An a1] (.tup [nI r.1, .bool r.2]) := by
 unfold JA at h
 refine st cO rfl (rn 2 rfl (Ac fun K1 hK1 => ?_))
 obtain ⟨o1, hl, hr1⟩ := Aa h
 have kXB1 : ∀ {z2 : Int}, z2 = o1 -> Jn K1 [(0, dL Aw a0), (1, dL An a1), (6, nI z2)] := by
  intro z2 h σ' hk
  subst h
  replace h := hr1
  try dsimp only at h
  refine hK1 _ (lh hk rfl (rk fun K10 hK10 => ?_))
  have kJ2 : ∀ {x11 : Bool}, HH z2 x11 = some r -> Jn K10 [(4, nI z2), (5, .bool x11)] := by
   intro x11 h σ' hk
   unfold HH at h
   exact hK10 _ (lh hk rfl (Af ((by cases h; exact ⟨.inl rfl, rfl⟩))))
  refine sp 6 rfl (?_)
  rcases Ab h with ⟨g12, h⟩ | ⟨g12, h⟩
  ·refine qg 33 g12 rfl (sp 2 rfl (?_))
   obtain ⟨e13, g14, h⟩ := Aa h
   refine oGR rfl rfl (qI rfl AX g14 (sp 2 rfl (?_)))
   obtain ⟨v15, g16, h⟩ := Aa h
   exact oGR rfl rfl (qC (qa rfl (erD Ap _) (qa rfl (erD Ap _) At)) (Cb g16) (sp 4 rfl (evn (kJ2 h _ (okr rfl)))))
  ·exact qg 33 g12 rfl (sp 10 rfl (evn (kJ2 h _ (okr rfl))))
 refine As (fun (s : Int × Int) => match s with | (y1, y2) => [(0, dL Aw a0), (1, dL An a1), (6, nI y1), (7, nI y2)]) _ _ _ _ hl (okr rfl) (fun _ => rfl) ?_
 rintro m ⟨y1, y2⟩ N h hN
 unfold HG at h
 dsimp only at h
 refine Ac fun K3 hK3 => rn 1 rfl ?_
 rcases Ab h with ⟨g4, h⟩ | ⟨g4, h⟩
 ·refine qT rfl g4 (Ae (hK3 _ (Aq (rn 1 rfl (rs (sp 2 rfl (?_)))))))
  obtain ⟨e5, g6, h⟩ := Aa h
  refine qI rfl AX g6 (sp 2 rfl (?_))
  obtain ⟨v7, g8, h⟩ := Aa h
  refine qC (qa rfl (erD Ap _) (qa rfl (erD Ap _) At)) (Cb g8) (sp 1 rfl (evn ?_))
  rcases Ab h with ⟨g9, h⟩ | ⟨g9, h⟩
  ·exact qT rfl g9 (rg (sp 3 rfl (evn (hN _ _ h (okr rfl)))))
  ·exact qF rfl g9 (rg (sp 2 rfl (evn (hN _ _ h (okr rfl)))))
 ·exact qF rfl g4 (Al (kXB1 (Option.some.inj h) _ (okr rfl)))
def En (x4 : Bool) : Option (Bool) := some x4
def CX (a0 : Y40) (a1 : List Int) : Option (Bool) := Ad (JA a0.2 a1) fun v1 => Ad (AF a0) fun v5 => cond v5 (En v1.2) (En false)
theorem Ge {a0 : Y40} {a1 : List Int} {r : Bool} (h : CX a0 a1 = some r) : Ah Tryz.prog 120 [.agg (Ek a0), dL An a1] (.bool r) := by
 unfold CX at h
 refine st ce rfl (rn 1 rfl (rs (sp 3 rfl (?_))))
 obtain ⟨v1, g2, h⟩ := Aa h
 refine qC (qa rfl (erD AJ _) (qa rfl (erD Ap _) At)) (Qw g2) (sp 5 rfl (evn (rk fun K3 hK3 => ?_)))
 have kJ1 : ∀ {x4 : Bool}, En x4 = some r -> Jn K3 [(4, .bool x4)] := by
  intro x4 h σ' hk
  unfold En at h
  exact hK3 _ (lh hk rfl (Af ((by cases h; exact ⟨.inl rfl, rfl⟩))))
 refine sp 1 rfl (?_)
 obtain ⟨v5, g6, h⟩ := Aa h
 refine qC (qa rfl (erg (erc rfl (erc (erD AJ _) rfl))) At) (AL g6) (sp 1 rfl (?_))
 rcases Ab h with ⟨g7, h⟩ | ⟨g7, h⟩
 ·exact qg 16 g7 rfl (sp 3 rfl (evn (kJ1 h _ (okr rfl))))
 ·exact qg 16 g7 rfl (sp 3 rfl (evn (kJ1 h _ (okr rfl))))
def C7 (rec : ((List (List Int)) × Int) -> Option ((List (List Int)))) (y2 : Int) (x14 : List (List Int)) : Option ((List (List Int))) := rec (x14, (IntKind.i64.wrap (y2 + 1)))
def C6 (a1 : Y42) (v1 : Y40 × Bool) (rec : ((List (List Int)) × Int) -> Option ((List (List Int)))) (s : (List (List Int)) × Int) : Option ((List (List Int))) := match s with
  | (y1, y2) => cond (decide (y2 < (List.length a1.2.1.2 : Int))) (Ad (AA a1.2.1.2 y2) fun e10 => Ad (CX v1.1 e10) fun v12 => cond (!v12) (Ad (BG e10) fun v16 => chk (List.length y1 + List.length [v16] <= lim) (C7 rec y2 (y1 ++ [v16]))) (C7 rec y2 y1)) (some y1)
def C9 (rec : ((List (List Int)) × Int) -> Option ((List (List Int)))) (y4 : Int) (x28 : List (List Int)) : Option ((List (List Int))) := rec (x28, (IntKind.i64.wrap (y4 + 1)))
def C8 (rec : ((List (List Int)) × Int) -> Option ((List (List Int)))) (y3 : List (List Int)) (y4 : Int) (e24 : List Int) (x27 : Bool) : Option ((List (List Int))) := cond x27 (Ad (BG e24) fun v30 => chk (List.length y3 + List.length [v30] <= lim) (C9 rec y4 (y3 ++ [v30]))) (C9 rec y4 y3)
def Cc (a1 : Y42) (v1 : Y40 × Bool) (rec : ((List (List Int)) × Int) -> Option ((List (List Int)))) (s : (List (List Int)) × Int) : Option ((List (List Int))) := match s with
  | (y3, y4) => cond (decide (y4 < (List.length a1.2.2.2 : Int))) (Ad (AA a1.2.2.2 y4) fun e24 => Ad (CX v1.1 e24) fun v33 => cond v33 (Ad (CX a1.2.1 e24) fun v36 => C8 rec y3 y4 e24 (!v36)) (C8 rec y3 y4 e24 false)) (some y3)
def Ep (a0 : List AU) (a1 : Y42) : Option (Y42 × Bool) := Ad (Gw a0 a1) fun v1 => cond (!v1.2) (some (([], (0, []), (0, [])), false)) (Ad (Ai (C6 a1 v1) fz (([] : List (List Int)), 0)) fun z6 => Ad (Ai (Cc a1 v1) fz (([] : List (List Int)), 0)) fun z20 => some ((a1.1, (v1.1.1, z6), (v1.1.1, z20)), true))
theorem Km {a0 : List AU} {a1 : Y42} {r : Y42 × Bool} (h : Ep a0 a1 = some r) : Ah Tryz.prog 83 [.agg [dL AE a0], .agg (GN a1)] (.tup [.agg (Nl r.1), .bool r.2]) := by
 unfold Ep at h
 refine st jk rfl (rn 1 rfl (rs (sp 2 rfl (?_))))
 obtain ⟨v1, g2, h⟩ := Aa h
 refine qC (qa rfl (erg (erc (erD AP _) rfl)) (qa rfl (erg (erc rfl (erc rfl (erc (erD AJ _) (erc rfl (erc (erD AJ _) rfl)))))) At)) (MC g2) (sp 6 rfl (evn (Ac fun K3 hK3 => rn 1 rfl ?_)))
 rcases Ab h with ⟨g4, h⟩ | ⟨g4, h⟩
 ·exact qT rfl g4 (rn 1 rfl (Af ((by cases h; exact ⟨.inl rfl, rfl⟩))))
 ·refine qF rfl g4 (Ae (hK3 _ (rn 1 rfl (Ac fun K5 hK5 => rn 1 rfl (qk [3, 4, 6, 8, 33, 34, 35] rfl ?_)))))
  obtain ⟨o1, hl, hr1⟩ := Aa h
  have kXB1 : ∀ {z6 : List (List Int)}, z6 = o1 -> Jn K5 [(3, .box [.str a1.1, nI a1.2.1.1, dL Aw a1.2.1.2, nI a1.2.2.1, dL Aw a1.2.2.2]), (4, .box [.str [], nI 0, oL 27 Aj [], nI 0, oL 27 Aj []]), (6, .box [nI v1.1.1, dL Aj v1.1.2]), (8, .box [.str a1.1, nI v1.1.1, oL 27 Aj z6, nI v1.1.1, oL 27 Aj []])] := by
   intro z6 h σ' hk
   subst h
   replace h := hr1
   try dsimp only at h
   refine hK5 _ (lh hk rfl (Ac fun K19 hK19 => rn 1 rfl ?_))
   obtain ⟨o3, hl, hr3⟩ := Aa h
   have kXB3 : ∀ {z20 : List (List Int)}, z20 = o3 -> Jn K19 [(4, .box [.str [], nI 0, oL 27 Aj [], nI 0, oL 27 Aj []]), (8, .box [.str a1.1, nI v1.1.1, oL 27 Aj z6, nI v1.1.1, oL 27 Aj z20])] := by
    intro z20 h σ' hk
    subst h
    replace h := hr3
    try dsimp only at h
    exact hK19 _ (lh hk rfl (rn 1 rfl (Af ((by cases h; exact ⟨.inl rfl, rfl⟩)))))
   refine As (fun (s : (List (List Int)) × Int) => match s with | (y3, y4) => [(3, .box [.str a1.1, nI a1.2.1.1, dL Aw a1.2.1.2, nI a1.2.2.1, dL Aw a1.2.2.2]), (4, .box [.str [], nI 0, oL 27 Aj [], nI 0, oL 27 Aj []]), (6, .box [nI v1.1.1, dL Aj v1.1.2]), (8, .box [.str a1.1, nI v1.1.1, oL 27 Aj z6, nI v1.1.1, oL 27 Aj y3]), (55, dL Aw a1.2.2.2), (56, nI (List.length a1.2.2.2 : Int)), (57, nI y4)]) _ _ _ _ hl (okr rfl) (fun _ => rfl) ?_
   rintro m ⟨y3, y4⟩ N h hN
   unfold Cc at h
   dsimp only at h
   refine rn 1 rfl (Ac fun K21 hK21 => ?_)
   rcases Ab h with ⟨g22, h⟩ | ⟨g22, h⟩
   ·refine qT rfl g22 (Ae (hK21 _ (Ac fun K23 hK23 => Aq (rs ?_))))
    obtain ⟨e24, g25, h⟩ := Aa h
    refine qI rfl AX g25 (sp 2 rfl (evn (rk fun K26 hK26 => ?_)))
    have kJ4 : ∀ {x27 : Bool}, C8 (Ai (Cc a1 v1) m) y3 y4 e24 x27 = some o3 -> Jn K26 [(3, .box [.str a1.1, nI a1.2.1.1, dL Aw a1.2.1.2, nI a1.2.2.1, dL Aw a1.2.2.2]), (4, .box [.str [], nI 0, oL 27 Aj [], nI 0, oL 27 Aj []]), (6, .box [nI v1.1.1, dL Aj v1.1.2]), (8, .box [.str a1.1, nI v1.1.1, oL 27 Aj z6, nI v1.1.1, oL 27 Aj y3]), (12, dL An e24), (55, dL Aw a1.2.2.2), (56, nI (List.length a1.2.2.2 : Int)), (57, nI y4), (70, .bool x27)] := by
     intro x27 h σ' hk
     unfold C8 at h
     refine hK26 _ (lh hk rfl ?_)
     have kJ5 : ∀ {x28 : List (List Int)}, C9 (Ai (Cc a1 v1) m) y4 x28 = some o3 -> Jn K23 [(3, .box [.str a1.1, nI a1.2.1.1, dL Aw a1.2.1.2, nI a1.2.2.1, dL Aw a1.2.2.2]), (4, .box [.str [], nI 0, oL 27 Aj [], nI 0, oL 27 Aj []]), (6, .box [nI v1.1.1, dL Aj v1.1.2]), (8, .box [.str a1.1, nI v1.1.1, oL 27 Aj z6, nI v1.1.1, oL 27 Aj x28]), (55, dL Aw a1.2.2.2), (56, nI (List.length a1.2.2.2 : Int)), (57, nI y4)] := by
      intro x28 h σ' hk
      unfold C9 at h
      exact hK23 _ (lh hk rfl (rg (sp 2 rfl (evn (hN _ _ h (okr rfl))))))
     rcases Ab h with ⟨g29, h⟩ | ⟨g29, h⟩
     ·refine qT rfl g29 (rgd (by kernel_rfl) (sd 4 rfl (?_)))
      obtain ⟨v30, g31, h⟩ := Aa h
      refine ed rfl (qC (qa rfl (erD Ap _) At) (Cg g31) (ed rfl (qBs Aj [v30] rfl rfl rfl AZ (?_))))
      obtain ⟨g32, h⟩ := Ag h
      exact ed rfl (qA Aj y3 [v30] rfl rfl (Ao AZ [v30]) rfl g32 (sd 3 rfl (Cy (kJ5 h _ (okr rfl)))))
     ·exact qF rfl g29 (Ae (kJ5 h _ (okr rfl)))
    refine sp 2 rfl (?_)
    obtain ⟨v33, g34, h⟩ := Aa h
    refine qC (qa rfl (erg (erc rfl (erc (erD Ca _) rfl))) (qa rfl (erD Ap _) At)) (Ge g34) (sp 1 rfl (?_))
    rcases Ab h with ⟨g35, h⟩ | ⟨g35, h⟩
    ·refine qg 64 g35 rfl (sp 3 rfl (?_))
     obtain ⟨v36, g37, h⟩ := Aa h
     exact oGR rfl rfl (qC (qa rfl (erg (erc rfl (erc (erD AJ _) rfl))) (qa rfl (erD Ap _) At)) (Ge g37) (sp 2 rfl (evn (kJ4 h _ (okr rfl)))))
    ·exact qg 64 g35 rfl (sp 6 rfl (evn (kJ4 h _ (okr rfl))))
   ·exact qF rfl g22 (Al (kXB3 (Option.some.inj h) _ (okr rfl)))
  refine As (fun (s : (List (List Int)) × Int) => match s with | (y1, y2) => [(3, .box [.str a1.1, nI a1.2.1.1, dL Aw a1.2.1.2, nI a1.2.2.1, dL Aw a1.2.2.2]), (4, .box [.str [], nI 0, oL 27 Aj [], nI 0, oL 27 Aj []]), (6, .box [nI v1.1.1, dL Aj v1.1.2]), (8, .box [.str a1.1, nI v1.1.1, oL 27 Aj y1, nI v1.1.1, oL 27 Aj []]), (33, dL Aw a1.2.1.2), (34, nI (List.length a1.2.1.2 : Int)), (35, nI y2)]) _ _ _ _ hl (okr rfl) (fun _ => rfl) ?_
  rintro m ⟨y1, y2⟩ N h hN
  unfold C6 at h
  dsimp only at h
  refine rn 1 rfl (Ac fun K7 hK7 => ?_)
  rcases Ab h with ⟨g8, h⟩ | ⟨g8, h⟩
  ·refine qT rfl g8 (Ae (hK7 _ (Ac fun K9 hK9 => Aq (rs ?_))))
   obtain ⟨e10, g11, h⟩ := Aa h
   refine qI rfl AX g11 (sp 2 rfl (evn (rs (sp 2 rfl (?_)))))
   obtain ⟨v12, g13, h⟩ := Aa h
   refine qC (qa rfl (erg (erc rfl (erc (erD Ca _) rfl))) (qa rfl (erD Ap _) At)) (Ge g13) (sp 1 rfl (evn ?_))
   have kJ2 : ∀ {x14 : List (List Int)}, C7 (Ai (C6 a1 v1) m) y2 x14 = some o1 -> Jn K9 [(3, .box [.str a1.1, nI a1.2.1.1, dL Aw a1.2.1.2, nI a1.2.2.1, dL Aw a1.2.2.2]), (4, .box [.str [], nI 0, oL 27 Aj [], nI 0, oL 27 Aj []]), (6, .box [nI v1.1.1, dL Aj v1.1.2]), (8, .box [.str a1.1, nI v1.1.1, oL 27 Aj x14, nI v1.1.1, oL 27 Aj []]), (33, dL Aw a1.2.1.2), (34, nI (List.length a1.2.1.2 : Int)), (35, nI y2)] := by
    intro x14 h σ' hk
    unfold C7 at h
    exact hK9 _ (lh hk rfl (rg (sp 2 rfl (evn (hN _ _ h (okr rfl))))))
   rcases Ab h with ⟨g15, h⟩ | ⟨g15, h⟩
   ·refine qT rfl g15 (rgd (by kernel_rfl) (sd 4 rfl (?_)))
    obtain ⟨v16, g17, h⟩ := Aa h
    refine ed rfl (qC (qa rfl (erD Ap _) At) (Cg g17) (ed rfl (qBs Aj [v16] rfl rfl rfl AZ (?_))))
    obtain ⟨g18, h⟩ := Ag h
    exact ed rfl (qA Aj y1 [v16] rfl rfl (Ao AZ [v16]) rfl g18 (sd 3 rfl (Cy (kJ2 h _ (okr rfl)))))
   ·exact qF rfl g15 (Ae (kJ2 h _ (okr rfl)))
  ·exact qF rfl g8 (Al (kXB1 (Option.some.inj h) _ (okr rfl)))
def E0 (rec : ((List (List Int)) × Int) -> Option ((List (List Int)))) (y2 : Int) (x18 : List (List Int)) : Option ((List (List Int))) := rec (x18, (IntKind.i64.wrap (y2 + 1)))
def EZ (a0 : Y40) (a1 : Y40) (rec : ((List (List Int)) × Int) -> Option ((List (List Int)))) (s : (List (List Int)) × Int) : Option ((List (List Int))) := match s with
  | (y1, y2) => cond (decide (y2 < (List.length a0.2 : Int))) (Ad (AA a0.2 y2) fun e14 => Ad (CX a1 e14) fun v16 => cond (!v16) (Ad (BG e14) fun v20 => chk (List.length y1 + List.length [v20] <= lim) (E0 rec y2 (y1 ++ [v20]))) (E0 rec y2 y1)) (some y1)
def Gs (a0 : Y40) (a1 : Y40) : Option (Y40 × Bool) := Ad (AF a0) fun v2 => cond (!v2) (some ((0, []), false)) (Ad (AF a1) fun v5 => cond (!v5) (some ((0, []), false)) (cond (a0.1 != a1.1) (some ((0, []), false)) (Ad (Ai (EZ a0 a1) fz (([] : List (List Int)), 0)) fun z10 => some ((a0.1, z10), true))))
theorem Mz {a0 : Y40} {a1 : Y40} {r : Y40 × Bool} (h : Gs a0 a1 = some r) : Ah Tryz.prog 85 [.agg (Ek a0), .agg (Ek a1)] (.tup [.agg (Ht r.1), .bool r.2]) := by
 unfold Gs at h
 refine st jm rfl (rn 1 rfl (Ac fun K1 hK1 => rs (sp 1 rfl (?_))))
 obtain ⟨v2, g3, h⟩ := Aa h
 refine qC (qa rfl (erg (erc rfl (erc (erD AJ _) rfl))) At) (AL g3) (sp 2 rfl (?_))
 rcases Ab h with ⟨g4, h⟩ | ⟨g4, h⟩
 ·exact qg 12 g4 rfl (sp 11 rfl (evn (qT rfl rfl (rn 1 rfl (Af ((by cases h; exact ⟨.inl rfl, rfl⟩)))))))
 ·refine qg 12 g4 rfl (sp 1 rfl (?_))
  obtain ⟨v5, g6, h⟩ := Aa h
  refine oGR rfl rfl (qC (qa rfl (erg (erc rfl (erc (erD AJ _) rfl))) At) (AL g6) (sp 3 rfl (?_)))
  rcases Ab h with ⟨g7, h⟩ | ⟨g7, h⟩
  ·exact qg 17 g7 rfl (sp 6 rfl (evn (qk [2, 3, 4, 23] rfl (qT rfl rfl (rn 1 rfl (Af ((by cases h; exact ⟨.inl rfl, rfl⟩))))))))
  ·refine qg 17 g7 rfl (sp 6 rfl (evn ?_))
   rcases Ab h with ⟨g8, h⟩ | ⟨g8, h⟩
   ·exact qT rfl g8 (rn 1 rfl (Af ((by cases h; exact ⟨.inl rfl, rfl⟩))))
   ·refine qF rfl g8 (Ae (hK1 _ (rn 1 rfl (Ac fun K9 hK9 => rn 1 rfl ?_))))
    obtain ⟨o1, hl, hr1⟩ := Aa h
    have kXB1 : ∀ {z10 : List (List Int)}, z10 = o1 -> Jn K9 [(4, .box [nI 0, oL 27 Aj []]), (6, .box [nI a0.1, oL 27 Aj z10])] := by
     intro z10 h σ' hk
     subst h
     replace h := hr1
     try dsimp only at h
     exact hK9 _ (lh hk rfl (rn 1 rfl (Af ((by cases h; exact ⟨.inl rfl, rfl⟩)))))
    refine As (fun (s : (List (List Int)) × Int) => match s with | (y1, y2) => [(3, .box [nI a1.1, dL Aw a1.2]), (4, .box [nI 0, oL 27 Aj []]), (6, .box [nI a0.1, oL 27 Aj y1]), (29, dL Aw a0.2), (30, nI (List.length a0.2 : Int)), (31, nI y2)]) _ _ _ _ hl (okr rfl) (fun _ => rfl) ?_
    rintro m ⟨y1, y2⟩ N h hN
    unfold EZ at h
    dsimp only at h
    refine rn 1 rfl (Ac fun K11 hK11 => ?_)
    rcases Ab h with ⟨g12, h⟩ | ⟨g12, h⟩
    ·refine qT rfl g12 (Ae (hK11 _ (Ac fun K13 hK13 => Aq (rs ?_))))
     obtain ⟨e14, g15, h⟩ := Aa h
     refine qI rfl AX g15 (sp 2 rfl (evn (rs (sp 2 rfl (?_)))))
     obtain ⟨v16, g17, h⟩ := Aa h
     refine qC (qa rfl (erg (erc rfl (erc (erD AJ _) rfl))) (qa rfl (erD Ap _) At)) (Ge g17) (sp 1 rfl (evn ?_))
     have kJ2 : ∀ {x18 : List (List Int)}, E0 (Ai (EZ a0 a1) m) y2 x18 = some o1 -> Jn K13 [(3, .box [nI a1.1, dL Aw a1.2]), (4, .box [nI 0, oL 27 Aj []]), (6, .box [nI a0.1, oL 27 Aj x18]), (29, dL Aw a0.2), (30, nI (List.length a0.2 : Int)), (31, nI y2)] := by
      intro x18 h σ' hk
      unfold E0 at h
      exact hK13 _ (lh hk rfl (rg (sp 2 rfl (evn (hN _ _ h (okr rfl))))))
     rcases Ab h with ⟨g19, h⟩ | ⟨g19, h⟩
     ·refine qT rfl g19 (rgd (by kernel_rfl) (sd 3 rfl (?_)))
      obtain ⟨v20, g21, h⟩ := Aa h
      refine ed rfl (qC (qa rfl (erD Ap _) At) (Cg g21) (ed rfl (qBs Aj [v20] rfl rfl rfl AZ (?_))))
      obtain ⟨g22, h⟩ := Ag h
      exact ed rfl (qA Aj y1 [v20] rfl rfl (Ao AZ [v20]) rfl g22 (sd 2 rfl (Cy (kJ2 h _ (okr rfl)))))
     ·exact qF rfl g19 (Ae (kJ2 h _ (okr rfl)))
    ·exact qF rfl g12 (Al (kXB1 (Option.some.inj h) _ (okr rfl)))
def Jy (a0 : Y40) (a1 : Y40) : Option (Y40 × Bool) := Ad (AF a0) fun v2 => cond (!v2) (some ((0, []), false)) (Ad (AF a1) fun v5 => cond (!v5) (some ((0, []), false)) (cond (a0.1 != a1.1) (some ((0, []), false)) (Ad (FN a0.2) fun v9 => chk (List.length v9 + List.length a1.2 <= lim) (Ad (ES a0.1 (v9 ++ a1.2)) fun v12 => some (v12.1, v12.2)))))
theorem Qv {a0 : Y40} {a1 : Y40} {r : Y40 × Bool} (h : Jy a0 a1 = some r) : Ah Tryz.prog 86 [.agg (Ek a0), .agg (Ek a1)] (.tup [.agg (Ht r.1), .bool r.2]) := by
 unfold Jy at h
 refine st jn rfl (rn 1 rfl (Ac fun K1 hK1 => rs (sp 1 rfl (?_))))
 obtain ⟨v2, g3, h⟩ := Aa h
 refine qC (qa rfl (erg (erc rfl (erc (erD AJ _) rfl))) At) (AL g3) (sp 2 rfl (?_))
 rcases Ab h with ⟨g4, h⟩ | ⟨g4, h⟩
 ·exact qg 9 g4 rfl (sp 11 rfl (evn (qT rfl rfl (rn 1 rfl (Af ((by cases h; exact ⟨.inl rfl, rfl⟩)))))))
 ·refine qg 9 g4 rfl (sp 1 rfl (?_))
  obtain ⟨v5, g6, h⟩ := Aa h
  refine oGR rfl rfl (qC (qa rfl (erg (erc rfl (erc (erD AJ _) rfl))) At) (AL g6) (sp 3 rfl (?_)))
  rcases Ab h with ⟨g7, h⟩ | ⟨g7, h⟩
  ·exact qg 14 g7 rfl (sp 6 rfl (evn (qk [2, 3, 4, 20] rfl (qT rfl rfl (rn 1 rfl (Af ((by cases h; exact ⟨.inl rfl, rfl⟩))))))))
  ·refine qg 14 g7 rfl (sp 6 rfl (evn ?_))
   rcases Ab h with ⟨g8, h⟩ | ⟨g8, h⟩
   ·exact qT rfl g8 (rn 1 rfl (Af ((by cases h; exact ⟨.inl rfl, rfl⟩))))
   ·refine qF rfl g8 (Ae (hK1 _ (rd (by kernel_rfl) (sd 4 rfl (?_)))))
    obtain ⟨v9, g10, h⟩ := Aa h
    refine ed rfl (qC (qa rfl (erD AJ _) At) (IV g10) (sd 2 rfl (?_)))
    obtain ⟨g11, h⟩ := Ag h
    refine ed rfl (qAd Aj Aw Aw v9 a1.2 rfl rfl (Ao AX a1.2) (Gi (fun _ => rfl) _) g11 (fun _ => rfl) (fun _ => rfl) (fun _ => rfl) (fun _ => rfl) (?_))
    obtain ⟨v12, g13, h⟩ := Aa h
    exact ed rfl (qC (qs rfl (qa rfl (erO AJ _) At)) (Jb g13) (sd 4 rfl (Cy (Af ((by cases h; exact ⟨.inl rfl, rfl⟩))))))
theorem T2 (x : List Int) : CB (Aw x) = true := (bcc (TR (fun _ => rfl) _) rfl)
theorem V1 (x : List Int) : I4 (Aw x) = Qp x := (vcc (aG (fun _ => rfl) _) rfl)
theorem T0 (x : AU) : CB (AE x) = true := (bcc rfl (bcc rfl (bcc (TR T2 _) rfl)))
theorem V0 (x : AU) : I4 (AE x) = Hz x := (vcc rfl (vcc rfl (vcc (aG V1 _) rfl)))
def Dj (a1 : List UInt8) (v7 : (List AU)) (rec : Int -> Option (Int)) (y1 : Int) : Option (Int) := cond (decide (y1 < (List.length v7 : Int))) (Ad (AA v7 y1) fun e13 => cond (Op.bytesLess e13.1 a1) (rec (IntKind.i64.wrap (y1 + 1))) (some y1)) (some y1)
def Dl (a0 : List AU) (x21 : List AU) : Option ((List AU) × Bool) := Ad (Be x21) fun v23 => cond (!v23) (Ad (Bi a0) fun v26 => some (v26, false)) (some (x21, true))
def Dk (a0 : List AU) (a1 : List UInt8) (v7 : (List AU)) (z10 : Int) (v16 : Y40) (x20 : Bool) : Option ((List AU) × Bool) := cond x20 (chk (0 < List.length v7) (Ad (AA v7 z10) fun e31 => Dl a0 (It v7 z10 (a1, v16)))) (chk ((0 : Int) <= 0 ∧ 0 <= z10 ∧ z10 <= (List.length (AK 0 v7) : Int)) (chk (List.length ([] : List (Nat × AU)) + List.length (A7 (AK 0 v7) 0 z10) <= lim) (chk (List.length (Le (([] : List (Nat × AU)) ++ (A7 (AK 0 v7) 0 z10))) + List.length (Qx ([(a1, v16)] : List AU)) <= lim) (chk ((0 : Int) <= z10 ∧ z10 <= (List.length (AK 0 v7) : Int) ∧ (List.length (AK 0 v7) : Int) <= (List.length (AK 0 v7) : Int)) (chk (List.length ((Le (([] : List (Nat × AU)) ++ (A7 (AK 0 v7) 0 z10))) ++ (Qx ([(a1, v16)] : List AU))) + List.length (Le (A7 (AK 0 v7) z10 (List.length (AK 0 v7) : Int))) <= lim) (chk (okJ (v7) (((Le (([] : List (Nat × AU)) ++ (A7 (AK 0 v7) 0 z10))) ++ (Qx ([(a1, v16)] : List AU))) ++ (Le (A7 (AK 0 v7) z10 (List.length (AK 0 v7) : Int)))) [] = true) (Dl a0 (List.map getM (((Le (([] : List (Nat × AU)) ++ (A7 (AK 0 v7) 0 z10))) ++ (Qx ([(a1, v16)] : List AU))) ++ (Le (A7 (AK 0 v7) z10 (List.length (AK 0 v7) : Int))))))))))))
def FZ (a0 : List AU) (a1 : List UInt8) (a2 : Y40) : Option ((List AU) × Bool) := Ad (Be a0) fun v2 => cond (!v2) (Ad (Bi a0) fun v5 => some (v5, false)) (Ad (Bi a0) fun v7 => Ad (Ai (Dj a1 v7) fz 0) fun z10 => Ad (Dn a2) fun v16 => cond (decide (z10 < (List.length v7 : Int))) (Ad (AA v7 z10) fun e40 => Dk a0 a1 v7 z10 v16 (e40.1 == a1)) (Dk a0 a1 v7 z10 v16 false))
theorem LT {a0 : List AU} {a1 : List UInt8} {a2 : Y40} {r : (List AU) × Bool} (h : FZ a0 a1 a2 = some r) : Ah Tryz.prog 87 [.agg [dL AE a0], .str a1, .agg (Ek a2)] (.tup [.agg [oL 114 AO r.1], .bool r.2]) := by
 unfold FZ at h
 refine sta jo rfl (fm (bcc (TR T0 _) rfl) (fm rfl (fm (bcc rfl (bcc (TR T2 _) rfl)) rfl))) (mvv (vag (vcc (aG V0 _) rfl)) (mvv rfl (mvv (vag (vcc rfl (vcc (aG V1 _) rfl))) rfl))) (dcc (dag (dcc (dco Kj 114 _) dcn)) (dcc rfl dcn)) (rn 1 rfl (Ac fun K1 hK1 => rs (sp 1 rfl (?_))))
 obtain ⟨v2, g3, h⟩ := Aa h
 refine qC (qa rfl (erg (erc (erG KO _) rfl)) At) (C3 g3) (sp 1 rfl (evn ?_))
 rcases Ab h with ⟨g4, h⟩ | ⟨g4, h⟩
 ·refine qT rfl g4 (rs (sp 1 rfl (?_)))
  obtain ⟨v5, g6, h⟩ := Aa h
  exact qC (qa rfl (erg (erc (erG KO _) rfl)) At) (Co g6) (sp 2 rfl (evn (Af ((by cases h; exact ⟨.inl rfl, rfl⟩)))))
 ·refine qF rfl g4 (Ae (hK1 _ (rs (sp 1 rfl (?_)))))
  obtain ⟨v7, g8, h⟩ := Aa h
  refine qC (qa rfl (erg (erc (erG KO _) rfl)) At) (Co g8) (sp 2 rfl (evn (rn 1 rfl (Ac fun K9 hK9 => ?_))))
  obtain ⟨o1, hl, hr1⟩ := Aa h
  have kXB1 : ∀ {z10 : Int}, z10 = o1 -> Jn K9 [(1, .str a1), (3, .box [aL Hz a0]), (5, .box [nI a2.1, aL Qp a2.2]), (6, .box [oL 114 AO []]), (8, .box [oL 114 AO v7]), (9, nI z10)] := by
   intro z10 h σ' hk
   subst h
   replace h := hr1
   try dsimp only at h
   refine hK9 _ (lh hk rfl (rs (sp 2 rfl (?_))))
   obtain ⟨v16, g17, h⟩ := Aa h
   refine qC (qa rfl (erg (erc rfl (erc (erG XF _) rfl))) At) (Hn g17) (sp 3 rfl (evn (Ac fun K18 hK18 => rk fun K19 hK19 => ?_)))
   have kJ2 : ∀ {x20 : Bool}, Dk a0 a1 v7 z10 v16 x20 = some r -> Jn K19 [(3, .box [aL Hz a0]), (6, .box [oL 114 AO []]), (8, .box [oL 114 AO v7]), (9, nI z10), (10, .box [.str a1, nI v16.1, oL 27 Aj v16.2]), (53, .bool x20)] := by
    intro x20 h σ' hk
    unfold Dk at h
    refine hK19 _ (lh hk rfl ?_)
    have kJ3 : ∀ {x21 : List AU}, Dl a0 x21 = some r -> Jn K18 [(3, .box [aL Hz a0]), (6, .box [oL 114 AO []]), (8, .box [oL 114 AO x21])] := by
     intro x21 h σ' hk
     unfold Dl at h
     refine hK18 _ (lh hk rfl (Ac fun K22 hK22 => rs (sp 1 rfl (?_))))
     obtain ⟨v23, g24, h⟩ := Aa h
     refine qC (qa rfl (erg (erc (erD LI _) rfl)) At) (C3 g24) (sp 1 rfl (evn ?_))
     rcases Ab h with ⟨g25, h⟩ | ⟨g25, h⟩
     ·refine qT rfl g25 (rs (sp 1 rfl (?_)))
      obtain ⟨v26, g27, h⟩ := Aa h
      exact qC (qa rfl (erg (erc (erG KO _) rfl)) At) (Co g27) (sp 2 rfl (evn (Af ((by cases h; exact ⟨.inl rfl, rfl⟩)))))
     ·exact qF rfl g25 (Ae (hK22 _ (rn 1 rfl (Af ((by cases h; exact ⟨.inl rfl, rfl⟩))))))
    rcases Ab h with ⟨g28, h⟩ | ⟨g28, h⟩
    ·refine qT rfl g28 (qk [3, 6, 8, 9, 10] rfl ?_)
     obtain ⟨g29, h⟩ := Ag h
     refine Ks (gLb (q := 900003) (b := 8) [] [] rfl rfl rfl g29 ?_)
     intro gg30 mm30
     refine qk [3, 6, 8, 9, 10, 900003] rfl (LZ (rg (sp 4 rfl (?_))))
     obtain ⟨e31, g32, h⟩ := Aa h
     refine qIt rfl rfl rfl rfl g32 (?_)
     refine qSt (y0 := e31) (i := z10) (es := 3) 0 (a1, v16) [3, 6, 8] rfl rfl rfl rfl rfl rfl rfl rfl rfl rfl Ea g32 (fun x => sdL (Kj x)) (sdL (dcc rfl (dcc rfl (dcc (dco Pm 27 _) dcn)))) (yc (snc (sA (aca NZ _)) rfl) (yc (snc rfl rfl) (yc (snc rfl rfl) yn))) (?_)
     exact evn (gDb (q := 900003) (b := 8) [] [] rfl rfl rfl (sl rfl) (kJ3 h _ (okr rfl)))
    ·refine qF rfl g28 (qk [3, 6, 8, 9, 10] rfl (Ks (gSb (f := AO) (l := v7) (q := 900001) (b := 8) [] [] rfl rfl rfl (fun _ => rfl) ?_)))
     intro U us1 hU
     refine qk [3, 6, 8, 9, 10, 900001] rfl (LZ (rgd (by kernel_rfl) (ed rfl (qBs AO [] rfl rfl rfl Ea (sd 3 rfl (?_))))))
     obtain ⟨g33, h⟩ := Ag h
     refine ed rfl (qSl rfl (zpE Ea) g33 (?_))
     obtain ⟨g34, h⟩ := Ag h
     refine ed rfl (qA (pE AO U) ([] : List (Nat × AU)) (A7 (AK 0 v7) 0 z10) rfl rfl (Ao (zpE Ea) (A7 (AK 0 v7) 0 z10)) (RH _) g34 (sd 1 rfl (ed rfl (qBs AO [(a1, v16)] rfl rfl rfl Ea (?_)))))
     obtain ⟨g35, h⟩ := Ag h
     refine ed rfl (qA2 (mE AO U) (Le (([] : List (Nat × AU)) ++ (A7 (AK 0 v7) 0 z10))) (Qx ([(a1, v16)] : List AU)) rfl rfl (Ao Ea [(a1, v16)]) Tx Yz Zb gw g35 (sd 3 rfl (?_)))
     obtain ⟨g36, h⟩ := Ag h
     refine ed rfl (qSl rfl (zpE Ea) g36 (?_))
     obtain ⟨g37, h⟩ := Ag h
     refine ed rfl (qA2 (mE AO U) ((Le (([] : List (Nat × AU)) ++ (A7 (AK 0 v7) 0 z10))) ++ (Qx ([(a1, v16)] : List AU))) (Le (A7 (AK 0 v7) z10 (List.length (AK 0 v7) : Int))) rfl rfl (Ao (zpE Ea) (A7 (AK 0 v7) z10 (List.length (AK 0 v7) : Int))) rfl rfl Tx ((RH _).trans Yz) g37 (sd 2 rfl (Cy ?_)))
     obtain ⟨g38, h⟩ := Ag h
     exact gJb (f := AO) (l := v7) (q := 900001) (b := 8) [] [] (((Le (([] : List (Nat × AU)) ++ (A7 (AK 0 v7) 0 z10))) ++ (Qx ([(a1, v16)] : List AU))) ++ (Le (A7 (AK 0 v7) z10 (List.length (AK 0 v7) : Int)))) rfl rfl rfl rfl (fun _ => rfl) hU g38 (kJ3 h _ (okr rfl))
   refine sp 6 rfl (?_)
   rcases Ab h with ⟨g39, h⟩ | ⟨g39, h⟩
   ·refine qg 44 g39 rfl (sp 3 rfl (?_))
    obtain ⟨e40, g41, h⟩ := Aa h
    exact oGR rfl rfl (qI rfl Ea g41 (sp 5 rfl (evn (kJ2 h _ (okr rfl)))))
   ·exact qg 44 g39 rfl (sp 9 rfl (evn (kJ2 h _ (okr rfl))))
  refine As (fun (y1 : Int) => [(1, .str a1), (3, .box [aL Hz a0]), (5, .box [nI a2.1, aL Qp a2.2]), (6, .box [oL 114 AO []]), (8, .box [oL 114 AO v7]), (9, nI y1)]) _ _ _ _ hl (okr rfl) (fun _ => rfl) ?_
  rintro m y1 N h hN
  unfold Dj at h
  refine Ac fun K11 hK11 => rs (sp 6 rfl (?_))
  rcases Ab h with ⟨g12, h⟩ | ⟨g12, h⟩
  ·refine qg 23 g12 rfl (sp 3 rfl (?_))
   obtain ⟨e13, g14, h⟩ := Aa h
   refine oGR rfl rfl (qI rfl Ea g14 (sp 5 rfl (evn ?_)))
   rcases Ab h with ⟨g15, h⟩ | ⟨g15, h⟩
   ·exact qT rfl g15 (Ae (hK11 _ (Aq (rg (sp 3 rfl (evn (hN _ _ h (okr rfl))))))))
   ·exact qF rfl g15 (Al (kXB1 (Option.some.inj h) _ (okr rfl)))
  ·exact qg 23 g12 rfl (sp 9 rfl (evn (qF rfl rfl (Al (kXB1 (Option.some.inj h) _ (okr rfl))))))
def Gq (a0 : List AU) (a1 : Y42) : Option ((List AU) × Bool) := Ad (Ep a0 a1) fun v1 => cond (!v1.2) (Ad (Bi a0) fun v5 => some (v5, false)) (Ad (BM a0 a1.1) fun v7 => Ad (Gs v7.1 v1.1.2.2) fun v9 => Ad (Jy v9.1 v1.1.2.1) fun v11 => cond (!v11.2) (Ad (Bi a0) fun v15 => some (v15, false)) (Ad (FZ a0 a1.1 v11.1) fun v17 => some (v17.1, v17.2)))
theorem Mx {a0 : List AU} {a1 : Y42} {r : (List AU) × Bool} (h : Gq a0 a1 = some r) : Ah Tryz.prog 46 [.agg [dL AE a0], .agg (GN a1)] (.tup [.agg [oL 114 AO r.1], .bool r.2]) := by
 unfold Gq at h
 refine st iP rfl (rn 1 rfl (rs (sp 2 rfl (?_))))
 obtain ⟨v1, g2, h⟩ := Aa h
 refine qC (qa rfl (erg (erc (erD AP _) rfl)) (qa rfl (erg (erc rfl (erc rfl (erc (erD AJ _) (erc rfl (erc (erD AJ _) rfl)))))) At)) (Km g2) (sp 6 rfl (evn (Ac fun K3 hK3 => rn 1 rfl ?_)))
 rcases Ab h with ⟨g4, h⟩ | ⟨g4, h⟩
 ·refine qT rfl g4 (rs (sp 1 rfl (?_)))
  obtain ⟨v5, g6, h⟩ := Aa h
  exact qC (qa rfl (erg (erc (erD AP _) rfl)) At) (Co g6) (sp 2 rfl (evn (Af ((by cases h; exact ⟨.inl rfl, rfl⟩)))))
 ·refine qF rfl g4 (Ae (hK3 _ (rs (sp 3 rfl (?_)))))
  obtain ⟨v7, g8, h⟩ := Aa h
  refine qC (qa rfl (erg (erc (erD AP _) rfl)) (qs rfl At)) (E2 g8) (sp 6 rfl (evn (qk [2, 3, 4, 6, 8] rfl (rs (sp 3 rfl (?_))))))
  obtain ⟨v9, g10, h⟩ := Aa h
  refine qC (qa rfl (erg (erc rfl (erc (erD Ca _) rfl))) (qa rfl (erg (erc rfl (erc (erD Ca _) rfl))) At)) (Mz g10) (sp 6 rfl (evn (rs (sp 3 rfl (?_)))))
  obtain ⟨v11, g12, h⟩ := Aa h
  refine qC (qa rfl (erg (erc rfl (erc (erD Ca _) rfl))) (qa rfl (erg (erc rfl (erc (erD Ca _) rfl))) At)) (Qv g12) (sp 6 rfl (evn (Ac fun K13 hK13 => rn 1 rfl ?_)))
  rcases Ab h with ⟨g14, h⟩ | ⟨g14, h⟩
  ·refine qT rfl g14 (rs (sp 1 rfl (?_)))
   obtain ⟨v15, g16, h⟩ := Aa h
   exact qC (qa rfl (erg (erc (erD AP _) rfl)) At) (Co g16) (sp 2 rfl (evn (Af ((by cases h; exact ⟨.inl rfl, rfl⟩)))))
  ·refine qF rfl g14 (Ae (hK13 _ (rs (sp 4 rfl (?_)))))
   obtain ⟨v17, g18, h⟩ := Aa h
   exact qC (qa rfl (erg (erc (erD AP _) rfl)) (qs rfl (qa rfl (erg (erc rfl (erc (erD Ca _) rfl))) At))) (LT g18) (sp 4 rfl (evn (qk [4, 5] rfl (Af ((by cases h; exact ⟨.inl rfl, rfl⟩))))))
def El (a0 : Y25) (a1 : Y42) : Option (Y25 × Bool) := Ad (EU a0) fun v1 => Ad (BL a0) fun v4 => cond (!v4) (some (v1, false)) (cond (decide (6 <= (List.length a0.2 : Int))) (some (v1, false)) (cond (decide (99 < (IntKind.i64.wrap (a0.1 + (List.length a0.2 : Int))))) (some (v1, false)) (Ad (AA a0.2 (IntKind.i64.wrap ((List.length a0.2 : Int) - 1))) fun e9 => Ad (Gq e9 a1) fun v11 => cond (!v11.2) (some (v1, false)) (chk (List.length v1.2 + List.length [v11.1] <= lim) (some ((v1.1, v1.2 ++ [v11.1]), true))))))
theorem Kl {a0 : Y25} {a1 : Y42} {r : Y25 × Bool} (h : El a0 a1 = some r) : Ah Tryz.prog 14 [.agg (C1 a0), .agg (GN a1)] (.tup [.agg (JT r.1), .bool r.2]) := by
 unfold El at h
 refine st iu rfl (rn 1 rfl (rs (sp 1 rfl (?_))))
 obtain ⟨v1, g2, h⟩ := Aa h
 refine qC (qa rfl (erg (erc rfl (erc (erD Gb _) rfl))) At) (Jd g2) (sp 2 rfl (evn (rn 1 rfl (Ac fun K3 hK3 => rs (sp 1 rfl (?_))))))
 obtain ⟨v4, g5, h⟩ := Aa h
 refine qC (qa rfl (erg (erc rfl (erc (erD Gb _) rfl))) At) (E1 g5) (sp 2 rfl (?_))
 rcases Ab h with ⟨g6, h⟩ | ⟨g6, h⟩
 ·exact qg 18 g6 rfl (sp 10 rfl (evn (qT rfl rfl (rn 1 rfl (Af ((by cases h; exact ⟨.inl rfl, rfl⟩)))))))
 ·refine qg 18 g6 rfl (sp 4 rfl (?_))
  rcases Ab h with ⟨g7, h⟩ | ⟨g7, h⟩
  ·exact qg 22 g7 rfl (sp 6 rfl (evn (qk [2, 3, 4, 6, 7, 28] rfl (qT rfl rfl (rn 1 rfl (Af ((by cases h; exact ⟨.inl rfl, rfl⟩))))))))
  ·refine qg 22 g7 rfl (sp 6 rfl (evn ?_))
   rcases Ab h with ⟨g8, h⟩ | ⟨g8, h⟩
   ·exact qT rfl g8 (rn 1 rfl (Af ((by cases h; exact ⟨.inl rfl, rfl⟩))))
   ·refine qF rfl g8 (Ae (hK3 _ (rd (by kernel_rfl) (sd 4 rfl (?_)))))
    obtain ⟨e9, g10, h⟩ := Aa h
    refine ed rfl (qI rfl HU g10 (sd 2 rfl (?_)))
    obtain ⟨v11, g12, h⟩ := Aa h
    refine ed rfl (qC (qa rfl (erg (erc (erD AP _) rfl)) (qa rfl (erg (erc rfl (erc rfl (erc (erD AJ _) (erc rfl (erc (erD AJ _) rfl)))))) At)) (Mx g12) (sd 6 rfl (Cy (Ac fun K13 hK13 => rn 1 rfl (qk [4, 6, 8, 42] rfl ?_)))))
    rcases Ab h with ⟨g14, h⟩ | ⟨g14, h⟩
    ·exact qT rfl g14 (rn 1 rfl (Af ((by cases h; exact ⟨.inl rfl, rfl⟩))))
    ·refine qF rfl g14 (Ae (hK13 _ (rs (sp 3 rfl (qBs Bu [v11.1] rfl rfl rfl GX (?_))))))
     obtain ⟨g15, h⟩ := Ag h
     exact qA Bu v1.2 [v11.1] rfl rfl (Ao GX [v11.1]) rfl g15 (sp 2 rfl (evn (rn 1 rfl (Af ((by cases h; exact ⟨.inl rfl, rfl⟩))))))
def BK (a1 : List Y31) (y2 : Int) (y3 : List (List AU)) (rec : Int -> Option (Sum (Unit) (Y25))) (y5 : Int) : Option (Sum (Unit) (Y25)) := cond (decide (y5 < (List.length a1 : Int))) (Ad (AA a1 y5) fun e16 => cond (e16.1 == y2) (some (.inr (y2, y3))) (rec (IntKind.i64.wrap (y5 + 1)))) (some (.inl ()))
def Bh (a1 : List Y31) (rec : (Int × (List (List AU))) -> Option (Sum (Int × (List (List AU))) (Y25))) (s : Int × (List (List AU))) : Option (Sum (Int × (List (List AU))) (Y25)) := match s with
  | (y2, y3) => cond (decide (1 < (List.length y3 : Int))) (Ad (Ai (BK a1 y2 y3) fz 0) fun o2 => (match o2 with
  | .inl _ => (chk ((0 : Int) <= 1 ∧ 1 <= (List.length (AK 0 y3) : Int) ∧ (List.length (AK 0 y3) : Int) <= (List.length (AK 0 y3) : Int)) (chk (List.length ([] : List (Nat × (List AU))) + List.length (A7 (AK 0 y3) 1 (List.length (AK 0 y3) : Int)) <= lim) (chk (okJ (y3) (Le (([] : List (Nat × (List AU))) ++ (A7 (AK 0 y3) 1 (List.length (AK 0 y3) : Int)))) [] = true) (rec ((IntKind.i64.wrap (y2 + 1)), (List.map getM (Le (([] : List (Nat × (List AU))) ++ (A7 (AK 0 y3) 1 (List.length (AK 0 y3) : Int))))))))))
  | .inr r => some (.inr r))) (some (.inl (y2, y3)))
def Cs (a0 : Y25) (a1 : List Y31) : Option (Y25) := Ad (EU a0) fun v1 => Ad (BL a0) fun v4 => cond (!v4) (some v1) (Ad (Ai (Bh a1) fz (v1.1, v1.2)) fun o1 => (match o1 with
  | .inl (z8, z9) => (some (z8, z9))
  | .inr r => some r))
theorem I5 {a0 : Y25} {a1 : List Y31} {r : Y25} (h : Cs a0 a1 = some r) : Ah Tryz.prog 15 [.agg (C1 a0), dL FW a1] (.agg (JT r)) := by
 unfold Cs at h
 refine st iv rfl (rn 1 rfl (rs (sp 1 rfl (?_))))
 obtain ⟨v1, g2, h⟩ := Aa h
 refine qC (qa rfl (erg (erc rfl (erc (erD Gb _) rfl))) At) (Jd g2) (sp 2 rfl (evn (Ac fun K3 hK3 => rs (sp 1 rfl (?_)))))
 obtain ⟨v4, g5, h⟩ := Aa h
 refine qC (qa rfl (erg (erc rfl (erc (erD Gb _) rfl))) At) (E1 g5) (sp 1 rfl (evn ?_))
 rcases Ab h with ⟨g6, h⟩ | ⟨g6, h⟩
 ·exact qT rfl g6 (rn 1 rfl (Af ((by cases h; exact ⟨.inl rfl, rfl⟩))))
 ·refine qF rfl g6 (Ae (hK3 _ (Ac fun K7 hK7 => ?_)))
  obtain ⟨o1, hl, hr1⟩ := Aa h
  have kXB1 : ∀ {z8 : Int} {z9 : List (List AU)}, (.inl (z8, z9)) = o1 -> Jn K7 [(4, .box [nI 0, oL 77 Bu []]), (5, .box [nI z8, oL 77 Bu z9])] := by
   intro z8 z9 h σ' hk
   subst h
   replace h := hr1
   try dsimp only at h
   exact hK7 _ (lh hk rfl (rn 1 rfl (Af ((by cases h; exact ⟨.inl rfl, rfl⟩)))))
  refine As (fun (s : Int × (List (List AU))) => match s with | (y2, y3) => [(1, dL FW a1), (4, .box [nI 0, oL 77 Bu []]), (5, .box [nI y2, oL 77 Bu y3])]) _ _ _ _ hl (okr rfl) (fun _ => rfl) ?_
  rintro m ⟨y2, y3⟩ N h hN
  unfold Bh at h
  dsimp only at h
  refine Ac fun K10 hK10 => rn 1 rfl ?_
  rcases Ab h with ⟨g11, h⟩ | ⟨g11, h⟩
  ·refine qT rfl g11 (Ae (hK10 _ (Aq (Ac fun K12 hK12 => rn 1 rfl ?_))))
   obtain ⟨o2, hl, hr2⟩ := Aa h
   have kXB2 : (.inl ()) = o2 -> Jn K12 [(1, dL FW a1), (4, .box [nI 0, oL 77 Bu []]), (5, .box [nI y2, oL 77 Bu y3])] := by
    intro h σ' hk
    subst h
    replace h := hr2
    try dsimp only at h
    refine hK12 _ (lh hk rfl (rn 1 rfl (qk [1, 4, 5] rfl (Ks (gSb (f := Bu) (l := y3) (q := 900001) (b := 5) [nI (IntKind.i64.wrap (y2 + 1))] [] rfl rfl rfl (fun _ => rfl) ?_)))))
    intro U us1 hU
    refine qk [1, 4, 5, 900001] rfl (LZ (rg (qBs Bu [] rfl rfl rfl GX (sp 2 rfl (?_)))))
    obtain ⟨g19, h⟩ := Ag h
    refine qSl rfl (zpE GX) g19 (?_)
    obtain ⟨g20, h⟩ := Ag h
    refine qA (pE Bu U) ([] : List (Nat × (List AU))) (A7 (AK 0 y3) 1 (List.length (AK 0 y3) : Int)) rfl rfl (Ao (zpE GX) (A7 (AK 0 y3) 1 (List.length (AK 0 y3) : Int))) (RH _) g20 (sp 2 rfl (evn ?_))
    obtain ⟨g21, h⟩ := Ag h
    exact gJb (f := Bu) (l := y3) (q := 900001) (b := 5) [nI (IntKind.i64.wrap (y2 + 1))] [] (Le (([] : List (Nat × (List AU))) ++ (A7 (AK 0 y3) 1 (List.length (AK 0 y3) : Int)))) rfl ZF rfl rfl (fun _ => rfl) hU g21 (hN _ _ h (okr rfl))
   refine As (fun (y5 : Int) => [(1, dL FW a1), (4, .box [nI 0, oL 77 Bu []]), (5, .box [nI y2, oL 77 Bu y3]), (18, dL FW a1), (19, nI (List.length a1 : Int)), (20, nI y5)]) _ _ _ _ hl (okr rfl) (fun _ => rfl) ?_
   rintro m y5 N h hN
   unfold BK at h
   refine rn 1 rfl (Ac fun K13 hK13 => ?_)
   rcases Ab h with ⟨g14, h⟩ | ⟨g14, h⟩
   ·refine qT rfl g14 (Ae (hK13 _ (Ac fun K15 hK15 => Aq (rs ?_))))
    obtain ⟨e16, g17, h⟩ := Aa h
    refine qI rfl TJ g17 (sp 3 rfl (evn (rn 1 rfl ?_)))
    rcases Ab h with ⟨g18, h⟩ | ⟨g18, h⟩
    ·exact qT rfl g18 (rn 1 rfl (Af ((by cases h; cases hr2; cases hr1; exact ⟨.inl rfl, rfl⟩))))
    ·exact qF rfl g18 (Ae (hK15 _ (rg (sp 2 rfl (evn (hN _ _ h (okr rfl)))))))
   ·exact qF rfl g14 (Al (kXB2 (Option.some.inj h) _ (okr rfl)))
  ·exact qF rfl g11 (Al (kXB1 (Option.some.inj h) _ (okr rfl)))
def AW (x35 : Bool) : Option (Bool) := some x35
def Ch (v5 : Y25 × Y31) (v7 : Y31 × (List Int) × Bool) (x28 : Int) (x29 : List (List AU)) : Option (Bool) := Ad (Cs (x28, x29) [v5.2]) fun v30 => Ad (DL v30 v5.2) fun v32 => cond v32.2.2 (Ad (FO v32.2.1 v7.2.1) fun v37 => cond v37 (cond (v7.1.1 == v5.2.1) (Ad (FO v7.1.2.2.1 v7.2.1) fun v41 => cond v41 (cond ((List.length v5.2.2.2.1 : Int) == 0) (AW true) (Ad (Bg v7.2.1 v5.2.2.2.1) fun v45 => AW (decide (0 < v45)))) (AW false)) (AW false)) (AW false)) (AW false)
def Db (a0 : List Int) : Option (Bool) := Ad (LV a0) fun v2 => cond v2 (some true) (Ad (Dd a0) fun v5 => Ad (DL v5.1 v5.2) fun v7 => Ad (DQ v5.1 v5.2) fun v9 => cond (!(v7.2.2 == v9.2.2)) (some false) (Ad (FO v7.2.1 v9.2.1) fun v13 => cond (!v13) (some false) (Ad (BL v5.1) fun v16 => Ad (BN v5.1) fun v18 => cond (!(v16 == v18)) (some false) (cond (!v7.2.2) (some ((List.length v7.2.1 : Int) == 0)) (Ad (CG a0) fun v23 => Ad (Ex v23.1 v5.1) fun v26 => cond v26 (Ad (El v5.1 v23.2) fun v48 => Ch v5 v7 v48.1.1 v48.1.2) (Ch v5 v7 v5.1.1 v5.1.2))))))
theorem JB {a0 : List Int} {r : Bool} (h : Db a0 = some r) : Ah Tryz.prog 3 [dL cu8 a0] (.bool r) := by
 unfold Db at h
 refine sta kM rfl (fm (TR (fun _ => rfl) _) rfl) (mvv (aG (fun _ => rfl) _) rfl) rfl (rn 1 rfl (Ac fun K1 hK1 => rs (sp 1 rfl (?_))))
 obtain ⟨v2, g3, h⟩ := Aa h
 refine qC (qa rfl (erG gP _) At) (Ty g3) (evn ?_)
 rcases Ab h with ⟨g4, h⟩ | ⟨g4, h⟩
 ·exact qT rfl g4 (rn 1 rfl (Af ((by cases h; exact ⟨.inl rfl, rfl⟩))))
 ·refine qF rfl g4 (Ae (hK1 _ (rs (sp 1 rfl (?_)))))
  obtain ⟨v5, g6, h⟩ := Aa h
  refine qCk rfl rfl (JH g6) (sp 7 rfl (evn (rs (sp 2 rfl (?_)))))
  obtain ⟨v7, g8, h⟩ := Aa h
  refine qC (qa rfl (erg (erc rfl (erc (erG Hj _) rfl))) (qa rfl (erg (erc rfl (erc (erD Ap _) (erc (erD Ap _) (erc rfl (erc (erD Jp _) (erc (erD Ap _) rfl))))))) At)) (IA g8) (sp 8 rfl (evn (qk [0, 3, 4, 5, 6, 7] rfl (rs (sp 2 rfl (?_))))))
  obtain ⟨v9, g10, h⟩ := Aa h
  refine qC (qa rfl (erg (erc rfl (erc (erG Hj _) rfl))) (qa rfl (erg (erc rfl (erc (erD Ap _) (erc (erD Ap _) (erc rfl (erc (erD Jp _) (erc (erD Ap _) rfl))))))) At)) (IC g10) (sp 8 rfl (evn (Ac fun K11 hK11 => rd (by kernel_rfl) (sd 4 rfl (?_)))))
  rcases Ab h with ⟨g12, h⟩ | ⟨g12, h⟩
  ·exact qgd 40 g12 rfl (sd 12 rfl (Cy (qT rfl rfl (rn 1 rfl (Af ((by cases h; exact ⟨.inl rfl, rfl⟩)))))))
  ·refine qgd 40 g12 rfl (sd 2 rfl (?_))
   obtain ⟨v13, g14, h⟩ := Aa h
   refine ed rfl (oGR rfl rfl (qC (qa rfl (erD Ap _) (qa rfl (erD Ap _) At)) (IX g14) (sd 3 rfl (?_))))
   rcases Ab h with ⟨g15, h⟩ | ⟨g15, h⟩
   ·exact qgd 46 g15 rfl (sd 6 rfl (Cy (qk [0, 3, 4, 5, 6, 7, 52] rfl (qT rfl rfl (rn 1 rfl (Af ((by cases h; exact ⟨.inl rfl, rfl⟩))))))))
   ·refine qgd 46 g15 rfl (sd 1 rfl (?_))
    obtain ⟨v16, g17, h⟩ := Aa h
    refine ed rfl (oGR rfl rfl (qC (qa rfl (erg (erc rfl (erc (erG Hj _) rfl))) At) (E1 g17) (sd 1 rfl (?_))))
    obtain ⟨v18, g19, h⟩ := Aa h
    refine ed rfl (oGR rfl rfl (qC (qa rfl (erg (erc rfl (erc (erG Hj _) rfl))) At) (E9 g19) (sd 2 rfl (Cy ?_))))
    rcases Ab h with ⟨g20, h⟩ | ⟨g20, h⟩
    ·exact qT rfl g20 (rn 1 rfl (Af ((by cases h; exact ⟨.inl rfl, rfl⟩))))
    ·refine qF rfl g20 (Ae (hK11 _ (Ac fun K21 hK21 => rn 1 rfl ?_)))
     rcases Ab h with ⟨g22, h⟩ | ⟨g22, h⟩
     ·exact qT rfl g22 (rn 1 rfl (Af ((by cases h; exact ⟨.inl rfl, rfl⟩))))
     ·refine qF rfl g22 (Ae (hK21 _ (qk [0, 3, 4, 5, 6] rfl (rs (sp 1 rfl (?_))))))
      obtain ⟨v23, g24, h⟩ := Aa h
      refine qCk rfl rfl (Jt g24) (sp 7 rfl (evn (Ac fun K25 hK25 => rs (sp 2 rfl (?_)))))
      obtain ⟨v26, g27, h⟩ := Aa h
      refine qC (qa rfl (erg (erc rfl (erc (erD Hj _) rfl))) (qa rfl (erg (erc rfl (erc (erG Hj _) rfl))) At)) (KC g27) (evn ?_)
      have kJ1 : ∀ {x28 : Int} {x29 : List (List AU)}, Ch v5 v7 x28 x29 = some r -> Jn K25 [(4, .box [nI v5.2.1, oL 3 An v5.2.2.1, oL 3 An v5.2.2.2.1, nI v5.2.2.2.2.1, oL 109 A5 v5.2.2.2.2.2.1, oL 3 An v5.2.2.2.2.2.2]), (5, .box [nI v7.1.1, oL 3 An v7.1.2.1, oL 3 An v7.1.2.2.1, nI v7.1.2.2.2.1, oL 109 A5 v7.1.2.2.2.2.1, oL 3 An v7.1.2.2.2.2.2]), (6, oL 3 An v7.2.1), (11, .box [nI x28, aL JU x29])] := by
       intro x28 x29 h σ' hk
       unfold Ch at h
       refine hK25 _ (lh hk rfl (rs (sp 2 rfl (qBs HA [v5.2] rfl rfl rfl TK (?_)))))
       obtain ⟨v30, g31, h⟩ := Aa h
       refine qC (qa rfl (erg (erc rfl (erc (erG Hj _) rfl))) (qa rfl (erO Tm _) At)) (I5 g31) (sp 1 rfl (evn (rs (sp 2 rfl (?_)))))
       obtain ⟨v32, g33, h⟩ := Aa h
       refine qC (qa rfl (erg (erc rfl (erc (erD Po _) rfl))) (qa rfl (erg (erc rfl (erc (erD Ap _) (erc (erD Ap _) (erc rfl (erc (erD Jp _) (erc (erD Ap _) rfl))))))) At)) (IA g33) (sp 8 rfl (evn (rk fun K34 hK34 => ?_)))
       have kJ2 : ∀ {x35 : Bool}, AW x35 = some r -> Jn K34 [(2, .bool x35)] := by
        intro x35 h σ' hk
        unfold AW at h
        exact hK34 _ (lh hk rfl (Af ((by cases h; exact ⟨.inl rfl, rfl⟩))))
       refine sp 2 rfl (?_)
       rcases Ab h with ⟨g36, h⟩ | ⟨g36, h⟩
       ·refine qg 85 g36 rfl (sp 2 rfl (?_))
        obtain ⟨v37, g38, h⟩ := Aa h
        refine oGR rfl rfl (qC (qa rfl (erD Ap _) (qa rfl (erD Ap _) At)) (IX g38) (sp 2 rfl (?_)))
        rcases Ab h with ⟨g39, h⟩ | ⟨g39, h⟩
        ·refine qg 90 g39 rfl (sp 7 rfl (?_))
         rcases Ab h with ⟨g40, h⟩ | ⟨g40, h⟩
         ·refine qg 97 g40 rfl (sp 3 rfl (?_))
          obtain ⟨v41, g42, h⟩ := Aa h
          refine oGR rfl rfl (qC (qa rfl (erD Ap _) (qa rfl (erD Ap _) At)) (IX g42) (sp 2 rfl (?_)))
          rcases Ab h with ⟨g43, h⟩ | ⟨g43, h⟩
          ·refine qg 103 g43 rfl (sp 5 rfl (?_))
           rcases Ab h with ⟨g44, h⟩ | ⟨g44, h⟩
           ·exact qg 108 g44 rfl (sp 8 rfl (evn (kJ2 h _ (okr rfl))))
           ·refine qg 108 g44 rfl (sp 3 rfl (?_))
            obtain ⟨v45, g46, h⟩ := Aa h
            exact oGR rfl rfl (qC (qa rfl (erD Ap _) (qa rfl (erD Ap _) At)) (Cb g46) (sp 4 rfl (evn (kJ2 h _ (okr rfl)))))
          ·exact qg 103 g43 rfl (sp 13 rfl (evn (kJ2 h _ (okr rfl))))
         ·exact qg 97 g40 rfl (sp 19 rfl (evn (kJ2 h _ (okr rfl))))
        ·exact qg 90 g39 rfl (sp 26 rfl (evn (kJ2 h _ (okr rfl))))
       ·exact qg 85 g36 rfl (sp 31 rfl (evn (kJ2 h _ (okr rfl))))
      rcases Ab h with ⟨g47, h⟩ | ⟨g47, h⟩
      ·refine qT rfl g47 (qk [3, 4, 5, 6, 11, 12] rfl (LZ (rg (sp 2 rfl (?_)))))
       obtain ⟨v48, g49, h⟩ := Aa h
       exact qC (qa rfl (erg (erc rfl (erc (erG Hj _) rfl))) (qa rfl (erg (erc rfl (erc rfl (erc (erD Ca _) (erc rfl (erc (erD AJ _) rfl)))))) At)) (Kl g49) (sp 4 rfl (evn (gFb (b := 11) [nI v48.1.1] [] rfl Q8 (kJ1 h _ (okr rfl)))))
      ·exact qF rfl g47 (rg (sp 2 rfl (evn (kJ1 h _ (okr rfl)))))
end Go.Proofs.YtlknpohjnpnodaaGreat
