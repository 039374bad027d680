/-
  Functions of the program as typed functions, printed by gen.py, and that the program's functions do what they say. No conditions.
-/
import Derived.Test.YtlknpohjnpnodaaGreatGSbSC1
namespace Go.Proofs.YtlknpohjnpnodaaGreat
open Go.RowKit
set_option linter.unusedVariables false
set_option maxRecDepth 100000
set_option maxHeartbeats 1000000
def CS (a0 : Y29) (rec : ((List Int) × Int) -> Option ((List Int))) (s : (List Int) × Int) : Option ((List Int)) := match s with
  | (y1, y2) => cond (decide (y2 < a0.1)) (Ad (BC a0) fun v5 => cond v5 (chk (List.length y1 + List.length [y2] <= lim) (rec ((y1 ++ [y2]), (IntKind.i64.wrap (y2 + 1))))) (some y1)) (some y1)
def Fs (a0 : Y29) : Option ((List Int)) := Ad (Ai (CS a0) fz (([] : List Int), 0)) fun z2 => some z2
theorem Lw {a0 : Y29} {r : (List Int)} (h : Fs a0 = some r) : Ah Tryz.prog 66 [.agg (CZ a0)] (oL 3 An r) := by
 unfold Fs at h
 refine st iY rfl (rn 1 rfl (rs (qBs An [] rfl rfl rfl Ar (sp 1 rfl (evn (Ac fun K1 hK1 => rn 1 rfl ?_))))))
 obtain ⟨o1, hl, hr1⟩ := Aa h
 have kXB1 : ∀ {z2 : List Int}, z2 = o1 -> Jn K1 [(3, oL 3 An z2)] := by
  intro z2 h σ' hk
  subst h
  replace h := hr1
  try dsimp only at h
  exact hK1 _ (lh hk rfl (rn 1 rfl (Af ((by cases h; exact ⟨.inl rfl, rfl⟩)))))
 refine As (fun (s : (List Int) × Int) => match s with | (y1, y2) => [(1, .box [nI a0.1, dL Bt a0.2.1, dL An a0.2.2]), (3, oL 3 An y1), (4, nI y2)]) _ _ _ _ hl (okr rfl) (fun _ => rfl) ?_
 rintro m ⟨y1, y2⟩ N h hN
 unfold CS at h
 dsimp only at h
 refine Ac fun K3 hK3 => rs (sp 5 rfl (?_))
 rcases Ab h with ⟨g4, h⟩ | ⟨g4, h⟩
 ·refine qg 10 g4 rfl (sp 1 rfl (?_))
  obtain ⟨v5, g6, h⟩ := Aa h
  refine oGR rfl rfl (qC (qa rfl (erg (erc rfl (erc (erD Cn _) (erc (erD Ap _) rfl)))) At) (Ds g6) (sp 1 rfl (evn ?_)))
  rcases Ab h with ⟨g7, h⟩ | ⟨g7, h⟩
  ·refine qT rfl g7 (Ae (hK3 _ (Ac fun K8 hK8 => Aq (rg (sp 2 rfl (qBs An [y2] rfl rfl rfl Ar (?_)))))))
   obtain ⟨g9, h⟩ := Ag h
   exact qA An y1 [y2] rfl rfl (Ao Ar [y2]) rfl g9 (sp 1 rfl (evn (hK8 _ (rg (sp 3 rfl (evn (hN _ _ h (okr rfl))))))))
  ·exact qF rfl g7 (Al (kXB1 (Option.some.inj h) _ (okr rfl)))
 ·exact qg 10 g4 rfl (sp 3 rfl (evn (qF rfl rfl (Al (kXB1 (Option.some.inj h) _ (okr rfl))))))
def GJ (a1 : Y25) (rec : (Int × (List Int) × (List Int) × Int × (List Gn) × (List Int) × Int) -> Option (Int × (List Int) × (List Int) × Int × (List Gn) × (List Int))) (s : Int × (List Int) × (List Int) × Int × (List Gn) × (List Int) × Int) : Option (Int × (List Int) × (List Int) × Int × (List Gn) × (List Int)) := match s with
  | (y1, y2, y3, y4, y5, y6, y7) => cond (decide (0 < y7)) (Ad (DQ a1 (y1, y2, y3, (y4, y5, y6))) fun v19 => rec (v19.1.1, v19.1.2.1, v19.1.2.2.1, v19.1.2.2.2.1, v19.1.2.2.2.2.1, v19.1.2.2.2.2.2, (IntKind.i64.wrap (y7 - 1)))) (some (y1, y2, y3, y4, y5, y6))
def FB (z11 : List Int) (z12 : List Int) (z13 : Int) (z14 : List Gn) (z15 : List Int) (x24 : List Int) (x25 : Int) (x26 : Int) (x27 : Int) : Option (Y31 × Y98) := some ((x27, z11, z12, (z13, z14, z15)), (x24, x25, x26))
def Io (a0 : Y98) (a1 : Y25) : Option (Y31 × Y98) := Ad (Iq a0) fun v1 => Ad (Fs v1.1) fun v3 => Ad (GE a1 v1.1 v3) fun v5 => Ad (AV v1.2 3) fun v8 => Ad (Ai (GJ a1) fz (v5.1.1, v5.1.2.1, v5.1.2.2.1, v5.1.2.2.2.1, v5.1.2.2.2.2.1, v5.1.2.2.2.2.2, v8.1)) fun o1 => (match o1 with
  | (z10, z11, z12, z13, z14, z15) => (Ad (FU v8.2 4) fun v22 => cond v22.1 (Ad (AV v22.2 3) fun v29 => FB z11 z12 z13 z14 z15 v29.2.1 v29.2.2.1 v29.2.2.2 (if 0 < (IntKind.i64.wrap (z10 - v29.1)) then (IntKind.i64.wrap (z10 - v29.1)) else 0)) (FB z11 z12 z13 z14 z15 v22.2.1 v22.2.2.1 v22.2.2.2 z10)))
theorem OM {a0 : Y98} {a1 : Y25} {r : Y31 × Y98} (h : Io a0 a1 = some r) : Jm Tryz.prog 31 [aL cu8 a0.1, nI a0.2.1, nI a0.2.2] [.agg (C1 a1)] [aL cu8 r.2.1, nI r.2.2.1, nI r.2.2.2] (.agg (HA r.1)) := by
 unfold Io at h
 refine stp iA rfl (rn 1 rfl (rs (sp 1 rfl (?_))))
 obtain ⟨v1, g2, h⟩ := Aa h
 refine qP rfl rfl rfl rfl At (ON g2) (sp 2 rfl (evn (rd (by kernel_rfl) (sd 3 rfl (?_)))))
 obtain ⟨v3, g4, h⟩ := Aa h
 refine ed rfl (qC (qa rfl (erg (erc rfl (erc (erD Jp _) (erc (erD Ap _) rfl)))) At) (Lw g4) (?_))
 obtain ⟨v5, g6, h⟩ := Aa h
 refine ed rfl (qC (qa rfl (erg (erc rfl (erc (erD Gb _) rfl))) (qa rfl (erg (erc rfl (erc (erD Jp _) (erc (erD Ap _) rfl)))) (qa rfl (erO Ap _) At))) (MN g6) (sd 6 rfl (Cy (Ac fun K7 hK7 => rs (sp 1 rfl (?_))))))
 obtain ⟨v8, g9, h⟩ := Aa h
 refine qP rfl rfl rfl rfl (qs rfl At) (AN g9) (sp 1 rfl (evn ?_))
 obtain ⟨o1, hl, hr1⟩ := Aa h
 have kXB1 : ∀ {z10 : Int} {z11 : List Int} {z12 : List Int} {z13 : Int} {z14 : List Gn} {z15 : List Int}, (z10, z11, z12, z13, z14, z15) = o1 -> Jn K7 [(0, .box (Rk v8.2)), (4, .box [nI 0, oL 3 An [], oL 3 An [], nI 0, oL 109 A5 [], oL 3 An []]), (6, .box [nI z10, oL 3 An z11, oL 3 An z12, nI z13, oL 109 A5 z14, oL 3 An z15])] := by
  intro z10 z11 z12 z13 z14 z15 h σ' hk
  subst h
  replace h := hr1
  try dsimp only at h
  refine hK7 _ (lh hk rfl (Ac fun K21 hK21 => rs (sp 1 rfl (?_))))
  obtain ⟨v22, g23, h⟩ := Aa h
  refine qP rfl rfl rfl rfl (qs rfl At) (HO g23) (evn ?_)
  have kJ2 : ∀ {x24 : List Int} {x25 : Int} {x26 : Int} {x27 : Int}, FB z11 z12 z13 z14 z15 x24 x25 x26 x27 = some r -> Jn K21 [(0, .box [aL cu8 x24, nI x25, nI x26]), (4, .box [nI 0, oL 3 An [], oL 3 An [], nI 0, oL 109 A5 [], oL 3 An []]), (6, .box [nI x27, oL 3 An z11, oL 3 An z12, nI z13, oL 109 A5 z14, oL 3 An z15])] := by
   intro x24 x25 x26 x27 h σ' hk
   unfold FB at h
   exact hK21 _ (lh hk rfl (rn 1 rfl (Af ((by cases h; exact ⟨.inl rfl, rfl, rfl⟩)))))
  rcases Ab h with ⟨g28, h⟩ | ⟨g28, h⟩
  ·refine qT rfl g28 (rgd (by kernel_rfl) (sd 3 rfl (?_)))
   obtain ⟨v29, g30, h⟩ := Aa h
   exact ed rfl (qP rfl rfl rfl rfl (qs rfl At) (AN g30) (sd 4 rfl (Cy (kJ2 h _ (okr rfl)))))
  ·exact qF rfl g28 (Ae (kJ2 h _ (okr rfl)))
 refine As (fun (s : Int × (List Int) × (List Int) × Int × (List Gn) × (List Int) × Int) => match s with | (y1, y2, y3, y4, y5, y6, y7) => [(0, .box (Rk v8.2)), (3, .box [nI a1.1, dL HB a1.2]), (4, .box [nI 0, oL 3 An [], oL 3 An [], nI 0, oL 109 A5 [], oL 3 An []]), (6, .box [nI y1, oL 3 An y2, oL 3 An y3, nI y4, oL 109 A5 y5, oL 3 An y6]), (8, nI y7)]) _ _ _ _ hl (okr rfl) (fun _ => rfl) ?_
 rintro m ⟨y1, y2, y3, y4, y5, y6, y7⟩ N h hN
 unfold GJ at h
 dsimp only at h
 refine Ac fun K16 hK16 => rn 1 rfl ?_
 rcases Ab h with ⟨g17, h⟩ | ⟨g17, h⟩
 ·refine qT rfl g17 (Ae (hK16 _ (Ac fun K18 hK18 => Aq (rg (sp 2 rfl (?_))))))
  obtain ⟨v19, g20, h⟩ := Aa h
  exact qC (qa rfl (erg (erc rfl (erc (erD Gb _) rfl))) (qa rfl (erg (erc rfl (erc (erD Ap _) (erc (erD Ap _) (erc rfl (erc (erD Jp _) (erc (erD Ap _) rfl))))))) At)) (IC g20) (sp 5 rfl (evn (hK18 _ (rg (sp 3 rfl (evn (hN _ _ h (okr rfl))))))))
 ·exact qF rfl g17 (Al (kXB1 (Option.some.inj h) _ (okr rfl)))
def Pd (x : Y25) : List V := [nI x.1, aL JU x.2]
theorem eY (x : Y25) : (Pd x).length = 2 := rfl
theorem aT (x : Y25) : erL (Pd x) = C1 x := (erc rfl (erc (erG Hj _) rfl))
def Dd (a0 : List Int) : Option (Y25 × Y31) := Ad (IOQ a0) fun v1 => Ad (Hx v1) fun v3 => Ad (Io v3.2 v3.1) fun v5 => some (v3.1, v5.1)
theorem JH {a0 : List Int} {r : Y25 × Y31} (h : Dd a0 = some r) : Ah Tryz.prog 6 [aL cu8 a0] (.tup [.agg (Pd r.1), .agg (HA r.2)]) := by
 unfold Dd at h
 refine st kO rfl (rn 1 rfl (rs (sp 1 rfl (?_))))
 obtain ⟨v1, g2, h⟩ := Aa h
 refine qN rfl rfl rfl rfl (MV g2) (sp 1 rfl (evn (rs (sp 1 rfl (?_)))))
 obtain ⟨v3, g4, h⟩ := Aa h
 refine qP rfl rfl rfl rfl At (Lh g4) (sp 2 rfl (evn (qk [2, 3, 4, 5, 7] rfl (Ks (gFb (b := 5) [nI v3.1.1] [] rfl (fun _ => rfl) (qk [2, 3, 4, 5, 7] rfl (rd (by kernel_rfl) (sd 3 rfl (?_)))))))))
 obtain ⟨v5, g6, h⟩ := Aa h
 exact ed rfl (qP rfl rfl rfl rfl (qa rfl (erg (erc rfl (erc (erG Hj _) rfl))) At) (OM g6) (sd 2 rfl (Cy (Af ((by cases h; exact ⟨.inl rfl, rfl⟩))))))
def BG (a0 : List Int) : Option ((List Int)) := chk (List.length ([] : List Int) + List.length a0 <= lim) (some (([] : List Int) ++ a0))
theorem Cg {a0 : List Int} {r : (List Int)} (h : BG a0 = some r) : Ah Tryz.prog 32 [dL An a0] (oL 3 An r) := by
 unfold BG at h
 refine st iB rfl (rn 1 rfl (rs (qBs An [] rfl rfl rfl Ar (sp 1 rfl (?_)))))
 obtain ⟨g1, h⟩ := Ag h
 exact qA An ([] : List Int) a0 rfl rfl (Ao Ar a0) (Gi (fun _ => rfl) _) g1 (sp 1 rfl (evn (Af ((by cases h; exact ⟨.inl rfl, rfl⟩)))))
def GP (a0 : Y29) (rec : ((List Gn) × Int) -> Option ((List Gn))) (s : (List Gn) × Int) : Option ((List Gn)) := match s with
  | (y1, y2) => cond (decide (y2 < (List.length a0.2.1 : Int))) (Ad (AA a0.2.1 y2) fun e8 => Ad (BG e8.2) fun v10 => chk (List.length y1 + List.length [(e8.1, v10)] <= lim) (rec ((y1 ++ [(e8.1, v10)]), (IntKind.i64.wrap (y2 + 1))))) (some y1)
def G5 (a0 : Y29) : Option (Y29) := Ad (BG a0.2.2) fun v1 => Ad (Ai (GP a0) fz (([] : List Gn), 0)) fun z4 => some (a0.1, z4, v1)
theorem M3 {a0 : Y29} {r : Y29} (h : G5 a0 = some r) : Ah Tryz.prog 33 [.agg (CZ a0)] (.agg (Mq r)) := by
 unfold G5 at h
 refine st iC rfl (rn 1 rfl (rd (by kernel_rfl) (sd 4 rfl (?_))))
 obtain ⟨v1, g2, h⟩ := Aa h
 refine ed rfl (qC (qa rfl (erD Ap _) At) (Cg g2) (sd 3 rfl (Cy (Ac fun K3 hK3 => rn 1 rfl ?_))))
 obtain ⟨o1, hl, hr1⟩ := Aa h
 have kXB1 : ∀ {z4 : List Gn}, z4 = o1 -> Jn K3 [(2, .box [nI 0, oL 109 A5 [], oL 3 An []]), (3, .box [nI a0.1, oL 109 A5 z4, oL 3 An v1])] := by
  intro z4 h σ' hk
  subst h
  replace h := hr1
  try dsimp only at h
  exact hK3 _ (lh hk rfl (rn 1 rfl (Af ((by cases h; exact ⟨.inl rfl, rfl⟩)))))
 refine As (fun (s : (List Gn) × Int) => match s with | (y1, y2) => [(2, .box [nI 0, oL 109 A5 [], oL 3 An []]), (3, .box [nI a0.1, oL 109 A5 y1, oL 3 An v1]), (13, dL Bt a0.2.1), (14, nI (List.length a0.2.1 : Int)), (15, nI y2)]) _ _ _ _ hl (okr rfl) (fun _ => rfl) ?_
 rintro m ⟨y1, y2⟩ N h hN
 unfold GP at h
 dsimp only at h
 refine rn 1 rfl (Ac fun K5 hK5 => ?_)
 rcases Ab h with ⟨g6, h⟩ | ⟨g6, h⟩
 ·refine qT rfl g6 (Ae (hK5 _ (Ac fun K7 hK7 => Aq (rs ?_))))
  obtain ⟨e8, g9, h⟩ := Aa h
  refine qI rfl FG g9 (sp 3 rfl (evn (rgd (by kernel_rfl) (sd 6 rfl (?_)))))
  obtain ⟨v10, g11, h⟩ := Aa h
  refine ed rfl (qC (qa rfl (erD Ap _) At) (Cg g11) (sd 1 rfl (ed rfl (qBs A5 [(e8.1, v10)] rfl rfl rfl KK (?_)))))
  obtain ⟨g12, h⟩ := Ag h
  exact ed rfl (qA A5 y1 [(e8.1, v10)] rfl rfl (Ao KK [(e8.1, v10)]) rfl g12 (sd 2 rfl (Cy (hK7 _ (rg (sp 2 rfl (evn (hN _ _ h (okr rfl)))))))))
 ·exact qF rfl g6 (Al (kXB1 (Option.some.inj h) _ (okr rfl)))
def G8 (x2 : Bool) : Option (Bool) := some x2
def Cp (a0 : Int) (a1 : Int) (a2 : Int) : Option (Bool) := cond (decide (a1 <= a0)) (G8 (decide (a0 <= a2))) (G8 false)
theorem CE {a0 : Int} {a1 : Int} {a2 : Int} {r : Bool} (h : Cp a0 a1 a2 = some r) : Ah Tryz.prog 39 [nI a0, nI a1, nI a2] (.bool r) := by
 unfold Cp at h
 refine st iI rfl (rn 1 rfl (rk fun K1 hK1 => ?_))
 have kJ1 : ∀ {x2 : Bool}, G8 x2 = some r -> Jn K1 [(6, .bool x2)] := by
  intro x2 h σ' hk
  unfold G8 at h
  exact hK1 _ (lh hk rfl (Af ((by cases h; exact ⟨.inl rfl, rfl⟩))))
 refine sp 4 rfl (?_)
 rcases Ab h with ⟨g3, h⟩ | ⟨g3, h⟩
 ·exact qg 10 g3 rfl (sp 5 rfl (evn (kJ1 h _ (okr rfl))))
 ·exact qg 10 g3 rfl (sp 5 rfl (evn (kJ1 h _ (okr rfl))))
def GQ (a0 : List UInt8) (rec : Int -> Option (Sum (Unit) (Bool))) (y1 : Int) : Option (Sum (Unit) (Bool)) := cond (decide (y1 < (List.length a0 : Int))) (Ad (AA a0 y1) fun b8 => cond (decide ((UInt8.toNat b8 : Int) < 97)) (some (.inr false)) (Ad (AA a0 y1) fun b11 => cond (decide (122 < (UInt8.toNat b11 : Int))) (some (.inr false)) (rec (IntKind.i64.wrap (y1 + 1))))) (some (.inl ()))
def H0 (a0 : List UInt8) (a1 : Int) : Option (Bool) := cond (decide ((List.length a0 : Int) < 1)) (some false) (cond (decide (a1 < (List.length a0 : Int))) (some false) (Ad (Ai (GQ a0) fz 0) fun o1 => (match o1 with
  | .inl _ => (some true)
  | .inr r => some r)))
theorem M4 {a0 : List UInt8} {a1 : Int} {r : Bool} (h : H0 a0 a1 = some r) : Ah Tryz.prog 114 [.str a0, nI a1] (.bool r) := by
 unfold H0 at h
 refine st bZ rfl (rn 1 rfl (Ac fun K1 hK1 => rs (sp 4 rfl (?_))))
 rcases Ab h with ⟨g2, h⟩ | ⟨g2, h⟩
 ·exact qg 9 g2 rfl (sp 5 rfl (evn (qT rfl rfl (rn 1 rfl (Af ((by cases h; exact ⟨.inl rfl, rfl⟩)))))))
 ·refine qg 9 g2 rfl (sp 5 rfl (evn ?_))
  rcases Ab h with ⟨g3, h⟩ | ⟨g3, h⟩
  ·exact qT rfl g3 (rn 1 rfl (Af ((by cases h; exact ⟨.inl rfl, rfl⟩))))
  ·refine qF rfl g3 (Ae (hK1 _ (Ac fun K4 hK4 => rn 1 rfl (qk [0, 5] rfl ?_))))
   obtain ⟨o1, hl, hr1⟩ := Aa h
   have kXB1 : (.inl ()) = o1 -> Jn K4 [] := by
    intro h σ' hk
    subst h
    replace h := hr1
    try dsimp only at h
    exact hK4 _ (lh hk rfl (rn 1 rfl (Af ((by cases h; exact ⟨.inl rfl, rfl⟩)))))
   refine As (fun (y1 : Int) => [(0, .str a0), (5, nI y1)]) _ _ _ _ hl (okr rfl) (fun _ => rfl) ?_
   rintro m y1 N h hN
   unfold GQ at h
   refine Ac fun K5 hK5 => rn 1 rfl ?_
   rcases Ab h with ⟨g6, h⟩ | ⟨g6, h⟩
   ·refine qT rfl g6 (Ae (hK5 _ (Ac fun K7 hK7 => Aq (rs (sp 2 rfl (?_))))))
    obtain ⟨b8, g9, h⟩ := Aa h
    refine qX rfl g9 (sp 2 rfl (?_))
    rcases Ab h with ⟨g10, h⟩ | ⟨g10, h⟩
    ·exact qg 25 g10 rfl (sp 5 rfl (evn (qT rfl rfl (rn 1 rfl (Af ((by cases h; cases hr1; exact ⟨.inl rfl, rfl⟩)))))))
    ·refine qg 25 g10 rfl (sp 2 rfl (?_))
     obtain ⟨b11, g12, h⟩ := Aa h
     refine oGR rfl rfl (qX rfl g12 (sp 2 rfl (evn ?_)))
     rcases Ab h with ⟨g13, h⟩ | ⟨g13, h⟩
     ·exact qT rfl g13 (rn 1 rfl (qk [4] rfl (Af ((by cases h; cases hr1; exact ⟨.inl rfl, rfl⟩)))))
     ·exact qF rfl g13 (Ae (hK7 _ (rg (sp 3 rfl (evn (hN _ _ h (okr rfl)))))))
   ·exact qF rfl g6 (Al (kXB1 (Option.some.inj h) _ trivial))
def EQ (a0 : List UInt8) : Option (Bool) := Ad (H0 a0 4) fun v1 => some v1
theorem I9 {a0 : List UInt8} {r : Bool} (h : EQ a0 = some r) : Ah Tryz.prog 74 [.str a0] (.bool r) := by
 unfold EQ at h
 refine st jb rfl (rn 1 rfl (rs (sp 1 rfl (?_))))
 obtain ⟨v1, g2, h⟩ := Aa h
 exact qC (qs rfl (qs rfl At)) (M4 g2) (sp 1 rfl (evn (Af ((by cases h; exact ⟨.inl rfl, rfl⟩)))))
def ET (a0 : Int) (a1 : Int) : Option (Int) := cond (decide (a0 < a1)) (some (-1)) (cond (decide (a1 < a0)) (some 1) (some 0))
theorem Jc {a0 : Int} {a1 : Int} {r : Int} (h : ET a0 a1 = some r) : Ah Tryz.prog 47 [nI a0, nI a1] (nI r) := by
 unfold ET at h
 refine st iQ rfl (rn 1 rfl (Ac fun K1 hK1 => Aq (rn 1 rfl ?_)))
 rcases Ab h with ⟨g2, h⟩ | ⟨g2, h⟩
 ·exact qT rfl g2 (rn 1 rfl (Af ((by cases h; exact ⟨.inl rfl, rfl⟩))))
 ·refine qF rfl g2 (rn 1 rfl ?_)
  rcases Ab h with ⟨g3, h⟩ | ⟨g3, h⟩
  ·exact qT rfl g3 (rn 1 rfl (Af ((by cases h; exact ⟨.inl rfl, rfl⟩))))
  ·exact qF rfl g3 (Ae (hK1 _ (rn 1 rfl (qk [4] rfl (Af ((by cases h; exact ⟨.inl rfl, rfl⟩)))))))
def Em (a0 : List Int) (a1 : List Int) (rec : Int -> Option (Sum (Unit) (Int))) (y1 : Int) : Option (Sum (Unit) (Int)) := cond (decide (y1 < (List.length a0 : Int))) (cond (decide (y1 < (List.length a1 : Int))) (Ad (AA a0 y1) fun e6 => Ad (AA a1 y1) fun e8 => cond (e6 != e8) (Ad (AA a0 y1) fun e11 => Ad (AA a1 y1) fun e13 => Ad (ET e11 e13) fun v15 => some (.inr v15)) (rec (IntKind.i64.wrap (y1 + 1)))) (some (.inl ()))) (some (.inl ()))
def Bg (a0 : List Int) (a1 : List Int) : Option (Int) := Ad (Ai (Em a0 a1) fz 0) fun o1 => (match o1 with
  | .inl _ => (Ad (ET (List.length a0 : Int) (List.length a1 : Int)) fun v17 => some v17)
  | .inr r => some r)
theorem Cb {a0 : List Int} {a1 : List Int} {r : Int} (h : Bg a0 a1 = some r) : Ah Tryz.prog 16 [dL An a0, dL An a1] (nI r) := by
 unfold Bg at h
 refine st iw rfl (rn 1 rfl (Ac fun K1 hK1 => rn 1 rfl ?_))
 obtain ⟨o1, hl, hr1⟩ := Aa h
 have kXB1 : (.inl ()) = o1 -> Jn K1 [(0, dL An a0), (1, dL An a1)] := by
  intro h σ' hk
  subst h
  replace h := hr1
  try dsimp only at h
  refine hK1 _ (lh hk rfl (rs (sp 4 rfl (?_))))
  obtain ⟨v17, g18, h⟩ := Aa h
  exact qC (qs rfl (qs rfl At)) (Jc g18) (sp 1 rfl (evn (Af ((by cases h; exact ⟨.inl rfl, rfl⟩)))))
 refine As (fun (y1 : Int) => [(0, dL An a0), (1, dL An a1), (5, nI y1)]) _ _ _ _ hl (okr rfl) (fun _ => rfl) ?_
 rintro m y1 N h hN
 unfold Em at h
 refine Ac fun K2 hK2 => rs (sp 5 rfl (?_))
 rcases Ab h with ⟨g3, h⟩ | ⟨g3, h⟩
 ·refine qg 10 g3 rfl (sp 5 rfl (evn ?_))
  rcases Ab h with ⟨g4, h⟩ | ⟨g4, h⟩
  ·refine qT rfl g4 (Ae (hK2 _ (Ac fun K5 hK5 => Aq (rd (by kernel_rfl) (sd 2 rfl (?_))))))
   obtain ⟨e6, g7, h⟩ := Aa h
   refine ed rfl (qI rfl Ar g7 (sd 3 rfl (?_)))
   obtain ⟨e8, g9, h⟩ := Aa h
   refine ed rfl (qI rfl Ar g9 (sd 2 rfl (Cy ?_)))
   rcases Ab h with ⟨g10, h⟩ | ⟨g10, h⟩
   ·refine qT rfl g10 (rd (by kernel_rfl) (sd 2 rfl (?_)))
    obtain ⟨e11, g12, h⟩ := Aa h
    refine ed rfl (qI rfl Ar g12 (sd 3 rfl (?_)))
    obtain ⟨e13, g14, h⟩ := Aa h
    refine ed rfl (qI rfl Ar g14 (sd 1 rfl (?_)))
    obtain ⟨v15, g16, h⟩ := Aa h
    exact ed rfl (qC (qs rfl (qs rfl At)) (Jc g16) (sd 1 rfl (Cy (qk [4] rfl (Af ((by cases h; cases hr1; exact ⟨.inl rfl, rfl⟩)))))))
   ·exact qF rfl g10 (Ae (hK5 _ (rg (sp 3 rfl (evn (hN _ _ h (okr rfl)))))))
  ·exact qF rfl g4 (Al (kXB1 (Option.some.inj h) _ (okr rfl)))
 ·exact qg 10 g3 rfl (sp 5 rfl (evn (qF rfl rfl (Al (kXB1 (Option.some.inj h) _ (okr rfl))))))
def EF (a0 : List Int) (rec : Int -> Option (Sum (Unit) (Bool))) (y1 : Int) : Option (Sum (Unit) (Bool)) := cond (decide (y1 < (List.length a0 : Int))) (Ad (AA a0 y1) fun e5 => Ad (Cp e5 0 99) fun v7 => cond (!v7) (some (.inr false)) (rec (IntKind.i64.wrap (y1 + 1)))) (some (.inl ()))
def Di (a0 : List Int) : Option (Bool) := Ad (Ai (EF a0) fz 0) fun o1 => (match o1 with
  | .inl _ => (some true)
  | .inr r => some r)
theorem Ic {a0 : List Int} {r : Bool} (h : Di a0 = some r) : Ah Tryz.prog 157 [dL An a0] (.bool r) := by
 unfold Di at h
 refine st cN rfl (rn 1 rfl (Ac fun K1 hK1 => rn 1 rfl ?_))
 obtain ⟨o1, hl, hr1⟩ := Aa h
 have kXB1 : (.inl ()) = o1 -> Jn K1 [] := by
  intro h σ' hk
  subst h
  replace h := hr1
  try dsimp only at h
  exact hK1 _ (lh hk rfl (rn 1 rfl (Af ((by cases h; exact ⟨.inl rfl, rfl⟩)))))
 refine As (fun (y1 : Int) => [(5, dL An a0), (6, nI (List.length a0 : Int)), (7, nI y1)]) _ _ _ _ hl (okr rfl) (fun _ => rfl) ?_
 rintro m y1 N h hN
 unfold EF at h
 refine rn 1 rfl (Ac fun K2 hK2 => ?_)
 rcases Ab h with ⟨g3, h⟩ | ⟨g3, h⟩
 ·refine qT rfl g3 (Ae (hK2 _ (Ac fun K4 hK4 => Aq (rs ?_))))
  obtain ⟨e5, g6, h⟩ := Aa h
  refine qI rfl Ar g6 (sp 2 rfl (evn (rs (sp 1 rfl (?_)))))
  obtain ⟨v7, g8, h⟩ := Aa h
  refine qC (qs rfl (qs rfl (qs rfl At))) (CE g8) (sp 1 rfl (evn ?_))
  rcases Ab h with ⟨g9, h⟩ | ⟨g9, h⟩
  ·exact qT rfl g9 (rn 1 rfl (Af ((by cases h; cases hr1; exact ⟨.inl rfl, rfl⟩))))
  ·exact qF rfl g9 (Ae (hK4 _ (rg (sp 2 rfl (evn (hN _ _ h (okr rfl)))))))
 ·exact qF rfl g3 (Al (kXB1 (Option.some.inj h) _ trivial))
def Dq (rec : Int -> Option (Sum (Unit) (Bool))) (y1 : Int) (x13 : Bool) : Option (Sum (Unit) (Bool)) := cond x13 (some (.inr false)) (rec (IntKind.i64.wrap (y1 + 1)))
def Fo (a0 : Int) (a1 : List (List Int)) (rec : Int -> Option (Sum (Unit) (Bool))) (y1 : Int) : Option (Sum (Unit) (Bool)) := cond (decide (y1 < (List.length a1 : Int))) (Ad (AA a1 y1) fun e10 => cond ((List.length e10 : Int) != a0) (Dq rec y1 true) (Ad (Di e10) fun v16 => cond (!v16) (Dq rec y1 true) (cond (decide (0 < y1)) (Ad (AA a1 (IntKind.i64.wrap (y1 - 1))) fun e20 => Ad (Bg e20 e10) fun v22 => Dq rec y1 (decide (0 <= v22))) (Dq rec y1 false)))) (some (.inl ()))
def H1 (a0 : Int) (a1 : List (List Int)) : Option (Bool) := Ad (Cp a0 0 5) fun v2 => cond (!v2) (some false) (cond (decide (4000 < (List.length a1 : Int))) (some false) (Ad (Ai (Fo a0 a1) fz 0) fun o1 => (match o1 with
  | .inl _ => (some true)
  | .inr r => some r)))
theorem M6 {a0 : Int} {a1 : List (List Int)} {r : Bool} (h : H1 a0 a1 = some r) : Ah Tryz.prog 115 [nI a0, dL Aw a1] (.bool r) := by
 unfold H1 at h
 refine st b6 rfl (rn 1 rfl (Ac fun K1 hK1 => rs (sp 1 rfl (?_))))
 obtain ⟨v2, g3, h⟩ := Aa h
 refine qC (qs rfl (qs rfl (qs rfl At))) (CE g3) (sp 2 rfl (?_))
 rcases Ab h with ⟨g4, h⟩ | ⟨g4, h⟩
 ·exact qg 10 g4 rfl (sp 4 rfl (evn (qT rfl rfl (rn 1 rfl (Af ((by cases h; exact ⟨.inl rfl, rfl⟩)))))))
 ·refine qg 10 g4 rfl (sp 4 rfl (evn ?_))
  rcases Ab h with ⟨g5, h⟩ | ⟨g5, h⟩
  ·exact qT rfl g5 (rn 1 rfl (Af ((by cases h; exact ⟨.inl rfl, rfl⟩))))
  ·refine qF rfl g5 (Ae (hK1 _ (Ac fun K6 hK6 => rn 1 rfl (qk [0, 1, 15, 16, 17] rfl ?_))))
   obtain ⟨o1, hl, hr1⟩ := Aa h
   have kXB1 : (.inl ()) = o1 -> Jn K6 [] := by
    intro h σ' hk
    subst h
    replace h := hr1
    try dsimp only at h
    exact hK6 _ (lh hk rfl (rn 1 rfl (Af ((by cases h; exact ⟨.inl rfl, rfl⟩)))))
   refine As (fun (y1 : Int) => [(0, nI a0), (1, dL Aw a1), (15, dL Aw a1), (16, nI (List.length a1 : Int)), (17, nI y1)]) _ _ _ _ hl (okr rfl) (fun _ => rfl) ?_
   rintro m y1 N h hN
   unfold Fo at h
   refine rn 1 rfl (Ac fun K7 hK7 => ?_)
   rcases Ab h with ⟨g8, h⟩ | ⟨g8, h⟩
   ·refine qT rfl g8 (Ae (hK7 _ (Ac fun K9 hK9 => Aq (rs (sp 1 rfl (?_))))))
    obtain ⟨e10, g11, h⟩ := Aa h
    refine qI rfl AX g11 (sp 3 rfl (evn (rk fun K12 hK12 => ?_)))
    have kJ2 : ∀ {x13 : Bool}, Dq (Ai (Fo a0 a1) m) y1 x13 = some o1 -> Jn K12 [(0, nI a0), (1, dL Aw a1), (15, dL Aw a1), (16, nI (List.length a1 : Int)), (17, nI y1), (44, .bool x13)] := by
     intro x13 h σ' hk
     unfold Dq at h
     refine hK12 _ (lh hk rfl ?_)
     rcases Ab h with ⟨g14, h⟩ | ⟨g14, h⟩
     ·exact qT rfl g14 (rn 1 rfl (Af ((by cases h; cases hr1; exact ⟨.inl rfl, rfl⟩))))
     ·exact qF rfl g14 (Ae (hK9 _ (rg (sp 2 rfl (evn (hN _ _ h (okr rfl)))))))
    refine sp 5 rfl (?_)
    rcases Ab h with ⟨g15, h⟩ | ⟨g15, h⟩
    ·exact qg 26 g15 rfl (sp 18 rfl (evn (kJ2 h _ (okr rfl))))
    ·refine qg 26 g15 rfl (sp 1 rfl (?_))
     obtain ⟨v16, g17, h⟩ := Aa h
     refine oGR rfl rfl (qC (qa rfl (erD Ap _) At) (Ic g17) (sp 3 rfl (?_)))
     rcases Ab h with ⟨g18, h⟩ | ⟨g18, h⟩
     ·exact qg 31 g18 rfl (sp 13 rfl (evn (kJ2 h _ (okr rfl))))
     ·refine qg 31 g18 rfl (sp 3 rfl (?_))
      rcases Ab h with ⟨g19, h⟩ | ⟨g19, h⟩
      ·refine qg 34 g19 rfl (sp 3 rfl (?_))
       obtain ⟨e20, g21, h⟩ := Aa h
       refine oGR rfl rfl (qI rfl AX g21 (sp 2 rfl (?_)))
       obtain ⟨v22, g23, h⟩ := Aa h
       exact oGR rfl rfl (qC (qa rfl (erD Ap _) (qa rfl (erD Ap _) At)) (Cb g23) (sp 3 rfl (evn (kJ2 h _ (okr rfl)))))
      ·exact qg 34 g19 rfl (sp 10 rfl (evn (kJ2 h _ (okr rfl))))
   ·exact qF rfl g8 (Al (kXB1 (Option.some.inj h) _ trivial))
def AF (a0 : Y40) : Option (Bool) := Ad (H1 a0.1 a0.2) fun v1 => some v1
theorem AL {a0 : Y40} {r : Bool} (h : AF a0 = some r) : Ah Tryz.prog 75 [.agg (Ek a0)] (.bool r) := by
 unfold AF at h
 refine st jc rfl (rn 1 rfl (rs (sp 4 rfl (?_))))
 obtain ⟨v1, g2, h⟩ := Aa h
 exact qC (qs rfl (qa rfl (erD AJ _) At)) (M6 g2) (sp 1 rfl (evn (Af ((by cases h; exact ⟨.inl rfl, rfl⟩)))))
def AQ (rec : Int -> Option (Sum (Unit) (Bool))) (y1 : Int) (x10 : Bool) : Option (Sum (Unit) (Bool)) := cond x10 (some (.inr false)) (rec (IntKind.i64.wrap (y1 + 1)))
def CC (a0 : List AU) (rec : Int -> Option (Sum (Unit) (Bool))) (y1 : Int) : Option (Sum (Unit) (Bool)) := cond (decide (y1 < (List.length a0 : Int))) (Ad (AA a0 y1) fun e7 => Ad (EQ e7.1) fun v12 => cond (!v12) (AQ rec y1 true) (cond (decide (0 < y1)) (Ad (AA a0 (IntKind.i64.wrap (y1 - 1))) fun e16 => cond (!Op.bytesLess e16.1 e7.1) (AQ rec y1 true) (Ad (AF e7.2) fun v19 => cond (!v19) (AQ rec y1 true) (cond (decide (e7.2.1 < 1)) (AQ rec y1 true) (AQ rec y1 (decide (16 < (List.length e7.2.2 : Int))))))) (Ad (AF e7.2) fun v23 => cond (!v23) (AQ rec y1 true) (cond (decide (e7.2.1 < 1)) (AQ rec y1 true) (AQ rec y1 (decide (16 < (List.length e7.2.2 : Int)))))))) (some (.inl ()))
def Be (a0 : List AU) : Option (Bool) := cond (decide (6 < (List.length a0 : Int))) (some false) (Ad (Ai (CC a0) fz 0) fun o1 => (match o1 with
  | .inl _ => (some true)
  | .inr r => some r))
theorem C3 {a0 : List AU} {r : Bool} (h : Be a0 = some r) : Ah Tryz.prog 40 [.agg [dL AE a0]] (.bool r) := by
 unfold Be at h
 refine st iJ rfl (rn 1 rfl (Ac fun K1 hK1 => rn 1 rfl ?_))
 rcases Ab h with ⟨g2, h⟩ | ⟨g2, h⟩
 ·exact qT rfl g2 (rn 1 rfl (Af ((by cases h; exact ⟨.inl rfl, rfl⟩))))
 ·refine qF rfl g2 (Ae (hK1 _ (Ac fun K3 hK3 => rn 1 rfl ?_)))
  obtain ⟨o1, hl, hr1⟩ := Aa h
  have kXB1 : (.inl ()) = o1 -> Jn K3 [] := by
   intro h σ' hk
   subst h
   replace h := hr1
   try dsimp only at h
   exact hK3 _ (lh hk rfl (rn 1 rfl (Af ((by cases h; exact ⟨.inl rfl, rfl⟩)))))
  refine As (fun (y1 : Int) => [(1, .box [dL AE a0]), (10, dL AE a0), (11, nI (List.length a0 : Int)), (12, nI y1)]) _ _ _ _ hl (okr rfl) (fun _ => rfl) ?_
  rintro m y1 N h hN
  unfold CC at h
  refine rn 1 rfl (Ac fun K4 hK4 => ?_)
  rcases Ab h with ⟨g5, h⟩ | ⟨g5, h⟩
  ·refine qT rfl g5 (Ae (hK4 _ (Ac fun K6 hK6 => Aq (rs (sp 1 rfl (?_))))))
   obtain ⟨e7, g8, h⟩ := Aa h
   refine qI rfl C2 g8 (sp 4 rfl (evn (rdk (by kernel_rfl) fun K9 hK9 => ?_)))
   have kJ2 : ∀ {x10 : Bool}, AQ (Ai (CC a0) m) y1 x10 = some o1 -> Jn K9 [(1, .box [dL AE a0]), (10, dL AE a0), (11, nI (List.length a0 : Int)), (12, nI y1), (55, .bool x10)] := by
    intro x10 h σ' hk
    unfold AQ at h
    refine hK9 _ (lh hk rfl ?_)
    rcases Ab h with ⟨g11, h⟩ | ⟨g11, h⟩
    ·exact qT rfl g11 (rn 1 rfl (Af ((by cases h; cases hr1; exact ⟨.inl rfl, rfl⟩))))
    ·exact qF rfl g11 (Ae (hK6 _ (rg (sp 2 rfl (evn (hN _ _ h (okr rfl)))))))
   refine sd 2 rfl (?_)
   obtain ⟨v12, g13, h⟩ := Aa h
   refine ed rfl (qC (qs rfl At) (I9 g13) (sd 2 rfl (?_)))
   rcases Ab h with ⟨g14, h⟩ | ⟨g14, h⟩
   ·exact qgd 21 g14 rfl (sd 34 rfl (Cy (kJ2 h _ (okr rfl))))
   ·refine qgd 21 g14 rfl (sd 3 rfl (?_))
    rcases Ab h with ⟨g15, h⟩ | ⟨g15, h⟩
    ·refine qgd 24 g15 rfl (sd 4 rfl (?_))
     obtain ⟨e16, g17, h⟩ := Aa h
     refine ed rfl (oGR rfl rfl (qI rfl C2 g17 (sd 8 rfl (?_))))
     rcases Ab h with ⟨g18, h⟩ | ⟨g18, h⟩
     ·exact qgd 37 g18 rfl (sd 18 rfl (Cy (kJ2 h _ (okr rfl))))
     ·refine qgd 37 g18 rfl (sd 2 rfl (?_))
      obtain ⟨v19, g20, h⟩ := Aa h
      refine ed rfl (oGR rfl rfl (qC (qa rfl (erg (erc rfl (erc (erD AJ _) rfl))) At) (AL g20) (sd 3 rfl (?_))))
      rcases Ab h with ⟨g21, h⟩ | ⟨g21, h⟩
      ·exact qgd 43 g21 rfl (sd 12 rfl (Cy (kJ2 h _ (okr rfl))))
      ·refine qgd 43 g21 rfl (sd 6 rfl (?_))
       rcases Ab h with ⟨g22, h⟩ | ⟨g22, h⟩
       ·exact qgd 49 g22 rfl (sd 6 rfl (Cy (kJ2 h _ (okr rfl))))
       ·exact qgd 49 g22 rfl (sd 6 rfl (Cy (kJ2 h _ (okr rfl))))
    ·refine qgd 24 g15 rfl (sd 15 rfl (?_))
     obtain ⟨v23, g24, h⟩ := Aa h
     refine ed rfl (oGR rfl rfl (qC (qa rfl (erg (erc rfl (erc (erD AJ _) rfl))) At) (AL g24) (sd 3 rfl (?_))))
     rcases Ab h with ⟨g25, h⟩ | ⟨g25, h⟩
     ·exact qgd 43 g25 rfl (sd 12 rfl (Cy (kJ2 h _ (okr rfl))))
     ·refine qgd 43 g25 rfl (sd 6 rfl (?_))
      rcases Ab h with ⟨g26, h⟩ | ⟨g26, h⟩
      ·exact qgd 49 g26 rfl (sd 6 rfl (Cy (kJ2 h _ (okr rfl))))
      ·exact qgd 49 g26 rfl (sd 6 rfl (Cy (kJ2 h _ (okr rfl))))
  ·exact qF rfl g5 (Al (kXB1 (Option.some.inj h) _ trivial))
def EG (a0 : Y25) (rec : Int -> Option (Sum (Unit) (Bool))) (y1 : Int) : Option (Sum (Unit) (Bool)) := cond (decide (y1 < (List.length a0.2 : Int))) (Ad (AA a0.2 y1) fun e12 => Ad (Be e12) fun v14 => cond (!v14) (some (.inr false)) (rec (IntKind.i64.wrap (y1 + 1)))) (some (.inl ()))
def BL (a0 : Y25) : Option (Bool) := Ad (Cp (List.length a0.2 : Int) 1 6) fun v2 => cond (!v2) (some false) (Ad (Cp a0.1 1 (IntKind.i64.wrap ((IntKind.i64.wrap (99 - (List.length a0.2 : Int))) + 1))) fun v5 => cond (!v5) (some false) (Ad (Ai (EG a0) fz 0) fun o1 => (match o1 with
  | .inl _ => (some true)
  | .inr r => some r)))
theorem E1 {a0 : Y25} {r : Bool} (h : BL a0 = some r) : Ah Tryz.prog 10 [.agg (C1 a0)] (.bool r) := by
 unfold BL at h
 refine st io rfl (rn 2 rfl (Ac fun K1 hK1 => rs (sp 1 rfl (?_))))
 obtain ⟨v2, g3, h⟩ := Aa h
 refine qC (qs rfl (qs rfl (qs rfl At))) (CE g3) (sp 2 rfl (?_))
 rcases Ab h with ⟨g4, h⟩ | ⟨g4, h⟩
 ·exact qg 12 g4 rfl (sp 8 rfl (evn (qT rfl rfl (rn 1 rfl (Af ((by cases h; exact ⟨.inl rfl, rfl⟩)))))))
 ·refine qg 12 g4 rfl (sp 5 rfl (?_))
  obtain ⟨v5, g6, h⟩ := Aa h
  refine oGR rfl rfl (qC (qs rfl (qs rfl (qs rfl At))) (CE g6) (sp 2 rfl (evn ?_)))
  rcases Ab h with ⟨g7, h⟩ | ⟨g7, h⟩
  ·exact qT rfl g7 (rn 1 rfl (qk [2] rfl (Af ((by cases h; exact ⟨.inl rfl, rfl⟩)))))
  ·refine qF rfl g7 (Ae (hK1 _ (Ac fun K8 hK8 => rn 1 rfl ?_)))
   obtain ⟨o1, hl, hr1⟩ := Aa h
   have kXB1 : (.inl ()) = o1 -> Jn K8 [] := by
    intro h σ' hk
    subst h
    replace h := hr1
    try dsimp only at h
    exact hK8 _ (lh hk rfl (rn 1 rfl (Af ((by cases h; exact ⟨.inl rfl, rfl⟩)))))
   refine As (fun (y1 : Int) => [(22, dL HB a0.2), (23, nI (List.length a0.2 : Int)), (24, nI y1)]) _ _ _ _ hl (okr rfl) (fun _ => rfl) ?_
   rintro m y1 N h hN
   unfold EG at h
   refine rn 1 rfl (Ac fun K9 hK9 => ?_)
   rcases Ab h with ⟨g10, h⟩ | ⟨g10, h⟩
   ·refine qT rfl g10 (Ae (hK9 _ (Ac fun K11 hK11 => Aq (rs ?_))))
    obtain ⟨e12, g13, h⟩ := Aa h
    refine qI rfl HU g13 (sp 3 rfl (evn (rs (sp 1 rfl (?_)))))
    obtain ⟨v14, g15, h⟩ := Aa h
    refine qC (qa rfl (erg (erc (erD AP _) rfl)) At) (C3 g15) (sp 1 rfl (evn ?_))
    rcases Ab h with ⟨g16, h⟩ | ⟨g16, h⟩
    ·exact qT rfl g16 (rn 1 rfl (Af ((by cases h; cases hr1; exact ⟨.inl rfl, rfl⟩))))
    ·exact qF rfl g16 (Ae (hK11 _ (rg (sp 2 rfl (evn (hN _ _ h (okr rfl)))))))
   ·exact qF rfl g10 (Al (kXB1 (Option.some.inj h) _ trivial))
def Hk (a0 : List (List Int)) (rec : ((List (List Int)) × Int) -> Option ((List (List Int)))) (s : (List (List Int)) × Int) : Option ((List (List Int))) := match s with
  | (y1, y2) => cond (decide (y2 < (List.length a0 : Int))) (Ad (AA a0 y2) fun e6 => Ad (BG e6) fun v8 => chk (List.length y1 + List.length [v8] <= lim) (rec ((y1 ++ [v8]), (IntKind.i64.wrap (y2 + 1))))) (some y1)
def FN (a0 : List (List Int)) : Option ((List (List Int))) := Ad (Ai (Hk a0) fz (([] : List (List Int)), 0)) fun z2 => some z2
theorem IV {a0 : List (List Int)} {r : (List (List Int))} (h : FN a0 = some r) : Ah Tryz.prog 122 [dL Aw a0] (oL 27 Aj r) := by
 unfold FN at h
 refine st cg rfl (rn 2 rfl (Ac fun K1 hK1 => rn 1 rfl ?_))
 obtain ⟨o1, hl, hr1⟩ := Aa h
 have kXB1 : ∀ {z2 : List (List Int)}, z2 = o1 -> Jn K1 [(3, oL 27 Aj z2)] := by
  intro z2 h σ' hk
  subst h
  replace h := hr1
  try dsimp only at h
  exact hK1 _ (lh hk rfl (rn 1 rfl (Af ((by cases h; exact ⟨.inl rfl, rfl⟩)))))
 refine As (fun (s : (List (List Int)) × Int) => match s with | (y1, y2) => [(3, oL 27 Aj y1), (6, dL Aw a0), (7, nI (List.length a0 : Int)), (8, nI y2)]) _ _ _ _ hl (okr rfl) (fun _ => rfl) ?_
 rintro m ⟨y1, y2⟩ N h hN
 unfold Hk at h
 dsimp only at h
 refine rn 1 rfl (Ac fun K3 hK3 => ?_)
 rcases Ab h with ⟨g4, h⟩ | ⟨g4, h⟩
 ·refine qT rfl g4 (Ae (hK3 _ (Ac fun K5 hK5 => Aq (rs ?_))))
  obtain ⟨e6, g7, h⟩ := Aa h
  refine qI rfl AX g7 (sp 2 rfl (evn (rg (sp 2 rfl (?_)))))
  obtain ⟨v8, g9, h⟩ := Aa h
  refine qC (qa rfl (erD Ap _) At) (Cg g9) (qBs Aj [v8] rfl rfl rfl AZ (?_))
  obtain ⟨g10, h⟩ := Ag h
  exact qA Aj y1 [v8] rfl rfl (Ao AZ [v8]) rfl g10 (sp 1 rfl (evn (hK5 _ (rg (sp 2 rfl (evn (hN _ _ h (okr rfl))))))))
 ·exact qF rfl g4 (Al (kXB1 (Option.some.inj h) _ (okr rfl)))
def Dn (a0 : Y40) : Option (Y40) := Ad (FN a0.2) fun v1 => some (a0.1, v1)
theorem Hn {a0 : Y40} {r : Y40} (h : Dn a0 = some r) : Ah Tryz.prog 104 [.agg (Ek a0)] (.agg (Ht r)) := by
 unfold Dn at h
 refine st bP rfl (rn 1 rfl (rd (by kernel_rfl) (sd 4 rfl (?_))))
 obtain ⟨v1, g2, h⟩ := Aa h
 exact ed rfl (qC (qa rfl (erD AJ _) At) (IV g2) (sd 2 rfl (Cy (Af ((by cases h; exact ⟨.inl rfl, rfl⟩))))))
def Fj (a0 : List AU) (rec : ((List AU) × Int) -> Option ((List AU))) (s : (List AU) × Int) : Option ((List AU)) := match s with
  | (y1, y2) => cond (decide (y2 < (List.length a0 : Int))) (Ad (AA a0 y2) fun e6 => Ad (Dn e6.2) fun v8 => chk (List.length y1 + List.length [(e6.1, v8)] <= lim) (rec ((y1 ++ [(e6.1, v8)]), (IntKind.i64.wrap (y2 + 1))))) (some y1)
def Bi (a0 : List AU) : Option ((List AU)) := Ad (Ai (Fj a0) fz (([] : List AU), 0)) fun z2 => some z2
theorem Co {a0 : List AU} {r : (List AU)} (h : Bi a0 = some r) : Ah Tryz.prog 68 [.agg [dL AE a0]] (.agg [oL 114 AO r]) := by
 unfold Bi at h
 refine st i0 rfl (rn 2 rfl (Ac fun K1 hK1 => rn 1 rfl ?_))
 obtain ⟨o1, hl, hr1⟩ := Aa h
 have kXB1 : ∀ {z2 : List AU}, z2 = o1 -> Jn K1 [(2, .box [oL 114 AO []]), (3, .box [oL 114 AO z2])] := by
  intro z2 h σ' hk
  subst h
  replace h := hr1
  try dsimp only at h
  exact hK1 _ (lh hk rfl (rn 1 rfl (Af ((by cases h; exact ⟨.inl rfl, rfl⟩)))))
 refine As (fun (s : (List AU) × Int) => match s with | (y1, y2) => [(2, .box [oL 114 AO []]), (3, .box [oL 114 AO y1]), (7, dL AE a0), (8, nI (List.length a0 : Int)), (9, nI y2)]) _ _ _ _ hl (okr rfl) (fun _ => rfl) ?_
 rintro m ⟨y1, y2⟩ N h hN
 unfold Fj at h
 dsimp only at h
 refine rn 1 rfl (Ac fun K3 hK3 => ?_)
 rcases Ab h with ⟨g4, h⟩ | ⟨g4, h⟩
 ·refine qT rfl g4 (Ae (hK3 _ (Ac fun K5 hK5 => Aq (rs ?_))))
  obtain ⟨e6, g7, h⟩ := Aa h
  refine qI rfl C2 g7 (sp 3 rfl (evn (rgd (by kernel_rfl) (sd 6 rfl (?_)))))
  obtain ⟨v8, g9, h⟩ := Aa h
  refine ed rfl (qC (qa rfl (erg (erc rfl (erc (erD AJ _) rfl))) At) (Hn g9) (sd 1 rfl (ed rfl (qBs AO [(e6.1, v8)] rfl rfl rfl Ea (?_)))))
  obtain ⟨g10, h⟩ := Ag h
  exact ed rfl (qA AO y1 [(e6.1, v8)] rfl rfl (Ao Ea [(e6.1, v8)]) rfl g10 (sd 2 rfl (Cy (hK5 _ (rg (sp 2 rfl (evn (hN _ _ h (okr rfl)))))))))
 ·exact qF rfl g4 (Al (kXB1 (Option.some.inj h) _ (okr rfl)))
def Gv (a0 : Y25) (a1 : Int) : Option ((List AU) × Bool) := Ad (BL a0) fun v2 => cond (!v2) (some ([], false)) (Ad (Cp a1 a0.1 (IntKind.i64.wrap ((IntKind.i64.wrap (a0.1 + (List.length a0.2 : Int))) - 1))) fun v5 => cond (!v5) (some ([], false)) (Ad (AA a0.2 (IntKind.i64.wrap (a1 - a0.1))) fun e8 => Ad (Bi e8) fun v10 => some (v10, true)))
theorem MB {a0 : Y25} {a1 : Int} {r : (List AU) × Bool} (h : Gv a0 a1 = some r) : Ah Tryz.prog 34 [.agg (C1 a0), nI a1] (.tup [.agg [oL 114 AO r.1], .bool r.2]) := by
 unfold Gv at h
 refine st iD rfl (rn 1 rfl (Ac fun K1 hK1 => rs (sp 1 rfl (?_))))
 obtain ⟨v2, g3, h⟩ := Aa h
 refine qC (qa rfl (erg (erc rfl (erc (erD Gb _) rfl))) At) (E1 g3) (sp 2 rfl (?_))
 rcases Ab h with ⟨g4, h⟩ | ⟨g4, h⟩
 ·exact qg 9 g4 rfl (sp 13 rfl (evn (qT rfl rfl (rn 1 rfl (Af ((by cases h; exact ⟨.inl rfl, rfl⟩)))))))
 ·refine qg 9 g4 rfl (sp 10 rfl (?_))
  obtain ⟨v5, g6, h⟩ := Aa h
  refine oGR rfl rfl (qC (qs rfl (qs rfl (qs rfl At))) (CE g6) (sp 2 rfl (evn (qk [1, 2, 4, 22] rfl ?_))))
  rcases Ab h with ⟨g7, h⟩ | ⟨g7, h⟩
  ·exact qT rfl g7 (rn 1 rfl (Af ((by cases h; exact ⟨.inl rfl, rfl⟩))))
  ·refine qF rfl g7 (Ae (hK1 _ (rs (sp 6 rfl (?_)))))
   obtain ⟨e8, g9, h⟩ := Aa h
   refine qI rfl HU g9 (sp 1 rfl (?_))
   obtain ⟨v10, g11, h⟩ := Aa h
   exact qC (qa rfl (erg (erc (erD AP _) rfl)) At) (Co g11) (sp 2 rfl (evn (Af ((by cases h; exact ⟨.inl rfl, rfl⟩)))))
def C5  : Option (Y40 × Bool) := some ((0, []), false)
def EH (a0 : List AU) (a1 : List UInt8) (rec : Int -> Option (Sum (Unit) (Y40 × Bool))) (y2 : Int) : Option (Sum (Unit) (Y40 × Bool)) := cond (decide (y2 < (List.length a0 : Int))) (Ad (AA a0 y2) fun e8 => cond (e8.1 == a1) (Ad (Dn e8.2) fun v11 => some (.inr (v11, true))) (rec (IntKind.i64.wrap (y2 + 1)))) (some (.inl ()))
def BM (a0 : List AU) (a1 : List UInt8) : Option (Y40 × Bool) := Ad (Be a0) fun v2 => cond v2 (Ad (Ai (EH a0 a1) fz 0) fun o2 => (match o2 with
  | .inl _ => (C5 )
  | .inr r => some r)) (C5 )
theorem E2 {a0 : List AU} {a1 : List UInt8} {r : Y40 × Bool} (h : BM a0 a1 = some r) : Ah Tryz.prog 84 [.agg [dL AE a0], .str a1] (.tup [.agg (Ht r.1), .bool r.2]) := by
 unfold BM at h
 refine st jl rfl (rn 1 rfl (Ac fun K1 hK1 => rs (sp 1 rfl (?_))))
 obtain ⟨v2, g3, h⟩ := Aa h
 refine qC (qa rfl (erg (erc (erD AP _) rfl)) At) (C3 g3) (evn ?_)
 have kJ1 : C5 = some r -> Jn K1 [(4, .box [nI 0, oL 27 Aj []])] := by
  intro h σ' hk
  unfold C5 at h
  exact hK1 _ (lh hk rfl (rn 1 rfl (Af ((by cases h; exact ⟨.inl rfl, rfl⟩)))))
 rcases Ab h with ⟨g4, h⟩ | ⟨g4, h⟩
 ·refine qT rfl g4 (rn 1 rfl ?_)
  obtain ⟨o2, hl, hr2⟩ := Aa h
  have kXB2 : (.inl ()) = o2 -> Jn K1 [(4, .box [nI 0, oL 27 Aj []])] := by
   intro h σ' hk
   subst h
   replace h := hr2
   try dsimp only at h
   exact kJ1 h _ ⟨hk.1, trivial⟩
  refine As (fun (y2 : Int) => [(1, .str a1), (4, .box [nI 0, oL 27 Aj []]), (11, dL AE a0), (12, nI (List.length a0 : Int)), (13, nI y2)]) _ _ _ _ hl (okr rfl) (fun _ => rfl) ?_
  rintro m y2 N h hN
  unfold EH at h
  refine rn 1 rfl (Ac fun K5 hK5 => ?_)
  rcases Ab h with ⟨g6, h⟩ | ⟨g6, h⟩
  ·refine qT rfl g6 (Ae (hK5 _ (Ac fun K7 hK7 => Aq (rs ?_))))
   obtain ⟨e8, g9, h⟩ := Aa h
   refine qI rfl C2 g9 (sp 3 rfl (evn (rn 1 rfl ?_)))
   rcases Ab h with ⟨g10, h⟩ | ⟨g10, h⟩
   ·refine qT rfl g10 (rs (sp 2 rfl (?_)))
    obtain ⟨v11, g12, h⟩ := Aa h
    exact qC (qa rfl (erg (erc rfl (erc (erD AJ _) rfl))) At) (Hn g12) (sp 2 rfl (evn (Af ((by cases h; cases hr2; exact ⟨.inl rfl, rfl⟩)))))
   ·exact qF rfl g10 (Ae (hK7 _ (rg (sp 2 rfl (evn (hN _ _ h (okr rfl)))))))
  ·exact qF rfl g6 (Al (kXB2 (Option.some.inj h) _ (okr rfl)))
 ·exact qF rfl g4 (Ae (kJ1 h _ (okr rfl)))
def HE (a0 : List Int) (a1 : Int) (rec : Int -> Option (Sum (Unit) (Int))) (y1 : Int) : Option (Sum (Unit) (Int)) := cond (decide (y1 < (List.length a0 : Int))) (Ad (AA a0 y1) fun e5 => cond (e5 == a1) (some (.inr y1)) (rec (IntKind.i64.wrap (y1 + 1)))) (some (.inl ()))
def Gy (a0 : List Int) (a1 : Int) : Option (Int) := Ad (Ai (HE a0 a1) fz 0) fun o1 => (match o1 with
  | .inl _ => (some (-1))
  | .inr r => some r)
theorem Jr {a0 : List Int} {a1 : Int} {r : Int} (h : Gy a0 a1 = some r) : Ah Tryz.prog 171 [dL An a0, nI a1] (nI r) := by
 unfold Gy at h
 refine st cZ rfl (rn 1 rfl (Ac fun K1 hK1 => rn 1 rfl ?_))
 obtain ⟨o1, hl, hr1⟩ := Aa h
 have kXB1 : (.inl ()) = o1 -> Jn K1 [] := by
  intro h σ' hk
  subst h
  replace h := hr1
  try dsimp only at h
  exact hK1 _ (lh hk rfl (rn 1 rfl (Af ((by cases h; exact ⟨.inl rfl, rfl⟩)))))
 refine As (fun (y1 : Int) => [(1, nI a1), (7, dL An a0), (8, nI (List.length a0 : Int)), (9, nI y1)]) _ _ _ _ hl (okr rfl) (fun _ => rfl) ?_
 rintro m y1 N h hN
 unfold HE at h
 refine rn 1 rfl (Ac fun K2 hK2 => ?_)
 rcases Ab h with ⟨g3, h⟩ | ⟨g3, h⟩
 ·refine qT rfl g3 (Ae (hK2 _ (Ac fun K4 hK4 => Aq (rs (sp 1 rfl (?_))))))
  obtain ⟨e5, g6, h⟩ := Aa h
  refine qI rfl Ar g6 (sp 3 rfl (evn (rn 1 rfl ?_)))
  rcases Ab h with ⟨g7, h⟩ | ⟨g7, h⟩
  ·exact qT rfl g7 (rn 1 rfl (Af ((by cases h; cases hr1; exact ⟨.inl rfl, rfl⟩))))
  ·exact qF rfl g7 (Ae (hK4 _ (rg (sp 2 rfl (evn (hN _ _ h (okr rfl)))))))
 ·exact qF rfl g3 (Al (kXB1 (Option.some.inj h) _ trivial))
def Ho (a0 : List Int) (a1 : Int) : Option (Bool) := Ad (Gy a0 a1) fun v1 => some (decide (0 <= v1))
theorem JW {a0 : List Int} {a1 : Int} {r : Bool} (h : Ho a0 a1 = some r) : Ah Tryz.prog 173 [dL An a0, nI a1] (.bool r) := by
 unfold Ho at h
 refine st c7 rfl (rn 1 rfl (rs (sp 2 rfl (?_))))
 obtain ⟨v1, g2, h⟩ := Aa h
 exact qC (qa rfl (erD Ap _) (qs rfl At)) (Jr g2) (sp 2 rfl (evn (Af ((by cases h; exact ⟨.inl rfl, rfl⟩)))))
def HF (a0 : List Int) (a1 : Int) (rec : Int -> Option (Sum (Unit) (Bool))) (y1 : Int) : Option (Sum (Unit) (Bool)) := cond (decide (y1 < (List.length a0 : Int))) (Ad (AA a0 y1) fun e5 => Ad (Cp e5 0 (IntKind.i64.wrap (a1 - 1))) fun v7 => cond (!v7) (some (.inr false)) (chk ((0 : Int) <= 0 ∧ 0 <= y1 ∧ y1 <= (List.length a0 : Int)) (Ad (Ho (A7 a0 0 y1) e5) fun v11 => cond v11 (some (.inr false)) (rec (IntKind.i64.wrap (y1 + 1)))))) (some (.inl ()))
def Gz (a0 : List Int) (a1 : Int) : Option (Bool) := Ad (Ai (HF a0 a1) fz 0) fun o1 => (match o1 with
  | .inl _ => (some true)
  | .inr r => some r)
theorem Js {a0 : List Int} {a1 : Int} {r : Bool} (h : Gz a0 a1 = some r) : Ah Tryz.prog 166 [dL An a0, nI a1] (.bool r) := by
 unfold Gz at h
 refine st cT rfl (rn 1 rfl (Ac fun K1 hK1 => rn 1 rfl ?_))
 obtain ⟨o1, hl, hr1⟩ := Aa h
 have kXB1 : (.inl ()) = o1 -> Jn K1 [] := by
  intro h σ' hk
  subst h
  replace h := hr1
  try dsimp only at h
  exact hK1 _ (lh hk rfl (rn 1 rfl (Af ((by cases h; exact ⟨.inl rfl, rfl⟩)))))
 refine As (fun (y1 : Int) => [(0, dL An a0), (1, nI a1), (7, dL An a0), (8, nI (List.length a0 : Int)), (9, nI y1)]) _ _ _ _ hl (okr rfl) (fun _ => rfl) ?_
 rintro m y1 N h hN
 unfold HF at h
 refine rn 1 rfl (Ac fun K2 hK2 => ?_)
 rcases Ab h with ⟨g3, h⟩ | ⟨g3, h⟩
 ·refine qT rfl g3 (Ae (hK2 _ (Ac fun K4 hK4 => Aq (rs (sp 1 rfl (?_))))))
  obtain ⟨e5, g6, h⟩ := Aa h
  refine qI rfl Ar g6 (sp 3 rfl (evn (rs (sp 3 rfl (?_)))))
  obtain ⟨v7, g8, h⟩ := Aa h
  refine qC (qs rfl (qs rfl (qs rfl At))) (CE g8) (sp 2 rfl (?_))
  rcases Ab h with ⟨g9, h⟩ | ⟨g9, h⟩
  ·exact qg 19 g9 rfl (sp 6 rfl (evn (qT rfl rfl (rn 1 rfl (Af ((by cases h; cases hr1; exact ⟨.inl rfl, rfl⟩)))))))
  ·refine qg 19 g9 rfl (sp 2 rfl (?_))
   obtain ⟨g10, h⟩ := Ag h
   refine oGR rfl rfl (qSl rfl Ar g10 (sp 1 rfl (?_)))
   obtain ⟨v11, g12, h⟩ := Aa h
   refine oGR rfl rfl (qC (qa rfl (erD Ap _) (qs rfl At)) (JW g12) (sp 1 rfl (evn (qk [0, 1, 7, 8, 9, 25] rfl ?_))))
   rcases Ab h with ⟨g13, h⟩ | ⟨g13, h⟩
   ·exact qT rfl g13 (rn 1 rfl (Af ((by cases h; cases hr1; exact ⟨.inl rfl, rfl⟩))))
   ·exact qF rfl g13 (Ae (hK4 _ (rg (sp 2 rfl (evn (hN _ _ h (okr rfl)))))))
 ·exact qF rfl g3 (Al (kXB1 (Option.some.inj h) _ trivial))
def DY (a0 : Y29) (e17 : Gn) (rec : ((List Bool) × Int) -> Option (Sum ((List Bool)) (Bool))) (s : (List Bool) × Int) : Option (Sum ((List Bool)) (Bool)) := match s with
  | (y7, y8) => cond (decide (y8 < (List.length e17.2 : Int))) (Ad (AA e17.2 y8) fun e30 => Ad (Cp e30 0 (IntKind.i64.wrap (a0.1 - 1))) fun v33 => cond (!v33) (some (.inr false)) (Ad (AA y7 e30) fun e36 => rec ((It y7 e30 true), (IntKind.i64.wrap (y8 + 1))))) (some (.inl y7))
def CO (a0 : Y29) (rec : ((List Bool) × Int) -> Option (Sum ((List Bool)) (Bool))) (s : (List Bool) × Int) : Option (Sum ((List Bool)) (Bool)) := match s with
  | (y3, y4) => cond (decide (y4 < (List.length a0.2.1 : Int))) (Ad (AA a0.2.1 y4) fun e17 => Ad (EQ e17.1) fun v20 => cond (!v20) (some (.inr false)) (Ad (Cp (List.length e17.2 : Int) 1 5) fun v23 => cond (!v23) (some (.inr false)) (Ad (Ai (DY a0 e17) fz (y3, 0)) fun o2 => (match o2 with
  | .inl z26 => (rec (z26, (IntKind.i64.wrap (y4 + 1))))
  | .inr r => some (.inr r))))) (some (.inl y3))
def Fi (z13 : List Bool) (rec : Int -> Option (Sum (Unit) (Bool))) (y9 : Int) : Option (Sum (Unit) (Bool)) := cond (decide (y9 < (List.length z13 : Int))) (Ad (AA z13 y9) fun e42 => cond (!e42) (some (.inr false)) (rec (IntKind.i64.wrap (y9 + 1)))) (some (.inl ()))
def Ec (a0 : Y29) : Option (Bool) := Ad (Cp a0.1 1 5) fun v2 => cond (!v2) (some false) (Ad (Cp (List.length a0.2.1 : Int) 1 4) fun v5 => cond (!v5) (some false) (Ad (Gz a0.2.2 a0.1) fun v8 => cond (!v8) (some false) (chk ((0 : Int) <= a0.1 ∧ Int.toNat a0.1 <= lim) (Ad (Ai (CO a0) fz ((List.replicate (Int.toNat a0.1) (false : Bool)), 0)) fun o1 => (match o1 with
  | .inl z13 => (Ad (Ai (Fi z13) fz 0) fun o3 => (match o3 with
  | .inl _ => (some true)
  | .inr r => some r))
  | .inr r => some r)))))
theorem IU {a0 : Y29} {r : Bool} (h : Ec a0 = some r) : Ah Tryz.prog 165 [.agg (CZ a0)] (.bool r) := by
 unfold Ec at h
 refine st cS rfl (rn 2 rfl (Ac fun K1 hK1 => rs (sp 1 rfl (?_))))
 obtain ⟨v2, g3, h⟩ := Aa h
 refine qC (qs rfl (qs rfl (qs rfl At))) (CE g3) (sp 2 rfl (?_))
 rcases Ab h with ⟨g4, h⟩ | ⟨g4, h⟩
 ·exact qg 16 g4 rfl (sp 13 rfl (evn (qT rfl rfl (rn 1 rfl (Af ((by cases h; exact ⟨.inl rfl, rfl⟩)))))))
 ·refine qg 16 g4 rfl (sp 3 rfl (?_))
  obtain ⟨v5, g6, h⟩ := Aa h
  refine oGR rfl rfl (qC (qs rfl (qs rfl (qs rfl At))) (CE g6) (sp 3 rfl (?_)))
  rcases Ab h with ⟨g7, h⟩ | ⟨g7, h⟩
  ·exact qg 23 g7 rfl (sp 6 rfl (evn (qk [1, 3, 29] rfl (qT rfl rfl (rn 1 rfl (Af ((by cases h; exact ⟨.inl rfl, rfl⟩))))))))
  ·refine qg 23 g7 rfl (sp 3 rfl (?_))
   obtain ⟨v8, g9, h⟩ := Aa h
   refine oGR rfl rfl (qC (qa rfl (erD Ap _) (qs rfl At)) (Js g9) (sp 2 rfl (evn ?_)))
   rcases Ab h with ⟨g10, h⟩ | ⟨g10, h⟩
   ·exact qT rfl g10 (rn 1 rfl (Af ((by cases h; exact ⟨.inl rfl, rfl⟩))))
   ·refine qF rfl g10 (Ae (hK1 _ (rs (sp 1 rfl (?_)))))
    obtain ⟨g11, h⟩ := Ag h
    refine qMu cbl (false : Bool) rfl rfl rfl rfl g11 rfl (qAu rfl rfl rfl rfl (evn (Ac fun K12 hK12 => rn 1 rfl ?_)))
    obtain ⟨o1, hl, hr1⟩ := Aa h
    have kXB1 : ∀ {z13 : List Bool}, (.inl z13) = o1 -> Jn K12 [(4, wL 4 cbl z13)] := by
     intro z13 h σ' hk
     subst h
     replace h := hr1
     try dsimp only at h
     refine hK12 _ (lh hk rfl (Ac fun K38 hK38 => rn 1 rfl ?_))
     obtain ⟨o3, hl, hr3⟩ := Aa h
     have kXB3 : (.inl ()) = o3 -> Jn K38 [] := by
      intro h σ' hk
      subst h
      replace h := hr3
      try dsimp only at h
      exact hK38 _ (lh hk rfl (rn 1 rfl (Af ((by cases h; exact ⟨.inl rfl, rfl⟩)))))
     refine As (fun (y9 : Int) => [(4, wL 4 cbl z13), (67, .same 4), (68, nI (List.length z13 : Int)), (69, nI y9)]) _ _ _ _ hl (okr rfl) (fun _ => rfl) ?_
     rintro m y9 N h hN
     unfold Fi at h
     refine rn 1 rfl (Ac fun K39 hK39 => ?_)
     rcases Ab h with ⟨g40, h⟩ | ⟨g40, h⟩
     ·refine qT rfl g40 (Ae (hK39 _ (Ac fun K41 hK41 => Aq (rs ?_))))
      obtain ⟨e42, g43, h⟩ := Aa h
      refine qIu rfl ⟨(Az g43).1, (Az g43).2.1⟩ (qLu 0 rfl rfl rfl kl g43 rfl rfl rfl (sp 1 rfl (evn (rn 1 rfl ?_))))
      rcases Ab h with ⟨g44, h⟩ | ⟨g44, h⟩
      ·exact qT rfl g44 (rn 1 rfl (Af ((by cases h; cases hr3; exact ⟨.inl rfl, rfl⟩))))
      ·exact qF rfl g44 (Ae (hK41 _ (rg (sp 2 rfl (evn (hN _ _ h (okr rfl)))))))
     ·exact qF rfl g40 (Al (kXB3 (Option.some.inj h) _ trivial))
    refine As (fun (s : (List Bool) × Int) => match s with | (y3, y4) => [(3, nI a0.1), (4, wL 4 cbl y3), (33, dL Bt a0.2.1), (34, nI (List.length a0.2.1 : Int)), (35, nI y4)]) _ _ _ _ hl (okr rfl) (fun _ => rfl) ?_
    rintro m ⟨y3, y4⟩ N h hN
    unfold CO at h
    dsimp only at h
    refine rn 1 rfl (Ac fun K14 hK14 => ?_)
    rcases Ab h with ⟨g15, h⟩ | ⟨g15, h⟩
    ·refine qT rfl g15 (Ae (hK14 _ (Ac fun K16 hK16 => Aq (rs ?_))))
     obtain ⟨e17, g18, h⟩ := Aa h
     refine qI rfl FG g18 (sp 3 rfl (evn (Ac fun K19 hK19 => rs (sp 2 rfl (?_)))))
     obtain ⟨v20, g21, h⟩ := Aa h
     refine qC (qs rfl At) (I9 g21) (sp 2 rfl (?_))
     rcases Ab h with ⟨g22, h⟩ | ⟨g22, h⟩
     ·exact qg 43 g22 rfl (sp 6 rfl (evn (qT rfl rfl (rn 1 rfl (Af ((by cases h; cases hr1; exact ⟨.inl rfl, rfl⟩)))))))
     ·refine qg 43 g22 rfl (sp 3 rfl (?_))
      obtain ⟨v23, g24, h⟩ := Aa h
      refine oGR rfl rfl (qC (qs rfl (qs rfl (qs rfl At))) (CE g24) (sp 2 rfl (evn (qk [3, 4, 6, 33, 34, 35, 49] rfl ?_))))
      rcases Ab h with ⟨g25, h⟩ | ⟨g25, h⟩
      ·exact qT rfl g25 (rn 1 rfl (Af ((by cases h; cases hr1; exact ⟨.inl rfl, rfl⟩))))
      ·refine qF rfl g25 (Ae (hK19 _ (rn 1 rfl ?_)))
       obtain ⟨o2, hl, hr2⟩ := Aa h
       have kXB2 : ∀ {z26 : List Bool}, (.inl z26) = o2 -> Jn K16 [(3, nI a0.1), (4, wL 4 cbl z26), (33, dL Bt a0.2.1), (34, nI (List.length a0.2.1 : Int)), (35, nI y4)] := by
        intro z26 h σ' hk
        subst h
        replace h := hr2
        try dsimp only at h
        exact hK16 _ (lh hk rfl (rg (sp 2 rfl (evn (hN _ _ h (okr rfl))))))
       refine As (fun (s : (List Bool) × Int) => match s with | (y7, y8) => [(3, nI a0.1), (4, wL 4 cbl y7), (33, dL Bt a0.2.1), (34, nI (List.length a0.2.1 : Int)), (35, nI y4), (51, dL An e17.2), (52, nI (List.length e17.2 : Int)), (53, nI y8)]) _ _ _ _ hl (okr rfl) (fun _ => rfl) ?_
       rintro m ⟨y7, y8⟩ N h hN
       unfold DY at h
       dsimp only at h
       refine rn 1 rfl (Ac fun K27 hK27 => ?_)
       rcases Ab h with ⟨g28, h⟩ | ⟨g28, h⟩
       ·refine qT rfl g28 (Ae (hK27 _ (Ac fun K29 hK29 => Aq (rs ?_))))
        obtain ⟨e30, g31, h⟩ := Aa h
        refine qI rfl Ar g31 (sp 2 rfl (evn (Ac fun K32 hK32 => rs (sp 3 rfl (?_)))))
        obtain ⟨v33, g34, h⟩ := Aa h
        refine qC (qs rfl (qs rfl (qs rfl At))) (CE g34) (sp 1 rfl (evn ?_))
        rcases Ab h with ⟨g35, h⟩ | ⟨g35, h⟩
        ·exact qT rfl g35 (rn 1 rfl (Af ((by cases h; cases hr2; cases hr1; exact ⟨.inl rfl, rfl⟩))))
        ·refine qF rfl g35 (Ae (hK32 _ (rg (sp 2 rfl (?_)))))
         obtain ⟨e36, g37, h⟩ := Aa h
         exact qIu rfl ⟨(Az g37).1, (Az g37).2.1⟩ (qSu true rfl rfl kl ⟨(Az g37).1, (Az g37).2.1⟩ rfl rfl rfl rfl rfl rfl (evn (hK29 _ (rg (sp 2 rfl (evn (hN _ _ h (okr rfl))))))))
       ·exact qF rfl g28 (Al (kXB2 (Option.some.inj h) _ (okr rfl)))
    ·exact qF rfl g15 (Al (kXB1 (Option.some.inj h) _ (okr rfl)))
def Gg (a0 : List AU) (a1 : Y29) (rec : Int -> Option (Sum (Unit) (Bool))) (y1 : Int) : Option (Sum (Unit) (Bool)) := cond (decide (y1 < (List.length a1.2.1 : Int))) (Ad (AA a1.2.1 y1) fun e12 => Ad (BM a0 e12.1) fun v14 => cond (!v14.2) (some (.inr false)) (cond (v14.1.1 != (List.length e12.2 : Int)) (some (.inr false)) (rec (IntKind.i64.wrap (y1 + 1))))) (some (.inl ()))
def Gt (a0 : List AU) (a1 : Y29) : Option (Bool) := Ad (Ec a1) fun v2 => cond (!v2) (some false) (Ad (Be a0) fun v5 => cond (!v5) (some false) (Ad (Ai (Gg a0 a1) fz 0) fun o1 => (match o1 with
  | .inl _ => (some true)
  | .inr r => some r)))
theorem MA {a0 : List AU} {a1 : Y29} {r : Bool} (h : Gt a0 a1 = some r) : Ah Tryz.prog 143 [.agg [dL AE a0], .agg (CZ a1)] (.bool r) := by
 unfold Gt at h
 refine st cz rfl (rn 1 rfl (Ac fun K1 hK1 => rs (sp 1 rfl (?_))))
 obtain ⟨v2, g3, h⟩ := Aa h
 refine qC (qa rfl (erg (erc rfl (erc (erD Cn _) (erc (erD Ap _) rfl)))) At) (IU g3) (sp 2 rfl (?_))
 rcases Ab h with ⟨g4, h⟩ | ⟨g4, h⟩
 ·exact qg 12 g4 rfl (sp 4 rfl (evn (qT rfl rfl (rn 1 rfl (Af ((by cases h; exact ⟨.inl rfl, rfl⟩)))))))
 ·refine qg 12 g4 rfl (sp 1 rfl (?_))
  obtain ⟨v5, g6, h⟩ := Aa h
  refine oGR rfl rfl (qC (qa rfl (erg (erc (erD AP _) rfl)) At) (C3 g6) (sp 2 rfl (evn ?_)))
  rcases Ab h with ⟨g7, h⟩ | ⟨g7, h⟩
  ·exact qT rfl g7 (rn 1 rfl (Af ((by cases h; exact ⟨.inl rfl, rfl⟩))))
  ·refine qF rfl g7 (Ae (hK1 _ (Ac fun K8 hK8 => rn 1 rfl (qk [2, 18, 19, 20] rfl ?_))))
   obtain ⟨o1, hl, hr1⟩ := Aa h
   have kXB1 : (.inl ()) = o1 -> Jn K8 [] := by
    intro h σ' hk
    subst h
    replace h := hr1
    try dsimp only at h
    exact hK8 _ (lh hk rfl (rn 1 rfl (Af ((by cases h; exact ⟨.inl rfl, rfl⟩)))))
   refine As (fun (y1 : Int) => [(2, .box [dL AE a0]), (18, dL Bt a1.2.1), (19, nI (List.length a1.2.1 : Int)), (20, nI y1)]) _ _ _ _ hl (okr rfl) (fun _ => rfl) ?_
   rintro m y1 N h hN
   unfold Gg at h
   refine rn 1 rfl (Ac fun K9 hK9 => ?_)
   rcases Ab h with ⟨g10, h⟩ | ⟨g10, h⟩
   ·refine qT rfl g10 (Ae (hK9 _ (Ac fun K11 hK11 => Aq (rs ?_))))
    obtain ⟨e12, g13, h⟩ := Aa h
    refine qI rfl FG g13 (sp 3 rfl (evn (rs (sp 3 rfl (?_)))))
    obtain ⟨v14, g15, h⟩ := Aa h
    refine qC (qa rfl (erg (erc (erD AP _) rfl)) (qs rfl At)) (E2 g15) (sp 6 rfl (evn (rs (sp 3 rfl (?_)))))
    rcases Ab h with ⟨g16, h⟩ | ⟨g16, h⟩
    ·exact qg 33 g16 rfl (sp 7 rfl (evn (qT rfl rfl (rn 1 rfl (qk [4] rfl (Af ((by cases h; cases hr1; exact ⟨.inl rfl, rfl⟩))))))))
    ·refine qg 33 g16 rfl (sp 7 rfl (evn ?_))
     rcases Ab h with ⟨g17, h⟩ | ⟨g17, h⟩
     ·exact qT rfl g17 (rn 1 rfl (Af ((by cases h; cases hr1; exact ⟨.inl rfl, rfl⟩))))
     ·exact qF rfl g17 (Ae (hK11 _ (rg (sp 2 rfl (evn (hN _ _ h (okr rfl)))))))
   ·exact qF rfl g10 (Al (kXB1 (Option.some.inj h) _ trivial))
def CN (x2 : Bool) : Option (Bool) := some x2
def Fm (a0 : Y29) (a1 : List Int) : Option (Bool) := Ad (Ec a0) fun v3 => cond v3 (cond ((List.length a1 : Int) == a0.1) (Ad (Gz a1 a0.1) fun v7 => CN v7) (CN false)) (CN false)
theorem Lq {a0 : Y29} {a1 : List Int} {r : Bool} (h : Fm a0 a1 = some r) : Ah Tryz.prog 144 [.agg (CZ a0), dL An a1] (.bool r) := by
 unfold Fm at h
 refine st cA rfl (rn 1 rfl (rk fun K1 hK1 => ?_))
 have kJ1 : ∀ {x2 : Bool}, CN x2 = some r -> Jn K1 [(4, .bool x2)] := by
  intro x2 h σ' hk
  unfold CN at h
  exact hK1 _ (lh hk rfl (Af ((by cases h; exact ⟨.inl rfl, rfl⟩))))
 refine sp 1 rfl (?_)
 obtain ⟨v3, g4, h⟩ := Aa h
 refine qC (qa rfl (erg (erc rfl (erc (erD Cn _) (erc (erD Ap _) rfl)))) At) (IU g4) (sp 1 rfl (?_))
 rcases Ab h with ⟨g5, h⟩ | ⟨g5, h⟩
 ·refine qg 7 g5 rfl (sp 7 rfl (?_))
  rcases Ab h with ⟨g6, h⟩ | ⟨g6, h⟩
  ·refine qg 14 g6 rfl (sp 3 rfl (?_))
   obtain ⟨v7, g8, h⟩ := Aa h
   exact oGR rfl rfl (qC (qa rfl (erD Ap _) (qs rfl At)) (Js g8) (sp 2 rfl (evn (kJ1 h _ (okr rfl)))))
  ·exact qg 14 g6 rfl (sp 6 rfl (evn (kJ1 h _ (okr rfl))))
 ·exact qg 7 g5 rfl (sp 13 rfl (evn (kJ1 h _ (okr rfl))))
def DD (x2 : Bool) : Option (Bool) := some x2
def Gf (a0 : List Int) : Option (Bool) := cond (decide ((List.length a0 : Int) <= 5)) (Ad (Gz a0 (List.length a0 : Int)) fun v4 => DD v4) (DD false)
theorem La {a0 : List Int} {r : Bool} (h : Gf a0 = some r) : Ah Tryz.prog 167 [dL An a0] (.bool r) := by
 unfold Gf at h
 refine st cU rfl (rn 1 rfl (rk fun K1 hK1 => ?_))
 have kJ1 : ∀ {x2 : Bool}, DD x2 = some r -> Jn K1 [(2, .bool x2)] := by
  intro x2 h σ' hk
  unfold DD at h
  exact hK1 _ (lh hk rfl (Af ((by cases h; exact ⟨.inl rfl, rfl⟩))))
 refine sp 4 rfl (?_)
 rcases Ab h with ⟨g3, h⟩ | ⟨g3, h⟩
 ·refine qg 6 g3 rfl (sp 3 rfl (?_))
  obtain ⟨v4, g5, h⟩ := Aa h
  exact oGR rfl rfl (qC (qa rfl (erD Ap _) (qs rfl At)) (Js g5) (sp 2 rfl (evn (kJ1 h _ (okr rfl)))))
 ·exact qg 6 g3 rfl (sp 6 rfl (evn (kJ1 h _ (okr rfl))))
def Fe (rec : ((List (Nat × (List Int))) × (List (Nat × (List Int))) × (List (Nat × (List Int)))) -> Option ((List (Nat × (List Int))))) (y2 : List (Nat × (List Int))) (x20 : List (Nat × (List Int))) (x24 : List (Nat × (List Int))) : Option ((List (Nat × (List Int)))) := chk ((0 : Int) <= 1 ∧ 1 <= (List.length y2 : Int) ∧ (List.length y2 : Int) <= (List.length y2 : Int)) (rec (x20, (A7 y2 1 (List.length y2 : Int)), x24))
def Dy (rec : ((List (Nat × (List Int))) × (List (Nat × (List Int))) × (List (Nat × (List Int)))) -> Option ((List (Nat × (List Int))))) (y2 : List (Nat × (List Int))) (x18 : Int) (x20 : List (Nat × (List Int))) (x21 : List (Nat × (List Int))) : Option ((List (Nat × (List Int)))) := cond (decide (0 <= x18)) (cond (decide (0 < x18)) (Ad (AA y2 0) fun e27 => chk (List.length x21 + List.length [e27] <= lim) (Fe rec y2 x20 (x21 ++ [e27]))) (Fe rec y2 x20 x21)) (rec (x20, y2, x21))
def CA (rec : ((List (Nat × (List Int))) × (List (Nat × (List Int))) × (List (Nat × (List Int)))) -> Option ((List (Nat × (List Int))))) (y1 : List (Nat × (List Int))) (y2 : List (Nat × (List Int))) (y3 : List (Nat × (List Int))) (x18 : Int) : Option ((List (Nat × (List Int)))) := cond (decide (x18 <= 0)) (Ad (AA y1 0) fun e31 => chk (List.length y3 + List.length [e31] <= lim) (chk ((0 : Int) <= 1 ∧ 1 <= (List.length y1 : Int) ∧ (List.length y1 : Int) <= (List.length y1 : Int)) (Dy rec y2 x18 (A7 y1 1 (List.length y1 : Int)) (y3 ++ [e31])))) (Dy rec y2 x18 y1 y3)
def Dx (rec : ((List (Nat × (List Int))) × (List (Nat × (List Int))) × (List (Nat × (List Int)))) -> Option ((List (Nat × (List Int))))) (y1 : List (Nat × (List Int))) (y2 : List (Nat × (List Int))) (y3 : List (Nat × (List Int))) (x15 : Bool) : Option ((List (Nat × (List Int)))) := cond x15 (cond ((List.length y1 : Int) == 0) (CA rec y1 y2 y3 1) (cond (decide (0 < (List.length y2 : Int))) (Ad (AA y1 0) fun e37 => Ad (AA y2 0) fun e39 => Ad (Bg e37.2 e39.2) fun v41 => CA rec y1 y2 y3 v41) (CA rec y1 y2 y3 (-1)))) (some y3)
def Bz  (rec : ((List (Nat × (List Int))) × (List (Nat × (List Int))) × (List (Nat × (List Int)))) -> Option ((List (Nat × (List Int))))) (s : (List (Nat × (List Int))) × (List (Nat × (List Int))) × (List (Nat × (List Int)))) : Option ((List (Nat × (List Int)))) := match s with
  | (y1, y2, y3) => cond (decide (0 < (List.length y1 : Int))) (Dx rec y1 y2 y3 true) (Dx rec y1 y2 y3 (decide (0 < (List.length y2 : Int))))
def E3 (rec : ((List (List Int))) -> Option ((List (List Int)))) (a0 : (List (List Int))) : Option ((List (List Int))) := cond (decide ((List.length a0 : Int) < 2)) (Ad (FN a0) fun v3 => some v3) (chk ((0 : Int) <= 0 ∧ 0 <= IntKind.i64.wrap (Int.tdiv (List.length a0 : Int) 2) ∧ IntKind.i64.wrap (Int.tdiv (List.length a0 : Int) 2) <= (List.length a0 : Int)) (Ad (rec (A7 a0 0 (IntKind.i64.wrap (Int.tdiv (List.length a0 : Int) 2)))) fun v6 => chk ((0 : Int) <= IntKind.i64.wrap (Int.tdiv (List.length a0 : Int) 2) ∧ IntKind.i64.wrap (Int.tdiv (List.length a0 : Int) 2) <= (List.length a0 : Int) ∧ (List.length a0 : Int) <= (List.length a0 : Int)) (Ad (rec (A7 a0 (IntKind.i64.wrap (Int.tdiv (List.length a0 : Int) 2)) (List.length a0 : Int))) fun v9 => Ad (Ai Bz fz ((AK 0 v6), (AK (List.length v6) v9), ([] : List (Nat × (List Int))))) fun z12 => chk (okJ (v6 ++ v9) (List.map Sum.inl z12) [] = true) (some (List.map getM (List.map Sum.inl z12))))))
def JX (a0 : List (List Int)) : Option ((List (List Int))) := Ai E3 fz a0
theorem LU {a0 : List (List Int)} {r : (List (List Int))} (h : JX a0 = some r) : Ah Tryz.prog 159 [dL Aw a0] (oL 27 Aj r) := by
 suffices key : ∀ mF (a0 : List (List Int)) (r : (List (List Int))), Ai E3 mF a0 = some r -> Ah Tryz.prog 159 [dL Aw a0] (oL 27 Aj r) from key fz a0 r h
 intro mF
 induction mF with
 | zero => intro a0 r h; cases h
 | succ mF ih0 =>
  intro a0 r h
  have ih : ∀ {a0 : List (List Int)} {r : (List (List Int))}, Ai E3 mF a0 = some r -> Ah Tryz.prog 159 [dL Aw a0] (oL 27 Aj r) := fun h => ih0 _ _ h
  change E3 (Ai E3 mF) a0 = some r at h
  unfold E3 at h
  try dsimp only at h
  refine st cP rfl (rn 1 rfl (Ac fun K1 hK1 => rn 1 rfl ?_))
  rcases Ab h with ⟨g2, h⟩ | ⟨g2, h⟩
  ·refine qT rfl g2 (rs (sp 1 rfl (?_)))
   obtain ⟨v3, g4, h⟩ := Aa h
   exact qC (qa rfl (erD AJ _) At) (IV g4) (sp 1 rfl (evn (Af ((by cases h; exact ⟨.inl rfl, rfl⟩)))))
  ·refine qF rfl g2 (Ae (hK1 _ (rn 1 rfl (rd (by kernel_rfl) (sd 2 rfl (?_))))))
   obtain ⟨g5, h⟩ := Ag h
   refine ed rfl (qSl rfl AX g5 (?_))
   obtain ⟨v6, g7, h⟩ := Aa h
   refine ed rfl (qC (qa rfl (erD AJ _) At) (ih g7) (sd 2 rfl (?_)))
   obtain ⟨g8, h⟩ := Ag h
   refine ed rfl (qSl rfl AX g8 (?_))
   obtain ⟨v9, g10, h⟩ := Aa h
   refine ed rfl (qC (qa rfl (erD AJ _) At) (ih g10) (sd 2 rfl (Cy (qk [4, 5] rfl (UW (f := Aj) (s1 := 4) (s2 := 5) (g1 := 900001) (g2 := 900002) rfl rfl rfl rfl ⟨by decide, by decide, by decide, by decide, by decide, by decide⟩ (Q1 (fun _ => rfl)) (Q1 (fun _ => rfl)) (fun _ => rfl) (fun _ => rfl) (fun _ => rfl) (fun _ => rfl) ?_)))))
   intro U us1 us2 hu1 hu2 hU
   refine kp [(4, oL 27 (pE Aj U) (AK 0 v6)), (5, oL 27 (pE Aj U) (AK (List.length v6) v9)), (900001, .gh us1 (List.map (fun x => Jl (Aj x)) v6)), (900002, .gh us2 (List.map (fun x => Jl (Aj x)) v9))] rfl rfl (rn 1 rfl (Ac fun K11 hK11 => ?_))
   obtain ⟨o1, hl, hr1⟩ := Aa h
   have kXB1 : ∀ {z12 : List (Nat × (List Int))}, z12 = o1 -> Jn K11 [(6, oL 27 (pE Aj U) z12), (900001, .gh us1 (List.map (fun x => Jl (Aj x)) v6)), (900002, .gh us2 (List.map (fun x => Jl (Aj x)) v9))] := by
    intro z12 h σ' hk
    subst h
    replace h := hr1
    try dsimp only at h
    refine hK11 _ (lh hk rfl (qk [6, 900001, 900002] rfl ?_))
    obtain ⟨g44, h⟩ := Ag h
    exact WR (g1 := 900001) (g2 := 900002) rfl rfl (by decide) (L4 (f := Aj) (s := 6) (q := 900001) (l := v6 ++ v9) (U := U) (L := List.map Sum.inl z12) ZG rfl List.map_append.symm (by decide) (WH (fun _ => rfl)) hU g44 rfl rfl (kp [(6, oL 27 Aj (List.map getM (List.map Sum.inl z12)))] rfl rfl (rn 1 rfl (Af ((by cases h; exact ⟨.inl rfl, rfl⟩))))))
   refine As (fun (s : (List (Nat × (List Int))) × (List (Nat × (List Int))) × (List (Nat × (List Int)))) => match s with | (y1, y2, y3) => [(4, dL (pE Aj U) y1), (5, dL (pE Aj U) y2), (6, oL 27 (pE Aj U) y3), (900001, .gh us1 (List.map (fun x => Jl (Aj x)) v6)), (900002, .gh us2 (List.map (fun x => Jl (Aj x)) v9))]) _ _ _ _ hl ⟨(kd rfl rfl), (kd rfl rfl), kr, kr, kr, trivial⟩ (fun _ => rfl) ?_
   rintro m ⟨y1, y2, y3⟩ N h hN
   unfold Bz at h
   dsimp only at h
   refine Ac fun K13 hK13 => rk fun K14 hK14 => ?_
   have kJ2 : ∀ {x15 : Bool}, Dx (Ai Bz m) y1 y2 y3 x15 = some o1 -> Jn K14 [(4, dL (pE Aj U) y1), (5, dL (pE Aj U) y2), (6, oL 27 (pE Aj U) y3), (31, .bool x15), (900001, .gh us1 (List.map (fun x => Jl (Aj x)) v6)), (900002, .gh us2 (List.map (fun x => Jl (Aj x)) v9))] := by
    intro x15 h σ' hk
    unfold Dx at h
    refine hK14 _ (lh hk rfl ?_)
    rcases Ab h with ⟨g16, h⟩ | ⟨g16, h⟩
    ·refine qT rfl g16 (Ae (hK13 _ (Aq (rn 1 rfl (Ac fun K17 hK17 => rn 1 rfl ?_)))))
     have kJ3 : ∀ {x18 : Int}, CA (Ai Bz m) y1 y2 y3 x18 = some o1 -> Jn K17 [(4, dL (pE Aj U) y1), (5, dL (pE Aj U) y2), (6, oL 27 (pE Aj U) y3), (7, nI x18), (900001, .gh us1 (List.map (fun x => Jl (Aj x)) v6)), (900002, .gh us2 (List.map (fun x => Jl (Aj x)) v9))] := by
      intro x18 h σ' hk
      unfold CA at h
      refine hK17 _ (lh hk rfl (Ac fun K19 hK19 => rn 1 rfl ?_))
      have kJ4 : ∀ {x20 : List (Nat × (List Int))} {x21 : List (Nat × (List Int))}, Dy (Ai Bz m) y2 x18 x20 x21 = some o1 -> Jn K19 [(4, dL (pE Aj U) x20), (5, dL (pE Aj U) y2), (6, oL 27 (pE Aj U) x21), (7, nI x18), (900001, .gh us1 (List.map (fun x => Jl (Aj x)) v6)), (900002, .gh us2 (List.map (fun x => Jl (Aj x)) v9))] := by
       intro x20 x21 h σ' hk
       unfold Dy at h
       refine hK19 _ (lh hk rfl (rn 1 rfl ?_))
       rcases Ab h with ⟨g22, h⟩ | ⟨g22, h⟩
       ·refine qT rfl g22 (Ac fun K23 hK23 => rn 1 rfl ?_)
        have kJ5 : ∀ {x24 : List (Nat × (List Int))}, Fe (Ai Bz m) y2 x20 x24 = some o1 -> Jn K23 [(4, dL (pE Aj U) x20), (5, dL (pE Aj U) y2), (6, oL 27 (pE Aj U) x24), (900001, .gh us1 (List.map (fun x => Jl (Aj x)) v6)), (900002, .gh us2 (List.map (fun x => Jl (Aj x)) v9))] := by
         intro x24 h σ' hk
         unfold Fe at h
         refine hK23 _ (lh hk rfl (rg (sp 1 rfl (?_))))
         obtain ⟨g25, h⟩ := Ag h
         exact qSl rfl (zpE AZ) g25 (sp 1 rfl (evn (hN _ _ h (okr rfl))))
        rcases Ab h with ⟨g26, h⟩ | ⟨g26, h⟩
        ·refine qT rfl g26 (rg (sp 2 rfl (?_)))
         obtain ⟨e27, g28, h⟩ := Aa h
         refine qI rfl (zpE AZ) g28 (sp 1 rfl (qBs (pE Aj U) [e27] rfl rfl rfl (zpE AZ) (?_)))
         obtain ⟨g29, h⟩ := Ag h
         exact qA (pE Aj U) x21 [e27] rfl rfl (Ao (zpE AZ) [e27]) rfl g29 (sp 1 rfl (evn (kJ5 h _ (okr rfl))))
        ·exact qF rfl g26 (Ae (kJ5 h _ (okr rfl)))
       ·exact qF rfl g22 (Ae (hN _ _ h (okr rfl)))
      rcases Ab h with ⟨g30, h⟩ | ⟨g30, h⟩
      ·refine qT rfl g30 (rs (sp 2 rfl (?_)))
       obtain ⟨e31, g32, h⟩ := Aa h
       refine qI rfl (zpE AZ) g32 (sp 1 rfl (qBs (pE Aj U) [e31] rfl rfl rfl (zpE AZ) (?_)))
       obtain ⟨g33, h⟩ := Ag h
       refine qA (pE Aj U) y3 [e31] rfl rfl (Ao (zpE AZ) [e31]) rfl g33 (sp 1 rfl (evn (rg (sp 1 rfl (?_)))))
       obtain ⟨g34, h⟩ := Ag h
       exact qSl rfl (zpE AZ) g34 (sp 1 rfl (evn (kJ4 h _ (okr rfl))))
      ·exact qF rfl g30 (Ae (kJ4 h _ (okr rfl)))
     rcases Ab h with ⟨g35, h⟩ | ⟨g35, h⟩
     ·exact qT rfl g35 (rg (sp 1 rfl (evn (kJ3 h _ (okr rfl)))))
     ·refine qF rfl g35 (rn 1 rfl (qk [4, 5, 6, 7, 37, 900001, 900002] rfl ?_))
      rcases Ab h with ⟨g36, h⟩ | ⟨g36, h⟩
      ·refine qT rfl g36 (rgd (by kernel_rfl) (sd 1 rfl (?_)))
       obtain ⟨e37, g38, h⟩ := Aa h
       refine ed rfl (qI rfl (zpE AZ) g38 (sd 2 rfl (?_)))
       obtain ⟨e39, g40, h⟩ := Aa h
       refine ed rfl (qI rfl (zpE AZ) g40 (sd 1 rfl (?_)))
       obtain ⟨v41, g42, h⟩ := Aa h
       exact ed rfl (qC (qa rfl (erP Ap Ap _) (qa rfl (erP Ap Ap _) At)) (Cb g42) (sd 1 rfl (Cy (kJ3 h _ (okr rfl)))))
      ·exact qF rfl g36 (Ae (kJ3 h _ (okr rfl)))
    ·exact qF rfl g16 (Al (kXB1 (Option.some.inj h) _ (okr rfl)))
   refine sp 4 rfl (?_)
   rcases Ab h with ⟨g43, h⟩ | ⟨g43, h⟩
   ·exact qg 27 g43 rfl (sp 4 rfl (evn (kJ2 h _ (okr rfl))))
   ·exact qg 27 g43 rfl (sp 4 rfl (evn (kJ2 h _ (okr rfl))))
def FK (a0 : Int) (a1 : List (List Int)) (rec : Int -> Option (Sum (Unit) (Y40 × Bool))) (y1 : Int) : Option (Sum (Unit) (Y40 × Bool)) := cond (decide (y1 < (List.length a1 : Int))) (Ad (AA a1 y1) fun e5 => cond ((List.length e5 : Int) != a0) (some (.inr ((0, []), false))) (Ad (Di e5) fun v8 => cond (!v8) (some (.inr ((0, []), false))) (rec (IntKind.i64.wrap (y1 + 1))))) (some (.inl ()))
def ES (a0 : Int) (a1 : List (List Int)) : Option (Y40 × Bool) := Ad (Ai (FK a0 a1) fz 0) fun o1 => (match o1 with
  | .inl _ => (Ad (JX a1) fun v11 => Ad (AF (a0, v11)) fun v14 => cond (!v14) (some ((0, []), false)) (some ((a0, v11), true)))
  | .inr r => some r)
theorem Jb {a0 : Int} {a1 : List (List Int)} {r : Y40 × Bool} (h : ES a0 a1 = some r) : Ah Tryz.prog 121 [nI a0, dL Aw a1] (.tup [.agg (Ht r.1), .bool r.2]) := by
 unfold ES at h
 refine st cf rfl (rn 1 rfl (Ac fun K1 hK1 => rn 1 rfl ?_))
 obtain ⟨o1, hl, hr1⟩ := Aa h
 have kXB1 : (.inl ()) = o1 -> Jn K1 [(0, nI a0), (1, dL Aw a1), (4, .box [nI 0, oL 27 Aj []])] := by
  intro h σ' hk
  subst h
  replace h := hr1
  try dsimp only at h
  refine hK1 _ (lh hk rfl (rs (sp 2 rfl (?_))))
  obtain ⟨v11, g12, h⟩ := Aa h
  refine qC (qa rfl (erD AJ _) At) (LU g12) (sp 3 rfl (evn (Ac fun K13 hK13 => rs (sp 1 rfl (?_)))))
  obtain ⟨v14, g15, h⟩ := Aa h
  refine qC (qa rfl (erg (erc rfl (erc (erD Ca _) rfl))) At) (AL g15) (sp 1 rfl (evn ?_))
  rcases Ab h with ⟨g16, h⟩ | ⟨g16, h⟩
  ·exact qT rfl g16 (rn 1 rfl (Af ((by cases h; exact ⟨.inl rfl, rfl⟩))))
  ·exact qF rfl g16 (Ae (hK13 _ (rn 1 rfl (Af ((by cases h; exact ⟨.inl rfl, rfl⟩))))))
 refine As (fun (y1 : Int) => [(0, nI a0), (1, dL Aw a1), (4, .box [nI 0, oL 27 Aj []]), (9, dL Aw a1), (10, nI (List.length a1 : Int)), (11, nI y1)]) _ _ _ _ hl (okr rfl) (fun _ => rfl) ?_
 rintro m y1 N h hN
 unfold FK at h
 refine rn 1 rfl (Ac fun K2 hK2 => ?_)
 rcases Ab h with ⟨g3, h⟩ | ⟨g3, h⟩
 ·refine qT rfl g3 (Ae (hK2 _ (Ac fun K4 hK4 => Aq (rs ?_))))
  obtain ⟨e5, g6, h⟩ := Aa h
  refine qI rfl AX g6 (sp 2 rfl (evn (rs (sp 5 rfl (?_)))))
  rcases Ab h with ⟨g7, h⟩ | ⟨g7, h⟩
  ·exact qg 19 g7 rfl (sp 4 rfl (evn (qT rfl rfl (rn 1 rfl (Af ((by cases h; cases hr1; exact ⟨.inl rfl, rfl⟩)))))))
  ·refine qg 19 g7 rfl (sp 1 rfl (?_))
   obtain ⟨v8, g9, h⟩ := Aa h
   refine oGR rfl rfl (qC (qa rfl (erD Ap _) At) (Ic g9) (sp 2 rfl (evn ?_)))
   rcases Ab h with ⟨g10, h⟩ | ⟨g10, h⟩
   ·exact qT rfl g10 (rn 1 rfl (qk [4, 5] rfl (Af ((by cases h; cases hr1; exact ⟨.inl rfl, rfl⟩)))))
   ·exact qF rfl g10 (Ae (hK4 _ (rg (sp 2 rfl (evn (hN _ _ h (okr rfl)))))))
 ·exact qF rfl g3 (Al (kXB1 (Option.some.inj h) _ (okr rfl)))
def CD (a0 : Int) (a1 : List Int) (rec : Int -> Option (Sum (Unit) (Bool))) (y1 : Int) : Option (Sum (Unit) (Bool)) := cond (decide (y1 < (List.length a1 : Int))) (Ad (AA a1 y1) fun e7 => Ad (Cp e7 0 (IntKind.i64.wrap (a0 - 1))) fun v9 => cond (!v9) (some (.inr false)) (rec (IntKind.i64.wrap (y1 + 1)))) (some (.inl ()))
def DE (a0 : Int) (a1 : List Int) : Option (Bool) := cond (decide (5 < (List.length a1 : Int))) (some false) (Ad (Ai (CD a0 a1) fz 0) fun o1 => (match o1 with
  | .inl _ => (some true)
  | .inr r => some r))
theorem Jz {a0 : Int} {a1 : List Int} {r : Bool} (h : DE a0 a1 = some r) : Ah Tryz.prog 170 [nI a0, dL An a1] (.bool r) := by
 unfold DE at h
 refine st cY rfl (rn 1 rfl (Ac fun K1 hK1 => rn 1 rfl ?_))
 rcases Ab h with ⟨g2, h⟩ | ⟨g2, h⟩
 ·exact qT rfl g2 (rn 1 rfl (Af ((by cases h; exact ⟨.inl rfl, rfl⟩))))
 ·refine qF rfl g2 (Ae (hK1 _ (Ac fun K3 hK3 => rn 1 rfl ?_)))
  obtain ⟨o1, hl, hr1⟩ := Aa h
  have kXB1 : (.inl ()) = o1 -> Jn K3 [] := by
   intro h σ' hk
   subst h
   replace h := hr1
   try dsimp only at h
   exact hK3 _ (lh hk rfl (rn 1 rfl (Af ((by cases h; exact ⟨.inl rfl, rfl⟩)))))
  refine As (fun (y1 : Int) => [(0, nI a0), (10, dL An a1), (11, nI (List.length a1 : Int)), (12, nI y1)]) _ _ _ _ hl (okr rfl) (fun _ => rfl) ?_
  rintro m y1 N h hN
  unfold CD at h
  refine rn 1 rfl (Ac fun K4 hK4 => ?_)
  rcases Ab h with ⟨g5, h⟩ | ⟨g5, h⟩
  ·refine qT rfl g5 (Ae (hK4 _ (Ac fun K6 hK6 => Aq (rs ?_))))
   obtain ⟨e7, g8, h⟩ := Aa h
   refine qI rfl Ar g8 (sp 2 rfl (evn (rs (sp 3 rfl (?_)))))
   obtain ⟨v9, g10, h⟩ := Aa h
   refine qC (qs rfl (qs rfl (qs rfl At))) (CE g10) (sp 1 rfl (evn ?_))
   rcases Ab h with ⟨g11, h⟩ | ⟨g11, h⟩
   ·exact qT rfl g11 (rn 1 rfl (Af ((by cases h; cases hr1; exact ⟨.inl rfl, rfl⟩))))
   ·exact qF rfl g11 (Ae (hK6 _ (rg (sp 2 rfl (evn (hN _ _ h (okr rfl)))))))
  ·exact qF rfl g5 (Al (kXB1 (Option.some.inj h) _ trivial))
def Je (a0 : List Int) (a1 : List Int) (rec : ((List Int) × Int) -> Option ((List Int))) (s : (List Int) × Int) : Option ((List Int)) := match s with
  | (y1, y2) => cond (decide (y2 < (List.length a1 : Int))) (Ad (AA a1 y2) fun e6 => Ad (AA a0 e6) fun e8 => chk (List.length y1 + List.length [e8] <= lim) (rec ((y1 ++ [e8]), (IntKind.i64.wrap (y2 + 1))))) (some y1)
def IW (a0 : List Int) (a1 : List Int) : Option ((List Int)) := Ad (Ai (Je a0 a1) fz (([] : List Int), 0)) fun z2 => some z2
theorem N3 {a0 : List Int} {a1 : List Int} {r : (List Int)} (h : IW a0 a1 = some r) : Ah Tryz.prog 172 [dL An a0, dL An a1] (oL 3 An r) := by
 unfold IW at h
 refine st c6 rfl (rn 1 rfl (rs (qBs An [] rfl rfl rfl Ar (sp 1 rfl (evn (Ac fun K1 hK1 => rn 1 rfl ?_))))))
 obtain ⟨o1, hl, hr1⟩ := Aa h
 have kXB1 : ∀ {z2 : List Int}, z2 = o1 -> Jn K1 [(5, oL 3 An z2)] := by
  intro z2 h σ' hk
  subst h
  replace h := hr1
  try dsimp only at h
  exact hK1 _ (lh hk rfl (rn 1 rfl (Af ((by cases h; exact ⟨.inl rfl, rfl⟩)))))
 refine As (fun (s : (List Int) × Int) => match s with | (y1, y2) => [(0, dL An a0), (5, oL 3 An y1), (9, dL An a1), (10, nI (List.length a1 : Int)), (11, nI y2)]) _ _ _ _ hl (okr rfl) (fun _ => rfl) ?_
 rintro m ⟨y1, y2⟩ N h hN
 unfold Je at h
 dsimp only at h
 refine rn 1 rfl (Ac fun K3 hK3 => ?_)
 rcases Ab h with ⟨g4, h⟩ | ⟨g4, h⟩
 ·refine qT rfl g4 (Ae (hK3 _ (Ac fun K5 hK5 => Aq (rs ?_))))
  obtain ⟨e6, g7, h⟩ := Aa h
  refine qI rfl Ar g7 (sp 2 rfl (evn (rg (sp 3 rfl (?_)))))
  obtain ⟨e8, g9, h⟩ := Aa h
  refine qI rfl Ar g9 (sp 1 rfl (qBs An [e8] rfl rfl rfl Ar (?_)))
  obtain ⟨g10, h⟩ := Ag h
  exact qA An y1 [e8] rfl rfl (Ao Ar [e8]) rfl g10 (sp 1 rfl (evn (hK5 _ (rg (sp 2 rfl (evn (hN _ _ h (okr rfl))))))))
 ·exact qF rfl g4 (Al (kXB1 (Option.some.inj h) _ (okr rfl)))
def Gu (a0 : Y40) (a1 : List Int) (rec : ((List (List Int)) × Int) -> Option ((List (List Int)))) (s : (List (List Int)) × Int) : Option ((List (List Int))) := match s with
  | (y1, y2) => cond (decide (y2 < (List.length a0.2 : Int))) (Ad (AA a0.2 y2) fun e13 => Ad (IW e13 a1) fun v15 => chk (List.length y1 + List.length [v15] <= lim) (rec ((y1 ++ [v15]), (IntKind.i64.wrap (y2 + 1))))) (some y1)
def Ie (a0 : Y40) (a1 : List Int) : Option (Y40 × Bool) := Ad (AF a0) fun v2 => cond (!v2) (some ((0, []), false)) (Ad (DE a0.1 a1) fun v5 => cond (!v5) (some ((0, []), false)) (Ad (Ai (Gu a0 a1) fz (([] : List (List Int)), 0)) fun z9 => Ad (ES (List.length a1 : Int) z9) fun v18 => some (v18.1, v18.2)))
theorem OC {a0 : Y40} {a1 : List Int} {r : Y40 × Bool} (h : Ie a0 a1 = some r) : Ah Tryz.prog 168 [.agg (Ek a0), dL An a1] (.tup [.agg (Ht r.1), .bool r.2]) := by
 unfold Ie at h
 refine st cW rfl (rn 1 rfl (Ac fun K1 hK1 => rs (sp 1 rfl (?_))))
 obtain ⟨v2, g3, h⟩ := Aa h
 refine qC (qa rfl (erg (erc rfl (erc (erD AJ _) rfl))) At) (AL g3) (sp 2 rfl (?_))
 rcases Ab h with ⟨g4, h⟩ | ⟨g4, h⟩
 ·exact qg 12 g4 rfl (sp 6 rfl (evn (qT rfl rfl (rn 1 rfl (Af ((by cases h; exact ⟨.inl rfl, rfl⟩)))))))
 ·refine qg 12 g4 rfl (sp 3 rfl (?_))
  obtain ⟨v5, g6, h⟩ := Aa h
  refine oGR rfl rfl (qC (qs rfl (qa rfl (erD Ap _) At)) (Jz g6) (sp 2 rfl (evn ?_)))
  rcases Ab h with ⟨g7, h⟩ | ⟨g7, h⟩
  ·exact qT rfl g7 (rn 1 rfl (Af ((by cases h; exact ⟨.inl rfl, rfl⟩))))
  ·refine qF rfl g7 (Ae (hK1 _ (qk [1, 2, 4] rfl (rn 1 rfl (Ac fun K8 hK8 => rn 1 rfl ?_)))))
   obtain ⟨o1, hl, hr1⟩ := Aa h
   have kXB1 : ∀ {z9 : List (List Int)}, z9 = o1 -> Jn K8 [(1, dL An a1), (4, .box [nI 0, oL 27 Aj []]), (6, oL 27 Aj z9)] := by
    intro z9 h σ' hk
    subst h
    replace h := hr1
    try dsimp only at h
    refine hK8 _ (lh hk rfl (rs (sp 3 rfl (?_))))
    obtain ⟨v18, g19, h⟩ := Aa h
    exact qC (qs rfl (qa rfl (erD Ca _) At)) (Jb g19) (sp 4 rfl (evn (Af ((by cases h; exact ⟨.inl rfl, rfl⟩)))))
   refine As (fun (s : (List (List Int)) × Int) => match s with | (y1, y2) => [(1, dL An a1), (4, .box [nI 0, oL 27 Aj []]), (6, oL 27 Aj y1), (21, dL Aw a0.2), (22, nI (List.length a0.2 : Int)), (23, nI y2)]) _ _ _ _ hl (okr rfl) (fun _ => rfl) ?_
   rintro m ⟨y1, y2⟩ N h hN
   unfold Gu at h
   dsimp only at h
   refine rn 1 rfl (Ac fun K10 hK10 => ?_)
   rcases Ab h with ⟨g11, h⟩ | ⟨g11, h⟩
   ·refine qT rfl g11 (Ae (hK10 _ (Ac fun K12 hK12 => Aq (rs ?_))))
    obtain ⟨e13, g14, h⟩ := Aa h
    refine qI rfl AX g14 (sp 2 rfl (evn (rg (sp 3 rfl (?_)))))
    obtain ⟨v15, g16, h⟩ := Aa h
    refine qC (qa rfl (erD Ap _) (qa rfl (erD Ap _) At)) (N3 g16) (qBs Aj [v15] rfl rfl rfl AZ (?_))
    obtain ⟨g17, h⟩ := Ag h
    exact qA Aj y1 [v15] rfl rfl (Ao AZ [v15]) rfl g17 (sp 1 rfl (evn (hK12 _ (rg (sp 2 rfl (evn (hN _ _ h (okr rfl))))))))
   ·exact qF rfl g11 (Al (kXB1 (Option.some.inj h) _ (okr rfl)))
def G3 (a0 : Y40) (a1 : List Int) : Option (Y40 × Bool) := Ad (Gf a1) fun v2 => cond (!v2) (some ((0, []), false)) (cond ((List.length a1 : Int) != a0.1) (some ((0, []), false)) (Ad (Ie a0 a1) fun v6 => cond (!v6.2) (some ((0, []), false)) (some (v6.1, true))))
theorem M1 {a0 : Y40} {a1 : List Int} {r : Y40 × Bool} (h : G3 a0 a1 = some r) : Ah Tryz.prog 145 [.agg (Ek a0), dL An a1] (.tup [.agg (GY r.1), .bool r.2]) := by
 unfold G3 at h
 refine st cB rfl (rn 1 rfl (Ac fun K1 hK1 => rs (sp 1 rfl (?_))))
 obtain ⟨v2, g3, h⟩ := Aa h
 refine qC (qa rfl (erD Ap _) At) (La g3) (sp 2 rfl (?_))
 rcases Ab h with ⟨g4, h⟩ | ⟨g4, h⟩
 ·exact qg 11 g4 rfl (sp 6 rfl (evn (qT rfl rfl (rn 1 rfl (Af ((by cases h; exact ⟨.inl rfl, rfl⟩)))))))
 ·refine qg 11 g4 rfl (sp 6 rfl (evn ?_))
  rcases Ab h with ⟨g5, h⟩ | ⟨g5, h⟩
  ·exact qT rfl g5 (rn 1 rfl (Af ((by cases h; exact ⟨.inl rfl, rfl⟩))))
  ·refine qF rfl g5 (Ae (hK1 _ (qk [1, 2, 4] rfl (rs (sp 2 rfl (?_))))))
   obtain ⟨v6, g7, h⟩ := Aa h
   refine qC (qa rfl (erg (erc rfl (erc (erD AJ _) rfl))) (qa rfl (erD Ap _) At)) (OC g7) (sp 6 rfl (evn (Ac fun K8 hK8 => rn 1 rfl ?_)))
   rcases Ab h with ⟨g9, h⟩ | ⟨g9, h⟩
   ·exact qT rfl g9 (rn 1 rfl (Af ((by cases h; exact ⟨.inl rfl, rfl⟩))))
   ·exact qF rfl g9 (Ae (hK8 _ (rn 1 rfl (Af ((by cases h; exact ⟨.inl rfl, rfl⟩))))))
def Bj (a0 : Gn) (a1 : Int) : Option (Bool) := Ad (Ho a0.2 a1) fun v1 => some v1
theorem FJ {a0 : Gn} {a1 : Int} {r : Bool} (h : Bj a0 a1 = some r) : Ah Tryz.prog 174 [.agg (Bt a0), nI a1] (.bool r) := by
 unfold Bj at h
 refine st c8 rfl (rn 1 rfl (rs (sp 3 rfl (?_))))
 obtain ⟨v1, g2, h⟩ := Aa h
 exact qC (qa rfl (erD Ap _) (qs rfl At)) (JW g2) (sp 1 rfl (evn (Af ((by cases h; exact ⟨.inl rfl, rfl⟩)))))
def DC (rec : ((List Int) × Int) -> Option ((List Int))) (y2 : Int) (x8 : List Int) : Option ((List Int)) := rec (x8, (IntKind.i64.wrap (y2 + 1)))
def Cr (a0 : Gn) (rec : ((List Int) × Int) -> Option ((List Int))) (s : (List Int) × Int) : Option ((List Int)) := match s with
  | (y1, y2) => cond (decide (y2 < 5)) (Ad (Bj a0 y2) fun v6 => cond v6 (chk (List.length y1 + List.length [y2] <= lim) (DC rec y2 (y1 ++ [y2]))) (DC rec y2 y1)) (some y1)
def DM (a0 : Gn) : Option ((List Int)) := Ad (Ai (Cr a0) fz (([] : List Int), 0)) fun z2 => some z2
theorem IB {a0 : Gn} {r : (List Int)} (h : DM a0 = some r) : Ah Tryz.prog 169 [.agg (Bt a0)] (oL 3 An r) := by
 unfold DM at h
 refine st cX rfl (rn 2 rfl (Ac fun K1 hK1 => rn 1 rfl ?_))
 obtain ⟨o1, hl, hr1⟩ := Aa h
 have kXB1 : ∀ {z2 : List Int}, z2 = o1 -> Jn K1 [(3, oL 3 An z2)] := by
  intro z2 h σ' hk
  subst h
  replace h := hr1
  try dsimp only at h
  exact hK1 _ (lh hk rfl (rn 1 rfl (Af ((by cases h; exact ⟨.inl rfl, rfl⟩)))))
 refine As (fun (s : (List Int) × Int) => match s with | (y1, y2) => [(1, .box [.str a0.1, dL An a0.2]), (3, oL 3 An y1), (4, nI y2)]) _ _ _ _ hl (okr rfl) (fun _ => rfl) ?_
 rintro m ⟨y1, y2⟩ N h hN
 unfold Cr at h
 dsimp only at h
 refine Ac fun K3 hK3 => rn 1 rfl ?_
 rcases Ab h with ⟨g4, h⟩ | ⟨g4, h⟩
 ·refine qT rfl g4 (Ae (hK3 _ (Ac fun K5 hK5 => Aq (rs (sp 2 rfl (?_))))))
  obtain ⟨v6, g7, h⟩ := Aa h
  refine qC (qa rfl (erg (erc rfl (erc (erD Ap _) rfl))) (qs rfl At)) (FJ g7) (evn ?_)
  have kJ2 : ∀ {x8 : List Int}, DC (Ai (Cr a0) m) y2 x8 = some o1 -> Jn K5 [(1, .box [.str a0.1, dL An a0.2]), (3, oL 3 An x8), (4, nI y2)] := by
   intro x8 h σ' hk
   unfold DC at h
   exact hK5 _ (lh hk rfl (rg (sp 3 rfl (evn (hN _ _ h (okr rfl))))))
  rcases Ab h with ⟨g9, h⟩ | ⟨g9, h⟩
  ·refine qT rfl g9 (rg (sp 2 rfl (qBs An [y2] rfl rfl rfl Ar (?_))))
   obtain ⟨g10, h⟩ := Ag h
   exact qA An y1 [y2] rfl rfl (Ao Ar [y2]) rfl g10 (sp 1 rfl (evn (kJ2 h _ (okr rfl))))
  ·exact qF rfl g9 (Ae (kJ2 h _ (okr rfl)))
 ·exact qF rfl g4 (Al (kXB1 (Option.some.inj h) _ (okr rfl)))
def CL (rec : ((List Int) × Bool × Int) -> Option ((List Int) × Bool)) (e16 : List Int) (y9 : List Int) (y11 : Int) (e25 : Int) (x30 : Bool) : Option ((List Int) × Bool) := Ad (AA e16 y11) fun e31 => Ad (AA y9 e25) fun e33 => rec ((It y9 e25 e31), x30, (IntKind.i64.wrap (y11 + 1)))
def BZ (a1 : Gn) (e16 : List Int) (rec : ((List Int) × Bool × Int) -> Option ((List Int) × Bool)) (s : (List Int) × Bool × Int) : Option ((List Int) × Bool) := match s with
  | (y9, y10, y11) => cond (decide (y11 < (List.length a1.2 : Int))) (Ad (AA a1.2 y11) fun e25 => Ad (Gy a1.2 e25) fun v27 => cond y10 (Ad (AA e16 v27) fun e36 => Ad (AA e16 y11) fun e38 => CL rec e16 y9 y11 e25 (e36 == e38)) (CL rec e16 y9 y11 e25 false)) (some (y9, y10))
def CM (rec : ((List (List Int)) × Int) -> Option ((List (List Int)))) (y5 : Int) (x40 : List (List Int)) : Option ((List (List Int))) := rec (x40, (IntKind.i64.wrap (y5 + 1)))
def BY (a1 : Gn) (v1 : (List Int)) (v3 : Y40 × Bool) (rec : ((List (List Int)) × Int) -> Option ((List (List Int)))) (s : (List (List Int)) × Int) : Option ((List (List Int))) := match s with
  | (y4, y5) => cond (decide (y5 < (List.length v3.1.2 : Int))) (Ad (AA v3.1.2 y5) fun e16 => chk ((0 : Int) <= 5 ∧ Int.toNat 5 <= lim) (Ad (Ai (BZ a1 e16) fz ((List.replicate (Int.toNat 5) (0 : Int)), true, 0)) fun o2 => (match o2 with
  | (z20, z21) => (cond z21 (Ad (IW z20 v1) fun v42 => chk (List.length y4 + List.length [v42] <= lim) (CM rec y5 (y4 ++ [v42]))) (CM rec y5 y4))))) (some y4)
def Fl (a0 : List AU) (a1 : Gn) : Option (Y40) := Ad (DM a1) fun v1 => Ad (BM a0 a1.1) fun v3 => cond (!v3.2) (some ((List.length v1 : Int), [])) (cond (v3.1.1 != (List.length a1.2 : Int)) (some ((List.length v1 : Int), [])) (Ad (DE 5 a1.2) fun v8 => cond (!v8) (some ((List.length v1 : Int), [])) (Ad (Ai (BY a1 v1 v3) fz (([] : List (List Int)), 0)) fun z12 => Ad (JX z12) fun v45 => some ((List.length v1 : Int), v45))))
theorem Lp {a0 : List AU} {a1 : Gn} {r : Y40} (h : Fl a0 a1 = some r) : Ah Tryz.prog 146 [.agg [dL AE a0], .agg (Bt a1)] (.agg (Ht r)) := by
 unfold Fl at h
 refine st cC rfl (rn 1 rfl (rs (sp 1 rfl (?_))))
 obtain ⟨v1, g2, h⟩ := Aa h
 refine qC (qa rfl (erg (erc rfl (erc (erD Ap _) rfl))) At) (IB g2) (sp 1 rfl (evn (rn 1 rfl (rs (sp 3 rfl (?_))))))
 obtain ⟨v3, g4, h⟩ := Aa h
 refine qC (qa rfl (erg (erc (erD AP _) rfl)) (qs rfl At)) (E2 g4) (sp 6 rfl (evn (Ac fun K5 hK5 => rs (sp 3 rfl (?_)))))
 rcases Ab h with ⟨g6, h⟩ | ⟨g6, h⟩
 ·exact qg 31 g6 rfl (sp 13 rfl (evn (qk [3, 4, 5, 6, 7, 44] rfl (qT rfl rfl (rn 1 rfl (Af ((by cases h; exact ⟨.inl rfl, rfl⟩))))))))
 ·refine qg 31 g6 rfl (sp 8 rfl (?_))
  rcases Ab h with ⟨g7, h⟩ | ⟨g7, h⟩
  ·exact qg 39 g7 rfl (sp 5 rfl (evn (qT rfl rfl (rn 1 rfl (Af ((by cases h; exact ⟨.inl rfl, rfl⟩)))))))
  ·refine qg 39 g7 rfl (sp 2 rfl (?_))
   obtain ⟨v8, g9, h⟩ := Aa h
   refine oGR rfl rfl (qC (qs rfl (qa rfl (erD Ap _) At)) (Jz g9) (sp 2 rfl (evn ?_)))
   rcases Ab h with ⟨g10, h⟩ | ⟨g10, h⟩
   ·exact qT rfl g10 (rn 1 rfl (Af ((by cases h; exact ⟨.inl rfl, rfl⟩))))
   ·refine qF rfl g10 (Ae (hK5 _ (qk [3, 4, 5, 6, 7] rfl (rn 1 rfl (Ac fun K11 hK11 => rn 1 rfl ?_)))))
    obtain ⟨o1, hl, hr1⟩ := Aa h
    have kXB1 : ∀ {z12 : List (List Int)}, z12 = o1 -> Jn K11 [(4, .box [nI 0, oL 27 Aj []]), (6, .box [nI (List.length v1 : Int), oL 27 Aj []]), (9, oL 27 Aj z12)] := by
     intro z12 h σ' hk
     subst h
     replace h := hr1
     try dsimp only at h
     refine hK11 _ (lh hk rfl (rs (sp 1 rfl (?_))))
     obtain ⟨v45, g46, h⟩ := Aa h
     exact qC (qa rfl (erD Ca _) At) (LU g46) (sp 2 rfl (evn (rn 1 rfl (Af ((by cases h; exact ⟨.inl rfl, rfl⟩))))))
    refine As (fun (s : (List (List Int)) × Int) => match s with | (y4, y5) => [(3, .box [.str a1.1, dL An a1.2]), (4, .box [nI 0, oL 27 Aj []]), (5, oL 3 An v1), (6, .box [nI (List.length v1 : Int), oL 27 Aj []]), (9, oL 27 Aj y4), (47, dL Aj v3.1.2), (48, nI (List.length v3.1.2 : Int)), (49, nI y5)]) _ _ _ _ hl (okr rfl) (fun _ => rfl) ?_
    rintro m ⟨y4, y5⟩ N h hN
    unfold BY at h
    dsimp only at h
    refine rn 1 rfl (Ac fun K13 hK13 => ?_)
    rcases Ab h with ⟨g14, h⟩ | ⟨g14, h⟩
    ·refine qT rfl g14 (Ae (hK13 _ (Ac fun K15 hK15 => Aq (rs ?_))))
     obtain ⟨e16, g17, h⟩ := Aa h
     refine qI rfl AZ g17 (sp 2 rfl (evn (rs ?_)))
     obtain ⟨g18, h⟩ := Ag h
     refine qMu An (0 : Int) rfl rfl rfl rfl g18 rfl (qAu rfl rfl rfl rfl (evn (rn 1 rfl (Ac fun K19 hK19 => rn 1 rfl ?_))))
     obtain ⟨o2, hl, hr2⟩ := Aa h
     have kXB2 : ∀ {z20 : List Int} {z21 : Bool}, (z20, z21) = o2 -> Jn K19 [(3, .box [.str a1.1, dL An a1.2]), (4, .box [nI 0, oL 27 Aj []]), (5, oL 3 An v1), (6, .box [nI (List.length v1 : Int), oL 27 Aj []]), (9, oL 27 Aj y4), (12, wL 3 An z20), (13, .bool z21), (47, dL Aj v3.1.2), (48, nI (List.length v3.1.2 : Int)), (49, nI y5)] := by
      intro z20 z21 h σ' hk
      subst h
      replace h := hr2
      try dsimp only at h
      refine hK19 _ (lh hk rfl (rn 1 rfl ?_))
      have kJ4 : ∀ {x40 : List (List Int)}, CM (Ai (BY a1 v1 v3) m) y5 x40 = some o1 -> Jn K15 [(3, .box [.str a1.1, dL An a1.2]), (4, .box [nI 0, oL 27 Aj []]), (5, oL 3 An v1), (6, .box [nI (List.length v1 : Int), oL 27 Aj []]), (9, oL 27 Aj x40), (47, dL Aj v3.1.2), (48, nI (List.length v3.1.2 : Int)), (49, nI y5)] := by
       intro x40 h σ' hk
       unfold CM at h
       exact hK15 _ (lh hk rfl (rg (sp 2 rfl (evn (hN _ _ h (okr rfl))))))
      rcases Ab h with ⟨g41, h⟩ | ⟨g41, h⟩
      ·refine qT rfl g41 (rg (sp 1 rfl (qTu rfl rfl rfl (sp 1 rfl (?_)))))
       obtain ⟨v42, g43, h⟩ := Aa h
       refine qC (qa rfl (erO Ap _) (qa rfl (erD Ap _) At)) (N3 g43) (qBs Aj [v42] rfl rfl rfl AZ (?_))
       obtain ⟨g44, h⟩ := Ag h
       exact qA Aj y4 [v42] rfl rfl (Ao AZ [v42]) rfl g44 (sp 1 rfl (evn (kJ4 h _ (okr rfl))))
      ·exact qF rfl g41 (Ae (kJ4 h _ (okr rfl)))
     refine As (fun (s : (List Int) × Bool × Int) => match s with | (y9, y10, y11) => [(3, .box [.str a1.1, dL An a1.2]), (4, .box [nI 0, oL 27 Aj []]), (5, oL 3 An v1), (6, .box [nI (List.length v1 : Int), oL 27 Aj []]), (9, oL 27 Aj y4), (11, dL An e16), (12, wL 3 An y9), (13, .bool y10), (47, dL Aj v3.1.2), (48, nI (List.length v3.1.2 : Int)), (49, nI y5), (55, dL An a1.2), (56, nI (List.length a1.2 : Int)), (57, nI y11)]) _ _ _ _ hl (okr rfl) (fun _ => rfl) ?_
     rintro m ⟨y9, y10, y11⟩ N h hN
     unfold BZ at h
     dsimp only at h
     refine rn 1 rfl (Ac fun K22 hK22 => ?_)
     rcases Ab h with ⟨g23, h⟩ | ⟨g23, h⟩
     ·refine qT rfl g23 (Ae (hK22 _ (Ac fun K24 hK24 => Aq (rs (sp 1 rfl (?_))))))
      obtain ⟨e25, g26, h⟩ := Aa h
      refine qI rfl Ar g26 (sp 3 rfl (evn (rs (sp 3 rfl (?_)))))
      obtain ⟨v27, g28, h⟩ := Aa h
      refine qC (qa rfl (erD Ap _) (qs rfl At)) (Jr g28) (sp 1 rfl (evn (rdk (by kernel_rfl) fun K29 hK29 => ?_)))
      have kJ3 : ∀ {x30 : Bool}, CL (Ai (BZ a1 e16) m) e16 y9 y11 e25 x30 = some o2 -> Jn K29 [(3, .box [.str a1.1, dL An a1.2]), (4, .box [nI 0, oL 27 Aj []]), (5, oL 3 An v1), (6, .box [nI (List.length v1 : Int), oL 27 Aj []]), (9, oL 27 Aj y4), (11, dL An e16), (12, wL 3 An y9), (13, .bool x30), (14, nI y11), (15, nI e25), (47, dL Aj v3.1.2), (48, nI (List.length v3.1.2 : Int)), (49, nI y5), (55, dL An a1.2), (56, nI (List.length a1.2 : Int)), (57, nI y11)] := by
       intro x30 h σ' hk
       unfold CL at h
       refine hK29 _ (lh hk rfl (rg (sp 4 rfl (?_))))
       obtain ⟨e31, g32, h⟩ := Aa h
       refine qI rfl Ar g32 (sp 1 rfl (?_))
       obtain ⟨e33, g34, h⟩ := Aa h
       exact qIu rfl ⟨(Az g34).1, (Az g34).2.1⟩ (qSu e31 rfl rfl Ar ⟨(Az g34).1, (Az g34).2.1⟩ rfl rfl rfl rfl rfl rfl (evn (hK24 _ (rg (sp 2 rfl (evn (hN _ _ h (okr rfl))))))))
      refine sd 2 rfl (?_)
      rcases Ab h with ⟨g35, h⟩ | ⟨g35, h⟩
      ·refine qgd 67 g35 rfl (sd 2 rfl (?_))
       obtain ⟨e36, g37, h⟩ := Aa h
       refine ed rfl (oGR rfl rfl (qI rfl Ar g37 (sd 3 rfl (?_))))
       obtain ⟨e38, g39, h⟩ := Aa h
       exact ed rfl (oGR rfl rfl (qI rfl Ar g39 (sd 4 rfl (Cy (kJ3 h _ (okr rfl))))))
      ·exact qgd 67 g35 rfl (sd 11 rfl (Cy (kJ3 h _ (okr rfl))))
     ·exact qF rfl g23 (Al (kXB2 (Option.some.inj h) _ (okr rfl)))
    ·exact qF rfl g14 (Al (kXB1 (Option.some.inj h) _ (okr rfl)))
def BU (rec : ((List Int) × Int) -> Option ((List Int))) (y2 : Int) (x14 : List Int) : Option ((List Int)) := rec (x14, (IntKind.i64.wrap (y2 + 1)))
def BT (rec : ((List Int) × Int) -> Option ((List Int))) (y1 : List Int) (y2 : Int) (v10 : Int) (x13 : Bool) : Option ((List Int)) := cond x13 (chk (List.length y1 + List.length [v10] <= lim) (BU rec y2 (y1 ++ [v10]))) (BU rec y2 y1)
def Bn (a1 : List Int) (v1 : (List Int)) (rec : ((List Int) × Int) -> Option ((List Int))) (s : (List Int) × Int) : Option ((List Int)) := match s with
  | (y1, y2) => cond (decide (y2 < (List.length a1 : Int))) (Ad (AA a1 y2) fun e8 => Ad (Gy v1 e8) fun v10 => cond (decide (0 <= v10)) (Ad (Ho y1 v10) fun v18 => BT rec y1 y2 v10 (!v18)) (BT rec y1 y2 v10 false)) (some y1)
def DX (a0 : Gn) (a1 : List Int) : Option ((List Int)) := Ad (DM a0) fun v1 => Ad (Ai (Bn a1 v1) fz (([] : List Int), 0)) fun z4 => some z4
theorem Kc {a0 : Gn} {a1 : List Int} {r : (List Int)} (h : DX a0 a1 = some r) : Ah Tryz.prog 147 [.agg (Bt a0), dL An a1] (oL 3 An r) := by
 unfold DX at h
 refine st cD rfl (rn 1 rfl (rs (sp 1 rfl (?_))))
 obtain ⟨v1, g2, h⟩ := Aa h
 refine qC (qa rfl (erg (erc rfl (erc (erD Ap _) rfl))) At) (IB g2) (sp 1 rfl (evn (rn 1 rfl (Ac fun K3 hK3 => rn 1 rfl ?_))))
 obtain ⟨o1, hl, hr1⟩ := Aa h
 have kXB1 : ∀ {z4 : List Int}, z4 = o1 -> Jn K3 [(6, oL 3 An z4)] := by
  intro z4 h σ' hk
  subst h
  replace h := hr1
  try dsimp only at h
  exact hK3 _ (lh hk rfl (rn 1 rfl (Af ((by cases h; exact ⟨.inl rfl, rfl⟩)))))
 refine As (fun (s : (List Int) × Int) => match s with | (y1, y2) => [(5, oL 3 An v1), (6, oL 3 An y1), (12, dL An a1), (13, nI (List.length a1 : Int)), (14, nI y2)]) _ _ _ _ hl (okr rfl) (fun _ => rfl) ?_
 rintro m ⟨y1, y2⟩ N h hN
 unfold Bn at h
 dsimp only at h
 refine rn 1 rfl (Ac fun K5 hK5 => ?_)
 rcases Ab h with ⟨g6, h⟩ | ⟨g6, h⟩
 ·refine qT rfl g6 (Ae (hK5 _ (Ac fun K7 hK7 => Aq (rs ?_))))
  obtain ⟨e8, g9, h⟩ := Aa h
  refine qI rfl Ar g9 (sp 2 rfl (evn (rs (sp 2 rfl (?_)))))
  obtain ⟨v10, g11, h⟩ := Aa h
  refine qC (qa rfl (erD Ap _) (qs rfl At)) (Jr g11) (sp 1 rfl (evn (rk fun K12 hK12 => ?_)))
  have kJ2 : ∀ {x13 : Bool}, BT (Ai (Bn a1 v1) m) y1 y2 v10 x13 = some o1 -> Jn K12 [(5, oL 3 An v1), (6, oL 3 An y1), (9, nI v10), (12, dL An a1), (13, nI (List.length a1 : Int)), (14, nI y2), (28, .bool x13)] := by
   intro x13 h σ' hk
   unfold BT at h
   refine hK12 _ (lh hk rfl ?_)
   have kJ3 : ∀ {x14 : List Int}, BU (Ai (Bn a1 v1) m) y2 x14 = some o1 -> Jn K7 [(5, oL 3 An v1), (6, oL 3 An x14), (12, dL An a1), (13, nI (List.length a1 : Int)), (14, nI y2)] := by
    intro x14 h σ' hk
    unfold BU at h
    exact hK7 _ (lh hk rfl (rg (sp 2 rfl (evn (hN _ _ h (okr rfl))))))
   rcases Ab h with ⟨g15, h⟩ | ⟨g15, h⟩
   ·refine qT rfl g15 (rg (sp 2 rfl (qBs An [v10] rfl rfl rfl Ar (?_))))
    obtain ⟨g16, h⟩ := Ag h
    exact qA An y1 [v10] rfl rfl (Ao Ar [v10]) rfl g16 (sp 1 rfl (evn (kJ3 h _ (okr rfl))))
   ·exact qF rfl g15 (Ae (kJ3 h _ (okr rfl)))
  refine sp 3 rfl (?_)
  rcases Ab h with ⟨g17, h⟩ | ⟨g17, h⟩
  ·refine qg 23 g17 rfl (sp 2 rfl (?_))
   obtain ⟨v18, g19, h⟩ := Aa h
   exact oGR rfl rfl (qC (qa rfl (erD Ap _) (qs rfl At)) (JW g19) (sp 2 rfl (evn (kJ2 h _ (okr rfl)))))
  ·exact qg 23 g17 rfl (sp 5 rfl (evn (kJ2 h _ (okr rfl))))
 ·exact qF rfl g6 (Al (kXB1 (Option.some.inj h) _ (okr rfl)))
def Gd (a0 : List AU) (a1 : Y29) (a2 : List Int) (rec : ((List Y40) × Int) -> Option ((List Y40))) (s : (List Y40) × Int) : Option ((List Y40)) := match s with
  | (y1, y2) => cond (decide (y2 < (List.length a1.2.1 : Int))) (Ad (AA a1.2.1 y2) fun e13 => Ad (Fl a0 e13) fun v15 => Ad (DX e13 a2) fun v17 => Ad (G3 v15 v17) fun v19 => chk (List.length y1 + List.length [v19.1] <= lim) (rec ((y1 ++ [v19.1]), (IntKind.i64.wrap (y2 + 1))))) (some y1)
def Gr (a0 : List AU) (a1 : Y29) (a2 : List Int) : Option ((List Y40) × Bool) := Ad (Gt a0 a1) fun v2 => cond (!v2) (some (([] : List Y40), false)) (Ad (Fm a1 a2) fun v5 => cond (!v5) (some (([] : List Y40), false)) (Ad (Ai (Gd a0 a1 a2) fz (([] : List Y40), 0)) fun z9 => some (z9, true)))
theorem My {a0 : List AU} {a1 : Y29} {a2 : List Int} {r : (List Y40) × Bool} (h : Gr a0 a1 a2 = some r) : Ah Tryz.prog 105 [.agg [dL AE a0], .agg (CZ a1), dL An a2] (.tup [oL 179 GY r.1, .bool r.2]) := by
 unfold Gr at h
 refine st bQ rfl (rn 1 rfl (Ac fun K1 hK1 => rs (sp 2 rfl (?_))))
 obtain ⟨v2, g3, h⟩ := Aa h
 refine qC (qa rfl (erg (erc (erD AP _) rfl)) (qa rfl (erg (erc rfl (erc (erD Cn _) (erc (erD Ap _) rfl)))) At)) (MA g3) (sp 2 rfl (?_))
 rcases Ab h with ⟨g4, h⟩ | ⟨g4, h⟩
 ·exact qg 17 g4 rfl (sp 5 rfl (evn (qT rfl rfl (rn 1 rfl (Af ((by cases h; exact ⟨.inl rfl, rfl⟩)))))))
 ·refine qg 17 g4 rfl (sp 2 rfl (?_))
  obtain ⟨v5, g6, h⟩ := Aa h
  refine oGR rfl rfl (qC (qa rfl (erg (erc rfl (erc (erD Cn _) (erc (erD Ap _) rfl)))) (qa rfl (erD Ap _) At)) (Lq g6) (sp 2 rfl (evn ?_)))
  rcases Ab h with ⟨g7, h⟩ | ⟨g7, h⟩
  ·exact qT rfl g7 (rn 1 rfl (Af ((by cases h; exact ⟨.inl rfl, rfl⟩))))
  ·refine qF rfl g7 (Ae (hK1 _ (qk [2, 3, 4] rfl (rn 1 rfl (Ac fun K8 hK8 => rn 1 rfl ?_)))))
   obtain ⟨o1, hl, hr1⟩ := Aa h
   have kXB1 : ∀ {z9 : List Y40}, z9 = o1 -> Jn K8 [(8, oL 179 GY z9)] := by
    intro z9 h σ' hk
    subst h
    replace h := hr1
    try dsimp only at h
    exact hK8 _ (lh hk rfl (rn 1 rfl (Af ((by cases h; exact ⟨.inl rfl, rfl⟩)))))
   refine As (fun (s : (List Y40) × Int) => match s with | (y1, y2) => [(2, dL An a2), (3, .box [dL AE a0]), (8, oL 179 GY y1), (24, dL Bt a1.2.1), (25, nI (List.length a1.2.1 : Int)), (26, nI y2)]) _ _ _ _ hl (okr rfl) (fun _ => rfl) ?_
   rintro m ⟨y1, y2⟩ N h hN
   unfold Gd at h
   dsimp only at h
   refine rn 1 rfl (Ac fun K10 hK10 => ?_)
   rcases Ab h with ⟨g11, h⟩ | ⟨g11, h⟩
   ·refine qT rfl g11 (Ae (hK10 _ (Ac fun K12 hK12 => Aq (rs ?_))))
    obtain ⟨e13, g14, h⟩ := Aa h
    refine qI rfl FG g14 (sp 3 rfl (evn (rd (by kernel_rfl) (sd 2 rfl (?_)))))
    obtain ⟨v15, g16, h⟩ := Aa h
    refine ed rfl (qC (qa rfl (erg (erc (erD AP _) rfl)) (qa rfl (erg (erc rfl (erc (erD Ap _) rfl))) At)) (Lp g16) (sd 2 rfl (?_)))
    obtain ⟨v17, g18, h⟩ := Aa h
    refine ed rfl (qC (qa rfl (erg (erc rfl (erc (erD Ap _) rfl))) (qa rfl (erD Ap _) At)) (Kc g18) (?_))
    obtain ⟨v19, g20, h⟩ := Aa h
    refine ed rfl (qC (qa rfl (erg (erc rfl (erc (erO Ca _) rfl))) (qa rfl (erO Ap _) At)) (M1 g20) (sd 6 rfl (Cy (rg (sp 2 rfl (qBs GY [v19.1] rfl rfl rfl KX (?_)))))))
    obtain ⟨g21, h⟩ := Ag h
    exact qA GY y1 [v19.1] rfl rfl (Ao KX [v19.1]) rfl g21 (sp 1 rfl (evn (hK12 _ (rg (sp 2 rfl (evn (hN _ _ h (okr rfl))))))))
   ·exact qF rfl g11 (Al (kXB1 (Option.some.inj h) _ (okr rfl)))
def Fp (a0 : List Y40) (rec : Int -> Option (Sum (Unit) (Bool))) (y1 : Int) : Option (Sum (Unit) (Bool)) := cond (decide (y1 < (List.length a0 : Int))) (Ad (AA a0 y1) fun e5 => cond ((List.length e5.2 : Int) == 0) (some (.inr true)) (rec (IntKind.i64.wrap (y1 + 1)))) (some (.inl ()))
def G7 (a0 : List Y40) : Option (Bool) := Ad (Ai (Fp a0) fz 0) fun o1 => (match o1 with
  | .inl _ => (some false)
  | .inr r => some r)
theorem M7 {a0 : List Y40} {r : Bool} (h : G7 a0 = some r) : Ah Tryz.prog 106 [dL BS a0] (.bool r) := by
 unfold G7 at h
 refine st bR rfl (rn 1 rfl (Ac fun K1 hK1 => rn 1 rfl ?_))
 obtain ⟨o1, hl, hr1⟩ := Aa h
 have kXB1 : (.inl ()) = o1 -> Jn K1 [] := by
  intro h σ' hk
  subst h
  replace h := hr1
  try dsimp only at h
  exact hK1 _ (lh hk rfl (rn 1 rfl (Af ((by cases h; exact ⟨.inl rfl, rfl⟩)))))
 refine As (fun (y1 : Int) => [(5, dL BS a0), (6, nI (List.length a0 : Int)), (7, nI y1)]) _ _ _ _ hl (okr rfl) (fun _ => rfl) ?_
 rintro m y1 N h hN
 unfold Fp at h
 refine rn 1 rfl (Ac fun K2 hK2 => ?_)
 rcases Ab h with ⟨g3, h⟩ | ⟨g3, h⟩
 ·refine qT rfl g3 (Ae (hK2 _ (Ac fun K4 hK4 => Aq (rs ?_))))
  obtain ⟨e5, g6, h⟩ := Aa h
  refine qI rfl ND g6 (sp 3 rfl (evn (rn 1 rfl ?_)))
  rcases Ab h with ⟨g7, h⟩ | ⟨g7, h⟩
  ·exact qT rfl g7 (rn 1 rfl (Af ((by cases h; cases hr1; exact ⟨.inl rfl, rfl⟩))))
  ·exact qF rfl g7 (Ae (hK4 _ (rg (sp 2 rfl (evn (hN _ _ h (okr rfl)))))))
 ·exact qF rfl g3 (Al (kXB1 (Option.some.inj h) _ trivial))
def Au (a0 : List Int) (rec : Int -> Option (Sum (Unit) (Bool))) (y1 : Int) : Option (Sum (Unit) (Bool)) := cond (decide (y1 < (List.length a0 : Int))) (Ad (AA a0 (IntKind.i64.wrap (y1 - 1))) fun e5 => Ad (AA a0 y1) fun e7 => cond (decide (e7 <= e5)) (some (.inr false)) (rec (IntKind.i64.wrap (y1 + 1)))) (some (.inl ()))
def Ct (a0 : List Int) : Option (Bool) := Ad (Ai (Au a0) fz 1) fun o1 => (match o1 with
  | .inl _ => (some true)
  | .inr r => some r)
theorem I6 {a0 : List Int} {r : Bool} (h : Ct a0 = some r) : Ah Tryz.prog 176 [dL An a0] (.bool r) := by
 unfold Ct at h
 refine st da rfl (rn 1 rfl (Ac fun K1 hK1 => rn 1 rfl ?_))
 obtain ⟨o1, hl, hr1⟩ := Aa h
 have kXB1 : (.inl ()) = o1 -> Jn K1 [] := by
  intro h σ' hk
  subst h
  replace h := hr1
  try dsimp only at h
  exact hK1 _ (lh hk rfl (rn 1 rfl (Af ((by cases h; exact ⟨.inl rfl, rfl⟩)))))
 refine As (fun (y1 : Int) => [(0, dL An a0), (3, nI y1)]) _ _ _ _ hl (okr rfl) (fun _ => rfl) ?_
 rintro m y1 N h hN
 unfold Au at h
 refine Ac fun K2 hK2 => rn 1 rfl ?_
 rcases Ab h with ⟨g3, h⟩ | ⟨g3, h⟩
 ·refine qT rfl g3 (Ae (hK2 _ (Ac fun K4 hK4 => Aq (rd (by kernel_rfl) (sd 3 rfl (?_))))))
  obtain ⟨e5, g6, h⟩ := Aa h
  refine ed rfl (qI rfl Ar g6 (sd 3 rfl (?_)))
  obtain ⟨e7, g8, h⟩ := Aa h
  refine ed rfl (qI rfl Ar g8 (sd 2 rfl (Cy ?_)))
  rcases Ab h with ⟨g9, h⟩ | ⟨g9, h⟩
  ·exact qT rfl g9 (rn 1 rfl (Af ((by cases h; cases hr1; exact ⟨.inl rfl, rfl⟩))))
  ·exact qF rfl g9 (Ae (hK4 _ (rg (sp 3 rfl (evn (hN _ _ h (okr rfl)))))))
 ·exact qF rfl g3 (Al (kXB1 (Option.some.inj h) _ trivial))
def Da (a0 : List (List Int)) (rec : Int -> Option (Sum (Unit) (Bool))) (y1 : Int) : Option (Sum (Unit) (Bool)) := cond (decide (y1 < (List.length a0 : Int))) (Ad (AA a0 y1) fun e5 => Ad (Ct e5) fun v7 => cond (!v7) (some (.inr false)) (rec (IntKind.i64.wrap (y1 + 1)))) (some (.inl ()))
def Es (a0 : List (List Int)) : Option (Bool) := Ad (Ai (Da a0) fz 0) fun o1 => (match o1 with
  | .inl _ => (some (decide (0 < (List.length a0 : Int))))
  | .inr r => some r)
theorem Ko {a0 : List (List Int)} {r : Bool} (h : Es a0 = some r) : Ah Tryz.prog 149 [dL Aw a0] (.bool r) := by
 unfold Es at h
 refine st cF rfl (rn 1 rfl (Ac fun K1 hK1 => rn 1 rfl ?_))
 obtain ⟨o1, hl, hr1⟩ := Aa h
 have kXB1 : (.inl ()) = o1 -> Jn K1 [(0, dL Aw a0)] := by
  intro h σ' hk
  subst h
  replace h := hr1
  try dsimp only at h
  exact hK1 _ (lh hk rfl (rn 1 rfl (Af ((by cases h; exact ⟨.inl rfl, rfl⟩)))))
 refine As (fun (y1 : Int) => [(0, dL Aw a0), (5, dL Aw a0), (6, nI (List.length a0 : Int)), (7, nI y1)]) _ _ _ _ hl (okr rfl) (fun _ => rfl) ?_
 rintro m y1 N h hN
 unfold Da at h
 refine rn 1 rfl (Ac fun K2 hK2 => ?_)
 rcases Ab h with ⟨g3, h⟩ | ⟨g3, h⟩
 ·refine qT rfl g3 (Ae (hK2 _ (Ac fun K4 hK4 => Aq (rs ?_))))
  obtain ⟨e5, g6, h⟩ := Aa h
  refine qI rfl AX g6 (sp 2 rfl (evn (rs (sp 1 rfl (?_)))))
  obtain ⟨v7, g8, h⟩ := Aa h
  refine qC (qa rfl (erD Ap _) At) (I6 g8) (sp 1 rfl (evn ?_))
  rcases Ab h with ⟨g9, h⟩ | ⟨g9, h⟩
  ·exact qT rfl g9 (rn 1 rfl (Af ((by cases h; cases hr1; exact ⟨.inl rfl, rfl⟩))))
  ·exact qF rfl g9 (Ae (hK4 _ (rg (sp 2 rfl (evn (hN _ _ h (okr rfl)))))))
 ·exact qF rfl g3 (Al (kXB1 (Option.some.inj h) _ (okr rfl)))
def Cd (rec : (Int × Int) -> Option (Int)) (y2 : Int) (x10 : Int) : Option (Int) := rec (x10, (IntKind.i64.wrap (y2 + 1)))
def EI (rec : (Int × Int) -> Option (Int)) (y1 : Int) (y2 : Int) (e6 : List Int) (x9 : Bool) : Option (Int) := cond x9 (Cd rec y2 (List.length e6 : Int)) (Cd rec y2 y1)
def Bb (a0 : List (List Int)) (rec : (Int × Int) -> Option (Int)) (s : Int × Int) : Option (Int) := match s with
  | (y1, y2) => cond (decide (y2 < (List.length a0 : Int))) (Ad (AA a0 y2) fun e6 => cond (y2 == 0) (EI rec y1 y2 e6 true) (EI rec y1 y2 e6 (decide ((List.length e6 : Int) < y1)))) (some y1)
def Er (a0 : List (List Int)) : Option (Int) := Ad (Ai (Bb a0) fz (0, 0)) fun z2 => some z2
theorem Kn {a0 : List (List Int)} {r : Int} (h : Er a0 = some r) : Ah Tryz.prog 150 [dL Aw a0] (nI r) := by
 unfold Er at h
 refine st cG rfl (rn 2 rfl (Ac fun K1 hK1 => rn 1 rfl ?_))
 obtain ⟨o1, hl, hr1⟩ := Aa h
 have kXB1 : ∀ {z2 : Int}, z2 = o1 -> Jn K1 [(3, nI z2)] := by
  intro z2 h σ' hk
  subst h
  replace h := hr1
  try dsimp only at h
  exact hK1 _ (lh hk rfl (rn 1 rfl (Af ((by cases h; exact ⟨.inl rfl, rfl⟩)))))
 refine As (fun (s : Int × Int) => match s with | (y1, y2) => [(3, nI y1), (6, dL Aw a0), (7, nI (List.length a0 : Int)), (8, nI y2)]) _ _ _ _ hl (okr rfl) (fun _ => rfl) ?_
 rintro m ⟨y1, y2⟩ N h hN
 unfold Bb at h
 dsimp only at h
 refine rn 1 rfl (Ac fun K3 hK3 => ?_)
 rcases Ab h with ⟨g4, h⟩ | ⟨g4, h⟩
 ·refine qT rfl g4 (Ae (hK3 _ (Ac fun K5 hK5 => Aq (rs (sp 1 rfl (?_))))))
  obtain ⟨e6, g7, h⟩ := Aa h
  refine qI rfl AX g7 (sp 3 rfl (evn (rk fun K8 hK8 => ?_)))
  have kJ2 : ∀ {x9 : Bool}, EI (Ai (Bb a0) m) y1 y2 e6 x9 = some o1 -> Jn K8 [(3, nI y1), (5, dL An e6), (6, dL Aw a0), (7, nI (List.length a0 : Int)), (8, nI y2), (20, .bool x9)] := by
   intro x9 h σ' hk
   unfold EI at h
   refine hK8 _ (lh hk rfl ?_)
   have kJ3 : ∀ {x10 : Int}, Cd (Ai (Bb a0) m) y2 x10 = some o1 -> Jn K5 [(3, nI x10), (6, dL Aw a0), (7, nI (List.length a0 : Int)), (8, nI y2)] := by
    intro x10 h σ' hk
    unfold Cd at h
    exact hK5 _ (lh hk rfl (rg (sp 2 rfl (evn (hN _ _ h (okr rfl))))))
   rcases Ab h with ⟨g11, h⟩ | ⟨g11, h⟩
   ·exact qT rfl g11 (rg (sp 3 rfl (evn (kJ3 h _ (okr rfl)))))
   ·exact qF rfl g11 (Ae (kJ3 h _ (okr rfl)))
  refine sp 3 rfl (?_)
  rcases Ab h with ⟨g12, h⟩ | ⟨g12, h⟩
  ·exact qg 15 g12 rfl (sp 5 rfl (evn (kJ2 h _ (okr rfl))))
  ·exact qg 15 g12 rfl (sp 5 rfl (evn (kJ2 h _ (okr rfl))))
 ·exact qF rfl g4 (Al (kXB1 (Option.some.inj h) _ (okr rfl)))
def Ed (a0 : List Int) (a2 : Int) (rec : Int -> Option (Sum (Unit) (Int))) (y1 : Int) : Option (Sum (Unit) (Int)) := cond (decide (y1 < (List.length a0 : Int))) (Ad (AA a0 y1) fun e5 => cond (decide (a2 <= e5)) (some (.inr y1)) (rec (IntKind.i64.wrap (y1 + 1)))) (some (.inl ()))
def G4 (a0 : List Int) (a1 : Int) (a2 : Int) : Option (Int) := Ad (Ai (Ed a0 a2) fz (if 0 < a1 then a1 else 0)) fun o1 => (match o1 with
  | .inl _ => (some (List.length a0 : Int))
  | .inr r => some r)
theorem M2 {a0 : List Int} {a1 : Int} {a2 : Int} {r : Int} (h : G4 a0 a1 a2 = some r) : Ah Tryz.prog 151 [dL An a0, nI a1, nI a2] (nI r) := by
 unfold G4 at h
 refine st cH rfl (rn 1 rfl (Ac fun K1 hK1 => rn 1 rfl ?_))
 obtain ⟨o1, hl, hr1⟩ := Aa h
 have kXB1 : (.inl ()) = o1 -> Jn K1 [(0, dL An a0)] := by
  intro h σ' hk
  subst h
  replace h := hr1
  try dsimp only at h
  exact hK1 _ (lh hk rfl (rn 1 rfl (Af ((by cases h; exact ⟨.inl rfl, rfl⟩)))))
 refine As (fun (y1 : Int) => [(0, dL An a0), (2, nI a2), (7, nI y1)]) _ _ _ _ hl (okr rfl) (fun _ => rfl) ?_
 rintro m y1 N h hN
 unfold Ed at h
 refine Ac fun K2 hK2 => rn 1 rfl ?_
 rcases Ab h with ⟨g3, h⟩ | ⟨g3, h⟩
 ·refine qT rfl g3 (Ae (hK2 _ (Ac fun K4 hK4 => Aq (rs (sp 2 rfl (?_))))))
  obtain ⟨e5, g6, h⟩ := Aa h
  refine qI rfl Ar g6 (sp 3 rfl (evn ?_))
  rcases Ab h with ⟨g7, h⟩ | ⟨g7, h⟩
  ·exact qT rfl g7 (rn 1 rfl (Af ((by cases h; cases hr1; exact ⟨.inl rfl, rfl⟩))))
  ·exact qF rfl g7 (Ae (hK4 _ (rg (sp 3 rfl (evn (hN _ _ h (okr rfl)))))))
 ·exact qF rfl g3 (Al (kXB1 (Option.some.inj h) _ (okr rfl)))
def Ba (y2 : List (List Int)) (e13 : List Int) (rec : Int -> Option (Int)) (y5 : Int) : Option (Int) := cond (decide (0 < y5)) (Ad (AA y2 (IntKind.i64.wrap (y5 - 1))) fun e19 => Ad (AA e19 0) fun e21 => Ad (AA e13 0) fun e23 => cond (decide (e23 < e21)) (rec (IntKind.i64.wrap (y5 - 1))) (some y5)) (some y5)
def Bw (a0 : List (List Int)) (rec : ((List (List Int)) × Int) -> Option ((List (List Int)))) (s : (List (List Int)) × Int) : Option ((List (List Int))) := match s with
  | (y2, y3) => cond (decide (y3 < (List.length a0 : Int))) (Ad (AA a0 y3) fun e13 => Ad (Ai (Ba y2 e13) fz (List.length y2 : Int)) fun z16 => chk ((0 : Int) <= 0 ∧ 0 <= z16 ∧ z16 <= (List.length y2 : Int)) (chk (List.length ([] : List (List Int)) + List.length (A7 y2 0 z16) <= lim) (chk (List.length (([] : List (List Int)) ++ (A7 y2 0 z16)) + List.length [e13] <= lim) (chk ((0 : Int) <= z16 ∧ z16 <= (List.length y2 : Int) ∧ (List.length y2 : Int) <= (List.length y2 : Int)) (chk (List.length ((([] : List (List Int)) ++ (A7 y2 0 z16)) ++ [e13]) + List.length (A7 y2 z16 (List.length y2 : Int)) <= lim) (rec ((((([] : List (List Int)) ++ (A7 y2 0 z16)) ++ [e13]) ++ (A7 y2 z16 (List.length y2 : Int))), (IntKind.i64.wrap (y3 + 1))))))))) (some y2)
def By (rec : ((List Int) × Int × (List Int) × Int) -> Option (Sum (Unit) ((List Int) × Int))) (z9 : List (List Int)) (y9 : Int) (e38 : List Int) (x45 : List Int) (x46 : List Int) : Option (Sum (Unit) ((List Int) × Int)) := Ad (AA x45 (Int.tmod (IntKind.i64.wrap (y9 - 1)) (List.length z9 : Int))) fun e48 => cond (e48 == (List.length e38 : Int)) (some (.inr (x46, y9))) (Ad (AA x45 (Int.tmod (IntKind.i64.wrap (y9 - 1)) (List.length z9 : Int))) fun e51 => Ad (AA e38 e51) fun e53 => rec (x45, e53, x46, (IntKind.i64.wrap (y9 + 1))))
def Bx (z9 : List (List Int)) (rec : ((List Int) × Int × (List Int) × Int) -> Option (Sum (Unit) ((List Int) × Int))) (s : (List Int) × Int × (List Int) × Int) : Option (Sum (Unit) ((List Int) × Int)) := match s with
  | (y6, y7, y8, y9) => chk ((List.length z9 : Int) ≠ 0) (Ad (AA z9 (Int.tmod (IntKind.i64.wrap (y9 - 1)) (List.length z9 : Int))) fun e38 => Ad (AA y6 (Int.tmod (IntKind.i64.wrap (y9 - 1)) (List.length z9 : Int))) fun e41 => Ad (AA e38 e41) fun e43 => cond (e43 == y7) (chk (List.length y8 + List.length [y7] <= lim) (Ad (AA y6 (Int.tmod (IntKind.i64.wrap (y9 - 1)) (List.length z9 : Int))) fun e57 => Ad (AA y6 (Int.tmod (IntKind.i64.wrap (y9 - 1)) (List.length z9 : Int))) fun e59 => By rec z9 y9 e38 (It y6 (Int.tmod (IntKind.i64.wrap (y9 - 1)) (List.length z9 : Int)) (IntKind.i64.wrap (e57 + 1))) (y8 ++ [y7]))) (Ad (AA y6 (Int.tmod (IntKind.i64.wrap (y9 - 1)) (List.length z9 : Int))) fun e61 => Ad (G4 e38 e61 y7) fun v63 => Ad (AA y6 (Int.tmod (IntKind.i64.wrap (y9 - 1)) (List.length z9 : Int))) fun e65 => By rec z9 y9 e38 (It y6 (Int.tmod (IntKind.i64.wrap (y9 - 1)) (List.length z9 : Int)) v63) y8))
def C4 (a0 : List (List Int)) : Option ((List Int) × Int) := Ad (Es a0) fun v2 => cond (!v2) (some (([] : List Int), 0)) (Ad (Er a0) fun v5 => cond (v5 == 0) (some (([] : List Int), 0)) (Ad (Ai (Bw a0) fz (([] : List (List Int)), 0)) fun z9 => chk ((0 : Int) <= (List.length z9 : Int) ∧ Int.toNat (List.length z9 : Int) <= lim) (Ad (AA z9 (IntKind.i64.wrap ((List.length z9 : Int) - 1))) fun e32 => Ad (AA e32 0) fun e34 => Ad (Ai (Bx z9) fz ((List.replicate (Int.toNat (List.length z9 : Int)) (0 : Int)), e34, ([] : List Int), 1)) fun o3 => (match o3 with
  | .inl _ => (none)
  | .inr r => some r))))
theorem Jx {a0 : List (List Int)} {r : (List Int) × Int} (h : C4 a0 = some r) : Ah Tryz.prog 108 [dL Aw a0] (.tup [oL 3 An r.1, nI r.2]) := by
 unfold C4 at h
 refine st bT rfl (rn 1 rfl (Ac fun K1 hK1 => rs (sp 1 rfl (?_))))
 obtain ⟨v2, g3, h⟩ := Aa h
 refine qC (qa rfl (erD AJ _) At) (Ko g3) (sp 2 rfl (?_))
 rcases Ab h with ⟨g4, h⟩ | ⟨g4, h⟩
 ·exact qg 17 g4 rfl (sp 4 rfl (evn (qT rfl rfl (rn 1 rfl (Af ((by cases h; exact ⟨.inl rfl, rfl⟩)))))))
 ·refine qg 17 g4 rfl (sp 1 rfl (?_))
  obtain ⟨v5, g6, h⟩ := Aa h
  refine oGR rfl rfl (qC (qa rfl (erD AJ _) At) (Kn g6) (sp 2 rfl (evn ?_)))
  rcases Ab h with ⟨g7, h⟩ | ⟨g7, h⟩
  ·exact qT rfl g7 (rn 1 rfl (Af ((by cases h; exact ⟨.inl rfl, rfl⟩))))
  ·refine qF rfl g7 (Ae (hK1 _ (rn 1 rfl (qk [0, 4] rfl (Ac fun K8 hK8 => rn 1 rfl ?_)))))
   obtain ⟨o1, hl, hr1⟩ := Aa h
   have kXB1 : ∀ {z9 : List (List Int)}, z9 = o1 -> Jn K8 [(4, oL 27 Aw z9)] := by
    intro z9 h σ' hk
    subst h
    replace h := hr1
    try dsimp only at h
    refine hK8 _ (lh hk rfl (rs (sp 2 rfl (?_))))
    obtain ⟨g31, h⟩ := Ag h
    refine qMu An (0 : Int) rfl rfl rfl rfl g31 rfl (qAu rfl rfl rfl rfl (evn (rs (sp 4 rfl (?_)))))
    obtain ⟨e32, g33, h⟩ := Aa h
    refine qI rfl AX g33 (sp 1 rfl (?_))
    obtain ⟨e34, g35, h⟩ := Aa h
    refine qI rfl Ar g35 (sp 2 rfl (evn (rn 2 rfl ?_)))
    obtain ⟨o3, hl, hr3⟩ := Aa h
    refine As (fun (s : (List Int) × Int × (List Int) × Int) => match s with | (y6, y7, y8, y9) => [(4, oL 27 Aw z9), (8, wL 3 An y6), (9, nI y7), (10, oL 3 An y8), (11, nI y9)]) _ _ _ _ hl (okr rfl) (fun _ => rfl) ?_
    rintro m ⟨y6, y7, y8, y9⟩ N h hN
    unfold Bx at h
    dsimp only at h
    refine Ac fun K36 hK36 => Aq (rs (sp 4 rfl (?_)))
    obtain ⟨g37, h⟩ := Ag h
    refine qB rfl ⟨rfl, g37⟩ rfl (sp 1 rfl (evn (rs (sp 2 rfl (?_)))))
    obtain ⟨e38, g39, h⟩ := Aa h
    refine qI rfl AX g39 (sp 2 rfl (evn (Ac fun K40 hK40 => rs (sp 3 rfl (?_)))))
    obtain ⟨e41, g42, h⟩ := Aa h
    refine qIu rfl ⟨(Az g42).1, (Az g42).2.1⟩ (qLu 0 rfl rfl rfl Ar g42 rfl rfl rfl (?_))
    obtain ⟨e43, g44, h⟩ := Aa h
    refine qI rfl Ar g44 (sp 3 rfl (evn ?_))
    have kJ4 : ∀ {x45 : List Int} {x46 : List Int}, By (Ai (Bx z9) m) z9 y9 e38 x45 x46 = some o3 -> Jn K40 [(4, oL 27 Aw z9), (8, wL 3 An x45), (10, oL 3 An x46), (11, nI y9), (12, nI (Int.tmod (IntKind.i64.wrap (y9 - 1)) (List.length z9 : Int))), (13, dL An e38)] := by
     intro x45 x46 h σ' hk
     unfold By at h
     refine hK40 _ (lh hk rfl (Ac fun K47 hK47 => rs (sp 2 rfl (?_))))
     obtain ⟨e48, g49, h⟩ := Aa h
     refine qIu rfl ⟨(Az g49).1, (Az g49).2.1⟩ (qLu 0 rfl rfl rfl Ar g49 rfl rfl rfl (sp 3 rfl (evn ?_)))
     rcases Ab h with ⟨g50, h⟩ | ⟨g50, h⟩
     ·exact qT rfl g50 (rn 1 rfl (Af ((by cases h; cases hr3; exact ⟨.inl rfl, rfl⟩))))
     ·refine qF rfl g50 (Ae (hK47 _ (rg (sp 3 rfl (?_)))))
      obtain ⟨e51, g52, h⟩ := Aa h
      refine qIu rfl ⟨(Az g52).1, (Az g52).2.1⟩ (qLu 0 rfl rfl rfl Ar g52 rfl rfl rfl (?_))
      obtain ⟨e53, g54, h⟩ := Aa h
      exact qI rfl Ar g54 (sp 2 rfl (evn (hK36 _ (rg (sp 3 rfl (evn (hN _ _ h (okr rfl))))))))
    rcases Ab h with ⟨g55, h⟩ | ⟨g55, h⟩
    ·refine qT rfl g55 (rs (sp 2 rfl (qBs An [y7] rfl rfl rfl Ar (?_))))
     obtain ⟨g56, h⟩ := Ag h
     refine qA An y8 [y7] rfl rfl (Ao Ar [y7]) rfl g56 (sp 1 rfl (evn (rg (sp 2 rfl (?_)))))
     obtain ⟨e57, g58, h⟩ := Aa h
     refine qIu rfl ⟨(Az g58).1, (Az g58).2.1⟩ (qLu 0 rfl rfl rfl Ar g58 rfl rfl rfl (sp 1 rfl (?_)))
     obtain ⟨e59, g60, h⟩ := Aa h
     exact qIu rfl ⟨(Az g60).1, (Az g60).2.1⟩ (qSu (IntKind.i64.wrap (e57 + 1)) rfl rfl Ar ⟨(Az g60).1, (Az g60).2.1⟩ rfl rfl rfl rfl rfl rfl (evn (kJ4 h _ (okr rfl))))
    ·refine qF rfl g55 (rg (sp 5 rfl (?_)))
     obtain ⟨e61, g62, h⟩ := Aa h
     refine qIu rfl ⟨(Az g62).1, (Az g62).2.1⟩ (qLu 0 rfl rfl rfl Ar g62 rfl rfl rfl (sp 1 rfl (?_)))
     obtain ⟨v63, g64, h⟩ := Aa h
     refine qC (qa rfl (erD Ap _) (qs rfl (qs rfl At))) (M2 g64) (?_)
     obtain ⟨e65, g66, h⟩ := Aa h
     exact qIu rfl ⟨(Az g66).1, (Az g66).2.1⟩ (qSu v63 rfl rfl Ar ⟨(Az g66).1, (Az g66).2.1⟩ rfl rfl rfl rfl rfl rfl (evn (kJ4 h _ (okr rfl))))
   refine As (fun (s : (List (List Int)) × Int) => match s with | (y2, y3) => [(4, oL 27 Aw y2), (22, dL Aw a0), (23, nI (List.length a0 : Int)), (24, nI y3)]) _ _ _ _ hl (okr rfl) (fun _ => rfl) ?_
   rintro m ⟨y2, y3⟩ N h hN
   unfold Bw at h
   dsimp only at h
   refine rn 1 rfl (Ac fun K10 hK10 => ?_)
   rcases Ab h with ⟨g11, h⟩ | ⟨g11, h⟩
   ·refine qT rfl g11 (Ae (hK10 _ (Ac fun K12 hK12 => Aq (rs ?_))))
    obtain ⟨e13, g14, h⟩ := Aa h
    refine qI rfl AX g14 (sp 2 rfl (evn (rn 1 rfl (Ac fun K15 hK15 => ?_))))
    obtain ⟨o2, hl, hr2⟩ := Aa h
    have kXB2 : ∀ {z16 : Int}, z16 = o2 -> Jn K15 [(4, oL 27 Aw y2), (6, dL An e13), (7, nI z16), (22, dL Aw a0), (23, nI (List.length a0 : Int)), (24, nI y3)] := by
     intro z16 h σ' hk
     subst h
     replace h := hr2
     try dsimp only at h
     refine hK15 _ (lh hk rfl (rgd (by kernel_rfl) (ed rfl (qBs Aj [] rfl rfl rfl AZ (sd 2 rfl (?_))))))
     obtain ⟨g26, h⟩ := Ag h
     refine ed rfl (qSl rfl AX g26 (?_))
     obtain ⟨g27, h⟩ := Ag h
     refine ed rfl (qA Aw ([] : List (List Int)) (A7 y2 0 z16) rfl rfl (Ao AX (A7 y2 0 z16)) (Gi (fun _ => rfl) _) g27 (sd 1 rfl (ed rfl (qBs Aw [e13] rfl rfl rfl AX (?_)))))
     obtain ⟨g28, h⟩ := Ag h
     refine ed rfl (qA Aw (([] : List (List Int)) ++ (A7 y2 0 z16)) [e13] rfl rfl (Ao AX [e13]) rfl g28 (sd 2 rfl (?_)))
     obtain ⟨g29, h⟩ := Ag h
     refine ed rfl (qSl rfl AX g29 (?_))
     obtain ⟨g30, h⟩ := Ag h
     exact ed rfl (qA Aw ((([] : List (List Int)) ++ (A7 y2 0 z16)) ++ [e13]) (A7 y2 z16 (List.length y2 : Int)) rfl rfl (Ao AX (A7 y2 z16 (List.length y2 : Int))) (Gi (fun _ => rfl) _) g30 (sd 1 rfl (Cy (hK12 _ (rg (sp 2 rfl (evn (hN _ _ h (okr rfl)))))))))
    refine As (fun (y5 : Int) => [(4, oL 27 Aw y2), (6, dL An e13), (7, nI y5), (22, dL Aw a0), (23, nI (List.length a0 : Int)), (24, nI y3)]) _ _ _ _ hl (okr rfl) (fun _ => rfl) ?_
    rintro m y5 N h hN
    unfold Ba at h
    refine Ac fun K17 hK17 => rd (by kernel_rfl) (sd 3 rfl (?_))
    rcases Ab h with ⟨g18, h⟩ | ⟨g18, h⟩
    ·refine qgd 32 g18 rfl (sd 3 rfl (?_))
     obtain ⟨e19, g20, h⟩ := Aa h
     refine ed rfl (oGR rfl rfl (qI rfl AX g20 (sd 1 rfl (?_))))
     obtain ⟨e21, g22, h⟩ := Aa h
     refine ed rfl (oGR rfl rfl (qI rfl Ar g22 (sd 2 rfl (?_))))
     obtain ⟨e23, g24, h⟩ := Aa h
     refine ed rfl (oGR rfl rfl (qI rfl Ar g24 (sd 3 rfl (Cy ?_))))
     rcases Ab h with ⟨g25, h⟩ | ⟨g25, h⟩
     ·exact qT rfl g25 (Ae (hK17 _ (Aq (rg (sp 3 rfl (evn (hN _ _ h (okr rfl))))))))
     ·exact qF rfl g25 (Al (kXB2 (Option.some.inj h) _ (okr rfl)))
    ·exact qgd 32 g18 rfl (sd 12 rfl (Cy (qk [4, 6, 7, 22, 23, 24, 44] rfl (qF rfl rfl (Al (kXB2 (Option.some.inj h) _ (okr rfl)))))))
   ·exact qF rfl g11 (Al (kXB1 (Option.some.inj h) _ (okr rfl)))
def Gx (a0 : Y40) : Option (Y40) := some a0
theorem MD {a0 : Y40} {r : Y40} (h : Gx a0 = some r) : Ah Tryz.prog 197 [.agg (BS a0)] (.agg (Ek r)) := by
 unfold Gx at h
 exact st dt rfl (rn 2 rfl (Af ((by cases h; exact ⟨.inl rfl, rfl⟩))))
def ER (a0 : Y40) : Option (Bool) := Ad (Gx a0) fun v1 => Ad (AF v1) fun v3 => some v3
theorem Ja {a0 : Y40} {r : Bool} (h : ER a0 = some r) : Ah Tryz.prog 186 [.agg (BS a0)] (.bool r) := by
 unfold ER at h
 refine st dj rfl (rn 1 rfl (rs (sp 1 rfl (?_))))
 obtain ⟨v1, g2, h⟩ := Aa h
 refine qC (qa rfl (erg (erc rfl (erc (erD AJ _) rfl))) At) (MD g2) (?_)
 obtain ⟨v3, g4, h⟩ := Aa h
 exact qC (qa rfl (erg (erc rfl (erc (erD AJ _) rfl))) At) (AL g4) (sp 1 rfl (evn (Af ((by cases h; exact ⟨.inl rfl, rfl⟩)))))
def D7 (a0 : Y40) (a1 : List Int) (rec : Int -> Option (Int)) (y1 : Int) : Option (Int) := cond (decide (y1 < (List.length a0.2 : Int))) (Ad (AA a0.2 y1) fun e10 => chk ((0 : Int) <= 0 ∧ 0 <= (List.length a1 : Int) ∧ (List.length a1 : Int) <= (List.length e10 : Int)) (Ad (Bg (A7 e10 0 (List.length a1 : Int)) a1) fun v13 => cond (decide (v13 < 0)) (rec (IntKind.i64.wrap (y1 + 1))) (some y1))) (some y1)
def D8 (a0 : Y40) (a1 : List Int) (rec : Int -> Option (Int)) (y2 : Int) : Option (Int) := cond (decide (y2 < (List.length a0.2 : Int))) (Ad (AA a0.2 y2) fun e20 => chk ((0 : Int) <= 0 ∧ 0 <= (List.length a1 : Int) ∧ (List.length a1 : Int) <= (List.length e20 : Int)) (Ad (Bg (A7 e20 0 (List.length a1 : Int)) a1) fun v23 => cond (v23 == 0) (rec (IntKind.i64.wrap (y2 + 1))) (some y2))) (some y2)
def CQ (a0 : Y40) (a1 : List Int) : Option (Int × Int) := cond (decide (a0.1 < (List.length a1 : Int))) (some (0, 0)) (Ad (ER a0) fun v3 => cond (!v3) (some (0, 0)) (Ad (Ai (D7 a0 a1) fz 0) fun z7 => Ad (Ai (D8 a0 a1) fz z7) fun z17 => some (z7, z17)))
theorem Kd {a0 : Y40} {a1 : List Int} {r : Int × Int} (h : CQ a0 a1 = some r) : Ah Tryz.prog 187 [.agg (BS a0), dL An a1] (.tup [nI r.1, nI r.2]) := by
 unfold CQ at h
 refine st dk rfl (rn 2 rfl (Ac fun K1 hK1 => rs (sp 5 rfl (?_))))
 rcases Ab h with ⟨g2, h⟩ | ⟨g2, h⟩
 ·exact qg 15 g2 rfl (sp 4 rfl (evn (qT rfl rfl (rn 1 rfl (Af ((by cases h; exact ⟨.inl rfl, rfl⟩)))))))
 ·refine qg 15 g2 rfl (sp 1 rfl (?_))
  obtain ⟨v3, g4, h⟩ := Aa h
  refine oGR rfl rfl (qC (qa rfl (erg (erc rfl (erc (erD AJ _) rfl))) At) (Ja g4) (sp 2 rfl (evn ?_)))
  rcases Ab h with ⟨g5, h⟩ | ⟨g5, h⟩
  ·exact qT rfl g5 (rn 1 rfl (Af ((by cases h; exact ⟨.inl rfl, rfl⟩))))
  ·refine qF rfl g5 (Ae (hK1 _ (qk [1, 2, 6] rfl (rn 1 rfl (Ac fun K6 hK6 => ?_)))))
   obtain ⟨o1, hl, hr1⟩ := Aa h
   have kXB1 : ∀ {z7 : Int}, z7 = o1 -> Jn K6 [(1, dL An a1), (2, .box [nI a0.1, dL Aw a0.2]), (6, nI (List.length a1 : Int)), (7, nI z7)] := by
    intro z7 h σ' hk
    subst h
    replace h := hr1
    try dsimp only at h
    refine hK6 _ (lh hk rfl (rn 1 rfl (Ac fun K16 hK16 => ?_)))
    obtain ⟨o2, hl, hr2⟩ := Aa h
    have kXB2 : ∀ {z17 : Int}, z17 = o2 -> Jn K16 [(7, nI z7), (8, nI z17)] := by
     intro z17 h σ' hk
     subst h
     replace h := hr2
     try dsimp only at h
     exact hK16 _ (lh hk rfl (rn 1 rfl (Af ((by cases h; exact ⟨.inl rfl, rfl⟩)))))
    refine As (fun (y2 : Int) => [(1, dL An a1), (2, .box [nI a0.1, dL Aw a0.2]), (6, nI (List.length a1 : Int)), (7, nI z7), (8, nI y2)]) _ _ _ _ hl (okr rfl) (fun _ => rfl) ?_
    rintro m y2 N h hN
    unfold D8 at h
    refine Ac fun K18 hK18 => rs (sp 6 rfl (?_))
    rcases Ab h with ⟨g19, h⟩ | ⟨g19, h⟩
    ·refine qg 45 g19 rfl (sp 3 rfl (?_))
     obtain ⟨e20, g21, h⟩ := Aa h
     refine oGR rfl rfl (qI rfl AX g21 (sp 2 rfl (?_)))
     obtain ⟨g22, h⟩ := Ag h
     refine oGR rfl rfl (qSl rfl Ar g22 (sp 1 rfl (?_)))
     obtain ⟨v23, g24, h⟩ := Aa h
     refine oGR rfl rfl (qC (qa rfl (erD Ap _) (qa rfl (erD Ap _) At)) (Cb g24) (sp 2 rfl (evn ?_)))
     rcases Ab h with ⟨g25, h⟩ | ⟨g25, h⟩
     ·exact qT rfl g25 (Ae (hK18 _ (Aq (rg (sp 3 rfl (evn (hN _ _ h (okr rfl))))))))
     ·exact qF rfl g25 (Al (kXB2 (Option.some.inj h) _ (okr rfl)))
    ·exact qg 45 g19 rfl (sp 11 rfl (evn (qk [1, 2, 6, 7, 8, 56] rfl (qF rfl rfl (Al (kXB2 (Option.some.inj h) _ (okr rfl)))))))
   refine As (fun (y1 : Int) => [(1, dL An a1), (2, .box [nI a0.1, dL Aw a0.2]), (6, nI (List.length a1 : Int)), (7, nI y1)]) _ _ _ _ hl (okr rfl) (fun _ => rfl) ?_
   rintro m y1 N h hN
   unfold D7 at h
   refine Ac fun K8 hK8 => rs (sp 6 rfl (?_))
   rcases Ab h with ⟨g9, h⟩ | ⟨g9, h⟩
   ·refine qg 25 g9 rfl (sp 3 rfl (?_))
    obtain ⟨e10, g11, h⟩ := Aa h
    refine oGR rfl rfl (qI rfl AX g11 (sp 2 rfl (?_)))
    obtain ⟨g12, h⟩ := Ag h
    refine oGR rfl rfl (qSl rfl Ar g12 (sp 1 rfl (?_)))
    obtain ⟨v13, g14, h⟩ := Aa h
    refine oGR rfl rfl (qC (qa rfl (erD Ap _) (qa rfl (erD Ap _) At)) (Cb g14) (sp 2 rfl (evn ?_)))
    rcases Ab h with ⟨g15, h⟩ | ⟨g15, h⟩
    ·exact qT rfl g15 (Ae (hK8 _ (Aq (rg (sp 3 rfl (evn (hN _ _ h (okr rfl))))))))
    ·exact qF rfl g15 (Al (kXB1 (Option.some.inj h) _ (okr rfl)))
   ·exact qg 25 g9 rfl (sp 11 rfl (evn (qk [1, 2, 6, 7, 36] rfl (qF rfl rfl (Al (kXB1 (Option.some.inj h) _ (okr rfl)))))))
def CP (rec : ((List Int) × Int) -> Option ((List Int))) (y2 : Int) (x18 : List Int) : Option ((List Int)) := rec (x18, (IntKind.i64.wrap (y2 + 1)))
def B4 (rec : ((List Int) × Int) -> Option ((List Int))) (a1 : List Int) (y1 : List Int) (y2 : Int) (e14 : List Int) (x17 : Bool) : Option ((List Int)) := cond x17 (Ad (AA e14 (List.length a1 : Int)) fun e20 => chk (List.length y1 + List.length [e20] <= lim) (CP rec y2 (y1 ++ [e20]))) (CP rec y2 y1)
def B3 (a0 : Y40) (a1 : List Int) (v6 : Int × Int) (rec : ((List Int) × Int) -> Option ((List Int))) (s : (List Int) × Int) : Option ((List Int)) := match s with
  | (y1, y2) => cond (decide (y2 < (List.length (A7 a0.2 v6.1 v6.2) : Int))) (Ad (AA (A7 a0.2 v6.1 v6.2) y2) fun e14 => cond ((List.length y1 : Int) == 0) (B4 rec a1 y1 y2 e14 true) (Ad (AA y1 (IntKind.i64.wrap ((List.length y1 : Int) - 1))) fun e24 => Ad (AA e14 (List.length a1 : Int)) fun e26 => B4 rec a1 y1 y2 e14 (e24 != e26))) (some y1)
def Dm (a0 : Y40) (a1 : List Int) : Option ((List Int)) := cond (decide (a0.1 <= (List.length a1 : Int))) (some ([] : List Int)) (Ad (ER a0) fun v3 => cond (!v3) (some ([] : List Int)) (Ad (CQ a0 a1) fun v6 => chk ((0 : Int) <= v6.1 ∧ v6.1 <= v6.2 ∧ v6.2 <= (List.length a0.2 : Int)) (Ad (Ai (B3 a0 a1 v6) fz (([] : List Int), 0)) fun z10 => some z10)))
theorem Ls {a0 : Y40} {a1 : List Int} {r : (List Int)} (h : Dm a0 a1 = some r) : Ah Tryz.prog 175 [.agg (BS a0), dL An a1] (oL 3 An r) := by
 unfold Dm at h
 refine st c9 rfl (rn 2 rfl (Ac fun K1 hK1 => rs (sp 5 rfl (?_))))
 rcases Ab h with ⟨g2, h⟩ | ⟨g2, h⟩
 ·exact qg 17 g2 rfl (sp 4 rfl (evn (qT rfl rfl (rn 1 rfl (Af ((by cases h; exact ⟨.inl rfl, rfl⟩)))))))
 ·refine qg 17 g2 rfl (sp 1 rfl (?_))
  obtain ⟨v3, g4, h⟩ := Aa h
  refine oGR rfl rfl (qC (qa rfl (erg (erc rfl (erc (erD AJ _) rfl))) At) (Ja g4) (sp 2 rfl (evn ?_)))
  rcases Ab h with ⟨g5, h⟩ | ⟨g5, h⟩
  ·exact qT rfl g5 (rn 1 rfl (Af ((by cases h; exact ⟨.inl rfl, rfl⟩))))
  ·refine qF rfl g5 (Ae (hK1 _ (qk [1, 2, 5] rfl (rn 1 rfl (rs (sp 2 rfl (?_)))))))
   obtain ⟨v6, g7, h⟩ := Aa h
   refine qC (qa rfl (erg (erc rfl (erc (erD AJ _) rfl))) (qa rfl (erD Ap _) At)) (Kd g7) (sp 5 rfl (evn (Ac fun K8 hK8 => rs (sp 4 rfl (?_)))))
   obtain ⟨g9, h⟩ := Ag h
   refine qSl rfl AX g9 (sp 2 rfl (evn ?_))
   obtain ⟨o1, hl, hr1⟩ := Aa h
   have kXB1 : ∀ {z10 : List Int}, z10 = o1 -> Jn K8 [(6, oL 3 An z10)] := by
    intro z10 h σ' hk
    subst h
    replace h := hr1
    try dsimp only at h
    exact hK8 _ (lh hk rfl (rn 1 rfl (Af ((by cases h; exact ⟨.inl rfl, rfl⟩)))))
   refine As (fun (s : (List Int) × Int) => match s with | (y1, y2) => [(5, nI (List.length a1 : Int)), (6, oL 3 An y1), (32, dL Aw (A7 a0.2 v6.1 v6.2)), (33, nI (List.length (A7 a0.2 v6.1 v6.2) : Int)), (34, nI y2)]) _ _ _ _ hl (okr rfl) (fun _ => rfl) ?_
   rintro m ⟨y1, y2⟩ N h hN
   unfold B3 at h
   dsimp only at h
   refine rn 1 rfl (Ac fun K11 hK11 => ?_)
   rcases Ab h with ⟨g12, h⟩ | ⟨g12, h⟩
   ·refine qT rfl g12 (Ae (hK11 _ (Ac fun K13 hK13 => Aq (rs ?_))))
    obtain ⟨e14, g15, h⟩ := Aa h
    refine qI rfl AX g15 (sp 2 rfl (evn (rdk (by kernel_rfl) fun K16 hK16 => ?_)))
    have kJ2 : ∀ {x17 : Bool}, B4 (Ai (B3 a0 a1 v6) m) a1 y1 y2 e14 x17 = some o1 -> Jn K16 [(5, nI (List.length a1 : Int)), (6, oL 3 An y1), (10, dL An e14), (32, dL Aw (A7 a0.2 v6.1 v6.2)), (33, nI (List.length (A7 a0.2 v6.1 v6.2) : Int)), (34, nI y2), (53, .bool x17)] := by
     intro x17 h σ' hk
     unfold B4 at h
     refine hK16 _ (lh hk rfl ?_)
     have kJ3 : ∀ {x18 : List Int}, CP (Ai (B3 a0 a1 v6) m) y2 x18 = some o1 -> Jn K13 [(5, nI (List.length a1 : Int)), (6, oL 3 An x18), (32, dL Aw (A7 a0.2 v6.1 v6.2)), (33, nI (List.length (A7 a0.2 v6.1 v6.2) : Int)), (34, nI y2)] := by
      intro x18 h σ' hk
      unfold CP at h
      exact hK13 _ (lh hk rfl (rg (sp 2 rfl (evn (hN _ _ h (okr rfl))))))
     rcases Ab h with ⟨g19, h⟩ | ⟨g19, h⟩
     ·refine qT rfl g19 (rg (sp 3 rfl (?_)))
      obtain ⟨e20, g21, h⟩ := Aa h
      refine qI rfl Ar g21 (sp 1 rfl (qBs An [e20] rfl rfl rfl Ar (?_)))
      obtain ⟨g22, h⟩ := Ag h
      exact qA An y1 [e20] rfl rfl (Ao Ar [e20]) rfl g22 (sp 1 rfl (evn (kJ3 h _ (okr rfl))))
     ·exact qF rfl g19 (Ae (kJ3 h _ (okr rfl)))
    refine sd 4 rfl (?_)
    rcases Ab h with ⟨g23, h⟩ | ⟨g23, h⟩
    ·exact qgd 41 g23 rfl (sd 12 rfl (Cy (kJ2 h _ (okr rfl))))
    ·refine qgd 41 g23 rfl (sd 4 rfl (?_))
     obtain ⟨e24, g25, h⟩ := Aa h
     refine ed rfl (oGR rfl rfl (qI rfl Ar g25 (sd 3 rfl (?_))))
     obtain ⟨e26, g27, h⟩ := Aa h
     exact ed rfl (oGR rfl rfl (qI rfl Ar g27 (sd 3 rfl (Cy (kJ2 h _ (okr rfl))))))
   ·exact qF rfl g12 (Al (kXB1 (Option.some.inj h) _ (okr rfl)))
def Ee (rec : ((List (List Int)) × Int) -> Option ((List (List Int)))) (y6 : Int) (x6 : List (List Int)) : Option ((List (List Int))) := rec (x6, (IntKind.i64.wrap (y6 + 1)))
def Ef (rec : ((List Int) × Int) -> Option ((List Int))) (y14 : Int) (x26 : List Int) : Option ((List Int)) := rec (x26, (IntKind.i64.wrap (y14 + 1)))
def Dp (a2 : List Int) (a3 : List Int) (e7 : Gn) (rec : ((List Int) × Int) -> Option ((List Int))) (s : (List Int) × Int) : Option ((List Int)) := match s with
  | (y13, y14) => cond (decide (y14 < (List.length a3 : Int))) (Ad (AA a3 y14) fun e20 => Ad (AA a2 y14) fun e22 => Ad (Bj e7 e22) fun v24 => cond v24 (chk (List.length y13 + List.length [e20] <= lim) (Ef rec y14 (y13 ++ [e20]))) (Ef rec y14 y13)) (some y13)
def Do (a0 : Y29) (a1 : List Y40) (a2 : List Int) (a3 : List Int) (rec : ((List (List Int)) × Int) -> Option ((List (List Int)))) (s : (List (List Int)) × Int) : Option ((List (List Int))) := match s with
  | (y5, y6) => cond (decide (y6 < (List.length a0.2.1 : Int))) (Ad (AA a0.2.1 y6) fun e7 => Ad (AA a2 (List.length a3 : Int)) fun e10 => Ad (Bj e7 e10) fun v12 => cond (!v12) (Ee rec y6 y5) (Ad (Ai (Dp a2 a3 e7) fz (([] : List Int), 0)) fun z16 => Ad (AA a1 y6) fun e29 => Ad (Dm e29 z16) fun v31 => chk (List.length y5 + List.length [v31] <= lim) (Ee rec y6 (y5 ++ [v31])))) (some y5)
def G6 (a0 : Y29) (a1 : List Y40) (a2 : List Int) (a3 : List Int) : Option ((List (List Int))) := Ad (Ai (Do a0 a1 a2 a3) fz (([] : List (List Int)), 0)) fun z2 => some z2
theorem M5 {a0 : Y29} {a1 : List Y40} {a2 : List Int} {a3 : List Int} {r : (List (List Int))} (h : G6 a0 a1 a2 a3 = some r) : Ah Tryz.prog 148 [.agg (CZ a0), dL BS a1, dL An a2, dL An a3] (oL 27 Aj r) := by
 unfold G6 at h
 refine st cE rfl (rn 2 rfl (Ac fun K1 hK1 => rn 1 rfl ?_))
 obtain ⟨o1, hl, hr1⟩ := Aa h
 have kXB1 : ∀ {z2 : List (List Int)}, z2 = o1 -> Jn K1 [(9, oL 27 Aj z2)] := by
  intro z2 h σ' hk
  subst h
  replace h := hr1
  try dsimp only at h
  exact hK1 _ (lh hk rfl (rn 1 rfl (Af ((by cases h; exact ⟨.inl rfl, rfl⟩)))))
 refine As (fun (s : (List (List Int)) × Int) => match s with | (y5, y6) => [(1, dL BS a1), (2, dL An a2), (3, dL An a3), (9, oL 27 Aj y5), (16, dL Bt a0.2.1), (17, nI (List.length a0.2.1 : Int)), (18, nI y6)]) _ _ _ _ hl (okr rfl) (fun _ => rfl) ?_
 rintro m ⟨y5, y6⟩ N h hN
 unfold Do at h
 dsimp only at h
 refine rn 1 rfl (Ac fun K3 hK3 => ?_)
 rcases Ab h with ⟨g4, h⟩ | ⟨g4, h⟩
 ·refine qT rfl g4 (Ae (hK3 _ (Ac fun K5 hK5 => ?_)))
  have kJ2 : ∀ {x6 : List (List Int)}, Ee (Ai (Do a0 a1 a2 a3) m) y6 x6 = some o1 -> Jn K5 [(1, dL BS a1), (2, dL An a2), (3, dL An a3), (9, oL 27 Aj x6), (16, dL Bt a0.2.1), (17, nI (List.length a0.2.1 : Int)), (18, nI y6)] := by
   intro x6 h σ' hk
   unfold Ee at h
   exact hK5 _ (lh hk rfl (rg (sp 2 rfl (evn (hN _ _ h (okr rfl))))))
  refine Aq (rs (sp 1 rfl (?_)))
  obtain ⟨e7, g8, h⟩ := Aa h
  refine qI rfl FG g8 (sp 4 rfl (evn (Ac fun K9 hK9 => rd (by kernel_rfl) (sd 4 rfl (?_)))))
  obtain ⟨e10, g11, h⟩ := Aa h
  refine ed rfl (qI rfl Ar g11 (sd 1 rfl (?_)))
  obtain ⟨v12, g13, h⟩ := Aa h
  refine ed rfl (qC (qa rfl (erg (erc rfl (erc (erD Ap _) rfl))) (qs rfl At)) (FJ g13) (sd 1 rfl (Cy ?_)))
  rcases Ab h with ⟨g14, h⟩ | ⟨g14, h⟩
  ·exact qT rfl g14 (Al (kJ2 h _ (okr rfl)))
  ·refine qF rfl g14 (Ae (hK9 _ (rn 1 rfl (Ac fun K15 hK15 => rn 1 rfl ?_))))
   obtain ⟨o3, hl, hr3⟩ := Aa h
   have kXB3 : ∀ {z16 : List Int}, z16 = o3 -> Jn K15 [(1, dL BS a1), (2, dL An a2), (3, dL An a3), (9, oL 27 Aj y5), (10, nI y6), (12, oL 3 An z16), (16, dL Bt a0.2.1), (17, nI (List.length a0.2.1 : Int)), (18, nI y6)] := by
    intro z16 h σ' hk
    subst h
    replace h := hr3
    try dsimp only at h
    refine hK15 _ (lh hk rfl (rg (sp 3 rfl (?_))))
    obtain ⟨e29, g30, h⟩ := Aa h
    refine qI rfl ND g30 (sp 2 rfl (?_))
    obtain ⟨v31, g32, h⟩ := Aa h
    refine qC (qa rfl (erg (erc rfl (erc (erD AJ _) rfl))) (qa rfl (erD Ap _) At)) (Ls g32) (qBs Aj [v31] rfl rfl rfl AZ (?_))
    obtain ⟨g33, h⟩ := Ag h
    exact qA Aj y5 [v31] rfl rfl (Ao AZ [v31]) rfl g33 (sp 1 rfl (evn (kJ2 h _ (okr rfl))))
   refine As (fun (s : (List Int) × Int) => match s with | (y13, y14) => [(1, dL BS a1), (2, dL An a2), (3, dL An a3), (9, oL 27 Aj y5), (10, nI y6), (11, .box [.str e7.1, dL An e7.2]), (12, oL 3 An y13), (16, dL Bt a0.2.1), (17, nI (List.length a0.2.1 : Int)), (18, nI y6), (31, dL An a3), (32, nI (List.length a3 : Int)), (33, nI y14)]) _ _ _ _ hl (okr rfl) (fun _ => rfl) ?_
   rintro m ⟨y13, y14⟩ N h hN
   unfold Dp at h
   dsimp only at h
   refine rn 1 rfl (Ac fun K17 hK17 => ?_)
   rcases Ab h with ⟨g18, h⟩ | ⟨g18, h⟩
   ·refine qT rfl g18 (Ae (hK17 _ (Ac fun K19 hK19 => Aq (rs (sp 1 rfl (?_))))))
    obtain ⟨e20, g21, h⟩ := Aa h
    refine qI rfl Ar g21 (sp 3 rfl (evn (rd (by kernel_rfl) (sd 3 rfl (?_)))))
    obtain ⟨e22, g23, h⟩ := Aa h
    refine ed rfl (qI rfl Ar g23 (sd 1 rfl (?_)))
    obtain ⟨v24, g25, h⟩ := Aa h
    refine ed rfl (qC (qa rfl (erg (erc rfl (erc (erD Ap _) rfl))) (qs rfl At)) (FJ g25) (Cy ?_))
    have kJ4 : ∀ {x26 : List Int}, Ef (Ai (Dp a2 a3 e7) m) y14 x26 = some o3 -> Jn K19 [(1, dL BS a1), (2, dL An a2), (3, dL An a3), (9, oL 27 Aj y5), (10, nI y6), (11, .box [.str e7.1, dL An e7.2]), (12, oL 3 An x26), (16, dL Bt a0.2.1), (17, nI (List.length a0.2.1 : Int)), (18, nI y6), (31, dL An a3), (32, nI (List.length a3 : Int)), (33, nI y14)] := by
     intro x26 h σ' hk
     unfold Ef at h
     exact hK19 _ (lh hk rfl (rg (sp 2 rfl (evn (hN _ _ h (okr rfl))))))
    rcases Ab h with ⟨g27, h⟩ | ⟨g27, h⟩
    ·refine qT rfl g27 (rg (sp 2 rfl (qBs An [e20] rfl rfl rfl Ar (?_))))
     obtain ⟨g28, h⟩ := Ag h
     exact qA An y13 [e20] rfl rfl (Ao Ar [e20]) rfl g28 (sp 1 rfl (evn (kJ4 h _ (okr rfl))))
    ·exact qF rfl g27 (Ae (kJ4 h _ (okr rfl)))
   ·exact qF rfl g18 (Al (kXB3 (Option.some.inj h) _ (okr rfl)))
 ·exact qF rfl g4 (Al (kXB1 (Option.some.inj h) _ (okr rfl)))
end Go.Proofs.YtlknpohjnpnodaaGreat
