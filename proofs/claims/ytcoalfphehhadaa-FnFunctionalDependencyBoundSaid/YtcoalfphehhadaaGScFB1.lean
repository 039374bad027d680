/-
  Functions of the program as typed functions, printed by gen.py, and that the program's functions do what they say. No conditions.
-/
import Derived.Test.YtcoalfphehhadaaGSbFB1
namespace Go.Proofs.Ytcoalfphehhadaa
open Go.RowKit
set_option linter.unusedVariables false
set_option maxRecDepth 100000
set_option maxHeartbeats 1000000
def impl_FDBound_J2 (rec : (Bool × Int) → Option (Bool)) (y2 : Int) (x10 : Bool) : Option (Bool) := rec (x10, (IntKind.i64.wrap (y2 + 1)))
def impl_FDBound_B1 (a0 : List Y82) (a2 : List Y114) (rec : (Bool × Int) → Option (Bool)) (s : Bool × Int) : Option (Bool) := match s with
  | (y1, y2) => cond (decide (y2 < (List.length a2 : Int))) (obind (geti a2 y2) fun e8 => cond y1 (obind (impl_FDHolds a0 e8) fun v12 => impl_FDBound_J2 rec y2 v12) (impl_FDBound_J2 rec y2 false)) (some y1)
def impl_FDBound_J5 (rec : ((List Int) × Int × Int) → Option ((List Int) × Int)) (y13 : Int) (x31 : List Int) (x32 : Int) : Option ((List Int) × Int) := rec (x31, x32, (IntKind.i64.wrap (y13 + 1)))
def impl_FDBound_B4 (a1 : Y61) (v1 : (List Int) × Bool) (y7 : Int) (rec : ((List Int) × Int × Int) → Option ((List Int) × Int)) (s : (List Int) × Int × Int) : Option ((List Int) × Int) := match s with
  | (y11, y12, y13) => cond (decide (y13 < (List.length a1.2.1 : Int))) (obind (geti a1.2.1 y13) fun e28 => chk ((0 : Int) ≤ IntKind.u64.wrap y13) (cond ((andI (shrI y7 (IntKind.u64.wrap y13)) 1) == 1) (obind (impl_AtomVariables e28) fun v34 => obind (impl_unite y11 v34) fun v36 => obind (geti v1.1 y13) fun e38 => impl_FDBound_J5 rec y13 v36 (IntKind.i64.wrap (y12 * e38))) (impl_FDBound_J5 rec y13 y11 y12))) (some (y11, y12))
def impl_FDBound_J7 (rec : (Int × Int) → Option (Int)) (y7 : Int) (x42 : Int) : Option (Int) := rec (x42, (IntKind.i64.wrap (y7 + 1)))
def impl_FDBound_J6 (rec : (Int × Int) → Option (Int)) (y6 : Int) (y7 : Int) (z24 : Int) (x41 : Bool) : Option (Int) := cond x41 (impl_FDBound_J7 rec y7 z24) (impl_FDBound_J7 rec y7 y6)
def impl_FDBound_B3 (a1 : Y61) (a2 : List Y114) (v1 : (List Int) × Bool) (rec : (Int × Int) → Option (Int)) (s : Int × Int) : Option (Int) := match s with
  | (y6, y7) => chk ((0 : Int) ≤ IntKind.u64.wrap (List.length a1.2.1 : Int)) (cond (decide (y7 < (shlI 1 (IntKind.u64.wrap (List.length a1.2.1 : Int))))) (obind (loopF (impl_FDBound_B4 a1 v1 y7) fz (([] : List Int), 1, 0)) fun o4 => (match o4 with
  | (z23, z24) => (obind (impl_FDClosure a1 a2 z23) fun v44 => cond ((List.length v44 : Int) == a1.1) (cond (decide (y6 < 0)) (impl_FDBound_J6 rec y6 y7 z24 true) (impl_FDBound_J6 rec y6 y7 z24 (decide (z24 < y6)))) (impl_FDBound_J6 rec y6 y7 z24 false)))) (some y6))
def impl_FDBound (a0 : List Y82) (a1 : Y61) (a2 : List Y114) : Option (Int × Bool) := obind (impl_AtomSizes a0 a1) fun v1 => obind (loopF (impl_FDBound_B1 a0 a2) fz (v1.2, 0)) fun z4 => cond (!z4) (some (0, false)) (obind (loopF (impl_FDBound_B3 a1 a2 v1) fz ((-1), 0)) fun z17 => some (z17, true))
theorem impl_FDBound_s {a0 : List Y82} {a1 : Y61} {a2 : List Y114} {r : Int × Bool} (h : impl_FDBound a0 a1 a2 = some r) : SoundAt Try.prog 34 [.agg [dL c83_dd a0], .agg (c62_ddd a1), dL c115_d a2] (.tup [nI r.1, .bool r.2]) := by
 unfold impl_FDBound at h
 refine st lit34 rfl (rn 1 rfl (rs (sp 2 rfl (?_))))
 obtain ⟨v1, g2, h⟩ := ob_some h
 refine qC (qa rfl (erg (erc (erD ec83_dd _) rfl)) (qa rfl (erg (erc rfl (erc (erD ec124_d _) (erc (erD eci64 _) rfl)))) eran)) (impl_AtomSizes_s g2) (sp 5 rfl (evn (ls_seq_k fun K3 hK3 => rn 1 rfl ?_)))
 obtain ⟨o1, hl, hr1⟩ := ob_some h
 have kXB1 : ∀ {z4 : Bool}, z4 = o1 → Jn K3 [(2, dL c115_d a2), (4, .box [nI a1.1, dL c124_d a1.2.1, dL ci64 a1.2.2]), (8, oL 3 ci64 v1.1), (9, .bool z4)] := by
  intro z4 h σ' hk
  subst h
  replace h := hr1
  try dsimp only at h
  refine hK3 _ (lh hk rfl (ls_seq_k fun K14 hK14 => rn 1 rfl ?_))
  rcases cond_some h with ⟨g15, h⟩ | ⟨g15, h⟩
  ·exact qT rfl g15 (rn 1 rfl (ls_ret ((by cases h; exact ⟨.inl rfl, rfl⟩))))
  ·refine qF rfl g15 (ls_skip (hK14 _ (rn 1 rfl (ls_seq_k fun K16 hK16 => rn 1 rfl ?_))))
   obtain ⟨o3, hl, hr3⟩ := ob_some h
   have kXB3 : ∀ {z17 : Int}, z17 = o3 → Jn K16 [(12, nI z17)] := by
    intro z17 h σ' hk
    subst h
    replace h := hr3
    try dsimp only at h
    exact hK16 _ (lh hk rfl (rn 1 rfl (ls_ret ((by cases h; exact ⟨.inl rfl, rfl⟩)))))
   refine ls_rec (fun (s : Int × Int) => match s with | (y6, y7) => [(2, dL c115_d a2), (4, .box [nI a1.1, dL c124_d a1.2.1, dL ci64 a1.2.2]), (8, oL 3 ci64 v1.1), (12, nI y6), (13, nI y7)]) _ _ _ _ hl (okr rfl) (fun _ => rfl) ?_
   rintro m ⟨y6, y7⟩ N h hN
   unfold impl_FDBound_B3 at h
   dsimp only at h
   refine ls_seq_k fun K18 hK18 => rs (sp 5 rfl (?_))
   obtain ⟨g19, h⟩ := chk_some h
   refine qB rfl g19 rfl (sp 1 rfl (evn ?_))
   rcases cond_some h with ⟨g20, h⟩ | ⟨g20, h⟩
   ·refine qT rfl g20 (ls_skip (hK18 _ (ls_seq_k fun K21 hK21 => ls_blk (rn 2 rfl (ls_seq_k fun K22 hK22 => rn 1 rfl ?_)))))
    obtain ⟨o4, hl, hr4⟩ := ob_some h
    have kXB4 : ∀ {z23 : List Int} {z24 : Int}, (z23, z24) = o4 → Jn K22 [(2, dL c115_d a2), (4, .box [nI a1.1, dL c124_d a1.2.1, dL ci64 a1.2.2]), (8, oL 3 ci64 v1.1), (12, nI y6), (13, nI y7), (14, oL 3 ci64 z23), (15, nI z24)] := by
     intro z23 z24 h σ' hk
     subst h
     replace h := hr4
     try dsimp only at h
     refine hK22 _ (lh hk rfl (rdk (by kernel_rfl) fun K40 hK40 => ?_))
     have kJ6 : ∀ {x41 : Bool}, impl_FDBound_J6 (loopF (impl_FDBound_B3 a1 a2 v1) m) y6 y7 z24 x41 = some o3 → Jn K40 [(2, dL c115_d a2), (4, .box [nI a1.1, dL c124_d a1.2.1, dL ci64 a1.2.2]), (8, oL 3 ci64 v1.1), (12, nI y6), (13, nI y7), (15, nI z24), (89, .bool x41)] := by
      intro x41 h σ' hk
      unfold impl_FDBound_J6 at h
      refine hK40 _ (lh hk rfl ?_)
      have kJ7 : ∀ {x42 : Int}, impl_FDBound_J7 (loopF (impl_FDBound_B3 a1 a2 v1) m) y7 x42 = some o3 → Jn K21 [(2, dL c115_d a2), (4, .box [nI a1.1, dL c124_d a1.2.1, dL ci64 a1.2.2]), (8, oL 3 ci64 v1.1), (12, nI x42), (13, nI y7)] := by
       intro x42 h σ' hk
       unfold impl_FDBound_J7 at h
       exact hK21 _ (lh hk rfl (rg (sp 3 rfl (evn (hN _ _ h (okr rfl))))))
      rcases cond_some h with ⟨g43, h⟩ | ⟨g43, h⟩
      ·exact qT rfl g43 (rg (sp 2 rfl (evn (kJ7 h _ (okr rfl)))))
      ·exact qF rfl g43 (ls_skip (kJ7 h _ (okr rfl)))
     refine sd 3 rfl (?_)
     obtain ⟨v44, g45, h⟩ := ob_some h
     refine ed rfl (qC (qa rfl (erg (erc rfl (erc (erD ec124_d _) (erc (erD eci64 _) rfl)))) (qa rfl (erD ec115_d _) (qa rfl (erD eci64 _) eran))) (impl_FDClosure_s g45) (sd 5 rfl (?_)))
     rcases cond_some h with ⟨g46, h⟩ | ⟨g46, h⟩
     ·refine qgd 81 g46 rfl (sd 3 rfl (?_))
      rcases cond_some h with ⟨g47, h⟩ | ⟨g47, h⟩
      ·exact qgd 84 g47 rfl (sd 5 rfl (evdn (kJ6 h _ (okr rfl))))
      ·exact qgd 84 g47 rfl (sd 5 rfl (evdn (kJ6 h _ (okr rfl))))
     ·exact qgd 81 g46 rfl (sd 8 rfl (evdn (kJ6 h _ (okr rfl))))
    refine ls_rec (fun (s : (List Int) × Int × Int) => match s with | (y11, y12, y13) => [(2, dL c115_d a2), (4, .box [nI a1.1, dL c124_d a1.2.1, dL ci64 a1.2.2]), (8, oL 3 ci64 v1.1), (12, nI y6), (13, nI y7), (14, oL 3 ci64 y11), (15, nI y12), (49, dL c124_d a1.2.1), (50, nI (List.length a1.2.1 : Int)), (51, nI y13)]) _ _ _ _ hl (okr rfl) (fun _ => rfl) ?_
    rintro m ⟨y11, y12, y13⟩ N h hN
    unfold impl_FDBound_B4 at h
    dsimp only at h
    refine rn 1 rfl (ls_seq_k fun K25 hK25 => ?_)
    rcases cond_some h with ⟨g26, h⟩ | ⟨g26, h⟩
    ·refine qT rfl g26 (ls_skip (hK25 _ (ls_seq_k fun K27 hK27 => ls_blk (rs (sp 1 rfl (?_))))))
     obtain ⟨e28, g29, h⟩ := ob_some h
     refine qI rfl zc124_d g29 (sp 4 rfl (evn (rs (sp 3 rfl (?_)))))
     obtain ⟨g30, h⟩ := chk_some h
     refine qB rfl g30 rfl (sp 2 rfl (evn ?_))
     have kJ5 : ∀ {x31 : List Int} {x32 : Int}, impl_FDBound_J5 (loopF (impl_FDBound_B4 a1 v1 y7) m) y13 x31 x32 = some o4 → Jn K27 [(2, dL c115_d a2), (4, .box [nI a1.1, dL c124_d a1.2.1, dL ci64 a1.2.2]), (8, oL 3 ci64 v1.1), (12, nI y6), (13, nI y7), (14, oL 3 ci64 x31), (15, nI x32), (49, dL c124_d a1.2.1), (50, nI (List.length a1.2.1 : Int)), (51, nI y13)] := by
      intro x31 x32 h σ' hk
      unfold impl_FDBound_J5 at h
      exact hK27 _ (lh hk rfl (rg (sp 2 rfl (evn (hN _ _ h (okr rfl))))))
     rcases cond_some h with ⟨g33, h⟩ | ⟨g33, h⟩
     ·refine qT rfl g33 (rs (sp 2 rfl (?_)))
      obtain ⟨v34, g35, h⟩ := ob_some h
      refine qC (qa rfl (erg (erc rfl (erc (erD eci64 _) rfl))) eran) (impl_AtomVariables_s g35) (?_)
      obtain ⟨v36, g37, h⟩ := ob_some h
      refine qC (qa rfl (erD eci64 _) (qa rfl (erO eci64 _) eran)) (impl_unite_s g37) (sp 1 rfl (evn (rg (sp 3 rfl (?_)))))
      obtain ⟨e38, g39, h⟩ := ob_some h
      exact qI rfl zci64 g39 (sp 3 rfl (evn (kJ5 h _ (okr rfl))))
     ·exact qF rfl g33 (ls_skip (kJ5 h _ (okr rfl)))
    ·exact qF rfl g26 (ls_exit (kXB4 (Option.some.inj h) _ (okr rfl)))
   ·exact qF rfl g20 (ls_exit (kXB3 (Option.some.inj h) _ (okr rfl)))
 refine ls_rec (fun (s : Bool × Int) => match s with | (y1, y2) => [(2, dL c115_d a2), (3, .box [dL c83_dd a0]), (4, .box [nI a1.1, dL c124_d a1.2.1, dL ci64 a1.2.2]), (8, oL 3 ci64 v1.1), (9, .bool y1), (24, dL c115_d a2), (25, nI (List.length a2 : Int)), (26, nI y2)]) _ _ _ _ hl (okr rfl) (fun _ => rfl) ?_
 rintro m ⟨y1, y2⟩ N h hN
 unfold impl_FDBound_B1 at h
 dsimp only at h
 refine rn 1 rfl (ls_seq_k fun K5 hK5 => ?_)
 rcases cond_some h with ⟨g6, h⟩ | ⟨g6, h⟩
 ·refine qT rfl g6 (ls_skip (hK5 _ (ls_seq_k fun K7 hK7 => ls_blk (rs ?_))))
  obtain ⟨e8, g9, h⟩ := ob_some h
  refine qI rfl zc115_d g9 (sp 3 rfl (evn ?_))
  have kJ2 : ∀ {x10 : Bool}, impl_FDBound_J2 (loopF (impl_FDBound_B1 a0 a2) m) y2 x10 = some o1 → Jn K7 [(2, dL c115_d a2), (3, .box [dL c83_dd a0]), (4, .box [nI a1.1, dL c124_d a1.2.1, dL ci64 a1.2.2]), (8, oL 3 ci64 v1.1), (9, .bool x10), (24, dL c115_d a2), (25, nI (List.length a2 : Int)), (26, nI y2)] := by
   intro x10 h σ' hk
   unfold impl_FDBound_J2 at h
   exact hK7 _ (lh hk rfl (rg (sp 2 rfl (evn (hN _ _ h (okr rfl))))))
  refine rg (sp 2 rfl (?_))
  rcases cond_some h with ⟨g11, h⟩ | ⟨g11, h⟩
  ·refine qg 31 g11 rfl (sp 2 rfl (?_))
   obtain ⟨v12, g13, h⟩ := ob_some h
   exact oGR rfl rfl (qC (qa rfl (erg (erc (erD ec83_dd _) rfl)) (qa rfl (erg (erc rfl (erc (erD eci64 _) (erc rfl rfl)))) eran)) (impl_FDHolds_s g13) (sp 2 rfl (evn (kJ2 h _ (okr rfl)))))
  ·exact qg 31 g11 rfl (sp 5 rfl (evn (kJ2 h _ (okr rfl))))
 ·exact qF rfl g6 (ls_exit (kXB1 (Option.some.inj h) _ (okr rfl)))
def spec_IsQueryFor_B1 (a0 : List Y82) (a1 : Y61) (rec : Int → Option (Sum (Unit) (Bool))) (y1 : Int) : Option (Sum (Unit) (Bool)) := cond (decide (y1 < (List.length a1.2.1 : Int))) (obind (geti a1.2.1 y1) fun e5 => obind (spec_LookupRelation a0 e5.1) fun v7 => cond (!v7.2) (some (.inr false)) (obind (geti a1.2.1 y1) fun e10 => cond (v7.1.1 != (List.length e10.2 : Int)) (some (.inr false)) (rec (IntKind.i64.wrap (y1 + 1))))) (some (.inl ()))
def spec_IsQueryFor_J2 (x14 : Bool) : Option (Bool) := some x14
def spec_IsQueryFor (a0 : List Y82) (a1 : Y61) : Option (Bool) := obind (loopF (spec_IsQueryFor_B1 a0 a1) fz 0) fun o1 => (match o1 with
  | .inl _ => (obind (spec_IsValidQuery a1) fun v15 => cond v15 (obind (spec_IsValidDatabase a0) fun v18 => spec_IsQueryFor_J2 v18) (spec_IsQueryFor_J2 false))
  | .inr r => some r)
theorem spec_IsQueryFor_s {a0 : List Y82} {a1 : Y61} {r : Bool} (h : spec_IsQueryFor a0 a1 = some r) : SoundAt Try.prog 82 [.agg [dL c83_dd a0], .agg (c62_ddd a1)] (.bool r) := by
 unfold spec_IsQueryFor at h
 refine st lit82 rfl (rn 1 rfl (ls_seq_k fun K1 hK1 => rn 1 rfl ?_))
 obtain ⟨o1, hl, hr1⟩ := ob_some h
 have kXB1 : (.inl ()) = o1 → Jn K1 [(2, .box [dL c83_dd a0]), (3, .box [nI a1.1, dL c124_d a1.2.1, dL ci64 a1.2.2])] := by
  intro h σ' hk
  subst h
  replace h := hr1
  try dsimp only at h
  refine hK1 _ (lh hk rfl (rk fun K13 hK13 => ?_))
  have kJ2 : ∀ {x14 : Bool}, spec_IsQueryFor_J2 x14 = some r → Jn K13 [(4, .bool x14)] := by
   intro x14 h σ' hk
   unfold spec_IsQueryFor_J2 at h
   exact hK13 _ (lh hk rfl (ls_ret ((by cases h; exact ⟨.inl rfl, rfl⟩))))
  refine sp 1 rfl (?_)
  obtain ⟨v15, g16, h⟩ := ob_some h
  refine qC (qa rfl (erg (erc rfl (erc (erD ec124_d _) (erc (erD eci64 _) rfl)))) eran) (spec_IsValidQuery_s g16) (sp 1 rfl (?_))
  rcases cond_some h with ⟨g17, h⟩ | ⟨g17, h⟩
  ·refine qg 42 g17 rfl (sp 1 rfl (?_))
   obtain ⟨v18, g19, h⟩ := ob_some h
   exact oGR rfl rfl (qC (qa rfl (erg (erc (erD ec83_dd _) rfl)) eran) (spec_IsValidDatabase_s g19) (sp 2 rfl (evn (kJ2 h _ (okr rfl)))))
  ·exact qg 42 g17 rfl (sp 4 rfl (evn (kJ2 h _ (okr rfl))))
 refine ls_rec (fun (y1 : Int) => [(2, .box [dL c83_dd a0]), (3, .box [nI a1.1, dL c124_d a1.2.1, dL ci64 a1.2.2]), (5, nI y1)]) _ _ _ _ hl (okr rfl) (fun _ => rfl) ?_
 rintro m y1 N h hN
 unfold spec_IsQueryFor_B1 at h
 refine ls_seq_k fun K2 hK2 => rn 1 rfl ?_
 rcases cond_some h with ⟨g3, h⟩ | ⟨g3, h⟩
 ·refine qT rfl g3 (ls_skip (hK2 _ (ls_seq_k fun K4 hK4 => ls_blk (rd (by kernel_rfl) (sd 4 rfl (?_))))))
  obtain ⟨e5, g6, h⟩ := ob_some h
  refine ed rfl (qI rfl zc124_d g6 (sd 2 rfl (?_)))
  obtain ⟨v7, g8, h⟩ := ob_some h
  refine ed rfl (qC (qa rfl (erg (erc (erD ec83_dd _) rfl)) (qs rfl eran)) (spec_LookupRelation_s g8) (sd 6 rfl (evdn (rd (by kernel_rfl) (sd 3 rfl (?_))))))
  rcases cond_some h with ⟨g9, h⟩ | ⟨g9, h⟩
  ·exact qgd 28 g9 rfl (sd 11 rfl (evdn (qk [2, 3, 5, 39] rfl (qT rfl rfl (rn 1 rfl (ls_ret ((by cases h; cases hr1; exact ⟨.inl rfl, rfl⟩))))))))
  ·refine qgd 28 g9 rfl (sd 5 rfl (?_))
   obtain ⟨e10, g11, h⟩ := ob_some h
   refine ed rfl (oGR rfl rfl (qI rfl zc124_d g11 (sd 5 rfl (evdn ?_))))
   rcases cond_some h with ⟨g12, h⟩ | ⟨g12, h⟩
   ·exact qT rfl g12 (rn 1 rfl (ls_ret ((by cases h; cases hr1; exact ⟨.inl rfl, rfl⟩))))
   ·exact qF rfl g12 (ls_skip (hK4 _ (rg (sp 3 rfl (evn (hN _ _ h (okr rfl)))))))
 ·exact qF rfl g3 (ls_exit (kXB1 (Option.some.inj h) _ (okr rfl)))
def spec_AtomVariables_J2 (rec : ((List Int) × Int) → Option ((List Int))) (y2 : Int) (x8 : List Int) : Option ((List Int)) := rec (x8, (IntKind.i64.wrap (y2 + 1)))
def spec_AtomVariables_B1 (a0 : Y123) (rec : ((List Int) × Int) → Option ((List Int))) (s : (List Int) × Int) : Option ((List Int)) := match s with
  | (y1, y2) => cond (decide (y2 < 5)) (obind (spec_ContainsVariable a0 y2) fun v6 => cond v6 (chk (List.length y1 + List.length [y2] ≤ lim) (spec_AtomVariables_J2 rec y2 (y1 ++ [y2]))) (spec_AtomVariables_J2 rec y2 y1)) (some y1)
def spec_AtomVariables (a0 : Y123) : Option ((List Int)) := obind (loopF (spec_AtomVariables_B1 a0) fz (([] : List Int), 0)) fun z2 => some z2
theorem spec_AtomVariables_s {a0 : Y123} {r : (List Int)} (h : spec_AtomVariables a0 = some r) : SoundAt Try.prog 161 [.agg (c124_d a0)] (oL 3 ci64 r) := by
 unfold spec_AtomVariables at h
 refine st lit161 rfl (rn 1 rfl (rs (qBs ci64 [] rfl rfl rfl zci64 (sp 1 rfl (evn (ls_seq_k fun K1 hK1 => rn 1 rfl ?_))))))
 obtain ⟨o1, hl, hr1⟩ := ob_some h
 have kXB1 : ∀ {z2 : List Int}, z2 = o1 → Jn K1 [(3, oL 3 ci64 z2)] := by
  intro z2 h σ' hk
  subst h
  replace h := hr1
  try dsimp only at h
  exact hK1 _ (lh hk rfl (rn 1 rfl (ls_ret ((by cases h; exact ⟨.inl rfl, rfl⟩)))))
 refine ls_rec (fun (s : (List Int) × Int) => match s with | (y1, y2) => [(1, .box [.str a0.1, dL ci64 a0.2]), (3, oL 3 ci64 y1), (4, nI y2)]) _ _ _ _ hl (okr rfl) (fun _ => rfl) ?_
 rintro m ⟨y1, y2⟩ N h hN
 unfold spec_AtomVariables_B1 at h
 dsimp only at h
 refine ls_seq_k fun K3 hK3 => rn 1 rfl ?_
 rcases cond_some h with ⟨g4, h⟩ | ⟨g4, h⟩
 ·refine qT rfl g4 (ls_skip (hK3 _ (ls_seq_k fun K5 hK5 => ls_blk (rs (sp 2 rfl (?_))))))
  obtain ⟨v6, g7, h⟩ := ob_some h
  refine qC (qa rfl (erg (erc rfl (erc (erD eci64 _) rfl))) (qs rfl eran)) (spec_ContainsVariable_s g7) (evn ?_)
  have kJ2 : ∀ {x8 : List Int}, spec_AtomVariables_J2 (loopF (spec_AtomVariables_B1 a0) m) y2 x8 = some o1 → Jn K5 [(1, .box [.str a0.1, dL ci64 a0.2]), (3, oL 3 ci64 x8), (4, nI y2)] := by
   intro x8 h σ' hk
   unfold spec_AtomVariables_J2 at h
   exact hK5 _ (lh hk rfl (rg (sp 3 rfl (evn (hN _ _ h (okr rfl))))))
  rcases cond_some h with ⟨g9, h⟩ | ⟨g9, h⟩
  ·refine qT rfl g9 (rg (sp 2 rfl (qBs ci64 [y2] rfl rfl rfl zci64 (?_))))
   obtain ⟨g10, h⟩ := chk_some h
   exact qA ci64 y1 [y2] rfl rfl (flat_len zci64 [y2]) rfl g10 (sp 1 rfl (evn (kJ2 h _ (okr rfl))))
  ·exact qF rfl g9 (ls_skip (kJ2 h _ (okr rfl)))
 ·exact qF rfl g4 (ls_exit (kXB1 (Option.some.inj h) _ (okr rfl)))
def spec_AtomBindings_B2 (a1 : Y123) (v1 : (List Int)) (v3 : Y28 × Bool) (y6 : Int) (rec : ((List Int) × Int) → Option ((List Int))) (s : (List Int) × Int) : Option ((List Int)) := match s with
  | (y11, y12) => cond (decide (y12 < (List.length v1 : Int))) (obind (geti v3.1.2 y6) fun e18 => obind (geti v1 y12) fun e20 => obind (spec_l7Find a1.2 e20) fun v22 => obind (geti e18 v22) fun e24 => chk (List.length y11 + List.length [e24] ≤ lim) (rec ((y11 ++ [e24]), (IntKind.i64.wrap (y12 + 1))))) (some y11)
def spec_AtomBindings_J4 (rec : (Bool × Int) → Option (Bool)) (y14 : Int) (x36 : Bool) : Option (Bool) := rec (x36, (IntKind.i64.wrap (y14 + 1)))
def spec_AtomBindings_B3 (a1 : Y123) (v1 : (List Int)) (v3 : Y28 × Bool) (y6 : Int) (z14 : List Int) (rec : (Bool × Int) → Option (Bool)) (s : Bool × Int) : Option (Bool) := match s with
  | (y13, y14) => cond (decide (y14 < (List.length a1.2 : Int))) (obind (geti a1.2 y14) fun e32 => obind (spec_l7Find v1 e32) fun v34 => cond y13 (cond (decide (0 ≤ v34)) (obind (geti z14 v34) fun e39 => obind (geti v3.1.2 y6) fun e41 => obind (geti e41 y14) fun e43 => spec_AtomBindings_J4 rec y14 (e39 == e43)) (spec_AtomBindings_J4 rec y14 false)) (spec_AtomBindings_J4 rec y14 false)) (some y13)
def spec_AtomBindings_J5 (rec : ((List (List Int)) × Int) → Option ((List (List Int)))) (y6 : Int) (x45 : List (List Int)) : Option ((List (List Int))) := rec (x45, (IntKind.i64.wrap (y6 + 1)))
def spec_AtomBindings_B1 (a1 : Y123) (v1 : (List Int)) (v3 : Y28 × Bool) (rec : ((List (List Int)) × Int) → Option ((List (List Int)))) (s : (List (List Int)) × Int) : Option ((List (List Int))) := match s with
  | (y5, y6) => cond (decide (y6 < (List.length v3.1.2 : Int))) (obind (loopF (spec_AtomBindings_B2 a1 v1 v3 y6) fz (([] : List Int), 0)) fun z14 => obind (loopF (spec_AtomBindings_B3 a1 v1 v3 y6 z14) fz (true, 0)) fun z28 => cond z28 (chk (List.length y5 + List.length [z14] ≤ lim) (spec_AtomBindings_J5 rec y6 (y5 ++ [z14]))) (spec_AtomBindings_J5 rec y6 y5)) (some y5)
def spec_AtomBindings (a0 : List Y82) (a1 : Y123) : Option (Y28) := obind (spec_AtomVariables a1) fun v1 => obind (spec_LookupRelation a0 a1.1) fun v3 => cond (!v3.2) (some ((List.length v1 : Int), [])) (cond (v3.1.1 != (List.length a1.2 : Int)) (some ((List.length v1 : Int), [])) (obind (loopF (spec_AtomBindings_B1 a1 v1 v3) fz (([] : List (List Int)), 0)) fun z9 => obind (spec_NewRelation (List.length v1 : Int) z9) fun v48 => cond (!v48.2) (some ((List.length v1 : Int), [])) (some v48.1)))
theorem spec_AtomBindings_s {a0 : List Y82} {a1 : Y123} {r : Y28} (h : spec_AtomBindings a0 a1 = some r) : SoundAt Try.prog 132 [.agg [dL c83_dd a0], .agg (c124_d a1)] (.agg (c29_oo r)) := by
 unfold spec_AtomBindings at h
 refine st lit132 rfl (rn 1 rfl (rs (sp 1 rfl (?_))))
 obtain ⟨v1, g2, h⟩ := ob_some h
 refine qC (qa rfl (erg (erc rfl (erc (erD eci64 _) rfl))) eran) (spec_AtomVariables_s g2) (sp 1 rfl (evn (rs (sp 3 rfl (?_)))))
 obtain ⟨v3, g4, h⟩ := ob_some h
 refine qC (qa rfl (erg (erc (erD ec83_dd _) rfl)) (qs rfl eran)) (spec_LookupRelation_s g4) (sp 6 rfl (evn (rn 1 rfl (ls_seq_k fun K5 hK5 => rs (sp 3 rfl (?_))))))
 rcases cond_some h with ⟨g6, h⟩ | ⟨g6, h⟩
 ·exact qg 32 g6 rfl (sp 7 rfl (evn (qT rfl rfl (rn 1 rfl (qk [4] rfl (ls_ret ((by cases h; exact ⟨.inl rfl, rfl⟩))))))))
 ·refine qg 32 g6 rfl (sp 7 rfl (evn ?_))
  rcases cond_some h with ⟨g7, h⟩ | ⟨g7, h⟩
  ·exact qT rfl g7 (rn 1 rfl (ls_ret ((by cases h; exact ⟨.inl rfl, rfl⟩))))
  ·refine qF rfl g7 (ls_skip (hK5 _ (rs (qBs c60_o [] rfl rfl rfl zc60_o (sp 1 rfl (evn (ls_seq_k fun K8 hK8 => rn 1 rfl ?_)))))))
   obtain ⟨o1, hl, hr1⟩ := ob_some h
   have kXB1 : ∀ {z9 : List (List Int)}, z9 = o1 → Jn K8 [(4, .box [nI 0, oL 60 c60_o []]), (5, oL 3 ci64 v1), (8, .box [nI (List.length v1 : Int), oL 60 c60_o []]), (9, oL 60 c60_o z9)] := by
    intro z9 h σ' hk
    subst h
    replace h := hr1
    try dsimp only at h
    refine hK8 _ (lh hk rfl (rs (sp 3 rfl (?_))))
    obtain ⟨v48, g49, h⟩ := ob_some h
    refine qC (qs rfl (qa rfl (erD ec60_o _) eran)) (spec_NewRelation_s g49) (sp 6 rfl (evn (ls_seq_k fun K50 hK50 => rn 1 rfl ?_)))
    rcases cond_some h with ⟨g51, h⟩ | ⟨g51, h⟩
    ·exact qT rfl g51 (rn 1 rfl (ls_ret ((by cases h; exact ⟨.inl rfl, rfl⟩))))
    ·exact qF rfl g51 (ls_skip (hK50 _ (rn 1 rfl (ls_ret ((by cases h; exact ⟨.inl rfl, rfl⟩))))))
   refine ls_rec (fun (s : (List (List Int)) × Int) => match s with | (y5, y6) => [(3, .box [.str a1.1, dL ci64 a1.2]), (4, .box [nI 0, oL 60 c60_o []]), (5, oL 3 ci64 v1), (6, .box [nI v3.1.1, oL 60 c60_o v3.1.2]), (8, .box [nI (List.length v1 : Int), oL 60 c60_o []]), (9, oL 60 c60_o y5), (10, nI y6)]) _ _ _ _ hl (okr rfl) (fun _ => rfl) ?_
   rintro m ⟨y5, y6⟩ N h hN
   unfold spec_AtomBindings_B1 at h
   dsimp only at h
   refine ls_seq_k fun K10 hK10 => rn 1 rfl ?_
   rcases cond_some h with ⟨g11, h⟩ | ⟨g11, h⟩
   ·refine qT rfl g11 (ls_skip (hK10 _ (ls_seq_k fun K12 hK12 => ls_blk (rs (qBs ci64 [] rfl rfl rfl zci64 (sp 1 rfl (evn (ls_seq_k fun K13 hK13 => rn 1 rfl ?_))))))))
    obtain ⟨o2, hl, hr2⟩ := ob_some h
    have kXB2 : ∀ {z14 : List Int}, z14 = o2 → Jn K13 [(3, .box [.str a1.1, dL ci64 a1.2]), (4, .box [nI 0, oL 60 c60_o []]), (5, oL 3 ci64 v1), (6, .box [nI v3.1.1, oL 60 c60_o v3.1.2]), (8, .box [nI (List.length v1 : Int), oL 60 c60_o []]), (9, oL 60 c60_o y5), (10, nI y6), (11, oL 3 ci64 z14)] := by
     intro z14 h σ' hk
     subst h
     replace h := hr2
     try dsimp only at h
     refine hK13 _ (lh hk rfl (rn 1 rfl (ls_seq_k fun K27 hK27 => rn 1 rfl ?_)))
     obtain ⟨o3, hl, hr3⟩ := ob_some h
     have kXB3 : ∀ {z28 : Bool}, z28 = o3 → Jn K27 [(3, .box [.str a1.1, dL ci64 a1.2]), (4, .box [nI 0, oL 60 c60_o []]), (5, oL 3 ci64 v1), (6, .box [nI v3.1.1, oL 60 c60_o v3.1.2]), (8, .box [nI (List.length v1 : Int), oL 60 c60_o []]), (9, oL 60 c60_o y5), (10, nI y6), (11, oL 3 ci64 z14), (13, .bool z28)] := by
      intro z28 h σ' hk
      subst h
      replace h := hr3
      try dsimp only at h
      refine hK27 _ (lh hk rfl (rn 1 rfl ?_))
      have kJ5 : ∀ {x45 : List (List Int)}, spec_AtomBindings_J5 (loopF (spec_AtomBindings_B1 a1 v1 v3) m) y6 x45 = some o1 → Jn K12 [(3, .box [.str a1.1, dL ci64 a1.2]), (4, .box [nI 0, oL 60 c60_o []]), (5, oL 3 ci64 v1), (6, .box [nI v3.1.1, oL 60 c60_o v3.1.2]), (8, .box [nI (List.length v1 : Int), oL 60 c60_o []]), (9, oL 60 c60_o x45), (10, nI y6)] := by
       intro x45 h σ' hk
       unfold spec_AtomBindings_J5 at h
       exact hK12 _ (lh hk rfl (rg (sp 3 rfl (evn (hN _ _ h (okr rfl))))))
      rcases cond_some h with ⟨g46, h⟩ | ⟨g46, h⟩
      ·refine qT rfl g46 (rg (sp 2 rfl (qBs c60_o [z14] rfl rfl rfl zc60_o (?_))))
       obtain ⟨g47, h⟩ := chk_some h
       exact qA c60_o y5 [z14] rfl rfl (flat_len zc60_o [z14]) rfl g47 (sp 1 rfl (evn (kJ5 h _ (okr rfl))))
      ·exact qF rfl g46 (ls_skip (kJ5 h _ (okr rfl)))
     refine ls_rec (fun (s : Bool × Int) => match s with | (y13, y14) => [(3, .box [.str a1.1, dL ci64 a1.2]), (4, .box [nI 0, oL 60 c60_o []]), (5, oL 3 ci64 v1), (6, .box [nI v3.1.1, oL 60 c60_o v3.1.2]), (8, .box [nI (List.length v1 : Int), oL 60 c60_o []]), (9, oL 60 c60_o y5), (10, nI y6), (11, oL 3 ci64 z14), (13, .bool y13), (14, nI y14)]) _ _ _ _ hl (okr rfl) (fun _ => rfl) ?_
     rintro m ⟨y13, y14⟩ N h hN
     unfold spec_AtomBindings_B3 at h
     dsimp only at h
     refine ls_seq_k fun K29 hK29 => rn 1 rfl ?_
     rcases cond_some h with ⟨g30, h⟩ | ⟨g30, h⟩
     ·refine qT rfl g30 (ls_skip (hK29 _ (ls_seq_k fun K31 hK31 => ls_blk (rs (sp 4 rfl (?_))))))
      obtain ⟨e32, g33, h⟩ := ob_some h
      refine qI rfl zci64 g33 (sp 1 rfl (?_))
      obtain ⟨v34, g35, h⟩ := ob_some h
      refine qC (qa rfl (erD eci64 _) (qs rfl eran)) (spec_l7Find_s g35) (sp 1 rfl (evn ?_))
      have kJ4 : ∀ {x36 : Bool}, spec_AtomBindings_J4 (loopF (spec_AtomBindings_B3 a1 v1 v3 y6 z14) m) y14 x36 = some o3 → Jn K31 [(3, .box [.str a1.1, dL ci64 a1.2]), (4, .box [nI 0, oL 60 c60_o []]), (5, oL 3 ci64 v1), (6, .box [nI v3.1.1, oL 60 c60_o v3.1.2]), (8, .box [nI (List.length v1 : Int), oL 60 c60_o []]), (9, oL 60 c60_o y5), (10, nI y6), (11, oL 3 ci64 z14), (13, .bool x36), (14, nI y14)] := by
       intro x36 h σ' hk
       unfold spec_AtomBindings_J4 at h
       exact hK31 _ (lh hk rfl (rg (sp 3 rfl (evn (hN _ _ h (okr rfl))))))
      refine rgd (by kernel_rfl) (sd 2 rfl (?_))
      rcases cond_some h with ⟨g37, h⟩ | ⟨g37, h⟩
      ·refine qgd 88 g37 rfl (sd 4 rfl (?_))
       rcases cond_some h with ⟨g38, h⟩ | ⟨g38, h⟩
       ·refine qgd 92 g38 rfl (sd 2 rfl (?_))
        obtain ⟨e39, g40, h⟩ := ob_some h
        refine ed rfl (oGR rfl rfl (qI rfl zci64 g40 (sd 4 rfl (?_))))
        obtain ⟨e41, g42, h⟩ := ob_some h
        refine ed rfl (oGR rfl rfl (qI rfl zc60_o g42 (sd 2 rfl (?_))))
        obtain ⟨e43, g44, h⟩ := ob_some h
        exact ed rfl (oGR rfl rfl (qI rfl zci64 g44 (sd 4 rfl (evdn (kJ4 h _ (okr rfl))))))
       ·exact qgd 92 g38 rfl (sd 15 rfl (evdn (kJ4 h _ (okr rfl))))
      ·exact qgd 88 g37 rfl (sd 19 rfl (evdn (kJ4 h _ (okr rfl))))
     ·exact qF rfl g30 (ls_exit (kXB3 (Option.some.inj h) _ (okr rfl)))
    refine ls_rec (fun (s : (List Int) × Int) => match s with | (y11, y12) => [(3, .box [.str a1.1, dL ci64 a1.2]), (4, .box [nI 0, oL 60 c60_o []]), (5, oL 3 ci64 v1), (6, .box [nI v3.1.1, oL 60 c60_o v3.1.2]), (8, .box [nI (List.length v1 : Int), oL 60 c60_o []]), (9, oL 60 c60_o y5), (10, nI y6), (11, oL 3 ci64 y11), (12, nI y12)]) _ _ _ _ hl (okr rfl) (fun _ => rfl) ?_
    rintro m ⟨y11, y12⟩ N h hN
    unfold spec_AtomBindings_B2 at h
    dsimp only at h
    refine ls_seq_k fun K15 hK15 => rn 1 rfl ?_
    rcases cond_some h with ⟨g16, h⟩ | ⟨g16, h⟩
    ·refine qT rfl g16 (ls_skip (hK15 _ (ls_seq_k fun K17 hK17 => ls_blk (rgd (by kernel_rfl) (sd 4 rfl (?_))))))
     obtain ⟨e18, g19, h⟩ := ob_some h
     refine ed rfl (qI rfl zc60_o g19 (sd 5 rfl (?_)))
     obtain ⟨e20, g21, h⟩ := ob_some h
     refine ed rfl (qI rfl zci64 g21 (sd 1 rfl (?_)))
     obtain ⟨v22, g23, h⟩ := ob_some h
     refine ed rfl (qC (qa rfl (erD eci64 _) (qs rfl eran)) (spec_l7Find_s g23) (?_))
     obtain ⟨e24, g25, h⟩ := ob_some h
     refine ed rfl (qI rfl zci64 g25 (sd 1 rfl (ed rfl (qBs ci64 [e24] rfl rfl rfl zci64 (?_)))))
     obtain ⟨g26, h⟩ := chk_some h
     exact ed rfl (qA ci64 y11 [e24] rfl rfl (flat_len zci64 [e24]) rfl g26 (sd 1 rfl (evdn (hK17 _ (rg (sp 3 rfl (evn (hN _ _ h (okr rfl)))))))))
    ·exact qF rfl g16 (ls_exit (kXB2 (Option.some.inj h) _ (okr rfl)))
   ·exact qF rfl g11 (ls_exit (kXB1 (Option.some.inj h) _ (okr rfl)))
def spec_AtomSizes_B1 (a0 : List Y82) (a1 : Y61) (rec : ((List Int) × Int) → Option ((List Int))) (s : (List Int) × Int) : Option ((List Int)) := match s with
  | (y1, y2) => cond (decide (y2 < (List.length a1.2.1 : Int))) (obind (geti a1.2.1 y2) fun e10 => obind (spec_AtomBindings a0 e10) fun v12 => chk (List.length y1 + List.length [(List.length v12.2 : Int)] ≤ lim) (rec ((y1 ++ [(List.length v12.2 : Int)]), (IntKind.i64.wrap (y2 + 1))))) (some y1)
def spec_AtomSizes (a0 : List Y82) (a1 : Y61) : Option ((List Int) × Bool) := obind (spec_IsQueryFor a0 a1) fun v2 => cond (!v2) (some (([] : List Int), false)) (obind (loopF (spec_AtomSizes_B1 a0 a1) fz (([] : List Int), 0)) fun z6 => some (z6, true))
theorem spec_AtomSizes_s {a0 : List Y82} {a1 : Y61} {r : (List Int) × Bool} (h : spec_AtomSizes a0 a1 = some r) : SoundAt Try.prog 81 [.agg [dL c83_dd a0], .agg (c62_ddd a1)] (.tup [oL 3 ci64 r.1, .bool r.2]) := by
 unfold spec_AtomSizes at h
 refine st lit81 rfl (rn 1 rfl (rs (qBs ci64 [] rfl rfl rfl zci64 (sp 1 rfl (evn (ls_seq_k fun K1 hK1 => rs (sp 2 rfl (?_))))))))
 obtain ⟨v2, g3, h⟩ := ob_some h
 refine qC (qa rfl (erg (erc (erD ec83_dd _) rfl)) (qa rfl (erg (erc rfl (erc (erD ec124_d _) (erc (erD eci64 _) rfl)))) eran)) (spec_IsQueryFor_s g3) (sp 1 rfl (evn ?_))
 rcases cond_some h with ⟨g4, h⟩ | ⟨g4, h⟩
 ·exact qT rfl g4 (rn 1 rfl (ls_ret ((by cases h; exact ⟨.inl rfl, rfl⟩))))
 ·refine qF rfl g4 (ls_skip (hK1 _ (ls_seq_k fun K5 hK5 => rn 1 rfl ?_)))
  obtain ⟨o1, hl, hr1⟩ := ob_some h
  have kXB1 : ∀ {z6 : List Int}, z6 = o1 → Jn K5 [(6, oL 3 ci64 z6)] := by
   intro z6 h σ' hk
   subst h
   replace h := hr1
   try dsimp only at h
   exact hK5 _ (lh hk rfl (rn 1 rfl (ls_ret ((by cases h; exact ⟨.inl rfl, rfl⟩)))))
  refine ls_rec (fun (s : (List Int) × Int) => match s with | (y1, y2) => [(2, .box [dL c83_dd a0]), (3, .box [nI a1.1, dL c124_d a1.2.1, dL ci64 a1.2.2]), (6, oL 3 ci64 y1), (7, nI y2)]) _ _ _ _ hl (okr rfl) (fun _ => rfl) ?_
  rintro m ⟨y1, y2⟩ N h hN
  unfold spec_AtomSizes_B1 at h
  dsimp only at h
  refine ls_seq_k fun K7 hK7 => rn 1 rfl ?_
  rcases cond_some h with ⟨g8, h⟩ | ⟨g8, h⟩
  ·refine qT rfl g8 (ls_skip (hK7 _ (ls_seq_k fun K9 hK9 => ls_blk (rgd (by kernel_rfl) (sd 5 rfl (?_))))))
   obtain ⟨e10, g11, h⟩ := ob_some h
   refine ed rfl (qI rfl zc124_d g11 (sd 1 rfl (?_)))
   obtain ⟨v12, g13, h⟩ := ob_some h
   refine ed rfl (qC (qa rfl (erg (erc (erD ec83_dd _) rfl)) (qa rfl (erg (erc rfl (erc (erD eci64 _) rfl))) eran)) (spec_AtomBindings_s g13) (ed rfl (qFd 1 (by kernel_rfl) rfl (sd 1 rfl (ed rfl (qBs ci64 [(List.length v12.2 : Int)] rfl rfl rfl zci64 (?_)))))))
   obtain ⟨g14, h⟩ := chk_some h
   exact ed rfl (qA ci64 y1 [(List.length v12.2 : Int)] rfl rfl (flat_len zci64 [(List.length v12.2 : Int)]) rfl g14 (sd 1 rfl (evdn (hK9 _ (rg (sp 3 rfl (evn (hN _ _ h (okr rfl)))))))))
  ·exact qF rfl g8 (ls_exit (kXB1 (Option.some.inj h) _ (okr rfl)))
def spec_FDBound_B1 (a0 : List Y82) (a2 : List Y114) (rec : Int → Option (Sum (Unit) (Int × Bool))) (y1 : Int) : Option (Sum (Unit) (Int × Bool)) := cond (decide (y1 < (List.length a2 : Int))) (obind (geti a2 y1) fun e9 => obind (spec_FDHolds a0 e9) fun v11 => cond (!v11) (some (.inr (0, false))) (rec (IntKind.i64.wrap (y1 + 1)))) (some (.inl ()))
def spec_FDBound_J4 (rec : ((List Int) × Int × Int) → Option ((List Int) × Int)) (y12 : Int) (x27 : List Int) (x28 : Int) : Option ((List Int) × Int) := rec (x27, x28, (IntKind.i64.wrap (y12 + 1)))
def spec_FDBound_B3 (a1 : Y61) (v1 : (List Int) × Bool) (y6 : Int) (rec : ((List Int) × Int × Int) → Option ((List Int) × Int)) (s : (List Int) × Int × Int) : Option ((List Int) × Int) := match s with
  | (y10, y11, y12) => cond (decide (y12 < (List.length a1.2.1 : Int))) (chk ((0 : Int) ≤ y12) (cond ((andI (shrI y6 y12) 1) == 1) (obind (geti a1.2.1 y12) fun e30 => chk (List.length y10 + List.length e30.2 ≤ lim) (obind (geti v1.1 y12) fun e33 => spec_FDBound_J4 rec y12 (y10 ++ e30.2) (IntKind.i64.wrap (y11 * e33)))) (spec_FDBound_J4 rec y12 y10 y11))) (some (y10, y11))
def spec_FDBound_J6 (rec : (Int × Int) → Option (Int)) (y6 : Int) (x37 : Int) : Option (Int) := rec (x37, (IntKind.i64.wrap (y6 + 1)))
def spec_FDBound_J5 (rec : (Int × Int) → Option (Int)) (y5 : Int) (y6 : Int) (z22 : Int) (x36 : Bool) : Option (Int) := cond x36 (spec_FDBound_J6 rec y6 z22) (spec_FDBound_J6 rec y6 y5)
def spec_FDBound_B2 (a1 : Y61) (a2 : List Y114) (v1 : (List Int) × Bool) (rec : (Int × Int) → Option (Int)) (s : Int × Int) : Option (Int) := match s with
  | (y5, y6) => chk ((0 : Int) ≤ (List.length a1.2.1 : Int)) (cond (decide (y6 < (shlI 1 (List.length a1.2.1 : Int)))) (obind (loopF (spec_FDBound_B3 a1 v1 y6) fz (([] : List Int), 1, 0)) fun o3 => (match o3 with
  | (z21, z22) => (obind (spec_FDClosure a1 a2 z21) fun v39 => cond ((List.length v39 : Int) == a1.1) (cond (decide (y5 < 0)) (spec_FDBound_J5 rec y5 y6 z22 true) (spec_FDBound_J5 rec y5 y6 z22 (decide (z22 < y5)))) (spec_FDBound_J5 rec y5 y6 z22 false)))) (some y5))
def spec_FDBound (a0 : List Y82) (a1 : Y61) (a2 : List Y114) : Option (Int × Bool) := obind (spec_AtomSizes a0 a1) fun v1 => cond (!v1.2) (some (0, false)) (obind (loopF (spec_FDBound_B1 a0 a2) fz 0) fun o1 => (match o1 with
  | .inl _ => (obind (loopF (spec_FDBound_B2 a1 a2 v1) fz ((-1), 0)) fun z15 => some (z15, true))
  | .inr r => some r))
theorem spec_FDBound_s {a0 : List Y82} {a1 : Y61} {a2 : List Y114} {r : Int × Bool} (h : spec_FDBound a0 a1 a2 = some r) : SoundAt Try.prog 35 [.agg [dL c83_dd a0], .agg (c62_ddd a1), dL c115_d a2] (.tup [nI r.1, .bool r.2]) := by
 unfold spec_FDBound at h
 refine st lit35 rfl (rn 1 rfl (rs (sp 2 rfl (?_))))
 obtain ⟨v1, g2, h⟩ := ob_some h
 refine qC (qa rfl (erg (erc (erD ec83_dd _) rfl)) (qa rfl (erg (erc rfl (erc (erD ec124_d _) (erc (erD eci64 _) rfl)))) eran)) (spec_AtomSizes_s g2) (sp 5 rfl (evn (ls_seq_k fun K3 hK3 => rn 1 rfl ?_)))
 rcases cond_some h with ⟨g4, h⟩ | ⟨g4, h⟩
 ·exact qT rfl g4 (rn 1 rfl (ls_ret ((by cases h; exact ⟨.inl rfl, rfl⟩))))
 ·refine qF rfl g4 (ls_skip (hK3 _ (ls_seq_k fun K5 hK5 => rn 1 rfl ?_)))
  obtain ⟨o1, hl, hr1⟩ := ob_some h
  have kXB1 : (.inl ()) = o1 → Jn K5 [(2, dL c115_d a2), (4, .box [nI a1.1, dL c124_d a1.2.1, dL ci64 a1.2.2]), (8, oL 3 ci64 v1.1)] := by
   intro h σ' hk
   subst h
   replace h := hr1
   try dsimp only at h
   refine hK5 _ (lh hk rfl (rn 1 rfl (ls_seq_k fun K14 hK14 => rn 1 rfl ?_)))
   obtain ⟨o2, hl, hr2⟩ := ob_some h
   have kXB2 : ∀ {z15 : Int}, z15 = o2 → Jn K14 [(11, nI z15)] := by
    intro z15 h σ' hk
    subst h
    replace h := hr2
    try dsimp only at h
    exact hK14 _ (lh hk rfl (rn 1 rfl (ls_ret ((by cases h; exact ⟨.inl rfl, rfl⟩)))))
   refine ls_rec (fun (s : Int × Int) => match s with | (y5, y6) => [(2, dL c115_d a2), (4, .box [nI a1.1, dL c124_d a1.2.1, dL ci64 a1.2.2]), (8, oL 3 ci64 v1.1), (11, nI y5), (12, nI y6)]) _ _ _ _ hl (okr rfl) (fun _ => rfl) ?_
   rintro m ⟨y5, y6⟩ N h hN
   unfold spec_FDBound_B2 at h
   dsimp only at h
   refine ls_seq_k fun K16 hK16 => rs (sp 4 rfl (?_))
   obtain ⟨g17, h⟩ := chk_some h
   refine qB rfl g17 rfl (sp 1 rfl (evn ?_))
   rcases cond_some h with ⟨g18, h⟩ | ⟨g18, h⟩
   ·refine qT rfl g18 (ls_skip (hK16 _ (ls_seq_k fun K19 hK19 => ls_blk (rs (qBs ci64 [] rfl rfl rfl zci64 (sp 1 rfl (evn (rn 1 rfl (ls_seq_k fun K20 hK20 => rn 1 rfl ?_)))))))))
    obtain ⟨o3, hl, hr3⟩ := ob_some h
    have kXB3 : ∀ {z21 : List Int} {z22 : Int}, (z21, z22) = o3 → Jn K20 [(2, dL c115_d a2), (4, .box [nI a1.1, dL c124_d a1.2.1, dL ci64 a1.2.2]), (8, oL 3 ci64 v1.1), (11, nI y5), (12, nI y6), (13, oL 3 ci64 z21), (14, nI z22)] := by
     intro z21 z22 h σ' hk
     subst h
     replace h := hr3
     try dsimp only at h
     refine hK20 _ (lh hk rfl (rdk (by kernel_rfl) fun K35 hK35 => ?_))
     have kJ5 : ∀ {x36 : Bool}, spec_FDBound_J5 (loopF (spec_FDBound_B2 a1 a2 v1) m) y5 y6 z22 x36 = some o2 → Jn K35 [(2, dL c115_d a2), (4, .box [nI a1.1, dL c124_d a1.2.1, dL ci64 a1.2.2]), (8, oL 3 ci64 v1.1), (11, nI y5), (12, nI y6), (14, nI z22), (88, .bool x36)] := by
      intro x36 h σ' hk
      unfold spec_FDBound_J5 at h
      refine hK35 _ (lh hk rfl ?_)
      have kJ6 : ∀ {x37 : Int}, spec_FDBound_J6 (loopF (spec_FDBound_B2 a1 a2 v1) m) y6 x37 = some o2 → Jn K19 [(2, dL c115_d a2), (4, .box [nI a1.1, dL c124_d a1.2.1, dL ci64 a1.2.2]), (8, oL 3 ci64 v1.1), (11, nI x37), (12, nI y6)] := by
       intro x37 h σ' hk
       unfold spec_FDBound_J6 at h
       exact hK19 _ (lh hk rfl (rg (sp 3 rfl (evn (hN _ _ h (okr rfl))))))
      rcases cond_some h with ⟨g38, h⟩ | ⟨g38, h⟩
      ·exact qT rfl g38 (rg (sp 2 rfl (evn (kJ6 h _ (okr rfl)))))
      ·exact qF rfl g38 (ls_skip (kJ6 h _ (okr rfl)))
     refine sd 3 rfl (?_)
     obtain ⟨v39, g40, h⟩ := ob_some h
     refine ed rfl (qC (qa rfl (erg (erc rfl (erc (erD ec124_d _) (erc (erD eci64 _) rfl)))) (qa rfl (erD ec115_d _) (qa rfl (erD eci64 _) eran))) (spec_FDClosure_s g40) (sd 5 rfl (?_)))
     rcases cond_some h with ⟨g41, h⟩ | ⟨g41, h⟩
     ·refine qgd 80 g41 rfl (sd 3 rfl (?_))
      rcases cond_some h with ⟨g42, h⟩ | ⟨g42, h⟩
      ·exact qgd 83 g42 rfl (sd 5 rfl (evdn (kJ5 h _ (okr rfl))))
      ·exact qgd 83 g42 rfl (sd 5 rfl (evdn (kJ5 h _ (okr rfl))))
     ·exact qgd 80 g41 rfl (sd 8 rfl (evdn (kJ5 h _ (okr rfl))))
    refine ls_rec (fun (s : (List Int) × Int × Int) => match s with | (y10, y11, y12) => [(2, dL c115_d a2), (4, .box [nI a1.1, dL c124_d a1.2.1, dL ci64 a1.2.2]), (8, oL 3 ci64 v1.1), (11, nI y5), (12, nI y6), (13, oL 3 ci64 y10), (14, nI y11), (15, nI y12)]) _ _ _ _ hl (okr rfl) (fun _ => rfl) ?_
    rintro m ⟨y10, y11, y12⟩ N h hN
    unfold spec_FDBound_B3 at h
    dsimp only at h
    refine ls_seq_k fun K23 hK23 => rn 1 rfl ?_
    rcases cond_some h with ⟨g24, h⟩ | ⟨g24, h⟩
    ·refine qT rfl g24 (ls_skip (hK23 _ (ls_seq_k fun K25 hK25 => ls_blk (rs (sp 2 rfl (?_))))))
     obtain ⟨g26, h⟩ := chk_some h
     refine qB rfl g26 rfl (sp 2 rfl (evn ?_))
     have kJ4 : ∀ {x27 : List Int} {x28 : Int}, spec_FDBound_J4 (loopF (spec_FDBound_B3 a1 v1 y6) m) y12 x27 x28 = some o3 → Jn K25 [(2, dL c115_d a2), (4, .box [nI a1.1, dL c124_d a1.2.1, dL ci64 a1.2.2]), (8, oL 3 ci64 v1.1), (11, nI y5), (12, nI y6), (13, oL 3 ci64 x27), (14, nI x28), (15, nI y12)] := by
      intro x27 x28 h σ' hk
      unfold spec_FDBound_J4 at h
      exact hK25 _ (lh hk rfl (rg (sp 3 rfl (evn (hN _ _ h (okr rfl))))))
     rcases cond_some h with ⟨g29, h⟩ | ⟨g29, h⟩
     ·refine qT rfl g29 (rs (sp 4 rfl (?_)))
      obtain ⟨e30, g31, h⟩ := ob_some h
      refine qI rfl zc124_d g31 (sp 2 rfl (?_))
      obtain ⟨g32, h⟩ := chk_some h
      refine qA ci64 y10 e30.2 rfl rfl (flat_len zci64 e30.2) (map_dg (fun _ => rfl) _) g32 (sp 1 rfl (evn (rg (sp 3 rfl (?_)))))
      obtain ⟨e33, g34, h⟩ := ob_some h
      exact qI rfl zci64 g34 (sp 3 rfl (evn (kJ4 h _ (okr rfl))))
     ·exact qF rfl g29 (ls_skip (kJ4 h _ (okr rfl)))
    ·exact qF rfl g24 (ls_exit (kXB3 (Option.some.inj h) _ (okr rfl)))
   ·exact qF rfl g18 (ls_exit (kXB2 (Option.some.inj h) _ (okr rfl)))
  refine ls_rec (fun (y1 : Int) => [(2, dL c115_d a2), (3, .box [dL c83_dd a0]), (4, .box [nI a1.1, dL c124_d a1.2.1, dL ci64 a1.2.2]), (8, oL 3 ci64 v1.1), (10, nI y1)]) _ _ _ _ hl (okr rfl) (fun _ => rfl) ?_
  rintro m y1 N h hN
  unfold spec_FDBound_B1 at h
  refine ls_seq_k fun K6 hK6 => rn 1 rfl ?_
  rcases cond_some h with ⟨g7, h⟩ | ⟨g7, h⟩
  ·refine qT rfl g7 (ls_skip (hK6 _ (ls_seq_k fun K8 hK8 => ls_blk (rd (by kernel_rfl) (sd 3 rfl (?_))))))
   obtain ⟨e9, g10, h⟩ := ob_some h
   refine ed rfl (qI rfl zc115_d g10 (sd 1 rfl (?_)))
   obtain ⟨v11, g12, h⟩ := ob_some h
   refine ed rfl (qC (qa rfl (erg (erc (erD ec83_dd _) rfl)) (qa rfl (erg (erc rfl (erc (erD eci64 _) (erc rfl rfl)))) eran)) (spec_FDHolds_s g12) (sd 1 rfl (evdn ?_)))
   rcases cond_some h with ⟨g13, h⟩ | ⟨g13, h⟩
   ·exact qT rfl g13 (rn 1 rfl (ls_ret ((by cases h; cases hr1; exact ⟨.inl rfl, rfl⟩))))
   ·exact qF rfl g13 (ls_skip (hK8 _ (rg (sp 3 rfl (evn (hN _ _ h (okr rfl)))))))
  ·exact qF rfl g7 (ls_exit (kXB1 (Option.some.inj h) _ (okr rfl)))
def c60_a (x : List Int) : List V := [aL ci64 x]
theorem zc60_a (x : List Int) : (c60_a x).length = 1 := rfl
theorem ec60_a (x : List Int) : erL (c60_a x) = c60_d x := (erc (erG eci64 _) rfl)
def c83_aa (x : Y82) : List V := [.str x.1, nI x.2.1, aL c60_a x.2.2]
theorem zc83_aa (x : Y82) : (c83_aa x).length = 3 := rfl
theorem ec83_aa (x : Y82) : erL (c83_aa x) = c83_dd x := (erc rfl (erc rfl (erc (erG ec60_a _) rfl)))
def c124_a (x : Y123) : List V := [.str x.1, aL ci64 x.2]
theorem zc124_a (x : Y123) : (c124_a x).length = 2 := rfl
theorem ec124_a (x : Y123) : erL (c124_a x) = c124_d x := (erc rfl (erc (erG eci64 _) rfl))
theorem gkc124_a (x : Y123) : argdL (c124_a x) = true := (acc rfl (acc (aca (fun _ => rfl) _) rfl))
theorem gkc60_a (x : List Int) : argdL (c60_a x) = true := (acc (aca (fun _ => rfl) _) rfl)
theorem gkc83_aa (x : Y82) : argdL (c83_aa x) = true := (acc rfl (acc rfl (acc (aca gkc60_a _) rfl)))
theorem bkc124_d (x : Y123) : argAbleL (c124_d x) = true := (bcc rfl (bcc (ableD (fun _ => rfl) _) rfl))
theorem vkc124_d (x : Y123) : argVL (c124_d x) = c124_a x := (vcc rfl (vcc (argD (fun _ => rfl) _) rfl))
theorem bkc60_d (x : List Int) : argAbleL (c60_d x) = true := (bcc (ableD (fun _ => rfl) _) rfl)
theorem bkc83_dd (x : Y82) : argAbleL (c83_dd x) = true := (bcc rfl (bcc rfl (bcc (ableD bkc60_d _) rfl)))
theorem vkc60_d (x : List Int) : argVL (c60_d x) = c60_a x := (vcc (argD (fun _ => rfl) _) rfl)
theorem vkc83_dd (x : Y82) : argVL (c83_dd x) = c83_aa x := (vcc rfl (vcc rfl (vcc (argD vkc60_d _) rfl)))
def spec_l8Walk_J3 (rec : ((List Int) × Bool × Int) → Option ((List Int) × Bool)) (v6 : Y28 × Bool) (y5 : Int) (y9 : List Int) (y11 : Int) (e23 : Int) (x26 : Bool) : Option ((List Int) × Bool) := chk (0 < List.length y9) (obind (geti v6.1.2 y5) fun e29 => obind (geti e29 y11) fun e31 => obind (geti y9 e23) fun e33 => rec ((seti y9 e23 e31), x26, (IntKind.i64.wrap (y11 + 1))))
def spec_l8Walk_B2 (a1 : Y61) (a2 : Int) (v6 : Y28 × Bool) (y5 : Int) (rec : ((List Int) × Bool × Int) → Option ((List Int) × Bool)) (s : (List Int) × Bool × Int) : Option ((List Int) × Bool) := match s with
  | (y9, y10, y11) => cond (decide (y11 < v6.1.1)) (cond y10 (obind (geti a1.2.1 a2) fun e21 => obind (geti e21.2 y11) fun e23 => obind (geti y9 e23) fun e35 => cond (e35 == (-1)) (spec_l8Walk_J3 rec v6 y5 y9 y11 e23 true) (obind (geti y9 e23) fun e38 => obind (geti v6.1.2 y5) fun e40 => obind (geti e40 y11) fun e42 => spec_l8Walk_J3 rec v6 y5 y9 y11 e23 (e38 == e42))) (some (y9, y10))) (some (y9, y10))
def spec_l8Walk_J4 (rec : ((List (List Int)) × Int) → Option ((List (List Int)))) (y5 : Int) (x44 : List (List Int)) : Option ((List (List Int))) := rec (x44, (IntKind.i64.wrap (y5 + 1)))
def spec_l8Walk_B1 (a0 : List Y82) (a1 : Y61) (a2 : Int) (a3 : List Int) (v6 : Y28 × Bool) (frec : ((List Y82) × Y61 × Int × (List Int)) → Option ((List (List Int)))) (rec : ((List (List Int)) × Int) → Option ((List (List Int)))) (s : (List (List Int)) × Int) : Option ((List (List Int))) := match s with
  | (y4, y5) => cond (decide (y5 < (List.length v6.1.2 : Int))) (chk (List.length ([] : List Int) + List.length a3 ≤ lim) (obind (loopF (spec_l8Walk_B2 a1 a2 v6 y5) fz ((([] : List Int) ++ a3), true, 0)) fun o2 => (match o2 with
  | (z15, z16) => (cond z16 (obind (frec (a0, a1, (IntKind.i64.wrap (a2 + 1)), z15)) fun v46 => chk (List.length y4 + List.length v46 ≤ lim) (spec_l8Walk_J4 rec y5 (y4 ++ v46))) (spec_l8Walk_J4 rec y5 y4))))) (some y4)
def spec_l8Walk_R (rec : ((List Y82) × Y61 × Int × (List Int)) → Option ((List (List Int)))) (s : (List Y82) × Y61 × Int × (List Int)) : Option ((List (List Int))) := match s with
  | (a0, a1, a2, a3) => cond (a2 == (List.length a1.2.1 : Int)) (chk (List.length ([] : List Int) + List.length a3 ≤ lim) (some ([([] : List Int) ++ a3]))) (obind (geti a1.2.1 a2) fun e4 => obind (spec_LookupRelation a0 e4.1) fun v6 => obind (loopF (spec_l8Walk_B1 a0 a1 a2 a3 v6 rec) fz (([] : List (List Int)), 0)) fun z9 => some z9)
def spec_l8Walk (a0 : List Y82) (a1 : Y61) (a2 : Int) (a3 : List Int) : Option ((List (List Int))) := loopF spec_l8Walk_R fz (a0, a1, a2, a3)
theorem spec_l8Walk_s {a0 : List Y82} {a1 : Y61} {a2 : Int} {a3 : List Int} {r : (List (List Int))} (h : spec_l8Walk a0 a1 a2 a3 = some r) : SoundAt Try.prog 84 [.agg [dL c83_dd a0], .agg (c62_ddd a1), nI a2, dL ci64 a3] (oL 60 c60_o r) := by
 suffices key : ∀ mF (a0 : List Y82) (a1 : Y61) (a2 : Int) (a3 : List Int) (r : (List (List Int))), loopF spec_l8Walk_R mF (a0, a1, a2, a3) = some r → SoundAt Try.prog 84 [.agg [dL c83_dd a0], .agg (c62_ddd a1), nI a2, dL ci64 a3] (oL 60 c60_o r) from key fz a0 a1 a2 a3 r h
 intro mF
 induction mF with
 | zero => intro a0 a1 a2 a3 r h; cases h
 | succ mF ih0 =>
  intro a0 a1 a2 a3 r h
  have ih : ∀ {a0 : List Y82} {a1 : Y61} {a2 : Int} {a3 : List Int} {r : (List (List Int))}, loopF spec_l8Walk_R mF (a0, a1, a2, a3) = some r → SoundAt Try.prog 84 [.agg [dL c83_dd a0], .agg (c62_ddd a1), nI a2, dL ci64 a3] (oL 60 c60_o r) := fun h => ih0 _ _ _ _ _ h
  change spec_l8Walk_R (loopF spec_l8Walk_R mF) (a0, a1, a2, a3) = some r at h
  unfold spec_l8Walk_R at h
  try dsimp only at h
  refine sta lit84 rfl (aall (bcc (ableD bkc83_dd _) rfl) (aall (bcc rfl (bcc (ableD bkc124_d _) (bcc (ableD (fun _ => rfl) _) rfl))) (aall rfl (aall (ableD (fun _ => rfl) _) rfl)))) (mvv (vag (vcc (argD vkc83_dd _) rfl)) (mvv (vag (vcc rfl (vcc (argD vkc124_d _) (vcc (argD (fun _ => rfl) _) rfl)))) (mvv rfl (mvv (argD (fun _ => rfl) _) rfl)))) (dco dkc60_o 60 _) (rn 1 rfl (ls_seq_k fun K1 hK1 => rn 1 rfl ?_))
  rcases cond_some h with ⟨g2, h⟩ | ⟨g2, h⟩
  ·refine qT rfl g2 (rs (qBs ci64 [] rfl rfl rfl zci64 (sp 1 rfl (?_))))
   obtain ⟨g3, h⟩ := chk_some h
   exact qA ci64 ([] : List Int) a3 rfl rfl (flat_len zci64 a3) (map_dg (fun _ => rfl) _) g3 (qBs c60_o [([] : List Int) ++ a3] rfl rfl rfl zc60_o (sp 1 rfl (evn (ls_ret ((by cases h; exact ⟨.inl rfl, rfl⟩))))))
  ·refine qF rfl g2 (ls_skip (hK1 _ (rs (qBs c60_o [] rfl rfl rfl zc60_o (sp 1 rfl (evn (rd (by kernel_rfl) (sd 4 rfl (?_)))))))))
   obtain ⟨e4, g5, h⟩ := ob_some h
   refine ed rfl (qI rfl zc124_a g5 (sd 2 rfl (?_)))
   obtain ⟨v6, g7, h⟩ := ob_some h
   refine ed rfl (qC (qa rfl (erg (erc (erG ec83_aa _) rfl)) (qs rfl eran)) (spec_LookupRelation_s g7) (sd 6 rfl (evdn (ls_seq_k fun K8 hK8 => rn 1 rfl (qk [2, 3, 4, 5, 9, 10, 12] rfl ?_)))))
   obtain ⟨o1, hl, hr1⟩ := ob_some h
   have kXB1 : ∀ {z9 : List (List Int)}, z9 = o1 → Jn K8 [(9, oL 60 c60_o z9)] := by
    intro z9 h σ' hk
    subst h
    replace h := hr1
    try dsimp only at h
    exact hK8 _ (lh hk rfl (rn 1 rfl (ls_ret ((by cases h; exact ⟨.inl rfl, rfl⟩)))))
   refine ls_rec (fun (s : (List (List Int)) × Int) => match s with | (y4, y5) => [(2, nI a2), (3, aL ci64 a3), (4, .box [aL c83_aa a0]), (5, .box [nI a1.1, aL c124_a a1.2.1, aL ci64 a1.2.2]), (9, oL 60 c60_o y4), (10, .box [nI v6.1.1, oL 60 c60_o v6.1.2]), (12, nI y5)]) _ _ _ _ hl (okr rfl) (fun _ => rfl) ?_
   rintro m ⟨y4, y5⟩ N h hN
   unfold spec_l8Walk_B1 at h
   dsimp only at h
   refine ls_seq_k fun K10 hK10 => rn 1 rfl ?_
   rcases cond_some h with ⟨g11, h⟩ | ⟨g11, h⟩
   ·refine qT rfl g11 (ls_skip (hK10 _ (ls_seq_k fun K12 hK12 => ls_blk (rs (qBs ci64 [] rfl rfl rfl zci64 (sp 1 rfl (?_)))))))
    obtain ⟨g13, h⟩ := chk_some h
    refine qA ci64 ([] : List Int) a3 rfl rfl (flat_len zci64 a3) (map_dg (fun _ => rfl) _) g13 (sp 1 rfl (evn (rn 1 rfl (ls_seq_k fun K14 hK14 => rn 1 rfl ?_))))
    obtain ⟨o2, hl, hr2⟩ := ob_some h
    have kXB2 : ∀ {z15 : List Int} {z16 : Bool}, (z15, z16) = o2 → Jn K14 [(2, nI a2), (3, aL ci64 a3), (4, .box [aL c83_aa a0]), (5, .box [nI a1.1, aL c124_a a1.2.1, aL ci64 a1.2.2]), (9, oL 60 c60_o y4), (10, .box [nI v6.1.1, oL 60 c60_o v6.1.2]), (12, nI y5), (13, oL 3 ci64 z15), (14, .bool z16)] := by
     intro z15 z16 h σ' hk
     subst h
     replace h := hr2
     try dsimp only at h
     refine hK14 _ (lh hk rfl (rn 1 rfl ?_))
     have kJ4 : ∀ {x44 : List (List Int)}, spec_l8Walk_J4 (loopF (spec_l8Walk_B1 a0 a1 a2 a3 v6 (loopF spec_l8Walk_R mF)) m) y5 x44 = some o1 → Jn K12 [(2, nI a2), (3, aL ci64 a3), (4, .box [aL c83_aa a0]), (5, .box [nI a1.1, aL c124_a a1.2.1, aL ci64 a1.2.2]), (9, oL 60 c60_o x44), (10, .box [nI v6.1.1, oL 60 c60_o v6.1.2]), (12, nI y5)] := by
      intro x44 h σ' hk
      unfold spec_l8Walk_J4 at h
      exact hK12 _ (lh hk rfl (rg (sp 3 rfl (evn (hN _ _ h (okr rfl))))))
     rcases cond_some h with ⟨g45, h⟩ | ⟨g45, h⟩
     ·refine qT rfl g45 (rg (sp 6 rfl (?_)))
      obtain ⟨v46, g47, h⟩ := ob_some h
      refine qC (qa rfl (erg (erc (erG ec83_aa _) rfl)) (qa rfl (erg (erc rfl (erc (erG ec124_a _) (erc (erG eci64 _) rfl)))) (qs rfl (qa rfl (erD eci64 _) eran)))) (ih g47) (?_)
      obtain ⟨g48, h⟩ := chk_some h
      exact qA c60_o y4 v46 rfl rfl (flat_len zc60_o v46) rfl g48 (sp 1 rfl (evn (kJ4 h _ (okr rfl))))
     ·exact qF rfl g45 (ls_skip (kJ4 h _ (okr rfl)))
    refine ls_rec (fun (s : (List Int) × Bool × Int) => match s with | (y9, y10, y11) => [(2, nI a2), (3, aL ci64 a3), (4, .box [aL c83_aa a0]), (5, .box [nI a1.1, aL c124_a a1.2.1, aL ci64 a1.2.2]), (9, oL 60 c60_o y4), (10, .box [nI v6.1.1, oL 60 c60_o v6.1.2]), (12, nI y5), (13, oL 3 ci64 y9), (14, .bool y10), (15, nI y11)]) _ _ _ _ hl (okr rfl) (fun _ => rfl) ?_
    rintro m ⟨y9, y10, y11⟩ N h hN
    unfold spec_l8Walk_B2 at h
    dsimp only at h
    refine ls_seq_k fun K17 hK17 => rs (sp 5 rfl (?_))
    rcases cond_some h with ⟨g18, h⟩ | ⟨g18, h⟩
    ·refine qg 52 g18 rfl (sp 2 rfl (evn ?_))
     rcases cond_some h with ⟨g19, h⟩ | ⟨g19, h⟩
     ·refine qT rfl g19 (ls_skip (hK17 _ (ls_seq_k fun K20 hK20 => ls_blk (rs (sp 3 rfl (?_))))))
      obtain ⟨e21, g22, h⟩ := ob_some h
      refine qI rfl zc124_a g22 (sp 3 rfl (?_))
      obtain ⟨e23, g24, h⟩ := ob_some h
      refine qI rfl zci64 g24 (sp 2 rfl (evn (rdk (by kernel_rfl) fun K25 hK25 => ?_)))
      have kJ3 : ∀ {x26 : Bool}, spec_l8Walk_J3 (loopF (spec_l8Walk_B2 a1 a2 v6 y5) m) v6 y5 y9 y11 e23 x26 = some o2 → Jn K25 [(2, nI a2), (3, aL ci64 a3), (4, .box [aL c83_aa a0]), (5, .box [nI a1.1, aL c124_a a1.2.1, aL ci64 a1.2.2]), (9, oL 60 c60_o y4), (10, .box [nI v6.1.1, oL 60 c60_o v6.1.2]), (12, nI y5), (13, oL 3 ci64 y9), (14, .bool x26), (15, nI y11), (16, nI e23)] := by
       intro x26 h σ' hk
       unfold spec_l8Walk_J3 at h
       refine hK25 _ (lh hk rfl (qk [2, 3, 4, 5, 9, 10, 12, 13, 14, 15, 16] rfl ?_))
       obtain ⟨g27, h⟩ := chk_some h
       refine ls_hg (gLs (q := 900003) (b := 13) rfl rfl rfl g27 ?_)
       intro gg28 mm28
       refine qk [2, 3, 4, 5, 9, 10, 12, 13, 14, 15, 16, 900003] rfl (ls_gh (rg (sp 5 rfl (?_))))
       obtain ⟨e29, g30, h⟩ := ob_some h
       refine qI rfl zc60_o g30 (sp 2 rfl (?_))
       obtain ⟨e31, g32, h⟩ := ob_some h
       refine qI rfl zci64 g32 (sp 1 rfl (?_))
       obtain ⟨e33, g34, h⟩ := ob_some h
       refine qIt rfl rfl rfl rfl g34 (?_)
       refine qSt (y0 := e33) (i := e23) (es := 1) 0 e31 [2, 3, 4, 5, 9, 10, 12, 13, 14, 15] rfl rfl rfl rfl rfl rfl rfl rfl rfl rfl zci64 g34 (fun _ => rfl) (dcc rfl dcn) (yc rfl (yc (acf (fun _ => rfl) _) (yc (snc (sA (aca gkc83_aa _)) rfl) (yc (snc rfl (snc (sA (aca gkc124_a _)) (snc (sA (aca (fun _ => rfl) _)) rfl))) (yc (dcf dkc60_o _) (yc (snc rfl (snc (sO (dco dkc60_o 60 _)) rfl)) (yc rfl (yc rfl (yc rfl (yc rfl yn)))))))))) (?_)
       exact evn (gDs (q := 900003) (b := 13) rfl rfl rfl (sl rfl) (hK20 _ (rg (sp 3 rfl (evn (hN _ _ h (okr rfl)))))))
      refine sd 2 rfl (?_)
      obtain ⟨e35, g36, h⟩ := ob_some h
      refine ed rfl (qI rfl zci64 g36 (sd 3 rfl (?_)))
      rcases cond_some h with ⟨g37, h⟩ | ⟨g37, h⟩
      ·exact qgd 71 g37 rfl (sd 15 rfl (evdn (kJ3 h _ (okr rfl))))
      ·refine qgd 71 g37 rfl (sd 2 rfl (?_))
       obtain ⟨e38, g39, h⟩ := ob_some h
       refine ed rfl (oGR rfl rfl (qI rfl zci64 g39 (sd 4 rfl (?_))))
       obtain ⟨e40, g41, h⟩ := ob_some h
       refine ed rfl (oGR rfl rfl (qI rfl zc60_o g41 (sd 2 rfl (?_))))
       obtain ⟨e42, g43, h⟩ := ob_some h
       exact ed rfl (oGR rfl rfl (qI rfl zci64 g43 (sd 4 rfl (evdn (kJ3 h _ (okr rfl))))))
     ·exact qF rfl g19 (ls_exit (kXB2 (Option.some.inj h) _ (okr rfl)))
    ·exact qg 52 g18 rfl (sp 2 rfl (evn (qk [2, 3, 4, 5, 9, 10, 12, 13, 14, 15, 54] rfl (qF rfl rfl (ls_exit (kXB2 (Option.some.inj h) _ (okr rfl)))))))
   ·exact qF rfl g11 (ls_exit (kXB1 (Option.some.inj h) _ (okr rfl)))
def spec_AllBindings_B1 (a1 : Y61) (rec : ((List Int)) → Option ((List Int))) (y1 : (List Int)) : Option ((List Int)) := cond (decide ((List.length y1 : Int) < a1.1)) (chk (List.length y1 + List.length [-1] ≤ lim) (rec (y1 ++ [-1]))) (some y1)
def spec_AllBindings (a0 : List Y82) (a1 : Y61) : Option (Y28) := obind (spec_IsQueryFor a0 a1) fun v2 => cond (!v2) (some (0, [])) (obind (loopF (spec_AllBindings_B1 a1) fz ([] : List Int)) fun z6 => obind (spec_l8Walk a0 a1 0 z6) fun v10 => obind (spec_NewRelation a1.1 v10) fun v12 => cond (!v12.2) (some (0, [])) (some v12.1))
theorem spec_AllBindings_s {a0 : List Y82} {a1 : Y61} {r : Y28} (h : spec_AllBindings a0 a1 = some r) : SoundAt Try.prog 36 [.agg [dL c83_dd a0], .agg (c62_ddd a1)] (.agg (c29_oo r)) := by
 unfold spec_AllBindings at h
 refine st lit36 rfl (rn 1 rfl (ls_seq_k fun K1 hK1 => rs (sp 2 rfl (?_))))
 obtain ⟨v2, g3, h⟩ := ob_some h
 refine qC (qa rfl (erg (erc (erD ec83_dd _) rfl)) (qa rfl (erg (erc rfl (erc (erD ec124_d _) (erc (erD eci64 _) rfl)))) eran)) (spec_IsQueryFor_s g3) (sp 1 rfl (evn ?_))
 rcases cond_some h with ⟨g4, h⟩ | ⟨g4, h⟩
 ·exact qT rfl g4 (rn 1 rfl (ls_ret ((by cases h; exact ⟨.inl rfl, rfl⟩))))
 ·refine qF rfl g4 (ls_skip (hK1 _ (rs (qBs ci64 [] rfl rfl rfl zci64 (sp 1 rfl (evn (ls_seq_k fun K5 hK5 => ?_)))))))
  obtain ⟨o1, hl, hr1⟩ := ob_some h
  have kXB1 : ∀ {z6 : List Int}, z6 = o1 → Jn K5 [(2, .box [dL c83_dd a0]), (3, .box [nI a1.1, dL c124_d a1.2.1, dL ci64 a1.2.2]), (4, .box [nI 0, oL 60 c60_o []]), (5, oL 3 ci64 z6)] := by
   intro z6 h σ' hk
   subst h
   replace h := hr1
   try dsimp only at h
   refine hK5 _ (lh hk rfl (rd (by kernel_rfl) (sd 5 rfl (?_))))
   obtain ⟨v10, g11, h⟩ := ob_some h
   refine ed rfl (qC (qa rfl (erg (erc (erD ec83_dd _) rfl)) (qa rfl (erg (erc rfl (erc (erD ec124_d _) (erc (erD eci64 _) rfl)))) (qs rfl (qa rfl (erD eci64 _) eran)))) (spec_l8Walk_s g11) (?_))
   obtain ⟨v12, g13, h⟩ := ob_some h
   refine ed rfl (qC (qs rfl (qa rfl (erO ec60_o _) eran)) (spec_NewRelation_s g13) (sd 6 rfl (evdn (ls_seq_k fun K14 hK14 => rn 1 rfl ?_))))
   rcases cond_some h with ⟨g15, h⟩ | ⟨g15, h⟩
   ·exact qT rfl g15 (rn 1 rfl (ls_ret ((by cases h; exact ⟨.inl rfl, rfl⟩))))
   ·exact qF rfl g15 (ls_skip (hK14 _ (rn 1 rfl (ls_ret ((by cases h; exact ⟨.inl rfl, rfl⟩))))))
  refine ls_rec (fun (y1 : List Int) => [(2, .box [dL c83_dd a0]), (3, .box [nI a1.1, dL c124_d a1.2.1, dL ci64 a1.2.2]), (4, .box [nI 0, oL 60 c60_o []]), (5, oL 3 ci64 y1)]) _ _ _ _ hl (okr rfl) (fun _ => rfl) ?_
  rintro m y1 N h hN
  unfold spec_AllBindings_B1 at h
  refine ls_seq_k fun K7 hK7 => rn 1 rfl ?_
  rcases cond_some h with ⟨g8, h⟩ | ⟨g8, h⟩
  ·refine qT rfl g8 (ls_skip (hK7 _ (ls_blk (rg (sp 1 rfl (qBs ci64 [-1] rfl rfl rfl zci64 (?_)))))))
   obtain ⟨g9, h⟩ := chk_some h
   exact qA ci64 y1 [-1] rfl rfl (flat_len zci64 [-1]) rfl g9 (sp 1 rfl (evn (hN _ _ h (okr rfl))))
  ·exact qF rfl g8 (ls_exit (kXB1 (Option.some.inj h) _ (okr rfl)))
def laws_FnFunctionalDependencyBound_B1 (v7 : (List Int)) (v24 : (List Int)) (rec : Int → Option (Sum (Unit) (Bool))) (y1 : Int) : Option (Sum (Unit) (Bool)) := cond (decide (y1 < (List.length v7 : Int))) (obind (geti v7 y1) fun e30 => obind (laws_has v24 e30) fun v32 => cond (!v32) (some (.inr false)) (rec (IntKind.i64.wrap (y1 + 1)))) (some (.inl ()))
def laws_FnFunctionalDependencyBound_J2 (x42 : Bool) : Option (Bool) := some x42
def laws_FnFunctionalDependencyBound (a0 : List Int) : Option (Bool) := obind (laws_big a0) fun v2 => cond v2 (some true) (obind (spec_DrawFDClosure a0) fun v5 => obind (impl_FDClosure v5.1 v5.2.1 v5.2.2) fun v7 => obind (spec_FDClosure v5.1 v5.2.1 v5.2.2) fun v10 => obind (laws_sameInts v7 v10) fun v12 => cond (!v12) (some false) (obind (impl_FDClosure v5.1 v5.2.1 v7) fun v15 => obind (laws_sameInts v15 v7) fun v17 => cond (!v17) (some false) (chk (List.length ([] : List Int) + List.length v5.2.2 ≤ lim) (obind (laws_at a0 0) fun v21 => chk (List.length (([] : List Int) ++ v5.2.2) + List.length [Int.tmod v21 5] ≤ lim) (obind (impl_FDClosure v5.1 v5.2.1 ((([] : List Int) ++ v5.2.2) ++ [Int.tmod v21 5])) fun v24 => obind (loopF (laws_FnFunctionalDependencyBound_B1 v7 v24) fz 0) fun o1 => (match o1 with
  | .inl _ => (obind (spec_DrawFDBound a0) fun v35 => obind (impl_FDBound v35.1 v35.2.1 v35.2.2) fun v37 => obind (spec_FDBound v35.1 v35.2.1 v35.2.2) fun v39 => cond (v37.1 == v39.1) (cond (v37.2 == v39.2) (cond (!v37.2) (laws_FnFunctionalDependencyBound_J2 true) (obind (spec_AllBindings v35.1 v35.2.1) fun v46 => laws_FnFunctionalDependencyBound_J2 (decide ((List.length v46.2 : Int) ≤ v37.1)))) (laws_FnFunctionalDependencyBound_J2 false)) (laws_FnFunctionalDependencyBound_J2 false))
  | .inr r => some r))))))
theorem laws_FnFunctionalDependencyBound_s {a0 : List Int} {r : Bool} (h : laws_FnFunctionalDependencyBound a0 = some r) : SoundAt Try.prog 5 [dL cu8 a0] (.bool r) := by
 unfold laws_FnFunctionalDependencyBound at h
 refine sta lit5 rfl (aall (ableD (fun _ => rfl) _) rfl) (mvv (argD (fun _ => rfl) _) rfl) rfl (rn 1 rfl (ls_seq_k fun K1 hK1 => rs (sp 1 rfl (?_))))
 obtain ⟨v2, g3, h⟩ := ob_some h
 refine qC (qa rfl (erG ecu8 _) eran) (laws_big_s g3) (evn ?_)
 rcases cond_some h with ⟨g4, h⟩ | ⟨g4, h⟩
 ·exact qT rfl g4 (rn 1 rfl (ls_ret ((by cases h; exact ⟨.inl rfl, rfl⟩))))
 ·refine qF rfl g4 (ls_skip (hK1 _ (rs (sp 1 rfl (?_)))))
  obtain ⟨v5, g6, h⟩ := ob_some h
  refine qCk rfl rfl (spec_DrawFDClosure_s g6) (sp 8 rfl (evn (rs (sp 3 rfl (?_)))))
  obtain ⟨v7, g8, h⟩ := ob_some h
  refine qC (qa rfl (erg (erc rfl (erc (erD ec124_o _) (erc (erD eci64 _) rfl)))) (qa rfl (erD ec115_o _) (qa rfl (erD eci64 _) eran))) (impl_FDClosure_s g8) (sp 1 rfl (evn (ls_seq_k fun K9 hK9 => rs (sp 4 rfl (?_)))))
  obtain ⟨v10, g11, h⟩ := ob_some h
  refine qC (qa rfl (erg (erc rfl (erc (erD ec124_o _) (erc (erD eci64 _) rfl)))) (qa rfl (erD ec115_o _) (qa rfl (erD eci64 _) eran))) (spec_FDClosure_s g11) (?_)
  obtain ⟨v12, g13, h⟩ := ob_some h
  refine qC (qa rfl (erD eci64 _) (qa rfl (erO eci64 _) eran)) (laws_sameInts_s g13) (sp 2 rfl (?_))
  rcases cond_some h with ⟨g14, h⟩ | ⟨g14, h⟩
  ·exact qg 35 g14 rfl (sp 8 rfl (evn (qk [0, 3, 4, 5, 6, 43] rfl (qT rfl rfl (rn 1 rfl (ls_ret ((by cases h; exact ⟨.inl rfl, rfl⟩))))))))
  ·refine qg 35 g14 rfl (sp 3 rfl (?_))
   obtain ⟨v15, g16, h⟩ := ob_some h
   refine oGR rfl rfl (qC (qa rfl (erg (erc rfl (erc (erD ec124_o _) (erc (erD eci64 _) rfl)))) (qa rfl (erD ec115_o _) (qa rfl (erD eci64 _) eran))) (impl_FDClosure_s g16) (sp 1 rfl (?_)))
   obtain ⟨v17, g18, h⟩ := ob_some h
   refine oGR rfl rfl (qC (qa rfl (erO eci64 _) (qa rfl (erD eci64 _) eran)) (laws_sameInts_s g18) (sp 2 rfl (evn ?_)))
   rcases cond_some h with ⟨g19, h⟩ | ⟨g19, h⟩
   ·exact qT rfl g19 (rn 1 rfl (ls_ret ((by cases h; exact ⟨.inl rfl, rfl⟩))))
   ·refine qF rfl g19 (ls_skip (hK9 _ (rd (by kernel_rfl) (sd 2 rfl (ed rfl (qBs ci64 [] rfl rfl rfl zci64 (sd 1 rfl (?_))))))))
    obtain ⟨g20, h⟩ := chk_some h
    refine ed rfl (qA ci64 ([] : List Int) v5.2.2 rfl rfl (flat_len zci64 v5.2.2) rfl g20 (sd 1 rfl (?_)))
    obtain ⟨v21, g22, h⟩ := ob_some h
    refine ed rfl (qC (qa rfl (erG ecu8 _) (qs rfl eran)) (laws_at_s g22) (sd 1 rfl (ed rfl (qBs ci64 [Int.tmod v21 5] rfl rfl rfl zci64 (?_)))))
    obtain ⟨g23, h⟩ := chk_some h
    refine ed rfl (qA ci64 (([] : List Int) ++ v5.2.2) [Int.tmod v21 5] rfl rfl (flat_len zci64 [Int.tmod v21 5]) rfl g23 (?_))
    obtain ⟨v24, g25, h⟩ := ob_some h
    refine ed rfl (qC (qa rfl (erg (erc rfl (erc (erD ec124_o _) (erc (erD eci64 _) rfl)))) (qa rfl (erD ec115_o _) (qa rfl (erO eci64 _) eran))) (impl_FDClosure_s g25) (sd 1 rfl (evdn (ls_seq_k fun K26 hK26 => rn 1 rfl (qk [0, 6, 7, 8] rfl ?_)))))
    obtain ⟨o1, hl, hr1⟩ := ob_some h
    have kXB1 : (.inl ()) = o1 → Jn K26 [(0, aL cu8 a0)] := by
     intro h σ' hk
     subst h
     replace h := hr1
     try dsimp only at h
     refine hK26 _ (lh hk rfl (rs (sp 1 rfl (?_))))
     obtain ⟨v35, g36, h⟩ := ob_some h
     refine qCk rfl rfl (spec_DrawFDBound_s g36) (sp 9 rfl (evn (rs (sp 3 rfl (?_)))))
     obtain ⟨v37, g38, h⟩ := ob_some h
     refine qC (qa rfl (erg (erc (erD ec83_oo _) rfl)) (qa rfl (erg (erc rfl (erc (erD ec124_o _) (erc (erD eci64 _) rfl)))) (qa rfl (erD ec115_d _) eran))) (impl_FDBound_s g38) (sp 5 rfl (evn (rs (sp 3 rfl (?_)))))
     obtain ⟨v39, g40, h⟩ := ob_some h
     refine qC (qa rfl (erg (erc (erD ec83_oo _) rfl)) (qa rfl (erg (erc rfl (erc (erD ec124_o _) (erc (erD eci64 _) rfl)))) (qa rfl (erD ec115_d _) eran))) (spec_FDBound_s g40) (sp 5 rfl (evn (rk fun K41 hK41 => ?_)))
     have kJ2 : ∀ {x42 : Bool}, laws_FnFunctionalDependencyBound_J2 x42 = some r → Jn K41 [(2, .bool x42)] := by
      intro x42 h σ' hk
      unfold laws_FnFunctionalDependencyBound_J2 at h
      exact hK41 _ (lh hk rfl (ls_ret ((by cases h; exact ⟨.inl rfl, rfl⟩))))
     refine sp 4 rfl (?_)
     rcases cond_some h with ⟨g43, h⟩ | ⟨g43, h⟩
     ·refine qg 91 g43 rfl (sp 5 rfl (?_))
      rcases cond_some h with ⟨g44, h⟩ | ⟨g44, h⟩
      ·refine qg 96 g44 rfl (sp 3 rfl (?_))
       rcases cond_some h with ⟨g45, h⟩ | ⟨g45, h⟩
       ·exact qg 99 g45 rfl (sp 10 rfl (evn (kJ2 h _ (okr rfl))))
       ·refine qg 99 g45 rfl (sp 2 rfl (?_))
        obtain ⟨v46, g47, h⟩ := ob_some h
        exact oGR rfl rfl (qC (qa rfl (erg (erc (erD ec83_oo _) rfl)) (qa rfl (erg (erc rfl (erc (erD ec124_o _) (erc (erD eci64 _) rfl)))) eran)) (spec_AllBindings_s g47) (oGR rfl rfl (qFd 1 (by kernel_rfl) rfl (sp 6 rfl (evn (kJ2 h _ (okr rfl)))))))
      ·exact qg 96 g44 rfl (sp 13 rfl (evn (kJ2 h _ (okr rfl))))
     ·exact qg 91 g43 rfl (sp 18 rfl (evn (kJ2 h _ (okr rfl))))
    refine ls_rec (fun (y1 : Int) => [(0, aL cu8 a0), (6, oL 3 ci64 v7), (7, oL 3 ci64 v24), (8, nI y1)]) _ _ _ _ hl (okr rfl) (fun _ => rfl) ?_
    rintro m y1 N h hN
    unfold laws_FnFunctionalDependencyBound_B1 at h
    refine ls_seq_k fun K27 hK27 => rn 1 rfl ?_
    rcases cond_some h with ⟨g28, h⟩ | ⟨g28, h⟩
    ·refine qT rfl g28 (ls_skip (hK27 _ (ls_seq_k fun K29 hK29 => ls_blk (rs (sp 3 rfl (?_))))))
     obtain ⟨e30, g31, h⟩ := ob_some h
     refine qI rfl zci64 g31 (sp 1 rfl (?_))
     obtain ⟨v32, g33, h⟩ := ob_some h
     refine qC (qa rfl (erD eci64 _) (qs rfl eran)) (laws_has_s g33) (sp 1 rfl (evn ?_))
     rcases cond_some h with ⟨g34, h⟩ | ⟨g34, h⟩
     ·exact qT rfl g34 (rn 1 rfl (ls_ret ((by cases h; cases hr1; exact ⟨.inl rfl, rfl⟩))))
     ·exact qF rfl g34 (ls_skip (hK29 _ (rg (sp 3 rfl (evn (hN _ _ h (okr rfl)))))))
    ·exact qF rfl g28 (ls_exit (kXB1 (Option.some.inj h) _ (okr rfl)))
end Go.Proofs.Ytcoalfphehhadaa
