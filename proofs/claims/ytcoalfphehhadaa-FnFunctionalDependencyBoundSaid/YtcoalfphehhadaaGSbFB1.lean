/-
  Functions of the program as typed functions, printed by gen.py, and that the program's functions do what they say. No conditions.
-/
import Derived.Test.YtcoalfphehhadaaGSFB1
namespace Go.Proofs.Ytcoalfphehhadaa
open Go.RowKit
set_option linter.unusedVariables false
set_option maxRecDepth 100000
set_option maxHeartbeats 1000000
abbrev Y28 := Int × (List (List Int))
def c60_d (x : List Int) : List V := [dL ci64 x]
theorem zc60_d (x : List Int) : (c60_d x).length = 1 := rfl
theorem ec60_d (x : List Int) : erL (c60_d x) = c60_d x := (erc (erD eci64 _) rfl)
def c60_o (x : List Int) : List V := [oL 3 ci64 x]
theorem zc60_o (x : List Int) : (c60_o x).length = 1 := rfl
theorem ec60_o (x : List Int) : erL (c60_o x) = c60_d x := (erc (erO eci64 _) rfl)
def c29_dd (x : Y28) : List V := [nI x.1, dL c60_d x.2]
theorem zc29_dd (x : Y28) : (c29_dd x).length = 2 := rfl
theorem ec29_dd (x : Y28) : erL (c29_dd x) = c29_dd x := (erc rfl (erc (erD ec60_d _) rfl))
def c29_oo (x : Y28) : List V := [nI x.1, oL 60 c60_o x.2]
theorem zc29_oo (x : Y28) : (c29_oo x).length = 2 := rfl
theorem ec29_oo (x : Y28) : erL (c29_oo x) = c29_dd x := (erc rfl (erc (erO ec60_o _) rfl))
def spec_l5Copy_B1 (a0 : Y28) (rec : ((List (List Int)) × Int) → Option ((List (List Int)))) (s : (List (List Int)) × Int) : Option ((List (List Int))) := match s with
  | (y1, y2) => cond (decide (y2 < (List.length a0.2 : Int))) (obind (geti a0.2 y2) fun e6 => chk (List.length ([] : List Int) + List.length e6 ≤ lim) (chk (List.length y1 + List.length ([([] : List Int) ++ e6]) ≤ lim) (rec ((y1 ++ ([([] : List Int) ++ e6])), (IntKind.i64.wrap (y2 + 1)))))) (some y1)
def spec_l5Copy (a0 : Y28) : Option (Y28) := obind (loopF (spec_l5Copy_B1 a0) fz (([] : List (List Int)), 0)) fun z2 => some (a0.1, z2)
theorem spec_l5Copy_s {a0 : Y28} {r : Y28} (h : spec_l5Copy a0 = some r) : SoundAt Try.prog 99 [.agg (c29_dd a0)] (.agg (c29_oo r)) := by
 unfold spec_l5Copy at h
 refine st lit99 rfl (rn 2 rfl (ls_seq_k fun K1 hK1 => rn 1 rfl ?_))
 obtain ⟨o1, hl, hr1⟩ := ob_some h
 have kXB1 : ∀ {z2 : List (List Int)}, z2 = o1 → Jn K1 [(2, .box [nI 0, oL 60 c60_o []]), (3, .box [nI a0.1, oL 60 c60_o z2])] := by
  intro z2 h σ' hk
  subst h
  replace h := hr1
  try dsimp only at h
  exact hK1 _ (lh hk rfl (rn 1 rfl (ls_ret ((by cases h; exact ⟨.inl rfl, rfl⟩)))))
 refine ls_rec (fun (s : (List (List Int)) × Int) => match s with | (y1, y2) => [(1, .box [nI a0.1, dL c60_d a0.2]), (2, .box [nI 0, oL 60 c60_o []]), (3, .box [nI a0.1, oL 60 c60_o y1]), (4, nI y2)]) _ _ _ _ hl (okr rfl) (fun _ => rfl) ?_
 rintro m ⟨y1, y2⟩ N h hN
 unfold spec_l5Copy_B1 at h
 dsimp only at h
 refine ls_seq_k fun K3 hK3 => rn 1 rfl ?_
 rcases cond_some h with ⟨g4, h⟩ | ⟨g4, h⟩
 ·refine qT rfl g4 (ls_skip (hK3 _ (ls_seq_k fun K5 hK5 => ls_blk (rgd (by kernel_rfl) (sd 2 rfl (ed rfl (qBs ci64 [] rfl rfl rfl zci64 (sd 3 rfl (?_)))))))))
  obtain ⟨e6, g7, h⟩ := ob_some h
  refine ed rfl (qI rfl zc60_d g7 (sd 1 rfl (?_)))
  obtain ⟨g8, h⟩ := chk_some h
  refine ed rfl (qA ci64 ([] : List Int) e6 rfl rfl (flat_len zci64 e6) (map_dg (fun _ => rfl) _) g8 (ed rfl (qBs c60_o [([] : List Int) ++ e6] rfl rfl rfl zc60_o (?_))))
  obtain ⟨g9, h⟩ := chk_some h
  exact ed rfl (qA c60_o y1 ([([] : List Int) ++ e6]) rfl rfl (flat_len zc60_o ([([] : List Int) ++ e6])) rfl g9 (sd 2 rfl (evdn (hK5 _ (rg (sp 3 rfl (evn (hN _ _ h (okr rfl)))))))))
 ·exact qF rfl g4 (ls_exit (kXB1 (Option.some.inj h) _ (okr rfl)))
def spec_CompareRows_B1 (a0 : List Int) (a1 : List Int) (rec : Int → Option (Sum (Unit) (Int))) (y1 : Int) : Option (Sum (Unit) (Int)) := cond (decide (y1 < (List.length a0 : Int))) (cond (decide (y1 < (List.length a1 : Int))) (obind (geti a0 y1) fun e7 => obind (geti a1 y1) fun e9 => cond (decide (e7 < e9)) (some (.inr (-1))) (obind (geti a0 y1) fun e12 => obind (geti a1 y1) fun e14 => cond (decide (e14 < e12)) (some (.inr 1)) (rec (IntKind.i64.wrap (y1 + 1))))) (some (.inl ()))) (some (.inl ()))
def spec_CompareRows (a0 : List Int) (a1 : List Int) : Option (Int) := obind (loopF (spec_CompareRows_B1 a0 a1) fz 0) fun o1 => (match o1 with
  | .inl _ => (cond (decide ((List.length a0 : Int) < (List.length a1 : Int))) (some (-1)) (cond (decide ((List.length a1 : Int) < (List.length a0 : Int))) (some 1) (some 0)))
  | .inr r => some r)
theorem spec_CompareRows_s {a0 : List Int} {a1 : List Int} {r : Int} (h : spec_CompareRows a0 a1 = some r) : SoundAt Try.prog 100 [dL ci64 a0, dL ci64 a1] (nI r) := by
 unfold spec_CompareRows at h
 refine st lit100 rfl (rn 1 rfl (ls_seq_k fun K1 hK1 => rn 1 rfl ?_))
 obtain ⟨o1, hl, hr1⟩ := ob_some h
 have kXB1 : (.inl ()) = o1 → Jn K1 [(0, dL ci64 a0), (1, dL ci64 a1)] := by
  intro h σ' hk
  subst h
  replace h := hr1
  try dsimp only at h
  refine hK1 _ (lh hk rfl (ls_seq_k fun K17 hK17 => rn 1 rfl ?_))
  rcases cond_some h with ⟨g18, h⟩ | ⟨g18, h⟩
  ·exact qT rfl g18 (rn 1 rfl (ls_ret ((by cases h; exact ⟨.inl rfl, rfl⟩))))
  ·refine qF rfl g18 (ls_skip (hK17 _ (ls_seq_k fun K19 hK19 => rn 1 rfl ?_)))
   rcases cond_some h with ⟨g20, h⟩ | ⟨g20, h⟩
   ·exact qT rfl g20 (rn 1 rfl (ls_ret ((by cases h; exact ⟨.inl rfl, rfl⟩))))
   ·exact qF rfl g20 (ls_skip (hK19 _ (rn 1 rfl (ls_ret ((by cases h; exact ⟨.inl rfl, rfl⟩))))))
 refine ls_rec (fun (y1 : Int) => [(0, dL ci64 a0), (1, dL ci64 a1), (5, nI y1)]) _ _ _ _ hl (okr rfl) (fun _ => rfl) ?_
 rintro m y1 N h hN
 unfold spec_CompareRows_B1 at h
 refine ls_seq_k fun K2 hK2 => rs (sp 5 rfl (?_))
 rcases cond_some h with ⟨g3, h⟩ | ⟨g3, h⟩
 ·refine qg 10 g3 rfl (sp 5 rfl (evn ?_))
  rcases cond_some h with ⟨g4, h⟩ | ⟨g4, h⟩
  ·refine qT rfl g4 (ls_skip (hK2 _ (ls_seq_k fun K5 hK5 => ls_blk (ls_seq_k fun K6 hK6 => rd (by kernel_rfl) (sd 2 rfl (?_))))))
   obtain ⟨e7, g8, h⟩ := ob_some h
   refine ed rfl (qI rfl zci64 g8 (sd 3 rfl (?_)))
   obtain ⟨e9, g10, h⟩ := ob_some h
   refine ed rfl (qI rfl zci64 g10 (sd 2 rfl (evdn ?_)))
   rcases cond_some h with ⟨g11, h⟩ | ⟨g11, h⟩
   ·exact qT rfl g11 (rn 1 rfl (ls_ret ((by cases h; cases hr1; exact ⟨.inl rfl, rfl⟩))))
   ·refine qF rfl g11 (ls_skip (hK6 _ (rd (by kernel_rfl) (sd 2 rfl (?_)))))
    obtain ⟨e12, g13, h⟩ := ob_some h
    refine ed rfl (qI rfl zci64 g13 (sd 3 rfl (?_)))
    obtain ⟨e14, g15, h⟩ := ob_some h
    refine ed rfl (qI rfl zci64 g15 (sd 2 rfl (evdn (qk [0, 1, 5, 35] rfl ?_))))
    rcases cond_some h with ⟨g16, h⟩ | ⟨g16, h⟩
    ·exact qT rfl g16 (rn 1 rfl (ls_ret ((by cases h; cases hr1; exact ⟨.inl rfl, rfl⟩))))
    ·exact qF rfl g16 (ls_skip (hK5 _ (rg (sp 3 rfl (evn (hN _ _ h (okr rfl)))))))
  ·exact qF rfl g4 (ls_exit (kXB1 (Option.some.inj h) _ (okr rfl)))
 ·exact qg 10 g3 rfl (sp 5 rfl (evn (qF rfl rfl (ls_exit (kXB1 (Option.some.inj h) _ (okr rfl))))))
def spec_AreValidValues_B1 (a0 : List Int) (rec : Int → Option (Sum (Unit) (Bool))) (y1 : Int) : Option (Sum (Unit) (Bool)) := cond (decide (y1 < (List.length a0 : Int))) (obind (geti a0 y1) fun e5 => obind (spec_l1In e5 0 99) fun v7 => cond (!v7) (some (.inr false)) (rec (IntKind.i64.wrap (y1 + 1)))) (some (.inl ()))
def spec_AreValidValues (a0 : List Int) : Option (Bool) := obind (loopF (spec_AreValidValues_B1 a0) fz 0) fun o1 => (match o1 with
  | .inl _ => (some true)
  | .inr r => some r)
theorem spec_AreValidValues_s {a0 : List Int} {r : Bool} (h : spec_AreValidValues a0 = some r) : SoundAt Try.prog 133 [dL ci64 a0] (.bool r) := by
 unfold spec_AreValidValues at h
 refine st lit133 rfl (rn 1 rfl (ls_seq_k fun K1 hK1 => rn 1 rfl ?_))
 obtain ⟨o1, hl, hr1⟩ := ob_some h
 have kXB1 : (.inl ()) = o1 → Jn K1 [] := by
  intro h σ' hk
  subst h
  replace h := hr1
  try dsimp only at h
  exact hK1 _ (lh hk rfl (rn 1 rfl (ls_ret ((by cases h; exact ⟨.inl rfl, rfl⟩)))))
 refine ls_rec (fun (y1 : Int) => [(0, dL ci64 a0), (3, nI y1)]) _ _ _ _ hl (okr rfl) (fun _ => rfl) ?_
 rintro m y1 N h hN
 unfold spec_AreValidValues_B1 at h
 refine ls_seq_k fun K2 hK2 => rn 1 rfl ?_
 rcases cond_some h with ⟨g3, h⟩ | ⟨g3, h⟩
 ·refine qT rfl g3 (ls_skip (hK2 _ (ls_seq_k fun K4 hK4 => ls_blk (rs (sp 2 rfl (?_))))))
  obtain ⟨e5, g6, h⟩ := ob_some h
  refine qI rfl zci64 g6 (sp 1 rfl (?_))
  obtain ⟨v7, g8, h⟩ := ob_some h
  refine qC (qs rfl (qs rfl (qs rfl eran))) (spec_l1In_s g8) (sp 1 rfl (evn ?_))
  rcases cond_some h with ⟨g9, h⟩ | ⟨g9, h⟩
  ·exact qT rfl g9 (rn 1 rfl (ls_ret ((by cases h; cases hr1; exact ⟨.inl rfl, rfl⟩))))
  ·exact qF rfl g9 (ls_skip (hK4 _ (rg (sp 3 rfl (evn (hN _ _ h (okr rfl)))))))
 ·exact qF rfl g3 (ls_exit (kXB1 (Option.some.inj h) _ trivial))
def spec_IsValidRelation_J2 (rec : Int → Option (Sum (Unit) (Bool))) (y1 : Int) (x11 : Bool) : Option (Sum (Unit) (Bool)) := cond x11 (some (.inr false)) (rec (IntKind.i64.wrap (y1 + 1)))
def spec_IsValidRelation_B1 (a0 : Y28) (rec : Int → Option (Sum (Unit) (Bool))) (y1 : Int) : Option (Sum (Unit) (Bool)) := cond (decide (y1 < (List.length a0.2 : Int))) (obind (geti a0.2 y1) fun e13 => cond ((List.length e13 : Int) != a0.1) (spec_IsValidRelation_J2 rec y1 true) (obind (geti a0.2 y1) fun e16 => obind (spec_AreValidValues e16) fun v18 => cond (!v18) (spec_IsValidRelation_J2 rec y1 true) (cond (decide (0 < y1)) (obind (geti a0.2 (IntKind.i64.wrap (y1 - 1))) fun e22 => obind (geti a0.2 y1) fun e24 => obind (spec_CompareRows e22 e24) fun v26 => spec_IsValidRelation_J2 rec y1 (decide (0 ≤ v26))) (spec_IsValidRelation_J2 rec y1 false)))) (some (.inl ()))
def spec_IsValidRelation (a0 : Y28) : Option (Bool) := obind (spec_l1In a0.1 0 5) fun v2 => cond (!v2) (some false) (cond (decide (4000 < (List.length a0.2 : Int))) (some false) (obind (loopF (spec_IsValidRelation_B1 a0) fz 0) fun o1 => (match o1 with
  | .inl _ => (some true)
  | .inr r => some r)))
theorem spec_IsValidRelation_s {a0 : Y28} {r : Bool} (h : spec_IsValidRelation a0 = some r) : SoundAt Try.prog 102 [.agg (c29_dd a0)] (.bool r) := by
 unfold spec_IsValidRelation at h
 refine st lit102 rfl (rn 1 rfl (ls_seq_k fun K1 hK1 => rs (sp 2 rfl (?_))))
 obtain ⟨v2, g3, h⟩ := ob_some h
 refine qC (qs rfl (qs rfl (qs rfl eran))) (spec_l1In_s g3) (sp 2 rfl (?_))
 rcases cond_some h with ⟨g4, h⟩ | ⟨g4, h⟩
 ·exact qg 8 g4 rfl (sp 5 rfl (evn (qT rfl rfl (rn 1 rfl (ls_ret ((by cases h; exact ⟨.inl rfl, rfl⟩)))))))
 ·refine qg 8 g4 rfl (sp 5 rfl (evn ?_))
  rcases cond_some h with ⟨g5, h⟩ | ⟨g5, h⟩
  ·exact qT rfl g5 (rn 1 rfl (ls_ret ((by cases h; exact ⟨.inl rfl, rfl⟩))))
  ·refine qF rfl g5 (ls_skip (hK1 _ (qk [1] rfl (ls_seq_k fun K6 hK6 => rn 1 rfl ?_))))
   obtain ⟨o1, hl, hr1⟩ := ob_some h
   have kXB1 : (.inl ()) = o1 → Jn K6 [] := by
    intro h σ' hk
    subst h
    replace h := hr1
    try dsimp only at h
    exact hK6 _ (lh hk rfl (rn 1 rfl (ls_ret ((by cases h; exact ⟨.inl rfl, rfl⟩)))))
   refine ls_rec (fun (y1 : Int) => [(1, .box [nI a0.1, dL c60_d a0.2]), (3, nI y1)]) _ _ _ _ hl (okr rfl) (fun _ => rfl) ?_
   rintro m y1 N h hN
   unfold spec_IsValidRelation_B1 at h
   refine ls_seq_k fun K7 hK7 => rn 1 rfl ?_
   rcases cond_some h with ⟨g8, h⟩ | ⟨g8, h⟩
   ·refine qT rfl g8 (ls_skip (hK7 _ (ls_seq_k fun K9 hK9 => ls_blk (rdk (by kernel_rfl) fun K10 hK10 => ?_))))
    have kJ2 : ∀ {x11 : Bool}, spec_IsValidRelation_J2 (loopF (spec_IsValidRelation_B1 a0) m) y1 x11 = some o1 → Jn K10 [(1, .box [nI a0.1, dL c60_d a0.2]), (3, nI y1), (57, .bool x11)] := by
     intro x11 h σ' hk
     unfold spec_IsValidRelation_J2 at h
     refine hK10 _ (lh hk rfl ?_)
     rcases cond_some h with ⟨g12, h⟩ | ⟨g12, h⟩
     ·exact qT rfl g12 (rn 1 rfl (ls_ret ((by cases h; cases hr1; exact ⟨.inl rfl, rfl⟩))))
     ·exact qF rfl g12 (ls_skip (hK9 _ (rg (sp 3 rfl (evn (hN _ _ h (okr rfl)))))))
    refine sd 3 rfl (?_)
    obtain ⟨e13, g14, h⟩ := ob_some h
    refine ed rfl (qI rfl zc60_d g14 (sd 6 rfl (?_)))
    rcases cond_some h with ⟨g15, h⟩ | ⟨g15, h⟩
    ·exact qgd 30 g15 rfl (sd 27 rfl (evdn (kJ2 h _ (okr rfl))))
    ·refine qgd 30 g15 rfl (sd 3 rfl (?_))
     obtain ⟨e16, g17, h⟩ := ob_some h
     refine ed rfl (oGR rfl rfl (qI rfl zc60_d g17 (sd 1 rfl (?_))))
     obtain ⟨v18, g19, h⟩ := ob_some h
     refine ed rfl (oGR rfl rfl (qC (qa rfl (erD eci64 _) eran) (spec_AreValidValues_s g19) (sd 3 rfl (?_))))
     rcases cond_some h with ⟨g20, h⟩ | ⟨g20, h⟩
     ·exact qgd 39 g20 rfl (sd 18 rfl (evdn (kJ2 h _ (okr rfl))))
     ·refine qgd 39 g20 rfl (sd 3 rfl (?_))
      rcases cond_some h with ⟨g21, h⟩ | ⟨g21, h⟩
      ·refine qgd 42 g21 rfl (sd 4 rfl (?_))
       obtain ⟨e22, g23, h⟩ := ob_some h
       refine ed rfl (oGR rfl rfl (qI rfl zc60_d g23 (sd 4 rfl (?_))))
       obtain ⟨e24, g25, h⟩ := ob_some h
       refine ed rfl (oGR rfl rfl (qI rfl zc60_d g25 (sd 1 rfl (?_))))
       obtain ⟨v26, g27, h⟩ := ob_some h
       exact ed rfl (oGR rfl rfl (qC (qa rfl (erD eci64 _) (qa rfl (erD eci64 _) eran)) (spec_CompareRows_s g27) (sd 3 rfl (evdn (kJ2 h _ (okr rfl))))))
      ·exact qgd 42 g21 rfl (sd 15 rfl (evdn (kJ2 h _ (okr rfl))))
   ·exact qF rfl g8 (ls_exit (kXB1 (Option.some.inj h) _ trivial))
def spec_l5Sort_J5 (rec : ((List (List Int)) × (List (List Int)) × (List (List Int))) → Option ((List (List Int)))) (y3 : List (List Int)) (x18 : List (List Int)) (x19 : List (List Int)) (x20 : List Int) (x22 : Bool) : Option ((List (List Int))) := cond x22 (chk (List.length y3 + List.length [x20] ≤ lim) (rec (x18, x19, (y3 ++ [x20])))) (rec (x18, x19, y3))
def spec_l5Sort_J4 (rec : ((List (List Int)) × (List (List Int)) × (List (List Int))) → Option ((List (List Int)))) (y3 : List (List Int)) (x18 : List (List Int)) (x19 : List (List Int)) (x20 : List Int) : Option ((List (List Int))) := cond ((List.length y3 : Int) == 0) (spec_l5Sort_J5 rec y3 x18 x19 x20 true) (obind (geti y3 (IntKind.i64.wrap ((List.length y3 : Int) - 1))) fun e26 => obind (spec_CompareRows e26 x20) fun v28 => spec_l5Sort_J5 rec y3 x18 x19 x20 (v28 != 0))
def spec_l5Sort_J3 (rec : ((List (List Int)) × (List (List Int)) × (List (List Int))) → Option ((List (List Int)))) (y1 : List (List Int)) (y2 : List (List Int)) (y3 : List (List Int)) (x16 : Int) : Option ((List (List Int))) := cond (decide (0 < x16)) (obind (geti y2 0) fun e31 => chk ((0 : Int) ≤ 1 ∧ 1 ≤ (List.length y2 : Int) ∧ (List.length y2 : Int) ≤ (List.length y2 : Int)) (spec_l5Sort_J4 rec y3 y1 (subl y2 1 (List.length y2 : Int)) e31)) (obind (geti y1 0) fun e34 => chk ((0 : Int) ≤ 1 ∧ 1 ≤ (List.length y1 : Int) ∧ (List.length y1 : Int) ≤ (List.length y1 : Int)) (spec_l5Sort_J4 rec y3 (subl y1 1 (List.length y1 : Int)) y2 e34))
def spec_l5Sort_J2 (rec : ((List (List Int)) × (List (List Int)) × (List (List Int))) → Option ((List (List Int)))) (y1 : List (List Int)) (y2 : List (List Int)) (y3 : List (List Int)) (x13 : Bool) : Option ((List (List Int))) := cond x13 (cond ((List.length y1 : Int) == 0) (spec_l5Sort_J3 rec y1 y2 y3 1) (cond (decide (0 < (List.length y2 : Int))) (obind (geti y1 0) fun e39 => obind (geti y2 0) fun e41 => obind (spec_CompareRows e39 e41) fun v43 => spec_l5Sort_J3 rec y1 y2 y3 v43) (spec_l5Sort_J3 rec y1 y2 y3 (-1)))) (some y3)
def spec_l5Sort_B1  (rec : ((List (List Int)) × (List (List Int)) × (List (List Int))) → Option ((List (List Int)))) (s : (List (List Int)) × (List (List Int)) × (List (List Int))) : Option ((List (List Int))) := match s with
  | (y1, y2, y3) => cond (decide (0 < (List.length y1 : Int))) (spec_l5Sort_J2 rec y1 y2 y3 true) (spec_l5Sort_J2 rec y1 y2 y3 (decide (0 < (List.length y2 : Int))))
def spec_l5Sort_R (rec : ((List (List Int))) → Option ((List (List Int)))) (a0 : (List (List Int))) : Option ((List (List Int))) := cond (decide ((List.length a0 : Int) < 2)) (some a0) (chk ((0 : Int) ≤ 0 ∧ 0 ≤ IntKind.i64.wrap (Int.tdiv (List.length a0 : Int) 2) ∧ IntKind.i64.wrap (Int.tdiv (List.length a0 : Int) 2) ≤ (List.length a0 : Int)) (obind (rec (subl a0 0 (IntKind.i64.wrap (Int.tdiv (List.length a0 : Int) 2)))) fun v4 => chk ((0 : Int) ≤ IntKind.i64.wrap (Int.tdiv (List.length a0 : Int) 2) ∧ IntKind.i64.wrap (Int.tdiv (List.length a0 : Int) 2) ≤ (List.length a0 : Int) ∧ (List.length a0 : Int) ≤ (List.length a0 : Int)) (obind (rec (subl a0 (IntKind.i64.wrap (Int.tdiv (List.length a0 : Int) 2)) (List.length a0 : Int))) fun v7 => obind (loopF spec_l5Sort_B1 fz (v4, v7, ([] : List (List Int)))) fun z10 => some z10)))
def spec_l5Sort (a0 : List (List Int)) : Option ((List (List Int))) := loopF spec_l5Sort_R fz a0
theorem spec_l5Sort_s {a0 : List (List Int)} {r : (List (List Int))} (h : spec_l5Sort a0 = some r) : SoundAt Try.prog 134 [dL c60_d a0] (dL c60_d r) := by
 suffices key : ∀ mF (a0 : List (List Int)) (r : (List (List Int))), loopF spec_l5Sort_R mF a0 = some r → SoundAt Try.prog 134 [dL c60_d a0] (dL c60_d r) from key fz a0 r h
 intro mF
 induction mF with
 | zero => intro a0 r h; cases h
 | succ mF ih0 =>
  intro a0 r h
  have ih : ∀ {a0 : List (List Int)} {r : (List (List Int))}, loopF spec_l5Sort_R mF a0 = some r → SoundAt Try.prog 134 [dL c60_d a0] (dL c60_d r) := fun h => ih0 _ _ h
  change spec_l5Sort_R (loopF spec_l5Sort_R mF) a0 = some r at h
  unfold spec_l5Sort_R at h
  try dsimp only at h
  refine st lit134 rfl (rn 1 rfl (ls_seq_k fun K1 hK1 => rn 1 rfl ?_))
  rcases cond_some h with ⟨g2, h⟩ | ⟨g2, h⟩
  ·exact qT rfl g2 (rn 1 rfl (ls_ret ((by cases h; exact ⟨.inl rfl, rfl⟩))))
  ·refine qF rfl g2 (ls_skip (hK1 _ (rn 1 rfl (rs (sp 2 rfl (?_))))))
   obtain ⟨g3, h⟩ := chk_some h
   refine qSl rfl zc60_d g3 (?_)
   obtain ⟨v4, g5, h⟩ := ob_some h
   refine qC (qa rfl (erD ec60_d _) eran) (ih g5) (sp 1 rfl (evn (rs (sp 2 rfl (?_)))))
   obtain ⟨g6, h⟩ := chk_some h
   refine qSl rfl zc60_d g6 (?_)
   obtain ⟨v7, g8, h⟩ := ob_some h
   refine qC (qa rfl (erD ec60_d _) eran) (ih g8) (sp 1 rfl (evn (qk [4, 5] rfl (rs (qBs c60_o [] rfl rfl rfl zc60_o (sp 1 rfl (evn (ls_seq_k fun K9 hK9 => ?_))))))))
   obtain ⟨o1, hl, hr1⟩ := ob_some h
   have kXB1 : ∀ {z10 : List (List Int)}, z10 = o1 → Jn K9 [(6, oL 60 c60_d z10)] := by
    intro z10 h σ' hk
    subst h
    replace h := hr1
    try dsimp only at h
    exact hK9 _ (lh hk rfl (rn 1 rfl (ls_keep [(2, dL c60_d z10)] ⟨(ke rfl (erO ec60_d _)), trivial⟩ rfl (ls_ret ((by cases h; exact ⟨.inl rfl, rfl⟩))))))
   refine ls_rec (fun (s : (List (List Int)) × (List (List Int)) × (List (List Int))) => match s with | (y1, y2, y3) => [(4, dL c60_d y1), (5, dL c60_d y2), (6, oL 60 c60_d y3)]) _ _ _ _ hl (okr rfl) (fun _ => rfl) ?_
   rintro m ⟨y1, y2, y3⟩ N h hN
   unfold spec_l5Sort_B1 at h
   dsimp only at h
   refine ls_seq_k fun K11 hK11 => rk fun K12 hK12 => ?_
   have kJ2 : ∀ {x13 : Bool}, spec_l5Sort_J2 (loopF spec_l5Sort_B1 m) y1 y2 y3 x13 = some o1 → Jn K12 [(4, dL c60_d y1), (5, dL c60_d y2), (6, oL 60 c60_d y3), (32, .bool x13)] := by
    intro x13 h σ' hk
    unfold spec_l5Sort_J2 at h
    refine hK12 _ (lh hk rfl ?_)
    rcases cond_some h with ⟨g14, h⟩ | ⟨g14, h⟩
    ·refine qT rfl g14 (ls_skip (hK11 _ (ls_blk (rn 1 rfl (ls_seq_k fun K15 hK15 => ls_blk (rn 1 rfl ?_))))))
     have kJ3 : ∀ {x16 : Int}, spec_l5Sort_J3 (loopF spec_l5Sort_B1 m) y1 y2 y3 x16 = some o1 → Jn K15 [(4, dL c60_d y1), (5, dL c60_d y2), (6, oL 60 c60_d y3), (7, nI x16)] := by
      intro x16 h σ' hk
      unfold spec_l5Sort_J3 at h
      refine hK15 _ (lh hk rfl (rs (qBs ci64 [] rfl rfl rfl zci64 (sp 1 rfl (evn (ls_seq_k fun K17 hK17 => rn 1 rfl ?_))))))
      have kJ4 : ∀ {x18 : List (List Int)} {x19 : List (List Int)} {x20 : List Int}, spec_l5Sort_J4 (loopF spec_l5Sort_B1 m) y3 x18 x19 x20 = some o1 → Jn K17 [(4, dL c60_d x18), (5, dL c60_d x19), (6, oL 60 c60_d y3), (8, dL ci64 x20)] := by
       intro x18 x19 x20 h σ' hk
       unfold spec_l5Sort_J4 at h
       refine hK17 _ (lh hk rfl (rk fun K21 hK21 => ?_))
       have kJ5 : ∀ {x22 : Bool}, spec_l5Sort_J5 (loopF spec_l5Sort_B1 m) y3 x18 x19 x20 x22 = some o1 → Jn K21 [(4, dL c60_d x18), (5, dL c60_d x19), (6, oL 60 c60_d y3), (8, dL ci64 x20), (74, .bool x22)] := by
        intro x22 h σ' hk
        unfold spec_l5Sort_J5 at h
        refine hK21 _ (lh hk rfl ?_)
        rcases cond_some h with ⟨g23, h⟩ | ⟨g23, h⟩
        ·refine qT rfl g23 (rg (sp 2 rfl (qBs c60_d [x20] rfl rfl rfl zc60_d (?_))))
         obtain ⟨g24, h⟩ := chk_some h
         exact qA c60_d y3 [x20] rfl rfl (flat_len zc60_d [x20]) rfl g24 (sp 1 rfl (evn (hN _ _ h (okr rfl))))
        ·exact qF rfl g23 (ls_skip (hN _ _ h (okr rfl)))
       refine sp 4 rfl (?_)
       rcases cond_some h with ⟨g25, h⟩ | ⟨g25, h⟩
       ·exact qg 64 g25 rfl (sp 10 rfl (evn (kJ5 h _ (okr rfl))))
       ·refine qg 64 g25 rfl (sp 4 rfl (?_))
        obtain ⟨e26, g27, h⟩ := ob_some h
        refine oGR rfl rfl (qI rfl zc60_d g27 (sp 2 rfl (?_)))
        obtain ⟨v28, g29, h⟩ := ob_some h
        exact oGR rfl rfl (qC (qa rfl (erD eci64 _) (qa rfl (erD eci64 _) eran)) (spec_CompareRows_s g29) (sp 2 rfl (evn (kJ5 h _ (okr rfl)))))
      rcases cond_some h with ⟨g30, h⟩ | ⟨g30, h⟩
      ·refine qT rfl g30 (rs (sp 1 rfl (?_)))
       obtain ⟨e31, g32, h⟩ := ob_some h
       refine qI rfl zc60_d g32 (sp 2 rfl (evn (qk [4, 5, 6, 8] rfl (rg (sp 1 rfl (?_))))))
       obtain ⟨g33, h⟩ := chk_some h
       exact qSl rfl zc60_d g33 (sp 1 rfl (evn (kJ4 h _ (okr rfl))))
      ·refine qF rfl g30 (rs (sp 1 rfl (?_)))
       obtain ⟨e34, g35, h⟩ := ob_some h
       refine qI rfl zc60_d g35 (sp 2 rfl (evn (rg (sp 1 rfl (?_)))))
       obtain ⟨g36, h⟩ := chk_some h
       exact qSl rfl zc60_d g36 (sp 1 rfl (evn (kJ4 h _ (okr rfl))))
     rcases cond_some h with ⟨g37, h⟩ | ⟨g37, h⟩
     ·exact qT rfl g37 (rg (sp 1 rfl (evn (kJ3 h _ (okr rfl)))))
     ·refine qF rfl g37 (rn 1 rfl ?_)
      rcases cond_some h with ⟨g38, h⟩ | ⟨g38, h⟩
      ·refine qT rfl g38 (rgd (by kernel_rfl) (sd 1 rfl (?_)))
       obtain ⟨e39, g40, h⟩ := ob_some h
       refine ed rfl (qI rfl zc60_d g40 (sd 2 rfl (?_)))
       obtain ⟨e41, g42, h⟩ := ob_some h
       refine ed rfl (qI rfl zc60_d g42 (sd 1 rfl (?_)))
       obtain ⟨v43, g44, h⟩ := ob_some h
       exact ed rfl (qC (qa rfl (erD eci64 _) (qa rfl (erD eci64 _) eran)) (spec_CompareRows_s g44) (sd 1 rfl (evdn (kJ3 h _ (okr rfl)))))
      ·exact qF rfl g38 (rg (sp 1 rfl (evn (kJ3 h _ (okr rfl)))))
    ·exact qF rfl g14 (ls_exit (kXB1 (Option.some.inj h) _ (okr rfl)))
   refine sp 4 rfl (?_)
   rcases cond_some h with ⟨g45, h⟩ | ⟨g45, h⟩
   ·exact qg 28 g45 rfl (sp 4 rfl (evn (kJ2 h _ (okr rfl))))
   ·exact qg 28 g45 rfl (sp 4 rfl (evn (kJ2 h _ (okr rfl))))
def spec_NewRelation_B1 (a0 : Int) (a1 : List (List Int)) (rec : Int → Option (Sum (Unit) (Y28 × Bool))) (y1 : Int) : Option (Sum (Unit) (Y28 × Bool)) := cond (decide (y1 < (List.length a1 : Int))) (obind (geti a1 y1) fun e5 => cond ((List.length e5 : Int) != a0) (some (.inr ((0, []), false))) (obind (geti a1 y1) fun e8 => obind (spec_AreValidValues e8) fun v10 => cond (!v10) (some (.inr ((0, []), false))) (rec (IntKind.i64.wrap (y1 + 1))))) (some (.inl ()))
def spec_NewRelation (a0 : Int) (a1 : List (List Int)) : Option (Y28 × Bool) := obind (loopF (spec_NewRelation_B1 a0 a1) fz 0) fun o1 => (match o1 with
  | .inl _ => (obind (spec_l5Sort a1) fun v13 => obind (spec_l5Copy (a0, v13)) fun v15 => obind (spec_IsValidRelation v15) fun v18 => cond (!v18) (some ((0, []), false)) (some (v15, true)))
  | .inr r => some r)
theorem spec_NewRelation_s {a0 : Int} {a1 : List (List Int)} {r : Y28 × Bool} (h : spec_NewRelation a0 a1 = some r) : SoundAt Try.prog 83 [nI a0, dL c60_d a1] (.tup [.agg (c29_oo r.1), .bool r.2]) := by
 unfold spec_NewRelation at h
 refine st lit83 rfl (rn 1 rfl (ls_seq_k fun K1 hK1 => rn 1 rfl ?_))
 obtain ⟨o1, hl, hr1⟩ := ob_some h
 have kXB1 : (.inl ()) = o1 → Jn K1 [(0, nI a0), (1, dL c60_d a1), (4, .box [nI 0, oL 60 c60_o []])] := by
  intro h σ' hk
  subst h
  replace h := hr1
  try dsimp only at h
  refine hK1 _ (lh hk rfl (rs (sp 2 rfl (?_))))
  obtain ⟨v13, g14, h⟩ := ob_some h
  refine qC (qa rfl (erD ec60_d _) eran) (spec_l5Sort_s g14) (sp 1 rfl (?_))
  obtain ⟨v15, g16, h⟩ := ob_some h
  refine qC (qa rfl (erg (erc rfl (erc (erD ec60_d _) rfl))) eran) (spec_l5Copy_s g16) (sp 2 rfl (evn (ls_seq_k fun K17 hK17 => rs (sp 1 rfl (?_)))))
  obtain ⟨v18, g19, h⟩ := ob_some h
  refine qC (qa rfl (erg (erc rfl (erc (erD ec60_o _) rfl))) eran) (spec_IsValidRelation_s g19) (sp 1 rfl (evn ?_))
  rcases cond_some h with ⟨g20, h⟩ | ⟨g20, h⟩
  ·exact qT rfl g20 (rn 1 rfl (ls_ret ((by cases h; exact ⟨.inl rfl, rfl⟩))))
  ·exact qF rfl g20 (ls_skip (hK17 _ (rn 1 rfl (ls_ret ((by cases h; exact ⟨.inl rfl, rfl⟩))))))
 refine ls_rec (fun (y1 : Int) => [(0, nI a0), (1, dL c60_d a1), (4, .box [nI 0, oL 60 c60_o []]), (6, nI y1)]) _ _ _ _ hl (okr rfl) (fun _ => rfl) ?_
 rintro m y1 N h hN
 unfold spec_NewRelation_B1 at h
 refine ls_seq_k fun K2 hK2 => rn 1 rfl ?_
 rcases cond_some h with ⟨g3, h⟩ | ⟨g3, h⟩
 ·refine qT rfl g3 (ls_skip (hK2 _ (ls_seq_k fun K4 hK4 => ls_blk (rs (sp 2 rfl (?_))))))
  obtain ⟨e5, g6, h⟩ := ob_some h
  refine qI rfl zc60_d g6 (sp 5 rfl (?_))
  rcases cond_some h with ⟨g7, h⟩ | ⟨g7, h⟩
  ·exact qg 21 g7 rfl (sp 7 rfl (evn (qT rfl rfl (rn 1 rfl (ls_ret ((by cases h; cases hr1; exact ⟨.inl rfl, rfl⟩)))))))
  ·refine qg 21 g7 rfl (sp 2 rfl (?_))
   obtain ⟨e8, g9, h⟩ := ob_some h
   refine oGR rfl rfl (qI rfl zc60_d g9 (sp 1 rfl (?_)))
   obtain ⟨v10, g11, h⟩ := ob_some h
   refine oGR rfl rfl (qC (qa rfl (erD eci64 _) eran) (spec_AreValidValues_s g11) (sp 2 rfl (evn (qk [0, 1, 4, 6, 28] rfl ?_))))
   rcases cond_some h with ⟨g12, h⟩ | ⟨g12, h⟩
   ·exact qT rfl g12 (rn 1 rfl (ls_ret ((by cases h; cases hr1; exact ⟨.inl rfl, rfl⟩))))
   ·exact qF rfl g12 (ls_skip (hK4 _ (rg (sp 3 rfl (evn (hN _ _ h (okr rfl)))))))
 ·exact qF rfl g3 (ls_exit (kXB1 (Option.some.inj h) _ (okr rfl)))
def spec_l5Rel_B1 (a1 : Int) (a3 : Int) (rec : ((List Int) × Int × Int × (List (List Int)) × Int) → Option ((List Int) × Int × Int × (List (List Int)))) (s : (List Int) × Int × Int × (List (List Int)) × Int) : Option ((List Int) × Int × Int × (List (List Int))) := match s with
  | (y1, y2, y3, y4, y5) => cond (decide (0 < y5)) (obind (spec_l4Row (y1, y2, y3) a1 a3) fun v11 => chk (List.length y4 + List.length [v11.1] ≤ lim) (rec (v11.2.1, v11.2.2.1, v11.2.2.2, (y4 ++ [v11.1]), (IntKind.i64.wrap (y5 - 1))))) (some (y1, y2, y3, y4))
def spec_l5Rel (a0 : Y130) (a1 : Int) (a2 : Int) (a3 : Int) : Option (Y28 × Y130) := obind (spec_l1Below a0 (IntKind.i64.wrap (a2 + 1))) fun v2 => obind (loopF (spec_l5Rel_B1 a1 a3) fz (v2.2.1, v2.2.2.1, v2.2.2.2, ([] : List (List Int)), v2.1)) fun o1 => (match o1 with
  | (z4, z5, z6, z7) => (obind (spec_NewRelation a1 z7) fun v14 => some (v14.1, (z4, z5, z6))))
theorem spec_l5Rel_s {a0 : Y130} {a1 : Int} {a2 : Int} {a3 : Int} {r : Y28 × Y130} (h : spec_l5Rel a0 a1 a2 a3 = some r) : PtrAt Try.prog 88 [aL cu8 a0.1, nI a0.2.1, nI a0.2.2] [nI a1, nI a2, nI a3] [aL cu8 r.2.1, nI r.2.2.1, nI r.2.2.2] (.agg (c29_oo r.1)) := by
 unfold spec_l5Rel at h
 refine stp lit88 rfl (rn 1 rfl (rs (qBs c60_o [] rfl rfl rfl zc60_o (sp 1 rfl (evn (ls_seq_k fun K1 hK1 => rs (sp 3 rfl (?_))))))))
 obtain ⟨v2, g3, h⟩ := ob_some h
 refine qP rfl rfl rfl rfl (qs rfl eran) (spec_l1Below_s g3) (sp 1 rfl (evn ?_))
 obtain ⟨o1, hl, hr1⟩ := ob_some h
 have kXB1 : ∀ {z4 : List Int} {z5 : Int} {z6 : Int} {z7 : List (List Int)}, (z4, z5, z6, z7) = o1 → Jn K1 [(0, .box [aL cu8 z4, nI z5, nI z6]), (1, nI a1), (8, .box [nI 0, oL 60 c60_o []]), (9, oL 60 c60_o z7)] := by
  intro z4 z5 z6 z7 h σ' hk
  subst h
  replace h := hr1
  try dsimp only at h
  refine hK1 _ (lh hk rfl (rs (sp 2 rfl (?_))))
  obtain ⟨v14, g15, h⟩ := ob_some h
  exact qC (qs rfl (qa rfl (erD ec60_o _) eran)) (spec_NewRelation_s g15) (sp 6 rfl (evn (rn 1 rfl (ls_ret ((by cases h; exact ⟨.inl rfl, rfl, rfl⟩))))))
 refine ls_rec (fun (s : (List Int) × Int × Int × (List (List Int)) × Int) => match s with | (y1, y2, y3, y4, y5) => [(0, .box [aL cu8 y1, nI y2, nI y3]), (1, nI a1), (3, nI a3), (8, .box [nI 0, oL 60 c60_o []]), (9, oL 60 c60_o y4), (10, nI y5)]) _ _ _ _ hl (okr rfl) (fun _ => rfl) ?_
 rintro m ⟨y1, y2, y3, y4, y5⟩ N h hN
 unfold spec_l5Rel_B1 at h
 dsimp only at h
 refine ls_seq_k fun K8 hK8 => rn 1 rfl ?_
 rcases cond_some h with ⟨g9, h⟩ | ⟨g9, h⟩
 ·refine qT rfl g9 (ls_skip (hK8 _ (ls_seq_k fun K10 hK10 => ls_blk (rg (sp 4 rfl (?_))))))
  obtain ⟨v11, g12, h⟩ := ob_some h
  refine qP rfl rfl rfl rfl (qs rfl (qs rfl eran)) (spec_l4Row_s g12) (qBs c60_o [v11.1] rfl rfl rfl zc60_o (?_))
  obtain ⟨g13, h⟩ := chk_some h
  exact qA c60_o y4 [v11.1] rfl rfl (flat_len zc60_o [v11.1]) rfl g13 (sp 1 rfl (evn (hK10 _ (rg (sp 3 rfl (evn (hN _ _ h (okr rfl))))))))
 ·exact qF rfl g9 (ls_exit (kXB1 (Option.some.inj h) _ (okr rfl)))
abbrev Y82 := (List UInt8) × Y28
def c83_dd (x : Y82) : List V := [.str x.1, nI x.2.1, dL c60_d x.2.2]
theorem zc83_dd (x : Y82) : (c83_dd x).length = 3 := rfl
theorem ec83_dd (x : Y82) : erL (c83_dd x) = c83_dd x := (erc rfl (erc rfl (erc (erD ec60_d _) rfl)))
def c83_oo (x : Y82) : List V := [.str x.1, nI x.2.1, oL 60 c60_o x.2.2]
theorem zc83_oo (x : Y82) : (c83_oo x).length = 3 := rfl
theorem ec83_oo (x : Y82) : erL (c83_oo x) = c83_dd x := (erc rfl (erc rfl (erc (erO ec60_o _) rfl)))
theorem dkc60_o (x : List Int) : deepL (c60_o x) = true := (dcc (dco (fun _ => rfl) 3 _) dcn)
theorem dkc83_oo (x : Y82) : deepL (c83_oo x) = true := (dcc rfl (dcc rfl (dcc (dco dkc60_o 60 _) dcn)))
def spec_l6Db_J2 (rec : ((List Int) × Int × Int × (List Y82) × Int) → Option ((List Int) × Int × Int × (List Y82))) (v1 : Int × Y130) (y1 : List Int) (y2 : Int) (y3 : Int) (y4 : List Y82) (y5 : Int) (e11 : List UInt8) (x14 : Int) : Option ((List Int) × Int × Int × (List Y82)) := obind (spec_l1PickInt (y1, y2, y3) [3, 6, 9]) fun v15 => obind (spec_l5Rel v15.2 x14 v15.1 v1.1) fun v17 => chk (List.length y4 + List.length [(e11, v17.1)] ≤ lim) (rec (v17.2.1, v17.2.2.1, v17.2.2.2, (y4 ++ [(e11, v17.1)]), (IntKind.i64.wrap (y5 + 1))))
def spec_l6Db_B1 (v1 : Int × Y130) (rec : ((List Int) × Int × Int × (List Y82) × Int) → Option ((List Int) × Int × Int × (List Y82))) (s : (List Int) × Int × Int × (List Y82) × Int) : Option ((List Int) × Int × Int × (List Y82)) := match s with
  | (y1, y2, y3, y4, y5) => cond (decide (y5 < (List.length ([[114], [115], [116], [117], [118]]) : Int))) (obind (geti ([[114], [115], [116], [117], [118]]) y5) fun e11 => cond (e11 == [118]) (spec_l6Db_J2 rec v1 y1 y2 y3 y4 y5 e11 3) (spec_l6Db_J2 rec v1 y1 y2 y3 y4 y5 e11 2)) (some (y1, y2, y3, y4))
def spec_l6Db_J3 (x24 : List Int) (x25 : Int) (x26 : Int) (x27 : List Y82) : Option ((List Y82) × Y130) := some (x27, (x24, x25, x26))
def spec_l6Db (a0 : Y130) : Option ((List Y82) × Y130) := obind (spec_l1PickInt a0 [2, 3, 4, 6]) fun v1 => obind (loopF (spec_l6Db_B1 v1) fz (v1.2.1, v1.2.2.1, v1.2.2.2, ([] : List Y82), 0)) fun o1 => (match o1 with
  | (z4, z5, z6, z7) => (obind (spec_l1Once (z4, z5, z6) 8) fun v22 => cond v22.1 (chk (0 < List.length z7) (obind (spec_l1Below v22.2 5) fun v31 => obind (geti z7 v31.1) fun e33 => spec_l6Db_J3 v31.2.1 v31.2.2.1 v31.2.2.2 (seti z7 v31.1 (e33.1, (e33.2.1, []))))) (spec_l6Db_J3 v22.2.1 v22.2.2.1 v22.2.2.2 z7)))
theorem spec_l6Db_s {a0 : Y130} {r : (List Y82) × Y130} (h : spec_l6Db a0 = some r) : PtrAt Try.prog 85 [aL cu8 a0.1, nI a0.2.1, nI a0.2.2] [] [aL cu8 r.2.1, nI r.2.2.1, nI r.2.2.2] (.agg [oL 83 c83_oo r.1]) := by
 unfold spec_l6Db at h
 refine stp lit85 rfl (rn 1 rfl (rs (sp 1 rfl (qBk ci64 [2, 3, 4, 6] 3 1 (by kernel_rfl) rfl zci64 (?_)))))
 obtain ⟨v1, g2, h⟩ := ob_some h
 refine qP rfl rfl rfl rfl (qa rfl (erO eci64 _) eran) (spec_l1PickInt_s g2) (sp 1 rfl (evn (rn 1 rfl (ls_seq_k fun K3 hK3 => rs (qBk cst [[114], [115], [116], [117], [118]] 9 1 (by kernel_rfl) rfl zcst (sp 2 rfl (evn ?_)))))))
 obtain ⟨o1, hl, hr1⟩ := ob_some h
 have kXB1 : ∀ {z4 : List Int} {z5 : Int} {z6 : Int} {z7 : List Y82}, (z4, z5, z6, z7) = o1 → Jn K3 [(0, .box [aL cu8 z4, nI z5, nI z6]), (2, .box [oL 83 c83_oo []]), (4, .box [oL 83 c83_oo z7])] := by
  intro z4 z5 z6 z7 h σ' hk
  subst h
  replace h := hr1
  try dsimp only at h
  refine hK3 _ (lh hk rfl (ls_seq_k fun K21 hK21 => rs (sp 1 rfl (?_))))
  obtain ⟨v22, g23, h⟩ := ob_some h
  refine qP rfl rfl rfl rfl (qs rfl eran) (spec_l1Once_s g23) (evn ?_)
  have kJ3 : ∀ {x24 : List Int} {x25 : Int} {x26 : Int} {x27 : List Y82}, spec_l6Db_J3 x24 x25 x26 x27 = some r → Jn K21 [(0, .box [aL cu8 x24, nI x25, nI x26]), (2, .box [oL 83 c83_oo []]), (4, .box [oL 83 c83_oo x27])] := by
   intro x24 x25 x26 x27 h σ' hk
   unfold spec_l6Db_J3 at h
   exact hK21 _ (lh hk rfl (rn 1 rfl (ls_ret ((by cases h; exact ⟨.inl rfl, rfl, rfl⟩)))))
  rcases cond_some h with ⟨g28, h⟩ | ⟨g28, h⟩
  ·refine qT rfl g28 (qk [0, 2, 4] rfl ?_)
   obtain ⟨g29, h⟩ := chk_some h
   refine ls_hg (gLb (q := 900003) (b := 4) [] [] rfl rfl rfl g29 ?_)
   intro gg30 mm30
   refine qk [0, 2, 4, 900003] rfl (ls_gh (rgt 4 (by kernel_rfl) (sd 3 rfl (?_))))
   obtain ⟨v31, g32, h⟩ := ob_some h
   refine ed rfl (qP rfl rfl rfl rfl (qs rfl eran) (spec_l1Below_s g32) (evdn (gh_k ?_)))
   obtain ⟨e33, g34, h⟩ := ob_some h
   refine qIt rfl rfl rfl rfl g34 (sp 2 rfl (?_))
   refine qSt0 (y0 := e33) (i := v31.1) (es := 3) (e2 := 60) 2 (e33.1, (e33.2.1, [])) [0, 2, 4] rfl rfl rfl rfl rfl rfl rfl rfl zc83_oo g34 dkc83_oo (yc (snc (sA (aca (fun _ => rfl) _)) (snc rfl (snc rfl rfl))) (yc (snc rfl rfl) (yc (snc rfl rfl) yn))) (?_)
   exact evn (gDb (q := 900003) (b := 4) [] [] rfl rfl rfl (sl rfl) (kJ3 h _ (okr rfl)))
  ·exact qF rfl g28 (ls_skip (kJ3 h _ (okr rfl)))
 refine ls_rec (fun (s : (List Int) × Int × Int × (List Y82) × Int) => match s with | (y1, y2, y3, y4, y5) => [(0, .box [aL cu8 y1, nI y2, nI y3]), (2, .box [oL 83 c83_oo []]), (3, nI v1.1), (4, .box [oL 83 c83_oo y4]), (13, oL 9 cst ([[114], [115], [116], [117], [118]])), (14, nI (List.length ([[114], [115], [116], [117], [118]]) : Int)), (15, nI y5)]) _ _ _ _ hl (okr rfl) (fun _ => rfl) ?_
 rintro m ⟨y1, y2, y3, y4, y5⟩ N h hN
 unfold spec_l6Db_B1 at h
 dsimp only at h
 refine rn 1 rfl (ls_seq_k fun K8 hK8 => ?_)
 rcases cond_some h with ⟨g9, h⟩ | ⟨g9, h⟩
 ·refine qT rfl g9 (ls_skip (hK8 _ (ls_seq_k fun K10 hK10 => ls_blk (rs ?_))))
  obtain ⟨e11, g12, h⟩ := ob_some h
  refine qI rfl zcst g12 (sp 2 rfl (evn (rn 1 rfl (ls_seq_k fun K13 hK13 => rn 1 rfl ?_))))
  have kJ2 : ∀ {x14 : Int}, spec_l6Db_J2 (loopF (spec_l6Db_B1 v1) m) v1 y1 y2 y3 y4 y5 e11 x14 = some o1 → Jn K13 [(0, .box [aL cu8 y1, nI y2, nI y3]), (2, .box [oL 83 c83_oo []]), (3, nI v1.1), (4, .box [oL 83 c83_oo y4]), (6, .str e11), (7, nI x14), (13, oL 9 cst ([[114], [115], [116], [117], [118]])), (14, nI (List.length ([[114], [115], [116], [117], [118]]) : Int)), (15, nI y5)] := by
   intro x14 h σ' hk
   unfold spec_l6Db_J2 at h
   refine hK13 _ (lh hk rfl (rs (sp 3 rfl (qBs ci64 [3, 6, 9] rfl rfl rfl zci64 (?_)))))
   obtain ⟨v15, g16, h⟩ := ob_some h
   refine qP rfl rfl rfl rfl (qa rfl (erO eci64 _) eran) (spec_l1PickInt_s g16) (sp 1 rfl (?_))
   obtain ⟨v17, g18, h⟩ := ob_some h
   refine qP rfl rfl rfl rfl (qs rfl (qs rfl (qs rfl eran))) (spec_l5Rel_s g18) (sp 2 rfl (evn (rg (sp 5 rfl (qBs c83_oo [(e11, v17.1)] rfl rfl rfl zc83_oo (?_))))))
   obtain ⟨g19, h⟩ := chk_some h
   exact qA c83_oo y4 [(e11, v17.1)] rfl rfl (flat_len zc83_oo [(e11, v17.1)]) rfl g19 (sp 2 rfl (evn (hK10 _ (rg (sp 2 rfl (evn (hN _ _ h (okr rfl))))))))
  rcases cond_some h with ⟨g20, h⟩ | ⟨g20, h⟩
  ·exact qT rfl g20 (rg (sp 1 rfl (evn (kJ2 h _ (okr rfl)))))
  ·exact qF rfl g20 (ls_skip (kJ2 h _ (okr rfl)))
 ·exact qF rfl g9 (ls_exit (kXB1 (Option.some.inj h) _ (okr rfl)))
def spec_l37Db_J2 (rec : ((List Int) × Int × Int × (List Y82) × Int) → Option ((List Int) × Int × Int × (List Y82))) (y9 : Int) (v11 : Bool × Y130) (x13 : List Y82) : Option ((List Int) × Int × Int × (List Y82)) := rec (v11.2.1, v11.2.2.1, v11.2.2.2, x13, (IntKind.i64.wrap (y9 + 1)))
def spec_l37Db_B3 (y8 : List Y82) (y9 : Int) (rec : ((List (List Int)) × Int) → Option ((List (List Int)))) (s : (List (List Int)) × Int) : Option ((List (List Int))) := match s with
  | (y16, y17) => obind (geti y8 y9) fun e18 => cond (decide (y17 < (List.length e18.2.2 : Int))) (obind (geti y8 y9) fun e22 => obind (geti e22.2.2 y17) fun e24 => chk (List.length ([] : List Int) + List.length e24 ≤ lim) (chk (0 < List.length (([] : List Int) ++ e24)) (obind (geti (([] : List Int) ++ e24) 0) fun e29 => obind (geti (([] : List Int) ++ e24) 1) fun e31 => chk (List.length y16 + List.length ([seti (([] : List Int) ++ e24) 1 (Int.tmod (IntKind.i64.wrap ((IntKind.i64.wrap (e29 * 2)) + y9)) 4)]) ≤ lim) (rec ((y16 ++ ([seti (([] : List Int) ++ e24) 1 (Int.tmod (IntKind.i64.wrap ((IntKind.i64.wrap (e29 * 2)) + y9)) 4)])), (IntKind.i64.wrap (y17 + 1))))))) (some y16)
def spec_l37Db_B1  (rec : ((List Int) × Int × Int × (List Y82) × Int) → Option ((List Int) × Int × Int × (List Y82))) (s : (List Int) × Int × Int × (List Y82) × Int) : Option ((List Int) × Int × Int × (List Y82)) := match s with
  | (y5, y6, y7, y8, y9) => cond (decide (y9 < (List.length y8 : Int))) (obind (spec_l1Once (y5, y6, y7) 2) fun v11 => cond v11.1 (obind (loopF (spec_l37Db_B3 y8 y9) fz (([] : List (List Int)), 0)) fun z16 => chk (0 < List.length y8) (obind (geti y8 y9) fun e36 => obind (spec_NewRelation e36.2.1 z16) fun v38 => obind (geti y8 y9) fun e40 => spec_l37Db_J2 rec y9 v11 (seti y8 y9 (e40.1, v38.1)))) (spec_l37Db_J2 rec y9 v11 y8)) (some (y5, y6, y7, y8))
def spec_l37Db (a0 : Y130) : Option ((List Y82) × Y130) := obind (spec_l6Db a0) fun v1 => obind (loopF spec_l37Db_B1 fz (v1.2.1, v1.2.2.1, v1.2.2.2, v1.1, 0)) fun o1 => (match o1 with
  | (z4, z5, z6, z7) => (some (z7, (z4, z5, z6))))
theorem spec_l37Db_s {a0 : Y130} {r : (List Y82) × Y130} (h : spec_l37Db a0 = some r) : PtrAt Try.prog 73 [aL cu8 a0.1, nI a0.2.1, nI a0.2.2] [] [aL cu8 r.2.1, nI r.2.2.1, nI r.2.2.2] (.agg [oL 83 c83_oo r.1]) := by
 unfold spec_l37Db at h
 refine stp lit73 rfl (rn 1 rfl (rs (sp 1 rfl (?_))))
 obtain ⟨v1, g2, h⟩ := ob_some h
 refine qP rfl rfl rfl rfl eran (spec_l6Db_s g2) (sp 2 rfl (evn (ls_seq_k fun K3 hK3 => rn 1 rfl ?_)))
 obtain ⟨o1, hl, hr1⟩ := ob_some h
 have kXB1 : ∀ {z4 : List Int} {z5 : Int} {z6 : Int} {z7 : List Y82}, (z4, z5, z6, z7) = o1 → Jn K3 [(0, .box [aL cu8 z4, nI z5, nI z6]), (2, .box [oL 83 c83_oo []]), (3, .box [oL 83 c83_oo z7])] := by
  intro z4 z5 z6 z7 h σ' hk
  subst h
  replace h := hr1
  try dsimp only at h
  exact hK3 _ (lh hk rfl (rn 1 rfl (ls_ret ((by cases h; exact ⟨.inl rfl, rfl, rfl⟩)))))
 refine ls_rec (fun (s : (List Int) × Int × Int × (List Y82) × Int) => match s with | (y5, y6, y7, y8, y9) => [(0, .box [aL cu8 y5, nI y6, nI y7]), (2, .box [oL 83 c83_oo []]), (3, .box [oL 83 c83_oo y8]), (4, nI y9)]) _ _ _ _ hl (okr rfl) (fun _ => rfl) ?_
 rintro m ⟨y5, y6, y7, y8, y9⟩ N h hN
 unfold spec_l37Db_B1 at h
 dsimp only at h
 refine ls_seq_k fun K8 hK8 => rn 1 rfl ?_
 rcases cond_some h with ⟨g9, h⟩ | ⟨g9, h⟩
 ·refine qT rfl g9 (ls_skip (hK8 _ (ls_seq_k fun K10 hK10 => ls_blk (rs (sp 1 rfl (?_))))))
  obtain ⟨v11, g12, h⟩ := ob_some h
  refine qP rfl rfl rfl rfl (qs rfl eran) (spec_l1Once_s g12) (evn ?_)
  have kJ2 : ∀ {x13 : List Y82}, spec_l37Db_J2 (loopF spec_l37Db_B1 m) y9 v11 x13 = some o1 → Jn K10 [(0, .box (c131_a v11.2)), (2, .box [oL 83 c83_oo []]), (3, .box [oL 83 c83_oo x13]), (4, nI y9)] := by
   intro x13 h σ' hk
   unfold spec_l37Db_J2 at h
   exact hK10 _ (lh hk rfl (rg (sp 3 rfl (evn (hN _ _ h (okr rfl))))))
  rcases cond_some h with ⟨g14, h⟩ | ⟨g14, h⟩
  ·refine qT rfl g14 (rs (qBs c60_o [] rfl rfl rfl zc60_o (sp 1 rfl (evn (ls_seq_k fun K15 hK15 => rn 1 rfl ?_)))))
   obtain ⟨o3, hl, hr3⟩ := ob_some h
   have kXB3 : ∀ {z16 : List (List Int)}, z16 = o3 → Jn K15 [(0, .box (c131_a v11.2)), (2, .box [oL 83 c83_oo []]), (3, .box [oL 83 c83_oo y8]), (4, nI y9), (5, oL 60 c60_o z16)] := by
    intro z16 h σ' hk
    subst h
    replace h := hr3
    try dsimp only at h
    refine hK15 _ (lh hk rfl (qk [0, 2, 3, 4, 5] rfl ?_))
    obtain ⟨g34, h⟩ := chk_some h
    refine ls_hg (gLb (q := 900003) (b := 3) [] [] rfl rfl rfl g34 ?_)
    intro gg35 mm35
    refine qk [0, 2, 3, 4, 5, 900003] rfl (ls_gh (rgt 15 (by kernel_rfl) (sd 6 rfl (?_))))
    obtain ⟨e36, g37, h⟩ := ob_some h
    refine ed rfl (qIt rfl rfl rfl rfl g37 (sd 2 rfl (?_)))
    refine ed rfl (qLe (i := y9) (es := 3) (q := 900003) 1 rfl rfl rfl rfl rfl rfl zc83_oo g37 rfl rfl (?_))
    refine sd 1 rfl (?_)
    obtain ⟨v38, g39, h⟩ := ob_some h
    refine ed rfl (qC (qs rfl (qa rfl (erD ec60_o _) eran)) (spec_NewRelation_s g39) (sd 3 rfl (evdn (gh_k ?_))))
    obtain ⟨e40, g41, h⟩ := ob_some h
    refine qIt rfl rfl rfl rfl g41 (sp 1 rfl (?_))
    refine qSt (y0 := e40) (i := y9) (es := 3) 1 (e40.1, v38.1) [0, 2, 3, 4] rfl rfl rfl rfl rfl rfl rfl rfl rfl rfl zc83_oo g41 dkc83_oo (dcc rfl (dcc (dco dkc60_o 60 _) dcn)) (yc (snc (sA (aca (fun _ => rfl) _)) (snc rfl (snc rfl rfl))) (yc (snc rfl rfl) (yc (snc rfl rfl) (yc rfl yn)))) (?_)
    exact evn (gDb (q := 900003) (b := 3) [] [] rfl rfl rfl (sl rfl) (kJ2 h _ (okr rfl)))
   refine ls_rec (fun (s : (List (List Int)) × Int) => match s with | (y16, y17) => [(0, .box (c131_a v11.2)), (2, .box [oL 83 c83_oo []]), (3, .box [oL 83 c83_oo y8]), (4, nI y9), (5, oL 60 c60_o y16), (6, nI y17)]) _ _ _ _ hl (okr rfl) (fun _ => rfl) ?_
   rintro m ⟨y16, y17⟩ N h hN
   unfold spec_l37Db_B3 at h
   dsimp only at h
   refine ls_seq_k fun K17 hK17 => rs (sp 4 rfl (?_))
   obtain ⟨e18, g19, h⟩ := ob_some h
   refine qI rfl zc83_oo g19 (sp 5 rfl (evn ?_))
   rcases cond_some h with ⟨g20, h⟩ | ⟨g20, h⟩
   ·refine qT rfl g20 (ls_skip (hK17 _ (ls_seq_k fun K21 hK21 => ls_blk (rs (qBs ci64 [] rfl rfl rfl zci64 (sp 3 rfl (?_)))))))
    obtain ⟨e22, g23, h⟩ := ob_some h
    refine qI rfl zc83_oo g23 (sp 4 rfl (?_))
    obtain ⟨e24, g25, h⟩ := ob_some h
    refine qI rfl zc60_o g25 (sp 1 rfl (?_))
    obtain ⟨g26, h⟩ := chk_some h
    refine qA ci64 ([] : List Int) e24 rfl rfl (flat_len zci64 e24) (map_dg (fun _ => rfl) _) g26 (sp 1 rfl (evn (qk [0, 2, 3, 4, 5, 6, 7] rfl ?_)))
    obtain ⟨g27, h⟩ := chk_some h
    refine ls_hg (gLs (q := 900003) (b := 7) rfl rfl rfl g27 ?_)
    intro gg28 mm28
    refine qk [0, 2, 3, 4, 5, 6, 7, 900003] rfl (rs (sp 2 rfl (?_)))
    obtain ⟨e29, g30, h⟩ := ob_some h
    refine qIt rfl rfl rfl rfl g30 (?_)
    refine qLe (i := 0) (es := 1) (q := 900003) 0 rfl rfl rfl rfl rfl rfl zci64 g30 rfl rfl (?_)
    refine sp 4 rfl (?_)
    obtain ⟨e31, g32, h⟩ := ob_some h
    refine qIt rfl rfl rfl rfl g32 (?_)
    refine qSt (y0 := e31) (i := 1) (es := 1) 0 (Int.tmod (IntKind.i64.wrap ((IntKind.i64.wrap (e29 * 2)) + y9)) 4) [0, 2, 3, 4, 5, 6, 7] rfl rfl rfl rfl rfl rfl rfl rfl rfl rfl zci64 g32 (fun _ => rfl) (dcc rfl dcn) (yc (snc (sA (aca (fun _ => rfl) _)) (snc rfl (snc rfl rfl))) (yc (snc rfl rfl) (yc (snc (sO (dco dkc83_oo 83 _)) rfl) (yc rfl (yc (dcf dkc60_o _) (yc rfl (yc rfl yn))))))) (?_)
    refine evn (ls_hg (gDs (q := 900003) (b := 7) rfl rfl rfl (sl rfl) (qk [0, 2, 3, 4, 5, 6, 7] rfl (rg (sp 2 rfl (qBs c60_o [seti (([] : List Int) ++ e24) 1 (Int.tmod (IntKind.i64.wrap ((IntKind.i64.wrap (e29 * 2)) + y9)) 4)] rfl rfl rfl zc60_o (?_)))))))
    obtain ⟨g33, h⟩ := chk_some h
    exact qA c60_o y16 ([seti (([] : List Int) ++ e24) 1 (Int.tmod (IntKind.i64.wrap ((IntKind.i64.wrap (e29 * 2)) + y9)) 4)]) rfl rfl (flat_len zc60_o ([seti (([] : List Int) ++ e24) 1 (Int.tmod (IntKind.i64.wrap ((IntKind.i64.wrap (e29 * 2)) + y9)) 4)])) rfl g33 (sp 1 rfl (evn (hK21 _ (rg (sp 3 rfl (evn (hN _ _ h (okr rfl))))))))
   ·exact qF rfl g20 (ls_exit (kXB3 (Option.some.inj h) _ (okr rfl)))
  ·exact qF rfl g14 (ls_skip (kJ2 h _ (okr rfl)))
 ·exact qF rfl g9 (ls_exit (kXB1 (Option.some.inj h) _ (okr rfl)))
def spec_IsValidDatabase_J2 (rec : Int → Option (Sum (Unit) (Bool))) (y1 : Int) (x8 : Bool) : Option (Sum (Unit) (Bool)) := cond x8 (some (.inr false)) (rec (IntKind.i64.wrap (y1 + 1)))
def spec_IsValidDatabase_B1 (a0 : List Y82) (rec : Int → Option (Sum (Unit) (Bool))) (y1 : Int) : Option (Sum (Unit) (Bool)) := cond (decide (y1 < (List.length a0 : Int))) (obind (geti a0 y1) fun e5 => obind (spec_IsValidName e5.1) fun v10 => cond (!v10) (spec_IsValidDatabase_J2 rec y1 true) (cond (decide (0 < y1)) (obind (geti a0 (IntKind.i64.wrap (y1 - 1))) fun e14 => cond (!Op.bytesLess e14.1 e5.1) (spec_IsValidDatabase_J2 rec y1 true) (obind (spec_IsValidRelation e5.2) fun v17 => cond (!v17) (spec_IsValidDatabase_J2 rec y1 true) (cond (decide (16 < (List.length e5.2.2 : Int))) (spec_IsValidDatabase_J2 rec y1 true) (spec_IsValidDatabase_J2 rec y1 (decide (e5.2.1 < 1)))))) (obind (spec_IsValidRelation e5.2) fun v21 => cond (!v21) (spec_IsValidDatabase_J2 rec y1 true) (cond (decide (16 < (List.length e5.2.2 : Int))) (spec_IsValidDatabase_J2 rec y1 true) (spec_IsValidDatabase_J2 rec y1 (decide (e5.2.1 < 1))))))) (some (.inl ()))
def spec_IsValidDatabase (a0 : List Y82) : Option (Bool) := obind (loopF (spec_IsValidDatabase_B1 a0) fz 0) fun o1 => (match o1 with
  | .inl _ => (some (decide ((List.length a0 : Int) ≤ 6)))
  | .inr r => some r)
theorem spec_IsValidDatabase_s {a0 : List Y82} {r : Bool} (h : spec_IsValidDatabase a0 = some r) : SoundAt Try.prog 54 [.agg [dL c83_dd a0]] (.bool r) := by
 unfold spec_IsValidDatabase at h
 refine st lit54 rfl (rn 1 rfl (ls_seq_k fun K1 hK1 => rn 1 rfl ?_))
 obtain ⟨o1, hl, hr1⟩ := ob_some h
 have kXB1 : (.inl ()) = o1 → Jn K1 [(1, .box [dL c83_dd a0])] := by
  intro h σ' hk
  subst h
  replace h := hr1
  try dsimp only at h
  exact hK1 _ (lh hk rfl (rn 1 rfl (ls_ret ((by cases h; exact ⟨.inl rfl, rfl⟩)))))
 refine ls_rec (fun (y1 : Int) => [(1, .box [dL c83_dd a0]), (3, nI y1)]) _ _ _ _ hl (okr rfl) (fun _ => rfl) ?_
 rintro m y1 N h hN
 unfold spec_IsValidDatabase_B1 at h
 refine ls_seq_k fun K2 hK2 => rn 1 rfl ?_
 rcases cond_some h with ⟨g3, h⟩ | ⟨g3, h⟩
 ·refine qT rfl g3 (ls_skip (hK2 _ (ls_seq_k fun K4 hK4 => ls_blk (rs (sp 3 rfl (?_))))))
  obtain ⟨e5, g6, h⟩ := ob_some h
  refine qI rfl zc83_dd g6 (sp 3 rfl (evn (rdk (by kernel_rfl) fun K7 hK7 => ?_)))
  have kJ2 : ∀ {x8 : Bool}, spec_IsValidDatabase_J2 (loopF (spec_IsValidDatabase_B1 a0) m) y1 x8 = some o1 → Jn K7 [(1, .box [dL c83_dd a0]), (3, nI y1), (55, .bool x8)] := by
   intro x8 h σ' hk
   unfold spec_IsValidDatabase_J2 at h
   refine hK7 _ (lh hk rfl ?_)
   rcases cond_some h with ⟨g9, h⟩ | ⟨g9, h⟩
   ·exact qT rfl g9 (rn 1 rfl (ls_ret ((by cases h; cases hr1; exact ⟨.inl rfl, rfl⟩))))
   ·exact qF rfl g9 (ls_skip (hK4 _ (rg (sp 3 rfl (evn (hN _ _ h (okr rfl)))))))
  refine sd 2 rfl (?_)
  obtain ⟨v10, g11, h⟩ := ob_some h
  refine ed rfl (qC (qs rfl eran) (spec_IsValidName_s g11) (sd 2 rfl (?_)))
  rcases cond_some h with ⟨g12, h⟩ | ⟨g12, h⟩
  ·exact qgd 21 g12 rfl (sd 34 rfl (evdn (kJ2 h _ (okr rfl))))
  ·refine qgd 21 g12 rfl (sd 3 rfl (?_))
   rcases cond_some h with ⟨g13, h⟩ | ⟨g13, h⟩
   ·refine qgd 24 g13 rfl (sd 4 rfl (?_))
    obtain ⟨e14, g15, h⟩ := ob_some h
    refine ed rfl (oGR rfl rfl (qI rfl zc83_dd g15 (sd 8 rfl (?_))))
    rcases cond_some h with ⟨g16, h⟩ | ⟨g16, h⟩
    ·exact qgd 37 g16 rfl (sd 18 rfl (evdn (kJ2 h _ (okr rfl))))
    ·refine qgd 37 g16 rfl (sd 2 rfl (?_))
     obtain ⟨v17, g18, h⟩ := ob_some h
     refine ed rfl (oGR rfl rfl (qC (qa rfl (erg (erc rfl (erc (erD ec60_d _) rfl))) eran) (spec_IsValidRelation_s g18) (sd 3 rfl (?_))))
     rcases cond_some h with ⟨g19, h⟩ | ⟨g19, h⟩
     ·exact qgd 43 g19 rfl (sd 12 rfl (evdn (kJ2 h _ (okr rfl))))
     ·refine qgd 43 g19 rfl (sd 7 rfl (?_))
      rcases cond_some h with ⟨g20, h⟩ | ⟨g20, h⟩
      ·exact qgd 50 g20 rfl (sd 5 rfl (evdn (kJ2 h _ (okr rfl))))
      ·exact qgd 50 g20 rfl (sd 5 rfl (evdn (kJ2 h _ (okr rfl))))
   ·refine qgd 24 g13 rfl (sd 15 rfl (?_))
    obtain ⟨v21, g22, h⟩ := ob_some h
    refine ed rfl (oGR rfl rfl (qC (qa rfl (erg (erc rfl (erc (erD ec60_d _) rfl))) eran) (spec_IsValidRelation_s g22) (sd 3 rfl (?_))))
    rcases cond_some h with ⟨g23, h⟩ | ⟨g23, h⟩
    ·exact qgd 43 g23 rfl (sd 12 rfl (evdn (kJ2 h _ (okr rfl))))
    ·refine qgd 43 g23 rfl (sd 7 rfl (?_))
     rcases cond_some h with ⟨g24, h⟩ | ⟨g24, h⟩
     ·exact qgd 50 g24 rfl (sd 5 rfl (evdn (kJ2 h _ (okr rfl))))
     ·exact qgd 50 g24 rfl (sd 5 rfl (evdn (kJ2 h _ (okr rfl))))
 ·exact qF rfl g3 (ls_exit (kXB1 (Option.some.inj h) _ (okr rfl)))
def spec_LookupRelation_B1 (a0 : List Y82) (a1 : List UInt8) (rec : Int → Option (Sum (Unit) (Y28 × Bool))) (y1 : Int) : Option (Sum (Unit) (Y28 × Bool)) := cond (decide (y1 < (List.length a0 : Int))) (obind (spec_IsValidDatabase a0) fun v4 => cond v4 (obind (geti a0 y1) fun e8 => cond (e8.1 == a1) (obind (geti a0 y1) fun e11 => obind (spec_l5Copy e11.2) fun v13 => some (.inr (v13, true))) (rec (IntKind.i64.wrap (y1 + 1)))) (some (.inl ()))) (some (.inl ()))
def spec_LookupRelation (a0 : List Y82) (a1 : List UInt8) : Option (Y28 × Bool) := obind (loopF (spec_LookupRelation_B1 a0 a1) fz 0) fun o1 => (match o1 with
  | .inl _ => (some ((0, []), false))
  | .inr r => some r)
theorem spec_LookupRelation_s {a0 : List Y82} {a1 : List UInt8} {r : Y28 × Bool} (h : spec_LookupRelation a0 a1 = some r) : SoundAt Try.prog 50 [.agg [dL c83_dd a0], .str a1] (.tup [.agg (c29_oo r.1), .bool r.2]) := by
 unfold spec_LookupRelation at h
 refine st lit50 rfl (rn 1 rfl (ls_seq_k fun K1 hK1 => rn 1 rfl ?_))
 obtain ⟨o1, hl, hr1⟩ := ob_some h
 have kXB1 : (.inl ()) = o1 → Jn K1 [(4, .box [nI 0, oL 60 c60_o []])] := by
  intro h σ' hk
  subst h
  replace h := hr1
  try dsimp only at h
  exact hK1 _ (lh hk rfl (rn 1 rfl (ls_ret ((by cases h; exact ⟨.inl rfl, rfl⟩)))))
 refine ls_rec (fun (y1 : Int) => [(1, .str a1), (2, .box [dL c83_dd a0]), (4, .box [nI 0, oL 60 c60_o []]), (6, nI y1)]) _ _ _ _ hl (okr rfl) (fun _ => rfl) ?_
 rintro m y1 N h hN
 unfold spec_LookupRelation_B1 at h
 refine ls_seq_k fun K2 hK2 => rs (sp 6 rfl (?_))
 rcases cond_some h with ⟨g3, h⟩ | ⟨g3, h⟩
 ·refine qg 12 g3 rfl (sp 1 rfl (?_))
  obtain ⟨v4, g5, h⟩ := ob_some h
  refine oGR rfl rfl (qC (qa rfl (erg (erc (erD ec83_dd _) rfl)) eran) (spec_IsValidDatabase_s g5) (sp 1 rfl (evn ?_)))
  rcases cond_some h with ⟨g6, h⟩ | ⟨g6, h⟩
  ·refine qT rfl g6 (ls_skip (hK2 _ (ls_seq_k fun K7 hK7 => ls_blk (rs (sp 3 rfl (?_))))))
   obtain ⟨e8, g9, h⟩ := ob_some h
   refine qI rfl zc83_dd g9 (sp 4 rfl (evn ?_))
   rcases cond_some h with ⟨g10, h⟩ | ⟨g10, h⟩
   ·refine qT rfl g10 (rs (sp 3 rfl (?_)))
    obtain ⟨e11, g12, h⟩ := ob_some h
    refine qI rfl zc83_dd g12 (sp 2 rfl (?_))
    obtain ⟨v13, g14, h⟩ := ob_some h
    exact qC (qa rfl (erg (erc rfl (erc (erD ec60_d _) rfl))) eran) (spec_l5Copy_s g14) (sp 2 rfl (evn (ls_ret ((by cases h; cases hr1; exact ⟨.inl rfl, rfl⟩)))))
   ·exact qF rfl g10 (ls_skip (hK7 _ (qk [1, 2, 4, 6] rfl (rg (sp 3 rfl (evn (hN _ _ h (okr rfl))))))))
  ·exact qF rfl g6 (ls_exit (kXB1 (Option.some.inj h) _ (okr rfl)))
 ·exact qg 12 g3 rfl (sp 3 rfl (evn (qF rfl rfl (ls_exit (kXB1 (Option.some.inj h) _ (okr rfl))))))
def spec_IsValidFD_J2 (rec : Int → Option (Sum (Unit) (Bool))) (y1 : Int) (x8 : Bool) : Option (Sum (Unit) (Bool)) := cond x8 (some (.inr false)) (rec (IntKind.i64.wrap (y1 + 1)))
def spec_IsValidFD_B1 (a1 : Y114) (v1 : Y28 × Bool) (rec : Int → Option (Sum (Unit) (Bool))) (y1 : Int) : Option (Sum (Unit) (Bool)) := cond (decide (y1 < (List.length a1.2.1 : Int))) (obind (geti a1.2.1 y1) fun e10 => obind (spec_l1In e10 0 (IntKind.i64.wrap (v1.1.1 - 1))) fun v12 => cond (!v12) (spec_IsValidFD_J2 rec y1 true) (cond (decide (0 < y1)) (obind (geti a1.2.1 y1) fun e16 => obind (geti a1.2.1 (IntKind.i64.wrap (y1 - 1))) fun e18 => spec_IsValidFD_J2 rec y1 (decide (e16 ≤ e18))) (spec_IsValidFD_J2 rec y1 false))) (some (.inl ()))
def spec_IsValidFD_J3 (x21 : Bool) : Option (Bool) := some x21
def spec_IsValidFD (a0 : List Y82) (a1 : Y114) : Option (Bool) := obind (spec_LookupRelation a0 a1.1) fun v1 => obind (loopF (spec_IsValidFD_B1 a1 v1) fz 0) fun o1 => (match o1 with
  | .inl _ => (cond v1.2 (obind (spec_l1In a1.2.2 0 (IntKind.i64.wrap (v1.1.1 - 1))) fun v23 => spec_IsValidFD_J3 v23) (spec_IsValidFD_J3 false))
  | .inr r => some r)
theorem spec_IsValidFD_s {a0 : List Y82} {a1 : Y114} {r : Bool} (h : spec_IsValidFD a0 a1 = some r) : SoundAt Try.prog 124 [.agg [dL c83_dd a0], .agg (c115_d a1)] (.bool r) := by
 unfold spec_IsValidFD at h
 refine st lit124 rfl (rn 1 rfl (rs (sp 3 rfl (?_))))
 obtain ⟨v1, g2, h⟩ := ob_some h
 refine qC (qa rfl (erg (erc (erD ec83_dd _) rfl)) (qs rfl eran)) (spec_LookupRelation_s g2) (sp 6 rfl (evn (ls_seq_k fun K3 hK3 => rn 1 rfl ?_)))
 obtain ⟨o1, hl, hr1⟩ := ob_some h
 have kXB1 : (.inl ()) = o1 → Jn K3 [(3, .box [.str a1.1, dL ci64 a1.2.1, nI a1.2.2]), (5, .box [nI v1.1.1, oL 60 c60_o v1.1.2]), (6, .bool v1.2)] := by
  intro h σ' hk
  subst h
  replace h := hr1
  try dsimp only at h
  refine hK3 _ (lh hk rfl (rk fun K20 hK20 => ?_))
  have kJ3 : ∀ {x21 : Bool}, spec_IsValidFD_J3 x21 = some r → Jn K20 [(4, .bool x21)] := by
   intro x21 h σ' hk
   unfold spec_IsValidFD_J3 at h
   exact hK20 _ (lh hk rfl (ls_ret ((by cases h; exact ⟨.inl rfl, rfl⟩))))
  refine sp 2 rfl (?_)
  rcases cond_some h with ⟨g22, h⟩ | ⟨g22, h⟩
  ·refine qg 51 g22 rfl (sp 5 rfl (?_))
   obtain ⟨v23, g24, h⟩ := ob_some h
   exact oGR rfl rfl (qC (qs rfl (qs rfl (qs rfl eran))) (spec_l1In_s g24) (sp 2 rfl (evn (kJ3 h _ (okr rfl)))))
  ·exact qg 51 g22 rfl (sp 8 rfl (evn (kJ3 h _ (okr rfl))))
 refine ls_rec (fun (y1 : Int) => [(3, .box [.str a1.1, dL ci64 a1.2.1, nI a1.2.2]), (5, .box [nI v1.1.1, oL 60 c60_o v1.1.2]), (6, .bool v1.2), (7, nI y1)]) _ _ _ _ hl (okr rfl) (fun _ => rfl) ?_
 rintro m y1 N h hN
 unfold spec_IsValidFD_B1 at h
 refine ls_seq_k fun K4 hK4 => rn 1 rfl ?_
 rcases cond_some h with ⟨g5, h⟩ | ⟨g5, h⟩
 ·refine qT rfl g5 (ls_skip (hK4 _ (ls_seq_k fun K6 hK6 => ls_blk (rdk (by kernel_rfl) fun K7 hK7 => ?_))))
  have kJ2 : ∀ {x8 : Bool}, spec_IsValidFD_J2 (loopF (spec_IsValidFD_B1 a1 v1) m) y1 x8 = some o1 → Jn K7 [(3, .box [.str a1.1, dL ci64 a1.2.1, nI a1.2.2]), (5, .box [nI v1.1.1, oL 60 c60_o v1.1.2]), (6, .bool v1.2), (7, nI y1), (49, .bool x8)] := by
   intro x8 h σ' hk
   unfold spec_IsValidFD_J2 at h
   refine hK7 _ (lh hk rfl ?_)
   rcases cond_some h with ⟨g9, h⟩ | ⟨g9, h⟩
   ·exact qT rfl g9 (rn 1 rfl (ls_ret ((by cases h; cases hr1; exact ⟨.inl rfl, rfl⟩))))
   ·exact qF rfl g9 (ls_skip (hK6 _ (rg (sp 3 rfl (evn (hN _ _ h (okr rfl)))))))
  refine sd 3 rfl (?_)
  obtain ⟨e10, g11, h⟩ := ob_some h
  refine ed rfl (qI rfl zci64 g11 (sd 4 rfl (?_)))
  obtain ⟨v12, g13, h⟩ := ob_some h
  refine ed rfl (qC (qs rfl (qs rfl (qs rfl eran))) (spec_l1In_s g13) (sd 2 rfl (?_)))
  rcases cond_some h with ⟨g14, h⟩ | ⟨g14, h⟩
  ·exact qgd 32 g14 rfl (sd 17 rfl (evdn (kJ2 h _ (okr rfl))))
  ·refine qgd 32 g14 rfl (sd 3 rfl (?_))
   rcases cond_some h with ⟨g15, h⟩ | ⟨g15, h⟩
   ·refine qgd 35 g15 rfl (sd 3 rfl (?_))
    obtain ⟨e16, g17, h⟩ := ob_some h
    refine ed rfl (oGR rfl rfl (qI rfl zci64 g17 (sd 5 rfl (?_))))
    obtain ⟨e18, g19, h⟩ := ob_some h
    exact ed rfl (oGR rfl rfl (qI rfl zci64 g19 (sd 4 rfl (evdn (kJ2 h _ (okr rfl))))))
   ·exact qgd 35 g15 rfl (sd 14 rfl (evdn (kJ2 h _ (okr rfl))))
 ·exact qF rfl g5 (ls_exit (kXB1 (Option.some.inj h) _ (okr rfl)))
def spec_l5Cols_B1 (a0 : List Int) (a1 : List Int) (rec : ((List Int) × Int) → Option ((List Int))) (s : (List Int) × Int) : Option ((List Int)) := match s with
  | (y1, y2) => cond (decide (y2 < (List.length a1 : Int))) (obind (geti a1 y2) fun e6 => obind (geti a0 e6) fun e8 => chk (List.length y1 + List.length [e8] ≤ lim) (rec ((y1 ++ [e8]), (IntKind.i64.wrap (y2 + 1))))) (some y1)
def spec_l5Cols (a0 : List Int) (a1 : List Int) : Option ((List Int)) := obind (loopF (spec_l5Cols_B1 a0 a1) fz (([] : List Int), 0)) fun z2 => some z2
theorem spec_l5Cols_s {a0 : List Int} {a1 : List Int} {r : (List Int)} (h : spec_l5Cols a0 a1 = some r) : SoundAt Try.prog 154 [dL ci64 a0, dL ci64 a1] (oL 3 ci64 r) := by
 unfold spec_l5Cols at h
 refine st lit154 rfl (rn 1 rfl (rs (qBs ci64 [] rfl rfl rfl zci64 (sp 1 rfl (evn (ls_seq_k fun K1 hK1 => rn 1 rfl ?_))))))
 obtain ⟨o1, hl, hr1⟩ := ob_some h
 have kXB1 : ∀ {z2 : List Int}, z2 = o1 → Jn K1 [(5, oL 3 ci64 z2)] := by
  intro z2 h σ' hk
  subst h
  replace h := hr1
  try dsimp only at h
  exact hK1 _ (lh hk rfl (rn 1 rfl (ls_ret ((by cases h; exact ⟨.inl rfl, rfl⟩)))))
 refine ls_rec (fun (s : (List Int) × Int) => match s with | (y1, y2) => [(0, dL ci64 a0), (1, dL ci64 a1), (5, oL 3 ci64 y1), (6, nI y2)]) _ _ _ _ hl (okr rfl) (fun _ => rfl) ?_
 rintro m ⟨y1, y2⟩ N h hN
 unfold spec_l5Cols_B1 at h
 dsimp only at h
 refine ls_seq_k fun K3 hK3 => rn 1 rfl ?_
 rcases cond_some h with ⟨g4, h⟩ | ⟨g4, h⟩
 ·refine qT rfl g4 (ls_skip (hK3 _ (ls_seq_k fun K5 hK5 => ls_blk (rg (sp 4 rfl (?_))))))
  obtain ⟨e6, g7, h⟩ := ob_some h
  refine qI rfl zci64 g7 (sp 1 rfl (?_))
  obtain ⟨e8, g9, h⟩ := ob_some h
  refine qI rfl zci64 g9 (sp 1 rfl (qBs ci64 [e8] rfl rfl rfl zci64 (?_)))
  obtain ⟨g10, h⟩ := chk_some h
  exact qA ci64 y1 [e8] rfl rfl (flat_len zci64 [e8]) rfl g10 (sp 1 rfl (evn (hK5 _ (rg (sp 3 rfl (evn (hN _ _ h (okr rfl))))))))
 ·exact qF rfl g4 (ls_exit (kXB1 (Option.some.inj h) _ (okr rfl)))
def spec_FDViolation_J3 (rec : Int → Option (Sum (Unit) ((List Int)))) (y2 : Int) (y4 : Int) (x14 : Bool) : Option (Sum (Unit) ((List Int))) := cond x14 (some (.inr [y4, y2])) (rec (IntKind.i64.wrap (y4 + 1)))
def spec_FDViolation_B2 (a1 : Y114) (v1 : Y28 × Bool) (y2 : Int) (rec : Int → Option (Sum (Unit) ((List Int)))) (y4 : Int) : Option (Sum (Unit) ((List Int))) := cond (decide (y4 < y2)) (obind (geti v1.1.2 y4) fun e16 => obind (spec_l5Cols e16 a1.2.1) fun v18 => obind (geti v1.1.2 y2) fun e20 => obind (spec_l5Cols e20 a1.2.1) fun v22 => obind (spec_CompareRows v18 v22) fun v24 => cond (v24 == 0) (obind (geti v1.1.2 y4) fun e27 => obind (geti e27 a1.2.2) fun e29 => obind (geti v1.1.2 y2) fun e31 => obind (geti e31 a1.2.2) fun e33 => spec_FDViolation_J3 rec y2 y4 (e29 != e33)) (spec_FDViolation_J3 rec y2 y4 false)) (some (.inl ()))
def spec_FDViolation_B1 (a0 : List Y82) (a1 : Y114) (v1 : Y28 × Bool) (rec : Int → Option (Sum (Unit) ((List Int)))) (y2 : Int) : Option (Sum (Unit) ((List Int))) := cond (decide (y2 < (List.length v1.1.2 : Int))) (obind (spec_IsValidFD a0 a1) fun v6 => cond v6 (obind (loopF (spec_FDViolation_B2 a1 v1 y2) fz 0) fun o2 => (match o2 with
  | .inl _ => (rec (IntKind.i64.wrap (y2 + 1)))
  | .inr r => some (.inr r))) (some (.inl ()))) (some (.inl ()))
def spec_FDViolation (a0 : List Y82) (a1 : Y114) : Option ((List Int)) := obind (spec_LookupRelation a0 a1.1) fun v1 => obind (loopF (spec_FDViolation_B1 a0 a1 v1) fz 0) fun o1 => (match o1 with
  | .inl _ => (some ([] : List Int))
  | .inr r => some r)
theorem spec_FDViolation_s {a0 : List Y82} {a1 : Y114} {r : (List Int)} (h : spec_FDViolation a0 a1 = some r) : SoundAt Try.prog 125 [.agg [dL c83_dd a0], .agg (c115_d a1)] (oL 3 ci64 r) := by
 unfold spec_FDViolation at h
 refine st lit125 rfl (rn 1 rfl (rs (sp 3 rfl (?_))))
 obtain ⟨v1, g2, h⟩ := ob_some h
 refine qC (qa rfl (erg (erc (erD ec83_dd _) rfl)) (qs rfl eran)) (spec_LookupRelation_s g2) (sp 6 rfl (evn (ls_seq_k fun K3 hK3 => rn 1 rfl ?_)))
 obtain ⟨o1, hl, hr1⟩ := ob_some h
 have kXB1 : (.inl ()) = o1 → Jn K3 [] := by
  intro h σ' hk
  subst h
  replace h := hr1
  try dsimp only at h
  exact hK3 _ (lh hk rfl (rs (qBs ci64 [] rfl rfl rfl zci64 (sp 1 rfl (evn (ls_ret ((by cases h; exact ⟨.inl rfl, rfl⟩))))))))
 refine ls_rec (fun (y2 : Int) => [(2, .box [dL c83_dd a0]), (3, .box [.str a1.1, dL ci64 a1.2.1, nI a1.2.2]), (5, .box [nI v1.1.1, oL 60 c60_o v1.1.2]), (7, nI y2)]) _ _ _ _ hl (okr rfl) (fun _ => rfl) ?_
 rintro m y2 N h hN
 unfold spec_FDViolation_B1 at h
 refine ls_seq_k fun K4 hK4 => rs (sp 6 rfl (?_))
 rcases cond_some h with ⟨g5, h⟩ | ⟨g5, h⟩
 ·refine qg 21 g5 rfl (sp 2 rfl (?_))
  obtain ⟨v6, g7, h⟩ := ob_some h
  refine oGR rfl rfl (qC (qa rfl (erg (erc (erD ec83_dd _) rfl)) (qa rfl (erg (erc rfl (erc (erD eci64 _) (erc rfl rfl)))) eran)) (spec_IsValidFD_s g7) (sp 1 rfl (evn ?_)))
  rcases cond_some h with ⟨g8, h⟩ | ⟨g8, h⟩
  ·refine qT rfl g8 (ls_skip (hK4 _ (ls_seq_k fun K9 hK9 => ls_blk (rn 1 rfl ?_))))
   obtain ⟨o2, hl, hr2⟩ := ob_some h
   have kXB2 : (.inl ()) = o2 → Jn K9 [(2, .box [dL c83_dd a0]), (3, .box [.str a1.1, dL ci64 a1.2.1, nI a1.2.2]), (5, .box [nI v1.1.1, oL 60 c60_o v1.1.2]), (7, nI y2)] := by
    intro h σ' hk
    subst h
    replace h := hr2
    try dsimp only at h
    exact hK9 _ (lh hk rfl (rg (sp 3 rfl (evn (hN _ _ h (okr rfl))))))
   refine ls_rec (fun (y4 : Int) => [(2, .box [dL c83_dd a0]), (3, .box [.str a1.1, dL ci64 a1.2.1, nI a1.2.2]), (5, .box [nI v1.1.1, oL 60 c60_o v1.1.2]), (7, nI y2), (8, nI y4)]) _ _ _ _ hl (okr rfl) (fun _ => rfl) ?_
   rintro m y4 N h hN
   unfold spec_FDViolation_B2 at h
   refine ls_seq_k fun K10 hK10 => rn 1 rfl ?_
   rcases cond_some h with ⟨g11, h⟩ | ⟨g11, h⟩
   ·refine qT rfl g11 (ls_skip (hK10 _ (ls_seq_k fun K12 hK12 => ls_blk (rdk (by kernel_rfl) fun K13 hK13 => ?_))))
    have kJ3 : ∀ {x14 : Bool}, spec_FDViolation_J3 (loopF (spec_FDViolation_B2 a1 v1 y2) m) y2 y4 x14 = some o2 → Jn K13 [(2, .box [dL c83_dd a0]), (3, .box [.str a1.1, dL ci64 a1.2.1, nI a1.2.2]), (5, .box [nI v1.1.1, oL 60 c60_o v1.1.2]), (7, nI y2), (8, nI y4), (71, .bool x14)] := by
     intro x14 h σ' hk
     unfold spec_FDViolation_J3 at h
     refine hK13 _ (lh hk rfl ?_)
     rcases cond_some h with ⟨g15, h⟩ | ⟨g15, h⟩
     ·exact qT rfl g15 (rs (sp 2 rfl (qBs ci64 [y4, y2] rfl rfl rfl zci64 (sp 1 rfl (evn (ls_ret ((by cases h; cases hr2; cases hr1; exact ⟨.inl rfl, rfl⟩))))))))
     ·exact qF rfl g15 (ls_skip (hK12 _ (rg (sp 3 rfl (evn (hN _ _ h (okr rfl)))))))
    refine sd 3 rfl (?_)
    obtain ⟨e16, g17, h⟩ := ob_some h
    refine ed rfl (qI rfl zc60_o g17 (sd 3 rfl (?_)))
    obtain ⟨v18, g19, h⟩ := ob_some h
    refine ed rfl (qC (qa rfl (erD eci64 _) (qa rfl (erD eci64 _) eran)) (spec_l5Cols_s g19) (sd 3 rfl (?_)))
    obtain ⟨e20, g21, h⟩ := ob_some h
    refine ed rfl (qI rfl zc60_o g21 (sd 3 rfl (?_)))
    obtain ⟨v22, g23, h⟩ := ob_some h
    refine ed rfl (qC (qa rfl (erD eci64 _) (qa rfl (erD eci64 _) eran)) (spec_l5Cols_s g23) (?_))
    obtain ⟨v24, g25, h⟩ := ob_some h
    refine ed rfl (qC (qa rfl (erO eci64 _) (qa rfl (erO eci64 _) eran)) (spec_CompareRows_s g25) (sd 2 rfl (?_)))
    rcases cond_some h with ⟨g26, h⟩ | ⟨g26, h⟩
    ·refine qgd 51 g26 rfl (sd 3 rfl (?_))
     obtain ⟨e27, g28, h⟩ := ob_some h
     refine ed rfl (oGR rfl rfl (qI rfl zc60_o g28 (sd 3 rfl (?_))))
     obtain ⟨e29, g30, h⟩ := ob_some h
     refine ed rfl (oGR rfl rfl (qI rfl zci64 g30 (sd 4 rfl (?_))))
     obtain ⟨e31, g32, h⟩ := ob_some h
     refine ed rfl (oGR rfl rfl (qI rfl zc60_o g32 (sd 3 rfl (?_))))
     obtain ⟨e33, g34, h⟩ := ob_some h
     exact ed rfl (oGR rfl rfl (qI rfl zci64 g34 (sd 3 rfl (evdn (kJ3 h _ (okr rfl))))))
    ·exact qgd 51 g26 rfl (sd 20 rfl (evdn (kJ3 h _ (okr rfl))))
   ·exact qF rfl g11 (ls_exit (kXB2 (Option.some.inj h) _ (okr rfl)))
  ·exact qF rfl g8 (ls_exit (kXB1 (Option.some.inj h) _ trivial))
 ·exact qg 21 g5 rfl (sp 4 rfl (evn (qk [2, 3, 5, 7, 25] rfl (qF rfl rfl (ls_exit (kXB1 (Option.some.inj h) _ trivial))))))
def spec_FDHolds_J1 (x2 : Bool) : Option (Bool) := some x2
def spec_FDHolds (a0 : List Y82) (a1 : Y114) : Option (Bool) := obind (spec_IsValidFD a0 a1) fun v3 => cond v3 (obind (spec_FDViolation a0 a1) fun v6 => spec_FDHolds_J1 ((List.length v6 : Int) == 0)) (spec_FDHolds_J1 false)
theorem spec_FDHolds_s {a0 : List Y82} {a1 : Y114} {r : Bool} (h : spec_FDHolds a0 a1 = some r) : SoundAt Try.prog 75 [.agg [dL c83_dd a0], .agg (c115_d a1)] (.bool r) := by
 unfold spec_FDHolds at h
 refine st lit75 rfl (rn 1 rfl (rk fun K1 hK1 => ?_))
 have kJ1 : ∀ {x2 : Bool}, spec_FDHolds_J1 x2 = some r → Jn K1 [(4, .bool x2)] := by
  intro x2 h σ' hk
  unfold spec_FDHolds_J1 at h
  exact hK1 _ (lh hk rfl (ls_ret ((by cases h; exact ⟨.inl rfl, rfl⟩))))
 refine sp 2 rfl (?_)
 obtain ⟨v3, g4, h⟩ := ob_some h
 refine qC (qa rfl (erg (erc (erD ec83_dd _) rfl)) (qa rfl (erg (erc rfl (erc (erD eci64 _) (erc rfl rfl)))) eran)) (spec_IsValidFD_s g4) (sp 1 rfl (?_))
 rcases cond_some h with ⟨g5, h⟩ | ⟨g5, h⟩
 ·refine qg 8 g5 rfl (sp 2 rfl (?_))
  obtain ⟨v6, g7, h⟩ := ob_some h
  exact oGR rfl rfl (qC (qa rfl (erg (erc (erD ec83_dd _) rfl)) (qa rfl (erg (erc rfl (erc (erD eci64 _) (erc rfl rfl)))) eran)) (spec_FDViolation_s g7) (sp 4 rfl (evn (kJ1 h _ (okr rfl)))))
 ·exact qg 8 g5 rfl (sp 7 rfl (evn (kJ1 h _ (okr rfl))))
def spec_DrawFDBound_J3 (rec : ((List Y114) × Int × (List Int) × Int × Int) → Option ((List Y114))) (y2 : Int) (x15 : List Int) (x16 : Int) (x17 : Int) (x19 : List Y114) : Option ((List Y114)) := rec (x19, (IntKind.i64.wrap (y2 + 1)), x15, x16, x17)
def spec_DrawFDBound_J2 (rec : ((List Y114) × Int × (List Int) × Int × Int) → Option ((List Y114))) (v7 : (List Y114) × Y130) (y1 : List Y114) (y2 : Int) (x15 : List Int) (x16 : Int) (x17 : Int) (x18 : Bool) : Option ((List Y114)) := cond x18 (obind (geti v7.1 y2) fun e21 => chk (List.length y1 + List.length [e21] ≤ lim) (spec_DrawFDBound_J3 rec y2 x15 x16 x17 (y1 ++ [e21]))) (spec_DrawFDBound_J3 rec y2 x15 x16 x17 y1)
def spec_DrawFDBound_B1 (v3 : (List Y82) × Y130) (v7 : (List Y114) × Y130) (rec : ((List Y114) × Int × (List Int) × Int × Int) → Option ((List Y114))) (s : (List Y114) × Int × (List Int) × Int × Int) : Option ((List Y114)) := match s with
  | (y1, y2, y3, y4, y5) => cond (decide (y2 < (List.length v7.1 : Int))) (obind (geti v7.1 y2) fun e24 => obind (spec_FDHolds v3.1 e24) fun v26 => cond v26 (spec_DrawFDBound_J2 rec v7 y1 y2 y3 y4 y5 true) (obind (spec_l1Once (y3, y4, y5) 8) fun v29 => spec_DrawFDBound_J2 rec v7 y1 y2 v29.2.1 v29.2.2.1 v29.2.2.2 v29.1)) (some y1)
def spec_DrawFDBound (a0 : List Int) : Option ((List Y82) × Y61 × (List Y114)) := obind (spec_l1New a0) fun v1 => obind (spec_l37Db v1) fun v3 => obind (spec_l7Query v3.2) fun v5 => obind (spec_l37Fds v5.2) fun v7 => obind (loopF (spec_DrawFDBound_B1 v3 v7) fz (([] : List Y114), 0, v7.2.1, v7.2.2.1, v7.2.2.2)) fun z10 => some (v3.1, v5.1, z10)
theorem spec_DrawFDBound_s {a0 : List Int} {r : (List Y82) × Y61 × (List Y114)} (h : spec_DrawFDBound a0 = some r) : SoundAt Try.prog 33 [aL cu8 a0] (.tup [.agg [oL 83 c83_oo r.1], .agg (c62_ooo r.2.1), oL 115 c115_d r.2.2]) := by
 unfold spec_DrawFDBound at h
 refine st lit33 rfl (rn 1 rfl (rs (sp 1 rfl (?_))))
 obtain ⟨v1, g2, h⟩ := ob_some h
 refine qN rfl rfl rfl rfl (spec_l1New_s g2) (sp 1 rfl (evn (rs (sp 1 rfl (?_)))))
 obtain ⟨v3, g4, h⟩ := ob_some h
 refine qP rfl rfl rfl rfl eran (spec_l37Db_s g4) (sp 2 rfl (evn (rs (sp 1 rfl (?_)))))
 obtain ⟨v5, g6, h⟩ := ob_some h
 refine qP rfl rfl rfl rfl eran (spec_l7Query_s g6) (sp 2 rfl (evn (rs (sp 1 rfl (?_)))))
 obtain ⟨v7, g8, h⟩ := ob_some h
 refine qP rfl rfl rfl rfl eran (spec_l37Fds_s g8) (sp 1 rfl (evn (rs (qBs c115_o [] rfl rfl rfl zc115_o (sp 1 rfl (evn (ls_seq_k fun K9 hK9 => rn 1 rfl ?_)))))))
 obtain ⟨o1, hl, hr1⟩ := ob_some h
 have kXB1 : ∀ {z10 : List Y114}, z10 = o1 → Jn K9 [(2, .box [oL 83 c83_oo []]), (3, .box [nI 0, oL 124 c124_o [], oL 3 ci64 []]), (6, .box [oL 83 c83_oo v3.1]), (7, .box [nI v5.1.1, oL 124 c124_o v5.1.2.1, oL 3 ci64 v5.1.2.2]), (9, oL 115 c115_d z10)] := by
  intro z10 h σ' hk
  subst h
  replace h := hr1
  try dsimp only at h
  exact hK9 _ (lh hk rfl (rd (by kernel_rfl) (sd 6 rfl (evdn (ls_ret ((by cases h; exact ⟨.inl rfl, rfl⟩)))))))
 refine ls_rec (fun (s : (List Y114) × Int × (List Int) × Int × Int) => match s with | (y1, y2, y3, y4, y5) => [(2, .box [oL 83 c83_oo []]), (3, .box [nI 0, oL 124 c124_o [], oL 3 ci64 []]), (5, .cref 12 0), (6, .box [oL 83 c83_oo v3.1]), (7, .box [nI v5.1.1, oL 124 c124_o v5.1.2.1, oL 3 ci64 v5.1.2.2]), (8, oL 115 c115_o v7.1), (9, oL 115 c115_d y1), (10, nI y2), (12, .box [aL cu8 y3, nI y4, nI y5])]) _ _ _ _ hl (okr rfl) (fun _ => rfl) ?_
 rintro m ⟨y1, y2, y3, y4, y5⟩ N h hN
 unfold spec_DrawFDBound_B1 at h
 dsimp only at h
 refine ls_seq_k fun K11 hK11 => rn 1 rfl ?_
 rcases cond_some h with ⟨g12, h⟩ | ⟨g12, h⟩
 ·refine qT rfl g12 (ls_skip (hK11 _ (ls_seq_k fun K13 hK13 => ls_blk (rdk (by kernel_rfl) fun K14 hK14 => ?_))))
  have kJ2 : ∀ {x15 : List Int} {x16 : Int} {x17 : Int} {x18 : Bool}, spec_DrawFDBound_J2 (loopF (spec_DrawFDBound_B1 v3 v7) m) v7 y1 y2 x15 x16 x17 x18 = some o1 → Jn K14 [(2, .box [oL 83 c83_oo []]), (3, .box [nI 0, oL 124 c124_o [], oL 3 ci64 []]), (5, .cref 12 0), (6, .box [oL 83 c83_oo v3.1]), (7, .box [nI v5.1.1, oL 124 c124_o v5.1.2.1, oL 3 ci64 v5.1.2.2]), (8, oL 115 c115_o v7.1), (9, oL 115 c115_d y1), (10, nI y2), (12, .box [aL cu8 x15, nI x16, nI x17]), (35, .bool x18)] := by
   intro x15 x16 x17 x18 h σ' hk
   unfold spec_DrawFDBound_J2 at h
   refine hK14 _ (lh hk rfl ?_)
   have kJ3 : ∀ {x19 : List Y114}, spec_DrawFDBound_J3 (loopF (spec_DrawFDBound_B1 v3 v7) m) y2 x15 x16 x17 x19 = some o1 → Jn K13 [(2, .box [oL 83 c83_oo []]), (3, .box [nI 0, oL 124 c124_o [], oL 3 ci64 []]), (5, .cref 12 0), (6, .box [oL 83 c83_oo v3.1]), (7, .box [nI v5.1.1, oL 124 c124_o v5.1.2.1, oL 3 ci64 v5.1.2.2]), (8, oL 115 c115_o v7.1), (9, oL 115 c115_d x19), (10, nI y2), (12, .box [aL cu8 x15, nI x16, nI x17])] := by
    intro x19 h σ' hk
    unfold spec_DrawFDBound_J3 at h
    exact hK13 _ (lh hk rfl (rg (sp 3 rfl (evn (hN _ _ h (okr rfl))))))
   rcases cond_some h with ⟨g20, h⟩ | ⟨g20, h⟩
   ·refine qT rfl g20 (rg (sp 3 rfl (?_)))
    obtain ⟨e21, g22, h⟩ := ob_some h
    refine qI rfl zc115_o g22 (sp 1 rfl (qBs c115_d [e21] rfl rfl rfl zc115_d (?_)))
    obtain ⟨g23, h⟩ := chk_some h
    exact qA c115_d y1 [e21] rfl rfl (flat_len zc115_d [e21]) rfl g23 (sp 1 rfl (evn (kJ3 h _ (okr rfl))))
   ·exact qF rfl g20 (ls_skip (kJ3 h _ (okr rfl)))
  refine sd 3 rfl (?_)
  obtain ⟨e24, g25, h⟩ := ob_some h
  refine ed rfl (qI rfl zc115_o g25 (sd 1 rfl (?_)))
  obtain ⟨v26, g27, h⟩ := ob_some h
  refine ed rfl (qC (qa rfl (erg (erc (erD ec83_oo _) rfl)) (qa rfl (erg (erc rfl (erc (erD eci64 _) (erc rfl rfl)))) eran)) (spec_FDHolds_s g27) (sd 1 rfl (?_)))
  rcases cond_some h with ⟨g28, h⟩ | ⟨g28, h⟩
  ·exact qgd 32 g28 rfl (sd 3 rfl (evdn (kJ2 h _ (okr rfl))))
  ·refine qgd 32 g28 rfl (sd 1 rfl (?_))
   obtain ⟨v29, g30, h⟩ := ob_some h
   exact ed rfl (oGR rfl rfl (qP rfl rfl rfl rfl (qs rfl eran) (spec_l1Once_s g30) (sd 1 rfl (evdn (kJ2 h _ (okr rfl))))))
 ·exact qF rfl g12 (ls_exit (kXB1 (Option.some.inj h) _ (okr rfl)))
def impl_AreValidValues_B1 (a0 : List Int) (rec : Int → Option (Sum (Unit) (Bool))) (y1 : Int) : Option (Sum (Unit) (Bool)) := cond (decide (y1 < (List.length a0 : Int))) (obind (geti a0 y1) fun e5 => obind (impl_within e5 0 99) fun v7 => cond (!v7) (some (.inr false)) (rec (IntKind.i64.wrap (y1 + 1)))) (some (.inl ()))
def impl_AreValidValues (a0 : List Int) : Option (Bool) := obind (loopF (impl_AreValidValues_B1 a0) fz 0) fun o1 => (match o1 with
  | .inl _ => (some true)
  | .inr r => some r)
theorem impl_AreValidValues_s {a0 : List Int} {r : Bool} (h : impl_AreValidValues a0 = some r) : SoundAt Try.prog 164 [dL ci64 a0] (.bool r) := by
 unfold impl_AreValidValues at h
 refine st lit164 rfl (rn 1 rfl (ls_seq_k fun K1 hK1 => rn 1 rfl ?_))
 obtain ⟨o1, hl, hr1⟩ := ob_some h
 have kXB1 : (.inl ()) = o1 → Jn K1 [] := by
  intro h σ' hk
  subst h
  replace h := hr1
  try dsimp only at h
  exact hK1 _ (lh hk rfl (rn 1 rfl (ls_ret ((by cases h; exact ⟨.inl rfl, rfl⟩)))))
 refine ls_rec (fun (y1 : Int) => [(5, dL ci64 a0), (6, nI (List.length a0 : Int)), (7, nI y1)]) _ _ _ _ hl (okr rfl) (fun _ => rfl) ?_
 rintro m y1 N h hN
 unfold impl_AreValidValues_B1 at h
 refine rn 1 rfl (ls_seq_k fun K2 hK2 => ?_)
 rcases cond_some h with ⟨g3, h⟩ | ⟨g3, h⟩
 ·refine qT rfl g3 (ls_skip (hK2 _ (ls_seq_k fun K4 hK4 => ls_blk (rs ?_))))
  obtain ⟨e5, g6, h⟩ := ob_some h
  refine qI rfl zci64 g6 (sp 2 rfl (evn (rs (sp 1 rfl (?_)))))
  obtain ⟨v7, g8, h⟩ := ob_some h
  refine qC (qs rfl (qs rfl (qs rfl eran))) (impl_within_s g8) (sp 1 rfl (evn ?_))
  rcases cond_some h with ⟨g9, h⟩ | ⟨g9, h⟩
  ·exact qT rfl g9 (rn 1 rfl (ls_ret ((by cases h; cases hr1; exact ⟨.inl rfl, rfl⟩))))
  ·exact qF rfl g9 (ls_skip (hK4 _ (rg (sp 2 rfl (evn (hN _ _ h (okr rfl)))))))
 ·exact qF rfl g3 (ls_exit (kXB1 (Option.some.inj h) _ trivial))
def impl_compareInts (a0 : Int) (a1 : Int) : Option (Int) := cond (decide (a0 < a1)) (some (-1)) (cond (decide (a1 < a0)) (some 1) (some 0))
theorem impl_compareInts_s {a0 : Int} {a1 : Int} {r : Int} (h : impl_compareInts a0 a1 = some r) : SoundAt Try.prog 177 [nI a0, nI a1] (nI r) := by
 unfold impl_compareInts at h
 refine st lit177 rfl (rn 1 rfl (ls_seq_k fun K1 hK1 => ls_blk (rn 1 rfl ?_)))
 rcases cond_some h with ⟨g2, h⟩ | ⟨g2, h⟩
 ·exact qT rfl g2 (rn 1 rfl (ls_ret ((by cases h; exact ⟨.inl rfl, rfl⟩))))
 ·refine qF rfl g2 (rn 1 rfl ?_)
  rcases cond_some h with ⟨g3, h⟩ | ⟨g3, h⟩
  ·exact qT rfl g3 (rn 1 rfl (ls_ret ((by cases h; exact ⟨.inl rfl, rfl⟩))))
  ·exact qF rfl g3 (ls_skip (hK1 _ (rn 1 rfl (qk [4] rfl (ls_ret ((by cases h; exact ⟨.inl rfl, rfl⟩)))))))
def impl_CompareRows_B1 (a0 : List Int) (a1 : List Int) (rec : Int → Option (Sum (Unit) (Int))) (y1 : Int) : Option (Sum (Unit) (Int)) := cond (decide (y1 < (List.length a0 : Int))) (cond (decide (y1 < (List.length a1 : Int))) (obind (geti a0 y1) fun e6 => obind (geti a1 y1) fun e8 => cond (e6 != e8) (obind (geti a0 y1) fun e11 => obind (geti a1 y1) fun e13 => obind (impl_compareInts e11 e13) fun v15 => some (.inr v15)) (rec (IntKind.i64.wrap (y1 + 1)))) (some (.inl ()))) (some (.inl ()))
def impl_CompareRows (a0 : List Int) (a1 : List Int) : Option (Int) := obind (loopF (impl_CompareRows_B1 a0 a1) fz 0) fun o1 => (match o1 with
  | .inl _ => (obind (impl_compareInts (List.length a0 : Int) (List.length a1 : Int)) fun v17 => some v17)
  | .inr r => some r)
theorem impl_CompareRows_s {a0 : List Int} {a1 : List Int} {r : Int} (h : impl_CompareRows a0 a1 = some r) : SoundAt Try.prog 173 [dL ci64 a0, dL ci64 a1] (nI r) := by
 unfold impl_CompareRows at h
 refine st lit173 rfl (rn 1 rfl (ls_seq_k fun K1 hK1 => rn 1 rfl ?_))
 obtain ⟨o1, hl, hr1⟩ := ob_some h
 have kXB1 : (.inl ()) = o1 → Jn K1 [(0, dL ci64 a0), (1, dL ci64 a1)] := by
  intro h σ' hk
  subst h
  replace h := hr1
  try dsimp only at h
  refine hK1 _ (lh hk rfl (rs (sp 4 rfl (?_))))
  obtain ⟨v17, g18, h⟩ := ob_some h
  exact qC (qs rfl (qs rfl eran)) (impl_compareInts_s g18) (sp 1 rfl (evn (ls_ret ((by cases h; exact ⟨.inl rfl, rfl⟩)))))
 refine ls_rec (fun (y1 : Int) => [(0, dL ci64 a0), (1, dL ci64 a1), (5, nI y1)]) _ _ _ _ hl (okr rfl) (fun _ => rfl) ?_
 rintro m y1 N h hN
 unfold impl_CompareRows_B1 at h
 refine ls_seq_k fun K2 hK2 => rs (sp 5 rfl (?_))
 rcases cond_some h with ⟨g3, h⟩ | ⟨g3, h⟩
 ·refine qg 10 g3 rfl (sp 5 rfl (evn ?_))
  rcases cond_some h with ⟨g4, h⟩ | ⟨g4, h⟩
  ·refine qT rfl g4 (ls_skip (hK2 _ (ls_seq_k fun K5 hK5 => ls_blk (rd (by kernel_rfl) (sd 2 rfl (?_))))))
   obtain ⟨e6, g7, h⟩ := ob_some h
   refine ed rfl (qI rfl zci64 g7 (sd 3 rfl (?_)))
   obtain ⟨e8, g9, h⟩ := ob_some h
   refine ed rfl (qI rfl zci64 g9 (sd 2 rfl (evdn ?_)))
   rcases cond_some h with ⟨g10, h⟩ | ⟨g10, h⟩
   ·refine qT rfl g10 (rd (by kernel_rfl) (sd 2 rfl (?_)))
    obtain ⟨e11, g12, h⟩ := ob_some h
    refine ed rfl (qI rfl zci64 g12 (sd 3 rfl (?_)))
    obtain ⟨e13, g14, h⟩ := ob_some h
    refine ed rfl (qI rfl zci64 g14 (sd 1 rfl (?_)))
    obtain ⟨v15, g16, h⟩ := ob_some h
    exact ed rfl (qC (qs rfl (qs rfl eran)) (impl_compareInts_s g16) (sd 1 rfl (evdn (qk [4] rfl (ls_ret ((by cases h; cases hr1; exact ⟨.inl rfl, rfl⟩)))))))
   ·exact qF rfl g10 (ls_skip (hK5 _ (rg (sp 3 rfl (evn (hN _ _ h (okr rfl)))))))
  ·exact qF rfl g4 (ls_exit (kXB1 (Option.some.inj h) _ (okr rfl)))
 ·exact qg 10 g3 rfl (sp 5 rfl (evn (qF rfl rfl (ls_exit (kXB1 (Option.some.inj h) _ (okr rfl))))))
def impl_rowsValid_J2 (rec : Int → Option (Sum (Unit) (Bool))) (y1 : Int) (x13 : Bool) : Option (Sum (Unit) (Bool)) := cond x13 (some (.inr false)) (rec (IntKind.i64.wrap (y1 + 1)))
def impl_rowsValid_B1 (a0 : Int) (a1 : List (List Int)) (rec : Int → Option (Sum (Unit) (Bool))) (y1 : Int) : Option (Sum (Unit) (Bool)) := cond (decide (y1 < (List.length a1 : Int))) (obind (geti a1 y1) fun e10 => cond ((List.length e10 : Int) != a0) (impl_rowsValid_J2 rec y1 true) (obind (impl_AreValidValues e10) fun v16 => cond (!v16) (impl_rowsValid_J2 rec y1 true) (cond (decide (0 < y1)) (obind (geti a1 (IntKind.i64.wrap (y1 - 1))) fun e20 => obind (impl_CompareRows e20 e10) fun v22 => impl_rowsValid_J2 rec y1 (decide (0 ≤ v22))) (impl_rowsValid_J2 rec y1 false)))) (some (.inl ()))
def impl_rowsValid (a0 : Int) (a1 : List (List Int)) : Option (Bool) := obind (impl_within a0 0 5) fun v2 => cond (!v2) (some false) (cond (decide (4000 < (List.length a1 : Int))) (some false) (obind (loopF (impl_rowsValid_B1 a0 a1) fz 0) fun o1 => (match o1 with
  | .inl _ => (some true)
  | .inr r => some r)))
theorem impl_rowsValid_s {a0 : Int} {a1 : List (List Int)} {r : Bool} (h : impl_rowsValid a0 a1 = some r) : SoundAt Try.prog 162 [nI a0, dL c60_d a1] (.bool r) := by
 unfold impl_rowsValid at h
 refine st lit162 rfl (rn 1 rfl (ls_seq_k fun K1 hK1 => rs (sp 1 rfl (?_))))
 obtain ⟨v2, g3, h⟩ := ob_some h
 refine qC (qs rfl (qs rfl (qs rfl eran))) (impl_within_s g3) (sp 2 rfl (?_))
 rcases cond_some h with ⟨g4, h⟩ | ⟨g4, h⟩
 ·exact qg 10 g4 rfl (sp 4 rfl (evn (qT rfl rfl (rn 1 rfl (ls_ret ((by cases h; exact ⟨.inl rfl, rfl⟩)))))))
 ·refine qg 10 g4 rfl (sp 4 rfl (evn ?_))
  rcases cond_some h with ⟨g5, h⟩ | ⟨g5, h⟩
  ·exact qT rfl g5 (rn 1 rfl (ls_ret ((by cases h; exact ⟨.inl rfl, rfl⟩))))
  ·refine qF rfl g5 (ls_skip (hK1 _ (ls_seq_k fun K6 hK6 => rn 1 rfl (qk [0, 1, 15, 16, 17] rfl ?_))))
   obtain ⟨o1, hl, hr1⟩ := ob_some h
   have kXB1 : (.inl ()) = o1 → Jn K6 [] := by
    intro h σ' hk
    subst h
    replace h := hr1
    try dsimp only at h
    exact hK6 _ (lh hk rfl (rn 1 rfl (ls_ret ((by cases h; exact ⟨.inl rfl, rfl⟩)))))
   refine ls_rec (fun (y1 : Int) => [(0, nI a0), (1, dL c60_d a1), (15, dL c60_d a1), (16, nI (List.length a1 : Int)), (17, nI y1)]) _ _ _ _ hl (okr rfl) (fun _ => rfl) ?_
   rintro m y1 N h hN
   unfold impl_rowsValid_B1 at h
   refine rn 1 rfl (ls_seq_k fun K7 hK7 => ?_)
   rcases cond_some h with ⟨g8, h⟩ | ⟨g8, h⟩
   ·refine qT rfl g8 (ls_skip (hK7 _ (ls_seq_k fun K9 hK9 => ls_blk (rs (sp 1 rfl (?_))))))
    obtain ⟨e10, g11, h⟩ := ob_some h
    refine qI rfl zc60_d g11 (sp 3 rfl (evn (rk fun K12 hK12 => ?_)))
    have kJ2 : ∀ {x13 : Bool}, impl_rowsValid_J2 (loopF (impl_rowsValid_B1 a0 a1) m) y1 x13 = some o1 → Jn K12 [(0, nI a0), (1, dL c60_d a1), (15, dL c60_d a1), (16, nI (List.length a1 : Int)), (17, nI y1), (44, .bool x13)] := by
     intro x13 h σ' hk
     unfold impl_rowsValid_J2 at h
     refine hK12 _ (lh hk rfl ?_)
     rcases cond_some h with ⟨g14, h⟩ | ⟨g14, h⟩
     ·exact qT rfl g14 (rn 1 rfl (ls_ret ((by cases h; cases hr1; exact ⟨.inl rfl, rfl⟩))))
     ·exact qF rfl g14 (ls_skip (hK9 _ (rg (sp 2 rfl (evn (hN _ _ h (okr rfl)))))))
    refine sp 5 rfl (?_)
    rcases cond_some h with ⟨g15, h⟩ | ⟨g15, h⟩
    ·exact qg 26 g15 rfl (sp 18 rfl (evn (kJ2 h _ (okr rfl))))
    ·refine qg 26 g15 rfl (sp 1 rfl (?_))
     obtain ⟨v16, g17, h⟩ := ob_some h
     refine oGR rfl rfl (qC (qa rfl (erD eci64 _) eran) (impl_AreValidValues_s g17) (sp 3 rfl (?_)))
     rcases cond_some h with ⟨g18, h⟩ | ⟨g18, h⟩
     ·exact qg 31 g18 rfl (sp 13 rfl (evn (kJ2 h _ (okr rfl))))
     ·refine qg 31 g18 rfl (sp 3 rfl (?_))
      rcases cond_some h with ⟨g19, h⟩ | ⟨g19, h⟩
      ·refine qg 34 g19 rfl (sp 3 rfl (?_))
       obtain ⟨e20, g21, h⟩ := ob_some h
       refine oGR rfl rfl (qI rfl zc60_d g21 (sp 2 rfl (?_)))
       obtain ⟨v22, g23, h⟩ := ob_some h
       exact oGR rfl rfl (qC (qa rfl (erD eci64 _) (qa rfl (erD eci64 _) eran)) (impl_CompareRows_s g23) (sp 3 rfl (evn (kJ2 h _ (okr rfl)))))
      ·exact qg 34 g19 rfl (sp 10 rfl (evn (kJ2 h _ (okr rfl))))
   ·exact qF rfl g8 (ls_exit (kXB1 (Option.some.inj h) _ trivial))
def impl_IsValidRelation (a0 : Y28) : Option (Bool) := obind (impl_rowsValid a0.1 a0.2) fun v1 => some v1
theorem impl_IsValidRelation_s {a0 : Y28} {r : Bool} (h : impl_IsValidRelation a0 = some r) : SoundAt Try.prog 135 [.agg (c29_dd a0)] (.bool r) := by
 unfold impl_IsValidRelation at h
 refine st lit135 rfl (rn 1 rfl (rs (sp 4 rfl (?_))))
 obtain ⟨v1, g2, h⟩ := ob_some h
 exact qC (qs rfl (qa rfl (erD ec60_d _) eran)) (impl_rowsValid_s g2) (sp 1 rfl (evn (ls_ret ((by cases h; exact ⟨.inl rfl, rfl⟩)))))
def impl_IsValidDatabase_J2 (rec : Int → Option (Sum (Unit) (Bool))) (y1 : Int) (x10 : Bool) : Option (Sum (Unit) (Bool)) := cond x10 (some (.inr false)) (rec (IntKind.i64.wrap (y1 + 1)))
def impl_IsValidDatabase_B1 (a0 : List Y82) (rec : Int → Option (Sum (Unit) (Bool))) (y1 : Int) : Option (Sum (Unit) (Bool)) := cond (decide (y1 < (List.length a0 : Int))) (obind (geti a0 y1) fun e7 => obind (impl_IsValidName e7.1) fun v12 => cond (!v12) (impl_IsValidDatabase_J2 rec y1 true) (cond (decide (0 < y1)) (obind (geti a0 (IntKind.i64.wrap (y1 - 1))) fun e16 => cond (!Op.bytesLess e16.1 e7.1) (impl_IsValidDatabase_J2 rec y1 true) (obind (impl_IsValidRelation e7.2) fun v19 => cond (!v19) (impl_IsValidDatabase_J2 rec y1 true) (cond (decide (e7.2.1 < 1)) (impl_IsValidDatabase_J2 rec y1 true) (impl_IsValidDatabase_J2 rec y1 (decide (16 < (List.length e7.2.2 : Int))))))) (obind (impl_IsValidRelation e7.2) fun v23 => cond (!v23) (impl_IsValidDatabase_J2 rec y1 true) (cond (decide (e7.2.1 < 1)) (impl_IsValidDatabase_J2 rec y1 true) (impl_IsValidDatabase_J2 rec y1 (decide (16 < (List.length e7.2.2 : Int)))))))) (some (.inl ()))
def impl_IsValidDatabase (a0 : List Y82) : Option (Bool) := cond (decide (6 < (List.length a0 : Int))) (some false) (obind (loopF (impl_IsValidDatabase_B1 a0) fz 0) fun o1 => (match o1 with
  | .inl _ => (some true)
  | .inr r => some r))
theorem impl_IsValidDatabase_s {a0 : List Y82} {r : Bool} (h : impl_IsValidDatabase a0 = some r) : SoundAt Try.prog 92 [.agg [dL c83_dd a0]] (.bool r) := by
 unfold impl_IsValidDatabase at h
 refine st lit92 rfl (rn 1 rfl (ls_seq_k fun K1 hK1 => rn 1 rfl ?_))
 rcases cond_some h with ⟨g2, h⟩ | ⟨g2, h⟩
 ·exact qT rfl g2 (rn 1 rfl (ls_ret ((by cases h; exact ⟨.inl rfl, rfl⟩))))
 ·refine qF rfl g2 (ls_skip (hK1 _ (ls_seq_k fun K3 hK3 => rn 1 rfl ?_)))
  obtain ⟨o1, hl, hr1⟩ := ob_some h
  have kXB1 : (.inl ()) = o1 → Jn K3 [] := by
   intro h σ' hk
   subst h
   replace h := hr1
   try dsimp only at h
   exact hK3 _ (lh hk rfl (rn 1 rfl (ls_ret ((by cases h; exact ⟨.inl rfl, rfl⟩)))))
  refine ls_rec (fun (y1 : Int) => [(1, .box [dL c83_dd a0]), (10, dL c83_dd a0), (11, nI (List.length a0 : Int)), (12, nI y1)]) _ _ _ _ hl (okr rfl) (fun _ => rfl) ?_
  rintro m y1 N h hN
  unfold impl_IsValidDatabase_B1 at h
  refine rn 1 rfl (ls_seq_k fun K4 hK4 => ?_)
  rcases cond_some h with ⟨g5, h⟩ | ⟨g5, h⟩
  ·refine qT rfl g5 (ls_skip (hK4 _ (ls_seq_k fun K6 hK6 => ls_blk (rs (sp 1 rfl (?_))))))
   obtain ⟨e7, g8, h⟩ := ob_some h
   refine qI rfl zc83_dd g8 (sp 4 rfl (evn (rdk (by kernel_rfl) fun K9 hK9 => ?_)))
   have kJ2 : ∀ {x10 : Bool}, impl_IsValidDatabase_J2 (loopF (impl_IsValidDatabase_B1 a0) m) y1 x10 = some o1 → Jn K9 [(1, .box [dL c83_dd a0]), (10, dL c83_dd a0), (11, nI (List.length a0 : Int)), (12, nI y1), (55, .bool x10)] := by
    intro x10 h σ' hk
    unfold impl_IsValidDatabase_J2 at h
    refine hK9 _ (lh hk rfl ?_)
    rcases cond_some h with ⟨g11, h⟩ | ⟨g11, h⟩
    ·exact qT rfl g11 (rn 1 rfl (ls_ret ((by cases h; cases hr1; exact ⟨.inl rfl, rfl⟩))))
    ·exact qF rfl g11 (ls_skip (hK6 _ (rg (sp 2 rfl (evn (hN _ _ h (okr rfl)))))))
   refine sd 2 rfl (?_)
   obtain ⟨v12, g13, h⟩ := ob_some h
   refine ed rfl (qC (qs rfl eran) (impl_IsValidName_s g13) (sd 2 rfl (?_)))
   rcases cond_some h with ⟨g14, h⟩ | ⟨g14, h⟩
   ·exact qgd 21 g14 rfl (sd 34 rfl (evdn (kJ2 h _ (okr rfl))))
   ·refine qgd 21 g14 rfl (sd 3 rfl (?_))
    rcases cond_some h with ⟨g15, h⟩ | ⟨g15, h⟩
    ·refine qgd 24 g15 rfl (sd 4 rfl (?_))
     obtain ⟨e16, g17, h⟩ := ob_some h
     refine ed rfl (oGR rfl rfl (qI rfl zc83_dd g17 (sd 8 rfl (?_))))
     rcases cond_some h with ⟨g18, h⟩ | ⟨g18, h⟩
     ·exact qgd 37 g18 rfl (sd 18 rfl (evdn (kJ2 h _ (okr rfl))))
     ·refine qgd 37 g18 rfl (sd 2 rfl (?_))
      obtain ⟨v19, g20, h⟩ := ob_some h
      refine ed rfl (oGR rfl rfl (qC (qa rfl (erg (erc rfl (erc (erD ec60_d _) rfl))) eran) (impl_IsValidRelation_s g20) (sd 3 rfl (?_))))
      rcases cond_some h with ⟨g21, h⟩ | ⟨g21, h⟩
      ·exact qgd 43 g21 rfl (sd 12 rfl (evdn (kJ2 h _ (okr rfl))))
      ·refine qgd 43 g21 rfl (sd 6 rfl (?_))
       rcases cond_some h with ⟨g22, h⟩ | ⟨g22, h⟩
       ·exact qgd 49 g22 rfl (sd 6 rfl (evdn (kJ2 h _ (okr rfl))))
       ·exact qgd 49 g22 rfl (sd 6 rfl (evdn (kJ2 h _ (okr rfl))))
    ·refine qgd 24 g15 rfl (sd 15 rfl (?_))
     obtain ⟨v23, g24, h⟩ := ob_some h
     refine ed rfl (oGR rfl rfl (qC (qa rfl (erg (erc rfl (erc (erD ec60_d _) rfl))) eran) (impl_IsValidRelation_s g24) (sd 3 rfl (?_))))
     rcases cond_some h with ⟨g25, h⟩ | ⟨g25, h⟩
     ·exact qgd 43 g25 rfl (sd 12 rfl (evdn (kJ2 h _ (okr rfl))))
     ·refine qgd 43 g25 rfl (sd 6 rfl (?_))
      rcases cond_some h with ⟨g26, h⟩ | ⟨g26, h⟩
      ·exact qgd 49 g26 rfl (sd 6 rfl (evdn (kJ2 h _ (okr rfl))))
      ·exact qgd 49 g26 rfl (sd 6 rfl (evdn (kJ2 h _ (okr rfl))))
  ·exact qF rfl g5 (ls_exit (kXB1 (Option.some.inj h) _ trivial))
def impl_copyInts (a0 : List Int) : Option ((List Int)) := chk (List.length ([] : List Int) + List.length a0 ≤ lim) (some (([] : List Int) ++ a0))
theorem impl_copyInts_s {a0 : List Int} {r : (List Int)} (h : impl_copyInts a0 = some r) : SoundAt Try.prog 130 [dL ci64 a0] (oL 3 ci64 r) := by
 unfold impl_copyInts at h
 refine st lit130 rfl (rn 1 rfl (rs (qBs ci64 [] rfl rfl rfl zci64 (sp 1 rfl (?_)))))
 obtain ⟨g1, h⟩ := chk_some h
 exact qA ci64 ([] : List Int) a0 rfl rfl (flat_len zci64 a0) (map_dg (fun _ => rfl) _) g1 (sp 1 rfl (evn (ls_ret ((by cases h; exact ⟨.inl rfl, rfl⟩)))))
def impl_copyRows_B1 (a0 : List (List Int)) (rec : ((List (List Int)) × Int) → Option ((List (List Int)))) (s : (List (List Int)) × Int) : Option ((List (List Int))) := match s with
  | (y1, y2) => cond (decide (y2 < (List.length a0 : Int))) (obind (geti a0 y2) fun e6 => obind (impl_copyInts e6) fun v8 => chk (List.length y1 + List.length [v8] ≤ lim) (rec ((y1 ++ [v8]), (IntKind.i64.wrap (y2 + 1))))) (some y1)
def impl_copyRows (a0 : List (List Int)) : Option ((List (List Int))) := obind (loopF (impl_copyRows_B1 a0) fz (([] : List (List Int)), 0)) fun z2 => some z2
theorem impl_copyRows_s {a0 : List (List Int)} {r : (List (List Int))} (h : impl_copyRows a0 = some r) : SoundAt Try.prog 139 [dL c60_d a0] (oL 60 c60_o r) := by
 unfold impl_copyRows at h
 refine st lit139 rfl (rn 2 rfl (ls_seq_k fun K1 hK1 => rn 1 rfl ?_))
 obtain ⟨o1, hl, hr1⟩ := ob_some h
 have kXB1 : ∀ {z2 : List (List Int)}, z2 = o1 → Jn K1 [(3, oL 60 c60_o z2)] := by
  intro z2 h σ' hk
  subst h
  replace h := hr1
  try dsimp only at h
  exact hK1 _ (lh hk rfl (rn 1 rfl (ls_ret ((by cases h; exact ⟨.inl rfl, rfl⟩)))))
 refine ls_rec (fun (s : (List (List Int)) × Int) => match s with | (y1, y2) => [(3, oL 60 c60_o y1), (6, dL c60_d a0), (7, nI (List.length a0 : Int)), (8, nI y2)]) _ _ _ _ hl (okr rfl) (fun _ => rfl) ?_
 rintro m ⟨y1, y2⟩ N h hN
 unfold impl_copyRows_B1 at h
 dsimp only at h
 refine rn 1 rfl (ls_seq_k fun K3 hK3 => ?_)
 rcases cond_some h with ⟨g4, h⟩ | ⟨g4, h⟩
 ·refine qT rfl g4 (ls_skip (hK3 _ (ls_seq_k fun K5 hK5 => ls_blk (rs ?_))))
  obtain ⟨e6, g7, h⟩ := ob_some h
  refine qI rfl zc60_d g7 (sp 2 rfl (evn (rg (sp 2 rfl (?_)))))
  obtain ⟨v8, g9, h⟩ := ob_some h
  refine qC (qa rfl (erD eci64 _) eran) (impl_copyInts_s g9) (qBs c60_o [v8] rfl rfl rfl zc60_o (?_))
  obtain ⟨g10, h⟩ := chk_some h
  exact qA c60_o y1 [v8] rfl rfl (flat_len zc60_o [v8]) rfl g10 (sp 1 rfl (evn (hK5 _ (rg (sp 2 rfl (evn (hN _ _ h (okr rfl))))))))
 ·exact qF rfl g4 (ls_exit (kXB1 (Option.some.inj h) _ (okr rfl)))
def impl_copyRelation (a0 : Y28) : Option (Y28) := obind (impl_copyRows a0.2) fun v1 => some (a0.1, v1)
theorem impl_copyRelation_s {a0 : Y28} {r : Y28} (h : impl_copyRelation a0 = some r) : SoundAt Try.prog 98 [.agg (c29_dd a0)] (.agg (c29_oo r)) := by
 unfold impl_copyRelation at h
 refine st lit98 rfl (rn 1 rfl (rd (by kernel_rfl) (sd 4 rfl (?_))))
 obtain ⟨v1, g2, h⟩ := ob_some h
 exact ed rfl (qC (qa rfl (erD ec60_d _) eran) (impl_copyRows_s g2) (sd 2 rfl (evdn (ls_ret ((by cases h; exact ⟨.inl rfl, rfl⟩))))))
def impl_LookupRelation_J1  : Option (Y28 × Bool) := some ((0, []), false)
def impl_LookupRelation_B2 (a0 : List Y82) (a1 : List UInt8) (rec : Int → Option (Sum (Unit) (Y28 × Bool))) (y2 : Int) : Option (Sum (Unit) (Y28 × Bool)) := cond (decide (y2 < (List.length a0 : Int))) (obind (geti a0 y2) fun e8 => cond (e8.1 == a1) (obind (impl_copyRelation e8.2) fun v11 => some (.inr (v11, true))) (rec (IntKind.i64.wrap (y2 + 1)))) (some (.inl ()))
def impl_LookupRelation (a0 : List Y82) (a1 : List UInt8) : Option (Y28 × Bool) := obind (impl_IsValidDatabase a0) fun v2 => cond v2 (obind (loopF (impl_LookupRelation_B2 a0 a1) fz 0) fun o2 => (match o2 with
  | .inl _ => (impl_LookupRelation_J1 )
  | .inr r => some r)) (impl_LookupRelation_J1 )
theorem impl_LookupRelation_s {a0 : List Y82} {a1 : List UInt8} {r : Y28 × Bool} (h : impl_LookupRelation a0 a1 = some r) : SoundAt Try.prog 94 [.agg [dL c83_dd a0], .str a1] (.tup [.agg (c29_oo r.1), .bool r.2]) := by
 unfold impl_LookupRelation at h
 refine st lit94 rfl (rn 1 rfl (ls_seq_k fun K1 hK1 => rs (sp 1 rfl (?_))))
 obtain ⟨v2, g3, h⟩ := ob_some h
 refine qC (qa rfl (erg (erc (erD ec83_dd _) rfl)) eran) (impl_IsValidDatabase_s g3) (evn ?_)
 have kJ1 : impl_LookupRelation_J1 = some r → Jn K1 [(4, .box [nI 0, oL 60 c60_o []])] := by
  intro h σ' hk
  unfold impl_LookupRelation_J1 at h
  exact hK1 _ (lh hk rfl (rn 1 rfl (ls_ret ((by cases h; exact ⟨.inl rfl, rfl⟩)))))
 rcases cond_some h with ⟨g4, h⟩ | ⟨g4, h⟩
 ·refine qT rfl g4 (rn 1 rfl ?_)
  obtain ⟨o2, hl, hr2⟩ := ob_some h
  have kXB2 : (.inl ()) = o2 → Jn K1 [(4, .box [nI 0, oL 60 c60_o []])] := by
   intro h σ' hk
   subst h
   replace h := hr2
   try dsimp only at h
   exact kJ1 h _ ⟨hk.1, trivial⟩
  refine ls_rec (fun (y2 : Int) => [(1, .str a1), (4, .box [nI 0, oL 60 c60_o []]), (11, dL c83_dd a0), (12, nI (List.length a0 : Int)), (13, nI y2)]) _ _ _ _ hl (okr rfl) (fun _ => rfl) ?_
  rintro m y2 N h hN
  unfold impl_LookupRelation_B2 at h
  refine rn 1 rfl (ls_seq_k fun K5 hK5 => ?_)
  rcases cond_some h with ⟨g6, h⟩ | ⟨g6, h⟩
  ·refine qT rfl g6 (ls_skip (hK5 _ (ls_seq_k fun K7 hK7 => ls_blk (rs ?_))))
   obtain ⟨e8, g9, h⟩ := ob_some h
   refine qI rfl zc83_dd g9 (sp 3 rfl (evn (rn 1 rfl ?_)))
   rcases cond_some h with ⟨g10, h⟩ | ⟨g10, h⟩
   ·refine qT rfl g10 (rs (sp 2 rfl (?_)))
    obtain ⟨v11, g12, h⟩ := ob_some h
    exact qC (qa rfl (erg (erc rfl (erc (erD ec60_d _) rfl))) eran) (impl_copyRelation_s g12) (sp 2 rfl (evn (ls_ret ((by cases h; cases hr2; exact ⟨.inl rfl, rfl⟩)))))
   ·exact qF rfl g10 (ls_skip (hK7 _ (rg (sp 2 rfl (evn (hN _ _ h (okr rfl)))))))
  ·exact qF rfl g6 (ls_exit (kXB2 (Option.some.inj h) _ (okr rfl)))
 ·exact qF rfl g4 (ls_skip (kJ1 h _ (okr rfl)))
def impl_IsQueryFor_B1 (a0 : List Y82) (a1 : Y61) (rec : Int → Option (Sum (Unit) (Bool))) (y1 : Int) : Option (Sum (Unit) (Bool)) := cond (decide (y1 < (List.length a1.2.1 : Int))) (obind (geti a1.2.1 y1) fun e12 => obind (impl_LookupRelation a0 e12.1) fun v14 => cond (!v14.2) (some (.inr false)) (cond (v14.1.1 != (List.length e12.2 : Int)) (some (.inr false)) (rec (IntKind.i64.wrap (y1 + 1))))) (some (.inl ()))
def impl_IsQueryFor (a0 : List Y82) (a1 : Y61) : Option (Bool) := obind (impl_IsValidQuery a1) fun v2 => cond (!v2) (some false) (obind (impl_IsValidDatabase a0) fun v5 => cond (!v5) (some false) (obind (loopF (impl_IsQueryFor_B1 a0 a1) fz 0) fun o1 => (match o1 with
  | .inl _ => (some true)
  | .inr r => some r)))
theorem impl_IsQueryFor_s {a0 : List Y82} {a1 : Y61} {r : Bool} (h : impl_IsQueryFor a0 a1 = some r) : SoundAt Try.prog 126 [.agg [dL c83_dd a0], .agg (c62_ddd a1)] (.bool r) := by
 unfold impl_IsQueryFor at h
 refine st lit126 rfl (rn 1 rfl (ls_seq_k fun K1 hK1 => rs (sp 1 rfl (?_))))
 obtain ⟨v2, g3, h⟩ := ob_some h
 refine qC (qa rfl (erg (erc rfl (erc (erD ec124_d _) (erc (erD eci64 _) rfl)))) eran) (impl_IsValidQuery_s g3) (sp 2 rfl (?_))
 rcases cond_some h with ⟨g4, h⟩ | ⟨g4, h⟩
 ·exact qg 12 g4 rfl (sp 4 rfl (evn (qT rfl rfl (rn 1 rfl (ls_ret ((by cases h; exact ⟨.inl rfl, rfl⟩)))))))
 ·refine qg 12 g4 rfl (sp 1 rfl (?_))
  obtain ⟨v5, g6, h⟩ := ob_some h
  refine oGR rfl rfl (qC (qa rfl (erg (erc (erD ec83_dd _) rfl)) eran) (impl_IsValidDatabase_s g6) (sp 2 rfl (evn ?_)))
  rcases cond_some h with ⟨g7, h⟩ | ⟨g7, h⟩
  ·exact qT rfl g7 (rn 1 rfl (ls_ret ((by cases h; exact ⟨.inl rfl, rfl⟩))))
  ·refine qF rfl g7 (ls_skip (hK1 _ (ls_seq_k fun K8 hK8 => rn 1 rfl (qk [2, 18, 19, 20] rfl ?_))))
   obtain ⟨o1, hl, hr1⟩ := ob_some h
   have kXB1 : (.inl ()) = o1 → Jn K8 [] := by
    intro h σ' hk
    subst h
    replace h := hr1
    try dsimp only at h
    exact hK8 _ (lh hk rfl (rn 1 rfl (ls_ret ((by cases h; exact ⟨.inl rfl, rfl⟩)))))
   refine ls_rec (fun (y1 : Int) => [(2, .box [dL c83_dd a0]), (18, dL c124_d a1.2.1), (19, nI (List.length a1.2.1 : Int)), (20, nI y1)]) _ _ _ _ hl (okr rfl) (fun _ => rfl) ?_
   rintro m y1 N h hN
   unfold impl_IsQueryFor_B1 at h
   refine rn 1 rfl (ls_seq_k fun K9 hK9 => ?_)
   rcases cond_some h with ⟨g10, h⟩ | ⟨g10, h⟩
   ·refine qT rfl g10 (ls_skip (hK9 _ (ls_seq_k fun K11 hK11 => ls_blk (rs ?_))))
    obtain ⟨e12, g13, h⟩ := ob_some h
    refine qI rfl zc124_d g13 (sp 3 rfl (evn (rs (sp 3 rfl (?_)))))
    obtain ⟨v14, g15, h⟩ := ob_some h
    refine qC (qa rfl (erg (erc (erD ec83_dd _) rfl)) (qs rfl eran)) (impl_LookupRelation_s g15) (sp 6 rfl (evn (rs (sp 3 rfl (?_)))))
    rcases cond_some h with ⟨g16, h⟩ | ⟨g16, h⟩
    ·exact qg 33 g16 rfl (sp 7 rfl (evn (qT rfl rfl (rn 1 rfl (qk [4] rfl (ls_ret ((by cases h; cases hr1; exact ⟨.inl rfl, rfl⟩))))))))
    ·refine qg 33 g16 rfl (sp 7 rfl (evn ?_))
     rcases cond_some h with ⟨g17, h⟩ | ⟨g17, h⟩
     ·exact qT rfl g17 (rn 1 rfl (ls_ret ((by cases h; cases hr1; exact ⟨.inl rfl, rfl⟩))))
     ·exact qF rfl g17 (ls_skip (hK11 _ (rg (sp 2 rfl (evn (hN _ _ h (okr rfl)))))))
   ·exact qF rfl g10 (ls_exit (kXB1 (Option.some.inj h) _ trivial))
def impl_ContainsVariable (a0 : Y123) (a1 : Int) : Option (Bool) := obind (impl_hasInt a0.2 a1) fun v1 => some v1
theorem impl_ContainsVariable_s {a0 : Y123} {a1 : Int} {r : Bool} (h : impl_ContainsVariable a0 a1 = some r) : SoundAt Try.prog 131 [.agg (c124_d a0), nI a1] (.bool r) := by
 unfold impl_ContainsVariable at h
 refine st lit131 rfl (rn 1 rfl (rs (sp 3 rfl (?_))))
 obtain ⟨v1, g2, h⟩ := ob_some h
 exact qC (qa rfl (erD eci64 _) (qs rfl eran)) (impl_hasInt_s g2) (sp 1 rfl (evn (ls_ret ((by cases h; exact ⟨.inl rfl, rfl⟩)))))
def impl_AtomVariables_J2 (rec : ((List Int) × Int) → Option ((List Int))) (y2 : Int) (x8 : List Int) : Option ((List Int)) := rec (x8, (IntKind.i64.wrap (y2 + 1)))
def impl_AtomVariables_B1 (a0 : Y123) (rec : ((List Int) × Int) → Option ((List Int))) (s : (List Int) × Int) : Option ((List Int)) := match s with
  | (y1, y2) => cond (decide (y2 < 5)) (obind (impl_ContainsVariable a0 y2) fun v6 => cond v6 (chk (List.length y1 + List.length [y2] ≤ lim) (impl_AtomVariables_J2 rec y2 (y1 ++ [y2]))) (impl_AtomVariables_J2 rec y2 y1)) (some y1)
def impl_AtomVariables (a0 : Y123) : Option ((List Int)) := obind (loopF (impl_AtomVariables_B1 a0) fz (([] : List Int), 0)) fun z2 => some z2
theorem impl_AtomVariables_s {a0 : Y123} {r : (List Int)} (h : impl_AtomVariables a0 = some r) : SoundAt Try.prog 80 [.agg (c124_d a0)] (oL 3 ci64 r) := by
 unfold impl_AtomVariables at h
 refine st lit80 rfl (rn 2 rfl (ls_seq_k fun K1 hK1 => rn 1 rfl ?_))
 obtain ⟨o1, hl, hr1⟩ := ob_some h
 have kXB1 : ∀ {z2 : List Int}, z2 = o1 → Jn K1 [(3, oL 3 ci64 z2)] := by
  intro z2 h σ' hk
  subst h
  replace h := hr1
  try dsimp only at h
  exact hK1 _ (lh hk rfl (rn 1 rfl (ls_ret ((by cases h; exact ⟨.inl rfl, rfl⟩)))))
 refine ls_rec (fun (s : (List Int) × Int) => match s with | (y1, y2) => [(1, .box [.str a0.1, dL ci64 a0.2]), (3, oL 3 ci64 y1), (4, nI y2)]) _ _ _ _ hl (okr rfl) (fun _ => rfl) ?_
 rintro m ⟨y1, y2⟩ N h hN
 unfold impl_AtomVariables_B1 at h
 dsimp only at h
 refine ls_seq_k fun K3 hK3 => rn 1 rfl ?_
 rcases cond_some h with ⟨g4, h⟩ | ⟨g4, h⟩
 ·refine qT rfl g4 (ls_skip (hK3 _ (ls_seq_k fun K5 hK5 => ls_blk (rs (sp 2 rfl (?_))))))
  obtain ⟨v6, g7, h⟩ := ob_some h
  refine qC (qa rfl (erg (erc rfl (erc (erD eci64 _) rfl))) (qs rfl eran)) (impl_ContainsVariable_s g7) (evn ?_)
  have kJ2 : ∀ {x8 : List Int}, impl_AtomVariables_J2 (loopF (impl_AtomVariables_B1 a0) m) y2 x8 = some o1 → Jn K5 [(1, .box [.str a0.1, dL ci64 a0.2]), (3, oL 3 ci64 x8), (4, nI y2)] := by
   intro x8 h σ' hk
   unfold impl_AtomVariables_J2 at h
   exact hK5 _ (lh hk rfl (rg (sp 3 rfl (evn (hN _ _ h (okr rfl))))))
  rcases cond_some h with ⟨g9, h⟩ | ⟨g9, h⟩
  ·refine qT rfl g9 (rg (sp 2 rfl (qBs ci64 [y2] rfl rfl rfl zci64 (?_))))
   obtain ⟨g10, h⟩ := chk_some h
   exact qA ci64 y1 [y2] rfl rfl (flat_len zci64 [y2]) rfl g10 (sp 1 rfl (evn (kJ2 h _ (okr rfl))))
  ·exact qF rfl g9 (ls_skip (kJ2 h _ (okr rfl)))
 ·exact qF rfl g4 (ls_exit (kXB1 (Option.some.inj h) _ (okr rfl)))
def impl_columnsFit_B1 (a0 : Int) (a1 : List Int) (rec : Int → Option (Sum (Unit) (Bool))) (y1 : Int) : Option (Sum (Unit) (Bool)) := cond (decide (y1 < (List.length a1 : Int))) (obind (geti a1 y1) fun e7 => obind (impl_within e7 0 (IntKind.i64.wrap (a0 - 1))) fun v9 => cond (!v9) (some (.inr false)) (rec (IntKind.i64.wrap (y1 + 1)))) (some (.inl ()))
def impl_columnsFit (a0 : Int) (a1 : List Int) : Option (Bool) := cond (decide (5 < (List.length a1 : Int))) (some false) (obind (loopF (impl_columnsFit_B1 a0 a1) fz 0) fun o1 => (match o1 with
  | .inl _ => (some true)
  | .inr r => some r))
theorem impl_columnsFit_s {a0 : Int} {a1 : List Int} {r : Bool} (h : impl_columnsFit a0 a1 = some r) : SoundAt Try.prog 155 [nI a0, dL ci64 a1] (.bool r) := by
 unfold impl_columnsFit at h
 refine st lit155 rfl (rn 1 rfl (ls_seq_k fun K1 hK1 => rn 1 rfl ?_))
 rcases cond_some h with ⟨g2, h⟩ | ⟨g2, h⟩
 ·exact qT rfl g2 (rn 1 rfl (ls_ret ((by cases h; exact ⟨.inl rfl, rfl⟩))))
 ·refine qF rfl g2 (ls_skip (hK1 _ (ls_seq_k fun K3 hK3 => rn 1 rfl ?_)))
  obtain ⟨o1, hl, hr1⟩ := ob_some h
  have kXB1 : (.inl ()) = o1 → Jn K3 [] := by
   intro h σ' hk
   subst h
   replace h := hr1
   try dsimp only at h
   exact hK3 _ (lh hk rfl (rn 1 rfl (ls_ret ((by cases h; exact ⟨.inl rfl, rfl⟩)))))
  refine ls_rec (fun (y1 : Int) => [(0, nI a0), (10, dL ci64 a1), (11, nI (List.length a1 : Int)), (12, nI y1)]) _ _ _ _ hl (okr rfl) (fun _ => rfl) ?_
  rintro m y1 N h hN
  unfold impl_columnsFit_B1 at h
  refine rn 1 rfl (ls_seq_k fun K4 hK4 => ?_)
  rcases cond_some h with ⟨g5, h⟩ | ⟨g5, h⟩
  ·refine qT rfl g5 (ls_skip (hK4 _ (ls_seq_k fun K6 hK6 => ls_blk (rs ?_))))
   obtain ⟨e7, g8, h⟩ := ob_some h
   refine qI rfl zci64 g8 (sp 2 rfl (evn (rs (sp 3 rfl (?_)))))
   obtain ⟨v9, g10, h⟩ := ob_some h
   refine qC (qs rfl (qs rfl (qs rfl eran))) (impl_within_s g10) (sp 1 rfl (evn ?_))
   rcases cond_some h with ⟨g11, h⟩ | ⟨g11, h⟩
   ·exact qT rfl g11 (rn 1 rfl (ls_ret ((by cases h; cases hr1; exact ⟨.inl rfl, rfl⟩))))
   ·exact qF rfl g11 (ls_skip (hK6 _ (rg (sp 2 rfl (evn (hN _ _ h (okr rfl)))))))
  ·exact qF rfl g5 (ls_exit (kXB1 (Option.some.inj h) _ trivial))
def impl_pick_B1 (a0 : List Int) (a1 : List Int) (rec : ((List Int) × Int) → Option ((List Int))) (s : (List Int) × Int) : Option ((List Int)) := match s with
  | (y1, y2) => cond (decide (y2 < (List.length a1 : Int))) (obind (geti a1 y2) fun e6 => obind (geti a0 e6) fun e8 => chk (List.length y1 + List.length [e8] ≤ lim) (rec ((y1 ++ [e8]), (IntKind.i64.wrap (y2 + 1))))) (some y1)
def impl_pick (a0 : List Int) (a1 : List Int) : Option ((List Int)) := obind (loopF (impl_pick_B1 a0 a1) fz (([] : List Int), 0)) fun z2 => some z2
theorem impl_pick_s {a0 : List Int} {a1 : List Int} {r : (List Int)} (h : impl_pick a0 a1 = some r) : SoundAt Try.prog 157 [dL ci64 a0, dL ci64 a1] (oL 3 ci64 r) := by
 unfold impl_pick at h
 refine st lit157 rfl (rn 1 rfl (rs (qBs ci64 [] rfl rfl rfl zci64 (sp 1 rfl (evn (ls_seq_k fun K1 hK1 => rn 1 rfl ?_))))))
 obtain ⟨o1, hl, hr1⟩ := ob_some h
 have kXB1 : ∀ {z2 : List Int}, z2 = o1 → Jn K1 [(5, oL 3 ci64 z2)] := by
  intro z2 h σ' hk
  subst h
  replace h := hr1
  try dsimp only at h
  exact hK1 _ (lh hk rfl (rn 1 rfl (ls_ret ((by cases h; exact ⟨.inl rfl, rfl⟩)))))
 refine ls_rec (fun (s : (List Int) × Int) => match s with | (y1, y2) => [(0, dL ci64 a0), (5, oL 3 ci64 y1), (9, dL ci64 a1), (10, nI (List.length a1 : Int)), (11, nI y2)]) _ _ _ _ hl (okr rfl) (fun _ => rfl) ?_
 rintro m ⟨y1, y2⟩ N h hN
 unfold impl_pick_B1 at h
 dsimp only at h
 refine rn 1 rfl (ls_seq_k fun K3 hK3 => ?_)
 rcases cond_some h with ⟨g4, h⟩ | ⟨g4, h⟩
 ·refine qT rfl g4 (ls_skip (hK3 _ (ls_seq_k fun K5 hK5 => ls_blk (rs ?_))))
  obtain ⟨e6, g7, h⟩ := ob_some h
  refine qI rfl zci64 g7 (sp 2 rfl (evn (rg (sp 3 rfl (?_)))))
  obtain ⟨e8, g9, h⟩ := ob_some h
  refine qI rfl zci64 g9 (sp 1 rfl (qBs ci64 [e8] rfl rfl rfl zci64 (?_)))
  obtain ⟨g10, h⟩ := chk_some h
  exact qA ci64 y1 [e8] rfl rfl (flat_len zci64 [e8]) rfl g10 (sp 1 rfl (evn (hK5 _ (rg (sp 2 rfl (evn (hN _ _ h (okr rfl))))))))
 ·exact qF rfl g4 (ls_exit (kXB1 (Option.some.inj h) _ (okr rfl)))
def impl_sorted_J5 (rec : ((List (Nat × (List Int))) × (List (Nat × (List Int))) × (List (Nat × (List Int)))) → Option ((List (Nat × (List Int))))) (y2 : List (Nat × (List Int))) (x20 : List (Nat × (List Int))) (x24 : List (Nat × (List Int))) : Option ((List (Nat × (List Int)))) := chk ((0 : Int) ≤ 1 ∧ 1 ≤ (List.length y2 : Int) ∧ (List.length y2 : Int) ≤ (List.length y2 : Int)) (rec (x20, (subl y2 1 (List.length y2 : Int)), x24))
def impl_sorted_J4 (rec : ((List (Nat × (List Int))) × (List (Nat × (List Int))) × (List (Nat × (List Int)))) → Option ((List (Nat × (List Int))))) (y2 : List (Nat × (List Int))) (x18 : Int) (x20 : List (Nat × (List Int))) (x21 : List (Nat × (List Int))) : Option ((List (Nat × (List Int)))) := cond (decide (0 ≤ x18)) (cond (decide (0 < x18)) (obind (geti y2 0) fun e27 => chk (List.length x21 + List.length [e27] ≤ lim) (impl_sorted_J5 rec y2 x20 (x21 ++ [e27]))) (impl_sorted_J5 rec y2 x20 x21)) (rec (x20, y2, x21))
def impl_sorted_J3 (rec : ((List (Nat × (List Int))) × (List (Nat × (List Int))) × (List (Nat × (List Int)))) → Option ((List (Nat × (List Int))))) (y1 : List (Nat × (List Int))) (y2 : List (Nat × (List Int))) (y3 : List (Nat × (List Int))) (x18 : Int) : Option ((List (Nat × (List Int)))) := cond (decide (x18 ≤ 0)) (obind (geti y1 0) fun e31 => chk (List.length y3 + List.length [e31] ≤ lim) (chk ((0 : Int) ≤ 1 ∧ 1 ≤ (List.length y1 : Int) ∧ (List.length y1 : Int) ≤ (List.length y1 : Int)) (impl_sorted_J4 rec y2 x18 (subl y1 1 (List.length y1 : Int)) (y3 ++ [e31])))) (impl_sorted_J4 rec y2 x18 y1 y3)
def impl_sorted_J2 (rec : ((List (Nat × (List Int))) × (List (Nat × (List Int))) × (List (Nat × (List Int)))) → Option ((List (Nat × (List Int))))) (y1 : List (Nat × (List Int))) (y2 : List (Nat × (List Int))) (y3 : List (Nat × (List Int))) (x15 : Bool) : Option ((List (Nat × (List Int)))) := cond x15 (cond ((List.length y1 : Int) == 0) (impl_sorted_J3 rec y1 y2 y3 1) (cond (decide (0 < (List.length y2 : Int))) (obind (geti y1 0) fun e37 => obind (geti y2 0) fun e39 => obind (impl_CompareRows e37.2 e39.2) fun v41 => impl_sorted_J3 rec y1 y2 y3 v41) (impl_sorted_J3 rec y1 y2 y3 (-1)))) (some y3)
def impl_sorted_B1  (rec : ((List (Nat × (List Int))) × (List (Nat × (List Int))) × (List (Nat × (List Int)))) → Option ((List (Nat × (List Int))))) (s : (List (Nat × (List Int))) × (List (Nat × (List Int))) × (List (Nat × (List Int)))) : Option ((List (Nat × (List Int)))) := match s with
  | (y1, y2, y3) => cond (decide (0 < (List.length y1 : Int))) (impl_sorted_J2 rec y1 y2 y3 true) (impl_sorted_J2 rec y1 y2 y3 (decide (0 < (List.length y2 : Int))))
def impl_sorted_R (rec : ((List (List Int))) → Option ((List (List Int)))) (a0 : (List (List Int))) : Option ((List (List Int))) := cond (decide ((List.length a0 : Int) < 2)) (obind (impl_copyRows a0) fun v3 => some v3) (chk ((0 : Int) ≤ 0 ∧ 0 ≤ IntKind.i64.wrap (Int.tdiv (List.length a0 : Int) 2) ∧ IntKind.i64.wrap (Int.tdiv (List.length a0 : Int) 2) ≤ (List.length a0 : Int)) (obind (rec (subl a0 0 (IntKind.i64.wrap (Int.tdiv (List.length a0 : Int) 2)))) fun v6 => chk ((0 : Int) ≤ IntKind.i64.wrap (Int.tdiv (List.length a0 : Int) 2) ∧ IntKind.i64.wrap (Int.tdiv (List.length a0 : Int) 2) ≤ (List.length a0 : Int) ∧ (List.length a0 : Int) ≤ (List.length a0 : Int)) (obind (rec (subl a0 (IntKind.i64.wrap (Int.tdiv (List.length a0 : Int) 2)) (List.length a0 : Int))) fun v9 => obind (loopF impl_sorted_B1 fz ((enumP 0 v6), (enumP (List.length v6) v9), ([] : List (Nat × (List Int))))) fun z12 => chk (okJ (v6 ++ v9) (List.map Sum.inl z12) [] = true) (some (List.map getM (List.map Sum.inl z12))))))
def impl_sorted (a0 : List (List Int)) : Option ((List (List Int))) := loopF impl_sorted_R fz a0
theorem impl_sorted_s {a0 : List (List Int)} {r : (List (List Int))} (h : impl_sorted a0 = some r) : SoundAt Try.prog 158 [dL c60_d a0] (oL 60 c60_o r) := by
 suffices key : ∀ mF (a0 : List (List Int)) (r : (List (List Int))), loopF impl_sorted_R mF a0 = some r → SoundAt Try.prog 158 [dL c60_d a0] (oL 60 c60_o r) from key fz a0 r h
 intro mF
 induction mF with
 | zero => intro a0 r h; cases h
 | succ mF ih0 =>
  intro a0 r h
  have ih : ∀ {a0 : List (List Int)} {r : (List (List Int))}, loopF impl_sorted_R mF a0 = some r → SoundAt Try.prog 158 [dL c60_d a0] (oL 60 c60_o r) := fun h => ih0 _ _ h
  change impl_sorted_R (loopF impl_sorted_R mF) a0 = some r at h
  unfold impl_sorted_R at h
  try dsimp only at h
  refine st lit158 rfl (rn 1 rfl (ls_seq_k fun K1 hK1 => rn 1 rfl ?_))
  rcases cond_some h with ⟨g2, h⟩ | ⟨g2, h⟩
  ·refine qT rfl g2 (rs (sp 1 rfl (?_)))
   obtain ⟨v3, g4, h⟩ := ob_some h
   exact qC (qa rfl (erD ec60_d _) eran) (impl_copyRows_s g4) (sp 1 rfl (evn (ls_ret ((by cases h; exact ⟨.inl rfl, rfl⟩)))))
  ·refine qF rfl g2 (ls_skip (hK1 _ (rn 1 rfl (rd (by kernel_rfl) (sd 2 rfl (?_))))))
   obtain ⟨g5, h⟩ := chk_some h
   refine ed rfl (qSl rfl zc60_d g5 (?_))
   obtain ⟨v6, g7, h⟩ := ob_some h
   refine ed rfl (qC (qa rfl (erD ec60_d _) eran) (ih g7) (sd 2 rfl (?_)))
   obtain ⟨g8, h⟩ := chk_some h
   refine ed rfl (qSl rfl zc60_d g8 (?_))
   obtain ⟨v9, g10, h⟩ := ob_some h
   refine ed rfl (qC (qa rfl (erD ec60_d _) eran) (ih g10) (sd 2 rfl (evdn (qk [4, 5] rfl (ls_split2 (f := c60_o) (s1 := 4) (s2 := 5) (g1 := 900001) (g2 := 900002) rfl rfl rfl rfl ⟨by decide, by decide, by decide, by decide, by decide, by decide⟩ (split_own (fun _ => rfl)) (split_own (fun _ => rfl)) (fun _ => rfl) (fun _ => rfl) (fun _ => rfl) (fun _ => rfl) ?_)))))
   intro U us1 us2 hu1 hu2 hU
   refine kp [(4, oL 60 (pE c60_o U) (enumP 0 v6)), (5, oL 60 (pE c60_o U) (enumP (List.length v6) v9)), (900001, .gh us1 (List.map (fun x => tokC (c60_o x)) v6)), (900002, .gh us2 (List.map (fun x => tokC (c60_o x)) v9))] rfl rfl (rn 1 rfl (ls_seq_k fun K11 hK11 => ?_))
   obtain ⟨o1, hl, hr1⟩ := ob_some h
   have kXB1 : ∀ {z12 : List (Nat × (List Int))}, z12 = o1 → Jn K11 [(6, oL 60 (pE c60_o U) z12), (900001, .gh us1 (List.map (fun x => tokC (c60_o x)) v6)), (900002, .gh us2 (List.map (fun x => tokC (c60_o x)) v9))] := by
    intro z12 h σ' hk
    subst h
    replace h := hr1
    try dsimp only at h
    refine hK11 _ (lh hk rfl (qk [6, 900001, 900002] rfl ?_))
    obtain ⟨g44, h⟩ := chk_some h
    exact ls_merge (g1 := 900001) (g2 := 900002) rfl rfl (by decide) (ls_join1 (f := c60_o) (s := 6) (q := 900001) (l := v6 ++ v9) (U := U) (L := List.map Sum.inl z12) own_inl rfl List.map_append.symm (by decide) (join_own (fun _ => rfl)) hU g44 rfl rfl (kp [(6, oL 60 c60_o (List.map getM (List.map Sum.inl z12)))] rfl rfl (rn 1 rfl (ls_ret ((by cases h; exact ⟨.inl rfl, rfl⟩))))))
   refine ls_rec (fun (s : (List (Nat × (List Int))) × (List (Nat × (List Int))) × (List (Nat × (List Int)))) => match s with | (y1, y2, y3) => [(4, dL (pE c60_o U) y1), (5, dL (pE c60_o U) y2), (6, oL 60 (pE c60_o U) y3), (900001, .gh us1 (List.map (fun x => tokC (c60_o x)) v6)), (900002, .gh us2 (List.map (fun x => tokC (c60_o x)) v9))]) _ _ _ _ hl ⟨(kd rfl rfl), (kd rfl rfl), kr, kr, kr, trivial⟩ (fun _ => rfl) ?_
   rintro m ⟨y1, y2, y3⟩ N h hN
   unfold impl_sorted_B1 at h
   dsimp only at h
   refine ls_seq_k fun K13 hK13 => rk fun K14 hK14 => ?_
   have kJ2 : ∀ {x15 : Bool}, impl_sorted_J2 (loopF impl_sorted_B1 m) y1 y2 y3 x15 = some o1 → Jn K14 [(4, dL (pE c60_o U) y1), (5, dL (pE c60_o U) y2), (6, oL 60 (pE c60_o U) y3), (31, .bool x15), (900001, .gh us1 (List.map (fun x => tokC (c60_o x)) v6)), (900002, .gh us2 (List.map (fun x => tokC (c60_o x)) v9))] := by
    intro x15 h σ' hk
    unfold impl_sorted_J2 at h
    refine hK14 _ (lh hk rfl ?_)
    rcases cond_some h with ⟨g16, h⟩ | ⟨g16, h⟩
    ·refine qT rfl g16 (ls_skip (hK13 _ (ls_blk (rn 1 rfl (ls_seq_k fun K17 hK17 => rn 1 rfl ?_)))))
     have kJ3 : ∀ {x18 : Int}, impl_sorted_J3 (loopF impl_sorted_B1 m) y1 y2 y3 x18 = some o1 → Jn K17 [(4, dL (pE c60_o U) y1), (5, dL (pE c60_o U) y2), (6, oL 60 (pE c60_o U) y3), (7, nI x18), (900001, .gh us1 (List.map (fun x => tokC (c60_o x)) v6)), (900002, .gh us2 (List.map (fun x => tokC (c60_o x)) v9))] := by
      intro x18 h σ' hk
      unfold impl_sorted_J3 at h
      refine hK17 _ (lh hk rfl (ls_seq_k fun K19 hK19 => rn 1 rfl ?_))
      have kJ4 : ∀ {x20 : List (Nat × (List Int))} {x21 : List (Nat × (List Int))}, impl_sorted_J4 (loopF impl_sorted_B1 m) y2 x18 x20 x21 = some o1 → Jn K19 [(4, dL (pE c60_o U) x20), (5, dL (pE c60_o U) y2), (6, oL 60 (pE c60_o U) x21), (7, nI x18), (900001, .gh us1 (List.map (fun x => tokC (c60_o x)) v6)), (900002, .gh us2 (List.map (fun x => tokC (c60_o x)) v9))] := by
       intro x20 x21 h σ' hk
       unfold impl_sorted_J4 at h
       refine hK19 _ (lh hk rfl (rn 1 rfl ?_))
       rcases cond_some h with ⟨g22, h⟩ | ⟨g22, h⟩
       ·refine qT rfl g22 (ls_seq_k fun K23 hK23 => rn 1 rfl ?_)
        have kJ5 : ∀ {x24 : List (Nat × (List Int))}, impl_sorted_J5 (loopF impl_sorted_B1 m) y2 x20 x24 = some o1 → Jn K23 [(4, dL (pE c60_o U) x20), (5, dL (pE c60_o U) y2), (6, oL 60 (pE c60_o U) x24), (900001, .gh us1 (List.map (fun x => tokC (c60_o x)) v6)), (900002, .gh us2 (List.map (fun x => tokC (c60_o x)) v9))] := by
         intro x24 h σ' hk
         unfold impl_sorted_J5 at h
         refine hK23 _ (lh hk rfl (rg (sp 1 rfl (?_))))
         obtain ⟨g25, h⟩ := chk_some h
         exact qSl rfl (zpE zc60_o) g25 (sp 1 rfl (evn (hN _ _ h (okr rfl))))
        rcases cond_some h with ⟨g26, h⟩ | ⟨g26, h⟩
        ·refine qT rfl g26 (rg (sp 2 rfl (?_)))
         obtain ⟨e27, g28, h⟩ := ob_some h
         refine qI rfl (zpE zc60_o) g28 (sp 1 rfl (qBs (pE c60_o U) [e27] rfl rfl rfl (zpE zc60_o) (?_)))
         obtain ⟨g29, h⟩ := chk_some h
         exact qA (pE c60_o U) x21 [e27] rfl rfl (flat_len (zpE zc60_o) [e27]) rfl g29 (sp 1 rfl (evn (kJ5 h _ (okr rfl))))
        ·exact qF rfl g26 (ls_skip (kJ5 h _ (okr rfl)))
       ·exact qF rfl g22 (ls_skip (hN _ _ h (okr rfl)))
      rcases cond_some h with ⟨g30, h⟩ | ⟨g30, h⟩
      ·refine qT rfl g30 (rs (sp 2 rfl (?_)))
       obtain ⟨e31, g32, h⟩ := ob_some h
       refine qI rfl (zpE zc60_o) g32 (sp 1 rfl (qBs (pE c60_o U) [e31] rfl rfl rfl (zpE zc60_o) (?_)))
       obtain ⟨g33, h⟩ := chk_some h
       refine qA (pE c60_o U) y3 [e31] rfl rfl (flat_len (zpE zc60_o) [e31]) rfl g33 (sp 1 rfl (evn (rg (sp 1 rfl (?_)))))
       obtain ⟨g34, h⟩ := chk_some h
       exact qSl rfl (zpE zc60_o) g34 (sp 1 rfl (evn (kJ4 h _ (okr rfl))))
      ·exact qF rfl g30 (ls_skip (kJ4 h _ (okr rfl)))
     rcases cond_some h with ⟨g35, h⟩ | ⟨g35, h⟩
     ·exact qT rfl g35 (rg (sp 1 rfl (evn (kJ3 h _ (okr rfl)))))
     ·refine qF rfl g35 (rn 1 rfl (qk [4, 5, 6, 7, 37, 900001, 900002] rfl ?_))
      rcases cond_some h with ⟨g36, h⟩ | ⟨g36, h⟩
      ·refine qT rfl g36 (rgd (by kernel_rfl) (sd 1 rfl (?_)))
       obtain ⟨e37, g38, h⟩ := ob_some h
       refine ed rfl (qI rfl (zpE zc60_o) g38 (sd 2 rfl (?_)))
       obtain ⟨e39, g40, h⟩ := ob_some h
       refine ed rfl (qI rfl (zpE zc60_o) g40 (sd 1 rfl (?_)))
       obtain ⟨v41, g42, h⟩ := ob_some h
       exact ed rfl (qC (qa rfl (erP eci64 eci64 _) (qa rfl (erP eci64 eci64 _) eran)) (impl_CompareRows_s g42) (sd 1 rfl (evdn (kJ3 h _ (okr rfl)))))
      ·exact qF rfl g36 (ls_skip (kJ3 h _ (okr rfl)))
    ·exact qF rfl g16 (ls_exit (kXB1 (Option.some.inj h) _ (okr rfl)))
   refine sp 4 rfl (?_)
   rcases cond_some h with ⟨g43, h⟩ | ⟨g43, h⟩
   ·exact qg 27 g43 rfl (sp 4 rfl (evn (kJ2 h _ (okr rfl))))
   ·exact qg 27 g43 rfl (sp 4 rfl (evn (kJ2 h _ (okr rfl))))
def impl_AtomBindings_J3 (rec : ((List Int) × Bool × Int) → Option ((List Int) × Bool)) (e16 : List Int) (y9 : List Int) (y11 : Int) (e25 : Int) (x30 : Bool) : Option ((List Int) × Bool) := obind (geti e16 y11) fun e31 => obind (geti y9 e25) fun e33 => rec ((seti y9 e25 e31), x30, (IntKind.i64.wrap (y11 + 1)))
def impl_AtomBindings_B2 (a1 : Y123) (e16 : List Int) (rec : ((List Int) × Bool × Int) → Option ((List Int) × Bool)) (s : (List Int) × Bool × Int) : Option ((List Int) × Bool) := match s with
  | (y9, y10, y11) => cond (decide (y11 < (List.length a1.2 : Int))) (obind (geti a1.2 y11) fun e25 => obind (impl_indexOf a1.2 e25) fun v27 => cond y10 (obind (geti e16 v27) fun e36 => obind (geti e16 y11) fun e38 => impl_AtomBindings_J3 rec e16 y9 y11 e25 (e36 == e38)) (impl_AtomBindings_J3 rec e16 y9 y11 e25 false)) (some (y9, y10))
def impl_AtomBindings_J4 (rec : ((List (List Int)) × Int) → Option ((List (List Int)))) (y5 : Int) (x40 : List (List Int)) : Option ((List (List Int))) := rec (x40, (IntKind.i64.wrap (y5 + 1)))
def impl_AtomBindings_B1 (a1 : Y123) (v1 : (List Int)) (v3 : Y28 × Bool) (rec : ((List (List Int)) × Int) → Option ((List (List Int)))) (s : (List (List Int)) × Int) : Option ((List (List Int))) := match s with
  | (y4, y5) => cond (decide (y5 < (List.length v3.1.2 : Int))) (obind (geti v3.1.2 y5) fun e16 => chk ((0 : Int) ≤ 5 ∧ Int.toNat 5 ≤ lim) (obind (loopF (impl_AtomBindings_B2 a1 e16) fz ((List.replicate (Int.toNat 5) (0 : Int)), true, 0)) fun o2 => (match o2 with
  | (z20, z21) => (cond z21 (obind (impl_pick z20 v1) fun v42 => chk (List.length y4 + List.length [v42] ≤ lim) (impl_AtomBindings_J4 rec y5 (y4 ++ [v42]))) (impl_AtomBindings_J4 rec y5 y4))))) (some y4)
def impl_AtomBindings (a0 : List Y82) (a1 : Y123) : Option (Y28) := obind (impl_AtomVariables a1) fun v1 => obind (impl_LookupRelation a0 a1.1) fun v3 => cond (!v3.2) (some ((List.length v1 : Int), [])) (cond (v3.1.1 != (List.length a1.2 : Int)) (some ((List.length v1 : Int), [])) (obind (impl_columnsFit 5 a1.2) fun v8 => cond (!v8) (some ((List.length v1 : Int), [])) (obind (loopF (impl_AtomBindings_B1 a1 v1 v3) fz (([] : List (List Int)), 0)) fun z12 => obind (impl_sorted z12) fun v45 => some ((List.length v1 : Int), v45))))
theorem impl_AtomBindings_s {a0 : List Y82} {a1 : Y123} {r : Y28} (h : impl_AtomBindings a0 a1 = some r) : SoundAt Try.prog 127 [.agg [dL c83_dd a0], .agg (c124_d a1)] (.agg (c29_oo r)) := by
 unfold impl_AtomBindings at h
 refine st lit127 rfl (rn 1 rfl (rs (sp 1 rfl (?_))))
 obtain ⟨v1, g2, h⟩ := ob_some h
 refine qC (qa rfl (erg (erc rfl (erc (erD eci64 _) rfl))) eran) (impl_AtomVariables_s g2) (sp 1 rfl (evn (rn 1 rfl (rs (sp 3 rfl (?_))))))
 obtain ⟨v3, g4, h⟩ := ob_some h
 refine qC (qa rfl (erg (erc (erD ec83_dd _) rfl)) (qs rfl eran)) (impl_LookupRelation_s g4) (sp 6 rfl (evn (ls_seq_k fun K5 hK5 => rs (sp 3 rfl (?_)))))
 rcases cond_some h with ⟨g6, h⟩ | ⟨g6, h⟩
 ·exact qg 31 g6 rfl (sp 13 rfl (evn (qk [3, 4, 5, 6, 7, 44] rfl (qT rfl rfl (rn 1 rfl (ls_ret ((by cases h; exact ⟨.inl rfl, rfl⟩))))))))
 ·refine qg 31 g6 rfl (sp 8 rfl (?_))
  rcases cond_some h with ⟨g7, h⟩ | ⟨g7, h⟩
  ·exact qg 39 g7 rfl (sp 5 rfl (evn (qT rfl rfl (rn 1 rfl (ls_ret ((by cases h; exact ⟨.inl rfl, rfl⟩)))))))
  ·refine qg 39 g7 rfl (sp 2 rfl (?_))
   obtain ⟨v8, g9, h⟩ := ob_some h
   refine oGR rfl rfl (qC (qs rfl (qa rfl (erD eci64 _) eran)) (impl_columnsFit_s g9) (sp 2 rfl (evn ?_)))
   rcases cond_some h with ⟨g10, h⟩ | ⟨g10, h⟩
   ·exact qT rfl g10 (rn 1 rfl (ls_ret ((by cases h; exact ⟨.inl rfl, rfl⟩))))
   ·refine qF rfl g10 (ls_skip (hK5 _ (qk [3, 4, 5, 6, 7] rfl (rn 1 rfl (ls_seq_k fun K11 hK11 => rn 1 rfl ?_)))))
    obtain ⟨o1, hl, hr1⟩ := ob_some h
    have kXB1 : ∀ {z12 : List (List Int)}, z12 = o1 → Jn K11 [(4, .box [nI 0, oL 60 c60_o []]), (6, .box [nI (List.length v1 : Int), oL 60 c60_o []]), (9, oL 60 c60_o z12)] := by
     intro z12 h σ' hk
     subst h
     replace h := hr1
     try dsimp only at h
     refine hK11 _ (lh hk rfl (rs (sp 1 rfl (?_))))
     obtain ⟨v45, g46, h⟩ := ob_some h
     exact qC (qa rfl (erD ec60_o _) eran) (impl_sorted_s g46) (sp 2 rfl (evn (rn 1 rfl (ls_ret ((by cases h; exact ⟨.inl rfl, rfl⟩))))))
    refine ls_rec (fun (s : (List (List Int)) × Int) => match s with | (y4, y5) => [(3, .box [.str a1.1, dL ci64 a1.2]), (4, .box [nI 0, oL 60 c60_o []]), (5, oL 3 ci64 v1), (6, .box [nI (List.length v1 : Int), oL 60 c60_o []]), (9, oL 60 c60_o y4), (47, dL c60_o v3.1.2), (48, nI (List.length v3.1.2 : Int)), (49, nI y5)]) _ _ _ _ hl (okr rfl) (fun _ => rfl) ?_
    rintro m ⟨y4, y5⟩ N h hN
    unfold impl_AtomBindings_B1 at h
    dsimp only at h
    refine rn 1 rfl (ls_seq_k fun K13 hK13 => ?_)
    rcases cond_some h with ⟨g14, h⟩ | ⟨g14, h⟩
    ·refine qT rfl g14 (ls_skip (hK13 _ (ls_seq_k fun K15 hK15 => ls_blk (rs ?_))))
     obtain ⟨e16, g17, h⟩ := ob_some h
     refine qI rfl zc60_o g17 (sp 2 rfl (evn (rs ?_)))
     obtain ⟨g18, h⟩ := chk_some h
     refine qMu ci64 (0 : Int) rfl rfl rfl rfl g18 rfl (qAu rfl rfl rfl rfl (evn (rn 1 rfl (ls_seq_k fun K19 hK19 => rn 1 rfl ?_))))
     obtain ⟨o2, hl, hr2⟩ := ob_some h
     have kXB2 : ∀ {z20 : List Int} {z21 : Bool}, (z20, z21) = o2 → Jn K19 [(3, .box [.str a1.1, dL ci64 a1.2]), (4, .box [nI 0, oL 60 c60_o []]), (5, oL 3 ci64 v1), (6, .box [nI (List.length v1 : Int), oL 60 c60_o []]), (9, oL 60 c60_o y4), (12, wL 3 ci64 z20), (13, .bool z21), (47, dL c60_o v3.1.2), (48, nI (List.length v3.1.2 : Int)), (49, nI y5)] := by
      intro z20 z21 h σ' hk
      subst h
      replace h := hr2
      try dsimp only at h
      refine hK19 _ (lh hk rfl (rn 1 rfl ?_))
      have kJ4 : ∀ {x40 : List (List Int)}, impl_AtomBindings_J4 (loopF (impl_AtomBindings_B1 a1 v1 v3) m) y5 x40 = some o1 → Jn K15 [(3, .box [.str a1.1, dL ci64 a1.2]), (4, .box [nI 0, oL 60 c60_o []]), (5, oL 3 ci64 v1), (6, .box [nI (List.length v1 : Int), oL 60 c60_o []]), (9, oL 60 c60_o x40), (47, dL c60_o v3.1.2), (48, nI (List.length v3.1.2 : Int)), (49, nI y5)] := by
       intro x40 h σ' hk
       unfold impl_AtomBindings_J4 at h
       exact hK15 _ (lh hk rfl (rg (sp 2 rfl (evn (hN _ _ h (okr rfl))))))
      rcases cond_some h with ⟨g41, h⟩ | ⟨g41, h⟩
      ·refine qT rfl g41 (rg (sp 1 rfl (qTu rfl rfl rfl (sp 1 rfl (?_)))))
       obtain ⟨v42, g43, h⟩ := ob_some h
       refine qC (qa rfl (erO eci64 _) (qa rfl (erD eci64 _) eran)) (impl_pick_s g43) (qBs c60_o [v42] rfl rfl rfl zc60_o (?_))
       obtain ⟨g44, h⟩ := chk_some h
       exact qA c60_o y4 [v42] rfl rfl (flat_len zc60_o [v42]) rfl g44 (sp 1 rfl (evn (kJ4 h _ (okr rfl))))
      ·exact qF rfl g41 (ls_skip (kJ4 h _ (okr rfl)))
     refine ls_rec (fun (s : (List Int) × Bool × Int) => match s with | (y9, y10, y11) => [(3, .box [.str a1.1, dL ci64 a1.2]), (4, .box [nI 0, oL 60 c60_o []]), (5, oL 3 ci64 v1), (6, .box [nI (List.length v1 : Int), oL 60 c60_o []]), (9, oL 60 c60_o y4), (11, dL ci64 e16), (12, wL 3 ci64 y9), (13, .bool y10), (47, dL c60_o v3.1.2), (48, nI (List.length v3.1.2 : Int)), (49, nI y5), (55, dL ci64 a1.2), (56, nI (List.length a1.2 : Int)), (57, nI y11)]) _ _ _ _ hl (okr rfl) (fun _ => rfl) ?_
     rintro m ⟨y9, y10, y11⟩ N h hN
     unfold impl_AtomBindings_B2 at h
     dsimp only at h
     refine rn 1 rfl (ls_seq_k fun K22 hK22 => ?_)
     rcases cond_some h with ⟨g23, h⟩ | ⟨g23, h⟩
     ·refine qT rfl g23 (ls_skip (hK22 _ (ls_seq_k fun K24 hK24 => ls_blk (rs (sp 1 rfl (?_))))))
      obtain ⟨e25, g26, h⟩ := ob_some h
      refine qI rfl zci64 g26 (sp 3 rfl (evn (rs (sp 3 rfl (?_)))))
      obtain ⟨v27, g28, h⟩ := ob_some h
      refine qC (qa rfl (erD eci64 _) (qs rfl eran)) (impl_indexOf_s g28) (sp 1 rfl (evn (rdk (by kernel_rfl) fun K29 hK29 => ?_)))
      have kJ3 : ∀ {x30 : Bool}, impl_AtomBindings_J3 (loopF (impl_AtomBindings_B2 a1 e16) m) e16 y9 y11 e25 x30 = some o2 → Jn K29 [(3, .box [.str a1.1, dL ci64 a1.2]), (4, .box [nI 0, oL 60 c60_o []]), (5, oL 3 ci64 v1), (6, .box [nI (List.length v1 : Int), oL 60 c60_o []]), (9, oL 60 c60_o y4), (11, dL ci64 e16), (12, wL 3 ci64 y9), (13, .bool x30), (14, nI y11), (15, nI e25), (47, dL c60_o v3.1.2), (48, nI (List.length v3.1.2 : Int)), (49, nI y5), (55, dL ci64 a1.2), (56, nI (List.length a1.2 : Int)), (57, nI y11)] := by
       intro x30 h σ' hk
       unfold impl_AtomBindings_J3 at h
       refine hK29 _ (lh hk rfl (rg (sp 4 rfl (?_))))
       obtain ⟨e31, g32, h⟩ := ob_some h
       refine qI rfl zci64 g32 (sp 1 rfl (?_))
       obtain ⟨e33, g34, h⟩ := ob_some h
       exact qIu rfl ⟨(geti_some g34).1, (geti_some g34).2.1⟩ (qSu e31 rfl rfl zci64 ⟨(geti_some g34).1, (geti_some g34).2.1⟩ rfl rfl rfl rfl rfl rfl (evn (hK24 _ (rg (sp 2 rfl (evn (hN _ _ h (okr rfl))))))))
      refine sd 2 rfl (?_)
      rcases cond_some h with ⟨g35, h⟩ | ⟨g35, h⟩
      ·refine qgd 67 g35 rfl (sd 2 rfl (?_))
       obtain ⟨e36, g37, h⟩ := ob_some h
       refine ed rfl (oGR rfl rfl (qI rfl zci64 g37 (sd 3 rfl (?_))))
       obtain ⟨e38, g39, h⟩ := ob_some h
       exact ed rfl (oGR rfl rfl (qI rfl zci64 g39 (sd 4 rfl (evdn (kJ3 h _ (okr rfl))))))
      ·exact qgd 67 g35 rfl (sd 11 rfl (evdn (kJ3 h _ (okr rfl))))
     ·exact qF rfl g23 (ls_exit (kXB2 (Option.some.inj h) _ (okr rfl)))
    ·exact qF rfl g14 (ls_exit (kXB1 (Option.some.inj h) _ (okr rfl)))
def impl_AtomSizes_B1 (a0 : List Y82) (a1 : Y61) (rec : ((List Int) × Int) → Option ((List Int))) (s : (List Int) × Int) : Option ((List Int)) := match s with
  | (y1, y2) => cond (decide (y2 < (List.length a1.2.1 : Int))) (obind (geti a1.2.1 y2) fun e10 => obind (impl_AtomBindings a0 e10) fun v12 => chk (List.length y1 + List.length [(List.length v12.2 : Int)] ≤ lim) (rec ((y1 ++ [(List.length v12.2 : Int)]), (IntKind.i64.wrap (y2 + 1))))) (some y1)
def impl_AtomSizes (a0 : List Y82) (a1 : Y61) : Option ((List Int) × Bool) := obind (impl_IsQueryFor a0 a1) fun v2 => cond (!v2) (some (([] : List Int), false)) (obind (loopF (impl_AtomSizes_B1 a0 a1) fz (([] : List Int), 0)) fun z6 => some (z6, true))
theorem impl_AtomSizes_s {a0 : List Y82} {a1 : Y61} {r : (List Int) × Bool} (h : impl_AtomSizes a0 a1 = some r) : SoundAt Try.prog 77 [.agg [dL c83_dd a0], .agg (c62_ddd a1)] (.tup [oL 3 ci64 r.1, .bool r.2]) := by
 unfold impl_AtomSizes at h
 refine st lit77 rfl (rn 1 rfl (ls_seq_k fun K1 hK1 => rs (sp 2 rfl (?_))))
 obtain ⟨v2, g3, h⟩ := ob_some h
 refine qC (qa rfl (erg (erc (erD ec83_dd _) rfl)) (qa rfl (erg (erc rfl (erc (erD ec124_d _) (erc (erD eci64 _) rfl)))) eran)) (impl_IsQueryFor_s g3) (sp 1 rfl (evn ?_))
 rcases cond_some h with ⟨g4, h⟩ | ⟨g4, h⟩
 ·exact qT rfl g4 (rn 1 rfl (ls_ret ((by cases h; exact ⟨.inl rfl, rfl⟩))))
 ·refine qF rfl g4 (ls_skip (hK1 _ (rn 1 rfl (ls_seq_k fun K5 hK5 => rn 1 rfl ?_))))
  obtain ⟨o1, hl, hr1⟩ := ob_some h
  have kXB1 : ∀ {z6 : List Int}, z6 = o1 → Jn K5 [(6, oL 3 ci64 z6)] := by
   intro z6 h σ' hk
   subst h
   replace h := hr1
   try dsimp only at h
   exact hK5 _ (lh hk rfl (rn 1 rfl (ls_ret ((by cases h; exact ⟨.inl rfl, rfl⟩)))))
  refine ls_rec (fun (s : (List Int) × Int) => match s with | (y1, y2) => [(2, .box [dL c83_dd a0]), (6, oL 3 ci64 y1), (14, dL c124_d a1.2.1), (15, nI (List.length a1.2.1 : Int)), (16, nI y2)]) _ _ _ _ hl (okr rfl) (fun _ => rfl) ?_
  rintro m ⟨y1, y2⟩ N h hN
  unfold impl_AtomSizes_B1 at h
  dsimp only at h
  refine rn 1 rfl (ls_seq_k fun K7 hK7 => ?_)
  rcases cond_some h with ⟨g8, h⟩ | ⟨g8, h⟩
  ·refine qT rfl g8 (ls_skip (hK7 _ (ls_seq_k fun K9 hK9 => ls_blk (rs ?_))))
   obtain ⟨e10, g11, h⟩ := ob_some h
   refine qI rfl zc124_d g11 (sp 3 rfl (evn (rg (sp 3 rfl (?_)))))
   obtain ⟨v12, g13, h⟩ := ob_some h
   refine qC (qa rfl (erg (erc (erD ec83_dd _) rfl)) (qa rfl (erg (erc rfl (erc (erD eci64 _) rfl))) eran)) (impl_AtomBindings_s g13) (qFd 1 (by kernel_rfl) rfl (sp 1 rfl (qBs ci64 [(List.length v12.2 : Int)] rfl rfl rfl zci64 (?_))))
   obtain ⟨g14, h⟩ := chk_some h
   exact qA ci64 y1 [(List.length v12.2 : Int)] rfl rfl (flat_len zci64 [(List.length v12.2 : Int)]) rfl g14 (sp 1 rfl (evn (hK9 _ (rg (sp 2 rfl (evn (hN _ _ h (okr rfl))))))))
  ·exact qF rfl g8 (ls_exit (kXB1 (Option.some.inj h) _ (okr rfl)))
def impl_IsStrictlyAscending_B1 (a0 : List Int) (rec : Int → Option (Sum (Unit) (Bool))) (y1 : Int) : Option (Sum (Unit) (Bool)) := cond (decide (y1 < (List.length a0 : Int))) (obind (geti a0 (IntKind.i64.wrap (y1 - 1))) fun e5 => obind (geti a0 y1) fun e7 => cond (decide (e7 ≤ e5)) (some (.inr false)) (rec (IntKind.i64.wrap (y1 + 1)))) (some (.inl ()))
def impl_IsStrictlyAscending (a0 : List Int) : Option (Bool) := obind (loopF (impl_IsStrictlyAscending_B1 a0) fz 1) fun o1 => (match o1 with
  | .inl _ => (some true)
  | .inr r => some r)
theorem impl_IsStrictlyAscending_s {a0 : List Int} {r : Bool} (h : impl_IsStrictlyAscending a0 = some r) : SoundAt Try.prog 159 [dL ci64 a0] (.bool r) := by
 unfold impl_IsStrictlyAscending at h
 refine st lit159 rfl (rn 1 rfl (ls_seq_k fun K1 hK1 => rn 1 rfl ?_))
 obtain ⟨o1, hl, hr1⟩ := ob_some h
 have kXB1 : (.inl ()) = o1 → Jn K1 [] := by
  intro h σ' hk
  subst h
  replace h := hr1
  try dsimp only at h
  exact hK1 _ (lh hk rfl (rn 1 rfl (ls_ret ((by cases h; exact ⟨.inl rfl, rfl⟩)))))
 refine ls_rec (fun (y1 : Int) => [(0, dL ci64 a0), (3, nI y1)]) _ _ _ _ hl (okr rfl) (fun _ => rfl) ?_
 rintro m y1 N h hN
 unfold impl_IsStrictlyAscending_B1 at h
 refine ls_seq_k fun K2 hK2 => rn 1 rfl ?_
 rcases cond_some h with ⟨g3, h⟩ | ⟨g3, h⟩
 ·refine qT rfl g3 (ls_skip (hK2 _ (ls_seq_k fun K4 hK4 => ls_blk (rd (by kernel_rfl) (sd 3 rfl (?_))))))
  obtain ⟨e5, g6, h⟩ := ob_some h
  refine ed rfl (qI rfl zci64 g6 (sd 3 rfl (?_)))
  obtain ⟨e7, g8, h⟩ := ob_some h
  refine ed rfl (qI rfl zci64 g8 (sd 2 rfl (evdn ?_)))
  rcases cond_some h with ⟨g9, h⟩ | ⟨g9, h⟩
  ·exact qT rfl g9 (rn 1 rfl (ls_ret ((by cases h; cases hr1; exact ⟨.inl rfl, rfl⟩))))
  ·exact qF rfl g9 (ls_skip (hK4 _ (rg (sp 3 rfl (evn (hN _ _ h (okr rfl)))))))
 ·exact qF rfl g3 (ls_exit (kXB1 (Option.some.inj h) _ trivial))
def impl_IsValidFD_B1 (a1 : Y114) (v1 : Y28 × Bool) (rec : Int → Option (Sum (Unit) (Bool))) (y1 : Int) : Option (Sum (Unit) (Bool)) := cond (decide (y1 < (List.length a1.2.1 : Int))) (obind (geti a1.2.1 y1) fun e15 => obind (impl_within e15 0 (IntKind.i64.wrap (v1.1.1 - 1))) fun v17 => cond (!v17) (some (.inr false)) (rec (IntKind.i64.wrap (y1 + 1)))) (some (.inl ()))
def impl_IsValidFD (a0 : List Y82) (a1 : Y114) : Option (Bool) := obind (impl_LookupRelation a0 a1.1) fun v1 => cond (!v1.2) (some false) (obind (impl_IsStrictlyAscending a1.2.1) fun v5 => cond (!v5) (some false) (obind (impl_within a1.2.2 0 (IntKind.i64.wrap (v1.1.1 - 1))) fun v8 => cond (!v8) (some false) (obind (loopF (impl_IsValidFD_B1 a1 v1) fz 0) fun o1 => (match o1 with
  | .inl _ => (some true)
  | .inr r => some r))))
theorem impl_IsValidFD_s {a0 : List Y82} {a1 : Y114} {r : Bool} (h : impl_IsValidFD a0 a1 = some r) : SoundAt Try.prog 128 [.agg [dL c83_dd a0], .agg (c115_d a1)] (.bool r) := by
 unfold impl_IsValidFD at h
 refine st lit128 rfl (rn 1 rfl (rs (sp 3 rfl (?_))))
 obtain ⟨v1, g2, h⟩ := ob_some h
 refine qC (qa rfl (erg (erc (erD ec83_dd _) rfl)) (qs rfl eran)) (impl_LookupRelation_s g2) (sp 6 rfl (evn (ls_seq_k fun K3 hK3 => rs (sp 3 rfl (?_)))))
 rcases cond_some h with ⟨g4, h⟩ | ⟨g4, h⟩
 ·exact qg 18 g4 rfl (sp 14 rfl (evn (qT rfl rfl (rn 1 rfl (ls_ret ((by cases h; exact ⟨.inl rfl, rfl⟩)))))))
 ·refine qg 18 g4 rfl (sp 2 rfl (?_))
  obtain ⟨v5, g6, h⟩ := ob_some h
  refine oGR rfl rfl (qC (qa rfl (erD eci64 _) eran) (impl_IsStrictlyAscending_s g6) (sp 3 rfl (?_)))
  rcases cond_some h with ⟨g7, h⟩ | ⟨g7, h⟩
  ·exact qg 24 g7 rfl (sp 8 rfl (evn (qk [3, 5, 32] rfl (qT rfl rfl (rn 1 rfl (ls_ret ((by cases h; exact ⟨.inl rfl, rfl⟩))))))))
  ·refine qg 24 g7 rfl (sp 5 rfl (?_))
   obtain ⟨v8, g9, h⟩ := ob_some h
   refine oGR rfl rfl (qC (qs rfl (qs rfl (qs rfl eran))) (impl_within_s g9) (sp 2 rfl (evn ?_)))
   rcases cond_some h with ⟨g10, h⟩ | ⟨g10, h⟩
   ·exact qT rfl g10 (rn 1 rfl (ls_ret ((by cases h; exact ⟨.inl rfl, rfl⟩))))
   ·refine qF rfl g10 (ls_skip (hK3 _ (ls_seq_k fun K11 hK11 => rn 1 rfl ?_)))
    obtain ⟨o1, hl, hr1⟩ := ob_some h
    have kXB1 : (.inl ()) = o1 → Jn K11 [] := by
     intro h σ' hk
     subst h
     replace h := hr1
     try dsimp only at h
     exact hK11 _ (lh hk rfl (rn 1 rfl (ls_ret ((by cases h; exact ⟨.inl rfl, rfl⟩)))))
    refine ls_rec (fun (y1 : Int) => [(5, .box [nI v1.1.1, oL 60 c60_o v1.1.2]), (34, dL ci64 a1.2.1), (35, nI (List.length a1.2.1 : Int)), (36, nI y1)]) _ _ _ _ hl (okr rfl) (fun _ => rfl) ?_
    rintro m y1 N h hN
    unfold impl_IsValidFD_B1 at h
    refine rn 1 rfl (ls_seq_k fun K12 hK12 => ?_)
    rcases cond_some h with ⟨g13, h⟩ | ⟨g13, h⟩
    ·refine qT rfl g13 (ls_skip (hK12 _ (ls_seq_k fun K14 hK14 => ls_blk (rs ?_))))
     obtain ⟨e15, g16, h⟩ := ob_some h
     refine qI rfl zci64 g16 (sp 2 rfl (evn (rs (sp 4 rfl (?_)))))
     obtain ⟨v17, g18, h⟩ := ob_some h
     refine qC (qs rfl (qs rfl (qs rfl eran))) (impl_within_s g18) (sp 1 rfl (evn ?_))
     rcases cond_some h with ⟨g19, h⟩ | ⟨g19, h⟩
     ·exact qT rfl g19 (rn 1 rfl (ls_ret ((by cases h; cases hr1; exact ⟨.inl rfl, rfl⟩))))
     ·exact qF rfl g19 (ls_skip (hK14 _ (rg (sp 2 rfl (evn (hN _ _ h (okr rfl)))))))
    ·exact qF rfl g13 (ls_exit (kXB1 (Option.some.inj h) _ trivial))
def impl_sameInts_B1 (a0 : List Int) (a1 : List Int) (rec : Int → Option (Sum (Unit) (Bool))) (y1 : Int) : Option (Sum (Unit) (Bool)) := cond (decide (y1 < (List.length a0 : Int))) (obind (geti a0 y1) fun e7 => obind (geti a1 y1) fun e9 => cond (e7 != e9) (some (.inr false)) (rec (IntKind.i64.wrap (y1 + 1)))) (some (.inl ()))
def impl_sameInts (a0 : List Int) (a1 : List Int) : Option (Bool) := cond ((List.length a0 : Int) != (List.length a1 : Int)) (some false) (obind (loopF (impl_sameInts_B1 a0 a1) fz 0) fun o1 => (match o1 with
  | .inl _ => (some true)
  | .inr r => some r))
theorem impl_sameInts_s {a0 : List Int} {a1 : List Int} {r : Bool} (h : impl_sameInts a0 a1 = some r) : SoundAt Try.prog 160 [dL ci64 a0, dL ci64 a1] (.bool r) := by
 unfold impl_sameInts at h
 refine st lit160 rfl (rn 1 rfl (ls_seq_k fun K1 hK1 => rn 1 rfl ?_))
 rcases cond_some h with ⟨g2, h⟩ | ⟨g2, h⟩
 ·exact qT rfl g2 (rn 1 rfl (ls_ret ((by cases h; exact ⟨.inl rfl, rfl⟩))))
 ·refine qF rfl g2 (ls_skip (hK1 _ (ls_seq_k fun K3 hK3 => rn 1 rfl ?_)))
  obtain ⟨o1, hl, hr1⟩ := ob_some h
  have kXB1 : (.inl ()) = o1 → Jn K3 [] := by
   intro h σ' hk
   subst h
   replace h := hr1
   try dsimp only at h
   exact hK3 _ (lh hk rfl (rn 1 rfl (ls_ret ((by cases h; exact ⟨.inl rfl, rfl⟩)))))
  refine ls_rec (fun (y1 : Int) => [(0, dL ci64 a0), (1, dL ci64 a1), (12, nI (List.length a0 : Int)), (13, nI y1)]) _ _ _ _ hl (okr rfl) (fun _ => rfl) ?_
  rintro m y1 N h hN
  unfold impl_sameInts_B1 at h
  refine rn 1 rfl (ls_seq_k fun K4 hK4 => ?_)
  rcases cond_some h with ⟨g5, h⟩ | ⟨g5, h⟩
  ·refine qT rfl g5 (ls_skip (hK4 _ (ls_seq_k fun K6 hK6 => ls_blk (rn 1 rfl (rd (by kernel_rfl) (sd 2 rfl (?_)))))))
   obtain ⟨e7, g8, h⟩ := ob_some h
   refine ed rfl (qI rfl zci64 g8 (sd 3 rfl (?_)))
   obtain ⟨e9, g10, h⟩ := ob_some h
   refine ed rfl (qI rfl zci64 g10 (sd 2 rfl (evdn ?_)))
   rcases cond_some h with ⟨g11, h⟩ | ⟨g11, h⟩
   ·exact qT rfl g11 (rn 1 rfl (ls_ret ((by cases h; cases hr1; exact ⟨.inl rfl, rfl⟩))))
   ·exact qF rfl g11 (ls_skip (hK6 _ (rg (sp 2 rfl (evn (hN _ _ h (okr rfl)))))))
  ·exact qF rfl g5 (ls_exit (kXB1 (Option.some.inj h) _ trivial))
def impl_FDViolation_J3 (rec : Int → Option (Sum (Unit) ((List Int)))) (y2 : Int) (y4 : Int) (x20 : Bool) : Option (Sum (Unit) ((List Int))) := cond x20 (some (.inr [y4, y2])) (rec (IntKind.i64.wrap (y4 + 1)))
def impl_FDViolation_B2 (a1 : Y114) (v5 : Y28 × Bool) (y2 : Int) (e11 : List Int) (rec : Int → Option (Sum (Unit) ((List Int)))) (y4 : Int) : Option (Sum (Unit) ((List Int))) := cond (decide (y4 < (List.length (subl v5.1.2 0 y2) : Int))) (obind (geti (subl v5.1.2 0 y2) y4) fun e17 => obind (geti e17 a1.2.2) fun e22 => obind (geti e11 a1.2.2) fun e24 => cond (e22 != e24) (obind (impl_pick e17 a1.2.1) fun v27 => obind (impl_pick e11 a1.2.1) fun v29 => obind (impl_sameInts v27 v29) fun v31 => impl_FDViolation_J3 rec y2 y4 v31) (impl_FDViolation_J3 rec y2 y4 false)) (some (.inl ()))
def impl_FDViolation_B1 (a1 : Y114) (v5 : Y28 × Bool) (rec : Int → Option (Sum (Unit) ((List Int)))) (y2 : Int) : Option (Sum (Unit) ((List Int))) := cond (decide (y2 < (List.length v5.1.2 : Int))) (obind (geti v5.1.2 y2) fun e11 => chk ((0 : Int) ≤ 0 ∧ 0 ≤ y2 ∧ y2 ≤ (List.length v5.1.2 : Int)) (obind (loopF (impl_FDViolation_B2 a1 v5 y2 e11) fz 0) fun o2 => (match o2 with
  | .inl _ => (rec (IntKind.i64.wrap (y2 + 1)))
  | .inr r => some (.inr r)))) (some (.inl ()))
def impl_FDViolation (a0 : List Y82) (a1 : Y114) : Option ((List Int)) := obind (impl_IsValidFD a0 a1) fun v2 => cond (!v2) (some ([] : List Int)) (obind (impl_LookupRelation a0 a1.1) fun v5 => obind (loopF (impl_FDViolation_B1 a1 v5) fz 0) fun o1 => (match o1 with
  | .inl _ => (some ([] : List Int))
  | .inr r => some r))
theorem impl_FDViolation_s {a0 : List Y82} {a1 : Y114} {r : (List Int)} (h : impl_FDViolation a0 a1 = some r) : SoundAt Try.prog 129 [.agg [dL c83_dd a0], .agg (c115_d a1)] (oL 3 ci64 r) := by
 unfold impl_FDViolation at h
 refine st lit129 rfl (rn 1 rfl (ls_seq_k fun K1 hK1 => rs (sp 2 rfl (?_))))
 obtain ⟨v2, g3, h⟩ := ob_some h
 refine qC (qa rfl (erg (erc (erD ec83_dd _) rfl)) (qa rfl (erg (erc rfl (erc (erD eci64 _) (erc rfl rfl)))) eran)) (impl_IsValidFD_s g3) (sp 1 rfl (evn ?_))
 rcases cond_some h with ⟨g4, h⟩ | ⟨g4, h⟩
 ·exact qT rfl g4 (rn 1 rfl (ls_ret ((by cases h; exact ⟨.inl rfl, rfl⟩))))
 ·refine qF rfl g4 (ls_skip (hK1 _ (rs (sp 3 rfl (?_)))))
  obtain ⟨v5, g6, h⟩ := ob_some h
  refine qC (qa rfl (erg (erc (erD ec83_dd _) rfl)) (qs rfl eran)) (impl_LookupRelation_s g6) (sp 6 rfl (evn (ls_seq_k fun K7 hK7 => rn 1 rfl ?_)))
  obtain ⟨o1, hl, hr1⟩ := ob_some h
  have kXB1 : (.inl ()) = o1 → Jn K7 [] := by
   intro h σ' hk
   subst h
   replace h := hr1
   try dsimp only at h
   exact hK7 _ (lh hk rfl (rn 1 rfl (ls_ret ((by cases h; exact ⟨.inl rfl, rfl⟩)))))
  refine ls_rec (fun (y2 : Int) => [(3, .box [.str a1.1, dL ci64 a1.2.1, nI a1.2.2]), (5, .box [nI v5.1.1, oL 60 c60_o v5.1.2]), (23, dL c60_o v5.1.2), (24, nI (List.length v5.1.2 : Int)), (25, nI y2)]) _ _ _ _ hl (okr rfl) (fun _ => rfl) ?_
  rintro m y2 N h hN
  unfold impl_FDViolation_B1 at h
  refine rn 1 rfl (ls_seq_k fun K8 hK8 => ?_)
  rcases cond_some h with ⟨g9, h⟩ | ⟨g9, h⟩
  ·refine qT rfl g9 (ls_skip (hK8 _ (ls_seq_k fun K10 hK10 => ls_blk (rs (sp 1 rfl (?_))))))
   obtain ⟨e11, g12, h⟩ := ob_some h
   refine qI rfl zc60_o g12 (sp 3 rfl (evn (rs (sp 3 rfl (?_)))))
   obtain ⟨g13, h⟩ := chk_some h
   refine qSl rfl zc60_o g13 (sp 2 rfl (evn ?_))
   obtain ⟨o2, hl, hr2⟩ := ob_some h
   have kXB2 : (.inl ()) = o2 → Jn K10 [(3, .box [.str a1.1, dL ci64 a1.2.1, nI a1.2.2]), (5, .box [nI v5.1.1, oL 60 c60_o v5.1.2]), (23, dL c60_o v5.1.2), (24, nI (List.length v5.1.2 : Int)), (25, nI y2)] := by
    intro h σ' hk
    subst h
    replace h := hr2
    try dsimp only at h
    exact hK10 _ (lh hk rfl (rg (sp 2 rfl (evn (hN _ _ h (okr rfl))))))
   refine ls_rec (fun (y4 : Int) => [(3, .box [.str a1.1, dL ci64 a1.2.1, nI a1.2.2]), (5, .box [nI v5.1.1, oL 60 c60_o v5.1.2]), (7, nI y2), (8, dL ci64 e11), (23, dL c60_o v5.1.2), (24, nI (List.length v5.1.2 : Int)), (25, nI y2), (33, dL c60_o (subl v5.1.2 0 y2)), (34, nI (List.length (subl v5.1.2 0 y2) : Int)), (35, nI y4)]) _ _ _ _ hl (okr rfl) (fun _ => rfl) ?_
   rintro m y4 N h hN
   unfold impl_FDViolation_B2 at h
   refine rn 1 rfl (ls_seq_k fun K14 hK14 => ?_)
   rcases cond_some h with ⟨g15, h⟩ | ⟨g15, h⟩
   ·refine qT rfl g15 (ls_skip (hK14 _ (ls_seq_k fun K16 hK16 => ls_blk (rs (sp 1 rfl (?_))))))
    obtain ⟨e17, g18, h⟩ := ob_some h
    refine qI rfl zc60_o g18 (sp 3 rfl (evn (rdk (by kernel_rfl) fun K19 hK19 => ?_)))
    have kJ3 : ∀ {x20 : Bool}, impl_FDViolation_J3 (loopF (impl_FDViolation_B2 a1 v5 y2 e11) m) y2 y4 x20 = some o2 → Jn K19 [(3, .box [.str a1.1, dL ci64 a1.2.1, nI a1.2.2]), (5, .box [nI v5.1.1, oL 60 c60_o v5.1.2]), (7, nI y2), (8, dL ci64 e11), (9, nI y4), (23, dL c60_o v5.1.2), (24, nI (List.length v5.1.2 : Int)), (25, nI y2), (33, dL c60_o (subl v5.1.2 0 y2)), (34, nI (List.length (subl v5.1.2 0 y2) : Int)), (35, nI y4), (61, .bool x20)] := by
     intro x20 h σ' hk
     unfold impl_FDViolation_J3 at h
     refine hK19 _ (lh hk rfl ?_)
     rcases cond_some h with ⟨g21, h⟩ | ⟨g21, h⟩
     ·exact qT rfl g21 (rs (sp 2 rfl (qBs ci64 [y4, y2] rfl rfl rfl zci64 (sp 1 rfl (evn (ls_ret ((by cases h; cases hr2; cases hr1; exact ⟨.inl rfl, rfl⟩))))))))
     ·exact qF rfl g21 (ls_skip (hK16 _ (rg (sp 2 rfl (evn (hN _ _ h (okr rfl)))))))
    refine sd 3 rfl (?_)
    obtain ⟨e22, g23, h⟩ := ob_some h
    refine ed rfl (qI rfl zci64 g23 (sd 4 rfl (?_)))
    obtain ⟨e24, g25, h⟩ := ob_some h
    refine ed rfl (qI rfl zci64 g25 (sd 3 rfl (?_)))
    rcases cond_some h with ⟨g26, h⟩ | ⟨g26, h⟩
    ·refine qgd 51 g26 rfl (sd 3 rfl (?_))
     obtain ⟨v27, g28, h⟩ := ob_some h
     refine ed rfl (oGR rfl rfl (qC (qa rfl (erD eci64 _) (qa rfl (erD eci64 _) eran)) (impl_pick_s g28) (sd 3 rfl (?_))))
     obtain ⟨v29, g30, h⟩ := ob_some h
     refine ed rfl (oGR rfl rfl (qC (qa rfl (erD eci64 _) (qa rfl (erD eci64 _) eran)) (impl_pick_s g30) (?_)))
     obtain ⟨v31, g32, h⟩ := ob_some h
     exact ed rfl (oGR rfl rfl (qC (qa rfl (erO eci64 _) (qa rfl (erO eci64 _) eran)) (impl_sameInts_s g32) (sd 1 rfl (evdn (kJ3 h _ (okr rfl))))))
    ·exact qgd 51 g26 rfl (sd 10 rfl (evdn (kJ3 h _ (okr rfl))))
   ·exact qF rfl g15 (ls_exit (kXB2 (Option.some.inj h) _ (okr rfl)))
  ·exact qF rfl g9 (ls_exit (kXB1 (Option.some.inj h) _ trivial))
def impl_FDHolds_J1 (x2 : Bool) : Option (Bool) := some x2
def impl_FDHolds (a0 : List Y82) (a1 : Y114) : Option (Bool) := obind (impl_IsValidFD a0 a1) fun v3 => cond v3 (obind (impl_FDViolation a0 a1) fun v6 => impl_FDHolds_J1 ((List.length v6 : Int) == 0)) (impl_FDHolds_J1 false)
theorem impl_FDHolds_s {a0 : List Y82} {a1 : Y114} {r : Bool} (h : impl_FDHolds a0 a1 = some r) : SoundAt Try.prog 78 [.agg [dL c83_dd a0], .agg (c115_d a1)] (.bool r) := by
 unfold impl_FDHolds at h
 refine st lit78 rfl (rn 1 rfl (rk fun K1 hK1 => ?_))
 have kJ1 : ∀ {x2 : Bool}, impl_FDHolds_J1 x2 = some r → Jn K1 [(4, .bool x2)] := by
  intro x2 h σ' hk
  unfold impl_FDHolds_J1 at h
  exact hK1 _ (lh hk rfl (ls_ret ((by cases h; exact ⟨.inl rfl, rfl⟩))))
 refine sp 2 rfl (?_)
 obtain ⟨v3, g4, h⟩ := ob_some h
 refine qC (qa rfl (erg (erc (erD ec83_dd _) rfl)) (qa rfl (erg (erc rfl (erc (erD eci64 _) (erc rfl rfl)))) eran)) (impl_IsValidFD_s g4) (sp 1 rfl (?_))
 rcases cond_some h with ⟨g5, h⟩ | ⟨g5, h⟩
 ·refine qg 8 g5 rfl (sp 2 rfl (?_))
  obtain ⟨v6, g7, h⟩ := ob_some h
  exact oGR rfl rfl (qC (qa rfl (erg (erc (erD ec83_dd _) rfl)) (qa rfl (erg (erc rfl (erc (erD eci64 _) (erc rfl rfl)))) eran)) (impl_FDViolation_s g7) (sp 4 rfl (evn (kJ1 h _ (okr rfl)))))
 ·exact qg 8 g5 rfl (sp 7 rfl (evn (kJ1 h _ (okr rfl))))
def impl_unite_B2 (y2 : List Int) (e8 : Int) (rec : Int → Option (Int)) (y5 : Int) : Option (Int) := cond (decide (y5 < (List.length y2 : Int))) (obind (geti y2 y5) fun e14 => cond (decide (e14 < e8)) (rec (IntKind.i64.wrap (y5 + 1))) (some y5)) (some y5)
def impl_unite_J4 (rec : ((List Int) × Int) → Option ((List Int))) (y3 : Int) (x19 : List Int) : Option ((List Int)) := rec (x19, (IntKind.i64.wrap (y3 + 1)))
def impl_unite_J3 (rec : ((List Int) × Int) → Option ((List Int))) (y2 : List Int) (y3 : Int) (e8 : Int) (z11 : Int) (x18 : Bool) : Option ((List Int)) := cond x18 (chk ((0 : Int) ≤ 0 ∧ 0 ≤ z11 ∧ z11 ≤ (List.length y2 : Int)) (obind (impl_copyInts (subl y2 0 z11)) fun v22 => chk (List.length v22 + List.length [e8] ≤ lim) (chk ((0 : Int) ≤ z11 ∧ z11 ≤ (List.length y2 : Int) ∧ (List.length y2 : Int) ≤ (List.length y2 : Int)) (chk (List.length (v22 ++ [e8]) + List.length (subl y2 z11 (List.length y2 : Int)) ≤ lim) (impl_unite_J4 rec y3 ((v22 ++ [e8]) ++ (subl y2 z11 (List.length y2 : Int)))))))) (impl_unite_J4 rec y3 y2)
def impl_unite_B1 (a1 : List Int) (rec : ((List Int) × Int) → Option ((List Int))) (s : (List Int) × Int) : Option ((List Int)) := match s with
  | (y2, y3) => cond (decide (y3 < (List.length a1 : Int))) (obind (geti a1 y3) fun e8 => obind (loopF (impl_unite_B2 y2 e8) fz 0) fun z11 => cond (z11 == (List.length y2 : Int)) (impl_unite_J3 rec y2 y3 e8 z11 true) (obind (geti y2 z11) fun e28 => impl_unite_J3 rec y2 y3 e8 z11 (e28 != e8))) (some y2)
def impl_unite (a0 : List Int) (a1 : List Int) : Option ((List Int)) := obind (impl_copyInts a0) fun v1 => obind (loopF (impl_unite_B1 a1) fz (v1, 0)) fun z4 => some z4
theorem impl_unite_s {a0 : List Int} {a1 : List Int} {r : (List Int)} (h : impl_unite a0 a1 = some r) : SoundAt Try.prog 79 [dL ci64 a0, dL ci64 a1] (oL 3 ci64 r) := by
 unfold impl_unite at h
 refine st lit79 rfl (rn 1 rfl (rs (sp 1 rfl (?_))))
 obtain ⟨v1, g2, h⟩ := ob_some h
 refine qC (qa rfl (erD eci64 _) eran) (impl_copyInts_s g2) (sp 1 rfl (evn (ls_seq_k fun K3 hK3 => rn 1 rfl ?_)))
 obtain ⟨o1, hl, hr1⟩ := ob_some h
 have kXB1 : ∀ {z4 : List Int}, z4 = o1 → Jn K3 [(5, oL 3 ci64 z4)] := by
  intro z4 h σ' hk
  subst h
  replace h := hr1
  try dsimp only at h
  exact hK3 _ (lh hk rfl (rn 1 rfl (ls_ret ((by cases h; exact ⟨.inl rfl, rfl⟩)))))
 refine ls_rec (fun (s : (List Int) × Int) => match s with | (y2, y3) => [(5, oL 3 ci64 y2), (11, dL ci64 a1), (12, nI (List.length a1 : Int)), (13, nI y3)]) _ _ _ _ hl (okr rfl) (fun _ => rfl) ?_
 rintro m ⟨y2, y3⟩ N h hN
 unfold impl_unite_B1 at h
 dsimp only at h
 refine rn 1 rfl (ls_seq_k fun K5 hK5 => ?_)
 rcases cond_some h with ⟨g6, h⟩ | ⟨g6, h⟩
 ·refine qT rfl g6 (ls_skip (hK5 _ (ls_seq_k fun K7 hK7 => ls_blk (rs ?_))))
  obtain ⟨e8, g9, h⟩ := ob_some h
  refine qI rfl zci64 g9 (sp 2 rfl (evn (rn 1 rfl (ls_seq_k fun K10 hK10 => ?_))))
  obtain ⟨o2, hl, hr2⟩ := ob_some h
  have kXB2 : ∀ {z11 : Int}, z11 = o2 → Jn K10 [(5, oL 3 ci64 y2), (7, nI e8), (8, nI z11), (11, dL ci64 a1), (12, nI (List.length a1 : Int)), (13, nI y3)] := by
   intro z11 h σ' hk
   subst h
   replace h := hr2
   try dsimp only at h
   refine hK10 _ (lh hk rfl (rk fun K17 hK17 => ?_))
   have kJ3 : ∀ {x18 : Bool}, impl_unite_J3 (loopF (impl_unite_B1 a1) m) y2 y3 e8 z11 x18 = some o1 → Jn K17 [(5, oL 3 ci64 y2), (7, nI e8), (8, nI z11), (11, dL ci64 a1), (12, nI (List.length a1 : Int)), (13, nI y3), (42, .bool x18)] := by
    intro x18 h σ' hk
    unfold impl_unite_J3 at h
    refine hK17 _ (lh hk rfl ?_)
    have kJ4 : ∀ {x19 : List Int}, impl_unite_J4 (loopF (impl_unite_B1 a1) m) y3 x19 = some o1 → Jn K7 [(5, oL 3 ci64 x19), (11, dL ci64 a1), (12, nI (List.length a1 : Int)), (13, nI y3)] := by
     intro x19 h σ' hk
     unfold impl_unite_J4 at h
     exact hK7 _ (lh hk rfl (rg (sp 2 rfl (evn (hN _ _ h (okr rfl))))))
    rcases cond_some h with ⟨g20, h⟩ | ⟨g20, h⟩
    ·refine qT rfl g20 (rgd (by kernel_rfl) (sd 2 rfl (?_)))
     obtain ⟨g21, h⟩ := chk_some h
     refine ed rfl (qSl rfl zci64 g21 (?_))
     obtain ⟨v22, g23, h⟩ := ob_some h
     refine ed rfl (qC (qa rfl (erD eci64 _) eran) (impl_copyInts_s g23) (sd 1 rfl (ed rfl (qBs ci64 [e8] rfl rfl rfl zci64 (?_)))))
     obtain ⟨g24, h⟩ := chk_some h
     refine ed rfl (qA ci64 v22 [e8] rfl rfl (flat_len zci64 [e8]) rfl g24 (sd 2 rfl (?_)))
     obtain ⟨g25, h⟩ := chk_some h
     refine ed rfl (qSl rfl zci64 g25 (?_))
     obtain ⟨g26, h⟩ := chk_some h
     exact ed rfl (qA ci64 (v22 ++ [e8]) (subl y2 z11 (List.length y2 : Int)) rfl rfl (flat_len zci64 (subl y2 z11 (List.length y2 : Int))) (map_dg (fun _ => rfl) _) g26 (sd 1 rfl (evdn (kJ4 h _ (okr rfl)))))
    ·exact qF rfl g20 (ls_skip (kJ4 h _ (okr rfl)))
   refine sp 5 rfl (?_)
   rcases cond_some h with ⟨g27, h⟩ | ⟨g27, h⟩
   ·exact qg 35 g27 rfl (sp 7 rfl (evn (kJ3 h _ (okr rfl))))
   ·refine qg 35 g27 rfl (sp 2 rfl (?_))
    obtain ⟨e28, g29, h⟩ := ob_some h
    exact oGR rfl rfl (qI rfl zci64 g29 (sp 4 rfl (evn (kJ3 h _ (okr rfl)))))
  refine ls_rec (fun (y5 : Int) => [(5, oL 3 ci64 y2), (7, nI e8), (8, nI y5), (11, dL ci64 a1), (12, nI (List.length a1 : Int)), (13, nI y3)]) _ _ _ _ hl (okr rfl) (fun _ => rfl) ?_
  rintro m y5 N h hN
  unfold impl_unite_B2 at h
  refine ls_seq_k fun K12 hK12 => rs (sp 5 rfl (?_))
  rcases cond_some h with ⟨g13, h⟩ | ⟨g13, h⟩
  ·refine qg 21 g13 rfl (sp 2 rfl (?_))
   obtain ⟨e14, g15, h⟩ := ob_some h
   refine oGR rfl rfl (qI rfl zci64 g15 (sp 4 rfl (evn ?_)))
   rcases cond_some h with ⟨g16, h⟩ | ⟨g16, h⟩
   ·exact qT rfl g16 (ls_skip (hK12 _ (ls_blk (rg (sp 3 rfl (evn (hN _ _ h (okr rfl))))))))
   ·exact qF rfl g16 (ls_exit (kXB2 (Option.some.inj h) _ (okr rfl)))
  ·exact qg 21 g13 rfl (sp 7 rfl (evn (qF rfl rfl (ls_exit (kXB2 (Option.some.inj h) _ (okr rfl))))))
 ·exact qF rfl g6 (ls_exit (kXB1 (Option.some.inj h) _ (okr rfl)))
end Go.Proofs.Ytcoalfphehhadaa
