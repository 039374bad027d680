/-
  Functions of the program as typed functions, printed by gen.py, and that the program's functions do what they say. No conditions.
-/
import Derived.Test.YtmioifafgbjjhaaKb
import Derived.Test.YtmioifafgbjjhaaLit2W1
namespace Go.Proofs.Ytmioifafgbjjhaa
open Go.RowKit
set_option linter.unusedVariables false
set_option maxRecDepth 100000
set_option maxHeartbeats 1000000
def laws_big (a0 : List Int) : Option (Bool) := some (decide (1048576 < (List.length a0 : Int)))
theorem laws_big_s {a0 : List Int} {r : Bool} (h : laws_big a0 = some r) : SoundAt Try.prog 11 [dL cu8 a0] (.bool r) := by
 unfold laws_big at h
 exact st lit11 rfl (rn 2 rfl (ls_ret ((by cases h; exact ⟨.inl rfl, rfl⟩))))
def spec_CompareRows_B1 (a0 : List Int) (a1 : List Int) (rec : Int → Option (Sum (Unit) (Int))) (y1 : Int) : Option (Sum (Unit) (Int)) := cond (decide (y1 < (List.length a0 : Int))) (cond (decide (y1 < (List.length a1 : Int))) (obind (geti a0 y1) fun e7 => obind (geti a1 y1) fun e9 => cond (decide (e7 < e9)) (some (.inr (-1))) (obind (geti a0 y1) fun e12 => obind (geti a1 y1) fun e14 => cond (decide (e14 < e12)) (some (.inr 1)) (rec (IntKind.i64.wrap (y1 + 1))))) (some (.inl ()))) (some (.inl ()))
def spec_CompareRows (a0 : List Int) (a1 : List Int) : Option (Int) := obind (loopF (spec_CompareRows_B1 a0 a1) fz 0) fun o1 => (match o1 with
  | .inl _ => (cond (decide ((List.length a0 : Int) < (List.length a1 : Int))) (some (-1)) (cond (decide ((List.length a1 : Int) < (List.length a0 : Int))) (some 1) (some 0)))
  | .inr r => some r)
theorem spec_CompareRows_s {a0 : List Int} {a1 : List Int} {r : Int} (h : spec_CompareRows a0 a1 = some r) : SoundAt Try.prog 91 [dL ci64 a0, dL ci64 a1] (nI r) := by
 unfold spec_CompareRows at h
 refine st lit91 rfl (rn 1 rfl (ls_seq_k fun K1 hK1 => rn 1 rfl ?_))
 obtain ⟨o1, hl, hr1⟩ := ob_some h
 have kXB1 : (.inl ()) = o1 → Jn K1 [(0, dL ci64 a0), (1, dL ci64 a1)] := by
  intro h σ' hk
  subst h
  replace h := hr1
  try dsimp only at h
  refine hK1 _ (lh hk rfl (ls_seq_k fun K17 hK17 => rn 1 rfl ?_))
  rcases cond_some h with ⟨g18, h⟩ | ⟨g18, h⟩
  ·exact qT rfl g18 (rn 1 rfl (ls_ret ((by cases h; exact ⟨.inl rfl, rfl⟩))))
  ·refine qF rfl g18 (ls_skip (hK17 _ (ls_seq_k fun K19 hK19 => rn 1 rfl ?_)))
   rcases cond_some h with ⟨g20, h⟩ | ⟨g20, h⟩
   ·exact qT rfl g20 (rn 1 rfl (ls_ret ((by cases h; exact ⟨.inl rfl, rfl⟩))))
   ·exact qF rfl g20 (ls_skip (hK19 _ (rn 1 rfl (ls_ret ((by cases h; exact ⟨.inl rfl, rfl⟩))))))
 refine ls_rec (fun (y1 : Int) => [(0, dL ci64 a0), (1, dL ci64 a1), (5, nI y1)]) _ _ _ _ hl (okr rfl) (fun _ => rfl) ?_
 rintro m y1 N h hN
 unfold spec_CompareRows_B1 at h
 refine ls_seq_k fun K2 hK2 => rs (sp 5 rfl (?_))
 rcases cond_some h with ⟨g3, h⟩ | ⟨g3, h⟩
 ·refine qg 10 g3 rfl (sp 5 rfl (evn ?_))
  rcases cond_some h with ⟨g4, h⟩ | ⟨g4, h⟩
  ·refine qT rfl g4 (ls_skip (hK2 _ (ls_seq_k fun K5 hK5 => ls_blk (ls_seq_k fun K6 hK6 => rd (by kernel_rfl) (sd 2 rfl (?_))))))
   obtain ⟨e7, g8, h⟩ := ob_some h
   refine ed rfl (qI rfl zci64 g8 (sd 3 rfl (?_)))
   obtain ⟨e9, g10, h⟩ := ob_some h
   refine ed rfl (qI rfl zci64 g10 (sd 2 rfl (evdn ?_)))
   rcases cond_some h with ⟨g11, h⟩ | ⟨g11, h⟩
   ·exact qT rfl g11 (rn 1 rfl (ls_ret ((by cases h; cases hr1; exact ⟨.inl rfl, rfl⟩))))
   ·refine qF rfl g11 (ls_skip (hK6 _ (rd (by kernel_rfl) (sd 2 rfl (?_)))))
    obtain ⟨e12, g13, h⟩ := ob_some h
    refine ed rfl (qI rfl zci64 g13 (sd 3 rfl (?_)))
    obtain ⟨e14, g15, h⟩ := ob_some h
    refine ed rfl (qI rfl zci64 g15 (sd 2 rfl (evdn (qk [0, 1, 5, 35] rfl ?_))))
    rcases cond_some h with ⟨g16, h⟩ | ⟨g16, h⟩
    ·exact qT rfl g16 (rn 1 rfl (ls_ret ((by cases h; cases hr1; exact ⟨.inl rfl, rfl⟩))))
    ·exact qF rfl g16 (ls_skip (hK5 _ (rg (sp 3 rfl (evn (hN _ _ h (okr rfl)))))))
  ·exact qF rfl g4 (ls_exit (kXB1 (Option.some.inj h) _ (okr rfl)))
 ·exact qg 10 g3 rfl (sp 5 rfl (evn (qF rfl rfl (ls_exit (kXB1 (Option.some.inj h) _ (okr rfl))))))
abbrev Y25 := Int × (List (List Int))
def c31_d (x : List Int) : List V := [dL ci64 x]
theorem zc31_d (x : List Int) : (c31_d x).length = 1 := rfl
theorem ec31_d (x : List Int) : erL (c31_d x) = c31_d x := (erc (erD eci64 _) rfl)
def c26_dd (x : Y25) : List V := [nI x.1, dL c31_d x.2]
theorem zc26_dd (x : Y25) : (c26_dd x).length = 2 := rfl
theorem ec26_dd (x : Y25) : erL (c26_dd x) = c26_dd x := (erc rfl (erc (erD ec31_d _) rfl))
def spec_EqualRelations_B1 (a0 : Y25) (a1 : Y25) (rec : Int → Option (Sum (Unit) (Bool))) (y1 : Int) : Option (Sum (Unit) (Bool)) := cond (decide (y1 < (List.length a0.2 : Int))) (obind (geti a0.2 y1) fun e8 => obind (geti a1.2 y1) fun e10 => obind (spec_CompareRows e8 e10) fun v12 => cond (v12 != 0) (some (.inr false)) (rec (IntKind.i64.wrap (y1 + 1)))) (some (.inl ()))
def spec_EqualRelations (a0 : Y25) (a1 : Y25) : Option (Bool) := cond (a0.1 != a1.1) (some false) (cond ((List.length a0.2 : Int) != (List.length a1.2 : Int)) (some false) (obind (loopF (spec_EqualRelations_B1 a0 a1) fz 0) fun o1 => (match o1 with
  | .inl _ => (some true)
  | .inr r => some r)))
theorem spec_EqualRelations_s {a0 : Y25} {a1 : Y25} {r : Bool} (h : spec_EqualRelations a0 a1 = some r) : SoundAt Try.prog 18 [.agg (c26_dd a0), .agg (c26_dd a1)] (.bool r) := by
 unfold spec_EqualRelations at h
 refine st lit18 rfl (rn 1 rfl (ls_seq_k fun K1 hK1 => rs (sp 6 rfl (?_))))
 rcases cond_some h with ⟨g2, h⟩ | ⟨g2, h⟩
 ·exact qg 11 g2 rfl (sp 8 rfl (evn (qT rfl rfl (rn 1 rfl (ls_ret ((by cases h; exact ⟨.inl rfl, rfl⟩)))))))
 ·refine qg 11 g2 rfl (sp 8 rfl (evn ?_))
  rcases cond_some h with ⟨g3, h⟩ | ⟨g3, h⟩
  ·exact qT rfl g3 (rn 1 rfl (qk [4] rfl (ls_ret ((by cases h; exact ⟨.inl rfl, rfl⟩)))))
  ·refine qF rfl g3 (ls_skip (hK1 _ (ls_seq_k fun K4 hK4 => rn 1 rfl ?_)))
   obtain ⟨o1, hl, hr1⟩ := ob_some h
   have kXB1 : (.inl ()) = o1 → Jn K4 [] := by
    intro h σ' hk
    subst h
    replace h := hr1
    try dsimp only at h
    exact hK4 _ (lh hk rfl (rn 1 rfl (ls_ret ((by cases h; exact ⟨.inl rfl, rfl⟩)))))
   refine ls_rec (fun (y1 : Int) => [(2, .box [nI a0.1, dL c31_d a0.2]), (3, .box [nI a1.1, dL c31_d a1.2]), (5, nI y1)]) _ _ _ _ hl (okr rfl) (fun _ => rfl) ?_
   rintro m y1 N h hN
   unfold spec_EqualRelations_B1 at h
   refine ls_seq_k fun K5 hK5 => rn 1 rfl ?_
   rcases cond_some h with ⟨g6, h⟩ | ⟨g6, h⟩
   ·refine qT rfl g6 (ls_skip (hK5 _ (ls_seq_k fun K7 hK7 => ls_blk (rd (by kernel_rfl) (sd 3 rfl (?_))))))
    obtain ⟨e8, g9, h⟩ := ob_some h
    refine ed rfl (qI rfl zc31_d g9 (sd 4 rfl (?_)))
    obtain ⟨e10, g11, h⟩ := ob_some h
    refine ed rfl (qI rfl zc31_d g11 (sd 1 rfl (?_)))
    obtain ⟨v12, g13, h⟩ := ob_some h
    refine ed rfl (qC (qa rfl (erD eci64 _) (qa rfl (erD eci64 _) eran)) (spec_CompareRows_s g13) (sd 1 rfl (evdn ?_)))
    rcases cond_some h with ⟨g14, h⟩ | ⟨g14, h⟩
    ·exact qT rfl g14 (rn 1 rfl (ls_ret ((by cases h; cases hr1; exact ⟨.inl rfl, rfl⟩))))
    ·exact qF rfl g14 (ls_skip (hK7 _ (rg (sp 3 rfl (evn (hN _ _ h (okr rfl)))))))
   ·exact qF rfl g6 (ls_exit (kXB1 (Option.some.inj h) _ trivial))
def laws_at (a0 : List Int) (a1 : Int) : Option (Int) := cond (decide (a1 < (List.length a0 : Int))) (obind (geti a0 a1) fun e3 => some (IntKind.i64.wrap e3)) (some (Int.tmod (IntKind.i64.wrap ((IntKind.i64.wrap (a1 * 37)) + (IntKind.i64.wrap ((List.length a0 : Int) * 11)))) 256))
theorem laws_at_s {a0 : List Int} {a1 : Int} {r : Int} (h : laws_at a0 a1 = some r) : SoundAt Try.prog 66 [dL cu8 a0, nI a1] (nI r) := by
 unfold laws_at at h
 refine st lit66 rfl (rn 1 rfl (ls_seq_k fun K1 hK1 => rn 1 rfl ?_))
 rcases cond_some h with ⟨g2, h⟩ | ⟨g2, h⟩
 ·refine qT rfl g2 (rs (sp 2 rfl (?_)))
  obtain ⟨e3, g4, h⟩ := ob_some h
  exact qI rfl zcu8 g4 (sp 3 rfl (evn (ls_ret ((by cases h; exact ⟨.inl rfl, rfl⟩)))))
 ·exact qF rfl g2 (ls_skip (hK1 _ (rn 1 rfl (ls_ret ((by cases h; exact ⟨.inl rfl, rfl⟩))))))
def impl_within_J1 (x2 : Bool) : Option (Bool) := some x2
def impl_within (a0 : Int) (a1 : Int) (a2 : Int) : Option (Bool) := cond (decide (a1 ≤ a0)) (impl_within_J1 (decide (a0 ≤ a2))) (impl_within_J1 false)
theorem impl_within_s {a0 : Int} {a1 : Int} {a2 : Int} {r : Bool} (h : impl_within a0 a1 a2 = some r) : SoundAt Try.prog 86 [nI a0, nI a1, nI a2] (.bool r) := by
 unfold impl_within at h
 refine st lit86 rfl (rn 1 rfl (rk fun K1 hK1 => ?_))
 have kJ1 : ∀ {x2 : Bool}, impl_within_J1 x2 = some r → Jn K1 [(6, .bool x2)] := by
  intro x2 h σ' hk
  unfold impl_within_J1 at h
  exact hK1 _ (lh hk rfl (ls_ret ((by cases h; exact ⟨.inl rfl, rfl⟩))))
 refine sp 4 rfl (?_)
 rcases cond_some h with ⟨g3, h⟩ | ⟨g3, h⟩
 ·exact qg 10 g3 rfl (sp 5 rfl (evn (kJ1 h _ (okr rfl))))
 ·exact qg 10 g3 rfl (sp 5 rfl (evn (kJ1 h _ (okr rfl))))
def impl_AreValidValues_B1 (a0 : List Int) (rec : Int → Option (Sum (Unit) (Bool))) (y1 : Int) : Option (Sum (Unit) (Bool)) := cond (decide (y1 < (List.length a0 : Int))) (obind (geti a0 y1) fun e5 => obind (impl_within e5 0 99) fun v7 => cond (!v7) (some (.inr false)) (rec (IntKind.i64.wrap (y1 + 1)))) (some (.inl ()))
def impl_AreValidValues (a0 : List Int) : Option (Bool) := obind (loopF (impl_AreValidValues_B1 a0) fz 0) fun o1 => (match o1 with
  | .inl _ => (some true)
  | .inr r => some r)
theorem impl_AreValidValues_s {a0 : List Int} {r : Bool} (h : impl_AreValidValues a0 = some r) : SoundAt Try.prog 173 [dL ci64 a0] (.bool r) := by
 unfold impl_AreValidValues at h
 refine st lit173 rfl (rn 1 rfl (ls_seq_k fun K1 hK1 => rn 1 rfl ?_))
 obtain ⟨o1, hl, hr1⟩ := ob_some h
 have kXB1 : (.inl ()) = o1 → Jn K1 [] := by
  intro h σ' hk
  subst h
  replace h := hr1
  try dsimp only at h
  exact hK1 _ (lh hk rfl (rn 1 rfl (ls_ret ((by cases h; exact ⟨.inl rfl, rfl⟩)))))
 refine ls_rec (fun (y1 : Int) => [(5, dL ci64 a0), (6, nI (List.length a0 : Int)), (7, nI y1)]) _ _ _ _ hl (okr rfl) (fun _ => rfl) ?_
 rintro m y1 N h hN
 unfold impl_AreValidValues_B1 at h
 refine rn 1 rfl (ls_seq_k fun K2 hK2 => ?_)
 rcases cond_some h with ⟨g3, h⟩ | ⟨g3, h⟩
 ·refine qT rfl g3 (ls_skip (hK2 _ (ls_seq_k fun K4 hK4 => ls_blk (rs ?_))))
  obtain ⟨e5, g6, h⟩ := ob_some h
  refine qI rfl zci64 g6 (sp 2 rfl (evn (rs (sp 1 rfl (?_)))))
  obtain ⟨v7, g8, h⟩ := ob_some h
  refine qC (qs rfl (qs rfl (qs rfl eran))) (impl_within_s g8) (sp 1 rfl (evn ?_))
  rcases cond_some h with ⟨g9, h⟩ | ⟨g9, h⟩
  ·exact qT rfl g9 (rn 1 rfl (ls_ret ((by cases h; cases hr1; exact ⟨.inl rfl, rfl⟩))))
  ·exact qF rfl g9 (ls_skip (hK4 _ (rg (sp 2 rfl (evn (hN _ _ h (okr rfl)))))))
 ·exact qF rfl g3 (ls_exit (kXB1 (Option.some.inj h) _ trivial))
def impl_compareInts (a0 : Int) (a1 : Int) : Option (Int) := cond (decide (a0 < a1)) (some (-1)) (cond (decide (a1 < a0)) (some 1) (some 0))
theorem impl_compareInts_s {a0 : Int} {a1 : Int} {r : Int} (h : impl_compareInts a0 a1 = some r) : SoundAt Try.prog 238 [nI a0, nI a1] (nI r) := by
 unfold impl_compareInts at h
 refine st lit238 rfl (rn 1 rfl (ls_seq_k fun K1 hK1 => ls_blk (rn 1 rfl ?_)))
 rcases cond_some h with ⟨g2, h⟩ | ⟨g2, h⟩
 ·exact qT rfl g2 (rn 1 rfl (ls_ret ((by cases h; exact ⟨.inl rfl, rfl⟩))))
 ·refine qF rfl g2 (rn 1 rfl ?_)
  rcases cond_some h with ⟨g3, h⟩ | ⟨g3, h⟩
  ·exact qT rfl g3 (rn 1 rfl (ls_ret ((by cases h; exact ⟨.inl rfl, rfl⟩))))
  ·exact qF rfl g3 (ls_skip (hK1 _ (rn 1 rfl (qk [4] rfl (ls_ret ((by cases h; exact ⟨.inl rfl, rfl⟩)))))))
def impl_CompareRows_B1 (a0 : List Int) (a1 : List Int) (rec : Int → Option (Sum (Unit) (Int))) (y1 : Int) : Option (Sum (Unit) (Int)) := cond (decide (y1 < (List.length a0 : Int))) (cond (decide (y1 < (List.length a1 : Int))) (obind (geti a0 y1) fun e6 => obind (geti a1 y1) fun e8 => cond (e6 != e8) (obind (geti a0 y1) fun e11 => obind (geti a1 y1) fun e13 => obind (impl_compareInts e11 e13) fun v15 => some (.inr v15)) (rec (IntKind.i64.wrap (y1 + 1)))) (some (.inl ()))) (some (.inl ()))
def impl_CompareRows (a0 : List Int) (a1 : List Int) : Option (Int) := obind (loopF (impl_CompareRows_B1 a0 a1) fz 0) fun o1 => (match o1 with
  | .inl _ => (obind (impl_compareInts (List.length a0 : Int) (List.length a1 : Int)) fun v17 => some v17)
  | .inr r => some r)
theorem impl_CompareRows_s {a0 : List Int} {a1 : List Int} {r : Int} (h : impl_CompareRows a0 a1 = some r) : SoundAt Try.prog 223 [dL ci64 a0, dL ci64 a1] (nI r) := by
 unfold impl_CompareRows at h
 refine st lit223 rfl (rn 1 rfl (ls_seq_k fun K1 hK1 => rn 1 rfl ?_))
 obtain ⟨o1, hl, hr1⟩ := ob_some h
 have kXB1 : (.inl ()) = o1 → Jn K1 [(0, dL ci64 a0), (1, dL ci64 a1)] := by
  intro h σ' hk
  subst h
  replace h := hr1
  try dsimp only at h
  refine hK1 _ (lh hk rfl (rs (sp 4 rfl (?_))))
  obtain ⟨v17, g18, h⟩ := ob_some h
  exact qC (qs rfl (qs rfl eran)) (impl_compareInts_s g18) (sp 1 rfl (evn (ls_ret ((by cases h; exact ⟨.inl rfl, rfl⟩)))))
 refine ls_rec (fun (y1 : Int) => [(0, dL ci64 a0), (1, dL ci64 a1), (5, nI y1)]) _ _ _ _ hl (okr rfl) (fun _ => rfl) ?_
 rintro m y1 N h hN
 unfold impl_CompareRows_B1 at h
 refine ls_seq_k fun K2 hK2 => rs (sp 5 rfl (?_))
 rcases cond_some h with ⟨g3, h⟩ | ⟨g3, h⟩
 ·refine qg 10 g3 rfl (sp 5 rfl (evn ?_))
  rcases cond_some h with ⟨g4, h⟩ | ⟨g4, h⟩
  ·refine qT rfl g4 (ls_skip (hK2 _ (ls_seq_k fun K5 hK5 => ls_blk (rd (by kernel_rfl) (sd 2 rfl (?_))))))
   obtain ⟨e6, g7, h⟩ := ob_some h
   refine ed rfl (qI rfl zci64 g7 (sd 3 rfl (?_)))
   obtain ⟨e8, g9, h⟩ := ob_some h
   refine ed rfl (qI rfl zci64 g9 (sd 2 rfl (evdn ?_)))
   rcases cond_some h with ⟨g10, h⟩ | ⟨g10, h⟩
   ·refine qT rfl g10 (rd (by kernel_rfl) (sd 2 rfl (?_)))
    obtain ⟨e11, g12, h⟩ := ob_some h
    refine ed rfl (qI rfl zci64 g12 (sd 3 rfl (?_)))
    obtain ⟨e13, g14, h⟩ := ob_some h
    refine ed rfl (qI rfl zci64 g14 (sd 1 rfl (?_)))
    obtain ⟨v15, g16, h⟩ := ob_some h
    exact ed rfl (qC (qs rfl (qs rfl eran)) (impl_compareInts_s g16) (sd 1 rfl (evdn (qk [4] rfl (ls_ret ((by cases h; cases hr1; exact ⟨.inl rfl, rfl⟩)))))))
   ·exact qF rfl g10 (ls_skip (hK5 _ (rg (sp 3 rfl (evn (hN _ _ h (okr rfl)))))))
  ·exact qF rfl g4 (ls_exit (kXB1 (Option.some.inj h) _ (okr rfl)))
 ·exact qg 10 g3 rfl (sp 5 rfl (evn (qF rfl rfl (ls_exit (kXB1 (Option.some.inj h) _ (okr rfl))))))
def impl_rowsValid_J2 (rec : Int → Option (Sum (Unit) (Bool))) (y1 : Int) (x13 : Bool) : Option (Sum (Unit) (Bool)) := cond x13 (some (.inr false)) (rec (IntKind.i64.wrap (y1 + 1)))
def impl_rowsValid_B1 (a0 : Int) (a1 : List (List Int)) (rec : Int → Option (Sum (Unit) (Bool))) (y1 : Int) : Option (Sum (Unit) (Bool)) := cond (decide (y1 < (List.length a1 : Int))) (obind (geti a1 y1) fun e10 => cond ((List.length e10 : Int) != a0) (impl_rowsValid_J2 rec y1 true) (obind (impl_AreValidValues e10) fun v16 => cond (!v16) (impl_rowsValid_J2 rec y1 true) (cond (decide (0 < y1)) (obind (geti a1 (IntKind.i64.wrap (y1 - 1))) fun e20 => obind (impl_CompareRows e20 e10) fun v22 => impl_rowsValid_J2 rec y1 (decide (0 ≤ v22))) (impl_rowsValid_J2 rec y1 false)))) (some (.inl ()))
def impl_rowsValid (a0 : Int) (a1 : List (List Int)) : Option (Bool) := obind (impl_within a0 0 5) fun v2 => cond (!v2) (some false) (cond (decide (4000 < (List.length a1 : Int))) (some false) (obind (loopF (impl_rowsValid_B1 a0 a1) fz 0) fun o1 => (match o1 with
  | .inl _ => (some true)
  | .inr r => some r)))
theorem impl_rowsValid_s {a0 : Int} {a1 : List (List Int)} {r : Bool} (h : impl_rowsValid a0 a1 = some r) : SoundAt Try.prog 172 [nI a0, dL c31_d a1] (.bool r) := by
 unfold impl_rowsValid at h
 refine st lit172 rfl (rn 1 rfl (ls_seq_k fun K1 hK1 => rs (sp 1 rfl (?_))))
 obtain ⟨v2, g3, h⟩ := ob_some h
 refine qC (qs rfl (qs rfl (qs rfl eran))) (impl_within_s g3) (sp 2 rfl (?_))
 rcases cond_some h with ⟨g4, h⟩ | ⟨g4, h⟩
 ·exact qg 10 g4 rfl (sp 4 rfl (evn (qT rfl rfl (rn 1 rfl (ls_ret ((by cases h; exact ⟨.inl rfl, rfl⟩)))))))
 ·refine qg 10 g4 rfl (sp 4 rfl (evn ?_))
  rcases cond_some h with ⟨g5, h⟩ | ⟨g5, h⟩
  ·exact qT rfl g5 (rn 1 rfl (ls_ret ((by cases h; exact ⟨.inl rfl, rfl⟩))))
  ·refine qF rfl g5 (ls_skip (hK1 _ (ls_seq_k fun K6 hK6 => rn 1 rfl (qk [0, 1, 15, 16, 17] rfl ?_))))
   obtain ⟨o1, hl, hr1⟩ := ob_some h
   have kXB1 : (.inl ()) = o1 → Jn K6 [] := by
    intro h σ' hk
    subst h
    replace h := hr1
    try dsimp only at h
    exact hK6 _ (lh hk rfl (rn 1 rfl (ls_ret ((by cases h; exact ⟨.inl rfl, rfl⟩)))))
   refine ls_rec (fun (y1 : Int) => [(0, nI a0), (1, dL c31_d a1), (15, dL c31_d a1), (16, nI (List.length a1 : Int)), (17, nI y1)]) _ _ _ _ hl (okr rfl) (fun _ => rfl) ?_
   rintro m y1 N h hN
   unfold impl_rowsValid_B1 at h
   refine rn 1 rfl (ls_seq_k fun K7 hK7 => ?_)
   rcases cond_some h with ⟨g8, h⟩ | ⟨g8, h⟩
   ·refine qT rfl g8 (ls_skip (hK7 _ (ls_seq_k fun K9 hK9 => ls_blk (rs (sp 1 rfl (?_))))))
    obtain ⟨e10, g11, h⟩ := ob_some h
    refine qI rfl zc31_d g11 (sp 3 rfl (evn (rk fun K12 hK12 => ?_)))
    have kJ2 : ∀ {x13 : Bool}, impl_rowsValid_J2 (loopF (impl_rowsValid_B1 a0 a1) m) y1 x13 = some o1 → Jn K12 [(0, nI a0), (1, dL c31_d a1), (15, dL c31_d a1), (16, nI (List.length a1 : Int)), (17, nI y1), (44, .bool x13)] := by
     intro x13 h σ' hk
     unfold impl_rowsValid_J2 at h
     refine hK12 _ (lh hk rfl ?_)
     rcases cond_some h with ⟨g14, h⟩ | ⟨g14, h⟩
     ·exact qT rfl g14 (rn 1 rfl (ls_ret ((by cases h; cases hr1; exact ⟨.inl rfl, rfl⟩))))
     ·exact qF rfl g14 (ls_skip (hK9 _ (rg (sp 2 rfl (evn (hN _ _ h (okr rfl)))))))
    refine sp 5 rfl (?_)
    rcases cond_some h with ⟨g15, h⟩ | ⟨g15, h⟩
    ·exact qg 26 g15 rfl (sp 18 rfl (evn (kJ2 h _ (okr rfl))))
    ·refine qg 26 g15 rfl (sp 1 rfl (?_))
     obtain ⟨v16, g17, h⟩ := ob_some h
     refine oGR rfl rfl (qC (qa rfl (erD eci64 _) eran) (impl_AreValidValues_s g17) (sp 3 rfl (?_)))
     rcases cond_some h with ⟨g18, h⟩ | ⟨g18, h⟩
     ·exact qg 31 g18 rfl (sp 13 rfl (evn (kJ2 h _ (okr rfl))))
     ·refine qg 31 g18 rfl (sp 3 rfl (?_))
      rcases cond_some h with ⟨g19, h⟩ | ⟨g19, h⟩
      ·refine qg 34 g19 rfl (sp 3 rfl (?_))
       obtain ⟨e20, g21, h⟩ := ob_some h
       refine oGR rfl rfl (qI rfl zc31_d g21 (sp 2 rfl (?_)))
       obtain ⟨v22, g23, h⟩ := ob_some h
       exact oGR rfl rfl (qC (qa rfl (erD eci64 _) (qa rfl (erD eci64 _) eran)) (impl_CompareRows_s g23) (sp 3 rfl (evn (kJ2 h _ (okr rfl)))))
      ·exact qg 34 g19 rfl (sp 10 rfl (evn (kJ2 h _ (okr rfl))))
   ·exact qF rfl g8 (ls_exit (kXB1 (Option.some.inj h) _ trivial))
def impl_IsValidRelation (a0 : Y25) : Option (Bool) := obind (impl_rowsValid a0.1 a0.2) fun v1 => some v1
theorem impl_IsValidRelation_s {a0 : Y25} {r : Bool} (h : impl_IsValidRelation a0 = some r) : SoundAt Try.prog 85 [.agg (c26_dd a0)] (.bool r) := by
 unfold impl_IsValidRelation at h
 refine st lit85 rfl (rn 1 rfl (rs (sp 4 rfl (?_))))
 obtain ⟨v1, g2, h⟩ := ob_some h
 exact qC (qs rfl (qa rfl (erD ec31_d _) eran)) (impl_rowsValid_s g2) (sp 1 rfl (evn (ls_ret ((by cases h; exact ⟨.inl rfl, rfl⟩)))))
def impl_copyInts (a0 : List Int) : Option ((List Int)) := chk (List.length ([] : List Int) + List.length a0 ≤ lim) (some (([] : List Int) ++ a0))
theorem impl_copyInts_s {a0 : List Int} {r : (List Int)} (h : impl_copyInts a0 = some r) : SoundAt Try.prog 88 [dL ci64 a0] (oL 3 ci64 r) := by
 unfold impl_copyInts at h
 refine st lit88 rfl (rn 1 rfl (rs (qBs ci64 [] rfl rfl rfl zci64 (sp 1 rfl (?_)))))
 obtain ⟨g1, h⟩ := chk_some h
 exact qA ci64 ([] : List Int) a0 rfl rfl (flat_len zci64 a0) (map_dg (fun _ => rfl) _) g1 (sp 1 rfl (evn (ls_ret ((by cases h; exact ⟨.inl rfl, rfl⟩)))))
def c31_o (x : List Int) : List V := [oL 3 ci64 x]
theorem zc31_o (x : List Int) : (c31_o x).length = 1 := rfl
theorem ec31_o (x : List Int) : erL (c31_o x) = c31_d x := (erc (erO eci64 _) rfl)
def impl_copyRows_B1 (a0 : List (List Int)) (rec : ((List (List Int)) × Int) → Option ((List (List Int)))) (s : (List (List Int)) × Int) : Option ((List (List Int))) := match s with
  | (y1, y2) => cond (decide (y2 < (List.length a0 : Int))) (obind (geti a0 y2) fun e6 => obind (impl_copyInts e6) fun v8 => chk (List.length y1 + List.length [v8] ≤ lim) (rec ((y1 ++ [v8]), (IntKind.i64.wrap (y2 + 1))))) (some y1)
def impl_copyRows (a0 : List (List Int)) : Option ((List (List Int))) := obind (loopF (impl_copyRows_B1 a0) fz (([] : List (List Int)), 0)) fun z2 => some z2
theorem impl_copyRows_s {a0 : List (List Int)} {r : (List (List Int))} (h : impl_copyRows a0 = some r) : SoundAt Try.prog 93 [dL c31_d a0] (oL 31 c31_o r) := by
 unfold impl_copyRows at h
 refine st lit93 rfl (rn 2 rfl (ls_seq_k fun K1 hK1 => rn 1 rfl ?_))
 obtain ⟨o1, hl, hr1⟩ := ob_some h
 have kXB1 : ∀ {z2 : List (List Int)}, z2 = o1 → Jn K1 [(3, oL 31 c31_o z2)] := by
  intro z2 h σ' hk
  subst h
  replace h := hr1
  try dsimp only at h
  exact hK1 _ (lh hk rfl (rn 1 rfl (ls_ret ((by cases h; exact ⟨.inl rfl, rfl⟩)))))
 refine ls_rec (fun (s : (List (List Int)) × Int) => match s with | (y1, y2) => [(3, oL 31 c31_o y1), (6, dL c31_d a0), (7, nI (List.length a0 : Int)), (8, nI y2)]) _ _ _ _ hl (okr rfl) (fun _ => rfl) ?_
 rintro m ⟨y1, y2⟩ N h hN
 unfold impl_copyRows_B1 at h
 dsimp only at h
 refine rn 1 rfl (ls_seq_k fun K3 hK3 => ?_)
 rcases cond_some h with ⟨g4, h⟩ | ⟨g4, h⟩
 ·refine qT rfl g4 (ls_skip (hK3 _ (ls_seq_k fun K5 hK5 => ls_blk (rs ?_))))
  obtain ⟨e6, g7, h⟩ := ob_some h
  refine qI rfl zc31_d g7 (sp 2 rfl (evn (rg (sp 2 rfl (?_)))))
  obtain ⟨v8, g9, h⟩ := ob_some h
  refine qC (qa rfl (erD eci64 _) eran) (impl_copyInts_s g9) (qBs c31_o [v8] rfl rfl rfl zc31_o (?_))
  obtain ⟨g10, h⟩ := chk_some h
  exact qA c31_o y1 [v8] rfl rfl (flat_len zc31_o [v8]) rfl g10 (sp 1 rfl (evn (hK5 _ (rg (sp 2 rfl (evn (hN _ _ h (okr rfl))))))))
 ·exact qF rfl g4 (ls_exit (kXB1 (Option.some.inj h) _ (okr rfl)))
def impl_sorted_J5 (rec : ((List (Nat × (List Int))) × (List (Nat × (List Int))) × (List (Nat × (List Int)))) → Option ((List (Nat × (List Int))))) (y2 : List (Nat × (List Int))) (x20 : List (Nat × (List Int))) (x24 : List (Nat × (List Int))) : Option ((List (Nat × (List Int)))) := chk ((0 : Int) ≤ 1 ∧ 1 ≤ (List.length y2 : Int) ∧ (List.length y2 : Int) ≤ (List.length y2 : Int)) (rec (x20, (subl y2 1 (List.length y2 : Int)), x24))
def impl_sorted_J4 (rec : ((List (Nat × (List Int))) × (List (Nat × (List Int))) × (List (Nat × (List Int)))) → Option ((List (Nat × (List Int))))) (y2 : List (Nat × (List Int))) (x18 : Int) (x20 : List (Nat × (List Int))) (x21 : List (Nat × (List Int))) : Option ((List (Nat × (List Int)))) := cond (decide (0 ≤ x18)) (cond (decide (0 < x18)) (obind (geti y2 0) fun e27 => chk (List.length x21 + List.length [e27] ≤ lim) (impl_sorted_J5 rec y2 x20 (x21 ++ [e27]))) (impl_sorted_J5 rec y2 x20 x21)) (rec (x20, y2, x21))
def impl_sorted_J3 (rec : ((List (Nat × (List Int))) × (List (Nat × (List Int))) × (List (Nat × (List Int)))) → Option ((List (Nat × (List Int))))) (y1 : List (Nat × (List Int))) (y2 : List (Nat × (List Int))) (y3 : List (Nat × (List Int))) (x18 : Int) : Option ((List (Nat × (List Int)))) := cond (decide (x18 ≤ 0)) (obind (geti y1 0) fun e31 => chk (List.length y3 + List.length [e31] ≤ lim) (chk ((0 : Int) ≤ 1 ∧ 1 ≤ (List.length y1 : Int) ∧ (List.length y1 : Int) ≤ (List.length y1 : Int)) (impl_sorted_J4 rec y2 x18 (subl y1 1 (List.length y1 : Int)) (y3 ++ [e31])))) (impl_sorted_J4 rec y2 x18 y1 y3)
def impl_sorted_J2 (rec : ((List (Nat × (List Int))) × (List (Nat × (List Int))) × (List (Nat × (List Int)))) → Option ((List (Nat × (List Int))))) (y1 : List (Nat × (List Int))) (y2 : List (Nat × (List Int))) (y3 : List (Nat × (List Int))) (x15 : Bool) : Option ((List (Nat × (List Int)))) := cond x15 (cond ((List.length y1 : Int) == 0) (impl_sorted_J3 rec y1 y2 y3 1) (cond (decide (0 < (List.length y2 : Int))) (obind (geti y1 0) fun e37 => obind (geti y2 0) fun e39 => obind (impl_CompareRows e37.2 e39.2) fun v41 => impl_sorted_J3 rec y1 y2 y3 v41) (impl_sorted_J3 rec y1 y2 y3 (-1)))) (some y3)
def impl_sorted_B1  (rec : ((List (Nat × (List Int))) × (List (Nat × (List Int))) × (List (Nat × (List Int)))) → Option ((List (Nat × (List Int))))) (s : (List (Nat × (List Int))) × (List (Nat × (List Int))) × (List (Nat × (List Int)))) : Option ((List (Nat × (List Int)))) := match s with
  | (y1, y2, y3) => cond (decide (0 < (List.length y1 : Int))) (impl_sorted_J2 rec y1 y2 y3 true) (impl_sorted_J2 rec y1 y2 y3 (decide (0 < (List.length y2 : Int))))
def impl_sorted_R (rec : ((List (List Int))) → Option ((List (List Int)))) (a0 : (List (List Int))) : Option ((List (List Int))) := cond (decide ((List.length a0 : Int) < 2)) (obind (impl_copyRows a0) fun v3 => some v3) (chk ((0 : Int) ≤ 0 ∧ 0 ≤ IntKind.i64.wrap (Int.tdiv (List.length a0 : Int) 2) ∧ IntKind.i64.wrap (Int.tdiv (List.length a0 : Int) 2) ≤ (List.length a0 : Int)) (obind (rec (subl a0 0 (IntKind.i64.wrap (Int.tdiv (List.length a0 : Int) 2)))) fun v6 => chk ((0 : Int) ≤ IntKind.i64.wrap (Int.tdiv (List.length a0 : Int) 2) ∧ IntKind.i64.wrap (Int.tdiv (List.length a0 : Int) 2) ≤ (List.length a0 : Int) ∧ (List.length a0 : Int) ≤ (List.length a0 : Int)) (obind (rec (subl a0 (IntKind.i64.wrap (Int.tdiv (List.length a0 : Int) 2)) (List.length a0 : Int))) fun v9 => obind (loopF impl_sorted_B1 fz ((enumP 0 v6), (enumP (List.length v6) v9), ([] : List (Nat × (List Int))))) fun z12 => chk (okJ (v6 ++ v9) (List.map Sum.inl z12) [] = true) (some (List.map getM (List.map Sum.inl z12))))))
def impl_sorted (a0 : List (List Int)) : Option ((List (List Int))) := loopF impl_sorted_R fz a0
theorem impl_sorted_s {a0 : List (List Int)} {r : (List (List Int))} (h : impl_sorted a0 = some r) : SoundAt Try.prog 174 [dL c31_d a0] (oL 31 c31_o r) := by
 suffices key : ∀ m (a0 : List (List Int)) (r : (List (List Int))), loopF impl_sorted_R m a0 = some r → SoundAt Try.prog 174 [dL c31_d a0] (oL 31 c31_o r) from key fz a0 r h
 intro m
 induction m with
 | zero => intro a0 r h; cases h
 | succ m ih0 =>
  intro a0 r h
  have ih : ∀ {a0 : List (List Int)} {r : (List (List Int))}, loopF impl_sorted_R m a0 = some r → SoundAt Try.prog 174 [dL c31_d a0] (oL 31 c31_o r) := fun h => ih0 _ _ h
  change impl_sorted_R (loopF impl_sorted_R m) a0 = some r at h
  unfold impl_sorted_R at h
  try dsimp only at h
  refine st lit174 rfl (rn 1 rfl (ls_seq_k fun K1 hK1 => rn 1 rfl ?_))
  rcases cond_some h with ⟨g2, h⟩ | ⟨g2, h⟩
  ·refine qT rfl g2 (rs (sp 1 rfl (?_)))
   obtain ⟨v3, g4, h⟩ := ob_some h
   exact qC (qa rfl (erD ec31_d _) eran) (impl_copyRows_s g4) (sp 1 rfl (evn (ls_ret ((by cases h; exact ⟨.inl rfl, rfl⟩)))))
  ·refine qF rfl g2 (ls_skip (hK1 _ (rn 1 rfl (rd (by kernel_rfl) (sd 2 rfl (?_))))))
   obtain ⟨g5, h⟩ := chk_some h
   refine ed rfl (qSl rfl zc31_d g5 (?_))
   obtain ⟨v6, g7, h⟩ := ob_some h
   refine ed rfl (qC (qa rfl (erD ec31_d _) eran) (ih g7) (sd 2 rfl (?_)))
   obtain ⟨g8, h⟩ := chk_some h
   refine ed rfl (qSl rfl zc31_d g8 (?_))
   obtain ⟨v9, g10, h⟩ := ob_some h
   refine ed rfl (qC (qa rfl (erD ec31_d _) eran) (ih g10) (sd 2 rfl (evdn (qk [4, 5] rfl (ls_split2 (f := c31_o) (s1 := 4) (s2 := 5) (g1 := 900001) (g2 := 900002) rfl rfl rfl rfl ⟨by decide, by decide, by decide, by decide, by decide, by decide⟩ (split_own (fun _ => rfl)) (split_own (fun _ => rfl)) (fun _ => rfl) (fun _ => rfl) (fun _ => rfl) (fun _ => rfl) ?_)))))
   intro U us1 us2 hu1 hu2 hU
   refine kp [(4, oL 31 (pE c31_o U) (enumP 0 v6)), (5, oL 31 (pE c31_o U) (enumP (List.length v6) v9)), (900001, .gh us1 (List.map (fun x => tokC (c31_o x)) v6)), (900002, .gh us2 (List.map (fun x => tokC (c31_o x)) v9))] rfl rfl (rn 1 rfl (ls_seq_k fun K11 hK11 => ?_))
   obtain ⟨o1, hl, hr1⟩ := ob_some h
   have kXB1 : ∀ {z12 : List (Nat × (List Int))}, z12 = o1 → Jn K11 [(6, oL 31 (pE c31_o U) z12), (900001, .gh us1 (List.map (fun x => tokC (c31_o x)) v6)), (900002, .gh us2 (List.map (fun x => tokC (c31_o x)) v9))] := by
    intro z12 h σ' hk
    subst h
    replace h := hr1
    try dsimp only at h
    refine hK11 _ (lh hk rfl (qk [6, 900001, 900002] rfl ?_))
    obtain ⟨g44, h⟩ := chk_some h
    exact ls_merge (g1 := 900001) (g2 := 900002) rfl rfl (by decide) (ls_join1 (f := c31_o) (s := 6) (q := 900001) (l := v6 ++ v9) (U := U) (L := List.map Sum.inl z12) own_inl rfl List.map_append.symm (by decide) (join_own (fun _ => rfl)) hU g44 rfl rfl (kp [(6, oL 31 c31_o (List.map getM (List.map Sum.inl z12)))] rfl rfl (rn 1 rfl (ls_ret ((by cases h; exact ⟨.inl rfl, rfl⟩))))))
   refine ls_rec (fun (s : (List (Nat × (List Int))) × (List (Nat × (List Int))) × (List (Nat × (List Int)))) => match s with | (y1, y2, y3) => [(4, dL (pE c31_o U) y1), (5, dL (pE c31_o U) y2), (6, oL 31 (pE c31_o U) y3), (900001, .gh us1 (List.map (fun x => tokC (c31_o x)) v6)), (900002, .gh us2 (List.map (fun x => tokC (c31_o x)) v9))]) _ _ _ _ hl ⟨(kd rfl rfl), (kd rfl rfl), kr, kr, kr, trivial⟩ (fun _ => rfl) ?_
   rintro m ⟨y1, y2, y3⟩ N h hN
   unfold impl_sorted_B1 at h
   dsimp only at h
   refine ls_seq_k fun K13 hK13 => rk fun K14 hK14 => ?_
   have kJ2 : ∀ {x15 : Bool}, impl_sorted_J2 (loopF impl_sorted_B1 m) y1 y2 y3 x15 = some o1 → Jn K14 [(4, dL (pE c31_o U) y1), (5, dL (pE c31_o U) y2), (6, oL 31 (pE c31_o U) y3), (31, .bool x15), (900001, .gh us1 (List.map (fun x => tokC (c31_o x)) v6)), (900002, .gh us2 (List.map (fun x => tokC (c31_o x)) v9))] := by
    intro x15 h σ' hk
    unfold impl_sorted_J2 at h
    refine hK14 _ (lh hk rfl ?_)
    rcases cond_some h with ⟨g16, h⟩ | ⟨g16, h⟩
    ·refine qT rfl g16 (ls_skip (hK13 _ (ls_blk (rn 1 rfl (ls_seq_k fun K17 hK17 => rn 1 rfl ?_)))))
     have kJ3 : ∀ {x18 : Int}, impl_sorted_J3 (loopF impl_sorted_B1 m) y1 y2 y3 x18 = some o1 → Jn K17 [(4, dL (pE c31_o U) y1), (5, dL (pE c31_o U) y2), (6, oL 31 (pE c31_o U) y3), (7, nI x18), (900001, .gh us1 (List.map (fun x => tokC (c31_o x)) v6)), (900002, .gh us2 (List.map (fun x => tokC (c31_o x)) v9))] := by
      intro x18 h σ' hk
      unfold impl_sorted_J3 at h
      refine hK17 _ (lh hk rfl (ls_seq_k fun K19 hK19 => rn 1 rfl ?_))
      have kJ4 : ∀ {x20 : List (Nat × (List Int))} {x21 : List (Nat × (List Int))}, impl_sorted_J4 (loopF impl_sorted_B1 m) y2 x18 x20 x21 = some o1 → Jn K19 [(4, dL (pE c31_o U) x20), (5, dL (pE c31_o U) y2), (6, oL 31 (pE c31_o U) x21), (7, nI x18), (900001, .gh us1 (List.map (fun x => tokC (c31_o x)) v6)), (900002, .gh us2 (List.map (fun x => tokC (c31_o x)) v9))] := by
       intro x20 x21 h σ' hk
       unfold impl_sorted_J4 at h
       refine hK19 _ (lh hk rfl (rn 1 rfl ?_))
       rcases cond_some h with ⟨g22, h⟩ | ⟨g22, h⟩
       ·refine qT rfl g22 (ls_seq_k fun K23 hK23 => rn 1 rfl ?_)
        have kJ5 : ∀ {x24 : List (Nat × (List Int))}, impl_sorted_J5 (loopF impl_sorted_B1 m) y2 x20 x24 = some o1 → Jn K23 [(4, dL (pE c31_o U) x20), (5, dL (pE c31_o U) y2), (6, oL 31 (pE c31_o U) x24), (900001, .gh us1 (List.map (fun x => tokC (c31_o x)) v6)), (900002, .gh us2 (List.map (fun x => tokC (c31_o x)) v9))] := by
         intro x24 h σ' hk
         unfold impl_sorted_J5 at h
         refine hK23 _ (lh hk rfl (rg (sp 1 rfl (?_))))
         obtain ⟨g25, h⟩ := chk_some h
         exact qSl rfl (zpE zc31_o) g25 (sp 1 rfl (evn (hN _ _ h (okr rfl))))
        rcases cond_some h with ⟨g26, h⟩ | ⟨g26, h⟩
        ·refine qT rfl g26 (rg (sp 2 rfl (?_)))
         obtain ⟨e27, g28, h⟩ := ob_some h
         refine qI rfl (zpE zc31_o) g28 (sp 1 rfl (qBs (pE c31_o U) [e27] rfl rfl rfl (zpE zc31_o) (?_)))
         obtain ⟨g29, h⟩ := chk_some h
         exact qA (pE c31_o U) x21 [e27] rfl rfl (flat_len (zpE zc31_o) [e27]) rfl g29 (sp 1 rfl (evn (kJ5 h _ (okr rfl))))
        ·exact qF rfl g26 (ls_skip (kJ5 h _ (okr rfl)))
       ·exact qF rfl g22 (ls_skip (hN _ _ h (okr rfl)))
      rcases cond_some h with ⟨g30, h⟩ | ⟨g30, h⟩
      ·refine qT rfl g30 (rs (sp 2 rfl (?_)))
       obtain ⟨e31, g32, h⟩ := ob_some h
       refine qI rfl (zpE zc31_o) g32 (sp 1 rfl (qBs (pE c31_o U) [e31] rfl rfl rfl (zpE zc31_o) (?_)))
       obtain ⟨g33, h⟩ := chk_some h
       refine qA (pE c31_o U) y3 [e31] rfl rfl (flat_len (zpE zc31_o) [e31]) rfl g33 (sp 1 rfl (evn (rg (sp 1 rfl (?_)))))
       obtain ⟨g34, h⟩ := chk_some h
       exact qSl rfl (zpE zc31_o) g34 (sp 1 rfl (evn (kJ4 h _ (okr rfl))))
      ·exact qF rfl g30 (ls_skip (kJ4 h _ (okr rfl)))
     rcases cond_some h with ⟨g35, h⟩ | ⟨g35, h⟩
     ·exact qT rfl g35 (rg (sp 1 rfl (evn (kJ3 h _ (okr rfl)))))
     ·refine qF rfl g35 (rn 1 rfl (qk [4, 5, 6, 7, 37, 900001, 900002] rfl ?_))
      rcases cond_some h with ⟨g36, h⟩ | ⟨g36, h⟩
      ·refine qT rfl g36 (rgd (by kernel_rfl) (sd 1 rfl (?_)))
       obtain ⟨e37, g38, h⟩ := ob_some h
       refine ed rfl (qI rfl (zpE zc31_o) g38 (sd 2 rfl (?_)))
       obtain ⟨e39, g40, h⟩ := ob_some h
       refine ed rfl (qI rfl (zpE zc31_o) g40 (sd 1 rfl (?_)))
       obtain ⟨v41, g42, h⟩ := ob_some h
       exact ed rfl (qC (qa rfl (erP eci64 eci64 _) (qa rfl (erP eci64 eci64 _) eran)) (impl_CompareRows_s g42) (sd 1 rfl (evdn (kJ3 h _ (okr rfl)))))
      ·exact qF rfl g36 (ls_skip (kJ3 h _ (okr rfl)))
    ·exact qF rfl g16 (ls_exit (kXB1 (Option.some.inj h) _ (okr rfl)))
   refine sp 4 rfl (?_)
   rcases cond_some h with ⟨g43, h⟩ | ⟨g43, h⟩
   ·exact qg 27 g43 rfl (sp 4 rfl (evn (kJ2 h _ (okr rfl))))
   ·exact qg 27 g43 rfl (sp 4 rfl (evn (kJ2 h _ (okr rfl))))
def c26_oo (x : Y25) : List V := [nI x.1, oL 31 c31_o x.2]
theorem zc26_oo (x : Y25) : (c26_oo x).length = 2 := rfl
theorem ec26_oo (x : Y25) : erL (c26_oo x) = c26_dd x := (erc rfl (erc (erO ec31_o _) rfl))
def impl_NewRelation_B1 (a0 : Int) (a1 : List (List Int)) (rec : Int → Option (Sum (Unit) (Y25 × Bool))) (y1 : Int) : Option (Sum (Unit) (Y25 × Bool)) := cond (decide (y1 < (List.length a1 : Int))) (obind (geti a1 y1) fun e5 => cond ((List.length e5 : Int) != a0) (some (.inr ((0, []), false))) (obind (impl_AreValidValues e5) fun v8 => cond (!v8) (some (.inr ((0, []), false))) (rec (IntKind.i64.wrap (y1 + 1))))) (some (.inl ()))
def impl_NewRelation (a0 : Int) (a1 : List (List Int)) : Option (Y25 × Bool) := obind (loopF (impl_NewRelation_B1 a0 a1) fz 0) fun o1 => (match o1 with
  | .inl _ => (obind (impl_sorted a1) fun v11 => obind (impl_IsValidRelation (a0, v11)) fun v14 => cond (!v14) (some ((0, []), false)) (some ((a0, v11), true)))
  | .inr r => some r)
theorem impl_NewRelation_s {a0 : Int} {a1 : List (List Int)} {r : Y25 × Bool} (h : impl_NewRelation a0 a1 = some r) : SoundAt Try.prog 92 [nI a0, dL c31_d a1] (.tup [.agg (c26_oo r.1), .bool r.2]) := by
 unfold impl_NewRelation at h
 refine st lit92 rfl (rn 1 rfl (ls_seq_k fun K1 hK1 => rn 1 rfl ?_))
 obtain ⟨o1, hl, hr1⟩ := ob_some h
 have kXB1 : (.inl ()) = o1 → Jn K1 [(0, nI a0), (1, dL c31_d a1), (4, .box [nI 0, oL 31 c31_o []])] := by
  intro h σ' hk
  subst h
  replace h := hr1
  try dsimp only at h
  refine hK1 _ (lh hk rfl (rs (sp 2 rfl (?_))))
  obtain ⟨v11, g12, h⟩ := ob_some h
  refine qC (qa rfl (erD ec31_d _) eran) (impl_sorted_s g12) (sp 3 rfl (evn (ls_seq_k fun K13 hK13 => rs (sp 1 rfl (?_)))))
  obtain ⟨v14, g15, h⟩ := ob_some h
  refine qC (qa rfl (erg (erc rfl (erc (erD ec31_o _) rfl))) eran) (impl_IsValidRelation_s g15) (sp 1 rfl (evn ?_))
  rcases cond_some h with ⟨g16, h⟩ | ⟨g16, h⟩
  ·exact qT rfl g16 (rn 1 rfl (ls_ret ((by cases h; exact ⟨.inl rfl, rfl⟩))))
  ·exact qF rfl g16 (ls_skip (hK13 _ (rn 1 rfl (ls_ret ((by cases h; exact ⟨.inl rfl, rfl⟩))))))
 refine ls_rec (fun (y1 : Int) => [(0, nI a0), (1, dL c31_d a1), (4, .box [nI 0, oL 31 c31_o []]), (9, dL c31_d a1), (10, nI (List.length a1 : Int)), (11, nI y1)]) _ _ _ _ hl (okr rfl) (fun _ => rfl) ?_
 rintro m y1 N h hN
 unfold impl_NewRelation_B1 at h
 refine rn 1 rfl (ls_seq_k fun K2 hK2 => ?_)
 rcases cond_some h with ⟨g3, h⟩ | ⟨g3, h⟩
 ·refine qT rfl g3 (ls_skip (hK2 _ (ls_seq_k fun K4 hK4 => ls_blk (rs ?_))))
  obtain ⟨e5, g6, h⟩ := ob_some h
  refine qI rfl zc31_d g6 (sp 2 rfl (evn (rs (sp 5 rfl (?_)))))
  rcases cond_some h with ⟨g7, h⟩ | ⟨g7, h⟩
  ·exact qg 19 g7 rfl (sp 4 rfl (evn (qT rfl rfl (rn 1 rfl (ls_ret ((by cases h; cases hr1; exact ⟨.inl rfl, rfl⟩)))))))
  ·refine qg 19 g7 rfl (sp 1 rfl (?_))
   obtain ⟨v8, g9, h⟩ := ob_some h
   refine oGR rfl rfl (qC (qa rfl (erD eci64 _) eran) (impl_AreValidValues_s g9) (sp 2 rfl (evn ?_)))
   rcases cond_some h with ⟨g10, h⟩ | ⟨g10, h⟩
   ·exact qT rfl g10 (rn 1 rfl (qk [4, 5] rfl (ls_ret ((by cases h; cases hr1; exact ⟨.inl rfl, rfl⟩)))))
   ·exact qF rfl g10 (ls_skip (hK4 _ (rg (sp 2 rfl (evn (hN _ _ h (okr rfl)))))))
 ·exact qF rfl g3 (ls_exit (kXB1 (Option.some.inj h) _ (okr rfl)))
def impl_SkewedRelation_B1 (a0 : Int) (rec : ((List (List Int)) × Int) → Option ((List (List Int)))) (s : (List (List Int)) × Int) : Option ((List (List Int))) := match s with
  | (y1, y2) => cond (decide (y2 ≤ a0)) (chk (List.length y1 + List.length ([[0, y2], [y2, 0]]) ≤ lim) (rec ((y1 ++ ([[0, y2], [y2, 0]])), (IntKind.i64.wrap (y2 + 1))))) (some y1)
def impl_SkewedRelation (a0 : Int) : Option (Y25 × Bool) := obind (impl_within a0 0 99) fun v2 => cond (!v2) (some ((0, []), false)) (obind (loopF (impl_SkewedRelation_B1 a0) fz (([] : List (List Int)), 0)) fun z6 => obind (impl_NewRelation 2 z6) fun v11 => some (v11.1, v11.2))
theorem impl_SkewedRelation_s {a0 : Int} {r : Y25 × Bool} (h : impl_SkewedRelation a0 = some r) : SoundAt Try.prog 67 [nI a0] (.tup [.agg (c26_oo r.1), .bool r.2]) := by
 unfold impl_SkewedRelation at h
 refine st lit67 rfl (rn 1 rfl (ls_seq_k fun K1 hK1 => rs (sp 1 rfl (?_))))
 obtain ⟨v2, g3, h⟩ := ob_some h
 refine qC (qs rfl (qs rfl (qs rfl eran))) (impl_within_s g3) (sp 1 rfl (evn ?_))
 rcases cond_some h with ⟨g4, h⟩ | ⟨g4, h⟩
 ·exact qT rfl g4 (rn 1 rfl (ls_ret ((by cases h; exact ⟨.inl rfl, rfl⟩))))
 ·refine qF rfl g4 (ls_skip (hK1 _ (rn 1 rfl (ls_seq_k fun K5 hK5 => rn 1 rfl ?_))))
  obtain ⟨o1, hl, hr1⟩ := ob_some h
  have kXB1 : ∀ {z6 : List (List Int)}, z6 = o1 → Jn K5 [(2, .box [nI 0, oL 31 c31_o []]), (4, oL 31 c31_o z6)] := by
   intro z6 h σ' hk
   subst h
   replace h := hr1
   try dsimp only at h
   refine hK5 _ (lh hk rfl (rs (sp 1 rfl (?_))))
   obtain ⟨v11, g12, h⟩ := ob_some h
   exact qC (qs rfl (qa rfl (erD ec31_o _) eran)) (impl_NewRelation_s g12) (sp 4 rfl (evn (ls_ret ((by cases h; exact ⟨.inl rfl, rfl⟩)))))
  refine ls_rec (fun (s : (List (List Int)) × Int) => match s with | (y1, y2) => [(0, nI a0), (2, .box [nI 0, oL 31 c31_o []]), (4, oL 31 c31_o y1), (5, nI y2)]) _ _ _ _ hl (okr rfl) (fun _ => rfl) ?_
  rintro m ⟨y1, y2⟩ N h hN
  unfold impl_SkewedRelation_B1 at h
  dsimp only at h
  refine ls_seq_k fun K7 hK7 => rn 1 rfl ?_
  rcases cond_some h with ⟨g8, h⟩ | ⟨g8, h⟩
  ·refine qT rfl g8 (ls_skip (hK7 _ (ls_seq_k fun K9 hK9 => ls_blk (rg (sp 2 rfl (qBs ci64 [0, y2] rfl rfl rfl zci64 (sp 1 rfl (qBs ci64 [y2, 0] rfl rfl rfl zci64 (qBs c31_o [[0, y2], [y2, 0]] rfl rfl rfl zc31_o (?_))))))))))
   obtain ⟨g10, h⟩ := chk_some h
   exact qA c31_o y1 ([[0, y2], [y2, 0]]) rfl rfl (flat_len zc31_o ([[0, y2], [y2, 0]])) rfl g10 (sp 1 rfl (evn (hK9 _ (rg (sp 3 rfl (evn (hN _ _ h (okr rfl))))))))
  ·exact qF rfl g8 (ls_exit (kXB1 (Option.some.inj h) _ (okr rfl)))
def impl_FullRelation_B1 (a0 : List Int) (rec : (Int × Int) → Option (Sum (Unit) (Y25 × Bool))) (s : Int × Int) : Option (Sum (Unit) (Y25 × Bool)) := match s with
  | (y1, y2) => cond (decide (y2 < (List.length a0 : Int))) (obind (geti a0 y2) fun e7 => obind (impl_within e7 0 100) fun v10 => cond (!v10) (some (.inr ((0, []), false))) (cond (decide (4000 < (IntKind.i64.wrap (y1 * e7)))) (some (.inr ((0, []), false))) (rec ((IntKind.i64.wrap (y1 * e7)), (IntKind.i64.wrap (y2 + 1)))))) (some (.inl ()))
def impl_FullRelation_B4 (e19 : Int) (e26 : List Int) (rec : ((List (List Int)) × Int) → Option ((List (List Int)))) (s : (List (List Int)) × Int) : Option ((List (List Int))) := match s with
  | (y27, y28) => cond (decide (y28 < e19)) (obind (impl_copyInts e26) fun v32 => chk (List.length v32 + List.length [y28] ≤ lim) (chk (List.length y27 + List.length ([v32 ++ [y28]]) ≤ lim) (rec ((y27 ++ ([v32 ++ [y28]])), (IntKind.i64.wrap (y28 + 1)))))) (some y27)
def impl_FullRelation_B3 (y11 : List (List Int)) (e19 : Int) (rec : ((List (List Int)) × Int) → Option ((List (List Int)))) (s : (List (List Int)) × Int) : Option ((List (List Int))) := match s with
  | (y23, y24) => cond (decide (y24 < (List.length y11 : Int))) (obind (geti y11 y24) fun e26 => obind (loopF (impl_FullRelation_B4 e19 e26) fz (y23, 0)) fun z28 => rec (z28, (IntKind.i64.wrap (y24 + 1)))) (some y23)
def impl_FullRelation_B2 (a0 : List Int) (rec : ((List (List Int)) × Int) → Option ((List (List Int)))) (s : (List (List Int)) × Int) : Option ((List (List Int))) := match s with
  | (y11, y12) => cond (decide (y12 < (List.length a0 : Int))) (obind (geti a0 y12) fun e19 => obind (loopF (impl_FullRelation_B3 y11 e19) fz (([] : List (List Int)), 0)) fun z22 => rec (z22, (IntKind.i64.wrap (y12 + 1)))) (some y11)
def impl_FullRelation (a0 : List Int) : Option (Y25 × Bool) := cond (decide (5 < (List.length a0 : Int))) (some ((0, []), false)) (obind (loopF (impl_FullRelation_B1 a0) fz (1, 0)) fun o1 => (match o1 with
  | .inl _ => (obind (loopF (impl_FullRelation_B2 a0) fz (([[]]), 0)) fun z15 => some (((List.length a0 : Int), z15), true))
  | .inr r => some r))
theorem impl_FullRelation_s {a0 : List Int} {r : Y25 × Bool} (h : impl_FullRelation a0 = some r) : SoundAt Try.prog 68 [dL ci64 a0] (.tup [.agg (c26_oo r.1), .bool r.2]) := by
 unfold impl_FullRelation at h
 refine st lit68 rfl (rn 1 rfl (ls_seq_k fun K1 hK1 => rn 1 rfl ?_))
 rcases cond_some h with ⟨g2, h⟩ | ⟨g2, h⟩
 ·exact qT rfl g2 (rn 1 rfl (ls_ret ((by cases h; exact ⟨.inl rfl, rfl⟩))))
 ·refine qF rfl g2 (ls_skip (hK1 _ (rn 1 rfl (ls_seq_k fun K3 hK3 => rn 1 rfl ?_))))
  obtain ⟨o1, hl, hr1⟩ := ob_some h
  have kXB1 : (.inl ()) = o1 → Jn K3 [(0, dL ci64 a0), (2, .box [nI 0, oL 31 c31_o []])] := by
   intro h σ' hk
   subst h
   replace h := hr1
   try dsimp only at h
   refine hK3 _ (lh hk rfl (rs (qBs ci64 [] rfl rfl rfl zci64 (qBs c31_o [[]] rfl rfl rfl zc31_o (sp 1 rfl (evn (ls_seq_k fun K14 hK14 => rn 1 rfl ?_)))))))
   obtain ⟨o2, hl, hr2⟩ := ob_some h
   have kXB2 : ∀ {z15 : List (List Int)}, z15 = o2 → Jn K14 [(0, dL ci64 a0), (2, .box [nI 0, oL 31 c31_o []]), (7, oL 31 c31_o z15)] := by
    intro z15 h σ' hk
    subst h
    replace h := hr2
    try dsimp only at h
    exact hK14 _ (lh hk rfl (rn 1 rfl (ls_ret ((by cases h; exact ⟨.inl rfl, rfl⟩)))))
   refine ls_rec (fun (s : (List (List Int)) × Int) => match s with | (y11, y12) => [(0, dL ci64 a0), (2, .box [nI 0, oL 31 c31_o []]), (7, oL 31 c31_o y11), (37, dL ci64 a0), (38, nI (List.length a0 : Int)), (39, nI y12)]) _ _ _ _ hl (okr rfl) (fun _ => rfl) ?_
   rintro m ⟨y11, y12⟩ N h hN
   unfold impl_FullRelation_B2 at h
   dsimp only at h
   refine rn 1 rfl (ls_seq_k fun K16 hK16 => ?_)
   rcases cond_some h with ⟨g17, h⟩ | ⟨g17, h⟩
   ·refine qT rfl g17 (ls_skip (hK16 _ (ls_seq_k fun K18 hK18 => ls_blk (rs ?_))))
    obtain ⟨e19, g20, h⟩ := ob_some h
    refine qI rfl zci64 g20 (sp 2 rfl (evn (rn 1 rfl (ls_seq_k fun K21 hK21 => rn 1 rfl ?_))))
    obtain ⟨o3, hl, hr3⟩ := ob_some h
    have kXB3 : ∀ {z22 : List (List Int)}, z22 = o3 → Jn K21 [(0, dL ci64 a0), (2, .box [nI 0, oL 31 c31_o []]), (10, oL 31 c31_o z22), (37, dL ci64 a0), (38, nI (List.length a0 : Int)), (39, nI y12)] := by
     intro z22 h σ' hk
     subst h
     replace h := hr3
     try dsimp only at h
     exact hK21 _ (lh hk rfl (rg (sp 2 rfl (evn (hK18 _ (rg (sp 2 rfl (evn (hN _ _ h (okr rfl))))))))))
    refine ls_rec (fun (s : (List (List Int)) × Int) => match s with | (y23, y24) => [(0, dL ci64 a0), (2, .box [nI 0, oL 31 c31_o []]), (9, nI e19), (10, oL 31 c31_o y23), (37, dL ci64 a0), (38, nI (List.length a0 : Int)), (39, nI y12), (43, dL c31_o y11), (44, nI (List.length y11 : Int)), (45, nI y24)]) _ _ _ _ hl (okr rfl) (fun _ => rfl) ?_
    rintro m ⟨y23, y24⟩ N h hN
    unfold impl_FullRelation_B3 at h
    dsimp only at h
    refine rn 1 rfl (ls_seq_k fun K23 hK23 => ?_)
    rcases cond_some h with ⟨g24, h⟩ | ⟨g24, h⟩
    ·refine qT rfl g24 (ls_skip (hK23 _ (ls_seq_k fun K25 hK25 => ls_blk (rs ?_))))
     obtain ⟨e26, g27, h⟩ := ob_some h
     refine qI rfl zc31_o g27 (sp 2 rfl (evn (rn 1 rfl ?_)))
     obtain ⟨o4, hl, hr4⟩ := ob_some h
     have kXB4 : ∀ {z28 : List (List Int)}, z28 = o4 → Jn K25 [(0, dL ci64 a0), (2, .box [nI 0, oL 31 c31_o []]), (9, nI e19), (10, oL 31 c31_o z28), (37, dL ci64 a0), (38, nI (List.length a0 : Int)), (39, nI y12), (43, dL c31_o y11), (44, nI (List.length y11 : Int)), (45, nI y24)] := by
      intro z28 h σ' hk
      subst h
      replace h := hr4
      try dsimp only at h
      exact hK25 _ (lh hk rfl (rg (sp 2 rfl (evn (hN _ _ h (okr rfl))))))
     refine ls_rec (fun (s : (List (List Int)) × Int) => match s with | (y27, y28) => [(0, dL ci64 a0), (2, .box [nI 0, oL 31 c31_o []]), (9, nI e19), (10, oL 31 c31_o y27), (12, dL ci64 e26), (13, nI y28), (37, dL ci64 a0), (38, nI (List.length a0 : Int)), (39, nI y12), (43, dL c31_o y11), (44, nI (List.length y11 : Int)), (45, nI y24)]) _ _ _ _ hl (okr rfl) (fun _ => rfl) ?_
     rintro m ⟨y27, y28⟩ N h hN
     unfold impl_FullRelation_B4 at h
     dsimp only at h
     refine ls_seq_k fun K29 hK29 => rn 1 rfl ?_
     rcases cond_some h with ⟨g30, h⟩ | ⟨g30, h⟩
     ·refine qT rfl g30 (ls_skip (hK29 _ (ls_seq_k fun K31 hK31 => ls_blk (rg (sp 2 rfl (?_))))))
      obtain ⟨v32, g33, h⟩ := ob_some h
      refine qC (qa rfl (erD eci64 _) eran) (impl_copyInts_s g33) (sp 1 rfl (qBs ci64 [y28] rfl rfl rfl zci64 (?_)))
      obtain ⟨g34, h⟩ := chk_some h
      refine qA ci64 v32 [y28] rfl rfl (flat_len zci64 [y28]) rfl g34 (qBs c31_o [v32 ++ [y28]] rfl rfl rfl zc31_o (?_))
      obtain ⟨g35, h⟩ := chk_some h
      exact qA c31_o y27 ([v32 ++ [y28]]) rfl rfl (flat_len zc31_o ([v32 ++ [y28]])) rfl g35 (sp 1 rfl (evn (hK31 _ (rg (sp 3 rfl (evn (hN _ _ h (okr rfl))))))))
     ·exact qF rfl g30 (ls_exit (kXB4 (Option.some.inj h) _ (okr rfl)))
    ·exact qF rfl g24 (ls_exit (kXB3 (Option.some.inj h) _ (okr rfl)))
   ·exact qF rfl g17 (ls_exit (kXB2 (Option.some.inj h) _ (okr rfl)))
  refine ls_rec (fun (s : Int × Int) => match s with | (y1, y2) => [(0, dL ci64 a0), (2, .box [nI 0, oL 31 c31_o []]), (4, nI y1), (18, dL ci64 a0), (19, nI (List.length a0 : Int)), (20, nI y2)]) _ _ _ _ hl (okr rfl) (fun _ => rfl) ?_
  rintro m ⟨y1, y2⟩ N h hN
  unfold impl_FullRelation_B1 at h
  dsimp only at h
  refine rn 1 rfl (ls_seq_k fun K4 hK4 => ?_)
  rcases cond_some h with ⟨g5, h⟩ | ⟨g5, h⟩
  ·refine qT rfl g5 (ls_skip (hK4 _ (ls_seq_k fun K6 hK6 => ls_blk (rs ?_))))
   obtain ⟨e7, g8, h⟩ := ob_some h
   refine qI rfl zci64 g8 (sp 2 rfl (evn (ls_seq_k fun K9 hK9 => rs (sp 1 rfl (?_)))))
   obtain ⟨v10, g11, h⟩ := ob_some h
   refine qC (qs rfl (qs rfl (qs rfl eran))) (impl_within_s g11) (sp 1 rfl (evn ?_))
   rcases cond_some h with ⟨g12, h⟩ | ⟨g12, h⟩
   ·exact qT rfl g12 (rn 1 rfl (ls_ret ((by cases h; cases hr1; exact ⟨.inl rfl, rfl⟩))))
   ·refine qF rfl g12 (ls_skip (hK9 _ (rn 2 rfl (qk [0, 2, 4, 18, 19, 20, 32] rfl ?_))))
    rcases cond_some h with ⟨g13, h⟩ | ⟨g13, h⟩
    ·exact qT rfl g13 (rn 1 rfl (ls_ret ((by cases h; cases hr1; exact ⟨.inl rfl, rfl⟩))))
    ·exact qF rfl g13 (ls_skip (hK6 _ (rg (sp 2 rfl (evn (hN _ _ h (okr rfl)))))))
  ·exact qF rfl g5 (ls_exit (kXB1 (Option.some.inj h) _ (okr rfl)))
def spec_l5Cut_J2 (rec : ((List (List UInt8)) × Int × Int) → Option ((List (List UInt8)) × Int)) (y3 : Int) (x9 : List (List UInt8)) (x10 : Int) : Option ((List (List UInt8)) × Int) := rec (x9, x10, (IntKind.i64.wrap (y3 + 1)))
def spec_l5Cut_B1 (a0 : List UInt8) (a1 : Int) (rec : ((List (List UInt8)) × Int × Int) → Option ((List (List UInt8)) × Int)) (s : (List (List UInt8)) × Int × Int) : Option ((List (List UInt8)) × Int) := match s with
  | (y1, y2, y3) => cond (decide (y3 < (List.length a0 : Int))) (obind (geti a0 y3) fun b7 => cond ((UInt8.toNat b7 : Int) == a1) (chk ((0 : Int) ≤ y2 ∧ y2 ≤ y3 ∧ y3 ≤ (List.length a0 : Int)) (chk (List.length y1 + List.length [subl a0 y2 y3] ≤ lim) (spec_l5Cut_J2 rec y3 (y1 ++ [subl a0 y2 y3]) (IntKind.i64.wrap (y3 + 1))))) (spec_l5Cut_J2 rec y3 y1 y2)) (some (y1, y2))
def spec_l5Cut (a0 : List UInt8) (a1 : Int) : Option ((List (List UInt8))) := obind (loopF (spec_l5Cut_B1 a0 a1) fz (([] : List (List UInt8)), 0, 0)) fun o1 => (match o1 with
  | (z2, z3) => (chk ((0 : Int) ≤ z3 ∧ z3 ≤ (List.length a0 : Int) ∧ (List.length a0 : Int) ≤ (List.length a0 : Int)) (chk (List.length z2 + List.length [subl a0 z3 (List.length a0 : Int)] ≤ lim) (some (z2 ++ [subl a0 z3 (List.length a0 : Int)])))))
theorem spec_l5Cut_s {a0 : List UInt8} {a1 : Int} {r : (List (List UInt8))} (h : spec_l5Cut a0 a1 = some r) : SoundAt Try.prog 138 [.str a0, .int .u8 a1] (oL 9 cst r) := by
 unfold spec_l5Cut at h
 refine st lit138 rfl (rn 1 rfl (rs (qBs cst [] rfl rfl rfl zcst (sp 1 rfl (evn (rn 1 rfl (ls_seq_k fun K1 hK1 => rn 1 rfl ?_)))))))
 obtain ⟨o1, hl, hr1⟩ := ob_some h
 have kXB1 : ∀ {z2 : List (List UInt8)} {z3 : Int}, (z2, z3) = o1 → Jn K1 [(0, .str a0), (5, oL 9 cst z2), (6, nI z3)] := by
  intro z2 z3 h σ' hk
  subst h
  replace h := hr1
  try dsimp only at h
  refine hK1 _ (lh hk rfl (rs (sp 3 rfl (?_))))
  obtain ⟨g14, h⟩ := chk_some h
  refine qSs rfl g14 (qBs cst [subl a0 z3 (List.length a0 : Int)] rfl rfl rfl zcst (?_))
  obtain ⟨g15, h⟩ := chk_some h
  exact qA cst z2 [subl a0 z3 (List.length a0 : Int)] rfl rfl (flat_len zcst [subl a0 z3 (List.length a0 : Int)]) rfl g15 (sp 1 rfl (evn (ls_ret ((by cases h; exact ⟨.inl rfl, rfl⟩)))))
 refine ls_rec (fun (s : (List (List UInt8)) × Int × Int) => match s with | (y1, y2, y3) => [(0, .str a0), (1, .int .u8 a1), (5, oL 9 cst y1), (6, nI y2), (7, nI y3)]) _ _ _ _ hl (okr rfl) (fun _ => rfl) ?_
 rintro m ⟨y1, y2, y3⟩ N h hN
 unfold spec_l5Cut_B1 at h
 dsimp only at h
 refine ls_seq_k fun K4 hK4 => rn 1 rfl ?_
 rcases cond_some h with ⟨g5, h⟩ | ⟨g5, h⟩
 ·refine qT rfl g5 (ls_skip (hK4 _ (ls_seq_k fun K6 hK6 => ls_blk (rs (sp 2 rfl (?_))))))
  obtain ⟨b7, g8, h⟩ := ob_some h
  refine qX rfl g8 (sp 2 rfl (evn ?_))
  have kJ2 : ∀ {x9 : List (List UInt8)} {x10 : Int}, spec_l5Cut_J2 (loopF (spec_l5Cut_B1 a0 a1) m) y3 x9 x10 = some o1 → Jn K6 [(0, .str a0), (1, .int .u8 a1), (5, oL 9 cst x9), (6, nI x10), (7, nI y3)] := by
   intro x9 x10 h σ' hk
   unfold spec_l5Cut_J2 at h
   exact hK6 _ (lh hk rfl (rg (sp 3 rfl (evn (hN _ _ h (okr rfl))))))
  rcases cond_some h with ⟨g11, h⟩ | ⟨g11, h⟩
  ·refine qT rfl g11 (rs (sp 4 rfl (?_)))
   obtain ⟨g12, h⟩ := chk_some h
   refine qSs rfl g12 (qBs cst [subl a0 y2 y3] rfl rfl rfl zcst (?_))
   obtain ⟨g13, h⟩ := chk_some h
   exact qA cst y1 [subl a0 y2 y3] rfl rfl (flat_len zcst [subl a0 y2 y3]) rfl g13 (sp 1 rfl (evn (rg (sp 3 rfl (evn (kJ2 h _ (okr rfl)))))))
  ·exact qF rfl g11 (ls_skip (kJ2 h _ (okr rfl)))
 ·exact qF rfl g5 (ls_exit (kXB1 (Option.some.inj h) _ (okr rfl)))
def spec_l1In_J1 (x2 : Bool) : Option (Bool) := some x2
def spec_l1In (a0 : Int) (a1 : Int) (a2 : Int) : Option (Bool) := cond (decide (a1 ≤ a0)) (spec_l1In_J1 (decide (a0 ≤ a2))) (spec_l1In_J1 false)
theorem spec_l1In_s {a0 : Int} {a1 : Int} {a2 : Int} {r : Bool} (h : spec_l1In a0 a1 a2 = some r) : SoundAt Try.prog 89 [nI a0, nI a1, nI a2] (.bool r) := by
 unfold spec_l1In at h
 refine st lit89 rfl (rn 1 rfl (rk fun K1 hK1 => ?_))
 have kJ1 : ∀ {x2 : Bool}, spec_l1In_J1 x2 = some r → Jn K1 [(6, .bool x2)] := by
  intro x2 h σ' hk
  unfold spec_l1In_J1 at h
  exact hK1 _ (lh hk rfl (ls_ret ((by cases h; exact ⟨.inl rfl, rfl⟩))))
 refine sp 4 rfl (?_)
 rcases cond_some h with ⟨g3, h⟩ | ⟨g3, h⟩
 ·exact qg 10 g3 rfl (sp 5 rfl (evn (kJ1 h _ (okr rfl))))
 ·exact qg 10 g3 rfl (sp 5 rfl (evn (kJ1 h _ (okr rfl))))
def spec_VariableName (a0 : Int) : Option ((List UInt8)) := obind (spec_l1In a0 0 4) fun v2 => cond (!v2) (some []) (chk ((0 : Int) ≤ a0 ∧ a0 ≤ IntKind.i64.wrap (a0 + 1) ∧ IntKind.i64.wrap (a0 + 1) ≤ (List.length [88, 89, 90, 85, 86] : Int)) (some (subl [88, 89, 90, 85, 86] a0 (IntKind.i64.wrap (a0 + 1)))))
theorem spec_VariableName_s {a0 : Int} {r : (List UInt8)} (h : spec_VariableName a0 = some r) : SoundAt Try.prog 140 [nI a0] (.str r) := by
 unfold spec_VariableName at h
 refine st lit140 rfl (rn 1 rfl (ls_seq_k fun K1 hK1 => rs (sp 1 rfl (?_))))
 obtain ⟨v2, g3, h⟩ := ob_some h
 refine qC (qs rfl (qs rfl (qs rfl eran))) (spec_l1In_s g3) (sp 1 rfl (evn ?_))
 rcases cond_some h with ⟨g4, h⟩ | ⟨g4, h⟩
 ·exact qT rfl g4 (rn 1 rfl (ls_ret ((by cases h; exact ⟨.inl rfl, rfl⟩))))
 ·refine qF rfl g4 (ls_skip (hK1 _ (rs (sp 3 rfl (?_)))))
  obtain ⟨g5, h⟩ := chk_some h
  exact qSs rfl g5 (sp 1 rfl (evn (ls_ret ((by cases h; exact ⟨.inl rfl, rfl⟩)))))
def spec_l7List_J3 (rec : ((List Int) × Int) → Option ((List Int))) (y8 : Int) (x13 : List Int) : Option ((List Int)) := rec (x13, (IntKind.i64.wrap (y8 + 1)))
def spec_l7List_B2 (a0 : List UInt8) (y4 : Int) (rec : ((List Int) × Int) → Option ((List Int))) (s : (List Int) × Int) : Option ((List Int)) := match s with
  | (y7, y8) => cond (decide (y8 < 5)) (obind (spec_VariableName y8) fun v10 => chk ((0 : Int) ≤ y4 ∧ y4 ≤ IntKind.i64.wrap (y4 + 1) ∧ IntKind.i64.wrap (y4 + 1) ≤ (List.length a0 : Int)) (cond (v10 == (subl a0 y4 (IntKind.i64.wrap (y4 + 1)))) (chk (List.length y7 + List.length [y8] ≤ lim) (spec_l7List_J3 rec y8 (y7 ++ [y8]))) (spec_l7List_J3 rec y8 y7))) (some y7)
def spec_l7List_B1 (a0 : List UInt8) (rec : ((List Int) × Int) → Option ((List Int))) (s : (List Int) × Int) : Option ((List Int)) := match s with
  | (y3, y4) => cond (decide (y4 < (List.length a0 : Int))) (obind (loopF (spec_l7List_B2 a0 y4) fz (y3, 0)) fun z6 => rec (z6, (IntKind.i64.wrap (y4 + 1)))) (some y3)
def spec_l7List (a0 : List UInt8) : Option ((List Int)) := obind (loopF (spec_l7List_B1 a0) fz (([] : List Int), 0)) fun z2 => some z2
theorem spec_l7List_s {a0 : List UInt8} {r : (List Int)} (h : spec_l7List a0 = some r) : SoundAt Try.prog 139 [.str a0] (oL 3 ci64 r) := by
 unfold spec_l7List at h
 refine st lit139 rfl (rn 1 rfl (rs (qBs ci64 [] rfl rfl rfl zci64 (sp 1 rfl (evn (ls_seq_k fun K1 hK1 => rn 1 rfl ?_))))))
 obtain ⟨o1, hl, hr1⟩ := ob_some h
 have kXB1 : ∀ {z2 : List Int}, z2 = o1 → Jn K1 [(3, oL 3 ci64 z2)] := by
  intro z2 h σ' hk
  subst h
  replace h := hr1
  try dsimp only at h
  exact hK1 _ (lh hk rfl (rn 1 rfl (ls_ret ((by cases h; exact ⟨.inl rfl, rfl⟩)))))
 refine ls_rec (fun (s : (List Int) × Int) => match s with | (y3, y4) => [(0, .str a0), (3, oL 3 ci64 y3), (4, nI y4)]) _ _ _ _ hl (okr rfl) (fun _ => rfl) ?_
 rintro m ⟨y3, y4⟩ N h hN
 unfold spec_l7List_B1 at h
 dsimp only at h
 refine ls_seq_k fun K3 hK3 => rn 1 rfl ?_
 rcases cond_some h with ⟨g4, h⟩ | ⟨g4, h⟩
 ·refine qT rfl g4 (ls_skip (hK3 _ (ls_seq_k fun K5 hK5 => ls_blk (rn 1 rfl ?_))))
  obtain ⟨o2, hl, hr2⟩ := ob_some h
  have kXB2 : ∀ {z6 : List Int}, z6 = o2 → Jn K5 [(0, .str a0), (3, oL 3 ci64 z6), (4, nI y4)] := by
   intro z6 h σ' hk
   subst h
   replace h := hr2
   try dsimp only at h
   exact hK5 _ (lh hk rfl (rg (sp 3 rfl (evn (hN _ _ h (okr rfl))))))
  refine ls_rec (fun (s : (List Int) × Int) => match s with | (y7, y8) => [(0, .str a0), (3, oL 3 ci64 y7), (4, nI y4), (5, nI y8)]) _ _ _ _ hl (okr rfl) (fun _ => rfl) ?_
  rintro m ⟨y7, y8⟩ N h hN
  unfold spec_l7List_B2 at h
  dsimp only at h
  refine ls_seq_k fun K7 hK7 => rn 1 rfl ?_
  rcases cond_some h with ⟨g8, h⟩ | ⟨g8, h⟩
  ·refine qT rfl g8 (ls_skip (hK7 _ (ls_seq_k fun K9 hK9 => ls_blk (rd (by kernel_rfl) (sd 1 rfl (?_))))))
   obtain ⟨v10, g11, h⟩ := ob_some h
   refine ed rfl (qC (qs rfl eran) (spec_VariableName_s g11) (sd 4 rfl (?_)))
   obtain ⟨g12, h⟩ := chk_some h
   refine ed rfl (qSs rfl g12 (sd 1 rfl (evdn ?_)))
   have kJ3 : ∀ {x13 : List Int}, spec_l7List_J3 (loopF (spec_l7List_B2 a0 y4) m) y8 x13 = some o2 → Jn K9 [(0, .str a0), (3, oL 3 ci64 x13), (4, nI y4), (5, nI y8)] := by
    intro x13 h σ' hk
    unfold spec_l7List_J3 at h
    exact hK9 _ (lh hk rfl (rg (sp 3 rfl (evn (hN _ _ h (okr rfl))))))
   rcases cond_some h with ⟨g14, h⟩ | ⟨g14, h⟩
   ·refine qT rfl g14 (rg (sp 2 rfl (qBs ci64 [y8] rfl rfl rfl zci64 (?_))))
    obtain ⟨g15, h⟩ := chk_some h
    exact qA ci64 y7 [y8] rfl rfl (flat_len zci64 [y8]) rfl g15 (sp 1 rfl (evn (kJ3 h _ (okr rfl))))
   ·exact qF rfl g14 (ls_skip (kJ3 h _ (okr rfl)))
  ·exact qF rfl g8 (ls_exit (kXB2 (Option.some.inj h) _ (okr rfl)))
 ·exact qF rfl g4 (ls_exit (kXB1 (Option.some.inj h) _ (okr rfl)))
def spec_IsValidName_B1 (a0 : List UInt8) (rec : Int → Option (Sum (Unit) (Bool))) (y1 : Int) : Option (Sum (Unit) (Bool)) := cond (decide (y1 < (List.length a0 : Int))) (obind (geti a0 y1) fun b5 => cond (decide ((UInt8.toNat b5 : Int) < 97)) (some (.inr false)) (obind (geti a0 y1) fun b8 => cond (decide (122 < (UInt8.toNat b8 : Int))) (some (.inr false)) (rec (IntKind.i64.wrap (y1 + 1))))) (some (.inl ()))
def spec_IsValidName (a0 : List UInt8) : Option (Bool) := obind (loopF (spec_IsValidName_B1 a0) fz 0) fun o1 => (match o1 with
  | .inl _ => (obind (spec_l1In (List.length a0 : Int) 1 4) fun v11 => some v11)
  | .inr r => some r)
theorem spec_IsValidName_s {a0 : List UInt8} {r : Bool} (h : spec_IsValidName a0 = some r) : SoundAt Try.prog 178 [.str a0] (.bool r) := by
 unfold spec_IsValidName at h
 refine st lit178 rfl (rn 1 rfl (ls_seq_k fun K1 hK1 => rn 1 rfl ?_))
 obtain ⟨o1, hl, hr1⟩ := ob_some h
 have kXB1 : (.inl ()) = o1 → Jn K1 [(0, .str a0)] := by
  intro h σ' hk
  subst h
  replace h := hr1
  try dsimp only at h
  refine hK1 _ (lh hk rfl (rs (sp 2 rfl (?_))))
  obtain ⟨v11, g12, h⟩ := ob_some h
  exact qC (qs rfl (qs rfl (qs rfl eran))) (spec_l1In_s g12) (sp 1 rfl (evn (ls_ret ((by cases h; exact ⟨.inl rfl, rfl⟩)))))
 refine ls_rec (fun (y1 : Int) => [(0, .str a0), (3, nI y1)]) _ _ _ _ hl (okr rfl) (fun _ => rfl) ?_
 rintro m y1 N h hN
 unfold spec_IsValidName_B1 at h
 refine ls_seq_k fun K2 hK2 => rn 1 rfl ?_
 rcases cond_some h with ⟨g3, h⟩ | ⟨g3, h⟩
 ·refine qT rfl g3 (ls_skip (hK2 _ (ls_seq_k fun K4 hK4 => ls_blk (rs (sp 2 rfl (?_))))))
  obtain ⟨b5, g6, h⟩ := ob_some h
  refine qX rfl g6 (sp 2 rfl (?_))
  rcases cond_some h with ⟨g7, h⟩ | ⟨g7, h⟩
  ·exact qg 14 g7 rfl (sp 5 rfl (evn (qT rfl rfl (rn 1 rfl (ls_ret ((by cases h; cases hr1; exact ⟨.inl rfl, rfl⟩)))))))
  ·refine qg 14 g7 rfl (sp 2 rfl (?_))
   obtain ⟨b8, g9, h⟩ := ob_some h
   refine oGR rfl rfl (qX rfl g9 (sp 2 rfl (evn ?_)))
   rcases cond_some h with ⟨g10, h⟩ | ⟨g10, h⟩
   ·exact qT rfl g10 (rn 1 rfl (qk [2] rfl (ls_ret ((by cases h; cases hr1; exact ⟨.inl rfl, rfl⟩)))))
   ·exact qF rfl g10 (ls_skip (hK4 _ (rg (sp 3 rfl (evn (hN _ _ h (okr rfl)))))))
 ·exact qF rfl g3 (ls_exit (kXB1 (Option.some.inj h) _ (okr rfl)))
abbrev Y141 := (List UInt8) × (List Int)
def c142_d (x : Y141) : List V := [.str x.1, dL ci64 x.2]
theorem zc142_d (x : Y141) : (c142_d x).length = 2 := rfl
theorem ec142_d (x : Y141) : erL (c142_d x) = c142_d x := (erc rfl (erc (erD eci64 _) rfl))
def spec_ContainsVariable_B1 (a0 : Y141) (a1 : Int) (rec : Int → Option (Sum (Unit) (Bool))) (y1 : Int) : Option (Sum (Unit) (Bool)) := cond (decide (y1 < (List.length a0.2 : Int))) (obind (geti a0.2 y1) fun e5 => cond (e5 == a1) (some (.inr true)) (rec (IntKind.i64.wrap (y1 + 1)))) (some (.inl ()))
def spec_ContainsVariable (a0 : Y141) (a1 : Int) : Option (Bool) := obind (loopF (spec_ContainsVariable_B1 a0 a1) fz 0) fun o1 => (match o1 with
  | .inl _ => (some false)
  | .inr r => some r)
theorem spec_ContainsVariable_s {a0 : Y141} {a1 : Int} {r : Bool} (h : spec_ContainsVariable a0 a1 = some r) : SoundAt Try.prog 218 [.agg (c142_d a0), nI a1] (.bool r) := by
 unfold spec_ContainsVariable at h
 refine st lit218 rfl (rn 1 rfl (ls_seq_k fun K1 hK1 => rn 1 rfl ?_))
 obtain ⟨o1, hl, hr1⟩ := ob_some h
 have kXB1 : (.inl ()) = o1 → Jn K1 [] := by
  intro h σ' hk
  subst h
  replace h := hr1
  try dsimp only at h
  exact hK1 _ (lh hk rfl (rn 1 rfl (ls_ret ((by cases h; exact ⟨.inl rfl, rfl⟩)))))
 refine ls_rec (fun (y1 : Int) => [(1, nI a1), (2, .box [.str a0.1, dL ci64 a0.2]), (5, nI y1)]) _ _ _ _ hl (okr rfl) (fun _ => rfl) ?_
 rintro m y1 N h hN
 unfold spec_ContainsVariable_B1 at h
 refine ls_seq_k fun K2 hK2 => rn 1 rfl ?_
 rcases cond_some h with ⟨g3, h⟩ | ⟨g3, h⟩
 ·refine qT rfl g3 (ls_skip (hK2 _ (ls_seq_k fun K4 hK4 => ls_blk (rs (sp 3 rfl (?_))))))
  obtain ⟨e5, g6, h⟩ := ob_some h
  refine qI rfl zci64 g6 (sp 3 rfl (evn ?_))
  rcases cond_some h with ⟨g7, h⟩ | ⟨g7, h⟩
  ·exact qT rfl g7 (rn 1 rfl (ls_ret ((by cases h; cases hr1; exact ⟨.inl rfl, rfl⟩))))
  ·exact qF rfl g7 (ls_skip (hK4 _ (rg (sp 3 rfl (evn (hN _ _ h (okr rfl)))))))
 ·exact qF rfl g3 (ls_exit (kXB1 (Option.some.inj h) _ trivial))
def spec_l7Find_B1 (a0 : List Int) (a1 : Int) (rec : Int → Option (Sum (Unit) (Int))) (y1 : Int) : Option (Sum (Unit) (Int)) := cond (decide (y1 < (List.length a0 : Int))) (obind (geti a0 y1) fun e5 => cond (e5 == a1) (some (.inr y1)) (rec (IntKind.i64.wrap (y1 + 1)))) (some (.inl ()))
def spec_l7Find (a0 : List Int) (a1 : Int) : Option (Int) := obind (loopF (spec_l7Find_B1 a0 a1) fz 0) fun o1 => (match o1 with
  | .inl _ => (some (-1))
  | .inr r => some r)
theorem spec_l7Find_s {a0 : List Int} {a1 : Int} {r : Int} (h : spec_l7Find a0 a1 = some r) : SoundAt Try.prog 219 [dL ci64 a0, nI a1] (nI r) := by
 unfold spec_l7Find at h
 refine st lit219 rfl (rn 1 rfl (ls_seq_k fun K1 hK1 => rn 1 rfl ?_))
 obtain ⟨o1, hl, hr1⟩ := ob_some h
 have kXB1 : (.inl ()) = o1 → Jn K1 [] := by
  intro h σ' hk
  subst h
  replace h := hr1
  try dsimp only at h
  exact hK1 _ (lh hk rfl (rn 1 rfl (ls_ret ((by cases h; exact ⟨.inl rfl, rfl⟩)))))
 refine ls_rec (fun (y1 : Int) => [(0, dL ci64 a0), (1, nI a1), (5, nI y1)]) _ _ _ _ hl (okr rfl) (fun _ => rfl) ?_
 rintro m y1 N h hN
 unfold spec_l7Find_B1 at h
 refine ls_seq_k fun K2 hK2 => rn 1 rfl ?_
 rcases cond_some h with ⟨g3, h⟩ | ⟨g3, h⟩
 ·refine qT rfl g3 (ls_skip (hK2 _ (ls_seq_k fun K4 hK4 => ls_blk (rs (sp 2 rfl (?_))))))
  obtain ⟨e5, g6, h⟩ := ob_some h
  refine qI rfl zci64 g6 (sp 3 rfl (evn ?_))
  rcases cond_some h with ⟨g7, h⟩ | ⟨g7, h⟩
  ·exact qT rfl g7 (rn 1 rfl (ls_ret ((by cases h; cases hr1; exact ⟨.inl rfl, rfl⟩))))
  ·exact qF rfl g7 (ls_skip (hK4 _ (rg (sp 3 rfl (evn (hN _ _ h (okr rfl)))))))
 ·exact qF rfl g3 (ls_exit (kXB1 (Option.some.inj h) _ trivial))
abbrev Y58 := Int × (List Y141) × (List Int)
def c59_ddd (x : Y58) : List V := [nI x.1, dL c142_d x.2.1, dL ci64 x.2.2]
theorem zc59_ddd (x : Y58) : (c59_ddd x).length = 3 := rfl
theorem ec59_ddd (x : Y58) : erL (c59_ddd x) = c59_ddd x := (erc rfl (erc (erD ec142_d _) (erc (erD eci64 _) rfl)))
def spec_IsValidQuery_B2 (a0 : Y58) (y2 : Int) (rec : Int → Option (Sum (Unit) (Bool))) (y4 : Int) : Option (Sum (Unit) (Bool)) := obind (geti a0.2.1 y2) fun e25 => cond (decide (y4 < (List.length e25.2 : Int))) (obind (geti a0.2.1 y2) fun e29 => obind (geti e29.2 y4) fun e31 => obind (spec_l1In e31 0 (IntKind.i64.wrap (a0.1 - 1))) fun v33 => cond (!v33) (some (.inr false)) (rec (IntKind.i64.wrap (y4 + 1)))) (some (.inl ()))
def spec_IsValidQuery_B1 (a0 : Y58) (rec : Int → Option (Sum (Unit) (Bool))) (y2 : Int) : Option (Sum (Unit) (Bool)) := cond (decide (y2 < (List.length a0.2.1 : Int))) (obind (geti a0.2.1 y2) fun e14 => obind (spec_IsValidName e14.1) fun v16 => cond (!v16) (some (.inr false)) (obind (geti a0.2.1 y2) fun e19 => obind (spec_l1In (List.length e19.2 : Int) 1 5) fun v21 => cond (!v21) (some (.inr false)) (obind (loopF (spec_IsValidQuery_B2 a0 y2) fz 0) fun o2 => (match o2 with
  | .inl _ => (rec (IntKind.i64.wrap (y2 + 1)))
  | .inr r => some (.inr r))))) (some (.inl ()))
def spec_IsValidQuery_J5 (rec : (Bool × Int) → Option (Bool)) (y11 : Int) (x45 : Bool) : Option (Bool) := rec (x45, (IntKind.i64.wrap (y11 + 1)))
def spec_IsValidQuery_B4 (a0 : Y58) (y7 : Int) (rec : (Bool × Int) → Option (Bool)) (s : Bool × Int) : Option (Bool) := match s with
  | (y10, y11) => cond (decide (y11 < (List.length a0.2.1 : Int))) (cond y10 (spec_IsValidQuery_J5 rec y11 true) (obind (geti a0.2.1 y11) fun e47 => obind (spec_ContainsVariable e47 y7) fun v49 => spec_IsValidQuery_J5 rec y11 v49)) (some y10)
def spec_IsValidQuery_B3 (a0 : Y58) (rec : Int → Option (Sum (Unit) (Bool))) (y7 : Int) : Option (Sum (Unit) (Bool)) := cond (decide (y7 < a0.1)) (obind (loopF (spec_IsValidQuery_B4 a0 y7) fz (false, 0)) fun z41 => cond (!z41) (some (.inr false)) (rec (IntKind.i64.wrap (y7 + 1)))) (some (.inl ()))
def spec_IsValidQuery_B6 (a0 : Y58) (rec : Int → Option (Sum (Unit) (Bool))) (y12 : Int) : Option (Sum (Unit) (Bool)) := cond (decide (y12 < (List.length a0.2.2 : Int))) (obind (geti a0.2.2 y12) fun e56 => obind (spec_l1In e56 0 (IntKind.i64.wrap (a0.1 - 1))) fun v58 => cond (!v58) (some (.inr false)) (chk ((0 : Int) ≤ 0 ∧ 0 ≤ y12 ∧ y12 ≤ (List.length a0.2.2 : Int)) (obind (geti a0.2.2 y12) fun e62 => obind (spec_l7Find (subl a0.2.2 0 y12) e62) fun v64 => cond (decide (0 ≤ v64)) (some (.inr false)) (rec (IntKind.i64.wrap (y12 + 1)))))) (some (.inl ()))
def spec_IsValidQuery (a0 : Y58) : Option (Bool) := obind (spec_l1In a0.1 1 5) fun v2 => cond (!v2) (some false) (obind (spec_l1In (List.length a0.2.1 : Int) 1 4) fun v5 => cond (!v5) (some false) (cond (decide (a0.1 < (List.length a0.2.2 : Int))) (some false) (obind (loopF (spec_IsValidQuery_B1 a0) fz 0) fun o1 => (match o1 with
  | .inl _ => (obind (loopF (spec_IsValidQuery_B3 a0) fz 0) fun o3 => (match o3 with
  | .inl _ => (obind (loopF (spec_IsValidQuery_B6 a0) fz 0) fun o6 => (match o6 with
  | .inl _ => (some true)
  | .inr r => some r))
  | .inr r => some r))
  | .inr r => some r))))
theorem spec_IsValidQuery_s {a0 : Y58} {r : Bool} (h : spec_IsValidQuery a0 = some r) : SoundAt Try.prog 157 [.agg (c59_ddd a0)] (.bool r) := by
 unfold spec_IsValidQuery at h
 refine st lit157 rfl (rn 1 rfl (ls_seq_k fun K1 hK1 => rs (sp 2 rfl (?_))))
 obtain ⟨v2, g3, h⟩ := ob_some h
 refine qC (qs rfl (qs rfl (qs rfl eran))) (spec_l1In_s g3) (sp 2 rfl (?_))
 rcases cond_some h with ⟨g4, h⟩ | ⟨g4, h⟩
 ·exact qg 13 g4 rfl (sp 14 rfl (evn (qT rfl rfl (rn 1 rfl (ls_ret ((by cases h; exact ⟨.inl rfl, rfl⟩)))))))
 ·refine qg 13 g4 rfl (sp 3 rfl (?_))
  obtain ⟨v5, g6, h⟩ := ob_some h
  refine oGR rfl rfl (qC (qs rfl (qs rfl (qs rfl eran))) (spec_l1In_s g6) (sp 3 rfl (?_)))
  rcases cond_some h with ⟨g7, h⟩ | ⟨g7, h⟩
  ·exact qg 20 g7 rfl (sp 7 rfl (evn (qk [1, 27] rfl (qT rfl rfl (rn 1 rfl (ls_ret ((by cases h; exact ⟨.inl rfl, rfl⟩))))))))
  ·refine qg 20 g7 rfl (sp 7 rfl (evn ?_))
   rcases cond_some h with ⟨g8, h⟩ | ⟨g8, h⟩
   ·exact qT rfl g8 (rn 1 rfl (ls_ret ((by cases h; exact ⟨.inl rfl, rfl⟩))))
   ·refine qF rfl g8 (ls_skip (hK1 _ (ls_seq_k fun K9 hK9 => rn 1 rfl ?_)))
    obtain ⟨o1, hl, hr1⟩ := ob_some h
    have kXB1 : (.inl ()) = o1 → Jn K9 [(1, .box [nI a0.1, dL c142_d a0.2.1, dL ci64 a0.2.2])] := by
     intro h σ' hk
     subst h
     replace h := hr1
     try dsimp only at h
     refine hK9 _ (lh hk rfl (ls_seq_k fun K36 hK36 => rn 1 rfl ?_))
     obtain ⟨o3, hl, hr3⟩ := ob_some h
     have kXB3 : (.inl ()) = o3 → Jn K36 [(1, .box [nI a0.1, dL c142_d a0.2.1, dL ci64 a0.2.2])] := by
      intro h σ' hk
      subst h
      replace h := hr3
      try dsimp only at h
      refine hK36 _ (lh hk rfl (ls_seq_k fun K52 hK52 => rn 1 rfl ?_))
      obtain ⟨o6, hl, hr6⟩ := ob_some h
      have kXB6 : (.inl ()) = o6 → Jn K52 [] := by
       intro h σ' hk
       subst h
       replace h := hr6
       try dsimp only at h
       exact hK52 _ (lh hk rfl (rn 1 rfl (ls_ret ((by cases h; exact ⟨.inl rfl, rfl⟩)))))
      refine ls_rec (fun (y12 : Int) => [(1, .box [nI a0.1, dL c142_d a0.2.1, dL ci64 a0.2.2]), (8, nI y12)]) _ _ _ _ hl (okr rfl) (fun _ => rfl) ?_
      rintro m y12 N h hN
      unfold spec_IsValidQuery_B6 at h
      refine ls_seq_k fun K53 hK53 => rn 1 rfl ?_
      rcases cond_some h with ⟨g54, h⟩ | ⟨g54, h⟩
      ·refine qT rfl g54 (ls_skip (hK53 _ (ls_seq_k fun K55 hK55 => ls_blk (rd (by kernel_rfl) (sd 3 rfl (?_))))))
       obtain ⟨e56, g57, h⟩ := ob_some h
       refine ed rfl (qI rfl zci64 g57 (sd 4 rfl (?_)))
       obtain ⟨v58, g59, h⟩ := ob_some h
       refine ed rfl (qC (qs rfl (qs rfl (qs rfl eran))) (spec_l1In_s g59) (sd 2 rfl (?_)))
       rcases cond_some h with ⟨g60, h⟩ | ⟨g60, h⟩
       ·exact qgd 121 g60 rfl (sd 12 rfl (evdn (qT rfl rfl (rn 1 rfl (qk [2] rfl (ls_ret ((by cases h; cases hr6; exact ⟨.inl rfl, rfl⟩))))))))
       ·refine qgd 121 g60 rfl (sd 3 rfl (?_))
        obtain ⟨g61, h⟩ := chk_some h
        refine ed rfl (oGR rfl rfl (qSl rfl zci64 g61 (sd 3 rfl (?_))))
        obtain ⟨e62, g63, h⟩ := ob_some h
        refine ed rfl (oGR rfl rfl (qI rfl zci64 g63 (sd 1 rfl (?_))))
        obtain ⟨v64, g65, h⟩ := ob_some h
        refine ed rfl (oGR rfl rfl (qC (qa rfl (erD eci64 _) (qs rfl eran)) (spec_l7Find_s g65) (sd 2 rfl (evdn ?_))))
        rcases cond_some h with ⟨g66, h⟩ | ⟨g66, h⟩
        ·exact qT rfl g66 (rn 1 rfl (ls_ret ((by cases h; cases hr6; exact ⟨.inl rfl, rfl⟩))))
        ·exact qF rfl g66 (ls_skip (hK55 _ (rg (sp 3 rfl (evn (hN _ _ h (okr rfl)))))))
      ·exact qF rfl g54 (ls_exit (kXB6 (Option.some.inj h) _ trivial))
     refine ls_rec (fun (y7 : Int) => [(1, .box [nI a0.1, dL c142_d a0.2.1, dL ci64 a0.2.2]), (5, nI y7)]) _ _ _ _ hl (okr rfl) (fun _ => rfl) ?_
     rintro m y7 N h hN
     unfold spec_IsValidQuery_B3 at h
     refine ls_seq_k fun K37 hK37 => rn 1 rfl ?_
     rcases cond_some h with ⟨g38, h⟩ | ⟨g38, h⟩
     ·refine qT rfl g38 (ls_skip (hK37 _ (ls_seq_k fun K39 hK39 => ls_blk (rn 1 rfl (ls_seq_k fun K40 hK40 => rn 1 rfl ?_)))))
      obtain ⟨o4, hl, hr4⟩ := ob_some h
      have kXB4 : ∀ {z41 : Bool}, z41 = o4 → Jn K40 [(1, .box [nI a0.1, dL c142_d a0.2.1, dL ci64 a0.2.2]), (5, nI y7), (6, .bool z41)] := by
       intro z41 h σ' hk
       subst h
       replace h := hr4
       try dsimp only at h
       refine hK40 _ (lh hk rfl (rn 1 rfl ?_))
       rcases cond_some h with ⟨g51, h⟩ | ⟨g51, h⟩
       ·exact qT rfl g51 (rn 1 rfl (ls_ret ((by cases h; cases hr3; exact ⟨.inl rfl, rfl⟩))))
       ·exact qF rfl g51 (ls_skip (hK39 _ (rg (sp 3 rfl (evn (hN _ _ h (okr rfl)))))))
      refine ls_rec (fun (s : Bool × Int) => match s with | (y10, y11) => [(1, .box [nI a0.1, dL c142_d a0.2.1, dL ci64 a0.2.2]), (5, nI y7), (6, .bool y10), (7, nI y11)]) _ _ _ _ hl (okr rfl) (fun _ => rfl) ?_
      rintro m ⟨y10, y11⟩ N h hN
      unfold spec_IsValidQuery_B4 at h
      dsimp only at h
      refine ls_seq_k fun K42 hK42 => rn 1 rfl ?_
      rcases cond_some h with ⟨g43, h⟩ | ⟨g43, h⟩
      ·refine qT rfl g43 (ls_skip (hK42 _ (ls_seq_k fun K44 hK44 => ls_blk ?_)))
       have kJ5 : ∀ {x45 : Bool}, spec_IsValidQuery_J5 (loopF (spec_IsValidQuery_B4 a0 y7) m) y11 x45 = some o4 → Jn K44 [(1, .box [nI a0.1, dL c142_d a0.2.1, dL ci64 a0.2.2]), (5, nI y7), (6, .bool x45), (7, nI y11)] := by
        intro x45 h σ' hk
        unfold spec_IsValidQuery_J5 at h
        exact hK44 _ (lh hk rfl (rg (sp 3 rfl (evn (hN _ _ h (okr rfl))))))
       refine rg (sp 2 rfl (?_))
       rcases cond_some h with ⟨g46, h⟩ | ⟨g46, h⟩
       ·exact qg 93 g46 rfl (sp 9 rfl (evn (kJ5 h _ (okr rfl))))
       ·refine qg 93 g46 rfl (sp 3 rfl (?_))
        obtain ⟨e47, g48, h⟩ := ob_some h
        refine oGR rfl rfl (qI rfl zc142_d g48 (sp 2 rfl (?_)))
        obtain ⟨v49, g50, h⟩ := ob_some h
        exact oGR rfl rfl (qC (qa rfl (erg (erc rfl (erc (erD eci64 _) rfl))) (qs rfl eran)) (spec_ContainsVariable_s g50) (sp 2 rfl (evn (kJ5 h _ (okr rfl)))))
      ·exact qF rfl g43 (ls_exit (kXB4 (Option.some.inj h) _ (okr rfl)))
     ·exact qF rfl g38 (ls_exit (kXB3 (Option.some.inj h) _ (okr rfl)))
    refine ls_rec (fun (y2 : Int) => [(1, .box [nI a0.1, dL c142_d a0.2.1, dL ci64 a0.2.2]), (3, nI y2)]) _ _ _ _ hl (okr rfl) (fun _ => rfl) ?_
    rintro m y2 N h hN
    unfold spec_IsValidQuery_B1 at h
    refine ls_seq_k fun K10 hK10 => rn 1 rfl ?_
    rcases cond_some h with ⟨g11, h⟩ | ⟨g11, h⟩
    ·refine qT rfl g11 (ls_skip (hK10 _ (ls_seq_k fun K12 hK12 => ls_blk (ls_seq_k fun K13 hK13 => rs (sp 3 rfl (?_))))))
     obtain ⟨e14, g15, h⟩ := ob_some h
     refine qI rfl zc142_d g15 (sp 2 rfl (?_))
     obtain ⟨v16, g17, h⟩ := ob_some h
     refine qC (qs rfl eran) (spec_IsValidName_s g17) (sp 2 rfl (?_))
     rcases cond_some h with ⟨g18, h⟩ | ⟨g18, h⟩
     ·exact qg 43 g18 rfl (sp 10 rfl (evn (qT rfl rfl (rn 1 rfl (ls_ret ((by cases h; cases hr1; exact ⟨.inl rfl, rfl⟩)))))))
     ·refine qg 43 g18 rfl (sp 3 rfl (?_))
      obtain ⟨e19, g20, h⟩ := ob_some h
      refine oGR rfl rfl (qI rfl zc142_d g20 (sp 3 rfl (?_)))
      obtain ⟨v21, g22, h⟩ := ob_some h
      refine oGR rfl rfl (qC (qs rfl (qs rfl (qs rfl eran))) (spec_l1In_s g22) (sp 2 rfl (evn (qk [1, 3, 53] rfl ?_))))
      rcases cond_some h with ⟨g23, h⟩ | ⟨g23, h⟩
      ·exact qT rfl g23 (rn 1 rfl (ls_ret ((by cases h; cases hr1; exact ⟨.inl rfl, rfl⟩))))
      ·refine qF rfl g23 (ls_skip (hK13 _ (rn 1 rfl ?_)))
       obtain ⟨o2, hl, hr2⟩ := ob_some h
       have kXB2 : (.inl ()) = o2 → Jn K12 [(1, .box [nI a0.1, dL c142_d a0.2.1, dL ci64 a0.2.2]), (3, nI y2)] := by
        intro h σ' hk
        subst h
        replace h := hr2
        try dsimp only at h
        exact hK12 _ (lh hk rfl (rg (sp 3 rfl (evn (hN _ _ h (okr rfl))))))
       refine ls_rec (fun (y4 : Int) => [(1, .box [nI a0.1, dL c142_d a0.2.1, dL ci64 a0.2.2]), (3, nI y2), (4, nI y4)]) _ _ _ _ hl (okr rfl) (fun _ => rfl) ?_
       rintro m y4 N h hN
       unfold spec_IsValidQuery_B2 at h
       refine ls_seq_k fun K24 hK24 => rs (sp 4 rfl (?_))
       obtain ⟨e25, g26, h⟩ := ob_some h
       refine qI rfl zc142_d g26 (sp 4 rfl (evn ?_))
       rcases cond_some h with ⟨g27, h⟩ | ⟨g27, h⟩
       ·refine qT rfl g27 (ls_skip (hK24 _ (ls_seq_k fun K28 hK28 => ls_blk (rd (by kernel_rfl) (sd 3 rfl (?_))))))
        obtain ⟨e29, g30, h⟩ := ob_some h
        refine ed rfl (qI rfl zc142_d g30 (sd 3 rfl (?_)))
        obtain ⟨e31, g32, h⟩ := ob_some h
        refine ed rfl (qI rfl zci64 g32 (sd 4 rfl (?_)))
        obtain ⟨v33, g34, h⟩ := ob_some h
        refine ed rfl (qC (qs rfl (qs rfl (qs rfl eran))) (spec_l1In_s g34) (sd 1 rfl (evdn ?_)))
        rcases cond_some h with ⟨g35, h⟩ | ⟨g35, h⟩
        ·exact qT rfl g35 (rn 1 rfl (ls_ret ((by cases h; cases hr2; cases hr1; exact ⟨.inl rfl, rfl⟩))))
        ·exact qF rfl g35 (ls_skip (hK28 _ (qk [1, 3, 4] rfl (rg (sp 3 rfl (evn (hN _ _ h (okr rfl))))))))
       ·exact qF rfl g27 (ls_exit (kXB2 (Option.some.inj h) _ (okr rfl)))
    ·exact qF rfl g11 (ls_exit (kXB1 (Option.some.inj h) _ (okr rfl)))
def spec_l7Vars_B1 (a0 : List Int) (rec : ((List UInt8) × Int) → Option ((List UInt8))) (s : (List UInt8) × Int) : Option ((List UInt8)) := match s with
  | (y1, y2) => cond (decide (y2 < (List.length a0 : Int))) (obind (geti a0 y2) fun e6 => obind (spec_VariableName e6) fun v8 => chk (List.length y1 + List.length v8 ≤ lim) (rec ((y1 ++ v8), (IntKind.i64.wrap (y2 + 1))))) (some y1)
def spec_l7Vars (a0 : List Int) : Option ((List UInt8)) := obind (loopF (spec_l7Vars_B1 a0) fz ([40], 0)) fun z2 => chk (List.length z2 + List.length [41] ≤ lim) (some (z2 ++ [41]))
theorem spec_l7Vars_s {a0 : List Int} {r : (List UInt8)} (h : spec_l7Vars a0 = some r) : SoundAt Try.prog 199 [dL ci64 a0] (.str r) := by
 unfold spec_l7Vars at h
 refine st lit199 rfl (rn 2 rfl (ls_seq_k fun K1 hK1 => rn 1 rfl ?_))
 obtain ⟨o1, hl, hr1⟩ := ob_some h
 have kXB1 : ∀ {z2 : List UInt8}, z2 = o1 → Jn K1 [(3, .str z2)] := by
  intro z2 h σ' hk
  subst h
  replace h := hr1
  try dsimp only at h
  refine hK1 _ (lh hk rfl (rs (sp 1 rfl (?_))))
  obtain ⟨g11, h⟩ := chk_some h
  exact qB rfl g11 rfl (sp 1 rfl (evn (ls_ret ((by cases h; exact ⟨.inl rfl, rfl⟩)))))
 refine ls_rec (fun (s : (List UInt8) × Int) => match s with | (y1, y2) => [(0, dL ci64 a0), (3, .str y1), (4, nI y2)]) _ _ _ _ hl (okr rfl) (fun _ => rfl) ?_
 rintro m ⟨y1, y2⟩ N h hN
 unfold spec_l7Vars_B1 at h
 dsimp only at h
 refine ls_seq_k fun K3 hK3 => rn 1 rfl ?_
 rcases cond_some h with ⟨g4, h⟩ | ⟨g4, h⟩
 ·refine qT rfl g4 (ls_skip (hK3 _ (ls_seq_k fun K5 hK5 => ls_blk (rg (sp 3 rfl (?_))))))
  obtain ⟨e6, g7, h⟩ := ob_some h
  refine qI rfl zci64 g7 (sp 1 rfl (?_))
  obtain ⟨v8, g9, h⟩ := ob_some h
  refine qC (qs rfl eran) (spec_VariableName_s g9) (?_)
  obtain ⟨g10, h⟩ := chk_some h
  exact qB rfl g10 rfl (sp 1 rfl (evn (hK5 _ (rg (sp 3 rfl (evn (hN _ _ h (okr rfl))))))))
 ·exact qF rfl g4 (ls_exit (kXB1 (Option.some.inj h) _ (okr rfl)))
def spec_FormatQuery_J2 (rec : ((List UInt8) × Int) → Option ((List UInt8))) (a0 : Y58) (y2 : Int) (x14 : List UInt8) : Option ((List UInt8)) := obind (geti a0.2.1 y2) fun e15 => chk (List.length x14 + List.length e15.1 ≤ lim) (obind (geti a0.2.1 y2) fun e18 => obind (spec_l7Vars e18.2) fun v20 => chk (List.length (x14 ++ e15.1) + List.length v20 ≤ lim) (rec (((x14 ++ e15.1) ++ v20), (IntKind.i64.wrap (y2 + 1)))))
def spec_FormatQuery_B1 (a0 : Y58) (rec : ((List UInt8) × Int) → Option ((List UInt8))) (s : (List UInt8) × Int) : Option ((List UInt8)) := match s with
  | (y1, y2) => cond (decide (y2 < (List.length a0.2.1 : Int))) (cond (decide (0 < y2)) (chk (List.length y1 + List.length [44] ≤ lim) (spec_FormatQuery_J2 rec a0 y2 (y1 ++ [44]))) (spec_FormatQuery_J2 rec a0 y2 y1)) (some y1)
def spec_FormatQuery (a0 : Y58) : Option ((List UInt8)) := obind (spec_IsValidQuery a0) fun v2 => cond (!v2) (some []) (obind (spec_l7Vars a0.2.2) fun v5 => chk (List.length v5 + List.length [61] ≤ lim) (obind (loopF (spec_FormatQuery_B1 a0) fz ((v5 ++ [61]), 0)) fun z9 => some z9))
theorem spec_FormatQuery_s {a0 : Y58} {r : (List UInt8)} (h : spec_FormatQuery a0 = some r) : SoundAt Try.prog 141 [.agg (c59_ddd a0)] (.str r) := by
 unfold spec_FormatQuery at h
 refine st lit141 rfl (rn 1 rfl (ls_seq_k fun K1 hK1 => rs (sp 1 rfl (?_))))
 obtain ⟨v2, g3, h⟩ := ob_some h
 refine qC (qa rfl (erg (erc rfl (erc (erD ec142_d _) (erc (erD eci64 _) rfl)))) eran) (spec_IsValidQuery_s g3) (sp 1 rfl (evn ?_))
 rcases cond_some h with ⟨g4, h⟩ | ⟨g4, h⟩
 ·exact qT rfl g4 (rn 1 rfl (ls_ret ((by cases h; exact ⟨.inl rfl, rfl⟩))))
 ·refine qF rfl g4 (ls_skip (hK1 _ (rs (sp 2 rfl (?_)))))
  obtain ⟨v5, g6, h⟩ := ob_some h
  refine qC (qa rfl (erD eci64 _) eran) (spec_l7Vars_s g6) (?_)
  obtain ⟨g7, h⟩ := chk_some h
  refine qB rfl g7 rfl (sp 1 rfl (evn (ls_seq_k fun K8 hK8 => rn 1 rfl ?_)))
  obtain ⟨o1, hl, hr1⟩ := ob_some h
  have kXB1 : ∀ {z9 : List UInt8}, z9 = o1 → Jn K8 [(3, .str z9)] := by
   intro z9 h σ' hk
   subst h
   replace h := hr1
   try dsimp only at h
   exact hK8 _ (lh hk rfl (rn 1 rfl (ls_ret ((by cases h; exact ⟨.inl rfl, rfl⟩)))))
  refine ls_rec (fun (s : (List UInt8) × Int) => match s with | (y1, y2) => [(1, .box [nI a0.1, dL c142_d a0.2.1, dL ci64 a0.2.2]), (3, .str y1), (4, nI y2)]) _ _ _ _ hl (okr rfl) (fun _ => rfl) ?_
  rintro m ⟨y1, y2⟩ N h hN
  unfold spec_FormatQuery_B1 at h
  dsimp only at h
  refine ls_seq_k fun K10 hK10 => rn 1 rfl ?_
  rcases cond_some h with ⟨g11, h⟩ | ⟨g11, h⟩
  ·refine qT rfl g11 (ls_skip (hK10 _ (ls_seq_k fun K12 hK12 => ls_blk (ls_seq_k fun K13 hK13 => rn 1 rfl ?_))))
   have kJ2 : ∀ {x14 : List UInt8}, spec_FormatQuery_J2 (loopF (spec_FormatQuery_B1 a0) m) a0 y2 x14 = some o1 → Jn K13 [(1, .box [nI a0.1, dL c142_d a0.2.1, dL ci64 a0.2.2]), (3, .str x14), (4, nI y2)] := by
    intro x14 h σ' hk
    unfold spec_FormatQuery_J2 at h
    refine hK13 _ (lh hk rfl (rgd (by kernel_rfl) (sd 4 rfl (?_))))
    obtain ⟨e15, g16, h⟩ := ob_some h
    refine ed rfl (qI rfl zc142_d g16 (sd 2 rfl (?_)))
    obtain ⟨g17, h⟩ := chk_some h
    refine ed rfl (qB rfl g17 rfl (sd 3 rfl (?_)))
    obtain ⟨e18, g19, h⟩ := ob_some h
    refine ed rfl (qI rfl zc142_d g19 (sd 2 rfl (?_)))
    obtain ⟨v20, g21, h⟩ := ob_some h
    refine ed rfl (qC (qa rfl (erD eci64 _) eran) (spec_l7Vars_s g21) (?_))
    obtain ⟨g22, h⟩ := chk_some h
    exact ed rfl (qB rfl g22 rfl (sd 1 rfl (evdn (hK12 _ (rg (sp 3 rfl (evn (hN _ _ h (okr rfl)))))))))
   rcases cond_some h with ⟨g23, h⟩ | ⟨g23, h⟩
   ·refine qT rfl g23 (rg (sp 1 rfl (?_)))
    obtain ⟨g24, h⟩ := chk_some h
    exact qB rfl g24 rfl (sp 1 rfl (evn (kJ2 h _ (okr rfl))))
   ·exact qF rfl g23 (ls_skip (kJ2 h _ (okr rfl)))
  ·exact qF rfl g11 (ls_exit (kXB1 (Option.some.inj h) _ (okr rfl)))
def c142_o (x : Y141) : List V := [.str x.1, oL 3 ci64 x.2]
theorem zc142_o (x : Y141) : (c142_o x).length = 2 := rfl
theorem ec142_o (x : Y141) : erL (c142_o x) = c142_d x := (erc rfl (erc (erO eci64 _) rfl))
def c59_ooo (x : Y58) : List V := [nI x.1, oL 142 c142_o x.2.1, oL 3 ci64 x.2.2]
theorem zc59_ooo (x : Y58) : (c59_ooo x).length = 3 := rfl
theorem ec59_ooo (x : Y58) : erL (c59_ooo x) = c59_ddd x := (erc rfl (erc (erO ec142_o _) (erc (erO eci64 _) rfl)))
def spec_ParseQuery_J4 (rec : (Int × Int) → Option (Int)) (y27 : Int) (x45 : Int) : Option (Int) := rec (x45, (IntKind.i64.wrap (y27 + 1)))
def spec_ParseQuery_B3 (v11 : (List (List UInt8))) (y11 : Int) (y23 : Int) (rec : (Int × Int) → Option (Int)) (s : Int × Int) : Option (Int) := match s with
  | (y26, y27) => cond (decide (y27 < 5)) (obind (spec_VariableName y27) fun v40 => obind (geti v11 y11) fun e42 => chk ((0 : Int) ≤ y23 ∧ y23 ≤ IntKind.i64.wrap (y23 + 1) ∧ IntKind.i64.wrap (y23 + 1) ≤ (List.length e42 : Int)) (cond (v40 == (subl e42 y23 (IntKind.i64.wrap (y23 + 1)))) (spec_ParseQuery_J4 rec y27 (IntKind.i64.wrap (y27 + 1))) (spec_ParseQuery_J4 rec y27 y26))) (some y26)
def spec_ParseQuery_B2 (v11 : (List (List UInt8))) (y11 : Int) (rec : (Int × Int) → Option (Int)) (s : Int × Int) : Option (Int) := match s with
  | (y22, y23) => obind (geti v11 y11) fun e32 => cond (decide (y23 < (List.length e32 : Int))) (obind (loopF (spec_ParseQuery_B3 v11 y11 y23) fz (y22, y22)) fun z36 => rec (z36, (IntKind.i64.wrap (y23 + 1)))) (some y22)
def spec_ParseQuery_B1 (v11 : (List (List UInt8))) (rec : (Int × (List Y141) × Int) → Option (Int × (List Y141))) (s : Int × (List Y141) × Int) : Option (Int × (List Y141)) := match s with
  | (y9, y10, y11) => cond (decide (y11 < (List.length v11 : Int))) (obind (geti v11 y11) fun e19 => obind (spec_l5Cut e19 40) fun v21 => obind (geti v21 0) fun e23 => obind (geti v11 y11) fun e25 => obind (spec_l7List e25) fun v27 => chk (List.length y10 + List.length [(e23, v27)] ≤ lim) (obind (loopF (spec_ParseQuery_B2 v11 y11) fz (y9, 0)) fun z30 => rec (z30, (y10 ++ [(e23, v27)]), (IntKind.i64.wrap (y11 + 1))))) (some (y9, y10))
def spec_ParseQuery (a0 : List UInt8) : Option (Y58 × Bool) := obind (spec_l5Cut a0 61) fun v1 => cond ((List.length v1 : Int) != 2) (some ((0, [], []), false)) (obind (geti v1 0) fun e5 => obind (spec_l7List e5) fun v7 => obind (geti v1 1) fun e9 => obind (spec_l5Cut e9 44) fun v11 => obind (loopF (spec_ParseQuery_B1 v11) fz (0, ([] : List Y141), 0)) fun o1 => (match o1 with
  | (z14, z15) => (obind (spec_FormatQuery (z14, z15, v7)) fun v48 => cond (!(v48 == a0)) (some ((0, [], []), false)) (cond (a0 == []) (some ((0, [], []), false)) (some ((z14, z15, v7), true))))))
theorem spec_ParseQuery_s {a0 : List UInt8} {r : Y58 × Bool} (h : spec_ParseQuery a0 = some r) : SoundAt Try.prog 69 [.str a0] (.tup [.agg (c59_ooo r.1), .bool r.2]) := by
 unfold spec_ParseQuery at h
 refine st lit69 rfl (rn 1 rfl (rs (sp 1 rfl (?_))))
 obtain ⟨v1, g2, h⟩ := ob_some h
 refine qC (qs rfl (qs rfl eran)) (spec_l5Cut_s g2) (sp 1 rfl (evn (ls_seq_k fun K3 hK3 => rn 1 rfl ?_)))
 rcases cond_some h with ⟨g4, h⟩ | ⟨g4, h⟩
 ·exact qT rfl g4 (rn 1 rfl (ls_ret ((by cases h; exact ⟨.inl rfl, rfl⟩))))
 ·refine qF rfl g4 (ls_skip (hK3 _ (rs (sp 1 rfl (?_)))))
  obtain ⟨e5, g6, h⟩ := ob_some h
  refine qI rfl zcst g6 (sp 1 rfl (?_))
  obtain ⟨v7, g8, h⟩ := ob_some h
  refine qC (qs rfl eran) (spec_l7List_s g8) (sp 3 rfl (evn (rs (sp 1 rfl (?_)))))
  obtain ⟨e9, g10, h⟩ := ob_some h
  refine qI rfl zcst g10 (sp 1 rfl (?_))
  obtain ⟨v11, g12, h⟩ := ob_some h
  refine qC (qs rfl (qs rfl eran)) (spec_l5Cut_s g12) (sp 1 rfl (evn (qk [0, 2, 5, 6] rfl (ls_seq_k fun K13 hK13 => rn 1 rfl ?_))))
  obtain ⟨o1, hl, hr1⟩ := ob_some h
  have kXB1 : ∀ {z14 : Int} {z15 : List Y141}, (z14, z15) = o1 → Jn K13 [(0, .str a0), (2, .box [nI 0, oL 142 c142_o [], oL 3 ci64 []]), (5, .box [nI z14, oL 142 c142_o z15, oL 3 ci64 v7])] := by
   intro z14 z15 h σ' hk
   subst h
   replace h := hr1
   try dsimp only at h
   refine hK13 _ (lh hk rfl (ls_seq_k fun K47 hK47 => rs (sp 1 rfl (?_))))
   obtain ⟨v48, g49, h⟩ := ob_some h
   refine qC (qa rfl (erg (erc rfl (erc (erD ec142_o _) (erc (erD eci64 _) rfl)))) eran) (spec_FormatQuery_s g49) (sp 3 rfl (?_))
   rcases cond_some h with ⟨g50, h⟩ | ⟨g50, h⟩
   ·exact qg 84 g50 rfl (sp 3 rfl (evn (qT rfl rfl (rn 1 rfl (ls_ret ((by cases h; exact ⟨.inl rfl, rfl⟩)))))))
   ·refine qg 84 g50 rfl (sp 3 rfl (evn ?_))
    rcases cond_some h with ⟨g51, h⟩ | ⟨g51, h⟩
    ·exact qT rfl g51 (rn 1 rfl (ls_ret ((by cases h; exact ⟨.inl rfl, rfl⟩))))
    ·exact qF rfl g51 (ls_skip (hK47 _ (rn 1 rfl (ls_ret ((by cases h; exact ⟨.inl rfl, rfl⟩))))))
  refine ls_rec (fun (s : Int × (List Y141) × Int) => match s with | (y9, y10, y11) => [(0, .str a0), (2, .box [nI 0, oL 142 c142_o [], oL 3 ci64 []]), (5, .box [nI y9, oL 142 c142_o y10, oL 3 ci64 v7]), (6, oL 9 cst v11), (7, nI y11)]) _ _ _ _ hl (okr rfl) (fun _ => rfl) ?_
  rintro m ⟨y9, y10, y11⟩ N h hN
  unfold spec_ParseQuery_B1 at h
  dsimp only at h
  refine ls_seq_k fun K16 hK16 => rn 1 rfl ?_
  rcases cond_some h with ⟨g17, h⟩ | ⟨g17, h⟩
  ·refine qT rfl g17 (ls_skip (hK16 _ (ls_seq_k fun K18 hK18 => ls_blk (rs (sp 2 rfl (?_))))))
   obtain ⟨e19, g20, h⟩ := ob_some h
   refine qI rfl zcst g20 (sp 1 rfl (?_))
   obtain ⟨v21, g22, h⟩ := ob_some h
   refine qC (qs rfl (qs rfl eran)) (spec_l5Cut_s g22) (sp 1 rfl (evn (rd (by kernel_rfl) (sd 3 rfl (?_)))))
   obtain ⟨e23, g24, h⟩ := ob_some h
   refine ed rfl (qI rfl zcst g24 (sd 3 rfl (?_)))
   obtain ⟨e25, g26, h⟩ := ob_some h
   refine ed rfl (qI rfl zcst g26 (sd 1 rfl (?_)))
   obtain ⟨v27, g28, h⟩ := ob_some h
   refine ed rfl (qC (qs rfl eran) (spec_l7List_s g28) (sd 1 rfl (ed rfl (qBs c142_o [(e23, v27)] rfl rfl rfl zc142_o (?_)))))
   obtain ⟨g29, h⟩ := chk_some h
   refine ed rfl (qA c142_o y10 [(e23, v27)] rfl rfl (flat_len zc142_o [(e23, v27)]) rfl g29 (sd 2 rfl (evdn (rn 1 rfl (qk [0, 2, 5, 6, 7, 9] rfl ?_)))))
   obtain ⟨o2, hl, hr2⟩ := ob_some h
   have kXB2 : ∀ {z30 : Int}, z30 = o2 → Jn K18 [(0, .str a0), (2, .box [nI 0, oL 142 c142_o [], oL 3 ci64 []]), (5, .box [nI z30, oL 142 c142_o (y10 ++ [(e23, v27)]), oL 3 ci64 v7]), (6, oL 9 cst v11), (7, nI y11)] := by
    intro z30 h σ' hk
    subst h
    replace h := hr2
    try dsimp only at h
    exact hK18 _ (lh hk rfl (rg (sp 3 rfl (evn (hN _ _ h (okr rfl))))))
   refine ls_rec (fun (s : Int × Int) => match s with | (y22, y23) => [(0, .str a0), (2, .box [nI 0, oL 142 c142_o [], oL 3 ci64 []]), (5, .box [nI y22, oL 142 c142_o (y10 ++ [(e23, v27)]), oL 3 ci64 v7]), (6, oL 9 cst v11), (7, nI y11), (9, nI y23)]) _ _ _ _ hl (okr rfl) (fun _ => rfl) ?_
   rintro m ⟨y22, y23⟩ N h hN
   unfold spec_ParseQuery_B2 at h
   dsimp only at h
   refine ls_seq_k fun K31 hK31 => rs (sp 3 rfl (?_))
   obtain ⟨e32, g33, h⟩ := ob_some h
   refine qI rfl zcst g33 (sp 3 rfl (evn ?_))
   rcases cond_some h with ⟨g34, h⟩ | ⟨g34, h⟩
   ·refine qT rfl g34 (ls_skip (hK31 _ (ls_seq_k fun K35 hK35 => ls_blk (rn 1 rfl ?_))))
    obtain ⟨o3, hl, hr3⟩ := ob_some h
    have kXB3 : ∀ {z36 : Int}, z36 = o3 → Jn K35 [(0, .str a0), (2, .box [nI 0, oL 142 c142_o [], oL 3 ci64 []]), (5, .box [nI z36, oL 142 c142_o (y10 ++ [(e23, v27)]), oL 3 ci64 v7]), (6, oL 9 cst v11), (7, nI y11), (9, nI y23)] := by
     intro z36 h σ' hk
     subst h
     replace h := hr3
     try dsimp only at h
     exact hK35 _ (lh hk rfl (rg (sp 3 rfl (evn (hN _ _ h (okr rfl))))))
    refine ls_rec (fun (s : Int × Int) => match s with | (y26, y27) => [(0, .str a0), (2, .box [nI 0, oL 142 c142_o [], oL 3 ci64 []]), (5, .box [nI y26, oL 142 c142_o (y10 ++ [(e23, v27)]), oL 3 ci64 v7]), (6, oL 9 cst v11), (7, nI y11), (9, nI y23), (10, nI y27)]) _ _ _ _ hl (okr rfl) (fun _ => rfl) ?_
    rintro m ⟨y26, y27⟩ N h hN
    unfold spec_ParseQuery_B3 at h
    dsimp only at h
    refine ls_seq_k fun K37 hK37 => rn 1 rfl ?_
    rcases cond_some h with ⟨g38, h⟩ | ⟨g38, h⟩
    ·refine qT rfl g38 (ls_skip (hK37 _ (ls_seq_k fun K39 hK39 => ls_blk (rd (by kernel_rfl) (sd 1 rfl (?_))))))
     obtain ⟨v40, g41, h⟩ := ob_some h
     refine ed rfl (qC (qs rfl eran) (spec_VariableName_s g41) (sd 2 rfl (?_)))
     obtain ⟨e42, g43, h⟩ := ob_some h
     refine ed rfl (qI rfl zcst g43 (sd 4 rfl (?_)))
     obtain ⟨g44, h⟩ := chk_some h
     refine ed rfl (qSs rfl g44 (sd 1 rfl (evdn ?_)))
     have kJ4 : ∀ {x45 : Int}, spec_ParseQuery_J4 (loopF (spec_ParseQuery_B3 v11 y11 y23) m) y27 x45 = some o3 → Jn K39 [(0, .str a0), (2, .box [nI 0, oL 142 c142_o [], oL 3 ci64 []]), (5, .box [nI x45, oL 142 c142_o (y10 ++ [(e23, v27)]), oL 3 ci64 v7]), (6, oL 9 cst v11), (7, nI y11), (9, nI y23), (10, nI y27)] := by
      intro x45 h σ' hk
      unfold spec_ParseQuery_J4 at h
      exact hK39 _ (lh hk rfl (rg (sp 3 rfl (evn (hN _ _ h (okr rfl))))))
     rcases cond_some h with ⟨g46, h⟩ | ⟨g46, h⟩
     ·exact qT rfl g46 (rg (sp 4 rfl (evn (kJ4 h _ (okr rfl)))))
     ·exact qF rfl g46 (ls_skip (kJ4 h _ (okr rfl)))
    ·exact qF rfl g38 (ls_exit (kXB3 (Option.some.inj h) _ (okr rfl)))
   ·exact qF rfl g34 (ls_exit (kXB2 (Option.some.inj h) _ (okr rfl)))
  ·exact qF rfl g17 (ls_exit (kXB1 (Option.some.inj h) _ (okr rfl)))
def impl_isLetters_B1 (a0 : List UInt8) (rec : Int → Option (Sum (Unit) (Bool))) (y1 : Int) : Option (Sum (Unit) (Bool)) := cond (decide (y1 < (List.length a0 : Int))) (obind (geti a0 y1) fun b8 => cond (decide ((UInt8.toNat b8 : Int) < 97)) (some (.inr false)) (obind (geti a0 y1) fun b11 => cond (decide (122 < (UInt8.toNat b11 : Int))) (some (.inr false)) (rec (IntKind.i64.wrap (y1 + 1))))) (some (.inl ()))
def impl_isLetters (a0 : List UInt8) (a1 : Int) : Option (Bool) := cond (decide ((List.length a0 : Int) < 1)) (some false) (cond (decide (a1 < (List.length a0 : Int))) (some false) (obind (loopF (impl_isLetters_B1 a0) fz 0) fun o1 => (match o1 with
  | .inl _ => (some true)
  | .inr r => some r)))
theorem impl_isLetters_s {a0 : List UInt8} {a1 : Int} {r : Bool} (h : impl_isLetters a0 a1 = some r) : SoundAt Try.prog 232 [.str a0, nI a1] (.bool r) := by
 unfold impl_isLetters at h
 refine st lit232 rfl (rn 1 rfl (ls_seq_k fun K1 hK1 => rs (sp 4 rfl (?_))))
 rcases cond_some h with ⟨g2, h⟩ | ⟨g2, h⟩
 ·exact qg 9 g2 rfl (sp 5 rfl (evn (qT rfl rfl (rn 1 rfl (ls_ret ((by cases h; exact ⟨.inl rfl, rfl⟩)))))))
 ·refine qg 9 g2 rfl (sp 5 rfl (evn ?_))
  rcases cond_some h with ⟨g3, h⟩ | ⟨g3, h⟩
  ·exact qT rfl g3 (rn 1 rfl (ls_ret ((by cases h; exact ⟨.inl rfl, rfl⟩))))
  ·refine qF rfl g3 (ls_skip (hK1 _ (ls_seq_k fun K4 hK4 => rn 1 rfl (qk [0, 5] rfl ?_))))
   obtain ⟨o1, hl, hr1⟩ := ob_some h
   have kXB1 : (.inl ()) = o1 → Jn K4 [] := by
    intro h σ' hk
    subst h
    replace h := hr1
    try dsimp only at h
    exact hK4 _ (lh hk rfl (rn 1 rfl (ls_ret ((by cases h; exact ⟨.inl rfl, rfl⟩)))))
   refine ls_rec (fun (y1 : Int) => [(0, .str a0), (5, nI y1)]) _ _ _ _ hl (okr rfl) (fun _ => rfl) ?_
   rintro m y1 N h hN
   unfold impl_isLetters_B1 at h
   refine ls_seq_k fun K5 hK5 => rn 1 rfl ?_
   rcases cond_some h with ⟨g6, h⟩ | ⟨g6, h⟩
   ·refine qT rfl g6 (ls_skip (hK5 _ (ls_seq_k fun K7 hK7 => ls_blk (rs (sp 2 rfl (?_))))))
    obtain ⟨b8, g9, h⟩ := ob_some h
    refine qX rfl g9 (sp 2 rfl (?_))
    rcases cond_some h with ⟨g10, h⟩ | ⟨g10, h⟩
    ·exact qg 25 g10 rfl (sp 5 rfl (evn (qT rfl rfl (rn 1 rfl (ls_ret ((by cases h; cases hr1; exact ⟨.inl rfl, rfl⟩)))))))
    ·refine qg 25 g10 rfl (sp 2 rfl (?_))
     obtain ⟨b11, g12, h⟩ := ob_some h
     refine oGR rfl rfl (qX rfl g12 (sp 2 rfl (evn ?_)))
     rcases cond_some h with ⟨g13, h⟩ | ⟨g13, h⟩
     ·exact qT rfl g13 (rn 1 rfl (qk [4] rfl (ls_ret ((by cases h; cases hr1; exact ⟨.inl rfl, rfl⟩)))))
     ·exact qF rfl g13 (ls_skip (hK7 _ (rg (sp 3 rfl (evn (hN _ _ h (okr rfl)))))))
   ·exact qF rfl g6 (ls_exit (kXB1 (Option.some.inj h) _ trivial))
def impl_IsValidName (a0 : List UInt8) : Option (Bool) := obind (impl_isLetters a0 4) fun v1 => some v1
theorem impl_IsValidName_s {a0 : List UInt8} {r : Bool} (h : impl_IsValidName a0 = some r) : SoundAt Try.prog 212 [.str a0] (.bool r) := by
 unfold impl_IsValidName at h
 refine st lit212 rfl (rn 1 rfl (rs (sp 1 rfl (?_))))
 obtain ⟨v1, g2, h⟩ := ob_some h
 exact qC (qs rfl (qs rfl eran)) (impl_isLetters_s g2) (sp 1 rfl (evn (ls_ret ((by cases h; exact ⟨.inl rfl, rfl⟩)))))
abbrev Y106 := (List UInt8) × Y25
def c107_dd (x : Y106) : List V := [.str x.1, nI x.2.1, dL c31_d x.2.2]
theorem zc107_dd (x : Y106) : (c107_dd x).length = 3 := rfl
theorem ec107_dd (x : Y106) : erL (c107_dd x) = c107_dd x := (erc rfl (erc rfl (erc (erD ec31_d _) rfl)))
def impl_IsValidDatabase_J2 (rec : Int → Option (Sum (Unit) (Bool))) (y1 : Int) (x10 : Bool) : Option (Sum (Unit) (Bool)) := cond x10 (some (.inr false)) (rec (IntKind.i64.wrap (y1 + 1)))
def impl_IsValidDatabase_B1 (a0 : List Y106) (rec : Int → Option (Sum (Unit) (Bool))) (y1 : Int) : Option (Sum (Unit) (Bool)) := cond (decide (y1 < (List.length a0 : Int))) (obind (geti a0 y1) fun e7 => obind (impl_IsValidName e7.1) fun v12 => cond (!v12) (impl_IsValidDatabase_J2 rec y1 true) (cond (decide (0 < y1)) (obind (geti a0 (IntKind.i64.wrap (y1 - 1))) fun e16 => cond (!Op.bytesLess e16.1 e7.1) (impl_IsValidDatabase_J2 rec y1 true) (obind (impl_IsValidRelation e7.2) fun v19 => cond (!v19) (impl_IsValidDatabase_J2 rec y1 true) (cond (decide (e7.2.1 < 1)) (impl_IsValidDatabase_J2 rec y1 true) (impl_IsValidDatabase_J2 rec y1 (decide (16 < (List.length e7.2.2 : Int))))))) (obind (impl_IsValidRelation e7.2) fun v23 => cond (!v23) (impl_IsValidDatabase_J2 rec y1 true) (cond (decide (e7.2.1 < 1)) (impl_IsValidDatabase_J2 rec y1 true) (impl_IsValidDatabase_J2 rec y1 (decide (16 < (List.length e7.2.2 : Int)))))))) (some (.inl ()))
def impl_IsValidDatabase (a0 : List Y106) : Option (Bool) := cond (decide (6 < (List.length a0 : Int))) (some false) (obind (loopF (impl_IsValidDatabase_B1 a0) fz 0) fun o1 => (match o1 with
  | .inl _ => (some true)
  | .inr r => some r))
theorem impl_IsValidDatabase_s {a0 : List Y106} {r : Bool} (h : impl_IsValidDatabase a0 = some r) : SoundAt Try.prog 176 [.agg [dL c107_dd a0]] (.bool r) := by
 unfold impl_IsValidDatabase at h
 refine st lit176 rfl (rn 1 rfl (ls_seq_k fun K1 hK1 => rn 1 rfl ?_))
 rcases cond_some h with ⟨g2, h⟩ | ⟨g2, h⟩
 ·exact qT rfl g2 (rn 1 rfl (ls_ret ((by cases h; exact ⟨.inl rfl, rfl⟩))))
 ·refine qF rfl g2 (ls_skip (hK1 _ (ls_seq_k fun K3 hK3 => rn 1 rfl ?_)))
  obtain ⟨o1, hl, hr1⟩ := ob_some h
  have kXB1 : (.inl ()) = o1 → Jn K3 [] := by
   intro h σ' hk
   subst h
   replace h := hr1
   try dsimp only at h
   exact hK3 _ (lh hk rfl (rn 1 rfl (ls_ret ((by cases h; exact ⟨.inl rfl, rfl⟩)))))
  refine ls_rec (fun (y1 : Int) => [(1, .box [dL c107_dd a0]), (10, dL c107_dd a0), (11, nI (List.length a0 : Int)), (12, nI y1)]) _ _ _ _ hl (okr rfl) (fun _ => rfl) ?_
  rintro m y1 N h hN
  unfold impl_IsValidDatabase_B1 at h
  refine rn 1 rfl (ls_seq_k fun K4 hK4 => ?_)
  rcases cond_some h with ⟨g5, h⟩ | ⟨g5, h⟩
  ·refine qT rfl g5 (ls_skip (hK4 _ (ls_seq_k fun K6 hK6 => ls_blk (rs (sp 1 rfl (?_))))))
   obtain ⟨e7, g8, h⟩ := ob_some h
   refine qI rfl zc107_dd g8 (sp 4 rfl (evn (rdk (by kernel_rfl) fun K9 hK9 => ?_)))
   have kJ2 : ∀ {x10 : Bool}, impl_IsValidDatabase_J2 (loopF (impl_IsValidDatabase_B1 a0) m) y1 x10 = some o1 → Jn K9 [(1, .box [dL c107_dd a0]), (10, dL c107_dd a0), (11, nI (List.length a0 : Int)), (12, nI y1), (55, .bool x10)] := by
    intro x10 h σ' hk
    unfold impl_IsValidDatabase_J2 at h
    refine hK9 _ (lh hk rfl ?_)
    rcases cond_some h with ⟨g11, h⟩ | ⟨g11, h⟩
    ·exact qT rfl g11 (rn 1 rfl (ls_ret ((by cases h; cases hr1; exact ⟨.inl rfl, rfl⟩))))
    ·exact qF rfl g11 (ls_skip (hK6 _ (rg (sp 2 rfl (evn (hN _ _ h (okr rfl)))))))
   refine sd 2 rfl (?_)
   obtain ⟨v12, g13, h⟩ := ob_some h
   refine ed rfl (qC (qs rfl eran) (impl_IsValidName_s g13) (sd 2 rfl (?_)))
   rcases cond_some h with ⟨g14, h⟩ | ⟨g14, h⟩
   ·exact qgd 21 g14 rfl (sd 34 rfl (evdn (kJ2 h _ (okr rfl))))
   ·refine qgd 21 g14 rfl (sd 3 rfl (?_))
    rcases cond_some h with ⟨g15, h⟩ | ⟨g15, h⟩
    ·refine qgd 24 g15 rfl (sd 4 rfl (?_))
     obtain ⟨e16, g17, h⟩ := ob_some h
     refine ed rfl (oGR rfl rfl (qI rfl zc107_dd g17 (sd 8 rfl (?_))))
     rcases cond_some h with ⟨g18, h⟩ | ⟨g18, h⟩
     ·exact qgd 37 g18 rfl (sd 18 rfl (evdn (kJ2 h _ (okr rfl))))
     ·refine qgd 37 g18 rfl (sd 2 rfl (?_))
      obtain ⟨v19, g20, h⟩ := ob_some h
      refine ed rfl (oGR rfl rfl (qC (qa rfl (erg (erc rfl (erc (erD ec31_d _) rfl))) eran) (impl_IsValidRelation_s g20) (sd 3 rfl (?_))))
      rcases cond_some h with ⟨g21, h⟩ | ⟨g21, h⟩
      ·exact qgd 43 g21 rfl (sd 12 rfl (evdn (kJ2 h _ (okr rfl))))
      ·refine qgd 43 g21 rfl (sd 6 rfl (?_))
       rcases cond_some h with ⟨g22, h⟩ | ⟨g22, h⟩
       ·exact qgd 49 g22 rfl (sd 6 rfl (evdn (kJ2 h _ (okr rfl))))
       ·exact qgd 49 g22 rfl (sd 6 rfl (evdn (kJ2 h _ (okr rfl))))
    ·refine qgd 24 g15 rfl (sd 15 rfl (?_))
     obtain ⟨v23, g24, h⟩ := ob_some h
     refine ed rfl (oGR rfl rfl (qC (qa rfl (erg (erc rfl (erc (erD ec31_d _) rfl))) eran) (impl_IsValidRelation_s g24) (sd 3 rfl (?_))))
     rcases cond_some h with ⟨g25, h⟩ | ⟨g25, h⟩
     ·exact qgd 43 g25 rfl (sd 12 rfl (evdn (kJ2 h _ (okr rfl))))
     ·refine qgd 43 g25 rfl (sd 6 rfl (?_))
      rcases cond_some h with ⟨g26, h⟩ | ⟨g26, h⟩
      ·exact qgd 49 g26 rfl (sd 6 rfl (evdn (kJ2 h _ (okr rfl))))
      ·exact qgd 49 g26 rfl (sd 6 rfl (evdn (kJ2 h _ (okr rfl))))
  ·exact qF rfl g5 (ls_exit (kXB1 (Option.some.inj h) _ trivial))
def impl_copyRelation (a0 : Y25) : Option (Y25) := obind (impl_copyRows a0.2) fun v1 => some (a0.1, v1)
theorem impl_copyRelation_s {a0 : Y25} {r : Y25} (h : impl_copyRelation a0 = some r) : SoundAt Try.prog 177 [.agg (c26_dd a0)] (.agg (c26_oo r)) := by
 unfold impl_copyRelation at h
 refine st lit177 rfl (rn 1 rfl (rd (by kernel_rfl) (sd 4 rfl (?_))))
 obtain ⟨v1, g2, h⟩ := ob_some h
 exact ed rfl (qC (qa rfl (erD ec31_d _) eran) (impl_copyRows_s g2) (sd 2 rfl (evdn (ls_ret ((by cases h; exact ⟨.inl rfl, rfl⟩))))))
def impl_LookupRelation_J1  : Option (Y25 × Bool) := some ((0, []), false)
def impl_LookupRelation_B2 (a0 : List Y106) (a1 : List UInt8) (rec : Int → Option (Sum (Unit) (Y25 × Bool))) (y2 : Int) : Option (Sum (Unit) (Y25 × Bool)) := cond (decide (y2 < (List.length a0 : Int))) (obind (geti a0 y2) fun e8 => cond (e8.1 == a1) (obind (impl_copyRelation e8.2) fun v11 => some (.inr (v11, true))) (rec (IntKind.i64.wrap (y2 + 1)))) (some (.inl ()))
def impl_LookupRelation (a0 : List Y106) (a1 : List UInt8) : Option (Y25 × Bool) := obind (impl_IsValidDatabase a0) fun v2 => cond v2 (obind (loopF (impl_LookupRelation_B2 a0 a1) fz 0) fun o2 => (match o2 with
  | .inl _ => (impl_LookupRelation_J1 )
  | .inr r => some r)) (impl_LookupRelation_J1 )
theorem impl_LookupRelation_s {a0 : List Y106} {a1 : List UInt8} {r : Y25 × Bool} (h : impl_LookupRelation a0 a1 = some r) : SoundAt Try.prog 95 [.agg [dL c107_dd a0], .str a1] (.tup [.agg (c26_oo r.1), .bool r.2]) := by
 unfold impl_LookupRelation at h
 refine st lit95 rfl (rn 1 rfl (ls_seq_k fun K1 hK1 => rs (sp 1 rfl (?_))))
 obtain ⟨v2, g3, h⟩ := ob_some h
 refine qC (qa rfl (erg (erc (erD ec107_dd _) rfl)) eran) (impl_IsValidDatabase_s g3) (evn ?_)
 have kJ1 : impl_LookupRelation_J1 = some r → Jn K1 [(4, .box [nI 0, oL 31 c31_o []])] := by
  intro h σ' hk
  unfold impl_LookupRelation_J1 at h
  exact hK1 _ (lh hk rfl (rn 1 rfl (ls_ret ((by cases h; exact ⟨.inl rfl, rfl⟩)))))
 rcases cond_some h with ⟨g4, h⟩ | ⟨g4, h⟩
 ·refine qT rfl g4 (rn 1 rfl ?_)
  obtain ⟨o2, hl, hr2⟩ := ob_some h
  have kXB2 : (.inl ()) = o2 → Jn K1 [(4, .box [nI 0, oL 31 c31_o []])] := by
   intro h σ' hk
   subst h
   replace h := hr2
   try dsimp only at h
   exact kJ1 h _ ⟨hk.1, trivial⟩
  refine ls_rec (fun (y2 : Int) => [(1, .str a1), (4, .box [nI 0, oL 31 c31_o []]), (11, dL c107_dd a0), (12, nI (List.length a0 : Int)), (13, nI y2)]) _ _ _ _ hl (okr rfl) (fun _ => rfl) ?_
  rintro m y2 N h hN
  unfold impl_LookupRelation_B2 at h
  refine rn 1 rfl (ls_seq_k fun K5 hK5 => ?_)
  rcases cond_some h with ⟨g6, h⟩ | ⟨g6, h⟩
  ·refine qT rfl g6 (ls_skip (hK5 _ (ls_seq_k fun K7 hK7 => ls_blk (rs ?_))))
   obtain ⟨e8, g9, h⟩ := ob_some h
   refine qI rfl zc107_dd g9 (sp 3 rfl (evn (rn 1 rfl ?_)))
   rcases cond_some h with ⟨g10, h⟩ | ⟨g10, h⟩
   ·refine qT rfl g10 (rs (sp 2 rfl (?_)))
    obtain ⟨v11, g12, h⟩ := ob_some h
    exact qC (qa rfl (erg (erc rfl (erc (erD ec31_d _) rfl))) eran) (impl_copyRelation_s g12) (sp 2 rfl (evn (ls_ret ((by cases h; cases hr2; exact ⟨.inl rfl, rfl⟩)))))
   ·exact qF rfl g10 (ls_skip (hK7 _ (rg (sp 2 rfl (evn (hN _ _ h (okr rfl)))))))
  ·exact qF rfl g6 (ls_exit (kXB2 (Option.some.inj h) _ (okr rfl)))
 ·exact qF rfl g4 (ls_skip (kJ1 h _ (okr rfl)))
def impl_indexOf_B1 (a0 : List Int) (a1 : Int) (rec : Int → Option (Sum (Unit) (Int))) (y1 : Int) : Option (Sum (Unit) (Int)) := cond (decide (y1 < (List.length a0 : Int))) (obind (geti a0 y1) fun e5 => cond (e5 == a1) (some (.inr y1)) (rec (IntKind.i64.wrap (y1 + 1)))) (some (.inl ()))
def impl_indexOf (a0 : List Int) (a1 : Int) : Option (Int) := obind (loopF (impl_indexOf_B1 a0 a1) fz 0) fun o1 => (match o1 with
  | .inl _ => (some (-1))
  | .inr r => some r)
theorem impl_indexOf_s {a0 : List Int} {a1 : Int} {r : Int} (h : impl_indexOf a0 a1 = some r) : SoundAt Try.prog 87 [dL ci64 a0, nI a1] (nI r) := by
 unfold impl_indexOf at h
 refine st lit87 rfl (rn 1 rfl (ls_seq_k fun K1 hK1 => rn 1 rfl ?_))
 obtain ⟨o1, hl, hr1⟩ := ob_some h
 have kXB1 : (.inl ()) = o1 → Jn K1 [] := by
  intro h σ' hk
  subst h
  replace h := hr1
  try dsimp only at h
  exact hK1 _ (lh hk rfl (rn 1 rfl (ls_ret ((by cases h; exact ⟨.inl rfl, rfl⟩)))))
 refine ls_rec (fun (y1 : Int) => [(1, nI a1), (7, dL ci64 a0), (8, nI (List.length a0 : Int)), (9, nI y1)]) _ _ _ _ hl (okr rfl) (fun _ => rfl) ?_
 rintro m y1 N h hN
 unfold impl_indexOf_B1 at h
 refine rn 1 rfl (ls_seq_k fun K2 hK2 => ?_)
 rcases cond_some h with ⟨g3, h⟩ | ⟨g3, h⟩
 ·refine qT rfl g3 (ls_skip (hK2 _ (ls_seq_k fun K4 hK4 => ls_blk (rs (sp 1 rfl (?_))))))
  obtain ⟨e5, g6, h⟩ := ob_some h
  refine qI rfl zci64 g6 (sp 3 rfl (evn (rn 1 rfl ?_)))
  rcases cond_some h with ⟨g7, h⟩ | ⟨g7, h⟩
  ·exact qT rfl g7 (rn 1 rfl (ls_ret ((by cases h; cases hr1; exact ⟨.inl rfl, rfl⟩))))
  ·exact qF rfl g7 (ls_skip (hK4 _ (rg (sp 2 rfl (evn (hN _ _ h (okr rfl)))))))
 ·exact qF rfl g3 (ls_exit (kXB1 (Option.some.inj h) _ trivial))
def impl_hasInt (a0 : List Int) (a1 : Int) : Option (Bool) := obind (impl_indexOf a0 a1) fun v1 => some (decide (0 ≤ v1))
theorem impl_hasInt_s {a0 : List Int} {a1 : Int} {r : Bool} (h : impl_hasInt a0 a1 = some r) : SoundAt Try.prog 230 [dL ci64 a0, nI a1] (.bool r) := by
 unfold impl_hasInt at h
 refine st lit230 rfl (rn 1 rfl (rs (sp 2 rfl (?_))))
 obtain ⟨v1, g2, h⟩ := ob_some h
 exact qC (qa rfl (erD eci64 _) (qs rfl eran)) (impl_indexOf_s g2) (sp 2 rfl (evn (ls_ret ((by cases h; exact ⟨.inl rfl, rfl⟩)))))
def impl_isSetOf_B1 (a0 : List Int) (a1 : Int) (rec : Int → Option (Sum (Unit) (Bool))) (y1 : Int) : Option (Sum (Unit) (Bool)) := cond (decide (y1 < (List.length a0 : Int))) (obind (geti a0 y1) fun e5 => obind (impl_within e5 0 (IntKind.i64.wrap (a1 - 1))) fun v7 => cond (!v7) (some (.inr false)) (chk ((0 : Int) ≤ 0 ∧ 0 ≤ y1 ∧ y1 ≤ (List.length a0 : Int)) (obind (impl_hasInt (subl a0 0 y1) e5) fun v11 => cond v11 (some (.inr false)) (rec (IntKind.i64.wrap (y1 + 1)))))) (some (.inl ()))
def impl_isSetOf (a0 : List Int) (a1 : Int) : Option (Bool) := obind (loopF (impl_isSetOf_B1 a0 a1) fz 0) fun o1 => (match o1 with
  | .inl _ => (some true)
  | .inr r => some r)
theorem impl_isSetOf_s {a0 : List Int} {a1 : Int} {r : Bool} (h : impl_isSetOf a0 a1 = some r) : SoundAt Try.prog 211 [dL ci64 a0, nI a1] (.bool r) := by
 unfold impl_isSetOf at h
 refine st lit211 rfl (rn 1 rfl (ls_seq_k fun K1 hK1 => rn 1 rfl ?_))
 obtain ⟨o1, hl, hr1⟩ := ob_some h
 have kXB1 : (.inl ()) = o1 → Jn K1 [] := by
  intro h σ' hk
  subst h
  replace h := hr1
  try dsimp only at h
  exact hK1 _ (lh hk rfl (rn 1 rfl (ls_ret ((by cases h; exact ⟨.inl rfl, rfl⟩)))))
 refine ls_rec (fun (y1 : Int) => [(0, dL ci64 a0), (1, nI a1), (7, dL ci64 a0), (8, nI (List.length a0 : Int)), (9, nI y1)]) _ _ _ _ hl (okr rfl) (fun _ => rfl) ?_
 rintro m y1 N h hN
 unfold impl_isSetOf_B1 at h
 refine rn 1 rfl (ls_seq_k fun K2 hK2 => ?_)
 rcases cond_some h with ⟨g3, h⟩ | ⟨g3, h⟩
 ·refine qT rfl g3 (ls_skip (hK2 _ (ls_seq_k fun K4 hK4 => ls_blk (rs (sp 1 rfl (?_))))))
  obtain ⟨e5, g6, h⟩ := ob_some h
  refine qI rfl zci64 g6 (sp 3 rfl (evn (rs (sp 3 rfl (?_)))))
  obtain ⟨v7, g8, h⟩ := ob_some h
  refine qC (qs rfl (qs rfl (qs rfl eran))) (impl_within_s g8) (sp 2 rfl (?_))
  rcases cond_some h with ⟨g9, h⟩ | ⟨g9, h⟩
  ·exact qg 19 g9 rfl (sp 6 rfl (evn (qT rfl rfl (rn 1 rfl (ls_ret ((by cases h; cases hr1; exact ⟨.inl rfl, rfl⟩)))))))
  ·refine qg 19 g9 rfl (sp 2 rfl (?_))
   obtain ⟨g10, h⟩ := chk_some h
   refine oGR rfl rfl (qSl rfl zci64 g10 (sp 1 rfl (?_)))
   obtain ⟨v11, g12, h⟩ := ob_some h
   refine oGR rfl rfl (qC (qa rfl (erD eci64 _) (qs rfl eran)) (impl_hasInt_s g12) (sp 1 rfl (evn (qk [0, 1, 7, 8, 9, 25] rfl ?_))))
   rcases cond_some h with ⟨g13, h⟩ | ⟨g13, h⟩
   ·exact qT rfl g13 (rn 1 rfl (ls_ret ((by cases h; cases hr1; exact ⟨.inl rfl, rfl⟩))))
   ·exact qF rfl g13 (ls_skip (hK4 _ (rg (sp 2 rfl (evn (hN _ _ h (okr rfl)))))))
 ·exact qF rfl g3 (ls_exit (kXB1 (Option.some.inj h) _ trivial))
def impl_IsValidQuery_B2 (a0 : Y58) (e17 : Y141) (rec : ((List Bool) × Int) → Option (Sum ((List Bool)) (Bool))) (s : (List Bool) × Int) : Option (Sum ((List Bool)) (Bool)) := match s with
  | (y7, y8) => cond (decide (y8 < (List.length e17.2 : Int))) (obind (geti e17.2 y8) fun e30 => obind (impl_within e30 0 (IntKind.i64.wrap (a0.1 - 1))) fun v33 => cond (!v33) (some (.inr false)) (obind (geti y7 e30) fun e36 => rec ((seti y7 e30 true), (IntKind.i64.wrap (y8 + 1))))) (some (.inl y7))
def impl_IsValidQuery_B1 (a0 : Y58) (rec : ((List Bool) × Int) → Option (Sum ((List Bool)) (Bool))) (s : (List Bool) × Int) : Option (Sum ((List Bool)) (Bool)) := match s with
  | (y3, y4) => cond (decide (y4 < (List.length a0.2.1 : Int))) (obind (geti a0.2.1 y4) fun e17 => obind (impl_IsValidName e17.1) fun v20 => cond (!v20) (some (.inr false)) (obind (impl_within (List.length e17.2 : Int) 1 5) fun v23 => cond (!v23) (some (.inr false)) (obind (loopF (impl_IsValidQuery_B2 a0 e17) fz (y3, 0)) fun o2 => (match o2 with
  | .inl z26 => (rec (z26, (IntKind.i64.wrap (y4 + 1))))
  | .inr r => some (.inr r))))) (some (.inl y3))
def impl_IsValidQuery_B3 (z13 : List Bool) (rec : Int → Option (Sum (Unit) (Bool))) (y9 : Int) : Option (Sum (Unit) (Bool)) := cond (decide (y9 < (List.length z13 : Int))) (obind (geti z13 y9) fun e42 => cond (!e42) (some (.inr false)) (rec (IntKind.i64.wrap (y9 + 1)))) (some (.inl ()))
def impl_IsValidQuery (a0 : Y58) : Option (Bool) := obind (impl_within a0.1 1 5) fun v2 => cond (!v2) (some false) (obind (impl_within (List.length a0.2.1 : Int) 1 4) fun v5 => cond (!v5) (some false) (obind (impl_isSetOf a0.2.2 a0.1) fun v8 => cond (!v8) (some false) (chk ((0 : Int) ≤ a0.1 ∧ Int.toNat a0.1 ≤ lim) (obind (loopF (impl_IsValidQuery_B1 a0) fz ((List.replicate (Int.toNat a0.1) (false : Bool)), 0)) fun o1 => (match o1 with
  | .inl z13 => (obind (loopF (impl_IsValidQuery_B3 z13) fz 0) fun o3 => (match o3 with
  | .inl _ => (some true)
  | .inr r => some r))
  | .inr r => some r)))))
theorem impl_IsValidQuery_s {a0 : Y58} {r : Bool} (h : impl_IsValidQuery a0 = some r) : SoundAt Try.prog 150 [.agg (c59_ddd a0)] (.bool r) := by
 unfold impl_IsValidQuery at h
 refine st lit150 rfl (rn 2 rfl (ls_seq_k fun K1 hK1 => rs (sp 1 rfl (?_))))
 obtain ⟨v2, g3, h⟩ := ob_some h
 refine qC (qs rfl (qs rfl (qs rfl eran))) (impl_within_s g3) (sp 2 rfl (?_))
 rcases cond_some h with ⟨g4, h⟩ | ⟨g4, h⟩
 ·exact qg 16 g4 rfl (sp 13 rfl (evn (qT rfl rfl (rn 1 rfl (ls_ret ((by cases h; exact ⟨.inl rfl, rfl⟩)))))))
 ·refine qg 16 g4 rfl (sp 3 rfl (?_))
  obtain ⟨v5, g6, h⟩ := ob_some h
  refine oGR rfl rfl (qC (qs rfl (qs rfl (qs rfl eran))) (impl_within_s g6) (sp 3 rfl (?_)))
  rcases cond_some h with ⟨g7, h⟩ | ⟨g7, h⟩
  ·exact qg 23 g7 rfl (sp 6 rfl (evn (qk [1, 3, 29] rfl (qT rfl rfl (rn 1 rfl (ls_ret ((by cases h; exact ⟨.inl rfl, rfl⟩))))))))
  ·refine qg 23 g7 rfl (sp 3 rfl (?_))
   obtain ⟨v8, g9, h⟩ := ob_some h
   refine oGR rfl rfl (qC (qa rfl (erD eci64 _) (qs rfl eran)) (impl_isSetOf_s g9) (sp 2 rfl (evn ?_)))
   rcases cond_some h with ⟨g10, h⟩ | ⟨g10, h⟩
   ·exact qT rfl g10 (rn 1 rfl (ls_ret ((by cases h; exact ⟨.inl rfl, rfl⟩))))
   ·refine qF rfl g10 (ls_skip (hK1 _ (rs (sp 1 rfl (?_)))))
    obtain ⟨g11, h⟩ := chk_some h
    refine qMu cbl (false : Bool) rfl rfl rfl rfl g11 rfl (qAu rfl rfl rfl rfl (evn (ls_seq_k fun K12 hK12 => rn 1 rfl ?_)))
    obtain ⟨o1, hl, hr1⟩ := ob_some h
    have kXB1 : ∀ {z13 : List Bool}, (.inl z13) = o1 → Jn K12 [(4, wL 4 cbl z13)] := by
     intro z13 h σ' hk
     subst h
     replace h := hr1
     try dsimp only at h
     refine hK12 _ (lh hk rfl (ls_seq_k fun K38 hK38 => rn 1 rfl ?_))
     obtain ⟨o3, hl, hr3⟩ := ob_some h
     have kXB3 : (.inl ()) = o3 → Jn K38 [] := by
      intro h σ' hk
      subst h
      replace h := hr3
      try dsimp only at h
      exact hK38 _ (lh hk rfl (rn 1 rfl (ls_ret ((by cases h; exact ⟨.inl rfl, rfl⟩)))))
     refine ls_rec (fun (y9 : Int) => [(4, wL 4 cbl z13), (67, .same 4), (68, nI (List.length z13 : Int)), (69, nI y9)]) _ _ _ _ hl (okr rfl) (fun _ => rfl) ?_
     rintro m y9 N h hN
     unfold impl_IsValidQuery_B3 at h
     refine rn 1 rfl (ls_seq_k fun K39 hK39 => ?_)
     rcases cond_some h with ⟨g40, h⟩ | ⟨g40, h⟩
     ·refine qT rfl g40 (ls_skip (hK39 _ (ls_seq_k fun K41 hK41 => ls_blk (rs ?_))))
      obtain ⟨e42, g43, h⟩ := ob_some h
      refine qIu rfl ⟨(geti_some g43).1, (geti_some g43).2.1⟩ (qLu 0 rfl rfl rfl zcbl g43 rfl rfl rfl (sp 1 rfl (evn (rn 1 rfl ?_))))
      rcases cond_some h with ⟨g44, h⟩ | ⟨g44, h⟩
      ·exact qT rfl g44 (rn 1 rfl (ls_ret ((by cases h; cases hr3; exact ⟨.inl rfl, rfl⟩))))
      ·exact qF rfl g44 (ls_skip (hK41 _ (rg (sp 2 rfl (evn (hN _ _ h (okr rfl)))))))
     ·exact qF rfl g40 (ls_exit (kXB3 (Option.some.inj h) _ trivial))
    refine ls_rec (fun (s : (List Bool) × Int) => match s with | (y3, y4) => [(3, nI a0.1), (4, wL 4 cbl y3), (33, dL c142_d a0.2.1), (34, nI (List.length a0.2.1 : Int)), (35, nI y4)]) _ _ _ _ hl (okr rfl) (fun _ => rfl) ?_
    rintro m ⟨y3, y4⟩ N h hN
    unfold impl_IsValidQuery_B1 at h
    dsimp only at h
    refine rn 1 rfl (ls_seq_k fun K14 hK14 => ?_)
    rcases cond_some h with ⟨g15, h⟩ | ⟨g15, h⟩
    ·refine qT rfl g15 (ls_skip (hK14 _ (ls_seq_k fun K16 hK16 => ls_blk (rs ?_))))
     obtain ⟨e17, g18, h⟩ := ob_some h
     refine qI rfl zc142_d g18 (sp 3 rfl (evn (ls_seq_k fun K19 hK19 => rs (sp 2 rfl (?_)))))
     obtain ⟨v20, g21, h⟩ := ob_some h
     refine qC (qs rfl eran) (impl_IsValidName_s g21) (sp 2 rfl (?_))
     rcases cond_some h with ⟨g22, h⟩ | ⟨g22, h⟩
     ·exact qg 43 g22 rfl (sp 6 rfl (evn (qT rfl rfl (rn 1 rfl (ls_ret ((by cases h; cases hr1; exact ⟨.inl rfl, rfl⟩)))))))
     ·refine qg 43 g22 rfl (sp 3 rfl (?_))
      obtain ⟨v23, g24, h⟩ := ob_some h
      refine oGR rfl rfl (qC (qs rfl (qs rfl (qs rfl eran))) (impl_within_s g24) (sp 2 rfl (evn (qk [3, 4, 6, 33, 34, 35, 49] rfl ?_))))
      rcases cond_some h with ⟨g25, h⟩ | ⟨g25, h⟩
      ·exact qT rfl g25 (rn 1 rfl (ls_ret ((by cases h; cases hr1; exact ⟨.inl rfl, rfl⟩))))
      ·refine qF rfl g25 (ls_skip (hK19 _ (rn 1 rfl ?_)))
       obtain ⟨o2, hl, hr2⟩ := ob_some h
       have kXB2 : ∀ {z26 : List Bool}, (.inl z26) = o2 → Jn K16 [(3, nI a0.1), (4, wL 4 cbl z26), (33, dL c142_d a0.2.1), (34, nI (List.length a0.2.1 : Int)), (35, nI y4)] := by
        intro z26 h σ' hk
        subst h
        replace h := hr2
        try dsimp only at h
        exact hK16 _ (lh hk rfl (rg (sp 2 rfl (evn (hN _ _ h (okr rfl))))))
       refine ls_rec (fun (s : (List Bool) × Int) => match s with | (y7, y8) => [(3, nI a0.1), (4, wL 4 cbl y7), (33, dL c142_d a0.2.1), (34, nI (List.length a0.2.1 : Int)), (35, nI y4), (51, dL ci64 e17.2), (52, nI (List.length e17.2 : Int)), (53, nI y8)]) _ _ _ _ hl (okr rfl) (fun _ => rfl) ?_
       rintro m ⟨y7, y8⟩ N h hN
       unfold impl_IsValidQuery_B2 at h
       dsimp only at h
       refine rn 1 rfl (ls_seq_k fun K27 hK27 => ?_)
       rcases cond_some h with ⟨g28, h⟩ | ⟨g28, h⟩
       ·refine qT rfl g28 (ls_skip (hK27 _ (ls_seq_k fun K29 hK29 => ls_blk (rs ?_))))
        obtain ⟨e30, g31, h⟩ := ob_some h
        refine qI rfl zci64 g31 (sp 2 rfl (evn (ls_seq_k fun K32 hK32 => rs (sp 3 rfl (?_)))))
        obtain ⟨v33, g34, h⟩ := ob_some h
        refine qC (qs rfl (qs rfl (qs rfl eran))) (impl_within_s g34) (sp 1 rfl (evn ?_))
        rcases cond_some h with ⟨g35, h⟩ | ⟨g35, h⟩
        ·exact qT rfl g35 (rn 1 rfl (ls_ret ((by cases h; cases hr2; cases hr1; exact ⟨.inl rfl, rfl⟩))))
        ·refine qF rfl g35 (ls_skip (hK32 _ (rg (sp 2 rfl (?_)))))
         obtain ⟨e36, g37, h⟩ := ob_some h
         exact qIu rfl ⟨(geti_some g37).1, (geti_some g37).2.1⟩ (qSu true rfl rfl zcbl ⟨(geti_some g37).1, (geti_some g37).2.1⟩ rfl rfl rfl rfl rfl rfl (evn (hK29 _ (rg (sp 2 rfl (evn (hN _ _ h (okr rfl))))))))
       ·exact qF rfl g28 (ls_exit (kXB2 (Option.some.inj h) _ (okr rfl)))
    ·exact qF rfl g15 (ls_exit (kXB1 (Option.some.inj h) _ (okr rfl)))
def impl_IsQueryFor_B1 (a0 : List Y106) (a1 : Y58) (rec : Int → Option (Sum (Unit) (Bool))) (y1 : Int) : Option (Sum (Unit) (Bool)) := cond (decide (y1 < (List.length a1.2.1 : Int))) (obind (geti a1.2.1 y1) fun e12 => obind (impl_LookupRelation a0 e12.1) fun v14 => cond (!v14.2) (some (.inr false)) (cond (v14.1.1 != (List.length e12.2 : Int)) (some (.inr false)) (rec (IntKind.i64.wrap (y1 + 1))))) (some (.inl ()))
def impl_IsQueryFor (a0 : List Y106) (a1 : Y58) : Option (Bool) := obind (impl_IsValidQuery a1) fun v2 => cond (!v2) (some false) (obind (impl_IsValidDatabase a0) fun v5 => cond (!v5) (some false) (obind (loopF (impl_IsQueryFor_B1 a0 a1) fz 0) fun o1 => (match o1 with
  | .inl _ => (some true)
  | .inr r => some r)))
theorem impl_IsQueryFor_s {a0 : List Y106} {a1 : Y58} {r : Bool} (h : impl_IsQueryFor a0 a1 = some r) : SoundAt Try.prog 142 [.agg [dL c107_dd a0], .agg (c59_ddd a1)] (.bool r) := by
 unfold impl_IsQueryFor at h
 refine st lit142 rfl (rn 1 rfl (ls_seq_k fun K1 hK1 => rs (sp 1 rfl (?_))))
 obtain ⟨v2, g3, h⟩ := ob_some h
 refine qC (qa rfl (erg (erc rfl (erc (erD ec142_d _) (erc (erD eci64 _) rfl)))) eran) (impl_IsValidQuery_s g3) (sp 2 rfl (?_))
 rcases cond_some h with ⟨g4, h⟩ | ⟨g4, h⟩
 ·exact qg 12 g4 rfl (sp 4 rfl (evn (qT rfl rfl (rn 1 rfl (ls_ret ((by cases h; exact ⟨.inl rfl, rfl⟩)))))))
 ·refine qg 12 g4 rfl (sp 1 rfl (?_))
  obtain ⟨v5, g6, h⟩ := ob_some h
  refine oGR rfl rfl (qC (qa rfl (erg (erc (erD ec107_dd _) rfl)) eran) (impl_IsValidDatabase_s g6) (sp 2 rfl (evn ?_)))
  rcases cond_some h with ⟨g7, h⟩ | ⟨g7, h⟩
  ·exact qT rfl g7 (rn 1 rfl (ls_ret ((by cases h; exact ⟨.inl rfl, rfl⟩))))
  ·refine qF rfl g7 (ls_skip (hK1 _ (ls_seq_k fun K8 hK8 => rn 1 rfl (qk [2, 18, 19, 20] rfl ?_))))
   obtain ⟨o1, hl, hr1⟩ := ob_some h
   have kXB1 : (.inl ()) = o1 → Jn K8 [] := by
    intro h σ' hk
    subst h
    replace h := hr1
    try dsimp only at h
    exact hK8 _ (lh hk rfl (rn 1 rfl (ls_ret ((by cases h; exact ⟨.inl rfl, rfl⟩)))))
   refine ls_rec (fun (y1 : Int) => [(2, .box [dL c107_dd a0]), (18, dL c142_d a1.2.1), (19, nI (List.length a1.2.1 : Int)), (20, nI y1)]) _ _ _ _ hl (okr rfl) (fun _ => rfl) ?_
   rintro m y1 N h hN
   unfold impl_IsQueryFor_B1 at h
   refine rn 1 rfl (ls_seq_k fun K9 hK9 => ?_)
   rcases cond_some h with ⟨g10, h⟩ | ⟨g10, h⟩
   ·refine qT rfl g10 (ls_skip (hK9 _ (ls_seq_k fun K11 hK11 => ls_blk (rs ?_))))
    obtain ⟨e12, g13, h⟩ := ob_some h
    refine qI rfl zc142_d g13 (sp 3 rfl (evn (rs (sp 3 rfl (?_)))))
    obtain ⟨v14, g15, h⟩ := ob_some h
    refine qC (qa rfl (erg (erc (erD ec107_dd _) rfl)) (qs rfl eran)) (impl_LookupRelation_s g15) (sp 6 rfl (evn (rs (sp 3 rfl (?_)))))
    rcases cond_some h with ⟨g16, h⟩ | ⟨g16, h⟩
    ·exact qg 33 g16 rfl (sp 7 rfl (evn (qT rfl rfl (rn 1 rfl (qk [4] rfl (ls_ret ((by cases h; cases hr1; exact ⟨.inl rfl, rfl⟩))))))))
    ·refine qg 33 g16 rfl (sp 7 rfl (evn ?_))
     rcases cond_some h with ⟨g17, h⟩ | ⟨g17, h⟩
     ·exact qT rfl g17 (rn 1 rfl (ls_ret ((by cases h; cases hr1; exact ⟨.inl rfl, rfl⟩))))
     ·exact qF rfl g17 (ls_skip (hK11 _ (rg (sp 2 rfl (evn (hN _ _ h (okr rfl)))))))
   ·exact qF rfl g10 (ls_exit (kXB1 (Option.some.inj h) _ trivial))
def impl_ContainsVariable (a0 : Y141) (a1 : Int) : Option (Bool) := obind (impl_hasInt a0.2 a1) fun v1 => some v1
theorem impl_ContainsVariable_s {a0 : Y141} {a1 : Int} {r : Bool} (h : impl_ContainsVariable a0 a1 = some r) : SoundAt Try.prog 220 [.agg (c142_d a0), nI a1] (.bool r) := by
 unfold impl_ContainsVariable at h
 refine st lit220 rfl (rn 1 rfl (rs (sp 3 rfl (?_))))
 obtain ⟨v1, g2, h⟩ := ob_some h
 exact qC (qa rfl (erD eci64 _) (qs rfl eran)) (impl_hasInt_s g2) (sp 1 rfl (evn (ls_ret ((by cases h; exact ⟨.inl rfl, rfl⟩)))))
def impl_AtomVariables_J2 (rec : ((List Int) × Int) → Option ((List Int))) (y2 : Int) (x8 : List Int) : Option ((List Int)) := rec (x8, (IntKind.i64.wrap (y2 + 1)))
def impl_AtomVariables_B1 (a0 : Y141) (rec : ((List Int) × Int) → Option ((List Int))) (s : (List Int) × Int) : Option ((List Int)) := match s with
  | (y1, y2) => cond (decide (y2 < 5)) (obind (impl_ContainsVariable a0 y2) fun v6 => cond v6 (chk (List.length y1 + List.length [y2] ≤ lim) (impl_AtomVariables_J2 rec y2 (y1 ++ [y2]))) (impl_AtomVariables_J2 rec y2 y1)) (some y1)
def impl_AtomVariables (a0 : Y141) : Option ((List Int)) := obind (loopF (impl_AtomVariables_B1 a0) fz (([] : List Int), 0)) fun z2 => some z2
theorem impl_AtomVariables_s {a0 : Y141} {r : (List Int)} (h : impl_AtomVariables a0 = some r) : SoundAt Try.prog 164 [.agg (c142_d a0)] (oL 3 ci64 r) := by
 unfold impl_AtomVariables at h
 refine st lit164 rfl (rn 2 rfl (ls_seq_k fun K1 hK1 => rn 1 rfl ?_))
 obtain ⟨o1, hl, hr1⟩ := ob_some h
 have kXB1 : ∀ {z2 : List Int}, z2 = o1 → Jn K1 [(3, oL 3 ci64 z2)] := by
  intro z2 h σ' hk
  subst h
  replace h := hr1
  try dsimp only at h
  exact hK1 _ (lh hk rfl (rn 1 rfl (ls_ret ((by cases h; exact ⟨.inl rfl, rfl⟩)))))
 refine ls_rec (fun (s : (List Int) × Int) => match s with | (y1, y2) => [(1, .box [.str a0.1, dL ci64 a0.2]), (3, oL 3 ci64 y1), (4, nI y2)]) _ _ _ _ hl (okr rfl) (fun _ => rfl) ?_
 rintro m ⟨y1, y2⟩ N h hN
 unfold impl_AtomVariables_B1 at h
 dsimp only at h
 refine ls_seq_k fun K3 hK3 => rn 1 rfl ?_
 rcases cond_some h with ⟨g4, h⟩ | ⟨g4, h⟩
 ·refine qT rfl g4 (ls_skip (hK3 _ (ls_seq_k fun K5 hK5 => ls_blk (rs (sp 2 rfl (?_))))))
  obtain ⟨v6, g7, h⟩ := ob_some h
  refine qC (qa rfl (erg (erc rfl (erc (erD eci64 _) rfl))) (qs rfl eran)) (impl_ContainsVariable_s g7) (evn ?_)
  have kJ2 : ∀ {x8 : List Int}, impl_AtomVariables_J2 (loopF (impl_AtomVariables_B1 a0) m) y2 x8 = some o1 → Jn K5 [(1, .box [.str a0.1, dL ci64 a0.2]), (3, oL 3 ci64 x8), (4, nI y2)] := by
   intro x8 h σ' hk
   unfold impl_AtomVariables_J2 at h
   exact hK5 _ (lh hk rfl (rg (sp 3 rfl (evn (hN _ _ h (okr rfl))))))
  rcases cond_some h with ⟨g9, h⟩ | ⟨g9, h⟩
  ·refine qT rfl g9 (rg (sp 2 rfl (qBs ci64 [y2] rfl rfl rfl zci64 (?_))))
   obtain ⟨g10, h⟩ := chk_some h
   exact qA ci64 y1 [y2] rfl rfl (flat_len zci64 [y2]) rfl g10 (sp 1 rfl (evn (kJ2 h _ (okr rfl))))
  ·exact qF rfl g9 (ls_skip (kJ2 h _ (okr rfl)))
 ·exact qF rfl g4 (ls_exit (kXB1 (Option.some.inj h) _ (okr rfl)))
def impl_pick_B1 (a0 : List Int) (a1 : List Int) (rec : ((List Int) × Int) → Option ((List Int))) (s : (List Int) × Int) : Option ((List Int)) := match s with
  | (y1, y2) => cond (decide (y2 < (List.length a1 : Int))) (obind (geti a1 y2) fun e6 => obind (geti a0 e6) fun e8 => chk (List.length y1 + List.length [e8] ≤ lim) (rec ((y1 ++ [e8]), (IntKind.i64.wrap (y2 + 1))))) (some y1)
def impl_pick (a0 : List Int) (a1 : List Int) : Option ((List Int)) := obind (loopF (impl_pick_B1 a0 a1) fz (([] : List Int), 0)) fun z2 => some z2
theorem impl_pick_s {a0 : List Int} {a1 : List Int} {r : (List Int)} (h : impl_pick a0 a1 = some r) : SoundAt Try.prog 97 [dL ci64 a0, dL ci64 a1] (oL 3 ci64 r) := by
 unfold impl_pick at h
 refine st lit97 rfl (rn 1 rfl (rs (qBs ci64 [] rfl rfl rfl zci64 (sp 1 rfl (evn (ls_seq_k fun K1 hK1 => rn 1 rfl ?_))))))
 obtain ⟨o1, hl, hr1⟩ := ob_some h
 have kXB1 : ∀ {z2 : List Int}, z2 = o1 → Jn K1 [(5, oL 3 ci64 z2)] := by
  intro z2 h σ' hk
  subst h
  replace h := hr1
  try dsimp only at h
  exact hK1 _ (lh hk rfl (rn 1 rfl (ls_ret ((by cases h; exact ⟨.inl rfl, rfl⟩)))))
 refine ls_rec (fun (s : (List Int) × Int) => match s with | (y1, y2) => [(0, dL ci64 a0), (5, oL 3 ci64 y1), (9, dL ci64 a1), (10, nI (List.length a1 : Int)), (11, nI y2)]) _ _ _ _ hl (okr rfl) (fun _ => rfl) ?_
 rintro m ⟨y1, y2⟩ N h hN
 unfold impl_pick_B1 at h
 dsimp only at h
 refine rn 1 rfl (ls_seq_k fun K3 hK3 => ?_)
 rcases cond_some h with ⟨g4, h⟩ | ⟨g4, h⟩
 ·refine qT rfl g4 (ls_skip (hK3 _ (ls_seq_k fun K5 hK5 => ls_blk (rs ?_))))
  obtain ⟨e6, g7, h⟩ := ob_some h
  refine qI rfl zci64 g7 (sp 2 rfl (evn (rg (sp 3 rfl (?_)))))
  obtain ⟨e8, g9, h⟩ := ob_some h
  refine qI rfl zci64 g9 (sp 1 rfl (qBs ci64 [e8] rfl rfl rfl zci64 (?_)))
  obtain ⟨g10, h⟩ := chk_some h
  exact qA ci64 y1 [e8] rfl rfl (flat_len zci64 [e8]) rfl g10 (sp 1 rfl (evn (hK5 _ (rg (sp 2 rfl (evn (hN _ _ h (okr rfl))))))))
 ·exact qF rfl g4 (ls_exit (kXB1 (Option.some.inj h) _ (okr rfl)))
def impl_columnsFit_B1 (a0 : Int) (a1 : List Int) (rec : Int → Option (Sum (Unit) (Bool))) (y1 : Int) : Option (Sum (Unit) (Bool)) := cond (decide (y1 < (List.length a1 : Int))) (obind (geti a1 y1) fun e7 => obind (impl_within e7 0 (IntKind.i64.wrap (a0 - 1))) fun v9 => cond (!v9) (some (.inr false)) (rec (IntKind.i64.wrap (y1 + 1)))) (some (.inl ()))
def impl_columnsFit (a0 : Int) (a1 : List Int) : Option (Bool) := cond (decide (5 < (List.length a1 : Int))) (some false) (obind (loopF (impl_columnsFit_B1 a0 a1) fz 0) fun o1 => (match o1 with
  | .inl _ => (some true)
  | .inr r => some r))
theorem impl_columnsFit_s {a0 : Int} {a1 : List Int} {r : Bool} (h : impl_columnsFit a0 a1 = some r) : SoundAt Try.prog 203 [nI a0, dL ci64 a1] (.bool r) := by
 unfold impl_columnsFit at h
 refine st lit203 rfl (rn 1 rfl (ls_seq_k fun K1 hK1 => rn 1 rfl ?_))
 rcases cond_some h with ⟨g2, h⟩ | ⟨g2, h⟩
 ·exact qT rfl g2 (rn 1 rfl (ls_ret ((by cases h; exact ⟨.inl rfl, rfl⟩))))
 ·refine qF rfl g2 (ls_skip (hK1 _ (ls_seq_k fun K3 hK3 => rn 1 rfl ?_)))
  obtain ⟨o1, hl, hr1⟩ := ob_some h
  have kXB1 : (.inl ()) = o1 → Jn K3 [] := by
   intro h σ' hk
   subst h
   replace h := hr1
   try dsimp only at h
   exact hK3 _ (lh hk rfl (rn 1 rfl (ls_ret ((by cases h; exact ⟨.inl rfl, rfl⟩)))))
  refine ls_rec (fun (y1 : Int) => [(0, nI a0), (10, dL ci64 a1), (11, nI (List.length a1 : Int)), (12, nI y1)]) _ _ _ _ hl (okr rfl) (fun _ => rfl) ?_
  rintro m y1 N h hN
  unfold impl_columnsFit_B1 at h
  refine rn 1 rfl (ls_seq_k fun K4 hK4 => ?_)
  rcases cond_some h with ⟨g5, h⟩ | ⟨g5, h⟩
  ·refine qT rfl g5 (ls_skip (hK4 _ (ls_seq_k fun K6 hK6 => ls_blk (rs ?_))))
   obtain ⟨e7, g8, h⟩ := ob_some h
   refine qI rfl zci64 g8 (sp 2 rfl (evn (rs (sp 3 rfl (?_)))))
   obtain ⟨v9, g10, h⟩ := ob_some h
   refine qC (qs rfl (qs rfl (qs rfl eran))) (impl_within_s g10) (sp 1 rfl (evn ?_))
   rcases cond_some h with ⟨g11, h⟩ | ⟨g11, h⟩
   ·exact qT rfl g11 (rn 1 rfl (ls_ret ((by cases h; cases hr1; exact ⟨.inl rfl, rfl⟩))))
   ·exact qF rfl g11 (ls_skip (hK6 _ (rg (sp 2 rfl (evn (hN _ _ h (okr rfl)))))))
  ·exact qF rfl g5 (ls_exit (kXB1 (Option.some.inj h) _ trivial))
def impl_AtomBindings_J3 (rec : ((List Int) × Bool × Int) → Option ((List Int) × Bool)) (e16 : List Int) (y9 : List Int) (y11 : Int) (e25 : Int) (x30 : Bool) : Option ((List Int) × Bool) := obind (geti e16 y11) fun e31 => obind (geti y9 e25) fun e33 => rec ((seti y9 e25 e31), x30, (IntKind.i64.wrap (y11 + 1)))
def impl_AtomBindings_B2 (a1 : Y141) (e16 : List Int) (rec : ((List Int) × Bool × Int) → Option ((List Int) × Bool)) (s : (List Int) × Bool × Int) : Option ((List Int) × Bool) := match s with
  | (y9, y10, y11) => cond (decide (y11 < (List.length a1.2 : Int))) (obind (geti a1.2 y11) fun e25 => obind (impl_indexOf a1.2 e25) fun v27 => cond y10 (obind (geti e16 v27) fun e36 => obind (geti e16 y11) fun e38 => impl_AtomBindings_J3 rec e16 y9 y11 e25 (e36 == e38)) (impl_AtomBindings_J3 rec e16 y9 y11 e25 false)) (some (y9, y10))
def impl_AtomBindings_J4 (rec : ((List (List Int)) × Int) → Option ((List (List Int)))) (y5 : Int) (x40 : List (List Int)) : Option ((List (List Int))) := rec (x40, (IntKind.i64.wrap (y5 + 1)))
def impl_AtomBindings_B1 (a1 : Y141) (v1 : (List Int)) (v3 : Y25 × Bool) (rec : ((List (List Int)) × Int) → Option ((List (List Int)))) (s : (List (List Int)) × Int) : Option ((List (List Int))) := match s with
  | (y4, y5) => cond (decide (y5 < (List.length v3.1.2 : Int))) (obind (geti v3.1.2 y5) fun e16 => chk ((0 : Int) ≤ 5 ∧ Int.toNat 5 ≤ lim) (obind (loopF (impl_AtomBindings_B2 a1 e16) fz ((List.replicate (Int.toNat 5) (0 : Int)), true, 0)) fun o2 => (match o2 with
  | (z20, z21) => (cond z21 (obind (impl_pick z20 v1) fun v42 => chk (List.length y4 + List.length [v42] ≤ lim) (impl_AtomBindings_J4 rec y5 (y4 ++ [v42]))) (impl_AtomBindings_J4 rec y5 y4))))) (some y4)
def impl_AtomBindings (a0 : List Y106) (a1 : Y141) : Option (Y25) := obind (impl_AtomVariables a1) fun v1 => obind (impl_LookupRelation a0 a1.1) fun v3 => cond (!v3.2) (some ((List.length v1 : Int), [])) (cond (v3.1.1 != (List.length a1.2 : Int)) (some ((List.length v1 : Int), [])) (obind (impl_columnsFit 5 a1.2) fun v8 => cond (!v8) (some ((List.length v1 : Int), [])) (obind (loopF (impl_AtomBindings_B1 a1 v1 v3) fz (([] : List (List Int)), 0)) fun z12 => obind (impl_sorted z12) fun v45 => some ((List.length v1 : Int), v45))))
theorem impl_AtomBindings_s {a0 : List Y106} {a1 : Y141} {r : Y25} (h : impl_AtomBindings a0 a1 = some r) : SoundAt Try.prog 200 [.agg [dL c107_dd a0], .agg (c142_d a1)] (.agg (c26_oo r)) := by
 unfold impl_AtomBindings at h
 refine st lit200 rfl (rn 1 rfl (rs (sp 1 rfl (?_))))
 obtain ⟨v1, g2, h⟩ := ob_some h
 refine qC (qa rfl (erg (erc rfl (erc (erD eci64 _) rfl))) eran) (impl_AtomVariables_s g2) (sp 1 rfl (evn (rn 1 rfl (rs (sp 3 rfl (?_))))))
 obtain ⟨v3, g4, h⟩ := ob_some h
 refine qC (qa rfl (erg (erc (erD ec107_dd _) rfl)) (qs rfl eran)) (impl_LookupRelation_s g4) (sp 6 rfl (evn (ls_seq_k fun K5 hK5 => rs (sp 3 rfl (?_)))))
 rcases cond_some h with ⟨g6, h⟩ | ⟨g6, h⟩
 ·exact qg 31 g6 rfl (sp 13 rfl (evn (qk [3, 4, 5, 6, 7, 44] rfl (qT rfl rfl (rn 1 rfl (ls_ret ((by cases h; exact ⟨.inl rfl, rfl⟩))))))))
 ·refine qg 31 g6 rfl (sp 8 rfl (?_))
  rcases cond_some h with ⟨g7, h⟩ | ⟨g7, h⟩
  ·exact qg 39 g7 rfl (sp 5 rfl (evn (qT rfl rfl (rn 1 rfl (ls_ret ((by cases h; exact ⟨.inl rfl, rfl⟩)))))))
  ·refine qg 39 g7 rfl (sp 2 rfl (?_))
   obtain ⟨v8, g9, h⟩ := ob_some h
   refine oGR rfl rfl (qC (qs rfl (qa rfl (erD eci64 _) eran)) (impl_columnsFit_s g9) (sp 2 rfl (evn ?_)))
   rcases cond_some h with ⟨g10, h⟩ | ⟨g10, h⟩
   ·exact qT rfl g10 (rn 1 rfl (ls_ret ((by cases h; exact ⟨.inl rfl, rfl⟩))))
   ·refine qF rfl g10 (ls_skip (hK5 _ (qk [3, 4, 5, 6, 7] rfl (rn 1 rfl (ls_seq_k fun K11 hK11 => rn 1 rfl ?_)))))
    obtain ⟨o1, hl, hr1⟩ := ob_some h
    have kXB1 : ∀ {z12 : List (List Int)}, z12 = o1 → Jn K11 [(4, .box [nI 0, oL 31 c31_o []]), (6, .box [nI (List.length v1 : Int), oL 31 c31_o []]), (9, oL 31 c31_o z12)] := by
     intro z12 h σ' hk
     subst h
     replace h := hr1
     try dsimp only at h
     refine hK11 _ (lh hk rfl (rs (sp 1 rfl (?_))))
     obtain ⟨v45, g46, h⟩ := ob_some h
     exact qC (qa rfl (erD ec31_o _) eran) (impl_sorted_s g46) (sp 2 rfl (evn (rn 1 rfl (ls_ret ((by cases h; exact ⟨.inl rfl, rfl⟩))))))
    refine ls_rec (fun (s : (List (List Int)) × Int) => match s with | (y4, y5) => [(3, .box [.str a1.1, dL ci64 a1.2]), (4, .box [nI 0, oL 31 c31_o []]), (5, oL 3 ci64 v1), (6, .box [nI (List.length v1 : Int), oL 31 c31_o []]), (9, oL 31 c31_o y4), (47, dL c31_o v3.1.2), (48, nI (List.length v3.1.2 : Int)), (49, nI y5)]) _ _ _ _ hl (okr rfl) (fun _ => rfl) ?_
    rintro m ⟨y4, y5⟩ N h hN
    unfold impl_AtomBindings_B1 at h
    dsimp only at h
    refine rn 1 rfl (ls_seq_k fun K13 hK13 => ?_)
    rcases cond_some h with ⟨g14, h⟩ | ⟨g14, h⟩
    ·refine qT rfl g14 (ls_skip (hK13 _ (ls_seq_k fun K15 hK15 => ls_blk (rs ?_))))
     obtain ⟨e16, g17, h⟩ := ob_some h
     refine qI rfl zc31_o g17 (sp 2 rfl (evn (rs ?_)))
     obtain ⟨g18, h⟩ := chk_some h
     refine qMu ci64 (0 : Int) rfl rfl rfl rfl g18 rfl (qAu rfl rfl rfl rfl (evn (rn 1 rfl (ls_seq_k fun K19 hK19 => rn 1 rfl ?_))))
     obtain ⟨o2, hl, hr2⟩ := ob_some h
     have kXB2 : ∀ {z20 : List Int} {z21 : Bool}, (z20, z21) = o2 → Jn K19 [(3, .box [.str a1.1, dL ci64 a1.2]), (4, .box [nI 0, oL 31 c31_o []]), (5, oL 3 ci64 v1), (6, .box [nI (List.length v1 : Int), oL 31 c31_o []]), (9, oL 31 c31_o y4), (12, wL 3 ci64 z20), (13, .bool z21), (47, dL c31_o v3.1.2), (48, nI (List.length v3.1.2 : Int)), (49, nI y5)] := by
      intro z20 z21 h σ' hk
      subst h
      replace h := hr2
      try dsimp only at h
      refine hK19 _ (lh hk rfl (rn 1 rfl ?_))
      have kJ4 : ∀ {x40 : List (List Int)}, impl_AtomBindings_J4 (loopF (impl_AtomBindings_B1 a1 v1 v3) m) y5 x40 = some o1 → Jn K15 [(3, .box [.str a1.1, dL ci64 a1.2]), (4, .box [nI 0, oL 31 c31_o []]), (5, oL 3 ci64 v1), (6, .box [nI (List.length v1 : Int), oL 31 c31_o []]), (9, oL 31 c31_o x40), (47, dL c31_o v3.1.2), (48, nI (List.length v3.1.2 : Int)), (49, nI y5)] := by
       intro x40 h σ' hk
       unfold impl_AtomBindings_J4 at h
       exact hK15 _ (lh hk rfl (rg (sp 2 rfl (evn (hN _ _ h (okr rfl))))))
      rcases cond_some h with ⟨g41, h⟩ | ⟨g41, h⟩
      ·refine qT rfl g41 (rg (sp 1 rfl (qTu rfl rfl rfl (sp 1 rfl (?_)))))
       obtain ⟨v42, g43, h⟩ := ob_some h
       refine qC (qa rfl (erO eci64 _) (qa rfl (erD eci64 _) eran)) (impl_pick_s g43) (qBs c31_o [v42] rfl rfl rfl zc31_o (?_))
       obtain ⟨g44, h⟩ := chk_some h
       exact qA c31_o y4 [v42] rfl rfl (flat_len zc31_o [v42]) rfl g44 (sp 1 rfl (evn (kJ4 h _ (okr rfl))))
      ·exact qF rfl g41 (ls_skip (kJ4 h _ (okr rfl)))
     refine ls_rec (fun (s : (List Int) × Bool × Int) => match s with | (y9, y10, y11) => [(3, .box [.str a1.1, dL ci64 a1.2]), (4, .box [nI 0, oL 31 c31_o []]), (5, oL 3 ci64 v1), (6, .box [nI (List.length v1 : Int), oL 31 c31_o []]), (9, oL 31 c31_o y4), (11, dL ci64 e16), (12, wL 3 ci64 y9), (13, .bool y10), (47, dL c31_o v3.1.2), (48, nI (List.length v3.1.2 : Int)), (49, nI y5), (55, dL ci64 a1.2), (56, nI (List.length a1.2 : Int)), (57, nI y11)]) _ _ _ _ hl (okr rfl) (fun _ => rfl) ?_
     rintro m ⟨y9, y10, y11⟩ N h hN
     unfold impl_AtomBindings_B2 at h
     dsimp only at h
     refine rn 1 rfl (ls_seq_k fun K22 hK22 => ?_)
     rcases cond_some h with ⟨g23, h⟩ | ⟨g23, h⟩
     ·refine qT rfl g23 (ls_skip (hK22 _ (ls_seq_k fun K24 hK24 => ls_blk (rs (sp 1 rfl (?_))))))
      obtain ⟨e25, g26, h⟩ := ob_some h
      refine qI rfl zci64 g26 (sp 3 rfl (evn (rs (sp 3 rfl (?_)))))
      obtain ⟨v27, g28, h⟩ := ob_some h
      refine qC (qa rfl (erD eci64 _) (qs rfl eran)) (impl_indexOf_s g28) (sp 1 rfl (evn (rdk (by kernel_rfl) fun K29 hK29 => ?_)))
      have kJ3 : ∀ {x30 : Bool}, impl_AtomBindings_J3 (loopF (impl_AtomBindings_B2 a1 e16) m) e16 y9 y11 e25 x30 = some o2 → Jn K29 [(3, .box [.str a1.1, dL ci64 a1.2]), (4, .box [nI 0, oL 31 c31_o []]), (5, oL 3 ci64 v1), (6, .box [nI (List.length v1 : Int), oL 31 c31_o []]), (9, oL 31 c31_o y4), (11, dL ci64 e16), (12, wL 3 ci64 y9), (13, .bool x30), (14, nI y11), (15, nI e25), (47, dL c31_o v3.1.2), (48, nI (List.length v3.1.2 : Int)), (49, nI y5), (55, dL ci64 a1.2), (56, nI (List.length a1.2 : Int)), (57, nI y11)] := by
       intro x30 h σ' hk
       unfold impl_AtomBindings_J3 at h
       refine hK29 _ (lh hk rfl (rg (sp 4 rfl (?_))))
       obtain ⟨e31, g32, h⟩ := ob_some h
       refine qI rfl zci64 g32 (sp 1 rfl (?_))
       obtain ⟨e33, g34, h⟩ := ob_some h
       exact qIu rfl ⟨(geti_some g34).1, (geti_some g34).2.1⟩ (qSu e31 rfl rfl zci64 ⟨(geti_some g34).1, (geti_some g34).2.1⟩ rfl rfl rfl rfl rfl rfl (evn (hK24 _ (rg (sp 2 rfl (evn (hN _ _ h (okr rfl))))))))
      refine sd 2 rfl (?_)
      rcases cond_some h with ⟨g35, h⟩ | ⟨g35, h⟩
      ·refine qgd 67 g35 rfl (sd 2 rfl (?_))
       obtain ⟨e36, g37, h⟩ := ob_some h
       refine ed rfl (oGR rfl rfl (qI rfl zci64 g37 (sd 3 rfl (?_))))
       obtain ⟨e38, g39, h⟩ := ob_some h
       exact ed rfl (oGR rfl rfl (qI rfl zci64 g39 (sd 4 rfl (evdn (kJ3 h _ (okr rfl))))))
      ·exact qgd 67 g35 rfl (sd 11 rfl (evdn (kJ3 h _ (okr rfl))))
     ·exact qF rfl g23 (ls_exit (kXB2 (Option.some.inj h) _ (okr rfl)))
    ·exact qF rfl g14 (ls_exit (kXB1 (Option.some.inj h) _ (okr rfl)))
abbrev Y177 := (List Int) × Y25
def c178_ddd (x : Y177) : List V := [dL ci64 x.1, nI x.2.1, dL c31_d x.2.2]
theorem zc178_ddd (x : Y177) : (c178_ddd x).length = 3 := rfl
theorem ec178_ddd (x : Y177) : erL (c178_ddd x) = c178_ddd x := (erc (erD eci64 _) (erc rfl (erc (erD ec31_d _) rfl)))
def c178_ooo (x : Y177) : List V := [oL 3 ci64 x.1, nI x.2.1, oL 31 c31_o x.2.2]
theorem zc178_ooo (x : Y177) : (c178_ooo x).length = 3 := rfl
theorem ec178_ooo (x : Y177) : erL (c178_ooo x) = c178_ddd x := (erc (erO eci64 _) (erc rfl (erc (erO ec31_o _) rfl)))
def impl_AtomRelation (a0 : List Y106) (a1 : Y141) : Option (Y177) := obind (impl_AtomVariables a1) fun v1 => obind (impl_AtomBindings a0 a1) fun v3 => some (v1, v3)
theorem impl_AtomRelation_s {a0 : List Y106} {a1 : Y141} {r : Y177} (h : impl_AtomRelation a0 a1 = some r) : SoundAt Try.prog 143 [.agg [dL c107_dd a0], .agg (c142_d a1)] (.agg (c178_ooo r)) := by
 unfold impl_AtomRelation at h
 refine st lit143 rfl (rn 1 rfl (rd (by kernel_rfl) (sd 1 rfl (?_))))
 obtain ⟨v1, g2, h⟩ := ob_some h
 refine ed rfl (qC (qa rfl (erg (erc rfl (erc (erD eci64 _) rfl))) eran) (impl_AtomVariables_s g2) (sd 2 rfl (?_)))
 obtain ⟨v3, g4, h⟩ := ob_some h
 exact ed rfl (qC (qa rfl (erg (erc (erD ec107_dd _) rfl)) (qa rfl (erg (erc rfl (erc (erD eci64 _) rfl))) eran)) (impl_AtomBindings_s g4) (sd 2 rfl (evdn (ls_ret ((by cases h; exact ⟨.inl rfl, rfl⟩))))))
def impl_unite_B2 (y2 : List Int) (e8 : Int) (rec : Int → Option (Int)) (y5 : Int) : Option (Int) := cond (decide (y5 < (List.length y2 : Int))) (obind (geti y2 y5) fun e14 => cond (decide (e14 < e8)) (rec (IntKind.i64.wrap (y5 + 1))) (some y5)) (some y5)
def impl_unite_J4 (rec : ((List Int) × Int) → Option ((List Int))) (y3 : Int) (x19 : List Int) : Option ((List Int)) := rec (x19, (IntKind.i64.wrap (y3 + 1)))
def impl_unite_J3 (rec : ((List Int) × Int) → Option ((List Int))) (y2 : List Int) (y3 : Int) (e8 : Int) (z11 : Int) (x18 : Bool) : Option ((List Int)) := cond x18 (chk ((0 : Int) ≤ 0 ∧ 0 ≤ z11 ∧ z11 ≤ (List.length y2 : Int)) (obind (impl_copyInts (subl y2 0 z11)) fun v22 => chk (List.length v22 + List.length [e8] ≤ lim) (chk ((0 : Int) ≤ z11 ∧ z11 ≤ (List.length y2 : Int) ∧ (List.length y2 : Int) ≤ (List.length y2 : Int)) (chk (List.length (v22 ++ [e8]) + List.length (subl y2 z11 (List.length y2 : Int)) ≤ lim) (impl_unite_J4 rec y3 ((v22 ++ [e8]) ++ (subl y2 z11 (List.length y2 : Int)))))))) (impl_unite_J4 rec y3 y2)
def impl_unite_B1 (a1 : List Int) (rec : ((List Int) × Int) → Option ((List Int))) (s : (List Int) × Int) : Option ((List Int)) := match s with
  | (y2, y3) => cond (decide (y3 < (List.length a1 : Int))) (obind (geti a1 y3) fun e8 => obind (loopF (impl_unite_B2 y2 e8) fz 0) fun z11 => cond (z11 == (List.length y2 : Int)) (impl_unite_J3 rec y2 y3 e8 z11 true) (obind (geti y2 z11) fun e28 => impl_unite_J3 rec y2 y3 e8 z11 (e28 != e8))) (some y2)
def impl_unite (a0 : List Int) (a1 : List Int) : Option ((List Int)) := obind (impl_copyInts a0) fun v1 => obind (loopF (impl_unite_B1 a1) fz (v1, 0)) fun z4 => some z4
theorem impl_unite_s {a0 : List Int} {a1 : List Int} {r : (List Int)} (h : impl_unite a0 a1 = some r) : SoundAt Try.prog 163 [dL ci64 a0, dL ci64 a1] (oL 3 ci64 r) := by
 unfold impl_unite at h
 refine st lit163 rfl (rn 1 rfl (rs (sp 1 rfl (?_))))
 obtain ⟨v1, g2, h⟩ := ob_some h
 refine qC (qa rfl (erD eci64 _) eran) (impl_copyInts_s g2) (sp 1 rfl (evn (ls_seq_k fun K3 hK3 => rn 1 rfl ?_)))
 obtain ⟨o1, hl, hr1⟩ := ob_some h
 have kXB1 : ∀ {z4 : List Int}, z4 = o1 → Jn K3 [(5, oL 3 ci64 z4)] := by
  intro z4 h σ' hk
  subst h
  replace h := hr1
  try dsimp only at h
  exact hK3 _ (lh hk rfl (rn 1 rfl (ls_ret ((by cases h; exact ⟨.inl rfl, rfl⟩)))))
 refine ls_rec (fun (s : (List Int) × Int) => match s with | (y2, y3) => [(5, oL 3 ci64 y2), (11, dL ci64 a1), (12, nI (List.length a1 : Int)), (13, nI y3)]) _ _ _ _ hl (okr rfl) (fun _ => rfl) ?_
 rintro m ⟨y2, y3⟩ N h hN
 unfold impl_unite_B1 at h
 dsimp only at h
 refine rn 1 rfl (ls_seq_k fun K5 hK5 => ?_)
 rcases cond_some h with ⟨g6, h⟩ | ⟨g6, h⟩
 ·refine qT rfl g6 (ls_skip (hK5 _ (ls_seq_k fun K7 hK7 => ls_blk (rs ?_))))
  obtain ⟨e8, g9, h⟩ := ob_some h
  refine qI rfl zci64 g9 (sp 2 rfl (evn (rn 1 rfl (ls_seq_k fun K10 hK10 => ?_))))
  obtain ⟨o2, hl, hr2⟩ := ob_some h
  have kXB2 : ∀ {z11 : Int}, z11 = o2 → Jn K10 [(5, oL 3 ci64 y2), (7, nI e8), (8, nI z11), (11, dL ci64 a1), (12, nI (List.length a1 : Int)), (13, nI y3)] := by
   intro z11 h σ' hk
   subst h
   replace h := hr2
   try dsimp only at h
   refine hK10 _ (lh hk rfl (rk fun K17 hK17 => ?_))
   have kJ3 : ∀ {x18 : Bool}, impl_unite_J3 (loopF (impl_unite_B1 a1) m) y2 y3 e8 z11 x18 = some o1 → Jn K17 [(5, oL 3 ci64 y2), (7, nI e8), (8, nI z11), (11, dL ci64 a1), (12, nI (List.length a1 : Int)), (13, nI y3), (42, .bool x18)] := by
    intro x18 h σ' hk
    unfold impl_unite_J3 at h
    refine hK17 _ (lh hk rfl ?_)
    have kJ4 : ∀ {x19 : List Int}, impl_unite_J4 (loopF (impl_unite_B1 a1) m) y3 x19 = some o1 → Jn K7 [(5, oL 3 ci64 x19), (11, dL ci64 a1), (12, nI (List.length a1 : Int)), (13, nI y3)] := by
     intro x19 h σ' hk
     unfold impl_unite_J4 at h
     exact hK7 _ (lh hk rfl (rg (sp 2 rfl (evn (hN _ _ h (okr rfl))))))
    rcases cond_some h with ⟨g20, h⟩ | ⟨g20, h⟩
    ·refine qT rfl g20 (rgd (by kernel_rfl) (sd 2 rfl (?_)))
     obtain ⟨g21, h⟩ := chk_some h
     refine ed rfl (qSl rfl zci64 g21 (?_))
     obtain ⟨v22, g23, h⟩ := ob_some h
     refine ed rfl (qC (qa rfl (erD eci64 _) eran) (impl_copyInts_s g23) (sd 1 rfl (ed rfl (qBs ci64 [e8] rfl rfl rfl zci64 (?_)))))
     obtain ⟨g24, h⟩ := chk_some h
     refine ed rfl (qA ci64 v22 [e8] rfl rfl (flat_len zci64 [e8]) rfl g24 (sd 2 rfl (?_)))
     obtain ⟨g25, h⟩ := chk_some h
     refine ed rfl (qSl rfl zci64 g25 (?_))
     obtain ⟨g26, h⟩ := chk_some h
     exact ed rfl (qA ci64 (v22 ++ [e8]) (subl y2 z11 (List.length y2 : Int)) rfl rfl (flat_len zci64 (subl y2 z11 (List.length y2 : Int))) (map_dg (fun _ => rfl) _) g26 (sd 1 rfl (evdn (kJ4 h _ (okr rfl)))))
    ·exact qF rfl g20 (ls_skip (kJ4 h _ (okr rfl)))
   refine sp 5 rfl (?_)
   rcases cond_some h with ⟨g27, h⟩ | ⟨g27, h⟩
   ·exact qg 35 g27 rfl (sp 7 rfl (evn (kJ3 h _ (okr rfl))))
   ·refine qg 35 g27 rfl (sp 2 rfl (?_))
    obtain ⟨e28, g29, h⟩ := ob_some h
    exact oGR rfl rfl (qI rfl zci64 g29 (sp 4 rfl (evn (kJ3 h _ (okr rfl)))))
  refine ls_rec (fun (y5 : Int) => [(5, oL 3 ci64 y2), (7, nI e8), (8, nI y5), (11, dL ci64 a1), (12, nI (List.length a1 : Int)), (13, nI y3)]) _ _ _ _ hl (okr rfl) (fun _ => rfl) ?_
  rintro m y5 N h hN
  unfold impl_unite_B2 at h
  refine ls_seq_k fun K12 hK12 => rs (sp 5 rfl (?_))
  rcases cond_some h with ⟨g13, h⟩ | ⟨g13, h⟩
  ·refine qg 21 g13 rfl (sp 2 rfl (?_))
   obtain ⟨e14, g15, h⟩ := ob_some h
   refine oGR rfl rfl (qI rfl zci64 g15 (sp 4 rfl (evn ?_)))
   rcases cond_some h with ⟨g16, h⟩ | ⟨g16, h⟩
   ·exact qT rfl g16 (ls_skip (hK12 _ (ls_blk (rg (sp 3 rfl (evn (hN _ _ h (okr rfl))))))))
   ·exact qF rfl g16 (ls_exit (kXB2 (Option.some.inj h) _ (okr rfl)))
  ·exact qg 21 g13 rfl (sp 7 rfl (evn (qF rfl rfl (ls_exit (kXB2 (Option.some.inj h) _ (okr rfl))))))
 ·exact qF rfl g6 (ls_exit (kXB1 (Option.some.inj h) _ (okr rfl)))
def impl_IsValidVarRelation_J2 (rec : Int → Option (Sum (Unit) (Bool))) (y1 : Int) (x8 : Bool) : Option (Sum (Unit) (Bool)) := cond x8 (some (.inr false)) (rec (IntKind.i64.wrap (y1 + 1)))
def impl_IsValidVarRelation_B1 (a0 : Y177) (rec : Int → Option (Sum (Unit) (Bool))) (y1 : Int) : Option (Sum (Unit) (Bool)) := cond (decide (y1 < (List.length a0.1 : Int))) (obind (geti a0.1 y1) fun e5 => obind (impl_within e5 0 4) fun v10 => cond (!v10) (impl_IsValidVarRelation_J2 rec y1 true) (cond (decide (0 < y1)) (obind (geti a0.1 (IntKind.i64.wrap (y1 - 1))) fun e14 => impl_IsValidVarRelation_J2 rec y1 (decide (e5 ≤ e14))) (impl_IsValidVarRelation_J2 rec y1 false))) (some (.inl ()))
def impl_IsValidVarRelation_J3 (x17 : Bool) : Option (Bool) := some x17
def impl_IsValidVarRelation (a0 : Y177) : Option (Bool) := obind (loopF (impl_IsValidVarRelation_B1 a0) fz 0) fun o1 => (match o1 with
  | .inl _ => (obind (impl_IsValidRelation a0.2) fun v18 => cond v18 (impl_IsValidVarRelation_J3 (a0.2.1 == (List.length a0.1 : Int))) (impl_IsValidVarRelation_J3 false))
  | .inr r => some r)
theorem impl_IsValidVarRelation_s {a0 : Y177} {r : Bool} (h : impl_IsValidVarRelation a0 = some r) : SoundAt Try.prog 201 [.agg (c178_ddd a0)] (.bool r) := by
 unfold impl_IsValidVarRelation at h
 refine st lit201 rfl (rn 1 rfl (ls_seq_k fun K1 hK1 => rn 1 rfl ?_))
 obtain ⟨o1, hl, hr1⟩ := ob_some h
 have kXB1 : (.inl ()) = o1 → Jn K1 [(1, .box [dL ci64 a0.1, nI a0.2.1, dL c31_d a0.2.2])] := by
  intro h σ' hk
  subst h
  replace h := hr1
  try dsimp only at h
  refine hK1 _ (lh hk rfl (rk fun K16 hK16 => ?_))
  have kJ3 : ∀ {x17 : Bool}, impl_IsValidVarRelation_J3 x17 = some r → Jn K16 [(2, .bool x17)] := by
   intro x17 h σ' hk
   unfold impl_IsValidVarRelation_J3 at h
   exact hK16 _ (lh hk rfl (ls_ret ((by cases h; exact ⟨.inl rfl, rfl⟩))))
  refine sp 2 rfl (?_)
  obtain ⟨v18, g19, h⟩ := ob_some h
  refine qC (qa rfl (erg (erc rfl (erc (erD ec31_d _) rfl))) eran) (impl_IsValidRelation_s g19) (sp 1 rfl (?_))
  rcases cond_some h with ⟨g20, h⟩ | ⟨g20, h⟩
  ·exact qg 34 g20 rfl (sp 9 rfl (evn (kJ3 h _ (okr rfl))))
  ·exact qg 34 g20 rfl (sp 9 rfl (evn (kJ3 h _ (okr rfl))))
 refine ls_rec (fun (y1 : Int) => [(1, .box [dL ci64 a0.1, nI a0.2.1, dL c31_d a0.2.2]), (6, dL ci64 a0.1), (7, nI (List.length a0.1 : Int)), (8, nI y1)]) _ _ _ _ hl (okr rfl) (fun _ => rfl) ?_
 rintro m y1 N h hN
 unfold impl_IsValidVarRelation_B1 at h
 refine rn 1 rfl (ls_seq_k fun K2 hK2 => ?_)
 rcases cond_some h with ⟨g3, h⟩ | ⟨g3, h⟩
 ·refine qT rfl g3 (ls_skip (hK2 _ (ls_seq_k fun K4 hK4 => ls_blk (rs (sp 1 rfl (?_))))))
  obtain ⟨e5, g6, h⟩ := ob_some h
  refine qI rfl zci64 g6 (sp 3 rfl (evn (rk fun K7 hK7 => ?_)))
  have kJ2 : ∀ {x8 : Bool}, impl_IsValidVarRelation_J2 (loopF (impl_IsValidVarRelation_B1 a0) m) y1 x8 = some o1 → Jn K7 [(1, .box [dL ci64 a0.1, nI a0.2.1, dL c31_d a0.2.2]), (6, dL ci64 a0.1), (7, nI (List.length a0.1 : Int)), (8, nI y1), (29, .bool x8)] := by
   intro x8 h σ' hk
   unfold impl_IsValidVarRelation_J2 at h
   refine hK7 _ (lh hk rfl ?_)
   rcases cond_some h with ⟨g9, h⟩ | ⟨g9, h⟩
   ·exact qT rfl g9 (rn 1 rfl (ls_ret ((by cases h; cases hr1; exact ⟨.inl rfl, rfl⟩))))
   ·exact qF rfl g9 (ls_skip (hK4 _ (rg (sp 2 rfl (evn (hN _ _ h (okr rfl)))))))
  refine sp 1 rfl (?_)
  obtain ⟨v10, g11, h⟩ := ob_some h
  refine qC (qs rfl (qs rfl (qs rfl eran))) (impl_within_s g11) (sp 2 rfl (?_))
  rcases cond_some h with ⟨g12, h⟩ | ⟨g12, h⟩
  ·exact qg 16 g12 rfl (sp 13 rfl (evn (kJ2 h _ (okr rfl))))
  ·refine qg 16 g12 rfl (sp 3 rfl (?_))
   rcases cond_some h with ⟨g13, h⟩ | ⟨g13, h⟩
   ·refine qg 19 g13 rfl (sp 4 rfl (?_))
    obtain ⟨e14, g15, h⟩ := ob_some h
    exact oGR rfl rfl (qI rfl zci64 g15 (sp 5 rfl (evn (kJ2 h _ (okr rfl)))))
   ·exact qg 19 g13 rfl (sp 10 rfl (evn (kJ2 h _ (okr rfl))))
 ·exact qF rfl g3 (ls_exit (kXB1 (Option.some.inj h) _ (okr rfl)))
def impl_glue_J3 (rec : ((List Int) × Int) → Option (Sum ((List Int)) ((List Int) × Bool))) (y2 : Int) (x15 : List Int) : Option (Sum ((List Int)) ((List Int) × Bool)) := rec (x15, (IntKind.i64.wrap (y2 + 1)))
def impl_glue_J2 (rec : ((List Int) × Int) → Option (Sum ((List Int)) ((List Int) × Bool))) (a2 : List Int) (a4 : List Int) (y1 : List Int) (y2 : Int) (v8 : Int) (v10 : Int) (x13 : Bool) : Option (Sum ((List Int)) ((List Int) × Bool)) := cond x13 (some (.inr (([] : List Int), false))) (cond (decide (0 ≤ v8)) (obind (geti a2 v8) fun e17 => chk (List.length y1 + List.length [e17] ≤ lim) (impl_glue_J3 rec y2 (y1 ++ [e17]))) (obind (geti a4 v10) fun e20 => chk (List.length y1 + List.length [e20] ≤ lim) (impl_glue_J3 rec y2 (y1 ++ [e20]))))
def impl_glue_B1 (a0 : List Int) (a1 : List Int) (a2 : List Int) (a3 : List Int) (a4 : List Int) (rec : ((List Int) × Int) → Option (Sum ((List Int)) ((List Int) × Bool))) (s : (List Int) × Int) : Option (Sum ((List Int)) ((List Int) × Bool)) := match s with
  | (y1, y2) => cond (decide (y2 < (List.length a0 : Int))) (obind (geti a0 y2) fun e6 => obind (impl_indexOf a1 e6) fun v8 => obind (impl_indexOf a3 e6) fun v10 => cond (decide (0 ≤ v8)) (cond (decide (0 ≤ v10)) (obind (geti a2 v8) fun e25 => obind (geti a4 v10) fun e27 => impl_glue_J2 rec a2 a4 y1 y2 v8 v10 (e25 != e27)) (impl_glue_J2 rec a2 a4 y1 y2 v8 v10 false)) (impl_glue_J2 rec a2 a4 y1 y2 v8 v10 false)) (some (.inl y1))
def impl_glue (a0 : List Int) (a1 : List Int) (a2 : List Int) (a3 : List Int) (a4 : List Int) : Option ((List Int) × Bool) := obind (loopF (impl_glue_B1 a0 a1 a2 a3 a4) fz (([] : List Int), 0)) fun o1 => (match o1 with
  | .inl z2 => (some (z2, true))
  | .inr r => some r)
theorem impl_glue_s {a0 : List Int} {a1 : List Int} {a2 : List Int} {a3 : List Int} {a4 : List Int} {r : (List Int) × Bool} (h : impl_glue a0 a1 a2 a3 a4 = some r) : SoundAt Try.prog 202 [dL ci64 a0, dL ci64 a1, dL ci64 a2, dL ci64 a3, dL ci64 a4] (.tup [oL 3 ci64 r.1, .bool r.2]) := by
 unfold impl_glue at h
 refine st lit202 rfl (rn 1 rfl (rs (qBs ci64 [] rfl rfl rfl zci64 (sp 1 rfl (evn (ls_seq_k fun K1 hK1 => rn 1 rfl ?_))))))
 obtain ⟨o1, hl, hr1⟩ := ob_some h
 have kXB1 : ∀ {z2 : List Int}, (.inl z2) = o1 → Jn K1 [(12, oL 3 ci64 z2)] := by
  intro z2 h σ' hk
  subst h
  replace h := hr1
  try dsimp only at h
  exact hK1 _ (lh hk rfl (rn 1 rfl (ls_ret ((by cases h; exact ⟨.inl rfl, rfl⟩)))))
 refine ls_rec (fun (s : (List Int) × Int) => match s with | (y1, y2) => [(1, dL ci64 a1), (2, dL ci64 a2), (3, dL ci64 a3), (4, dL ci64 a4), (12, oL 3 ci64 y1), (18, dL ci64 a0), (19, nI (List.length a0 : Int)), (20, nI y2)]) _ _ _ _ hl (okr rfl) (fun _ => rfl) ?_
 rintro m ⟨y1, y2⟩ N h hN
 unfold impl_glue_B1 at h
 dsimp only at h
 refine rn 1 rfl (ls_seq_k fun K3 hK3 => ?_)
 rcases cond_some h with ⟨g4, h⟩ | ⟨g4, h⟩
 ·refine qT rfl g4 (ls_skip (hK3 _ (ls_seq_k fun K5 hK5 => ls_blk (rs ?_))))
  obtain ⟨e6, g7, h⟩ := ob_some h
  refine qI rfl zci64 g7 (sp 2 rfl (evn (rs (sp 2 rfl (?_)))))
  obtain ⟨v8, g9, h⟩ := ob_some h
  refine qC (qa rfl (erD eci64 _) (qs rfl eran)) (impl_indexOf_s g9) (sp 2 rfl (?_))
  obtain ⟨v10, g11, h⟩ := ob_some h
  refine qC (qa rfl (erD eci64 _) (qs rfl eran)) (impl_indexOf_s g11) (sp 2 rfl (evn (ls_blk (rdk (by kernel_rfl) fun K12 hK12 => ?_))))
  have kJ2 : ∀ {x13 : Bool}, impl_glue_J2 (loopF (impl_glue_B1 a0 a1 a2 a3 a4) m) a2 a4 y1 y2 v8 v10 x13 = some o1 → Jn K12 [(1, dL ci64 a1), (2, dL ci64 a2), (3, dL ci64 a3), (4, dL ci64 a4), (12, oL 3 ci64 y1), (15, nI v8), (16, nI v10), (18, dL ci64 a0), (19, nI (List.length a0 : Int)), (20, nI y2), (37, .bool x13)] := by
   intro x13 h σ' hk
   unfold impl_glue_J2 at h
   refine hK12 _ (lh hk rfl ?_)
   rcases cond_some h with ⟨g14, h⟩ | ⟨g14, h⟩
   ·exact qT rfl g14 (rn 1 rfl (ls_ret ((by cases h; cases hr1; exact ⟨.inl rfl, rfl⟩))))
   ·refine qF rfl g14 (rn 1 rfl ?_)
    have kJ3 : ∀ {x15 : List Int}, impl_glue_J3 (loopF (impl_glue_B1 a0 a1 a2 a3 a4) m) y2 x15 = some o1 → Jn K5 [(1, dL ci64 a1), (2, dL ci64 a2), (3, dL ci64 a3), (4, dL ci64 a4), (12, oL 3 ci64 x15), (18, dL ci64 a0), (19, nI (List.length a0 : Int)), (20, nI y2)] := by
     intro x15 h σ' hk
     unfold impl_glue_J3 at h
     exact hK5 _ (lh hk rfl (rg (sp 2 rfl (evn (hN _ _ h (okr rfl))))))
    rcases cond_some h with ⟨g16, h⟩ | ⟨g16, h⟩
    ·refine qT rfl g16 (rg (sp 3 rfl (?_)))
     obtain ⟨e17, g18, h⟩ := ob_some h
     refine qI rfl zci64 g18 (sp 1 rfl (qBs ci64 [e17] rfl rfl rfl zci64 (?_)))
     obtain ⟨g19, h⟩ := chk_some h
     exact qA ci64 y1 [e17] rfl rfl (flat_len zci64 [e17]) rfl g19 (sp 1 rfl (evn (kJ3 h _ (okr rfl))))
    ·refine qF rfl g16 (rg (sp 3 rfl (?_)))
     obtain ⟨e20, g21, h⟩ := ob_some h
     refine qI rfl zci64 g21 (sp 1 rfl (qBs ci64 [e20] rfl rfl rfl zci64 (?_)))
     obtain ⟨g22, h⟩ := chk_some h
     exact qA ci64 y1 [e20] rfl rfl (flat_len zci64 [e20]) rfl g22 (sp 1 rfl (evn (kJ3 h _ (okr rfl))))
  refine sd 3 rfl (?_)
  rcases cond_some h with ⟨g23, h⟩ | ⟨g23, h⟩
  ·refine qgd 40 g23 rfl (sd 4 rfl (?_))
   rcases cond_some h with ⟨g24, h⟩ | ⟨g24, h⟩
   ·refine qgd 44 g24 rfl (sd 2 rfl (?_))
    obtain ⟨e25, g26, h⟩ := ob_some h
    refine ed rfl (oGR rfl rfl (qI rfl zci64 g26 (sd 3 rfl (?_))))
    obtain ⟨e27, g28, h⟩ := ob_some h
    exact ed rfl (oGR rfl rfl (qI rfl zci64 g28 (sd 4 rfl (evdn (kJ2 h _ (okr rfl))))))
   ·exact qgd 44 g24 rfl (sd 11 rfl (evdn (kJ2 h _ (okr rfl))))
  ·exact qgd 40 g23 rfl (sd 15 rfl (evdn (kJ2 h _ (okr rfl))))
 ·exact qF rfl g4 (ls_exit (kXB1 (Option.some.inj h) _ (okr rfl)))
def impl_NaturalJoin_J3 (rec : ((List (List Int)) × Int) → Option ((List (List Int)))) (y8 : Int) (x26 : List (List Int)) : Option ((List (List Int))) := rec (x26, (IntKind.i64.wrap (y8 + 1)))
def impl_NaturalJoin_B2 (a0 : Y177) (a1 : Y177) (v8 : (List Int)) (e15 : List Int) (rec : ((List (List Int)) × Int) → Option ((List (List Int)))) (s : (List (List Int)) × Int) : Option ((List (List Int))) := match s with
  | (y7, y8) => cond (decide (y8 < (List.length a1.2.2 : Int))) (obind (geti a1.2.2 y8) fun e22 => obind (impl_glue v8 a0.1 e15 a1.1 e22) fun v24 => cond v24.2 (chk (List.length y7 + List.length [v24.1] ≤ lim) (impl_NaturalJoin_J3 rec y8 (y7 ++ [v24.1]))) (impl_NaturalJoin_J3 rec y8 y7)) (some y7)
def impl_NaturalJoin_B1 (a0 : Y177) (a1 : Y177) (v8 : (List Int)) (rec : ((List (List Int)) × Int) → Option (Sum ((List (List Int))) (Y177 × Bool))) (s : (List (List Int)) × Int) : Option (Sum ((List (List Int))) (Y177 × Bool)) := match s with
  | (y3, y4) => cond (decide (y4 < (List.length a0.2.2 : Int))) (obind (geti a0.2.2 y4) fun e15 => obind (loopF (impl_NaturalJoin_B2 a0 a1 v8 e15) fz (y3, 0)) fun z18 => cond (decide (4000 < (List.length z18 : Int))) (some (.inr (([], (0, [])), false))) (rec (z18, (IntKind.i64.wrap (y4 + 1))))) (some (.inl y3))
def impl_NaturalJoin (a0 : Y177) (a1 : Y177) : Option (Y177 × Bool) := obind (impl_IsValidVarRelation a0) fun v2 => cond (!v2) (some (([], (0, [])), false)) (obind (impl_IsValidVarRelation a1) fun v5 => cond (!v5) (some (([], (0, [])), false)) (obind (impl_unite a0.1 a1.1) fun v8 => obind (loopF (impl_NaturalJoin_B1 a0 a1 v8) fz (([] : List (List Int)), 0)) fun o1 => (match o1 with
  | .inl z11 => (obind (impl_sorted z11) fun v30 => some ((v8, ((List.length v8 : Int), v30)), true))
  | .inr r => some r)))
theorem impl_NaturalJoin_s {a0 : Y177} {a1 : Y177} {r : Y177 × Bool} (h : impl_NaturalJoin a0 a1 = some r) : SoundAt Try.prog 144 [.agg (c178_ddd a0), .agg (c178_ddd a1)] (.tup [.agg (c178_ooo r.1), .bool r.2]) := by
 unfold impl_NaturalJoin at h
 refine st lit144 rfl (rn 1 rfl (ls_seq_k fun K1 hK1 => rs (sp 1 rfl (?_))))
 obtain ⟨v2, g3, h⟩ := ob_some h
 refine qC (qa rfl (erg (erc (erD eci64 _) (erc rfl (erc (erD ec31_d _) rfl)))) eran) (impl_IsValidVarRelation_s g3) (sp 2 rfl (?_))
 rcases cond_some h with ⟨g4, h⟩ | ⟨g4, h⟩
 ·exact qg 17 g4 rfl (sp 4 rfl (evn (qT rfl rfl (rn 1 rfl (ls_ret ((by cases h; exact ⟨.inl rfl, rfl⟩)))))))
 ·refine qg 17 g4 rfl (sp 1 rfl (?_))
  obtain ⟨v5, g6, h⟩ := ob_some h
  refine oGR rfl rfl (qC (qa rfl (erg (erc (erD eci64 _) (erc rfl (erc (erD ec31_d _) rfl)))) eran) (impl_IsValidVarRelation_s g6) (sp 2 rfl (evn ?_)))
  rcases cond_some h with ⟨g7, h⟩ | ⟨g7, h⟩
  ·exact qT rfl g7 (rn 1 rfl (ls_ret ((by cases h; exact ⟨.inl rfl, rfl⟩))))
  ·refine qF rfl g7 (ls_skip (hK1 _ (rs (sp 4 rfl (?_)))))
   obtain ⟨v8, g9, h⟩ := ob_some h
   refine qC (qa rfl (erD eci64 _) (qa rfl (erD eci64 _) eran)) (impl_unite_s g9) (sp 1 rfl (evn (qk [2, 3, 4, 6] rfl (rn 1 rfl (ls_seq_k fun K10 hK10 => rn 1 rfl ?_)))))
   obtain ⟨o1, hl, hr1⟩ := ob_some h
   have kXB1 : ∀ {z11 : List (List Int)}, (.inl z11) = o1 → Jn K10 [(4, .box [oL 3 ci64 [], nI 0, oL 31 c31_o []]), (6, oL 3 ci64 v8), (7, oL 31 c31_o z11)] := by
    intro z11 h σ' hk
    subst h
    replace h := hr1
    try dsimp only at h
    refine hK10 _ (lh hk rfl (rs (sp 4 rfl (?_))))
    obtain ⟨v30, g31, h⟩ := ob_some h
    exact qC (qa rfl (erD ec31_o _) eran) (impl_sorted_s g31) (sp 4 rfl (evn (ls_ret ((by cases h; exact ⟨.inl rfl, rfl⟩)))))
   refine ls_rec (fun (s : (List (List Int)) × Int) => match s with | (y3, y4) => [(2, .box [dL ci64 a0.1, nI a0.2.1, dL c31_d a0.2.2]), (3, .box [dL ci64 a1.1, nI a1.2.1, dL c31_d a1.2.2]), (4, .box [oL 3 ci64 [], nI 0, oL 31 c31_o []]), (6, oL 3 ci64 v8), (7, oL 31 c31_o y3), (30, dL c31_d a0.2.2), (31, nI (List.length a0.2.2 : Int)), (32, nI y4)]) _ _ _ _ hl (okr rfl) (fun _ => rfl) ?_
   rintro m ⟨y3, y4⟩ N h hN
   unfold impl_NaturalJoin_B1 at h
   dsimp only at h
   refine rn 1 rfl (ls_seq_k fun K12 hK12 => ?_)
   rcases cond_some h with ⟨g13, h⟩ | ⟨g13, h⟩
   ·refine qT rfl g13 (ls_skip (hK12 _ (ls_seq_k fun K14 hK14 => ls_blk (rs ?_))))
    obtain ⟨e15, g16, h⟩ := ob_some h
    refine qI rfl zc31_d g16 (sp 2 rfl (evn (ls_seq_k fun K17 hK17 => rn 1 rfl ?_)))
    obtain ⟨o2, hl, hr2⟩ := ob_some h
    have kXB2 : ∀ {z18 : List (List Int)}, z18 = o2 → Jn K17 [(2, .box [dL ci64 a0.1, nI a0.2.1, dL c31_d a0.2.2]), (3, .box [dL ci64 a1.1, nI a1.2.1, dL c31_d a1.2.2]), (4, .box [oL 3 ci64 [], nI 0, oL 31 c31_o []]), (6, oL 3 ci64 v8), (7, oL 31 c31_o z18), (30, dL c31_d a0.2.2), (31, nI (List.length a0.2.2 : Int)), (32, nI y4)] := by
     intro z18 h σ' hk
     subst h
     replace h := hr2
     try dsimp only at h
     refine hK17 _ (lh hk rfl (rn 1 rfl ?_))
     rcases cond_some h with ⟨g29, h⟩ | ⟨g29, h⟩
     ·exact qT rfl g29 (rn 1 rfl (ls_ret ((by cases h; cases hr1; exact ⟨.inl rfl, rfl⟩))))
     ·exact qF rfl g29 (ls_skip (hK14 _ (rg (sp 2 rfl (evn (hN _ _ h (okr rfl)))))))
    refine ls_rec (fun (s : (List (List Int)) × Int) => match s with | (y7, y8) => [(2, .box [dL ci64 a0.1, nI a0.2.1, dL c31_d a0.2.2]), (3, .box [dL ci64 a1.1, nI a1.2.1, dL c31_d a1.2.2]), (4, .box [oL 3 ci64 [], nI 0, oL 31 c31_o []]), (6, oL 3 ci64 v8), (7, oL 31 c31_o y7), (9, dL ci64 e15), (30, dL c31_d a0.2.2), (31, nI (List.length a0.2.2 : Int)), (32, nI y4), (38, dL c31_d a1.2.2), (39, nI (List.length a1.2.2 : Int)), (40, nI y8)]) _ _ _ _ hl (okr rfl) (fun _ => rfl) ?_
    rintro m ⟨y7, y8⟩ N h hN
    unfold impl_NaturalJoin_B2 at h
    dsimp only at h
    refine rn 1 rfl (ls_seq_k fun K19 hK19 => ?_)
    rcases cond_some h with ⟨g20, h⟩ | ⟨g20, h⟩
    ·refine qT rfl g20 (ls_skip (hK19 _ (ls_seq_k fun K21 hK21 => ls_blk (rs ?_))))
     obtain ⟨e22, g23, h⟩ := ob_some h
     refine qI rfl zc31_d g23 (sp 2 rfl (evn (rs (sp 7 rfl (?_)))))
     obtain ⟨v24, g25, h⟩ := ob_some h
     refine qC (qa rfl (erD eci64 _) (qa rfl (erD eci64 _) (qa rfl (erD eci64 _) (qa rfl (erD eci64 _) (qa rfl (erD eci64 _) eran))))) (impl_glue_s g25) (sp 5 rfl (evn (rn 1 rfl ?_)))
     have kJ3 : ∀ {x26 : List (List Int)}, impl_NaturalJoin_J3 (loopF (impl_NaturalJoin_B2 a0 a1 v8 e15) m) y8 x26 = some o2 → Jn K21 [(2, .box [dL ci64 a0.1, nI a0.2.1, dL c31_d a0.2.2]), (3, .box [dL ci64 a1.1, nI a1.2.1, dL c31_d a1.2.2]), (4, .box [oL 3 ci64 [], nI 0, oL 31 c31_o []]), (6, oL 3 ci64 v8), (7, oL 31 c31_o x26), (9, dL ci64 e15), (30, dL c31_d a0.2.2), (31, nI (List.length a0.2.2 : Int)), (32, nI y4), (38, dL c31_d a1.2.2), (39, nI (List.length a1.2.2 : Int)), (40, nI y8)] := by
      intro x26 h σ' hk
      unfold impl_NaturalJoin_J3 at h
      exact hK21 _ (lh hk rfl (rg (sp 2 rfl (evn (hN _ _ h (okr rfl))))))
     rcases cond_some h with ⟨g27, h⟩ | ⟨g27, h⟩
     ·refine qT rfl g27 (rg (sp 2 rfl (qBs c31_o [v24.1] rfl rfl rfl zc31_o (?_))))
      obtain ⟨g28, h⟩ := chk_some h
      exact qA c31_o y7 [v24.1] rfl rfl (flat_len zc31_o [v24.1]) rfl g28 (sp 1 rfl (evn (kJ3 h _ (okr rfl))))
     ·exact qF rfl g27 (ls_skip (kJ3 h _ (okr rfl)))
    ·exact qF rfl g20 (ls_exit (kXB2 (Option.some.inj h) _ (okr rfl)))
   ·exact qF rfl g13 (ls_exit (kXB1 (Option.some.inj h) _ (okr rfl)))
def impl_Project_B1 (a0 : Y25) (a1 : List Int) (rec : ((List (List Int)) × Int) → Option ((List (List Int)))) (s : (List (List Int)) × Int) : Option ((List (List Int))) := match s with
  | (y1, y2) => cond (decide (y2 < (List.length a0.2 : Int))) (obind (geti a0.2 y2) fun e13 => obind (impl_pick e13 a1) fun v15 => chk (List.length y1 + List.length [v15] ≤ lim) (rec ((y1 ++ [v15]), (IntKind.i64.wrap (y2 + 1))))) (some y1)
def impl_Project (a0 : Y25) (a1 : List Int) : Option (Y25 × Bool) := obind (impl_IsValidRelation a0) fun v2 => cond (!v2) (some ((0, []), false)) (obind (impl_columnsFit a0.1 a1) fun v5 => cond (!v5) (some ((0, []), false)) (obind (loopF (impl_Project_B1 a0 a1) fz (([] : List (List Int)), 0)) fun z9 => obind (impl_NewRelation (List.length a1 : Int) z9) fun v18 => some (v18.1, v18.2)))
theorem impl_Project_s {a0 : Y25} {a1 : List Int} {r : Y25 × Bool} (h : impl_Project a0 a1 = some r) : SoundAt Try.prog 145 [.agg (c26_dd a0), dL ci64 a1] (.tup [.agg (c26_oo r.1), .bool r.2]) := by
 unfold impl_Project at h
 refine st lit145 rfl (rn 1 rfl (ls_seq_k fun K1 hK1 => rs (sp 1 rfl (?_))))
 obtain ⟨v2, g3, h⟩ := ob_some h
 refine qC (qa rfl (erg (erc rfl (erc (erD ec31_d _) rfl))) eran) (impl_IsValidRelation_s g3) (sp 2 rfl (?_))
 rcases cond_some h with ⟨g4, h⟩ | ⟨g4, h⟩
 ·exact qg 12 g4 rfl (sp 6 rfl (evn (qT rfl rfl (rn 1 rfl (ls_ret ((by cases h; exact ⟨.inl rfl, rfl⟩)))))))
 ·refine qg 12 g4 rfl (sp 3 rfl (?_))
  obtain ⟨v5, g6, h⟩ := ob_some h
  refine oGR rfl rfl (qC (qs rfl (qa rfl (erD eci64 _) eran)) (impl_columnsFit_s g6) (sp 2 rfl (evn ?_)))
  rcases cond_some h with ⟨g7, h⟩ | ⟨g7, h⟩
  ·exact qT rfl g7 (rn 1 rfl (ls_ret ((by cases h; exact ⟨.inl rfl, rfl⟩))))
  ·refine qF rfl g7 (ls_skip (hK1 _ (qk [1, 2, 4] rfl (rn 1 rfl (ls_seq_k fun K8 hK8 => rn 1 rfl ?_)))))
   obtain ⟨o1, hl, hr1⟩ := ob_some h
   have kXB1 : ∀ {z9 : List (List Int)}, z9 = o1 → Jn K8 [(1, dL ci64 a1), (4, .box [nI 0, oL 31 c31_o []]), (6, oL 31 c31_o z9)] := by
    intro z9 h σ' hk
    subst h
    replace h := hr1
    try dsimp only at h
    refine hK8 _ (lh hk rfl (rs (sp 3 rfl (?_))))
    obtain ⟨v18, g19, h⟩ := ob_some h
    exact qC (qs rfl (qa rfl (erD ec31_o _) eran)) (impl_NewRelation_s g19) (sp 4 rfl (evn (ls_ret ((by cases h; exact ⟨.inl rfl, rfl⟩)))))
   refine ls_rec (fun (s : (List (List Int)) × Int) => match s with | (y1, y2) => [(1, dL ci64 a1), (4, .box [nI 0, oL 31 c31_o []]), (6, oL 31 c31_o y1), (21, dL c31_d a0.2), (22, nI (List.length a0.2 : Int)), (23, nI y2)]) _ _ _ _ hl (okr rfl) (fun _ => rfl) ?_
   rintro m ⟨y1, y2⟩ N h hN
   unfold impl_Project_B1 at h
   dsimp only at h
   refine rn 1 rfl (ls_seq_k fun K10 hK10 => ?_)
   rcases cond_some h with ⟨g11, h⟩ | ⟨g11, h⟩
   ·refine qT rfl g11 (ls_skip (hK10 _ (ls_seq_k fun K12 hK12 => ls_blk (rs ?_))))
    obtain ⟨e13, g14, h⟩ := ob_some h
    refine qI rfl zc31_d g14 (sp 2 rfl (evn (rg (sp 3 rfl (?_)))))
    obtain ⟨v15, g16, h⟩ := ob_some h
    refine qC (qa rfl (erD eci64 _) (qa rfl (erD eci64 _) eran)) (impl_pick_s g16) (qBs c31_o [v15] rfl rfl rfl zc31_o (?_))
    obtain ⟨g17, h⟩ := chk_some h
    exact qA c31_o y1 [v15] rfl rfl (flat_len zc31_o [v15]) rfl g17 (sp 1 rfl (evn (hK12 _ (rg (sp 2 rfl (evn (hN _ _ h (okr rfl))))))))
   ·exact qF rfl g11 (ls_exit (kXB1 (Option.some.inj h) _ (okr rfl)))
def impl_PairwiseJoin_B1 (a0 : List Y106) (a1 : Y58) (rec : ((List Int) × Int × (List (List Int)) × Int × Int) → Option (Sum ((List Int) × Int × (List (List Int)) × Int) (Y25 × Int × Bool))) (s : (List Int) × Int × (List (List Int)) × Int × Int) : Option (Sum ((List Int) × Int × (List (List Int)) × Int) (Y25 × Int × Bool)) := match s with
  | (y1, y2, y3, y4, y5) => cond (decide (y5 < (List.length (subl a1.2.1 1 (List.length a1.2.1 : Int)) : Int))) (obind (geti (subl a1.2.1 1 (List.length a1.2.1 : Int)) y5) fun e18 => obind (impl_AtomRelation a0 e18) fun v20 => obind (impl_NaturalJoin (y1, (y2, y3)) v20) fun v22 => cond (!v22.2) (some (.inr ((0, []), 0, false))) (rec (v22.1.1, v22.1.2.1, v22.1.2.2, (IntKind.i64.wrap (y4 + (List.length v22.1.2.2 : Int))), (IntKind.i64.wrap (y5 + 1))))) (some (.inl (y1, y2, y3, y4)))
def impl_PairwiseJoin (a0 : List Y106) (a1 : Y58) : Option (Y25 × Int × Bool) := obind (impl_IsQueryFor a0 a1) fun v2 => cond (!v2) (some ((0, []), 0, false)) (obind (geti a1.2.1 0) fun e5 => obind (impl_AtomRelation a0 e5) fun v7 => chk ((0 : Int) ≤ 1 ∧ 1 ≤ (List.length a1.2.1 : Int) ∧ (List.length a1.2.1 : Int) ≤ (List.length a1.2.1 : Int)) (obind (loopF (impl_PairwiseJoin_B1 a0 a1) fz (v7.1, v7.2.1, v7.2.2, (List.length v7.2.2 : Int), 0)) fun o1 => (match o1 with
  | .inl (z11, z12, z13, z14) => (obind (impl_Project (z12, z13) a1.2.2) fun v26 => some (v26.1, z14, v26.2))
  | .inr r => some r)))
theorem impl_PairwiseJoin_s {a0 : List Y106} {a1 : Y58} {r : Y25 × Int × Bool} (h : impl_PairwiseJoin a0 a1 = some r) : SoundAt Try.prog 70 [.agg [dL c107_dd a0], .agg (c59_ddd a1)] (.tup [.agg (c26_oo r.1), nI r.2.1, .bool r.2.2]) := by
 unfold impl_PairwiseJoin at h
 refine st lit70 rfl (rn 1 rfl (ls_seq_k fun K1 hK1 => rs (sp 2 rfl (?_))))
 obtain ⟨v2, g3, h⟩ := ob_some h
 refine qC (qa rfl (erg (erc (erD ec107_dd _) rfl)) (qa rfl (erg (erc rfl (erc (erD ec142_d _) (erc (erD eci64 _) rfl)))) eran)) (impl_IsQueryFor_s g3) (sp 1 rfl (evn ?_))
 rcases cond_some h with ⟨g4, h⟩ | ⟨g4, h⟩
 ·exact qT rfl g4 (rn 1 rfl (ls_ret ((by cases h; exact ⟨.inl rfl, rfl⟩))))
 ·refine qF rfl g4 (ls_skip (hK1 _ (rd (by kernel_rfl) (sd 3 rfl (?_)))))
  obtain ⟨e5, g6, h⟩ := ob_some h
  refine ed rfl (qI rfl zc142_d g6 (sd 1 rfl (?_)))
  obtain ⟨v7, g8, h⟩ := ob_some h
  refine ed rfl (qC (qa rfl (erg (erc (erD ec107_dd _) rfl)) (qa rfl (erg (erc rfl (erc (erD eci64 _) rfl))) eran)) (impl_AtomRelation_s g8) (sd 2 rfl (evdn (rn 1 rfl (ls_seq_k fun K9 hK9 => rs (sp 2 rfl (?_)))))))
  obtain ⟨g10, h⟩ := chk_some h
  refine qSl rfl zc142_d g10 (sp 2 rfl (evn (qk [2, 3, 4, 7, 8, 32, 33, 34] rfl ?_)))
  obtain ⟨o1, hl, hr1⟩ := ob_some h
  have kXB1 : ∀ {z11 : List Int} {z12 : Int} {z13 : List (List Int)} {z14 : Int}, (.inl (z11, z12, z13, z14)) = o1 → Jn K9 [(3, .box [nI a1.1, dL c142_d a1.2.1, dL ci64 a1.2.2]), (4, .box [nI 0, oL 31 c31_o []]), (7, .box [oL 3 ci64 z11, nI z12, oL 31 c31_o z13]), (8, nI z14)] := by
   intro z11 z12 z13 z14 h σ' hk
   subst h
   replace h := hr1
   try dsimp only at h
   refine hK9 _ (lh hk rfl (rs (sp 4 rfl (?_))))
   obtain ⟨v26, g27, h⟩ := ob_some h
   exact qC (qa rfl (erg (erc rfl (erc (erD ec31_o _) rfl))) (qa rfl (erD eci64 _) eran)) (impl_Project_s g27) (sp 6 rfl (evn (rn 1 rfl (ls_ret ((by cases h; exact ⟨.inl rfl, rfl⟩))))))
  refine ls_rec (fun (s : (List Int) × Int × (List (List Int)) × Int × Int) => match s with | (y1, y2, y3, y4, y5) => [(2, .box [dL c107_dd a0]), (3, .box [nI a1.1, dL c142_d a1.2.1, dL ci64 a1.2.2]), (4, .box [nI 0, oL 31 c31_o []]), (7, .box [oL 3 ci64 y1, nI y2, oL 31 c31_o y3]), (8, nI y4), (32, dL c142_d (subl a1.2.1 1 (List.length a1.2.1 : Int))), (33, nI (List.length (subl a1.2.1 1 (List.length a1.2.1 : Int)) : Int)), (34, nI y5)]) _ _ _ _ hl (okr rfl) (fun _ => rfl) ?_
  rintro m ⟨y1, y2, y3, y4, y5⟩ N h hN
  unfold impl_PairwiseJoin_B1 at h
  dsimp only at h
  refine rn 1 rfl (ls_seq_k fun K15 hK15 => ?_)
  rcases cond_some h with ⟨g16, h⟩ | ⟨g16, h⟩
  ·refine qT rfl g16 (ls_skip (hK15 _ (ls_seq_k fun K17 hK17 => ls_blk (rs ?_))))
   obtain ⟨e18, g19, h⟩ := ob_some h
   refine qI rfl zc142_d g19 (sp 3 rfl (evn (rd (by kernel_rfl) (sd 3 rfl (?_)))))
   obtain ⟨v20, g21, h⟩ := ob_some h
   refine ed rfl (qC (qa rfl (erg (erc (erD ec107_dd _) rfl)) (qa rfl (erg (erc rfl (erc (erD eci64 _) rfl))) eran)) (impl_AtomRelation_s g21) (?_))
   obtain ⟨v22, g23, h⟩ := ob_some h
   refine ed rfl (qC (qa rfl (erg (erc (erD eci64 _) (erc rfl (erc (erD ec31_o _) rfl)))) (qa rfl (erg (erc (erO eci64 _) (erc rfl (erc (erO ec31_o _) rfl)))) eran)) (impl_NaturalJoin_s g23) (sd 6 rfl (evdn (ls_seq_k fun K24 hK24 => rn 1 rfl ?_))))
   rcases cond_some h with ⟨g25, h⟩ | ⟨g25, h⟩
   ·exact qT rfl g25 (rn 1 rfl (qk [4, 5, 6] rfl (ls_ret ((by cases h; cases hr1; exact ⟨.inl rfl, rfl⟩)))))
   ·exact qF rfl g25 (ls_skip (hK24 _ (rn 1 rfl (rg (sp 7 rfl (evn (hK17 _ (rg (sp 2 rfl (evn (hN _ _ h (okr rfl))))))))))))
  ·exact qF rfl g16 (ls_exit (kXB1 (Option.some.inj h) _ (okr rfl)))
def impl_IsValidOrder_J1 (x2 : Bool) : Option (Bool) := some x2
def impl_IsValidOrder (a0 : Y58) (a1 : List Int) : Option (Bool) := obind (impl_IsValidQuery a0) fun v3 => cond v3 (cond ((List.length a1 : Int) == a0.1) (obind (impl_isSetOf a1 a0.1) fun v7 => impl_IsValidOrder_J1 v7) (impl_IsValidOrder_J1 false)) (impl_IsValidOrder_J1 false)
theorem impl_IsValidOrder_s {a0 : Y58} {a1 : List Int} {r : Bool} (h : impl_IsValidOrder a0 a1 = some r) : SoundAt Try.prog 204 [.agg (c59_ddd a0), dL ci64 a1] (.bool r) := by
 unfold impl_IsValidOrder at h
 refine st lit204 rfl (rn 1 rfl (rk fun K1 hK1 => ?_))
 have kJ1 : ∀ {x2 : Bool}, impl_IsValidOrder_J1 x2 = some r → Jn K1 [(4, .bool x2)] := by
  intro x2 h σ' hk
  unfold impl_IsValidOrder_J1 at h
  exact hK1 _ (lh hk rfl (ls_ret ((by cases h; exact ⟨.inl rfl, rfl⟩))))
 refine sp 1 rfl (?_)
 obtain ⟨v3, g4, h⟩ := ob_some h
 refine qC (qa rfl (erg (erc rfl (erc (erD ec142_d _) (erc (erD eci64 _) rfl)))) eran) (impl_IsValidQuery_s g4) (sp 1 rfl (?_))
 rcases cond_some h with ⟨g5, h⟩ | ⟨g5, h⟩
 ·refine qg 7 g5 rfl (sp 7 rfl (?_))
  rcases cond_some h with ⟨g6, h⟩ | ⟨g6, h⟩
  ·refine qg 14 g6 rfl (sp 3 rfl (?_))
   obtain ⟨v7, g8, h⟩ := ob_some h
   exact oGR rfl rfl (qC (qa rfl (erD eci64 _) (qs rfl eran)) (impl_isSetOf_s g8) (sp 2 rfl (evn (kJ1 h _ (okr rfl)))))
  ·exact qg 14 g6 rfl (sp 6 rfl (evn (kJ1 h _ (okr rfl))))
 ·exact qg 7 g5 rfl (sp 13 rfl (evn (kJ1 h _ (okr rfl))))
def impl_IsPermutation_J1 (x2 : Bool) : Option (Bool) := some x2
def impl_IsPermutation (a0 : List Int) : Option (Bool) := cond (decide ((List.length a0 : Int) ≤ 5)) (obind (impl_isSetOf a0 (List.length a0 : Int)) fun v4 => impl_IsPermutation_J1 v4) (impl_IsPermutation_J1 false)
theorem impl_IsPermutation_s {a0 : List Int} {r : Bool} (h : impl_IsPermutation a0 = some r) : SoundAt Try.prog 229 [dL ci64 a0] (.bool r) := by
 unfold impl_IsPermutation at h
 refine st lit229 rfl (rn 1 rfl (rk fun K1 hK1 => ?_))
 have kJ1 : ∀ {x2 : Bool}, impl_IsPermutation_J1 x2 = some r → Jn K1 [(2, .bool x2)] := by
  intro x2 h σ' hk
  unfold impl_IsPermutation_J1 at h
  exact hK1 _ (lh hk rfl (ls_ret ((by cases h; exact ⟨.inl rfl, rfl⟩))))
 refine sp 4 rfl (?_)
 rcases cond_some h with ⟨g3, h⟩ | ⟨g3, h⟩
 ·refine qg 6 g3 rfl (sp 3 rfl (?_))
  obtain ⟨v4, g5, h⟩ := ob_some h
  exact oGR rfl rfl (qC (qa rfl (erD eci64 _) (qs rfl eran)) (impl_isSetOf_s g5) (sp 2 rfl (evn (kJ1 h _ (okr rfl)))))
 ·exact qg 6 g3 rfl (sp 6 rfl (evn (kJ1 h _ (okr rfl))))
def c231_dd (x : Y25) : List V := [nI x.1, dL c31_d x.2]
theorem zc231_dd (x : Y25) : (c231_dd x).length = 2 := rfl
theorem ec231_dd (x : Y25) : erL (c231_dd x) = c231_dd x := (erc rfl (erc (erD ec31_d _) rfl))
def c231_oo (x : Y25) : List V := [nI x.1, oL 31 c31_o x.2]
theorem zc231_oo (x : Y25) : (c231_oo x).length = 2 := rfl
theorem ec231_oo (x : Y25) : erL (c231_oo x) = c231_dd x := (erc rfl (erc (erO ec31_o _) rfl))
def impl_BuildTrie (a0 : Y25) (a1 : List Int) : Option (Y25 × Bool) := obind (impl_IsPermutation a1) fun v2 => cond (!v2) (some ((0, []), false)) (cond ((List.length a1 : Int) != a0.1) (some ((0, []), false)) (obind (impl_Project a0 a1) fun v6 => cond (!v6.2) (some ((0, []), false)) (some (v6.1, true))))
theorem impl_BuildTrie_s {a0 : Y25} {a1 : List Int} {r : Y25 × Bool} (h : impl_BuildTrie a0 a1 = some r) : SoundAt Try.prog 205 [.agg (c26_dd a0), dL ci64 a1] (.tup [.agg (c231_oo r.1), .bool r.2]) := by
 unfold impl_BuildTrie at h
 refine st lit205 rfl (rn 1 rfl (ls_seq_k fun K1 hK1 => rs (sp 1 rfl (?_))))
 obtain ⟨v2, g3, h⟩ := ob_some h
 refine qC (qa rfl (erD eci64 _) eran) (impl_IsPermutation_s g3) (sp 2 rfl (?_))
 rcases cond_some h with ⟨g4, h⟩ | ⟨g4, h⟩
 ·exact qg 11 g4 rfl (sp 6 rfl (evn (qT rfl rfl (rn 1 rfl (ls_ret ((by cases h; exact ⟨.inl rfl, rfl⟩)))))))
 ·refine qg 11 g4 rfl (sp 6 rfl (evn ?_))
  rcases cond_some h with ⟨g5, h⟩ | ⟨g5, h⟩
  ·exact qT rfl g5 (rn 1 rfl (ls_ret ((by cases h; exact ⟨.inl rfl, rfl⟩))))
  ·refine qF rfl g5 (ls_skip (hK1 _ (qk [1, 2, 4] rfl (rs (sp 2 rfl (?_))))))
   obtain ⟨v6, g7, h⟩ := ob_some h
   refine qC (qa rfl (erg (erc rfl (erc (erD ec31_d _) rfl))) (qa rfl (erD eci64 _) eran)) (impl_Project_s g7) (sp 6 rfl (evn (ls_seq_k fun K8 hK8 => rn 1 rfl ?_)))
   rcases cond_some h with ⟨g9, h⟩ | ⟨g9, h⟩
   ·exact qT rfl g9 (rn 1 rfl (ls_ret ((by cases h; exact ⟨.inl rfl, rfl⟩))))
   ·exact qF rfl g9 (ls_skip (hK8 _ (rn 1 rfl (ls_ret ((by cases h; exact ⟨.inl rfl, rfl⟩))))))
def impl_ColumnsForOrder_J3 (rec : ((List Int) × Int) → Option ((List Int))) (y2 : Int) (x14 : List Int) : Option ((List Int)) := rec (x14, (IntKind.i64.wrap (y2 + 1)))
def impl_ColumnsForOrder_J2 (rec : ((List Int) × Int) → Option ((List Int))) (y1 : List Int) (y2 : Int) (v10 : Int) (x13 : Bool) : Option ((List Int)) := cond x13 (chk (List.length y1 + List.length [v10] ≤ lim) (impl_ColumnsForOrder_J3 rec y2 (y1 ++ [v10]))) (impl_ColumnsForOrder_J3 rec y2 y1)
def impl_ColumnsForOrder_B1 (a1 : List Int) (v1 : (List Int)) (rec : ((List Int) × Int) → Option ((List Int))) (s : (List Int) × Int) : Option ((List Int)) := match s with
  | (y1, y2) => cond (decide (y2 < (List.length a1 : Int))) (obind (geti a1 y2) fun e8 => obind (impl_indexOf v1 e8) fun v10 => cond (decide (0 ≤ v10)) (obind (impl_hasInt y1 v10) fun v18 => impl_ColumnsForOrder_J2 rec y1 y2 v10 (!v18)) (impl_ColumnsForOrder_J2 rec y1 y2 v10 false)) (some y1)
def impl_ColumnsForOrder (a0 : Y141) (a1 : List Int) : Option ((List Int)) := obind (impl_AtomVariables a0) fun v1 => obind (loopF (impl_ColumnsForOrder_B1 a1 v1) fz (([] : List Int), 0)) fun z4 => some z4
theorem impl_ColumnsForOrder_s {a0 : Y141} {a1 : List Int} {r : (List Int)} (h : impl_ColumnsForOrder a0 a1 = some r) : SoundAt Try.prog 206 [.agg (c142_d a0), dL ci64 a1] (oL 3 ci64 r) := by
 unfold impl_ColumnsForOrder at h
 refine st lit206 rfl (rn 1 rfl (rs (sp 1 rfl (?_))))
 obtain ⟨v1, g2, h⟩ := ob_some h
 refine qC (qa rfl (erg (erc rfl (erc (erD eci64 _) rfl))) eran) (impl_AtomVariables_s g2) (sp 1 rfl (evn (rn 1 rfl (ls_seq_k fun K3 hK3 => rn 1 rfl ?_))))
 obtain ⟨o1, hl, hr1⟩ := ob_some h
 have kXB1 : ∀ {z4 : List Int}, z4 = o1 → Jn K3 [(6, oL 3 ci64 z4)] := by
  intro z4 h σ' hk
  subst h
  replace h := hr1
  try dsimp only at h
  exact hK3 _ (lh hk rfl (rn 1 rfl (ls_ret ((by cases h; exact ⟨.inl rfl, rfl⟩)))))
 refine ls_rec (fun (s : (List Int) × Int) => match s with | (y1, y2) => [(5, oL 3 ci64 v1), (6, oL 3 ci64 y1), (12, dL ci64 a1), (13, nI (List.length a1 : Int)), (14, nI y2)]) _ _ _ _ hl (okr rfl) (fun _ => rfl) ?_
 rintro m ⟨y1, y2⟩ N h hN
 unfold impl_ColumnsForOrder_B1 at h
 dsimp only at h
 refine rn 1 rfl (ls_seq_k fun K5 hK5 => ?_)
 rcases cond_some h with ⟨g6, h⟩ | ⟨g6, h⟩
 ·refine qT rfl g6 (ls_skip (hK5 _ (ls_seq_k fun K7 hK7 => ls_blk (rs ?_))))
  obtain ⟨e8, g9, h⟩ := ob_some h
  refine qI rfl zci64 g9 (sp 2 rfl (evn (rs (sp 2 rfl (?_)))))
  obtain ⟨v10, g11, h⟩ := ob_some h
  refine qC (qa rfl (erD eci64 _) (qs rfl eran)) (impl_indexOf_s g11) (sp 1 rfl (evn (rk fun K12 hK12 => ?_)))
  have kJ2 : ∀ {x13 : Bool}, impl_ColumnsForOrder_J2 (loopF (impl_ColumnsForOrder_B1 a1 v1) m) y1 y2 v10 x13 = some o1 → Jn K12 [(5, oL 3 ci64 v1), (6, oL 3 ci64 y1), (9, nI v10), (12, dL ci64 a1), (13, nI (List.length a1 : Int)), (14, nI y2), (28, .bool x13)] := by
   intro x13 h σ' hk
   unfold impl_ColumnsForOrder_J2 at h
   refine hK12 _ (lh hk rfl ?_)
   have kJ3 : ∀ {x14 : List Int}, impl_ColumnsForOrder_J3 (loopF (impl_ColumnsForOrder_B1 a1 v1) m) y2 x14 = some o1 → Jn K7 [(5, oL 3 ci64 v1), (6, oL 3 ci64 x14), (12, dL ci64 a1), (13, nI (List.length a1 : Int)), (14, nI y2)] := by
    intro x14 h σ' hk
    unfold impl_ColumnsForOrder_J3 at h
    exact hK7 _ (lh hk rfl (rg (sp 2 rfl (evn (hN _ _ h (okr rfl))))))
   rcases cond_some h with ⟨g15, h⟩ | ⟨g15, h⟩
   ·refine qT rfl g15 (rg (sp 2 rfl (qBs ci64 [v10] rfl rfl rfl zci64 (?_))))
    obtain ⟨g16, h⟩ := chk_some h
    exact qA ci64 y1 [v10] rfl rfl (flat_len zci64 [v10]) rfl g16 (sp 1 rfl (evn (kJ3 h _ (okr rfl))))
   ·exact qF rfl g15 (ls_skip (kJ3 h _ (okr rfl)))
  refine sp 3 rfl (?_)
  rcases cond_some h with ⟨g17, h⟩ | ⟨g17, h⟩
  ·refine qg 23 g17 rfl (sp 2 rfl (?_))
   obtain ⟨v18, g19, h⟩ := ob_some h
   exact oGR rfl rfl (qC (qa rfl (erD eci64 _) (qs rfl eran)) (impl_hasInt_s g19) (sp 2 rfl (evn (kJ2 h _ (okr rfl)))))
  ·exact qg 23 g17 rfl (sp 5 rfl (evn (kJ2 h _ (okr rfl))))
 ·exact qF rfl g6 (ls_exit (kXB1 (Option.some.inj h) _ (okr rfl)))
def impl_BuildTries_B1 (a0 : List Y106) (a1 : Y58) (a2 : List Int) (rec : ((List Y25) × Int) → Option ((List Y25))) (s : (List Y25) × Int) : Option ((List Y25)) := match s with
  | (y1, y2) => cond (decide (y2 < (List.length a1.2.1 : Int))) (obind (geti a1.2.1 y2) fun e13 => obind (impl_AtomBindings a0 e13) fun v15 => obind (impl_ColumnsForOrder e13 a2) fun v17 => obind (impl_BuildTrie v15 v17) fun v19 => chk (List.length y1 + List.length [v19.1] ≤ lim) (rec ((y1 ++ [v19.1]), (IntKind.i64.wrap (y2 + 1))))) (some y1)
def impl_BuildTries (a0 : List Y106) (a1 : Y58) (a2 : List Int) : Option ((List Y25) × Bool) := obind (impl_IsQueryFor a0 a1) fun v2 => cond (!v2) (some (([] : List Y25), false)) (obind (impl_IsValidOrder a1 a2) fun v5 => cond (!v5) (some (([] : List Y25), false)) (obind (loopF (impl_BuildTries_B1 a0 a1 a2) fz (([] : List Y25), 0)) fun z9 => some (z9, true)))
theorem impl_BuildTries_s {a0 : List Y106} {a1 : Y58} {a2 : List Int} {r : (List Y25) × Bool} (h : impl_BuildTries a0 a1 a2 = some r) : SoundAt Try.prog 146 [.agg [dL c107_dd a0], .agg (c59_ddd a1), dL ci64 a2] (.tup [oL 231 c231_oo r.1, .bool r.2]) := by
 unfold impl_BuildTries at h
 refine st lit146 rfl (rn 1 rfl (ls_seq_k fun K1 hK1 => rs (sp 2 rfl (?_))))
 obtain ⟨v2, g3, h⟩ := ob_some h
 refine qC (qa rfl (erg (erc (erD ec107_dd _) rfl)) (qa rfl (erg (erc rfl (erc (erD ec142_d _) (erc (erD eci64 _) rfl)))) eran)) (impl_IsQueryFor_s g3) (sp 2 rfl (?_))
 rcases cond_some h with ⟨g4, h⟩ | ⟨g4, h⟩
 ·exact qg 17 g4 rfl (sp 5 rfl (evn (qT rfl rfl (rn 1 rfl (ls_ret ((by cases h; exact ⟨.inl rfl, rfl⟩)))))))
 ·refine qg 17 g4 rfl (sp 2 rfl (?_))
  obtain ⟨v5, g6, h⟩ := ob_some h
  refine oGR rfl rfl (qC (qa rfl (erg (erc rfl (erc (erD ec142_d _) (erc (erD eci64 _) rfl)))) (qa rfl (erD eci64 _) eran)) (impl_IsValidOrder_s g6) (sp 2 rfl (evn ?_)))
  rcases cond_some h with ⟨g7, h⟩ | ⟨g7, h⟩
  ·exact qT rfl g7 (rn 1 rfl (ls_ret ((by cases h; exact ⟨.inl rfl, rfl⟩))))
  ·refine qF rfl g7 (ls_skip (hK1 _ (qk [2, 3, 4] rfl (rn 1 rfl (ls_seq_k fun K8 hK8 => rn 1 rfl ?_)))))
   obtain ⟨o1, hl, hr1⟩ := ob_some h
   have kXB1 : ∀ {z9 : List Y25}, z9 = o1 → Jn K8 [(8, oL 231 c231_oo z9)] := by
    intro z9 h σ' hk
    subst h
    replace h := hr1
    try dsimp only at h
    exact hK8 _ (lh hk rfl (rn 1 rfl (ls_ret ((by cases h; exact ⟨.inl rfl, rfl⟩)))))
   refine ls_rec (fun (s : (List Y25) × Int) => match s with | (y1, y2) => [(2, dL ci64 a2), (3, .box [dL c107_dd a0]), (8, oL 231 c231_oo y1), (24, dL c142_d a1.2.1), (25, nI (List.length a1.2.1 : Int)), (26, nI y2)]) _ _ _ _ hl (okr rfl) (fun _ => rfl) ?_
   rintro m ⟨y1, y2⟩ N h hN
   unfold impl_BuildTries_B1 at h
   dsimp only at h
   refine rn 1 rfl (ls_seq_k fun K10 hK10 => ?_)
   rcases cond_some h with ⟨g11, h⟩ | ⟨g11, h⟩
   ·refine qT rfl g11 (ls_skip (hK10 _ (ls_seq_k fun K12 hK12 => ls_blk (rs ?_))))
    obtain ⟨e13, g14, h⟩ := ob_some h
    refine qI rfl zc142_d g14 (sp 3 rfl (evn (rd (by kernel_rfl) (sd 2 rfl (?_)))))
    obtain ⟨v15, g16, h⟩ := ob_some h
    refine ed rfl (qC (qa rfl (erg (erc (erD ec107_dd _) rfl)) (qa rfl (erg (erc rfl (erc (erD eci64 _) rfl))) eran)) (impl_AtomBindings_s g16) (sd 2 rfl (?_)))
    obtain ⟨v17, g18, h⟩ := ob_some h
    refine ed rfl (qC (qa rfl (erg (erc rfl (erc (erD eci64 _) rfl))) (qa rfl (erD eci64 _) eran)) (impl_ColumnsForOrder_s g18) (?_))
    obtain ⟨v19, g20, h⟩ := ob_some h
    refine ed rfl (qC (qa rfl (erg (erc rfl (erc (erO ec31_o _) rfl))) (qa rfl (erO eci64 _) eran)) (impl_BuildTrie_s g20) (sd 6 rfl (evdn (rg (sp 2 rfl (qBs c231_oo [v19.1] rfl rfl rfl zc231_oo (?_)))))))
    obtain ⟨g21, h⟩ := chk_some h
    exact qA c231_oo y1 [v19.1] rfl rfl (flat_len zc231_oo [v19.1]) rfl g21 (sp 1 rfl (evn (hK12 _ (rg (sp 2 rfl (evn (hN _ _ h (okr rfl))))))))
   ·exact qF rfl g11 (ls_exit (kXB1 (Option.some.inj h) _ (okr rfl)))
def impl_someEmpty_B1 (a0 : List Y25) (rec : Int → Option (Sum (Unit) (Bool))) (y1 : Int) : Option (Sum (Unit) (Bool)) := cond (decide (y1 < (List.length a0 : Int))) (obind (geti a0 y1) fun e5 => cond ((List.length e5.2 : Int) == 0) (some (.inr true)) (rec (IntKind.i64.wrap (y1 + 1)))) (some (.inl ()))
def impl_someEmpty (a0 : List Y25) : Option (Bool) := obind (loopF (impl_someEmpty_B1 a0) fz 0) fun o1 => (match o1 with
  | .inl _ => (some false)
  | .inr r => some r)
theorem impl_someEmpty_s {a0 : List Y25} {r : Bool} (h : impl_someEmpty a0 = some r) : SoundAt Try.prog 147 [dL c231_dd a0] (.bool r) := by
 unfold impl_someEmpty at h
 refine st lit147 rfl (rn 1 rfl (ls_seq_k fun K1 hK1 => rn 1 rfl ?_))
 obtain ⟨o1, hl, hr1⟩ := ob_some h
 have kXB1 : (.inl ()) = o1 → Jn K1 [] := by
  intro h σ' hk
  subst h
  replace h := hr1
  try dsimp only at h
  exact hK1 _ (lh hk rfl (rn 1 rfl (ls_ret ((by cases h; exact ⟨.inl rfl, rfl⟩)))))
 refine ls_rec (fun (y1 : Int) => [(5, dL c231_dd a0), (6, nI (List.length a0 : Int)), (7, nI y1)]) _ _ _ _ hl (okr rfl) (fun _ => rfl) ?_
 rintro m y1 N h hN
 unfold impl_someEmpty_B1 at h
 refine rn 1 rfl (ls_seq_k fun K2 hK2 => ?_)
 rcases cond_some h with ⟨g3, h⟩ | ⟨g3, h⟩
 ·refine qT rfl g3 (ls_skip (hK2 _ (ls_seq_k fun K4 hK4 => ls_blk (rs ?_))))
  obtain ⟨e5, g6, h⟩ := ob_some h
  refine qI rfl zc231_dd g6 (sp 3 rfl (evn (rn 1 rfl ?_)))
  rcases cond_some h with ⟨g7, h⟩ | ⟨g7, h⟩
  ·exact qT rfl g7 (rn 1 rfl (ls_ret ((by cases h; cases hr1; exact ⟨.inl rfl, rfl⟩))))
  ·exact qF rfl g7 (ls_skip (hK4 _ (rg (sp 2 rfl (evn (hN _ _ h (okr rfl)))))))
 ·exact qF rfl g3 (ls_exit (kXB1 (Option.some.inj h) _ trivial))
def impl_IsStrictlyAscending_B1 (a0 : List Int) (rec : Int → Option (Sum (Unit) (Bool))) (y1 : Int) : Option (Sum (Unit) (Bool)) := cond (decide (y1 < (List.length a0 : Int))) (obind (geti a0 (IntKind.i64.wrap (y1 - 1))) fun e5 => obind (geti a0 y1) fun e7 => cond (decide (e7 ≤ e5)) (some (.inr false)) (rec (IntKind.i64.wrap (y1 + 1)))) (some (.inl ()))
def impl_IsStrictlyAscending (a0 : List Int) : Option (Bool) := obind (loopF (impl_IsStrictlyAscending_B1 a0) fz 1) fun o1 => (match o1 with
  | .inl _ => (some true)
  | .inr r => some r)
theorem impl_IsStrictlyAscending_s {a0 : List Int} {r : Bool} (h : impl_IsStrictlyAscending a0 = some r) : SoundAt Try.prog 16 [dL ci64 a0] (.bool r) := by
 unfold impl_IsStrictlyAscending at h
 refine st lit16 rfl (rn 1 rfl (ls_seq_k fun K1 hK1 => rn 1 rfl ?_))
 obtain ⟨o1, hl, hr1⟩ := ob_some h
 have kXB1 : (.inl ()) = o1 → Jn K1 [] := by
  intro h σ' hk
  subst h
  replace h := hr1
  try dsimp only at h
  exact hK1 _ (lh hk rfl (rn 1 rfl (ls_ret ((by cases h; exact ⟨.inl rfl, rfl⟩)))))
 refine ls_rec (fun (y1 : Int) => [(0, dL ci64 a0), (3, nI y1)]) _ _ _ _ hl (okr rfl) (fun _ => rfl) ?_
 rintro m y1 N h hN
 unfold impl_IsStrictlyAscending_B1 at h
 refine ls_seq_k fun K2 hK2 => rn 1 rfl ?_
 rcases cond_some h with ⟨g3, h⟩ | ⟨g3, h⟩
 ·refine qT rfl g3 (ls_skip (hK2 _ (ls_seq_k fun K4 hK4 => ls_blk (rd (by kernel_rfl) (sd 3 rfl (?_))))))
  obtain ⟨e5, g6, h⟩ := ob_some h
  refine ed rfl (qI rfl zci64 g6 (sd 3 rfl (?_)))
  obtain ⟨e7, g8, h⟩ := ob_some h
  refine ed rfl (qI rfl zci64 g8 (sd 2 rfl (evdn ?_)))
  rcases cond_some h with ⟨g9, h⟩ | ⟨g9, h⟩
  ·exact qT rfl g9 (rn 1 rfl (ls_ret ((by cases h; cases hr1; exact ⟨.inl rfl, rfl⟩))))
  ·exact qF rfl g9 (ls_skip (hK4 _ (rg (sp 3 rfl (evn (hN _ _ h (okr rfl)))))))
 ·exact qF rfl g3 (ls_exit (kXB1 (Option.some.inj h) _ trivial))
def impl_ascendingLists_B1 (a0 : List (List Int)) (rec : Int → Option (Sum (Unit) (Bool))) (y1 : Int) : Option (Sum (Unit) (Bool)) := cond (decide (y1 < (List.length a0 : Int))) (obind (geti a0 y1) fun e5 => obind (impl_IsStrictlyAscending e5) fun v7 => cond (!v7) (some (.inr false)) (rec (IntKind.i64.wrap (y1 + 1)))) (some (.inl ()))
def impl_ascendingLists (a0 : List (List Int)) : Option (Bool) := obind (loopF (impl_ascendingLists_B1 a0) fz 0) fun o1 => (match o1 with
  | .inl _ => (some (decide (0 < (List.length a0 : Int))))
  | .inr r => some r)
theorem impl_ascendingLists_s {a0 : List (List Int)} {r : Bool} (h : impl_ascendingLists a0 = some r) : SoundAt Try.prog 208 [dL c31_d a0] (.bool r) := by
 unfold impl_ascendingLists at h
 refine st lit208 rfl (rn 1 rfl (ls_seq_k fun K1 hK1 => rn 1 rfl ?_))
 obtain ⟨o1, hl, hr1⟩ := ob_some h
 have kXB1 : (.inl ()) = o1 → Jn K1 [(0, dL c31_d a0)] := by
  intro h σ' hk
  subst h
  replace h := hr1
  try dsimp only at h
  exact hK1 _ (lh hk rfl (rn 1 rfl (ls_ret ((by cases h; exact ⟨.inl rfl, rfl⟩)))))
 refine ls_rec (fun (y1 : Int) => [(0, dL c31_d a0), (5, dL c31_d a0), (6, nI (List.length a0 : Int)), (7, nI y1)]) _ _ _ _ hl (okr rfl) (fun _ => rfl) ?_
 rintro m y1 N h hN
 unfold impl_ascendingLists_B1 at h
 refine rn 1 rfl (ls_seq_k fun K2 hK2 => ?_)
 rcases cond_some h with ⟨g3, h⟩ | ⟨g3, h⟩
 ·refine qT rfl g3 (ls_skip (hK2 _ (ls_seq_k fun K4 hK4 => ls_blk (rs ?_))))
  obtain ⟨e5, g6, h⟩ := ob_some h
  refine qI rfl zc31_d g6 (sp 2 rfl (evn (rs (sp 1 rfl (?_)))))
  obtain ⟨v7, g8, h⟩ := ob_some h
  refine qC (qa rfl (erD eci64 _) eran) (impl_IsStrictlyAscending_s g8) (sp 1 rfl (evn ?_))
  rcases cond_some h with ⟨g9, h⟩ | ⟨g9, h⟩
  ·exact qT rfl g9 (rn 1 rfl (ls_ret ((by cases h; cases hr1; exact ⟨.inl rfl, rfl⟩))))
  ·exact qF rfl g9 (ls_skip (hK4 _ (rg (sp 2 rfl (evn (hN _ _ h (okr rfl)))))))
 ·exact qF rfl g3 (ls_exit (kXB1 (Option.some.inj h) _ (okr rfl)))
def impl_ShortestLength_J3 (rec : (Int × Int) → Option (Int)) (y2 : Int) (x10 : Int) : Option (Int) := rec (x10, (IntKind.i64.wrap (y2 + 1)))
def impl_ShortestLength_J2 (rec : (Int × Int) → Option (Int)) (y1 : Int) (y2 : Int) (e6 : List Int) (x9 : Bool) : Option (Int) := cond x9 (impl_ShortestLength_J3 rec y2 (List.length e6 : Int)) (impl_ShortestLength_J3 rec y2 y1)
def impl_ShortestLength_B1 (a0 : List (List Int)) (rec : (Int × Int) → Option (Int)) (s : Int × Int) : Option (Int) := match s with
  | (y1, y2) => cond (decide (y2 < (List.length a0 : Int))) (obind (geti a0 y2) fun e6 => cond (y2 == 0) (impl_ShortestLength_J2 rec y1 y2 e6 true) (impl_ShortestLength_J2 rec y1 y2 e6 (decide ((List.length e6 : Int) < y1)))) (some y1)
def impl_ShortestLength (a0 : List (List Int)) : Option (Int) := obind (loopF (impl_ShortestLength_B1 a0) fz (0, 0)) fun z2 => some z2
theorem impl_ShortestLength_s {a0 : List (List Int)} {r : Int} (h : impl_ShortestLength a0 = some r) : SoundAt Try.prog 209 [dL c31_d a0] (nI r) := by
 unfold impl_ShortestLength at h
 refine st lit209 rfl (rn 2 rfl (ls_seq_k fun K1 hK1 => rn 1 rfl ?_))
 obtain ⟨o1, hl, hr1⟩ := ob_some h
 have kXB1 : ∀ {z2 : Int}, z2 = o1 → Jn K1 [(3, nI z2)] := by
  intro z2 h σ' hk
  subst h
  replace h := hr1
  try dsimp only at h
  exact hK1 _ (lh hk rfl (rn 1 rfl (ls_ret ((by cases h; exact ⟨.inl rfl, rfl⟩)))))
 refine ls_rec (fun (s : Int × Int) => match s with | (y1, y2) => [(3, nI y1), (6, dL c31_d a0), (7, nI (List.length a0 : Int)), (8, nI y2)]) _ _ _ _ hl (okr rfl) (fun _ => rfl) ?_
 rintro m ⟨y1, y2⟩ N h hN
 unfold impl_ShortestLength_B1 at h
 dsimp only at h
 refine rn 1 rfl (ls_seq_k fun K3 hK3 => ?_)
 rcases cond_some h with ⟨g4, h⟩ | ⟨g4, h⟩
 ·refine qT rfl g4 (ls_skip (hK3 _ (ls_seq_k fun K5 hK5 => ls_blk (rs (sp 1 rfl (?_))))))
  obtain ⟨e6, g7, h⟩ := ob_some h
  refine qI rfl zc31_d g7 (sp 3 rfl (evn (rk fun K8 hK8 => ?_)))
  have kJ2 : ∀ {x9 : Bool}, impl_ShortestLength_J2 (loopF (impl_ShortestLength_B1 a0) m) y1 y2 e6 x9 = some o1 → Jn K8 [(3, nI y1), (5, dL ci64 e6), (6, dL c31_d a0), (7, nI (List.length a0 : Int)), (8, nI y2), (20, .bool x9)] := by
   intro x9 h σ' hk
   unfold impl_ShortestLength_J2 at h
   refine hK8 _ (lh hk rfl ?_)
   have kJ3 : ∀ {x10 : Int}, impl_ShortestLength_J3 (loopF (impl_ShortestLength_B1 a0) m) y2 x10 = some o1 → Jn K5 [(3, nI x10), (6, dL c31_d a0), (7, nI (List.length a0 : Int)), (8, nI y2)] := by
    intro x10 h σ' hk
    unfold impl_ShortestLength_J3 at h
    exact hK5 _ (lh hk rfl (rg (sp 2 rfl (evn (hN _ _ h (okr rfl))))))
   rcases cond_some h with ⟨g11, h⟩ | ⟨g11, h⟩
   ·exact qT rfl g11 (rg (sp 3 rfl (evn (kJ3 h _ (okr rfl)))))
   ·exact qF rfl g11 (ls_skip (kJ3 h _ (okr rfl)))
  refine sp 3 rfl (?_)
  rcases cond_some h with ⟨g12, h⟩ | ⟨g12, h⟩
  ·exact qg 15 g12 rfl (sp 5 rfl (evn (kJ2 h _ (okr rfl))))
  ·exact qg 15 g12 rfl (sp 5 rfl (evn (kJ2 h _ (okr rfl))))
 ·exact qF rfl g4 (ls_exit (kXB1 (Option.some.inj h) _ (okr rfl)))
def impl_SeekIndex_B1 (a0 : List Int) (a2 : Int) (rec : Int → Option (Sum (Unit) (Int))) (y1 : Int) : Option (Sum (Unit) (Int)) := cond (decide (y1 < (List.length a0 : Int))) (obind (geti a0 y1) fun e5 => cond (decide (a2 ≤ e5)) (some (.inr y1)) (rec (IntKind.i64.wrap (y1 + 1)))) (some (.inl ()))
def impl_SeekIndex (a0 : List Int) (a1 : Int) (a2 : Int) : Option (Int) := obind (loopF (impl_SeekIndex_B1 a0 a2) fz (if 0 < a1 then a1 else 0)) fun o1 => (match o1 with
  | .inl _ => (some (List.length a0 : Int))
  | .inr r => some r)
theorem impl_SeekIndex_s {a0 : List Int} {a1 : Int} {a2 : Int} {r : Int} (h : impl_SeekIndex a0 a1 a2 = some r) : SoundAt Try.prog 210 [dL ci64 a0, nI a1, nI a2] (nI r) := by
 unfold impl_SeekIndex at h
 refine st lit210 rfl (rn 1 rfl (ls_seq_k fun K1 hK1 => rn 1 rfl ?_))
 obtain ⟨o1, hl, hr1⟩ := ob_some h
 have kXB1 : (.inl ()) = o1 → Jn K1 [(0, dL ci64 a0)] := by
  intro h σ' hk
  subst h
  replace h := hr1
  try dsimp only at h
  exact hK1 _ (lh hk rfl (rn 1 rfl (ls_ret ((by cases h; exact ⟨.inl rfl, rfl⟩)))))
 refine ls_rec (fun (y1 : Int) => [(0, dL ci64 a0), (2, nI a2), (7, nI y1)]) _ _ _ _ hl (okr rfl) (fun _ => rfl) ?_
 rintro m y1 N h hN
 unfold impl_SeekIndex_B1 at h
 refine ls_seq_k fun K2 hK2 => rn 1 rfl ?_
 rcases cond_some h with ⟨g3, h⟩ | ⟨g3, h⟩
 ·refine qT rfl g3 (ls_skip (hK2 _ (ls_seq_k fun K4 hK4 => ls_blk (rs (sp 2 rfl (?_))))))
  obtain ⟨e5, g6, h⟩ := ob_some h
  refine qI rfl zci64 g6 (sp 3 rfl (evn ?_))
  rcases cond_some h with ⟨g7, h⟩ | ⟨g7, h⟩
  ·exact qT rfl g7 (rn 1 rfl (ls_ret ((by cases h; cases hr1; exact ⟨.inl rfl, rfl⟩))))
  ·exact qF rfl g7 (ls_skip (hK4 _ (rg (sp 3 rfl (evn (hN _ _ h (okr rfl)))))))
 ·exact qF rfl g3 (ls_exit (kXB1 (Option.some.inj h) _ (okr rfl)))
def impl_LeapfrogIntersect_B2 (y2 : List (List Int)) (e13 : List Int) (rec : Int → Option (Int)) (y5 : Int) : Option (Int) := cond (decide (0 < y5)) (obind (geti y2 (IntKind.i64.wrap (y5 - 1))) fun e19 => obind (geti e19 0) fun e21 => obind (geti e13 0) fun e23 => cond (decide (e23 < e21)) (rec (IntKind.i64.wrap (y5 - 1))) (some y5)) (some y5)
def impl_LeapfrogIntersect_B1 (a0 : List (List Int)) (rec : ((List (List Int)) × Int) → Option ((List (List Int)))) (s : (List (List Int)) × Int) : Option ((List (List Int))) := match s with
  | (y2, y3) => cond (decide (y3 < (List.length a0 : Int))) (obind (geti a0 y3) fun e13 => obind (loopF (impl_LeapfrogIntersect_B2 y2 e13) fz (List.length y2 : Int)) fun z16 => chk ((0 : Int) ≤ 0 ∧ 0 ≤ z16 ∧ z16 ≤ (List.length y2 : Int)) (chk (List.length ([] : List (List Int)) + List.length (subl y2 0 z16) ≤ lim) (chk (List.length (([] : List (List Int)) ++ (subl y2 0 z16)) + List.length [e13] ≤ lim) (chk ((0 : Int) ≤ z16 ∧ z16 ≤ (List.length y2 : Int) ∧ (List.length y2 : Int) ≤ (List.length y2 : Int)) (chk (List.length ((([] : List (List Int)) ++ (subl y2 0 z16)) ++ [e13]) + List.length (subl y2 z16 (List.length y2 : Int)) ≤ lim) (rec ((((([] : List (List Int)) ++ (subl y2 0 z16)) ++ [e13]) ++ (subl y2 z16 (List.length y2 : Int))), (IntKind.i64.wrap (y3 + 1))))))))) (some y2)
def impl_LeapfrogIntersect_J4 (rec : ((List Int) × Int × (List Int) × Int) → Option (Sum (Unit) ((List Int) × Int))) (z9 : List (List Int)) (y9 : Int) (e38 : List Int) (x45 : List Int) (x46 : List Int) : Option (Sum (Unit) ((List Int) × Int)) := obind (geti x45 (Int.tmod (IntKind.i64.wrap (y9 - 1)) (List.length z9 : Int))) fun e48 => cond (e48 == (List.length e38 : Int)) (some (.inr (x46, y9))) (obind (geti x45 (Int.tmod (IntKind.i64.wrap (y9 - 1)) (List.length z9 : Int))) fun e51 => obind (geti e38 e51) fun e53 => rec (x45, e53, x46, (IntKind.i64.wrap (y9 + 1))))
def impl_LeapfrogIntersect_B3 (z9 : List (List Int)) (rec : ((List Int) × Int × (List Int) × Int) → Option (Sum (Unit) ((List Int) × Int))) (s : (List Int) × Int × (List Int) × Int) : Option (Sum (Unit) ((List Int) × Int)) := match s with
  | (y6, y7, y8, y9) => chk ((List.length z9 : Int) ≠ 0) (obind (geti z9 (Int.tmod (IntKind.i64.wrap (y9 - 1)) (List.length z9 : Int))) fun e38 => obind (geti y6 (Int.tmod (IntKind.i64.wrap (y9 - 1)) (List.length z9 : Int))) fun e41 => obind (geti e38 e41) fun e43 => cond (e43 == y7) (chk (List.length y8 + List.length [y7] ≤ lim) (obind (geti y6 (Int.tmod (IntKind.i64.wrap (y9 - 1)) (List.length z9 : Int))) fun e57 => obind (geti y6 (Int.tmod (IntKind.i64.wrap (y9 - 1)) (List.length z9 : Int))) fun e59 => impl_LeapfrogIntersect_J4 rec z9 y9 e38 (seti y6 (Int.tmod (IntKind.i64.wrap (y9 - 1)) (List.length z9 : Int)) (IntKind.i64.wrap (e57 + 1))) (y8 ++ [y7]))) (obind (geti y6 (Int.tmod (IntKind.i64.wrap (y9 - 1)) (List.length z9 : Int))) fun e61 => obind (impl_SeekIndex e38 e61 y7) fun v63 => obind (geti y6 (Int.tmod (IntKind.i64.wrap (y9 - 1)) (List.length z9 : Int))) fun e65 => impl_LeapfrogIntersect_J4 rec z9 y9 e38 (seti y6 (Int.tmod (IntKind.i64.wrap (y9 - 1)) (List.length z9 : Int)) v63) y8))
def impl_LeapfrogIntersect (a0 : List (List Int)) : Option ((List Int) × Int) := obind (impl_ascendingLists a0) fun v2 => cond (!v2) (some (([] : List Int), 0)) (obind (impl_ShortestLength a0) fun v5 => cond (v5 == 0) (some (([] : List Int), 0)) (obind (loopF (impl_LeapfrogIntersect_B1 a0) fz (([] : List (List Int)), 0)) fun z9 => chk ((0 : Int) ≤ (List.length z9 : Int) ∧ Int.toNat (List.length z9 : Int) ≤ lim) (obind (geti z9 (IntKind.i64.wrap ((List.length z9 : Int) - 1))) fun e32 => obind (geti e32 0) fun e34 => obind (loopF (impl_LeapfrogIntersect_B3 z9) fz ((List.replicate (Int.toNat (List.length z9 : Int)) (0 : Int)), e34, ([] : List Int), 1)) fun o3 => (match o3 with
  | .inl _ => (none)
  | .inr r => some r))))
theorem impl_LeapfrogIntersect_s {a0 : List (List Int)} {r : (List Int) × Int} (h : impl_LeapfrogIntersect a0 = some r) : SoundAt Try.prog 149 [dL c31_d a0] (.tup [oL 3 ci64 r.1, nI r.2]) := by
 unfold impl_LeapfrogIntersect at h
 refine st lit149 rfl (rn 1 rfl (ls_seq_k fun K1 hK1 => rs (sp 1 rfl (?_))))
 obtain ⟨v2, g3, h⟩ := ob_some h
 refine qC (qa rfl (erD ec31_d _) eran) (impl_ascendingLists_s g3) (sp 2 rfl (?_))
 rcases cond_some h with ⟨g4, h⟩ | ⟨g4, h⟩
 ·exact qg 17 g4 rfl (sp 4 rfl (evn (qT rfl rfl (rn 1 rfl (ls_ret ((by cases h; exact ⟨.inl rfl, rfl⟩)))))))
 ·refine qg 17 g4 rfl (sp 1 rfl (?_))
  obtain ⟨v5, g6, h⟩ := ob_some h
  refine oGR rfl rfl (qC (qa rfl (erD ec31_d _) eran) (impl_ShortestLength_s g6) (sp 2 rfl (evn ?_)))
  rcases cond_some h with ⟨g7, h⟩ | ⟨g7, h⟩
  ·exact qT rfl g7 (rn 1 rfl (ls_ret ((by cases h; exact ⟨.inl rfl, rfl⟩))))
  ·refine qF rfl g7 (ls_skip (hK1 _ (rn 1 rfl (qk [0, 4] rfl (ls_seq_k fun K8 hK8 => rn 1 rfl ?_)))))
   obtain ⟨o1, hl, hr1⟩ := ob_some h
   have kXB1 : ∀ {z9 : List (List Int)}, z9 = o1 → Jn K8 [(4, oL 31 c31_d z9)] := by
    intro z9 h σ' hk
    subst h
    replace h := hr1
    try dsimp only at h
    refine hK8 _ (lh hk rfl (rs (sp 2 rfl (?_))))
    obtain ⟨g31, h⟩ := chk_some h
    refine qMu ci64 (0 : Int) rfl rfl rfl rfl g31 rfl (qAu rfl rfl rfl rfl (evn (rs (sp 4 rfl (?_)))))
    obtain ⟨e32, g33, h⟩ := ob_some h
    refine qI rfl zc31_d g33 (sp 1 rfl (?_))
    obtain ⟨e34, g35, h⟩ := ob_some h
    refine qI rfl zci64 g35 (sp 2 rfl (evn (rn 2 rfl ?_)))
    obtain ⟨o3, hl, hr3⟩ := ob_some h
    refine ls_rec (fun (s : (List Int) × Int × (List Int) × Int) => match s with | (y6, y7, y8, y9) => [(4, oL 31 c31_d z9), (8, wL 3 ci64 y6), (9, nI y7), (10, oL 3 ci64 y8), (11, nI y9)]) _ _ _ _ hl (okr rfl) (fun _ => rfl) ?_
    rintro m ⟨y6, y7, y8, y9⟩ N h hN
    unfold impl_LeapfrogIntersect_B3 at h
    dsimp only at h
    refine ls_seq_k fun K36 hK36 => ls_blk (rs (sp 4 rfl (?_)))
    obtain ⟨g37, h⟩ := chk_some h
    refine qB rfl ⟨rfl, g37⟩ rfl (sp 1 rfl (evn (rs (sp 2 rfl (?_)))))
    obtain ⟨e38, g39, h⟩ := ob_some h
    refine qI rfl zc31_d g39 (sp 2 rfl (evn (ls_seq_k fun K40 hK40 => rs (sp 3 rfl (?_)))))
    obtain ⟨e41, g42, h⟩ := ob_some h
    refine qIu rfl ⟨(geti_some g42).1, (geti_some g42).2.1⟩ (qLu 0 rfl rfl rfl zci64 g42 rfl rfl rfl (?_))
    obtain ⟨e43, g44, h⟩ := ob_some h
    refine qI rfl zci64 g44 (sp 3 rfl (evn ?_))
    have kJ4 : ∀ {x45 : List Int} {x46 : List Int}, impl_LeapfrogIntersect_J4 (loopF (impl_LeapfrogIntersect_B3 z9) m) z9 y9 e38 x45 x46 = some o3 → Jn K40 [(4, oL 31 c31_d z9), (8, wL 3 ci64 x45), (10, oL 3 ci64 x46), (11, nI y9), (12, nI (Int.tmod (IntKind.i64.wrap (y9 - 1)) (List.length z9 : Int))), (13, dL ci64 e38)] := by
     intro x45 x46 h σ' hk
     unfold impl_LeapfrogIntersect_J4 at h
     refine hK40 _ (lh hk rfl (ls_seq_k fun K47 hK47 => rs (sp 2 rfl (?_))))
     obtain ⟨e48, g49, h⟩ := ob_some h
     refine qIu rfl ⟨(geti_some g49).1, (geti_some g49).2.1⟩ (qLu 0 rfl rfl rfl zci64 g49 rfl rfl rfl (sp 3 rfl (evn ?_)))
     rcases cond_some h with ⟨g50, h⟩ | ⟨g50, h⟩
     ·exact qT rfl g50 (rn 1 rfl (ls_ret ((by cases h; cases hr3; exact ⟨.inl rfl, rfl⟩))))
     ·refine qF rfl g50 (ls_skip (hK47 _ (rg (sp 3 rfl (?_)))))
      obtain ⟨e51, g52, h⟩ := ob_some h
      refine qIu rfl ⟨(geti_some g52).1, (geti_some g52).2.1⟩ (qLu 0 rfl rfl rfl zci64 g52 rfl rfl rfl (?_))
      obtain ⟨e53, g54, h⟩ := ob_some h
      exact qI rfl zci64 g54 (sp 2 rfl (evn (hK36 _ (rg (sp 3 rfl (evn (hN _ _ h (okr rfl))))))))
    rcases cond_some h with ⟨g55, h⟩ | ⟨g55, h⟩
    ·refine qT rfl g55 (rs (sp 2 rfl (qBs ci64 [y7] rfl rfl rfl zci64 (?_))))
     obtain ⟨g56, h⟩ := chk_some h
     refine qA ci64 y8 [y7] rfl rfl (flat_len zci64 [y7]) rfl g56 (sp 1 rfl (evn (rg (sp 2 rfl (?_)))))
     obtain ⟨e57, g58, h⟩ := ob_some h
     refine qIu rfl ⟨(geti_some g58).1, (geti_some g58).2.1⟩ (qLu 0 rfl rfl rfl zci64 g58 rfl rfl rfl (sp 1 rfl (?_)))
     obtain ⟨e59, g60, h⟩ := ob_some h
     exact qIu rfl ⟨(geti_some g60).1, (geti_some g60).2.1⟩ (qSu (IntKind.i64.wrap (e57 + 1)) rfl rfl zci64 ⟨(geti_some g60).1, (geti_some g60).2.1⟩ rfl rfl rfl rfl rfl rfl (evn (kJ4 h _ (okr rfl))))
    ·refine qF rfl g55 (rg (sp 5 rfl (?_)))
     obtain ⟨e61, g62, h⟩ := ob_some h
     refine qIu rfl ⟨(geti_some g62).1, (geti_some g62).2.1⟩ (qLu 0 rfl rfl rfl zci64 g62 rfl rfl rfl (sp 1 rfl (?_)))
     obtain ⟨v63, g64, h⟩ := ob_some h
     refine qC (qa rfl (erD eci64 _) (qs rfl (qs rfl eran))) (impl_SeekIndex_s g64) (?_)
     obtain ⟨e65, g66, h⟩ := ob_some h
     exact qIu rfl ⟨(geti_some g66).1, (geti_some g66).2.1⟩ (qSu v63 rfl rfl zci64 ⟨(geti_some g66).1, (geti_some g66).2.1⟩ rfl rfl rfl rfl rfl rfl (evn (kJ4 h _ (okr rfl))))
   refine ls_rec (fun (s : (List (List Int)) × Int) => match s with | (y2, y3) => [(4, oL 31 c31_d y2), (22, dL c31_d a0), (23, nI (List.length a0 : Int)), (24, nI y3)]) _ _ _ _ hl (okr rfl) (fun _ => rfl) ?_
   rintro m ⟨y2, y3⟩ N h hN
   unfold impl_LeapfrogIntersect_B1 at h
   dsimp only at h
   refine rn 1 rfl (ls_seq_k fun K10 hK10 => ?_)
   rcases cond_some h with ⟨g11, h⟩ | ⟨g11, h⟩
   ·refine qT rfl g11 (ls_skip (hK10 _ (ls_seq_k fun K12 hK12 => ls_blk (rs ?_))))
    obtain ⟨e13, g14, h⟩ := ob_some h
    refine qI rfl zc31_d g14 (sp 2 rfl (evn (rn 1 rfl (ls_seq_k fun K15 hK15 => ?_))))
    obtain ⟨o2, hl, hr2⟩ := ob_some h
    have kXB2 : ∀ {z16 : Int}, z16 = o2 → Jn K15 [(4, oL 31 c31_d y2), (6, dL ci64 e13), (7, nI z16), (22, dL c31_d a0), (23, nI (List.length a0 : Int)), (24, nI y3)] := by
     intro z16 h σ' hk
     subst h
     replace h := hr2
     try dsimp only at h
     refine hK15 _ (lh hk rfl (rgd (by kernel_rfl) (ed rfl (qBs c31_o [] rfl rfl rfl zc31_o (sd 2 rfl (?_))))))
     obtain ⟨g26, h⟩ := chk_some h
     refine ed rfl (qSl rfl zc31_d g26 (?_))
     obtain ⟨g27, h⟩ := chk_some h
     refine ed rfl (qA c31_d ([] : List (List Int)) (subl y2 0 z16) rfl rfl (flat_len zc31_d (subl y2 0 z16)) (map_dg (fun _ => rfl) _) g27 (sd 1 rfl (ed rfl (qBs c31_d [e13] rfl rfl rfl zc31_d (?_)))))
     obtain ⟨g28, h⟩ := chk_some h
     refine ed rfl (qA c31_d (([] : List (List Int)) ++ (subl y2 0 z16)) [e13] rfl rfl (flat_len zc31_d [e13]) rfl g28 (sd 2 rfl (?_)))
     obtain ⟨g29, h⟩ := chk_some h
     refine ed rfl (qSl rfl zc31_d g29 (?_))
     obtain ⟨g30, h⟩ := chk_some h
     exact ed rfl (qA c31_d ((([] : List (List Int)) ++ (subl y2 0 z16)) ++ [e13]) (subl y2 z16 (List.length y2 : Int)) rfl rfl (flat_len zc31_d (subl y2 z16 (List.length y2 : Int))) (map_dg (fun _ => rfl) _) g30 (sd 1 rfl (evdn (hK12 _ (rg (sp 2 rfl (evn (hN _ _ h (okr rfl)))))))))
    refine ls_rec (fun (y5 : Int) => [(4, oL 31 c31_d y2), (6, dL ci64 e13), (7, nI y5), (22, dL c31_d a0), (23, nI (List.length a0 : Int)), (24, nI y3)]) _ _ _ _ hl (okr rfl) (fun _ => rfl) ?_
    rintro m y5 N h hN
    unfold impl_LeapfrogIntersect_B2 at h
    refine ls_seq_k fun K17 hK17 => rd (by kernel_rfl) (sd 3 rfl (?_))
    rcases cond_some h with ⟨g18, h⟩ | ⟨g18, h⟩
    ·refine qgd 32 g18 rfl (sd 3 rfl (?_))
     obtain ⟨e19, g20, h⟩ := ob_some h
     refine ed rfl (oGR rfl rfl (qI rfl zc31_d g20 (sd 1 rfl (?_))))
     obtain ⟨e21, g22, h⟩ := ob_some h
     refine ed rfl (oGR rfl rfl (qI rfl zci64 g22 (sd 2 rfl (?_))))
     obtain ⟨e23, g24, h⟩ := ob_some h
     refine ed rfl (oGR rfl rfl (qI rfl zci64 g24 (sd 3 rfl (evdn ?_))))
     rcases cond_some h with ⟨g25, h⟩ | ⟨g25, h⟩
     ·exact qT rfl g25 (ls_skip (hK17 _ (ls_blk (rg (sp 3 rfl (evn (hN _ _ h (okr rfl))))))))
     ·exact qF rfl g25 (ls_exit (kXB2 (Option.some.inj h) _ (okr rfl)))
    ·exact qgd 32 g18 rfl (sd 12 rfl (evdn (qk [4, 6, 7, 22, 23, 24, 44] rfl (qF rfl rfl (ls_exit (kXB2 (Option.some.inj h) _ (okr rfl)))))))
   ·exact qF rfl g11 (ls_exit (kXB1 (Option.some.inj h) _ (okr rfl)))
def impl_asRelation (a0 : Y25) : Option (Y25) := some a0
theorem impl_asRelation_s {a0 : Y25} {r : Y25} (h : impl_asRelation a0 = some r) : SoundAt Try.prog 246 [.agg (c231_dd a0)] (.agg (c26_dd r)) := by
 unfold impl_asRelation at h
 exact st lit246 rfl (rn 2 rfl (ls_ret ((by cases h; exact ⟨.inl rfl, rfl⟩))))
def impl_IsValidTrie (a0 : Y25) : Option (Bool) := obind (impl_asRelation a0) fun v1 => obind (impl_IsValidRelation v1) fun v3 => some v3
theorem impl_IsValidTrie_s {a0 : Y25} {r : Bool} (h : impl_IsValidTrie a0 = some r) : SoundAt Try.prog 243 [.agg (c231_dd a0)] (.bool r) := by
 unfold impl_IsValidTrie at h
 refine st lit243 rfl (rn 1 rfl (rs (sp 1 rfl (?_))))
 obtain ⟨v1, g2, h⟩ := ob_some h
 refine qC (qa rfl (erg (erc rfl (erc (erD ec31_d _) rfl))) eran) (impl_asRelation_s g2) (?_)
 obtain ⟨v3, g4, h⟩ := ob_some h
 exact qC (qa rfl (erg (erc rfl (erc (erD ec31_d _) rfl))) eran) (impl_IsValidRelation_s g4) (sp 1 rfl (evn (ls_ret ((by cases h; exact ⟨.inl rfl, rfl⟩)))))
def impl_TriePrefixRange_B1 (a0 : Y25) (a1 : List Int) (rec : Int → Option (Int)) (y1 : Int) : Option (Int) := cond (decide (y1 < (List.length a0.2 : Int))) (obind (geti a0.2 y1) fun e10 => chk ((0 : Int) ≤ 0 ∧ 0 ≤ (List.length a1 : Int) ∧ (List.length a1 : Int) ≤ (List.length e10 : Int)) (obind (impl_CompareRows (subl e10 0 (List.length a1 : Int)) a1) fun v13 => cond (decide (v13 < 0)) (rec (IntKind.i64.wrap (y1 + 1))) (some y1))) (some y1)
def impl_TriePrefixRange_B2 (a0 : Y25) (a1 : List Int) (rec : Int → Option (Int)) (y2 : Int) : Option (Int) := cond (decide (y2 < (List.length a0.2 : Int))) (obind (geti a0.2 y2) fun e20 => chk ((0 : Int) ≤ 0 ∧ 0 ≤ (List.length a1 : Int) ∧ (List.length a1 : Int) ≤ (List.length e20 : Int)) (obind (impl_CompareRows (subl e20 0 (List.length a1 : Int)) a1) fun v23 => cond (v23 == 0) (rec (IntKind.i64.wrap (y2 + 1))) (some y2))) (some y2)
def impl_TriePrefixRange (a0 : Y25) (a1 : List Int) : Option (Int × Int) := cond (decide (a0.1 < (List.length a1 : Int))) (some (0, 0)) (obind (impl_IsValidTrie a0) fun v3 => cond (!v3) (some (0, 0)) (obind (loopF (impl_TriePrefixRange_B1 a0 a1) fz 0) fun z7 => obind (loopF (impl_TriePrefixRange_B2 a0 a1) fz z7) fun z17 => some (z7, z17)))
theorem impl_TriePrefixRange_s {a0 : Y25} {a1 : List Int} {r : Int × Int} (h : impl_TriePrefixRange a0 a1 = some r) : SoundAt Try.prog 244 [.agg (c231_dd a0), dL ci64 a1] (.tup [nI r.1, nI r.2]) := by
 unfold impl_TriePrefixRange at h
 refine st lit244 rfl (rn 2 rfl (ls_seq_k fun K1 hK1 => rs (sp 5 rfl (?_))))
 rcases cond_some h with ⟨g2, h⟩ | ⟨g2, h⟩
 ·exact qg 15 g2 rfl (sp 4 rfl (evn (qT rfl rfl (rn 1 rfl (ls_ret ((by cases h; exact ⟨.inl rfl, rfl⟩)))))))
 ·refine qg 15 g2 rfl (sp 1 rfl (?_))
  obtain ⟨v3, g4, h⟩ := ob_some h
  refine oGR rfl rfl (qC (qa rfl (erg (erc rfl (erc (erD ec31_d _) rfl))) eran) (impl_IsValidTrie_s g4) (sp 2 rfl (evn ?_)))
  rcases cond_some h with ⟨g5, h⟩ | ⟨g5, h⟩
  ·exact qT rfl g5 (rn 1 rfl (ls_ret ((by cases h; exact ⟨.inl rfl, rfl⟩))))
  ·refine qF rfl g5 (ls_skip (hK1 _ (qk [1, 2, 6] rfl (rn 1 rfl (ls_seq_k fun K6 hK6 => ?_)))))
   obtain ⟨o1, hl, hr1⟩ := ob_some h
   have kXB1 : ∀ {z7 : Int}, z7 = o1 → Jn K6 [(1, dL ci64 a1), (2, .box [nI a0.1, dL c31_d a0.2]), (6, nI (List.length a1 : Int)), (7, nI z7)] := by
    intro z7 h σ' hk
    subst h
    replace h := hr1
    try dsimp only at h
    refine hK6 _ (lh hk rfl (rn 1 rfl (ls_seq_k fun K16 hK16 => ?_)))
    obtain ⟨o2, hl, hr2⟩ := ob_some h
    have kXB2 : ∀ {z17 : Int}, z17 = o2 → Jn K16 [(7, nI z7), (8, nI z17)] := by
     intro z17 h σ' hk
     subst h
     replace h := hr2
     try dsimp only at h
     exact hK16 _ (lh hk rfl (rn 1 rfl (ls_ret ((by cases h; exact ⟨.inl rfl, rfl⟩)))))
    refine ls_rec (fun (y2 : Int) => [(1, dL ci64 a1), (2, .box [nI a0.1, dL c31_d a0.2]), (6, nI (List.length a1 : Int)), (7, nI z7), (8, nI y2)]) _ _ _ _ hl (okr rfl) (fun _ => rfl) ?_
    rintro m y2 N h hN
    unfold impl_TriePrefixRange_B2 at h
    refine ls_seq_k fun K18 hK18 => rs (sp 6 rfl (?_))
    rcases cond_some h with ⟨g19, h⟩ | ⟨g19, h⟩
    ·refine qg 45 g19 rfl (sp 3 rfl (?_))
     obtain ⟨e20, g21, h⟩ := ob_some h
     refine oGR rfl rfl (qI rfl zc31_d g21 (sp 2 rfl (?_)))
     obtain ⟨g22, h⟩ := chk_some h
     refine oGR rfl rfl (qSl rfl zci64 g22 (sp 1 rfl (?_)))
     obtain ⟨v23, g24, h⟩ := ob_some h
     refine oGR rfl rfl (qC (qa rfl (erD eci64 _) (qa rfl (erD eci64 _) eran)) (impl_CompareRows_s g24) (sp 2 rfl (evn ?_)))
     rcases cond_some h with ⟨g25, h⟩ | ⟨g25, h⟩
     ·exact qT rfl g25 (ls_skip (hK18 _ (ls_blk (rg (sp 3 rfl (evn (hN _ _ h (okr rfl))))))))
     ·exact qF rfl g25 (ls_exit (kXB2 (Option.some.inj h) _ (okr rfl)))
    ·exact qg 45 g19 rfl (sp 11 rfl (evn (qk [1, 2, 6, 7, 8, 56] rfl (qF rfl rfl (ls_exit (kXB2 (Option.some.inj h) _ (okr rfl)))))))
   refine ls_rec (fun (y1 : Int) => [(1, dL ci64 a1), (2, .box [nI a0.1, dL c31_d a0.2]), (6, nI (List.length a1 : Int)), (7, nI y1)]) _ _ _ _ hl (okr rfl) (fun _ => rfl) ?_
   rintro m y1 N h hN
   unfold impl_TriePrefixRange_B1 at h
   refine ls_seq_k fun K8 hK8 => rs (sp 6 rfl (?_))
   rcases cond_some h with ⟨g9, h⟩ | ⟨g9, h⟩
   ·refine qg 25 g9 rfl (sp 3 rfl (?_))
    obtain ⟨e10, g11, h⟩ := ob_some h
    refine oGR rfl rfl (qI rfl zc31_d g11 (sp 2 rfl (?_)))
    obtain ⟨g12, h⟩ := chk_some h
    refine oGR rfl rfl (qSl rfl zci64 g12 (sp 1 rfl (?_)))
    obtain ⟨v13, g14, h⟩ := ob_some h
    refine oGR rfl rfl (qC (qa rfl (erD eci64 _) (qa rfl (erD eci64 _) eran)) (impl_CompareRows_s g14) (sp 2 rfl (evn ?_)))
    rcases cond_some h with ⟨g15, h⟩ | ⟨g15, h⟩
    ·exact qT rfl g15 (ls_skip (hK8 _ (ls_blk (rg (sp 3 rfl (evn (hN _ _ h (okr rfl))))))))
    ·exact qF rfl g15 (ls_exit (kXB1 (Option.some.inj h) _ (okr rfl)))
   ·exact qg 25 g9 rfl (sp 11 rfl (evn (qk [1, 2, 6, 7, 36] rfl (qF rfl rfl (ls_exit (kXB1 (Option.some.inj h) _ (okr rfl)))))))
def impl_TrieChildren_J3 (rec : ((List Int) × Int) → Option ((List Int))) (y2 : Int) (x18 : List Int) : Option ((List Int)) := rec (x18, (IntKind.i64.wrap (y2 + 1)))
def impl_TrieChildren_J2 (rec : ((List Int) × Int) → Option ((List Int))) (a1 : List Int) (y1 : List Int) (y2 : Int) (e14 : List Int) (x17 : Bool) : Option ((List Int)) := cond x17 (obind (geti e14 (List.length a1 : Int)) fun e20 => chk (List.length y1 + List.length [e20] ≤ lim) (impl_TrieChildren_J3 rec y2 (y1 ++ [e20]))) (impl_TrieChildren_J3 rec y2 y1)
def impl_TrieChildren_B1 (a0 : Y25) (a1 : List Int) (v6 : Int × Int) (rec : ((List Int) × Int) → Option ((List Int))) (s : (List Int) × Int) : Option ((List Int)) := match s with
  | (y1, y2) => cond (decide (y2 < (List.length (subl a0.2 v6.1 v6.2) : Int))) (obind (geti (subl a0.2 v6.1 v6.2) y2) fun e14 => cond ((List.length y1 : Int) == 0) (impl_TrieChildren_J2 rec a1 y1 y2 e14 true) (obind (geti y1 (IntKind.i64.wrap ((List.length y1 : Int) - 1))) fun e24 => obind (geti e14 (List.length a1 : Int)) fun e26 => impl_TrieChildren_J2 rec a1 y1 y2 e14 (e24 != e26))) (some y1)
def impl_TrieChildren (a0 : Y25) (a1 : List Int) : Option ((List Int)) := cond (decide (a0.1 ≤ (List.length a1 : Int))) (some ([] : List Int)) (obind (impl_IsValidTrie a0) fun v3 => cond (!v3) (some ([] : List Int)) (obind (impl_TriePrefixRange a0 a1) fun v6 => chk ((0 : Int) ≤ v6.1 ∧ v6.1 ≤ v6.2 ∧ v6.2 ≤ (List.length a0.2 : Int)) (obind (loopF (impl_TrieChildren_B1 a0 a1 v6) fz (([] : List Int), 0)) fun z10 => some z10)))
theorem impl_TrieChildren_s {a0 : Y25} {a1 : List Int} {r : (List Int)} (h : impl_TrieChildren a0 a1 = some r) : SoundAt Try.prog 231 [.agg (c231_dd a0), dL ci64 a1] (oL 3 ci64 r) := by
 unfold impl_TrieChildren at h
 refine st lit231 rfl (rn 2 rfl (ls_seq_k fun K1 hK1 => rs (sp 5 rfl (?_))))
 rcases cond_some h with ⟨g2, h⟩ | ⟨g2, h⟩
 ·exact qg 17 g2 rfl (sp 4 rfl (evn (qT rfl rfl (rn 1 rfl (ls_ret ((by cases h; exact ⟨.inl rfl, rfl⟩)))))))
 ·refine qg 17 g2 rfl (sp 1 rfl (?_))
  obtain ⟨v3, g4, h⟩ := ob_some h
  refine oGR rfl rfl (qC (qa rfl (erg (erc rfl (erc (erD ec31_d _) rfl))) eran) (impl_IsValidTrie_s g4) (sp 2 rfl (evn ?_)))
  rcases cond_some h with ⟨g5, h⟩ | ⟨g5, h⟩
  ·exact qT rfl g5 (rn 1 rfl (ls_ret ((by cases h; exact ⟨.inl rfl, rfl⟩))))
  ·refine qF rfl g5 (ls_skip (hK1 _ (qk [1, 2, 5] rfl (rn 1 rfl (rs (sp 2 rfl (?_)))))))
   obtain ⟨v6, g7, h⟩ := ob_some h
   refine qC (qa rfl (erg (erc rfl (erc (erD ec31_d _) rfl))) (qa rfl (erD eci64 _) eran)) (impl_TriePrefixRange_s g7) (sp 5 rfl (evn (ls_seq_k fun K8 hK8 => rs (sp 4 rfl (?_)))))
   obtain ⟨g9, h⟩ := chk_some h
   refine qSl rfl zc31_d g9 (sp 2 rfl (evn ?_))
   obtain ⟨o1, hl, hr1⟩ := ob_some h
   have kXB1 : ∀ {z10 : List Int}, z10 = o1 → Jn K8 [(6, oL 3 ci64 z10)] := by
    intro z10 h σ' hk
    subst h
    replace h := hr1
    try dsimp only at h
    exact hK8 _ (lh hk rfl (rn 1 rfl (ls_ret ((by cases h; exact ⟨.inl rfl, rfl⟩)))))
   refine ls_rec (fun (s : (List Int) × Int) => match s with | (y1, y2) => [(5, nI (List.length a1 : Int)), (6, oL 3 ci64 y1), (32, dL c31_d (subl a0.2 v6.1 v6.2)), (33, nI (List.length (subl a0.2 v6.1 v6.2) : Int)), (34, nI y2)]) _ _ _ _ hl (okr rfl) (fun _ => rfl) ?_
   rintro m ⟨y1, y2⟩ N h hN
   unfold impl_TrieChildren_B1 at h
   dsimp only at h
   refine rn 1 rfl (ls_seq_k fun K11 hK11 => ?_)
   rcases cond_some h with ⟨g12, h⟩ | ⟨g12, h⟩
   ·refine qT rfl g12 (ls_skip (hK11 _ (ls_seq_k fun K13 hK13 => ls_blk (rs ?_))))
    obtain ⟨e14, g15, h⟩ := ob_some h
    refine qI rfl zc31_d g15 (sp 2 rfl (evn (rdk (by kernel_rfl) fun K16 hK16 => ?_)))
    have kJ2 : ∀ {x17 : Bool}, impl_TrieChildren_J2 (loopF (impl_TrieChildren_B1 a0 a1 v6) m) a1 y1 y2 e14 x17 = some o1 → Jn K16 [(5, nI (List.length a1 : Int)), (6, oL 3 ci64 y1), (10, dL ci64 e14), (32, dL c31_d (subl a0.2 v6.1 v6.2)), (33, nI (List.length (subl a0.2 v6.1 v6.2) : Int)), (34, nI y2), (53, .bool x17)] := by
     intro x17 h σ' hk
     unfold impl_TrieChildren_J2 at h
     refine hK16 _ (lh hk rfl ?_)
     have kJ3 : ∀ {x18 : List Int}, impl_TrieChildren_J3 (loopF (impl_TrieChildren_B1 a0 a1 v6) m) y2 x18 = some o1 → Jn K13 [(5, nI (List.length a1 : Int)), (6, oL 3 ci64 x18), (32, dL c31_d (subl a0.2 v6.1 v6.2)), (33, nI (List.length (subl a0.2 v6.1 v6.2) : Int)), (34, nI y2)] := by
      intro x18 h σ' hk
      unfold impl_TrieChildren_J3 at h
      exact hK13 _ (lh hk rfl (rg (sp 2 rfl (evn (hN _ _ h (okr rfl))))))
     rcases cond_some h with ⟨g19, h⟩ | ⟨g19, h⟩
     ·refine qT rfl g19 (rg (sp 3 rfl (?_)))
      obtain ⟨e20, g21, h⟩ := ob_some h
      refine qI rfl zci64 g21 (sp 1 rfl (qBs ci64 [e20] rfl rfl rfl zci64 (?_)))
      obtain ⟨g22, h⟩ := chk_some h
      exact qA ci64 y1 [e20] rfl rfl (flat_len zci64 [e20]) rfl g22 (sp 1 rfl (evn (kJ3 h _ (okr rfl))))
     ·exact qF rfl g19 (ls_skip (kJ3 h _ (okr rfl)))
    refine sd 4 rfl (?_)
    rcases cond_some h with ⟨g23, h⟩ | ⟨g23, h⟩
    ·exact qgd 41 g23 rfl (sd 12 rfl (evdn (kJ2 h _ (okr rfl))))
    ·refine qgd 41 g23 rfl (sd 4 rfl (?_))
     obtain ⟨e24, g25, h⟩ := ob_some h
     refine ed rfl (oGR rfl rfl (qI rfl zci64 g25 (sd 3 rfl (?_))))
     obtain ⟨e26, g27, h⟩ := ob_some h
     exact ed rfl (oGR rfl rfl (qI rfl zci64 g27 (sd 3 rfl (evdn (kJ2 h _ (okr rfl))))))
   ·exact qF rfl g12 (ls_exit (kXB1 (Option.some.inj h) _ (okr rfl)))
def impl_nextLists_J2 (rec : ((List (List Int)) × Int) → Option ((List (List Int)))) (y6 : Int) (x6 : List (List Int)) : Option ((List (List Int))) := rec (x6, (IntKind.i64.wrap (y6 + 1)))
def impl_nextLists_J4 (rec : ((List Int) × Int) → Option ((List Int))) (y14 : Int) (x26 : List Int) : Option ((List Int)) := rec (x26, (IntKind.i64.wrap (y14 + 1)))
def impl_nextLists_B3 (a2 : List Int) (a3 : List Int) (e7 : Y141) (rec : ((List Int) × Int) → Option ((List Int))) (s : (List Int) × Int) : Option ((List Int)) := match s with
  | (y13, y14) => cond (decide (y14 < (List.length a3 : Int))) (obind (geti a3 y14) fun e20 => obind (geti a2 y14) fun e22 => obind (impl_ContainsVariable e7 e22) fun v24 => cond v24 (chk (List.length y13 + List.length [e20] ≤ lim) (impl_nextLists_J4 rec y14 (y13 ++ [e20]))) (impl_nextLists_J4 rec y14 y13)) (some y13)
def impl_nextLists_B1 (a0 : Y58) (a1 : List Y25) (a2 : List Int) (a3 : List Int) (rec : ((List (List Int)) × Int) → Option ((List (List Int)))) (s : (List (List Int)) × Int) : Option ((List (List Int))) := match s with
  | (y5, y6) => cond (decide (y6 < (List.length a0.2.1 : Int))) (obind (geti a0.2.1 y6) fun e7 => obind (geti a2 (List.length a3 : Int)) fun e10 => obind (impl_ContainsVariable e7 e10) fun v12 => cond (!v12) (impl_nextLists_J2 rec y6 y5) (obind (loopF (impl_nextLists_B3 a2 a3 e7) fz (([] : List Int), 0)) fun z16 => obind (geti a1 y6) fun e29 => obind (impl_TrieChildren e29 z16) fun v31 => chk (List.length y5 + List.length [v31] ≤ lim) (impl_nextLists_J2 rec y6 (y5 ++ [v31])))) (some y5)
def impl_nextLists (a0 : Y58) (a1 : List Y25) (a2 : List Int) (a3 : List Int) : Option ((List (List Int))) := obind (loopF (impl_nextLists_B1 a0 a1 a2 a3) fz (([] : List (List Int)), 0)) fun z2 => some z2
theorem impl_nextLists_s {a0 : Y58} {a1 : List Y25} {a2 : List Int} {a3 : List Int} {r : (List (List Int))} (h : impl_nextLists a0 a1 a2 a3 = some r) : SoundAt Try.prog 207 [.agg (c59_ddd a0), dL c231_dd a1, dL ci64 a2, dL ci64 a3] (oL 31 c31_o r) := by
 unfold impl_nextLists at h
 refine st lit207 rfl (rn 2 rfl (ls_seq_k fun K1 hK1 => rn 1 rfl ?_))
 obtain ⟨o1, hl, hr1⟩ := ob_some h
 have kXB1 : ∀ {z2 : List (List Int)}, z2 = o1 → Jn K1 [(9, oL 31 c31_o z2)] := by
  intro z2 h σ' hk
  subst h
  replace h := hr1
  try dsimp only at h
  exact hK1 _ (lh hk rfl (rn 1 rfl (ls_ret ((by cases h; exact ⟨.inl rfl, rfl⟩)))))
 refine ls_rec (fun (s : (List (List Int)) × Int) => match s with | (y5, y6) => [(1, dL c231_dd a1), (2, dL ci64 a2), (3, dL ci64 a3), (9, oL 31 c31_o y5), (16, dL c142_d a0.2.1), (17, nI (List.length a0.2.1 : Int)), (18, nI y6)]) _ _ _ _ hl (okr rfl) (fun _ => rfl) ?_
 rintro m ⟨y5, y6⟩ N h hN
 unfold impl_nextLists_B1 at h
 dsimp only at h
 refine rn 1 rfl (ls_seq_k fun K3 hK3 => ?_)
 rcases cond_some h with ⟨g4, h⟩ | ⟨g4, h⟩
 ·refine qT rfl g4 (ls_skip (hK3 _ (ls_seq_k fun K5 hK5 => ?_)))
  have kJ2 : ∀ {x6 : List (List Int)}, impl_nextLists_J2 (loopF (impl_nextLists_B1 a0 a1 a2 a3) m) y6 x6 = some o1 → Jn K5 [(1, dL c231_dd a1), (2, dL ci64 a2), (3, dL ci64 a3), (9, oL 31 c31_o x6), (16, dL c142_d a0.2.1), (17, nI (List.length a0.2.1 : Int)), (18, nI y6)] := by
   intro x6 h σ' hk
   unfold impl_nextLists_J2 at h
   exact hK5 _ (lh hk rfl (rg (sp 2 rfl (evn (hN _ _ h (okr rfl))))))
  refine ls_blk (rs (sp 1 rfl (?_)))
  obtain ⟨e7, g8, h⟩ := ob_some h
  refine qI rfl zc142_d g8 (sp 4 rfl (evn (ls_seq_k fun K9 hK9 => rd (by kernel_rfl) (sd 4 rfl (?_)))))
  obtain ⟨e10, g11, h⟩ := ob_some h
  refine ed rfl (qI rfl zci64 g11 (sd 1 rfl (?_)))
  obtain ⟨v12, g13, h⟩ := ob_some h
  refine ed rfl (qC (qa rfl (erg (erc rfl (erc (erD eci64 _) rfl))) (qs rfl eran)) (impl_ContainsVariable_s g13) (sd 1 rfl (evdn ?_)))
  rcases cond_some h with ⟨g14, h⟩ | ⟨g14, h⟩
  ·exact qT rfl g14 (ls_exit (kJ2 h _ (okr rfl)))
  ·refine qF rfl g14 (ls_skip (hK9 _ (rn 1 rfl (ls_seq_k fun K15 hK15 => rn 1 rfl ?_))))
   obtain ⟨o3, hl, hr3⟩ := ob_some h
   have kXB3 : ∀ {z16 : List Int}, z16 = o3 → Jn K15 [(1, dL c231_dd a1), (2, dL ci64 a2), (3, dL ci64 a3), (9, oL 31 c31_o y5), (10, nI y6), (12, oL 3 ci64 z16), (16, dL c142_d a0.2.1), (17, nI (List.length a0.2.1 : Int)), (18, nI y6)] := by
    intro z16 h σ' hk
    subst h
    replace h := hr3
    try dsimp only at h
    refine hK15 _ (lh hk rfl (rg (sp 3 rfl (?_))))
    obtain ⟨e29, g30, h⟩ := ob_some h
    refine qI rfl zc231_dd g30 (sp 2 rfl (?_))
    obtain ⟨v31, g32, h⟩ := ob_some h
    refine qC (qa rfl (erg (erc rfl (erc (erD ec31_d _) rfl))) (qa rfl (erD eci64 _) eran)) (impl_TrieChildren_s g32) (qBs c31_o [v31] rfl rfl rfl zc31_o (?_))
    obtain ⟨g33, h⟩ := chk_some h
    exact qA c31_o y5 [v31] rfl rfl (flat_len zc31_o [v31]) rfl g33 (sp 1 rfl (evn (kJ2 h _ (okr rfl))))
   refine ls_rec (fun (s : (List Int) × Int) => match s with | (y13, y14) => [(1, dL c231_dd a1), (2, dL ci64 a2), (3, dL ci64 a3), (9, oL 31 c31_o y5), (10, nI y6), (11, .box [.str e7.1, dL ci64 e7.2]), (12, oL 3 ci64 y13), (16, dL c142_d a0.2.1), (17, nI (List.length a0.2.1 : Int)), (18, nI y6), (31, dL ci64 a3), (32, nI (List.length a3 : Int)), (33, nI y14)]) _ _ _ _ hl (okr rfl) (fun _ => rfl) ?_
   rintro m ⟨y13, y14⟩ N h hN
   unfold impl_nextLists_B3 at h
   dsimp only at h
   refine rn 1 rfl (ls_seq_k fun K17 hK17 => ?_)
   rcases cond_some h with ⟨g18, h⟩ | ⟨g18, h⟩
   ·refine qT rfl g18 (ls_skip (hK17 _ (ls_seq_k fun K19 hK19 => ls_blk (rs (sp 1 rfl (?_))))))
    obtain ⟨e20, g21, h⟩ := ob_some h
    refine qI rfl zci64 g21 (sp 3 rfl (evn (rd (by kernel_rfl) (sd 3 rfl (?_)))))
    obtain ⟨e22, g23, h⟩ := ob_some h
    refine ed rfl (qI rfl zci64 g23 (sd 1 rfl (?_)))
    obtain ⟨v24, g25, h⟩ := ob_some h
    refine ed rfl (qC (qa rfl (erg (erc rfl (erc (erD eci64 _) rfl))) (qs rfl eran)) (impl_ContainsVariable_s g25) (evdn ?_))
    have kJ4 : ∀ {x26 : List Int}, impl_nextLists_J4 (loopF (impl_nextLists_B3 a2 a3 e7) m) y14 x26 = some o3 → Jn K19 [(1, dL c231_dd a1), (2, dL ci64 a2), (3, dL ci64 a3), (9, oL 31 c31_o y5), (10, nI y6), (11, .box [.str e7.1, dL ci64 e7.2]), (12, oL 3 ci64 x26), (16, dL c142_d a0.2.1), (17, nI (List.length a0.2.1 : Int)), (18, nI y6), (31, dL ci64 a3), (32, nI (List.length a3 : Int)), (33, nI y14)] := by
     intro x26 h σ' hk
     unfold impl_nextLists_J4 at h
     exact hK19 _ (lh hk rfl (rg (sp 2 rfl (evn (hN _ _ h (okr rfl))))))
    rcases cond_some h with ⟨g27, h⟩ | ⟨g27, h⟩
    ·refine qT rfl g27 (rg (sp 2 rfl (qBs ci64 [e20] rfl rfl rfl zci64 (?_))))
     obtain ⟨g28, h⟩ := chk_some h
     exact qA ci64 y13 [e20] rfl rfl (flat_len zci64 [e20]) rfl g28 (sp 1 rfl (evn (kJ4 h _ (okr rfl))))
    ·exact qF rfl g27 (ls_skip (kJ4 h _ (okr rfl)))
   ·exact qF rfl g18 (ls_exit (kXB3 (Option.some.inj h) _ (okr rfl)))
 ·exact qF rfl g4 (ls_exit (kXB1 (Option.some.inj h) _ (okr rfl)))
def impl_reach_LeapfrogIntersect_B3 (e13 : List Int) (v17 : (List Int) × Int) (rec : ((List (List Int)) × Int) → Option ((List (List Int)))) (s : (List (List Int)) × Int) : Option ((List (List Int))) := match s with
  | (y29, y30) => cond (decide (y30 < (List.length v17.1 : Int))) (obind (geti v17.1 y30) fun e23 => obind (impl_copyInts e13) fun v25 => chk (List.length v25 + List.length [e23] ≤ lim) (chk (List.length y29 + List.length ([v25 ++ [e23]]) ≤ lim) (rec ((y29 ++ ([v25 ++ [e23]])), (IntKind.i64.wrap (y30 + 1)))))) (some y29)
def impl_reach_LeapfrogIntersect_B2 (a0 : Y58) (a1 : List Y25) (a2 : List Int) (y10 : List (List Int)) (rec : (Int × (List (List Int)) × Int) → Option (Int × (List (List Int)))) (s : Int × (List (List Int)) × Int) : Option (Int × (List (List Int))) := match s with
  | (y24, y25, y26) => cond (decide (y26 < (List.length y10 : Int))) (obind (geti y10 y26) fun e13 => obind (impl_nextLists a0 a1 a2 e13) fun v15 => obind (impl_LeapfrogIntersect v15) fun v17 => obind (loopF (impl_reach_LeapfrogIntersect_B3 e13 v17) fz (y25, 0)) fun z19 => rec ((IntKind.i64.wrap (y24 + v17.2)), z19, (IntKind.i64.wrap (y26 + 1)))) (some (y24, y25))
def impl_reach_LeapfrogIntersect_B1 (a0 : Y58) (a1 : List Y25) (a2 : List Int) (a3 : Int) (rec : ((List (List Int)) × Int × Int) → Option ((List (List Int)) × Int)) (s : (List (List Int)) × Int × Int) : Option ((List (List Int)) × Int) := match s with
  | (y10, y11, y12) => cond (decide (y12 < a3)) (obind (loopF (impl_reach_LeapfrogIntersect_B2 a0 a1 a2 y10) fz (y11, ([] : List (List Int)), 0)) fun o2 => (match o2 with
  | (z8, z9) => (rec (z9, z8, (IntKind.i64.wrap (y12 + 1)))))) (some (y10, y11))
def impl_reach_LeapfrogIntersect (a0 : Y58) (a1 : List Y25) (a2 : List Int) (a3 : Int) : Option ((List (List Int)) × Int × Bool) := obind (loopF (impl_reach_LeapfrogIntersect_B1 a0 a1 a2 a3) fz (([[]]), 0, 0)) fun o1 => (match o1 with
  | (z2, z3) => (some (z2, z3, decide ((List.length z2 : Int) ≤ 4000))))
theorem impl_reach_LeapfrogIntersect_s {a0 : Y58} {a1 : List Y25} {a2 : List Int} {a3 : Int} {r : (List (List Int)) × Int × Bool} (h : impl_reach_LeapfrogIntersect a0 a1 a2 a3 = some r) : SoundAt Try.prog 148 [.agg (c59_ddd a0), dL c231_dd a1, dL ci64 a2, nI a3, .fn 149] (.tup [oL 31 c31_o r.1, nI r.2.1, .bool r.2.2]) := by
 unfold impl_reach_LeapfrogIntersect at h
 refine st lit148 rfl (rn 1 rfl (rs (qBs ci64 [] rfl rfl rfl zci64 (qBs c31_o [[]] rfl rfl rfl zc31_o (sp 1 rfl (evn (rn 1 rfl (ls_seq_k fun K1 hK1 => rn 1 rfl ?_))))))))
 obtain ⟨o1, hl, hr1⟩ := ob_some h
 have kXB1 : ∀ {z2 : List (List Int)} {z3 : Int}, (z2, z3) = o1 → Jn K1 [(13, oL 31 c31_o z2), (14, nI z3)] := by
  intro z2 z3 h σ' hk
  subst h
  replace h := hr1
  try dsimp only at h
  exact hK1 _ (lh hk rfl (rn 1 rfl (ls_ret ((by cases h; exact ⟨.inl rfl, rfl⟩)))))
 refine ls_rec (fun (s : (List (List Int)) × Int × Int) => match s with | (y10, y11, y12) => [(1, dL c231_dd a1), (2, dL ci64 a2), (3, nI a3), (4, .fn 149), (5, .box [nI a0.1, dL c142_d a0.2.1, dL ci64 a0.2.2]), (13, oL 31 c31_o y10), (14, nI y11), (15, nI y12)]) _ _ _ _ hl (okr rfl) (fun _ => rfl) ?_
 rintro m ⟨y10, y11, y12⟩ N h hN
 unfold impl_reach_LeapfrogIntersect_B1 at h
 dsimp only at h
 refine ls_seq_k fun K4 hK4 => rn 1 rfl ?_
 rcases cond_some h with ⟨g5, h⟩ | ⟨g5, h⟩
 ·refine qT rfl g5 (ls_skip (hK4 _ (ls_seq_k fun K6 hK6 => ls_blk (rn 1 rfl (ls_seq_k fun K7 hK7 => rn 1 rfl ?_)))))
  obtain ⟨o2, hl, hr2⟩ := ob_some h
  have kXB2 : ∀ {z8 : Int} {z9 : List (List Int)}, (z8, z9) = o2 → Jn K7 [(1, dL c231_dd a1), (2, dL ci64 a2), (3, nI a3), (4, .fn 149), (5, .box [nI a0.1, dL c142_d a0.2.1, dL ci64 a0.2.2]), (14, nI z8), (15, nI y12), (16, oL 31 c31_o z9)] := by
   intro z8 z9 h σ' hk
   subst h
   replace h := hr2
   try dsimp only at h
   exact hK7 _ (lh hk rfl (rg (sp 2 rfl (evn (hK6 _ (rg (sp 3 rfl (evn (hN _ _ h (okr rfl))))))))))
  refine ls_rec (fun (s : Int × (List (List Int)) × Int) => match s with | (y24, y25, y26) => [(1, dL c231_dd a1), (2, dL ci64 a2), (3, nI a3), (4, .fn 149), (5, .box [nI a0.1, dL c142_d a0.2.1, dL ci64 a0.2.2]), (14, nI y24), (15, nI y12), (16, oL 31 c31_o y25), (30, dL c31_o y10), (31, nI (List.length y10 : Int)), (32, nI y26)]) _ _ _ _ hl (okr rfl) (fun _ => rfl) ?_
  rintro m ⟨y24, y25, y26⟩ N h hN
  unfold impl_reach_LeapfrogIntersect_B2 at h
  dsimp only at h
  refine rn 1 rfl (ls_seq_k fun K10 hK10 => ?_)
  rcases cond_some h with ⟨g11, h⟩ | ⟨g11, h⟩
  ·refine qT rfl g11 (ls_skip (hK10 _ (ls_seq_k fun K12 hK12 => ls_blk (rs ?_))))
   obtain ⟨e13, g14, h⟩ := ob_some h
   refine qI rfl zc31_o g14 (sp 2 rfl (evn (rs (sp 5 rfl (?_)))))
   obtain ⟨v15, g16, h⟩ := ob_some h
   refine qC (qa rfl (erg (erc rfl (erc (erD ec142_d _) (erc (erD eci64 _) rfl)))) (qa rfl (erD ec231_dd _) (qa rfl (erD eci64 _) (qa rfl (erD eci64 _) eran)))) (impl_nextLists_s g16) (?_)
   obtain ⟨v17, g18, h⟩ := ob_some h
   refine qCt rfl (qa rfl (erO ec31_o _) eran) (impl_LeapfrogIntersect_s g18) (sp 5 rfl (evn (rn 2 rfl ?_)))
   obtain ⟨o3, hl, hr3⟩ := ob_some h
   have kXB3 : ∀ {z19 : List (List Int)}, z19 = o3 → Jn K12 [(1, dL c231_dd a1), (2, dL ci64 a2), (3, nI a3), (4, .fn 149), (5, .box [nI a0.1, dL c142_d a0.2.1, dL ci64 a0.2.2]), (14, nI (IntKind.i64.wrap (y24 + v17.2))), (15, nI y12), (16, oL 31 c31_o z19), (30, dL c31_o y10), (31, nI (List.length y10 : Int)), (32, nI y26)] := by
    intro z19 h σ' hk
    subst h
    replace h := hr3
    try dsimp only at h
    exact hK12 _ (lh hk rfl (rg (sp 2 rfl (evn (hN _ _ h (okr rfl))))))
   refine ls_rec (fun (s : (List (List Int)) × Int) => match s with | (y29, y30) => [(1, dL c231_dd a1), (2, dL ci64 a2), (3, nI a3), (4, .fn 149), (5, .box [nI a0.1, dL c142_d a0.2.1, dL ci64 a0.2.2]), (14, nI (IntKind.i64.wrap (y24 + v17.2))), (15, nI y12), (16, oL 31 c31_o y29), (18, dL ci64 e13), (30, dL c31_o y10), (31, nI (List.length y10 : Int)), (32, nI y26), (49, dL ci64 v17.1), (50, nI (List.length v17.1 : Int)), (51, nI y30)]) _ _ _ _ hl (okr rfl) (fun _ => rfl) ?_
   rintro m ⟨y29, y30⟩ N h hN
   unfold impl_reach_LeapfrogIntersect_B3 at h
   dsimp only at h
   refine rn 1 rfl (ls_seq_k fun K20 hK20 => ?_)
   rcases cond_some h with ⟨g21, h⟩ | ⟨g21, h⟩
   ·refine qT rfl g21 (ls_skip (hK20 _ (ls_seq_k fun K22 hK22 => ls_blk (rs ?_))))
    obtain ⟨e23, g24, h⟩ := ob_some h
    refine qI rfl zci64 g24 (sp 2 rfl (evn (rg (sp 2 rfl (?_)))))
    obtain ⟨v25, g26, h⟩ := ob_some h
    refine qC (qa rfl (erD eci64 _) eran) (impl_copyInts_s g26) (sp 1 rfl (qBs ci64 [e23] rfl rfl rfl zci64 (?_)))
    obtain ⟨g27, h⟩ := chk_some h
    refine qA ci64 v25 [e23] rfl rfl (flat_len zci64 [e23]) rfl g27 (qBs c31_o [v25 ++ [e23]] rfl rfl rfl zc31_o (?_))
    obtain ⟨g28, h⟩ := chk_some h
    exact qA c31_o y29 ([v25 ++ [e23]]) rfl rfl (flat_len zc31_o ([v25 ++ [e23]])) rfl g28 (sp 1 rfl (evn (hK22 _ (rg (sp 2 rfl (evn (hN _ _ h (okr rfl))))))))
   ·exact qF rfl g21 (ls_exit (kXB3 (Option.some.inj h) _ (okr rfl)))
  ·exact qF rfl g11 (ls_exit (kXB2 (Option.some.inj h) _ (okr rfl)))
 ·exact qF rfl g5 (ls_exit (kXB1 (Option.some.inj h) _ (okr rfl)))
def impl_LeapfrogJoin (a0 : List Y106) (a1 : Y58) (a2 : List Int) : Option (Y25 × Int × Bool) := obind (impl_BuildTries a0 a1 a2) fun v1 => cond (!v1.2) (some ((0, []), 0, false)) (obind (impl_someEmpty v1.1) fun v6 => cond v6 (some ((a1.1, []), 0, true)) (obind (impl_reach_LeapfrogIntersect a1 v1.1 a2 a1.1) fun v9 => cond (!v9.2.2) (some ((0, []), 0, false)) (some ((a1.1, v9.1), v9.2.1, true))))
theorem impl_LeapfrogJoin_s {a0 : List Y106} {a1 : Y58} {a2 : List Int} {r : Y25 × Int × Bool} (h : impl_LeapfrogJoin a0 a1 a2 = some r) : SoundAt Try.prog 71 [.agg [dL c107_dd a0], .agg (c59_ddd a1), dL ci64 a2] (.tup [.agg (c26_oo r.1), nI r.2.1, .bool r.2.2]) := by
 unfold impl_LeapfrogJoin at h
 refine st lit71 rfl (rn 1 rfl (rs (sp 3 rfl (?_))))
 obtain ⟨v1, g2, h⟩ := ob_some h
 refine qC (qa rfl (erg (erc (erD ec107_dd _) rfl)) (qa rfl (erg (erc rfl (erc (erD ec142_d _) (erc (erD eci64 _) rfl)))) (qa rfl (erD eci64 _) eran))) (impl_BuildTries_s g2) (sp 5 rfl (evn (ls_seq_k fun K3 hK3 => rn 1 rfl ?_)))
 rcases cond_some h with ⟨g4, h⟩ | ⟨g4, h⟩
 ·exact qT rfl g4 (rn 1 rfl (ls_ret ((by cases h; exact ⟨.inl rfl, rfl⟩))))
 ·refine qF rfl g4 (ls_skip (hK3 _ (ls_seq_k fun K5 hK5 => rs (sp 1 rfl (?_)))))
  obtain ⟨v6, g7, h⟩ := ob_some h
  refine qC (qa rfl (erD ec231_oo _) eran) (impl_someEmpty_s g7) (evn ?_)
  rcases cond_some h with ⟨g8, h⟩ | ⟨g8, h⟩
  ·exact qT rfl g8 (rn 1 rfl (qk [6, 7, 8] rfl (ls_ret ((by cases h; exact ⟨.inl rfl, rfl⟩)))))
  ·refine qF rfl g8 (ls_skip (hK5 _ (rs (sp 5 rfl (?_)))))
   obtain ⟨v9, g10, h⟩ := ob_some h
   refine qC (qa rfl (erg (erc rfl (erc (erD ec142_d _) (erc (erD eci64 _) rfl)))) (qa rfl (erD ec231_oo _) (qa rfl (erD eci64 _) (qs rfl (qs rfl eran))))) (impl_reach_LeapfrogIntersect_s g10) (sp 7 rfl (evn (ls_seq_k fun K11 hK11 => rn 1 rfl ?_)))
   rcases cond_some h with ⟨g12, h⟩ | ⟨g12, h⟩
   ·exact qT rfl g12 (rn 1 rfl (ls_ret ((by cases h; exact ⟨.inl rfl, rfl⟩))))
   ·exact qF rfl g12 (ls_skip (hK11 _ (rn 1 rfl (ls_ret ((by cases h; exact ⟨.inl rfl, rfl⟩))))))
def impl_gcd_B1  (rec : (Int × Int) → Option (Int)) (s : Int × Int) : Option (Int) := match s with
  | (y1, y2) => cond (y2 != 0) (chk (y2 ≠ 0) (rec (y2, (Int.tmod y1 y2)))) (some y1)
def impl_gcd (a0 : Int) (a1 : Int) : Option (Int) := obind (loopF impl_gcd_B1 fz (a0, a1)) fun z2 => some z2
theorem impl_gcd_s {a0 : Int} {a1 : Int} {r : Int} (h : impl_gcd a0 a1 = some r) : SoundAt Try.prog 234 [nI a0, nI a1] (nI r) := by
 unfold impl_gcd at h
 refine st lit234 rfl (rn 1 rfl (ls_seq_k fun K1 hK1 => ?_))
 obtain ⟨o1, hl, hr1⟩ := ob_some h
 have kXB1 : ∀ {z2 : Int}, z2 = o1 → Jn K1 [(0, nI z2)] := by
  intro z2 h σ' hk
  subst h
  replace h := hr1
  try dsimp only at h
  exact hK1 _ (lh hk rfl (rn 1 rfl (ls_ret ((by cases h; exact ⟨.inl rfl, rfl⟩)))))
 refine ls_rec (fun (s : Int × Int) => match s with | (y1, y2) => [(0, nI y1), (1, nI y2)]) _ _ _ _ hl (okr rfl) (fun _ => rfl) ?_
 rintro m ⟨y1, y2⟩ N h hN
 unfold impl_gcd_B1 at h
 dsimp only at h
 refine ls_seq_k fun K3 hK3 => rn 1 rfl ?_
 rcases cond_some h with ⟨g4, h⟩ | ⟨g4, h⟩
 ·refine qT rfl g4 (ls_skip (hK3 _ (ls_blk (rgd (by kernel_rfl) (sd 3 rfl (?_))))))
  obtain ⟨g5, h⟩ := chk_some h
  exact ed rfl (qB rfl ⟨rfl, g5⟩ rfl (sd 2 rfl (evdn (hN _ _ h (okr rfl)))))
 ·exact qF rfl g4 (ls_exit (kXB1 (Option.some.inj h) _ (okr rfl)))
def impl_abs (a0 : Int) : Option (Int) := some (if a0 < (IntKind.i64.wrap (0 - a0)) then (IntKind.i64.wrap (0 - a0)) else a0)
theorem impl_abs_s {a0 : Int} {r : Int} (h : impl_abs a0 = some r) : SoundAt Try.prog 245 [nI a0] (nI r) := by
 unfold impl_abs at h
 exact st lit245 rfl (rn 2 rfl (ls_ret ((by cases h; exact ⟨.inl rfl, rfl⟩))))
abbrev Y114 := Int × Int
def c115_ (x : Y114) : List V := [nI x.1, nI x.2]
theorem zc115_ (x : Y114) : (c115_ x).length = 2 := rfl
theorem ec115_ (x : Y114) : erL (c115_ x) = c115_ x := (erc rfl (erc rfl rfl))
def impl_IsValidRational_J1 (x2 : Bool) : Option (Bool) := some x2
def impl_IsValidRational (a0 : Y114) : Option (Bool) := obind (impl_within a0.2 1 1000000000) fun v3 => cond v3 (obind (impl_within a0.1 (-1000000000) 1000000000) fun v6 => cond v6 (obind (impl_abs a0.1) fun v9 => obind (impl_gcd v9 a0.2) fun v11 => impl_IsValidRational_J1 (v11 == 1)) (impl_IsValidRational_J1 false)) (impl_IsValidRational_J1 false)
theorem impl_IsValidRational_s {a0 : Y114} {r : Bool} (h : impl_IsValidRational a0 = some r) : SoundAt Try.prog 233 [.agg (c115_ a0)] (.bool r) := by
 unfold impl_IsValidRational at h
 refine st lit233 rfl (rn 1 rfl (rdk (by kernel_rfl) fun K1 hK1 => ?_))
 have kJ1 : ∀ {x2 : Bool}, impl_IsValidRational_J1 x2 = some r → Jn K1 [(2, .bool x2)] := by
  intro x2 h σ' hk
  unfold impl_IsValidRational_J1 at h
  exact hK1 _ (lh hk rfl (ls_ret ((by cases h; exact ⟨.inl rfl, rfl⟩))))
 refine sd 2 rfl (?_)
 obtain ⟨v3, g4, h⟩ := ob_some h
 refine ed rfl (qC (qs rfl (qs rfl (qs rfl eran))) (impl_within_s g4) (sd 1 rfl (?_)))
 rcases cond_some h with ⟨g5, h⟩ | ⟨g5, h⟩
 ·refine qgd 6 g5 rfl (sd 2 rfl (?_))
  obtain ⟨v6, g7, h⟩ := ob_some h
  refine ed rfl (oGR rfl rfl (qC (qs rfl (qs rfl (qs rfl eran))) (impl_within_s g7) (sd 2 rfl (?_))))
  rcases cond_some h with ⟨g8, h⟩ | ⟨g8, h⟩
  ·refine qgd 11 g8 rfl (sd 2 rfl (?_))
   obtain ⟨v9, g10, h⟩ := ob_some h
   refine ed rfl (oGR rfl rfl (qC (qs rfl eran) (impl_abs_s g10) (sd 2 rfl (?_))))
   obtain ⟨v11, g12, h⟩ := ob_some h
   exact ed rfl (oGR rfl rfl (qC (qs rfl (qs rfl eran)) (impl_gcd_s g12) (sd 3 rfl (evdn (kJ1 h _ (okr rfl))))))
  ·exact qgd 11 g8 rfl (sd 9 rfl (evdn (kJ1 h _ (okr rfl))))
 ·exact qgd 6 g5 rfl (sd 14 rfl (evdn (kJ1 h _ (okr rfl))))
def impl_ScaleToIntegers_B1 (a0 : List Y114) (rec : Int → Option (Sum (Unit) ((List Int) × Int))) (y1 : Int) : Option (Sum (Unit) ((List Int) × Int)) := cond (decide (y1 < (List.length a0 : Int))) (obind (geti a0 y1) fun e5 => obind (impl_IsValidRational e5) fun v7 => cond (!v7) (some (.inr (([] : List Int), 0))) (cond (decide (e5.1 < 0)) (some (.inr (([] : List Int), 0))) (rec (IntKind.i64.wrap (y1 + 1))))) (some (.inl ()))
def impl_ScaleToIntegers_B2 (a0 : List Y114) (rec : (Int × Int) → Option (Sum (Int) ((List Int) × Int))) (s : Int × Int) : Option (Sum (Int) ((List Int) × Int)) := match s with
  | (y2, y3) => cond (decide (y3 < (List.length a0 : Int))) (obind (geti a0 y3) fun e16 => obind (impl_gcd y2 e16.2) fun v18 => chk (v18 ≠ 0) (cond (decide (1000 < (IntKind.i64.wrap ((IntKind.i64.wrap (Int.tdiv y2 v18)) * e16.2)))) (some (.inr (([] : List Int), 0))) (rec ((IntKind.i64.wrap ((IntKind.i64.wrap (Int.tdiv y2 v18)) * e16.2)), (IntKind.i64.wrap (y3 + 1)))))) (some (.inl y2))
def impl_ScaleToIntegers_B3 (a0 : List Y114) (z12 : Int) (rec : ((List Int) × Int) → Option ((List Int))) (s : (List Int) × Int) : Option ((List Int)) := match s with
  | (y4, y5) => cond (decide (y5 < (List.length a0 : Int))) (obind (geti a0 y5) fun e27 => chk (e27.2 ≠ 0) (chk (List.length y4 + List.length [IntKind.i64.wrap (e27.1 * (IntKind.i64.wrap (Int.tdiv z12 e27.2)))] ≤ lim) (rec ((y4 ++ [IntKind.i64.wrap (e27.1 * (IntKind.i64.wrap (Int.tdiv z12 e27.2)))]), (IntKind.i64.wrap (y5 + 1)))))) (some y4)
def impl_ScaleToIntegers (a0 : List Y114) : Option ((List Int) × Int) := obind (loopF (impl_ScaleToIntegers_B1 a0) fz 0) fun o1 => (match o1 with
  | .inl _ => (obind (loopF (impl_ScaleToIntegers_B2 a0) fz (1, 0)) fun o2 => (match o2 with
  | .inl z12 => (obind (loopF (impl_ScaleToIntegers_B3 a0 z12) fz (([] : List Int), 0)) fun z23 => some (z23, z12))
  | .inr r => some r))
  | .inr r => some r)
theorem impl_ScaleToIntegers_s {a0 : List Y114} {r : (List Int) × Int} (h : impl_ScaleToIntegers a0 = some r) : SoundAt Try.prog 213 [dL c115_ a0] (.tup [oL 3 ci64 r.1, nI r.2]) := by
 unfold impl_ScaleToIntegers at h
 refine st lit213 rfl (rn 2 rfl (ls_seq_k fun K1 hK1 => rn 1 rfl ?_))
 obtain ⟨o1, hl, hr1⟩ := ob_some h
 have kXB1 : (.inl ()) = o1 → Jn K1 [(0, dL c115_ a0), (4, nI 1)] := by
  intro h σ' hk
  subst h
  replace h := hr1
  try dsimp only at h
  refine hK1 _ (lh hk rfl (ls_seq_k fun K11 hK11 => rn 1 rfl ?_))
  obtain ⟨o2, hl, hr2⟩ := ob_some h
  have kXB2 : ∀ {z12 : Int}, (.inl z12) = o2 → Jn K11 [(0, dL c115_ a0), (4, nI z12)] := by
   intro z12 h σ' hk
   subst h
   replace h := hr2
   try dsimp only at h
   refine hK11 _ (lh hk rfl (rn 1 rfl (ls_seq_k fun K22 hK22 => rn 1 rfl ?_)))
   obtain ⟨o3, hl, hr3⟩ := ob_some h
   have kXB3 : ∀ {z23 : List Int}, z23 = o3 → Jn K22 [(4, nI z12), (9, oL 3 ci64 z23)] := by
    intro z23 h σ' hk
    subst h
    replace h := hr3
    try dsimp only at h
    exact hK22 _ (lh hk rfl (rn 1 rfl (ls_ret ((by cases h; exact ⟨.inl rfl, rfl⟩)))))
   refine ls_rec (fun (s : (List Int) × Int) => match s with | (y4, y5) => [(4, nI z12), (9, oL 3 ci64 y4), (45, dL c115_ a0), (46, nI (List.length a0 : Int)), (47, nI y5)]) _ _ _ _ hl (okr rfl) (fun _ => rfl) ?_
   rintro m ⟨y4, y5⟩ N h hN
   unfold impl_ScaleToIntegers_B3 at h
   dsimp only at h
   refine rn 1 rfl (ls_seq_k fun K24 hK24 => ?_)
   rcases cond_some h with ⟨g25, h⟩ | ⟨g25, h⟩
   ·refine qT rfl g25 (ls_skip (hK24 _ (ls_seq_k fun K26 hK26 => ls_blk (rs ?_))))
    obtain ⟨e27, g28, h⟩ := ob_some h
    refine qI rfl zc115_ g28 (sp 3 rfl (evn (rgd (by kernel_rfl) (sd 6 rfl (?_)))))
    obtain ⟨g29, h⟩ := chk_some h
    refine ed rfl (qB rfl ⟨rfl, g29⟩ rfl (sd 1 rfl (ed rfl (qBs ci64 [IntKind.i64.wrap (e27.1 * (IntKind.i64.wrap (Int.tdiv z12 e27.2)))] rfl rfl rfl zci64 (?_)))))
    obtain ⟨g30, h⟩ := chk_some h
    exact ed rfl (qA ci64 y4 [IntKind.i64.wrap (e27.1 * (IntKind.i64.wrap (Int.tdiv z12 e27.2)))] rfl rfl (flat_len zci64 [IntKind.i64.wrap (e27.1 * (IntKind.i64.wrap (Int.tdiv z12 e27.2)))]) rfl g30 (sd 1 rfl (evdn (hK26 _ (rg (sp 2 rfl (evn (hN _ _ h (okr rfl)))))))))
   ·exact qF rfl g25 (ls_exit (kXB3 (Option.some.inj h) _ (okr rfl)))
  refine ls_rec (fun (s : Int × Int) => match s with | (y2, y3) => [(0, dL c115_ a0), (4, nI y2), (27, dL c115_ a0), (28, nI (List.length a0 : Int)), (29, nI y3)]) _ _ _ _ hl (okr rfl) (fun _ => rfl) ?_
  rintro m ⟨y2, y3⟩ N h hN
  unfold impl_ScaleToIntegers_B2 at h
  dsimp only at h
  refine rn 1 rfl (ls_seq_k fun K13 hK13 => ?_)
  rcases cond_some h with ⟨g14, h⟩ | ⟨g14, h⟩
  ·refine qT rfl g14 (ls_skip (hK13 _ (ls_seq_k fun K15 hK15 => ls_blk (rs ?_))))
   obtain ⟨e16, g17, h⟩ := ob_some h
   refine qI rfl zc115_ g17 (sp 3 rfl (evn (rd (by kernel_rfl) (sd 4 rfl (?_)))))
   obtain ⟨v18, g19, h⟩ := ob_some h
   refine ed rfl (qC (qs rfl (qs rfl eran)) (impl_gcd_s g19) (?_))
   obtain ⟨g20, h⟩ := chk_some h
   refine ed rfl (qB rfl ⟨rfl, g20⟩ rfl (sd 4 rfl (evdn (rn 1 rfl ?_))))
   rcases cond_some h with ⟨g21, h⟩ | ⟨g21, h⟩
   ·exact qT rfl g21 (rn 1 rfl (ls_ret ((by cases h; cases hr2; exact ⟨.inl rfl, rfl⟩))))
   ·exact qF rfl g21 (ls_skip (hK15 _ (qk [0, 4, 27, 28, 29] rfl (rg (sp 2 rfl (evn (hN _ _ h (okr rfl))))))))
  ·exact qF rfl g14 (ls_exit (kXB2 (Option.some.inj h) _ (okr rfl)))
 refine ls_rec (fun (y1 : Int) => [(0, dL c115_ a0), (4, nI 1), (12, dL c115_ a0), (13, nI (List.length a0 : Int)), (14, nI y1)]) _ _ _ _ hl (okr rfl) (fun _ => rfl) ?_
 rintro m y1 N h hN
 unfold impl_ScaleToIntegers_B1 at h
 refine rn 1 rfl (ls_seq_k fun K2 hK2 => ?_)
 rcases cond_some h with ⟨g3, h⟩ | ⟨g3, h⟩
 ·refine qT rfl g3 (ls_skip (hK2 _ (ls_seq_k fun K4 hK4 => ls_blk (rs ?_))))
  obtain ⟨e5, g6, h⟩ := ob_some h
  refine qI rfl zc115_ g6 (sp 3 rfl (evn (rs (sp 1 rfl (?_)))))
  obtain ⟨v7, g8, h⟩ := ob_some h
  refine qC (qa rfl (erg (erc rfl (erc rfl rfl))) eran) (impl_IsValidRational_s g8) (sp 2 rfl (?_))
  rcases cond_some h with ⟨g9, h⟩ | ⟨g9, h⟩
  ·exact qg 21 g9 rfl (sp 4 rfl (evn (qT rfl rfl (rn 1 rfl (ls_ret ((by cases h; cases hr1; exact ⟨.inl rfl, rfl⟩)))))))
  ·refine qg 21 g9 rfl (sp 4 rfl (evn ?_))
   rcases cond_some h with ⟨g10, h⟩ | ⟨g10, h⟩
   ·exact qT rfl g10 (rn 1 rfl (qk [2, 3] rfl (ls_ret ((by cases h; cases hr1; exact ⟨.inl rfl, rfl⟩)))))
   ·exact qF rfl g10 (ls_skip (hK4 _ (rg (sp 2 rfl (evn (hN _ _ h (okr rfl)))))))
 ·exact qF rfl g3 (ls_exit (kXB1 (Option.some.inj h) _ (okr rfl)))
def impl_IsValidBigInt_B1 (a0 : List Int) (rec : Int → Option (Sum (Unit) (Bool))) (y1 : Int) : Option (Sum (Unit) (Bool)) := cond (decide (y1 < (List.length a0 : Int))) (obind (geti a0 y1) fun e5 => obind (impl_within e5 0 9) fun v7 => cond (!v7) (some (.inr false)) (rec (IntKind.i64.wrap (y1 + 1)))) (some (.inl ()))
def impl_IsValidBigInt_J2 (x11 : Bool) : Option (Bool) := some x11
def impl_IsValidBigInt (a0 : List Int) : Option (Bool) := obind (loopF (impl_IsValidBigInt_B1 a0) fz 0) fun o1 => (match o1 with
  | .inl _ => (cond (decide ((List.length a0 : Int) ≤ 60)) (cond ((List.length a0 : Int) == 0) (impl_IsValidBigInt_J2 true) (obind (geti a0 (IntKind.i64.wrap ((List.length a0 : Int) - 1))) fun e14 => impl_IsValidBigInt_J2 (e14 != 0))) (impl_IsValidBigInt_J2 false))
  | .inr r => some r)
theorem impl_IsValidBigInt_s {a0 : List Int} {r : Bool} (h : impl_IsValidBigInt a0 = some r) : SoundAt Try.prog 236 [.agg [dL ci64 a0]] (.bool r) := by
 unfold impl_IsValidBigInt at h
 refine st lit236 rfl (rn 2 rfl (ls_seq_k fun K1 hK1 => rn 1 rfl ?_))
 obtain ⟨o1, hl, hr1⟩ := ob_some h
 have kXB1 : (.inl ()) = o1 → Jn K1 [(1, .box [dL ci64 a0]), (3, nI (List.length a0 : Int))] := by
  intro h σ' hk
  subst h
  replace h := hr1
  try dsimp only at h
  refine hK1 _ (lh hk rfl (rk fun K10 hK10 => ?_))
  have kJ2 : ∀ {x11 : Bool}, impl_IsValidBigInt_J2 x11 = some r → Jn K10 [(2, .bool x11)] := by
   intro x11 h σ' hk
   unfold impl_IsValidBigInt_J2 at h
   exact hK10 _ (lh hk rfl (ls_ret ((by cases h; exact ⟨.inl rfl, rfl⟩))))
  refine sp 3 rfl (?_)
  rcases cond_some h with ⟨g12, h⟩ | ⟨g12, h⟩
  ·refine qg 22 g12 rfl (sp 3 rfl (?_))
   rcases cond_some h with ⟨g13, h⟩ | ⟨g13, h⟩
   ·exact qg 25 g13 rfl (sp 10 rfl (evn (kJ2 h _ (okr rfl))))
   ·refine qg 25 g13 rfl (sp 4 rfl (?_))
    obtain ⟨e14, g15, h⟩ := ob_some h
    exact oGR rfl rfl (qI rfl zci64 g15 (sp 5 rfl (evn (kJ2 h _ (okr rfl)))))
  ·exact qg 22 g12 rfl (sp 13 rfl (evn (kJ2 h _ (okr rfl))))
 refine ls_rec (fun (y1 : Int) => [(1, .box [dL ci64 a0]), (3, nI (List.length a0 : Int)), (10, dL ci64 a0), (11, nI (List.length a0 : Int)), (12, nI y1)]) _ _ _ _ hl (okr rfl) (fun _ => rfl) ?_
 rintro m y1 N h hN
 unfold impl_IsValidBigInt_B1 at h
 refine rn 1 rfl (ls_seq_k fun K2 hK2 => ?_)
 rcases cond_some h with ⟨g3, h⟩ | ⟨g3, h⟩
 ·refine qT rfl g3 (ls_skip (hK2 _ (ls_seq_k fun K4 hK4 => ls_blk (rs ?_))))
  obtain ⟨e5, g6, h⟩ := ob_some h
  refine qI rfl zci64 g6 (sp 2 rfl (evn (rs (sp 1 rfl (?_)))))
  obtain ⟨v7, g8, h⟩ := ob_some h
  refine qC (qs rfl (qs rfl (qs rfl eran))) (impl_within_s g8) (sp 1 rfl (evn ?_))
  rcases cond_some h with ⟨g9, h⟩ | ⟨g9, h⟩
  ·exact qT rfl g9 (rn 1 rfl (ls_ret ((by cases h; cases hr1; exact ⟨.inl rfl, rfl⟩))))
  ·exact qF rfl g9 (ls_skip (hK4 _ (rg (sp 2 rfl (evn (hN _ _ h (okr rfl)))))))
 ·exact qF rfl g3 (ls_exit (kXB1 (Option.some.inj h) _ (okr rfl)))
def impl_carried_J3 (rec : ((List Int) × Int × Int) → Option ((List Int))) (y1 : List Int) (y3 : Int) (x9 : Int) : Option ((List Int)) := chk (List.length y1 + List.length [Int.tmod x9 10] ≤ lim) (rec ((y1 ++ [Int.tmod x9 10]), (IntKind.i64.wrap (Int.tdiv x9 10)), (IntKind.i64.wrap (y3 + 1))))
def impl_carried_J2 (rec : ((List Int) × Int × Int) → Option ((List Int))) (a0 : List Int) (y1 : List Int) (y2 : Int) (y3 : Int) (x5 : Bool) : Option ((List Int)) := cond x5 (cond (decide (y3 < (List.length a0 : Int))) (obind (geti a0 y3) fun e12 => impl_carried_J3 rec y1 y3 (IntKind.i64.wrap (y2 + e12))) (impl_carried_J3 rec y1 y3 y2)) (some y1)
def impl_carried_B1 (a0 : List Int) (rec : ((List Int) × Int × Int) → Option ((List Int))) (s : (List Int) × Int × Int) : Option ((List Int)) := match s with
  | (y1, y2, y3) => cond (decide (y3 < (List.length a0 : Int))) (impl_carried_J2 rec a0 y1 y2 y3 true) (impl_carried_J2 rec a0 y1 y2 y3 (decide (0 < y2)))
def impl_carried_B4 (z2 : List Int) (rec : Int → Option (Int)) (y4 : Int) : Option (Int) := cond (decide (0 < y4)) (obind (geti z2 (IntKind.i64.wrap (y4 - 1))) fun e19 => cond (e19 == 0) (rec (IntKind.i64.wrap (y4 - 1))) (some y4)) (some y4)
def impl_carried (a0 : List Int) : Option ((List Int) × Bool) := obind (loopF (impl_carried_B1 a0) fz (([] : List Int), 0, 0)) fun z2 => obind (loopF (impl_carried_B4 z2) fz (List.length z2 : Int)) fun z16 => chk ((0 : Int) ≤ 0 ∧ 0 ≤ z16 ∧ z16 ≤ (List.length z2 : Int)) (cond (decide (60 < z16)) (some ([], false)) (some (subl z2 0 z16, true)))
theorem impl_carried_s {a0 : List Int} {r : (List Int) × Bool} (h : impl_carried a0 = some r) : SoundAt Try.prog 237 [dL ci64 a0] (.tup [.agg [dL ci64 r.1], .bool r.2]) := by
 unfold impl_carried at h
 refine st lit237 rfl (rn 3 rfl (ls_seq_k fun K1 hK1 => rn 1 rfl ?_))
 obtain ⟨o1, hl, hr1⟩ := ob_some h
 have kXB1 : ∀ {z2 : List Int}, z2 = o1 → Jn K1 [(2, .box [oL 3 ci64 []]), (4, .box [oL 3 ci64 z2])] := by
  intro z2 h σ' hk
  subst h
  replace h := hr1
  try dsimp only at h
  refine hK1 _ (lh hk rfl (rn 1 rfl (ls_seq_k fun K15 hK15 => ?_)))
  obtain ⟨o4, hl, hr4⟩ := ob_some h
  have kXB4 : ∀ {z16 : Int}, z16 = o4 → Jn K15 [(2, .box [oL 3 ci64 []]), (4, .box [oL 3 ci64 z2]), (7, nI z16)] := by
   intro z16 h σ' hk
   subst h
   replace h := hr4
   try dsimp only at h
   refine hK15 _ (lh hk rfl (rs (sp 3 rfl (?_))))
   obtain ⟨g22, h⟩ := chk_some h
   refine qSl rfl zci64 g22 (sp 2 rfl (evn (ls_seq_k fun K23 hK23 => rn 1 rfl ?_)))
   rcases cond_some h with ⟨g24, h⟩ | ⟨g24, h⟩
   ·exact qT rfl g24 (rn 1 rfl (ls_keep [(2, .box [dL ci64 []]), (3, .bool false)] ⟨(kb (cwe rfl rfl cwn)), kr, trivial⟩ rfl (ls_ret ((by cases h; exact ⟨.inl rfl, rfl⟩)))))
   ·exact qF rfl g24 (ls_skip (hK23 _ (rn 1 rfl (ls_ret ((by cases h; exact ⟨.inl rfl, rfl⟩))))))
  refine ls_rec (fun (y4 : Int) => [(2, .box [oL 3 ci64 []]), (4, .box [oL 3 ci64 z2]), (7, nI y4)]) _ _ _ _ hl (okr rfl) (fun _ => rfl) ?_
  rintro m y4 N h hN
  unfold impl_carried_B4 at h
  refine ls_seq_k fun K17 hK17 => rs (sp 3 rfl (?_))
  rcases cond_some h with ⟨g18, h⟩ | ⟨g18, h⟩
  ·refine qg 42 g18 rfl (sp 4 rfl (?_))
   obtain ⟨e19, g20, h⟩ := ob_some h
   refine oGR rfl rfl (qI rfl zci64 g20 (sp 3 rfl (evn ?_)))
   rcases cond_some h with ⟨g21, h⟩ | ⟨g21, h⟩
   ·exact qT rfl g21 (ls_skip (hK17 _ (ls_blk (rg (sp 3 rfl (evn (hN _ _ h (okr rfl))))))))
   ·exact qF rfl g21 (ls_exit (kXB4 (Option.some.inj h) _ (okr rfl)))
  ·exact qg 42 g18 rfl (sp 8 rfl (evn (qF rfl rfl (ls_exit (kXB4 (Option.some.inj h) _ (okr rfl))))))
 refine ls_rec (fun (s : (List Int) × Int × Int) => match s with | (y1, y2, y3) => [(0, dL ci64 a0), (2, .box [oL 3 ci64 []]), (4, .box [oL 3 ci64 y1]), (5, nI y2), (6, nI y3)]) _ _ _ _ hl (okr rfl) (fun _ => rfl) ?_
 rintro m ⟨y1, y2, y3⟩ N h hN
 unfold impl_carried_B1 at h
 dsimp only at h
 refine ls_seq_k fun K3 hK3 => rk fun K4 hK4 => ?_
 have kJ2 : ∀ {x5 : Bool}, impl_carried_J2 (loopF (impl_carried_B1 a0) m) a0 y1 y2 y3 x5 = some o1 → Jn K4 [(0, dL ci64 a0), (2, .box [oL 3 ci64 []]), (4, .box [oL 3 ci64 y1]), (5, nI y2), (6, nI y3), (15, .bool x5)] := by
  intro x5 h σ' hk
  unfold impl_carried_J2 at h
  refine hK4 _ (lh hk rfl ?_)
  rcases cond_some h with ⟨g6, h⟩ | ⟨g6, h⟩
  ·refine qT rfl g6 (ls_skip (hK3 _ (ls_seq_k fun K7 hK7 => ls_blk (ls_seq_k fun K8 hK8 => rn 1 rfl ?_))))
   have kJ3 : ∀ {x9 : Int}, impl_carried_J3 (loopF (impl_carried_B1 a0) m) y1 y3 x9 = some o1 → Jn K8 [(0, dL ci64 a0), (2, .box [oL 3 ci64 []]), (4, .box [oL 3 ci64 y1]), (5, nI x9), (6, nI y3)] := by
    intro x9 h σ' hk
    unfold impl_carried_J3 at h
    refine hK8 _ (lh hk rfl (rs (sp 4 rfl (qBs ci64 [Int.tmod x9 10] rfl rfl rfl zci64 (?_)))))
    obtain ⟨g10, h⟩ := chk_some h
    exact qA ci64 y1 [Int.tmod x9 10] rfl rfl (flat_len zci64 [Int.tmod x9 10]) rfl g10 (sp 2 rfl (evn (rg (sp 3 rfl (evn (hK7 _ (rg (sp 3 rfl (evn (hN _ _ h (okr rfl)))))))))))
   rcases cond_some h with ⟨g11, h⟩ | ⟨g11, h⟩
   ·refine qT rfl g11 (rg (sp 3 rfl (?_)))
    obtain ⟨e12, g13, h⟩ := ob_some h
    exact qI rfl zci64 g13 (sp 3 rfl (evn (kJ3 h _ (okr rfl))))
   ·exact qF rfl g11 (ls_skip (kJ3 h _ (okr rfl)))
  ·exact qF rfl g6 (ls_exit (kXB1 (Option.some.inj h) _ (okr rfl)))
 refine sp 5 rfl (?_)
 rcases cond_some h with ⟨g14, h⟩ | ⟨g14, h⟩
 ·exact qg 12 g14 rfl (sp 3 rfl (evn (kJ2 h _ (okr rfl))))
 ·exact qg 12 g14 rfl (sp 3 rfl (evn (kJ2 h _ (okr rfl))))
def impl_MulBigInt_B2 (a1 : List Int) (y4 : Int) (e14 : Int) (rec : ((List Int) × Int) → Option ((List Int))) (s : (List Int) × Int) : Option ((List Int)) := match s with
  | (y7, y8) => cond (decide (y8 < (List.length a1 : Int))) (obind (geti a1 y8) fun e20 => obind (geti y7 (IntKind.i64.wrap (y4 + y8))) fun e22 => obind (geti y7 (IntKind.i64.wrap (y4 + y8))) fun e24 => rec ((seti y7 (IntKind.i64.wrap (y4 + y8)) (IntKind.i64.wrap (e22 + (IntKind.i64.wrap (e14 * e20))))), (IntKind.i64.wrap (y8 + 1)))) (some y7)
def impl_MulBigInt_B1 (a0 : List Int) (a1 : List Int) (rec : ((List Int) × Int) → Option ((List Int))) (s : (List Int) × Int) : Option ((List Int)) := match s with
  | (y3, y4) => cond (decide (y4 < (List.length a0 : Int))) (obind (geti a0 y4) fun e14 => obind (loopF (impl_MulBigInt_B2 a1 y4 e14) fz (y3, 0)) fun z16 => rec (z16, (IntKind.i64.wrap (y4 + 1)))) (some y3)
def impl_MulBigInt (a0 : List Int) (a1 : List Int) : Option ((List Int) × Bool) := obind (impl_IsValidBigInt a0) fun v2 => cond (!v2) (some ([], false)) (obind (impl_IsValidBigInt a1) fun v5 => cond (!v5) (some ([], false)) (chk ((0 : Int) ≤ IntKind.i64.wrap ((List.length a0 : Int) + (List.length a1 : Int)) ∧ Int.toNat (IntKind.i64.wrap ((List.length a0 : Int) + (List.length a1 : Int))) ≤ lim) (obind (loopF (impl_MulBigInt_B1 a0 a1) fz ((List.replicate (Int.toNat (IntKind.i64.wrap ((List.length a0 : Int) + (List.length a1 : Int)))) (0 : Int)), 0)) fun z10 => obind (impl_carried z10) fun v26 => some (v26.1, v26.2))))
theorem impl_MulBigInt_s {a0 : List Int} {a1 : List Int} {r : (List Int) × Bool} (h : impl_MulBigInt a0 a1 = some r) : SoundAt Try.prog 216 [.agg [dL ci64 a0], .agg [dL ci64 a1]] (.tup [.agg [dL ci64 r.1], .bool r.2]) := by
 unfold impl_MulBigInt at h
 refine st lit216 rfl (rn 1 rfl (ls_seq_k fun K1 hK1 => rs (sp 1 rfl (?_))))
 obtain ⟨v2, g3, h⟩ := ob_some h
 refine qC (qa rfl (erg (erc (erD eci64 _) rfl)) eran) (impl_IsValidBigInt_s g3) (sp 2 rfl (?_))
 rcases cond_some h with ⟨g4, h⟩ | ⟨g4, h⟩
 ·exact qg 14 g4 rfl (sp 4 rfl (evn (qT rfl rfl (rn 1 rfl (ls_keep [(4, .box [dL ci64 []]), (5, .bool false)] ⟨(kb (cwe rfl rfl cwn)), kr, trivial⟩ rfl (ls_ret ((by cases h; exact ⟨.inl rfl, rfl⟩))))))))
 ·refine qg 14 g4 rfl (sp 1 rfl (?_))
  obtain ⟨v5, g6, h⟩ := ob_some h
  refine oGR rfl rfl (qC (qa rfl (erg (erc (erD eci64 _) rfl)) eran) (impl_IsValidBigInt_s g6) (sp 2 rfl (evn ?_)))
  rcases cond_some h with ⟨g7, h⟩ | ⟨g7, h⟩
  ·exact qT rfl g7 (rn 1 rfl (ls_keep [(4, .box [dL ci64 []]), (5, .bool false)] ⟨(kb (cwe rfl rfl cwn)), kr, trivial⟩ rfl (ls_ret ((by cases h; exact ⟨.inl rfl, rfl⟩)))))
  ·refine qF rfl g7 (ls_skip (hK1 _ (rs (sp 7 rfl (?_)))))
   obtain ⟨g8, h⟩ := chk_some h
   refine qMu ci64 (0 : Int) rfl rfl rfl rfl g8 rfl (qAu rfl rfl rfl rfl (evn (ls_seq_k fun K9 hK9 => rn 1 rfl ?_)))
   obtain ⟨o1, hl, hr1⟩ := ob_some h
   have kXB1 : ∀ {z10 : List Int}, z10 = o1 → Jn K9 [(4, .box [oL 3 ci64 []]), (6, wL 3 ci64 z10)] := by
    intro z10 h σ' hk
    subst h
    replace h := hr1
    try dsimp only at h
    refine hK9 _ (lh hk rfl (rs (qTu rfl rfl rfl (?_))))
    obtain ⟨v26, g27, h⟩ := ob_some h
    exact qC (qa rfl (erO eci64 _) eran) (impl_carried_s g27) (sp 4 rfl (evn (ls_ret ((by cases h; exact ⟨.inl rfl, rfl⟩)))))
   refine ls_rec (fun (s : (List Int) × Int) => match s with | (y3, y4) => [(3, .box [dL ci64 a1]), (4, .box [oL 3 ci64 []]), (6, wL 3 ci64 y3), (29, dL ci64 a0), (30, nI (List.length a0 : Int)), (31, nI y4)]) _ _ _ _ hl (okr rfl) (fun _ => rfl) ?_
   rintro m ⟨y3, y4⟩ N h hN
   unfold impl_MulBigInt_B1 at h
   dsimp only at h
   refine rn 1 rfl (ls_seq_k fun K11 hK11 => ?_)
   rcases cond_some h with ⟨g12, h⟩ | ⟨g12, h⟩
   ·refine qT rfl g12 (ls_skip (hK11 _ (ls_seq_k fun K13 hK13 => ls_blk (rs (sp 1 rfl (?_))))))
    obtain ⟨e14, g15, h⟩ := ob_some h
    refine qI rfl zci64 g15 (sp 3 rfl (evn (rn 1 rfl ?_)))
    obtain ⟨o2, hl, hr2⟩ := ob_some h
    have kXB2 : ∀ {z16 : List Int}, z16 = o2 → Jn K13 [(3, .box [dL ci64 a1]), (4, .box [oL 3 ci64 []]), (6, wL 3 ci64 z16), (29, dL ci64 a0), (30, nI (List.length a0 : Int)), (31, nI y4)] := by
     intro z16 h σ' hk
     subst h
     replace h := hr2
     try dsimp only at h
     exact hK13 _ (lh hk rfl (rg (sp 2 rfl (evn (hN _ _ h (okr rfl))))))
    refine ls_rec (fun (s : (List Int) × Int) => match s with | (y7, y8) => [(3, .box [dL ci64 a1]), (4, .box [oL 3 ci64 []]), (6, wL 3 ci64 y7), (7, nI y4), (8, nI e14), (29, dL ci64 a0), (30, nI (List.length a0 : Int)), (31, nI y4), (37, dL ci64 a1), (38, nI (List.length a1 : Int)), (39, nI y8)]) _ _ _ _ hl (okr rfl) (fun _ => rfl) ?_
    rintro m ⟨y7, y8⟩ N h hN
    unfold impl_MulBigInt_B2 at h
    dsimp only at h
    refine rn 1 rfl (ls_seq_k fun K17 hK17 => ?_)
    rcases cond_some h with ⟨g18, h⟩ | ⟨g18, h⟩
    ·refine qT rfl g18 (ls_skip (hK17 _ (ls_seq_k fun K19 hK19 => ls_blk (rs (sp 1 rfl (?_))))))
     obtain ⟨e20, g21, h⟩ := ob_some h
     refine qI rfl zci64 g21 (sp 3 rfl (evn (rg (sp 4 rfl (?_)))))
     obtain ⟨e22, g23, h⟩ := ob_some h
     refine qIu rfl ⟨(geti_some g23).1, (geti_some g23).2.1⟩ (qLu 0 rfl rfl rfl zci64 g23 rfl rfl rfl (sp 4 rfl (?_)))
     obtain ⟨e24, g25, h⟩ := ob_some h
     exact qIu rfl ⟨(geti_some g25).1, (geti_some g25).2.1⟩ (qSu (IntKind.i64.wrap (e22 + (IntKind.i64.wrap (e14 * e20)))) rfl rfl zci64 ⟨(geti_some g25).1, (geti_some g25).2.1⟩ rfl rfl rfl rfl rfl rfl (evn (hK19 _ (rg (sp 2 rfl (evn (hN _ _ h (okr rfl))))))))
    ·exact qF rfl g18 (ls_exit (kXB2 (Option.some.inj h) _ (okr rfl)))
   ·exact qF rfl g12 (ls_exit (kXB1 (Option.some.inj h) _ (okr rfl)))
def impl_BigIntFromInt_B1  (rec : (Int × (List Int)) → Option ((List Int))) (s : Int × (List Int)) : Option ((List Int)) := match s with
  | (y1, y2) => cond (decide (0 < y1)) (chk (List.length y2 + List.length [Int.tmod y1 10] ≤ lim) (rec ((IntKind.i64.wrap (Int.tdiv y1 10)), (y2 ++ [Int.tmod y1 10])))) (some y2)
def impl_BigIntFromInt (a0 : Int) : Option ((List Int)) := obind (loopF impl_BigIntFromInt_B1 fz (a0, ([] : List Int))) fun z2 => some z2
theorem impl_BigIntFromInt_s {a0 : Int} {r : (List Int)} (h : impl_BigIntFromInt a0 = some r) : SoundAt Try.prog 235 [nI a0] (.agg [oL 3 ci64 r]) := by
 unfold impl_BigIntFromInt at h
 refine st lit235 rfl (rn 2 rfl (ls_seq_k fun K1 hK1 => ?_))
 obtain ⟨o1, hl, hr1⟩ := ob_some h
 have kXB1 : ∀ {z2 : List Int}, z2 = o1 → Jn K1 [(2, .box [oL 3 ci64 []]), (3, .box [oL 3 ci64 z2])] := by
  intro z2 h σ' hk
  subst h
  replace h := hr1
  try dsimp only at h
  exact hK1 _ (lh hk rfl (rn 1 rfl (ls_ret ((by cases h; exact ⟨.inl rfl, rfl⟩)))))
 refine ls_rec (fun (s : Int × (List Int)) => match s with | (y1, y2) => [(0, nI y1), (2, .box [oL 3 ci64 []]), (3, .box [oL 3 ci64 y2])]) _ _ _ _ hl (okr rfl) (fun _ => rfl) ?_
 rintro m ⟨y1, y2⟩ N h hN
 unfold impl_BigIntFromInt_B1 at h
 dsimp only at h
 refine ls_seq_k fun K3 hK3 => rn 1 rfl ?_
 rcases cond_some h with ⟨g4, h⟩ | ⟨g4, h⟩
 ·refine qT rfl g4 (ls_skip (hK3 _ (ls_blk (rs (sp 4 rfl (qBs ci64 [Int.tmod y1 10] rfl rfl rfl zci64 (?_)))))))
  obtain ⟨g5, h⟩ := chk_some h
  exact qA ci64 y2 [Int.tmod y1 10] rfl rfl (flat_len zci64 [Int.tmod y1 10]) rfl g5 (sp 2 rfl (evn (rg (sp 3 rfl (evn (hN _ _ h (okr rfl)))))))
 ·exact qF rfl g4 (ls_exit (kXB1 (Option.some.inj h) _ (okr rfl)))
def impl_PowBigInt_B1 (a0 : Int) (a1 : Int) (rec : ((List Int) × Int) → Option (Sum ((List Int)) ((List Int) × Bool))) (s : (List Int) × Int) : Option (Sum ((List Int)) ((List Int) × Bool)) := match s with
  | (y1, y2) => cond (decide (y2 < a1)) (obind (impl_BigIntFromInt a0) fun v13 => obind (impl_MulBigInt y1 v13) fun v15 => cond (!v15.2) (some (.inr ([], false))) (rec (v15.1, (IntKind.i64.wrap (y2 + 1))))) (some (.inl y1))
def impl_PowBigInt (a0 : Int) (a1 : Int) : Option ((List Int) × Bool) := cond (decide (a0 < 0)) (some ([], false)) (obind (impl_within a1 0 100) fun v3 => cond (!v3) (some ([], false)) (obind (impl_BigIntFromInt 1) fun v6 => obind (loopF (impl_PowBigInt_B1 a0 a1) fz (v6, 0)) fun o1 => (match o1 with
  | .inl z9 => (some (z9, true))
  | .inr r => some r)))
theorem impl_PowBigInt_s {a0 : Int} {a1 : Int} {r : (List Int) × Bool} (h : impl_PowBigInt a0 a1 = some r) : SoundAt Try.prog 214 [nI a0, nI a1] (.tup [.agg [dL ci64 r.1], .bool r.2]) := by
 unfold impl_PowBigInt at h
 refine st lit214 rfl (rn 1 rfl (ls_seq_k fun K1 hK1 => rs (sp 3 rfl (?_))))
 rcases cond_some h with ⟨g2, h⟩ | ⟨g2, h⟩
 ·exact qg 12 g2 rfl (sp 4 rfl (evn (qT rfl rfl (rn 1 rfl (ls_keep [(4, .box [dL ci64 []]), (5, .bool false)] ⟨(kb (cwe rfl rfl cwn)), kr, trivial⟩ rfl (ls_ret ((by cases h; exact ⟨.inl rfl, rfl⟩))))))))
 ·refine qg 12 g2 rfl (sp 1 rfl (?_))
  obtain ⟨v3, g4, h⟩ := ob_some h
  refine oGR rfl rfl (qC (qs rfl (qs rfl (qs rfl eran))) (impl_within_s g4) (sp 2 rfl (evn ?_)))
  rcases cond_some h with ⟨g5, h⟩ | ⟨g5, h⟩
  ·exact qT rfl g5 (rn 1 rfl (ls_keep [(4, .box [dL ci64 []]), (5, .bool false)] ⟨(kb (cwe rfl rfl cwn)), kr, trivial⟩ rfl (ls_ret ((by cases h; exact ⟨.inl rfl, rfl⟩)))))
  ·refine qF rfl g5 (ls_skip (hK1 _ (rs ?_)))
   obtain ⟨v6, g7, h⟩ := ob_some h
   refine qC (qs rfl eran) (impl_BigIntFromInt_s g7) (sp 2 rfl (evn (ls_seq_k fun K8 hK8 => rn 1 rfl ?_)))
   obtain ⟨o1, hl, hr1⟩ := ob_some h
   have kXB1 : ∀ {z9 : List Int}, (.inl z9) = o1 → Jn K8 [(4, .box [oL 3 ci64 []]), (6, .box [dL ci64 z9])] := by
    intro z9 h σ' hk
    subst h
    replace h := hr1
    try dsimp only at h
    exact hK8 _ (lh hk rfl (rn 1 rfl (ls_ret ((by cases h; exact ⟨.inl rfl, rfl⟩)))))
   refine ls_rec (fun (s : (List Int) × Int) => match s with | (y1, y2) => [(0, nI a0), (1, nI a1), (4, .box [oL 3 ci64 []]), (6, .box [dL ci64 y1]), (7, nI y2)]) _ _ _ _ hl ⟨kr, kr, kr, (kb (cwd rfl rfl cwn)), kr, trivial⟩ (fun _ => rfl) ?_
   rintro m ⟨y1, y2⟩ N h hN
   unfold impl_PowBigInt_B1 at h
   dsimp only at h
   refine ls_seq_k fun K10 hK10 => rn 1 rfl ?_
   rcases cond_some h with ⟨g11, h⟩ | ⟨g11, h⟩
   ·refine qT rfl g11 (ls_skip (hK10 _ (ls_seq_k fun K12 hK12 => ls_blk (rd (by kernel_rfl) (sd 2 rfl (?_))))))
    obtain ⟨v13, g14, h⟩ := ob_some h
    refine ed rfl (qC (qs rfl eran) (impl_BigIntFromInt_s g14) (?_))
    obtain ⟨v15, g16, h⟩ := ob_some h
    refine ed rfl (qC (qa rfl (erg (erc (erD eci64 _) rfl)) (qa rfl (erg (erc (erO eci64 _) rfl)) eran)) (impl_MulBigInt_s g16) (sd 6 rfl (evdn (ls_seq_k fun K17 hK17 => rn 1 rfl ?_))))
    rcases cond_some h with ⟨g18, h⟩ | ⟨g18, h⟩
    ·exact qT rfl g18 (rn 1 rfl (ls_keep [(4, .box [dL ci64 []]), (5, .bool false)] ⟨(kb (cwe rfl rfl cwn)), kr, trivial⟩ rfl (ls_ret ((by cases h; cases hr1; exact ⟨.inl rfl, rfl⟩)))))
    ·exact qF rfl g18 (ls_skip (hK17 _ (rg (sp 2 rfl (evn (hK12 _ (rg (sp 3 rfl (evn (hN _ _ h (okr rfl)))))))))))
   ·exact qF rfl g11 (ls_exit (kXB1 (Option.some.inj h) _ (okr rfl)))
def impl_ProductOfPowers_B1 (a0 : List Int) (a1 : List Int) (rec : ((List Int) × Int) → Option (Sum ((List Int)) ((List Int) × Bool))) (s : (List Int) × Int) : Option (Sum ((List Int)) ((List Int) × Bool)) := match s with
  | (y1, y2) => cond (decide (y2 < (List.length a0 : Int))) (obind (geti a0 y2) fun e10 => obind (geti a1 y2) fun e12 => obind (impl_PowBigInt e10 e12) fun v14 => obind (impl_MulBigInt y1 v14.1) fun v16 => cond (!v14.2) (some (.inr ([], false))) (cond (!v16.2) (some (.inr ([], false))) (rec (v16.1, (IntKind.i64.wrap (y2 + 1)))))) (some (.inl y1))
def impl_ProductOfPowers (a0 : List Int) (a1 : List Int) : Option ((List Int) × Bool) := cond ((List.length a0 : Int) != (List.length a1 : Int)) (some ([], false)) (obind (impl_BigIntFromInt 1) fun v3 => obind (loopF (impl_ProductOfPowers_B1 a0 a1) fz (v3, 0)) fun o1 => (match o1 with
  | .inl z6 => (some (z6, true))
  | .inr r => some r))
theorem impl_ProductOfPowers_s {a0 : List Int} {a1 : List Int} {r : (List Int) × Bool} (h : impl_ProductOfPowers a0 a1 = some r) : SoundAt Try.prog 215 [dL ci64 a0, dL ci64 a1] (.tup [.agg [dL ci64 r.1], .bool r.2]) := by
 unfold impl_ProductOfPowers at h
 refine st lit215 rfl (rn 1 rfl (ls_seq_k fun K1 hK1 => rn 1 rfl ?_))
 rcases cond_some h with ⟨g2, h⟩ | ⟨g2, h⟩
 ·exact qT rfl g2 (rn 1 rfl (ls_keep [(4, .box [dL ci64 []]), (5, .bool false)] ⟨(kb (cwe rfl rfl cwn)), kr, trivial⟩ rfl (ls_ret ((by cases h; exact ⟨.inl rfl, rfl⟩)))))
 ·refine qF rfl g2 (ls_skip (hK1 _ (rs ?_)))
  obtain ⟨v3, g4, h⟩ := ob_some h
  refine qC (qs rfl eran) (impl_BigIntFromInt_s g4) (sp 2 rfl (evn (ls_seq_k fun K5 hK5 => rn 1 rfl ?_)))
  obtain ⟨o1, hl, hr1⟩ := ob_some h
  have kXB1 : ∀ {z6 : List Int}, (.inl z6) = o1 → Jn K5 [(4, .box [oL 3 ci64 []]), (6, .box [dL ci64 z6])] := by
   intro z6 h σ' hk
   subst h
   replace h := hr1
   try dsimp only at h
   exact hK5 _ (lh hk rfl (rn 1 rfl (ls_ret ((by cases h; exact ⟨.inl rfl, rfl⟩)))))
  refine ls_rec (fun (s : (List Int) × Int) => match s with | (y1, y2) => [(0, dL ci64 a0), (1, dL ci64 a1), (4, .box [oL 3 ci64 []]), (6, .box [dL ci64 y1]), (20, nI (List.length a0 : Int)), (21, nI y2)]) _ _ _ _ hl ⟨kr, kr, kr, (kb (cwd rfl rfl cwn)), kr, kr, trivial⟩ (fun _ => rfl) ?_
  rintro m ⟨y1, y2⟩ N h hN
  unfold impl_ProductOfPowers_B1 at h
  dsimp only at h
  refine rn 1 rfl (ls_seq_k fun K7 hK7 => ?_)
  rcases cond_some h with ⟨g8, h⟩ | ⟨g8, h⟩
  ·refine qT rfl g8 (ls_skip (hK7 _ (ls_seq_k fun K9 hK9 => ls_blk (rn 1 rfl (rd (by kernel_rfl) (sd 2 rfl (?_)))))))
   obtain ⟨e10, g11, h⟩ := ob_some h
   refine ed rfl (qI rfl zci64 g11 (sd 3 rfl (?_)))
   obtain ⟨e12, g13, h⟩ := ob_some h
   refine ed rfl (qI rfl zci64 g13 (sd 1 rfl (?_)))
   obtain ⟨v14, g15, h⟩ := ob_some h
   refine ed rfl (qC (qs rfl (qs rfl eran)) (impl_PowBigInt_s g15) (sd 6 rfl (evdn (rs (sp 2 rfl (?_))))))
   obtain ⟨v16, g17, h⟩ := ob_some h
   refine qC (qa rfl (erg (erc (erD eci64 _) rfl)) (qa rfl (erg (erc (erD eci64 _) rfl)) eran)) (impl_MulBigInt_s g17) (sp 6 rfl (evn (qk [0, 1, 4, 6, 9, 10, 11, 20, 21] rfl (ls_seq_k fun K18 hK18 => rs (sp 3 rfl (?_))))))
   rcases cond_some h with ⟨g19, h⟩ | ⟨g19, h⟩
   ·exact qg 44 g19 rfl (sp 3 rfl (evn (qT rfl rfl (rn 1 rfl (ls_keep [(4, .box [dL ci64 []]), (5, .bool false)] ⟨(kb (cwe rfl rfl cwn)), kr, trivial⟩ rfl (ls_ret ((by cases h; cases hr1; exact ⟨.inl rfl, rfl⟩))))))))
   ·refine qg 44 g19 rfl (sp 3 rfl (evn ?_))
    rcases cond_some h with ⟨g20, h⟩ | ⟨g20, h⟩
    ·exact qT rfl g20 (rn 1 rfl (ls_keep [(4, .box [dL ci64 []]), (5, .bool false)] ⟨(kb (cwe rfl rfl cwn)), kr, trivial⟩ rfl (ls_ret ((by cases h; cases hr1; exact ⟨.inl rfl, rfl⟩)))))
    ·exact qF rfl g20 (ls_skip (hK18 _ (rg (sp 2 rfl (evn (hK9 _ (rg (sp 2 rfl (evn (hN _ _ h (okr rfl)))))))))))
  ·exact qF rfl g8 (ls_exit (kXB1 (Option.some.inj h) _ (okr rfl)))
end Go.Proofs.Ytmioifafgbjjhaa
