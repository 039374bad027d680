/-
  Heavy and light rows: the reference and the program agree. On the printed functions; conditions: lengths.
-/
import Derived.Test.YtmioifafgbjjhaaCdCS1
-- pure
namespace Go.Proofs.Ytmioifafgbjjhaa
open Go.RowKit
set_option linter.unusedSimpArgs false
set_option linter.unusedVariables false
section
variable {r : Rl} {c t : Int}
def heavy (rows : List (List Int)) (c t : Int) (x : List Int) : Bool := decide (t ≤ ((degN rows c (atI x c).toNat : Nat) : Int))
def shB (r : Rl) (c t : Int) : Rl × Rl × Bool := if colB r c = true then ((r.1, r.2.filter (heavy r.2 c t)), (r.1, r.2.filter fun x => !heavy r.2 c t x), true) else ((0, []), (0, []), false)
theorem pos_of (hc : colB r c = true) {x : List Int} (hx : x ∈ r.2) : posN r.2 c (atI x c).toNat = true := by
  obtain ⟨-, hf⟩ := col_facts hc
  obtain ⟨g1, g2, g3, g4⟩ := hf x hx
  unfold posN degN
  rw [decide_eq_true_eq, List.countP_pos_iff]
  exact ⟨x, hx, by simp; omega⟩
theorem filter_s {α : Type} {l : List α} {k : Nat} (hk : k < l.length) (p : α → Bool) : (l.take (k + 1)).filter p = (l.take k).filter p ++ (if p l[k] = true then [l[k]] else []) := by
  rw [List.take_succ_eq_append_getElem hk, List.filter_append]
  split
  · rename_i h; simp [h]
  · rename_i h; simp [h]
theorem filt_lim {α : Type} {l : List α} {k : Nat} (hk : k < l.length) (hl : l.length ≤ lim) (p : α → Bool) (x : α) : ((l.take k).filter p).length + [x].length ≤ lim := by
  have := List.length_filter_le p (l.take k)
  rw [List.length_take] at this
  simp only [List.length_singleton]
  omega
theorem i_sh (h : smRows r.2) : impl_SplitHeavy r c t = some (shB r c t) := by
  unfold impl_SplitHeavy shB
  rw [i_rel h]
  simp only [obind, i_within, i_cd h]
  cases hr : relB r with
  | false => have : colB r c = false := by unfold colB; rw [hr]; rfl
             rw [this]; rfl
  | true =>
    simp only [Bool.not_true, cond_false]
    cases hb : btw c 0 (IntKind.i64.wrap (r.1 - 1)) with
    | false => have : colB r c = false := by unfold colB; rw [hr, hb]; rfl
               rw [this]; rfl
    | true =>
      have hc : colB r c = true := by unfold colB; rw [hr, hb]; rfl
      have hcd : cdB r c = (ascN 100 (posN r.2 c), numsN r.2 c 100) := by unfold cdB; rw [if_pos hc]
      obtain ⟨-, hf⟩ := col_facts hc
      have := loop_to (body := impl_SplitHeavy_B1 r c t (cdB r c)) (out := (r.2.filter (heavy r.2 c t), r.2.filter fun x => !heavy r.2 c t x)) (fun k => ((r.2.take k).filter (heavy r.2 c t), (r.2.take k).filter (fun x => !heavy r.2 c t x), (k : Int))) r.2.length (fun k hk rec => ?_) (fun rec => ?_) fz (lt_fz h.1)
      · simp only [List.take_zero, List.filter_nil] at this
        rw [show ((0 : Nat) : Int) = 0 from rfl] at this
        rw [if_pos hc]
        simp only [Bool.not_true, cond_false, this]
      · obtain ⟨g1, g2, g3, g4⟩ := hf _ (List.getElem_mem hk)
        have hl := h.2 _ (List.getElem_mem hk)
        have ha := ascN_len 100 (posN r.2 c)
        have hat : (((atI r.2[k] c).toNat : Nat) : Int) = atI r.2[k] c := by omega
        have hdeg := deg_at (rows := r.2) (c := c) (v := (atI r.2[k] c).toNat) (by omega) (pos_of hc (List.getElem_mem hk))
        rw [hat] at hdeg
        simp only [impl_SplitHeavy_B1, lt_dec hk, cond_true, geti_at hk, obind, geti_ok ⟨g1, g2⟩, hcd, i_find (show (ascN 100 (posN r.2 c)).length ≤ lim by unfold lim; omega), hdeg, i_copyL hl]
        rw [filter_s hk, filter_s hk]
        have hv : decide (t ≤ ((degN r.2 c (atI r.2[k] c).toNat : Nat) : Int)) = heavy r.2 c t r.2[k] := rfl
        rw [hv]
        cases heavy r.2 c t r.2[k] with
        | true => rw [cond_true, chk_pos (filt_lim hk h.1 _ _)]; simp only [impl_SplitHeavy_J2, wrap_s hk (lim_max h.1), if_true, Bool.not_true, Bool.false_eq_true, if_false, List.append_nil]
        | false => rw [cond_false, chk_pos (filt_lim hk h.1 _ _)]; simp only [impl_SplitHeavy_J2, wrap_s hk (lim_max h.1), if_true, Bool.not_false, Bool.false_eq_true, if_false, List.append_nil]
      · simp only [impl_SplitHeavy_B1, nlt_dec, cond_false, List.take_length]
end
end Go.Proofs.Ytmioifafgbjjhaa
