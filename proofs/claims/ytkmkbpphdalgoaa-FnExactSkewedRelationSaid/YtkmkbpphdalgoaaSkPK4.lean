/-
  SkewedRelation: the reference and the program give the same, and how much. No conditions.
-/
import Derived.Test.YtkmkbpphdalgoaaHpK4
import Derived.Test.YtkmkbpphdalgoaaNrK4
-- pure
namespace Go.Proofs.Ytkmkbpphdalgoaa
open Go.RowKit
set_option linter.unusedVariables false
def skRow (i : Nat) : List Row := [[0, (i : Int)], [(i : Int), 0]]
def skRows (n : Nat) : List Row := (List.range n).flatMap skRow
theorem sk_succ (n : Nat) : skRows (n + 1) = skRows n ++ [[0, (n : Int)], [(n : Int), 0]] := by
  unfold skRows; rw [List.range_succ, List.flatMap_append, List.flatMap_singleton]; rfl
theorem sk_len (n : Nat) : (skRows n).length = 2 * n := by
  induction n with
  | zero => rfl
  | succ n ih => rw [sk_succ, List.length_append, ih]; show 2 * n + 2 = _; omega
theorem sk_row {n : Nat} {r : Row} (h : r ∈ skRows n) : r.length = 2 := by
  unfold skRows at h
  rw [List.mem_flatMap] at h
  obtain ⟨i, _, h⟩ := h
  rcases List.mem_cons.1 h with rfl | h
  · rfl
  · rw [List.mem_singleton] at h; subst h; rfl
theorem sk_sm {n : Nat} (h : n ≤ 100) : smRows (skRows n) := ⟨by rw [sk_len]; unfold lim; omega, fun r hr => by rw [sk_row hr]; unfold lim; omega⟩
theorem s_skl {n : Nat} (h : n ≤ 99) : loopF (spec_SkewedRelation_B1 n) fz (([] : List Row), 0) = some (skRows (n + 1)) :=
  loop_to (body := spec_SkewedRelation_B1 n) (fun k => (skRows k, (k : Int))) (n + 1) (fun k hk rec => by
    unfold spec_SkewedRelation_B1
    simp only
    rw [decide_eq_true (by omega), cond_true, chk_pos (by rw [sk_len]; show 2 * k + 2 ≤ _; unfold lim; omega), wrap_in (by omega), sk_succ]; rfl) (fun rec => by
    unfold spec_SkewedRelation_B1
    simp only
    rw [decide_eq_false (by omega), cond_false]) fz (by unfold fz; omega)
theorem i_skl {n : Nat} (h : n ≤ 99) : loopF (impl_SkewedRelation_B1 n) fz (([] : List Row), 0) = some (skRows (n + 1)) :=
  loop_to (body := impl_SkewedRelation_B1 n) (fun k => (skRows k, (k : Int))) (n + 1) (fun k hk rec => by
    unfold impl_SkewedRelation_B1
    simp only
    rw [decide_eq_true (by omega), cond_true, chk_pos (by rw [sk_len]; show 2 * k + 2 ≤ _; unfold lim; omega), wrap_in (by omega), sk_succ]; rfl) (fun rec => by
    unfold impl_SkewedRelation_B1
    simp only
    rw [decide_eq_false (by omega), cond_false]) fz (by unfold fz; omega)
theorem sm_zero : sm_Relation (0, []) := ⟨by simp, fun x hx => by cases hx⟩
theorem pure_SkewedRelation {n : Int} (k0 : InI n) : ∃ r, spec_SkewedRelation n = some r ∧ impl_SkewedRelation n = some r ∧ sm_Relation r.1 := by
  unfold spec_SkewedRelation impl_SkewedRelation
  simp only [s_l1In, i_within, obind]
  cases hb : btw n 0 99 with
  | false => exact ⟨_, rfl, rfl, sm_zero⟩
  | true =>
    unfold btw at hb
    rw [Bool.and_eq_true, decide_eq_true_eq, decide_eq_true_eq] at hb
    obtain ⟨m, rfl⟩ : ∃ m : Nat, n = (m : Int) := ⟨n.toNat, by omega⟩
    have hm : m ≤ 99 := by omega
    have hs := sk_sm (n := m + 1) (by omega)
    refine ⟨nrB 2 (skRows (m + 1)), ?_, ?_, ?_⟩
    · simp only [Bool.not_true, cond_false, s_skl hm, s_nr hs]
    · simp only [Bool.not_true, cond_false, i_skl hm, i_nr hs]
    · have hq : sm_Relation (2, sortB (skRows (m + 1))) := by
        refine ⟨?_, fun x hx => ?_⟩
        · have := sort_len (skRows (m + 1)); rw [sk_len] at this; show (sortB (skRows (m + 1))).length ≤ 1048576; omega
        · have := sk_row ((sort_mem _ _).1 hx); show List.length x ≤ 1048576; omega
      unfold nrB
      cases badAny (skRows (m + 1)) fun _ x => nrBad 2 x
      · cases relB (2, sortB (skRows (m + 1)))
        · exact sm_zero
        · exact hq
      · exact sm_zero
end Go.Proofs.Ytkmkbpphdalgoaa
