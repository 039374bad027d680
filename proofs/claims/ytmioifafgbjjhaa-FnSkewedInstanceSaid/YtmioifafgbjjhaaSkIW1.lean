/-
  FnSkewedInstance holds: what it draws of the code is one of twenty-four, and each is computed. No conditions.
-/
import Derived.Test.YtmioifafgbjjhaaHpW1
namespace Go.Proofs.Ytmioifafgbjjhaa
open Go.RowKit
set_option linter.unusedSimpArgs false
set_option linter.unusedVariables false
theorem at_byte {a : List Int} (k : ok22 a) (hb : a.length ≤ 1048576) (i : Nat) (hi : i ≤ 1) : ∃ u, laws_at a i = some u ∧ 0 ≤ u ∧ u ≤ 255 := by
  unfold laws_at
  by_cases h : i < a.length
  · have hm := k.2 a[i] (List.getElem_mem h)
    refine ⟨a[i], ?_, hm⟩
    rw [decide_eq_true (by omega : (i : Int) < (a.length : Int))]
    have : geti a (i : Int) = some a[i] := by simp [geti, h]
    simp only [cond_true, this, obind]
    rw [wrap_in (by omega)]
  · rw [decide_eq_false (by omega : ¬ (i : Int) < (a.length : Int))]
    simp only [cond_false]
    refine ⟨_, rfl, ?_⟩
    rw [wrap_in (by omega : -9223372036854775808 ≤ (i : Int) * 37 ∧ (i : Int) * 37 ≤ 9223372036854775807), wrap_in (by omega : -9223372036854775808 ≤ (a.length : Int) * 11 ∧ (a.length : Int) * 11 ≤ 9223372036854775807), wrap_in (by omega)]
    rw [Int.tmod_eq_emod_of_nonneg (by omega)]
    omega
set_option maxHeartbeats 0 in
theorem law_FnSkewedInstance {a : List Int} (k : ok22 a) : laws_FnSkewedInstance a = some true := by
  by_cases hb : 1048576 < a.length
  · unfold laws_FnSkewedInstance laws_big
    rw [decide_eq_true (by omega : (1048576 : Int) < (a.length : Int))]
    rfl
  obtain ⟨u, e0, hu⟩ := at_byte k (by omega) 0 (by omega)
  obtain ⟨v, e1, hv⟩ := at_byte k (by omega) 1 (by omega)
  have e0 : laws_at a 0 = some u := e0
  have e1 : laws_at a 1 = some v := e1
  unfold laws_FnSkewedInstance laws_big
  rw [decide_eq_false (by omega : ¬ (1048576 : Int) < (a.length : Int))]
  simp only [obind, cond_false, e0, e1]
  have hu6 : Int.tmod u 6 = 0 ∨ Int.tmod u 6 = 1 ∨ Int.tmod u 6 = 2 ∨ Int.tmod u 6 = 3 ∨ Int.tmod u 6 = 4 ∨ Int.tmod u 6 = 5 := by rw [Int.tmod_eq_emod_of_nonneg (by omega)]; omega
  have hv4 : Int.tmod v 4 = 0 ∨ Int.tmod v 4 = 1 ∨ Int.tmod v 4 = 2 ∨ Int.tmod v 4 = 3 := by rw [Int.tmod_eq_emod_of_nonneg (by omega)]; omega
  generalize Int.tmod u 6 = x at hu6 ⊢
  generalize Int.tmod v 4 = y at hv4 ⊢
  rcases hu6 with rfl | rfl | rfl | rfl | rfl | rfl <;> rcases hv4 with rfl | rfl | rfl | rfl <;> (show _ = _; kernel_rfl)
end Go.Proofs.Ytmioifafgbjjhaa
