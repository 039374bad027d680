/-
  Contracts of DistinctCount and MaxColumnDegree, of the reference and of the program. Condition: the argument reads as a relation.
-/
import Derived.Test.YtnijkpbecgifjaaDeg
import Derived.Deep.RegionHeld3
namespace Go.Proofs.Ytnijkpbecgifjaa
open Go.RowKit

/-- the greatest of the numbers, at least 0 -/
def maxL (l : List Int) : Int := l.foldl max 0
theorem maxL_snoc {l : List Int} {k : Nat} (hk : k < l.length) : maxL (l.take (k + 1)) = max (maxL (l.take k)) l[k] := by
  unfold maxL
  rw [List.take_succ_eq_append_getElem hk, List.foldl_append]; rfl

theorem degs_length (ar : Int) (a : List (List Int)) (col : Int) : (degs ar a col).1.length ≤ 100 ∧ (degs ar a col).2.length ≤ 100 := by
  unfold degs
  split
  · exact ⟨degV_length _ _ _, by rw [degN_length]; exact degV_length _ _ _⟩
  · simp

theorem specDistinctCount_c (va : Value) (ar : Int) (a : List (List Int)) (col : Int) (w : World) (ha : Rows2 w va a) :
    Calls Try.prog 25 #[.agg #[.int .i64 ar, va], .int .i64 col] w fun e w' => e = .returned (.int .i64 (degs ar a col).1.length) ∧ Below w.heap.size w w' := by
  have HR := Lib.hid ha
  obtain ⟨A, ca, rfl, hca, _⟩ := ha.at_
  clear ha
  go_enter Try.func25, Try.ntmps25
  go_wp2_with fail
  refine (specColumnDegrees_c _ ar a col _ (HR.out.keep (below1 _ _))).mono ?_
  rintro e w1 ⟨v1, v2, rfl, o1, o2, _, hb1⟩
  have HB := Lib.hid ((below1 w (.cells #[.int .i64 ar, .slice A a.length ca] 27)).trans (hb1.mono (by simp)))
  obtain ⟨A1, c1, rfl⟩ := own_form o1
  clear o1 o2 hb1
  go_wp2
  go_ret
  exact ⟨rfl, HB.out⟩

theorem implDistinctCount_c (va : Value) (ar : Int) (a : List (List Int)) (col : Int) (w : World) (ha : Rows2 w va a) :
    Calls Try.prog 27 #[.agg #[.int .i64 ar, va], .int .i64 col] w fun e w' => e = .returned (.int .i64 (degs ar a col).1.length) ∧ Below w.heap.size w w' := by
  have HR := Lib.hid ha
  obtain ⟨A, ca, rfl, hca, _⟩ := ha.at_
  clear ha
  go_enter Try.func27, Try.ntmps27
  go_wp2_with fail
  refine (implColumnDegrees_c _ ar a col _ (HR.out.keep (below1 _ _))).mono ?_
  rintro e w1 ⟨v1, v2, rfl, o1, o2, _, hb1⟩
  have HB := Lib.hid ((below1 w (.cells #[.int .i64 ar, .slice A a.length ca] 27)).trans (hb1.mono (by simp)))
  obtain ⟨A1, c1, rfl⟩ := own_form o1
  clear o1 o2 hb1
  go_wp2
  go_ret
  exact ⟨rfl, HB.out⟩

set_option maxHeartbeats 400000 in
theorem specMaxColumnDegree_c (va : Value) (ar : Int) (a : List (List Int)) (col : Int) (w : World) (ha : Rows2 w va a) :
    Calls Try.prog 28 #[.agg #[.int .i64 ar, va], .int .i64 col] w fun e w' => e = .returned (.int .i64 (maxL (degs ar a col).2)) ∧ Below w.heap.size w w' := by
  have HR := Lib.hid ha
  obtain ⟨A, ca, rfl, hca, _⟩ := ha.at_
  clear ha
  go_enter Try.func28, Try.ntmps28
  go_wp2_with fail
  refine (specColumnDegrees_c _ ar a col _ (HR.out.keep (below1 _ _))).mono ?_
  rintro e w1 ⟨v1, v2, rfl, o1, o2, _, hb1⟩
  have HB := Lib.hid ((below1 w (.cells #[.int .i64 ar, .slice A a.length ca] 27)).trans (hb1.mono (by simp)))
  have hl := (degs_length ar a col).2
  have I2 := Ints.of_own o2
  obtain ⟨l, hle⟩ : ∃ l, l = (degs ar a col).2 := ⟨_, rfl⟩
  rw [← hle] at hl o2 I2
  have HLE := Lib.hid hle; clear hle
  obtain ⟨A2, c2, rfl, _, hat⟩ := I2.at_
  clear o1 o2 hb1 I2
  go_wp2
  go_loop [7, 8] (fun n i => ∃ k : Nat, k ≤ l.length ∧ i = .int .i64 k ∧ n = .int .i64 (maxL (l.take k))) (fun _ i => l.length - (intOf i).toNat)
  case atStart => exact ⟨0, by omega, rfl, rfl⟩
  case round =>
    obtain ⟨k, hk, rfl, rfl⟩ := hrel
    by_cases hlt : k < l.length
    · obtain ⟨b, off, rfl, hc⟩ := hat (by omega)
      have g1 := hc k hlt
      have HM := Lib.hid (maxL_snoc hlt)
      clear hc
      go_wp2
      refine ⟨⟨k + 1, by omega, by go_num, by rw [HM.out, ← max_if]⟩, by simp [intOf]; omega⟩
    · go_wp2
      go_ret
      have e : k = l.length := by omega
      subst e
      exact ⟨ret_int (by rw [List.take_length, HLE.out]), HB.out⟩

set_option maxHeartbeats 400000 in
theorem implMaxColumnDegree_c (va : Value) (ar : Int) (a : List (List Int)) (col : Int) (w : World) (ha : Rows2 w va a) :
    Calls Try.prog 29 #[.agg #[.int .i64 ar, va], .int .i64 col] w fun e w' => e = .returned (.int .i64 (maxL (degs ar a col).2)) ∧ Below w.heap.size w w' := by
  have HR := Lib.hid ha
  obtain ⟨A, ca, rfl, hca, _⟩ := ha.at_
  clear ha
  go_enter Try.func29, Try.ntmps29
  go_wp2_with fail
  refine (implColumnDegrees_c _ ar a col _ (HR.out.keep (below1 _ _))).mono ?_
  rintro e w1 ⟨v1, v2, rfl, o1, o2, _, hb1⟩
  have HB := Lib.hid ((below1 w (.cells #[.int .i64 ar, .slice A a.length ca] 27)).trans (hb1.mono (by simp)))
  have hl := (degs_length ar a col).2
  have I2 := Ints.of_own o2
  obtain ⟨l, hle⟩ : ∃ l, l = (degs ar a col).2 := ⟨_, rfl⟩
  rw [← hle] at hl o2 I2
  have HLE := Lib.hid hle; clear hle
  obtain ⟨A2, c2, rfl, _, hat⟩ := I2.at_
  clear o1 o2 hb1 I2
  go_wp2
  go_loop [7, 9, 18] (fun n _ i => ∃ k : Nat, k ≤ l.length ∧ i = .int .i64 k ∧ n = .int .i64 (maxL (l.take k))) (fun _ _ i => l.length - (intOf i).toNat)
  case atStart => exact ⟨0, by omega, rfl, rfl⟩
  case round =>
    obtain ⟨k, hk, rfl, rfl⟩ := hrel
    by_cases hlt : k < l.length
    · obtain ⟨b, off, rfl, hc⟩ := hat (by omega)
      have g1 := hc k hlt
      have HM := Lib.hid (maxL_snoc hlt)
      clear hc
      go_wp2
      refine ⟨⟨k + 1, by omega, by go_num, by rw [HM.out, ← max_if]⟩, by simp [intOf]; omega⟩
    · go_wp2
      go_ret
      have e : k = l.length := by omega
      subst e
      exact ⟨ret_int (by rw [List.take_length, HLE.out]), HB.out⟩

end Go.Proofs.Ytnijkpbecgifjaa
