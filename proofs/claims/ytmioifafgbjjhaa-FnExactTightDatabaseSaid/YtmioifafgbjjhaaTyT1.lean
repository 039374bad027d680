/-
  How the laws' arguments read as the machine's data, printed by genlaw.py. No conditions.
-/
import Derived.Test.YtmioifafgbjjhaaKc
import Derived.Test.YtmioifafgbjjhaaGenT1
namespace Go.Proofs.Ytmioifafgbjjhaa
open Go.RowKit Go.ChangeShapes Go.WideShapes Go.Deep
set_option linter.unusedVariables false
set_option maxRecDepth 100000
section
variable {H : Type} {enc : TypeId × Value → H} {w : World} {base : Nat} {spare : Nat → Bool} {held : Bool}
def ok31 (x : List Int) : Prop := x.length ≤ maxLen ∧ ∀ a ∈ x, InI a
theorem op31 : Opens enc Try.prog w base spare held 31 c31_d ok31 := opens_sl Try.underlying31 (by kernel_rfl) (Nat.le_of_ble_eq_true rfl) zci64 (opens_int Try.underlying3)
def ok211 (x : Y141) : Prop := List.length x.1 ≤ maxLen ∧ ok31 x.2
theorem op211 : Opens enc Try.prog w base spare held 211 c211_d ok211 := by
  intro fuel cs x h
  have hl : cs.length = 2 := (st_len Try.underlying211 h).trans (by kernel_rfl)
  obtain ⟨y0, n0, h0⟩ := st_field Try.underlying211 h (j := 0) rfl
  rw [show Try.prog.cellsOf _ = 1 from by kernel_rfl] at h0
  obtain ⟨a0, r0, k0⟩ := (opens_str Try.underlying9) _ _ _ h0
  obtain ⟨y1, n1, h1⟩ := st_field Try.underlying211 h (j := 1) rfl
  rw [show Try.prog.cellsOf _ = 1 from by kernel_rfl] at h1
  obtain ⟨a1, r1, k1⟩ := op31 _ _ _ h1
  refine ⟨(a0, a1), ?_, k0, k1⟩
  exact (rdl_field (off := 0) (n := 1) r0 (rdl_field (off := 1) (n := 1) r1 (rdl_end hl)))
def ok51 (x : List Y141) : Prop := x.length ≤ maxLen ∧ ∀ a ∈ x, ok211 a
theorem op51 : Opens enc Try.prog w base spare held 51 c51_dd ok51 := opens_sl Try.underlying51 (by kernel_rfl) (Nat.le_of_ble_eq_true rfl) zc211_d op211
def ok53 (x : Y52) : Prop := InI x.1 ∧ ok51 x.2.1 ∧ ok31 x.2.2
theorem op53 : Opens enc Try.prog w base spare held 53 c53_ddd ok53 := by
  intro fuel cs x h
  have hl : cs.length = 3 := (st_len Try.underlying53 h).trans (by kernel_rfl)
  obtain ⟨y0, n0, h0⟩ := st_field Try.underlying53 h (j := 0) rfl
  rw [show Try.prog.cellsOf _ = 1 from by kernel_rfl] at h0
  obtain ⟨a0, r0, k0⟩ := (opens_int Try.underlying3) _ _ _ h0
  obtain ⟨y1, n1, h1⟩ := st_field Try.underlying53 h (j := 1) rfl
  rw [show Try.prog.cellsOf _ = 1 from by kernel_rfl] at h1
  obtain ⟨a1, r1, k1⟩ := op51 _ _ _ h1
  obtain ⟨y2, n2, h2⟩ := st_field Try.underlying53 h (j := 2) rfl
  rw [show Try.prog.cellsOf _ = 1 from by kernel_rfl] at h2
  obtain ⟨a2, r2, k2⟩ := op31 _ _ _ h2
  refine ⟨(a0, a1, a2), ?_, k0, k1, k2⟩
  exact (rdl_field (off := 0) (n := 1) r0 (rdl_field (off := 1) (n := 1) r1 (rdl_field (off := 2) (n := 1) r2 (rdl_end hl))))
end
end Go.Proofs.Ytmioifafgbjjhaa
