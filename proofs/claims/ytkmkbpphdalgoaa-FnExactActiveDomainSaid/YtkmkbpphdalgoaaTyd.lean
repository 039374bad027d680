/-
  How the laws' arguments read as the machine's data, printed by genlaw.py. No conditions.
-/
import Derived.Test.YtkmkbpphdalgoaaKc
import Derived.Test.YtkmkbpphdalgoaaGend
namespace Go.Proofs.Ytkmkbpphdalgoaa
open Go.RowKit Go.ChangeShapes Go.WideShapes Go.Deep
set_option linter.unusedVariables false
set_option maxRecDepth 100000
section
variable {H : Type} {enc : TypeId × Value → H} {w : World} {base : Nat} {spare : Nat → Bool} {held : Bool}
def ok30 (x : List Int) : Prop := x.length ≤ maxLen ∧ ∀ a ∈ x, InI a
theorem op30 : Opens enc Try.prog w base spare held 30 c30_d ok30 := opens_sl Try.underlying30 (by kernel_rfl) (Nat.le_of_ble_eq_true rfl) zci64 (opens_int Try.underlying3)
def ok22 (x : List (List Int)) : Prop := x.length ≤ maxLen ∧ ∀ a ∈ x, ok30 a
theorem op22 : Opens enc Try.prog w base spare held 22 c22_dd ok22 := opens_sl Try.underlying22 (by kernel_rfl) (Nat.le_of_ble_eq_true rfl) zc30_d op30
def ok42 (x : Int × (List (List Int))) : Prop := InI x.1 ∧ ok22 x.2
theorem op42 : Opens enc Try.prog w base spare held 42 c42_dd ok42 := by
  intro fuel cs x h
  have hl : cs.length = 2 := (st_len Try.underlying42 h).trans (by kernel_rfl)
  obtain ⟨y0, n0, h0⟩ := st_field Try.underlying42 h (j := 0) rfl
  rw [show Try.prog.cellsOf _ = 1 from by kernel_rfl] at h0
  obtain ⟨a0, r0, k0⟩ := (opens_int Try.underlying3) _ _ _ h0
  obtain ⟨y1, n1, h1⟩ := st_field Try.underlying42 h (j := 1) rfl
  rw [show Try.prog.cellsOf _ = 1 from by kernel_rfl] at h1
  obtain ⟨a1, r1, k1⟩ := op22 _ _ _ h1
  refine ⟨(a0, a1), ?_, k0, k1⟩
  exact (rdl_field (off := 0) (n := 1) r0 (rdl_field (off := 1) (n := 1) r1 (rdl_end hl)))
def ok187 (x : (List UInt8) × (Int × (List (List Int)))) : Prop := List.length x.1 ≤ maxLen ∧ ok42 x.2
theorem op187 : Opens enc Try.prog w base spare held 187 c187_dd ok187 := by
  intro fuel cs x h
  have hl : cs.length = 3 := (st_len Try.underlying187 h).trans (by kernel_rfl)
  obtain ⟨y0, n0, h0⟩ := st_field Try.underlying187 h (j := 0) rfl
  rw [show Try.prog.cellsOf _ = 1 from by kernel_rfl] at h0
  obtain ⟨a0, r0, k0⟩ := (opens_str Try.underlying9) _ _ _ h0
  obtain ⟨y1, n1, h1⟩ := st_field Try.underlying187 h (j := 1) rfl
  rw [show Try.prog.cellsOf _ = 2 from by kernel_rfl] at h1
  obtain ⟨a1, r1, k1⟩ := op42 _ _ _ h1
  refine ⟨(a0, a1), ?_, k0, k1⟩
  exact (rdl_field (off := 0) (n := 1) r0 (rdl_field (off := 1) (n := 2) r1 (rdl_end hl)))
def ok93 (x : List ((List UInt8) × (Int × (List (List Int))))) : Prop := x.length ≤ maxLen ∧ ∀ a ∈ x, ok187 a
theorem op93 : Opens enc Try.prog w base spare held 93 c93_ddd ok93 := opens_sl Try.underlying93 (by kernel_rfl) (Nat.le_of_ble_eq_true rfl) zc187_dd op187
def ok95 (x : (List ((List UInt8) × (Int × (List (List Int)))))) : Prop := ok93 x
theorem op95 : Opens enc Try.prog w base spare held 95 c95_ddd ok95 := by
  intro fuel cs x h
  have hl : cs.length = 1 := (st_len Try.underlying95 h).trans (by kernel_rfl)
  obtain ⟨y0, n0, h0⟩ := st_field Try.underlying95 h (j := 0) rfl
  rw [show Try.prog.cellsOf _ = 1 from by kernel_rfl] at h0
  obtain ⟨a0, r0, k0⟩ := op93 _ _ _ h0
  refine ⟨a0, ?_, k0⟩
  exact (rdl_field (off := 0) (n := 1) r0 (rdl_end hl))
end
end Go.Proofs.Ytkmkbpphdalgoaa
