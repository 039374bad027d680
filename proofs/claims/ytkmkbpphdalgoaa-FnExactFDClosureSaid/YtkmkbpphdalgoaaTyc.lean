/-
  How the laws' arguments read as the machine's data, printed by genlaw.py. No conditions.
-/
import Derived.Test.YtkmkbpphdalgoaaKc
import Derived.Test.YtkmkbpphdalgoaaGenc
namespace Go.Proofs.Ytkmkbpphdalgoaa
open Go.RowKit Go.ChangeShapes Go.WideShapes Go.Deep
set_option linter.unusedVariables false
set_option maxRecDepth 100000
section
variable {H : Type} {enc : TypeId × Value → H} {w : World} {base : Nat} {spare : Nat → Bool} {held : Bool}
def ok30 (x : List Int) : Prop := x.length ≤ maxLen ∧ ∀ a ∈ x, InI a
theorem op30 : Opens enc Try.prog w base spare held 30 c30_d ok30 := opens_sl Try.underlying30 (by kernel_rfl) (Nat.le_of_ble_eq_true rfl) zci64 (opens_int Try.underlying3)
def ok171 (x : (List UInt8) × (List Int)) : Prop := List.length x.1 ≤ maxLen ∧ ok30 x.2
theorem op171 : Opens enc Try.prog w base spare held 171 c171_d ok171 := by
  intro fuel cs x h
  have hl : cs.length = 2 := (st_len Try.underlying171 h).trans (by kernel_rfl)
  obtain ⟨y0, n0, h0⟩ := st_field Try.underlying171 h (j := 0) rfl
  rw [show Try.prog.cellsOf _ = 1 from by kernel_rfl] at h0
  obtain ⟨a0, r0, k0⟩ := (opens_str Try.underlying9) _ _ _ h0
  obtain ⟨y1, n1, h1⟩ := st_field Try.underlying171 h (j := 1) rfl
  rw [show Try.prog.cellsOf _ = 1 from by kernel_rfl] at h1
  obtain ⟨a1, r1, k1⟩ := op30 _ _ _ h1
  refine ⟨(a0, a1), ?_, k0, k1⟩
  exact (rdl_field (off := 0) (n := 1) r0 (rdl_field (off := 1) (n := 1) r1 (rdl_end hl)))
def ok48 (x : List ((List UInt8) × (List Int))) : Prop := x.length ≤ maxLen ∧ ∀ a ∈ x, ok171 a
theorem op48 : Opens enc Try.prog w base spare held 48 c48_dd ok48 := opens_sl Try.underlying48 (by kernel_rfl) (Nat.le_of_ble_eq_true rfl) zc171_d op171
def ok50 (x : Int × (List ((List UInt8) × (List Int))) × (List Int)) : Prop := InI x.1 ∧ ok48 x.2.1 ∧ ok30 x.2.2
theorem op50 : Opens enc Try.prog w base spare held 50 c50_ddd ok50 := by
  intro fuel cs x h
  have hl : cs.length = 3 := (st_len Try.underlying50 h).trans (by kernel_rfl)
  obtain ⟨y0, n0, h0⟩ := st_field Try.underlying50 h (j := 0) rfl
  rw [show Try.prog.cellsOf _ = 1 from by kernel_rfl] at h0
  obtain ⟨a0, r0, k0⟩ := (opens_int Try.underlying3) _ _ _ h0
  obtain ⟨y1, n1, h1⟩ := st_field Try.underlying50 h (j := 1) rfl
  rw [show Try.prog.cellsOf _ = 1 from by kernel_rfl] at h1
  obtain ⟨a1, r1, k1⟩ := op48 _ _ _ h1
  obtain ⟨y2, n2, h2⟩ := st_field Try.underlying50 h (j := 2) rfl
  rw [show Try.prog.cellsOf _ = 1 from by kernel_rfl] at h2
  obtain ⟨a2, r2, k2⟩ := op30 _ _ _ h2
  refine ⟨(a0, a1, a2), ?_, k0, k1, k2⟩
  exact (rdl_field (off := 0) (n := 1) r0 (rdl_field (off := 1) (n := 1) r1 (rdl_field (off := 2) (n := 1) r2 (rdl_end hl))))
def ok83 (x : (List UInt8) × (List Int) × Int) : Prop := List.length x.1 ≤ maxLen ∧ ok30 x.2.1 ∧ InI x.2.2
theorem op83 : Opens enc Try.prog w base spare held 83 c83_d ok83 := by
  intro fuel cs x h
  have hl : cs.length = 3 := (st_len Try.underlying83 h).trans (by kernel_rfl)
  obtain ⟨y0, n0, h0⟩ := st_field Try.underlying83 h (j := 0) rfl
  rw [show Try.prog.cellsOf _ = 1 from by kernel_rfl] at h0
  obtain ⟨a0, r0, k0⟩ := (opens_str Try.underlying9) _ _ _ h0
  obtain ⟨y1, n1, h1⟩ := st_field Try.underlying83 h (j := 1) rfl
  rw [show Try.prog.cellsOf _ = 1 from by kernel_rfl] at h1
  obtain ⟨a1, r1, k1⟩ := op30 _ _ _ h1
  obtain ⟨y2, n2, h2⟩ := st_field Try.underlying83 h (j := 2) rfl
  rw [show Try.prog.cellsOf _ = 1 from by kernel_rfl] at h2
  obtain ⟨a2, r2, k2⟩ := (opens_int Try.underlying3) _ _ _ h2
  refine ⟨(a0, a1, a2), ?_, k0, k1, k2⟩
  exact (rdl_field (off := 0) (n := 1) r0 (rdl_field (off := 1) (n := 1) r1 (rdl_field (off := 2) (n := 1) r2 (rdl_end hl))))
def ok111 (x : List ((List UInt8) × (List Int) × Int)) : Prop := x.length ≤ maxLen ∧ ∀ a ∈ x, ok83 a
theorem op111 : Opens enc Try.prog w base spare held 111 c111_dd ok111 := opens_sl Try.underlying111 (by kernel_rfl) (Nat.le_of_ble_eq_true rfl) zc83_d op83
end
end Go.Proofs.Ytkmkbpphdalgoaa
