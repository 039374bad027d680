/-
  How the laws' arguments read as the machine's data, printed by genlaw.py. No conditions.
-/
import Derived.Test.YtcoalfphehhadaaKc
import Derived.Test.YtcoalfphehhadaaGenDU1
namespace Go.Proofs.Ytcoalfphehhadaa
open Go.RowKit Go.ChangeShapes Go.WideShapes Go.Deep
set_option linter.unusedVariables false
set_option maxRecDepth 100000
section
variable {H : Type} {enc : TypeId × Value → H} {w : World} {base : Nat} {spare : Nat → Bool} {held : Bool}
def ok60 (x : List Int) : Prop := x.length ≤ maxLen ∧ ∀ a ∈ x, InI a
theorem op60 : Opens enc Try.prog w base spare held 60 c60_d ok60 := opens_sl Try.underlying60 (by kernel_rfl) (Nat.le_of_ble_eq_true rfl) zci64 (opens_int Try.underlying3)
def ok27 (x : List (List Int)) : Prop := x.length ≤ maxLen ∧ ∀ a ∈ x, ok60 a
theorem op27 : Opens enc Try.prog w base spare held 27 c27_dd ok27 := opens_sl Try.underlying27 (by kernel_rfl) (Nat.le_of_ble_eq_true rfl) zc60_d op60
def ok182 (x : Y28) : Prop := InI x.1 ∧ ok27 x.2
theorem op182 : Opens enc Try.prog w base spare held 182 c182_dd ok182 := by
  intro fuel cs x h
  have hl : cs.length = 2 := (st_len Try.underlying182 h).trans (by kernel_rfl)
  obtain ⟨y0, n0, h0⟩ := st_field Try.underlying182 h (j := 0) rfl
  rw [show Try.prog.cellsOf _ = 1 from by kernel_rfl] at h0
  obtain ⟨a0, r0, k0⟩ := (opens_int Try.underlying3) _ _ _ h0
  obtain ⟨y1, n1, h1⟩ := st_field Try.underlying182 h (j := 1) rfl
  rw [show Try.prog.cellsOf _ = 1 from by kernel_rfl] at h1
  obtain ⟨a1, r1, k1⟩ := op27 _ _ _ h1
  refine ⟨(a0, a1), ?_, k0, k1⟩
  exact (rdl_field (off := 0) (n := 1) r0 (rdl_field (off := 1) (n := 1) r1 (rdl_end hl)))
def ok184 (x : Y183) : Prop := List.length x.1 ≤ maxLen ∧ ok182 x.2
theorem op184 : Opens enc Try.prog w base spare held 184 c184_dd ok184 := by
  intro fuel cs x h
  have hl : cs.length = 3 := (st_len Try.underlying184 h).trans (by kernel_rfl)
  obtain ⟨y0, n0, h0⟩ := st_field Try.underlying184 h (j := 0) rfl
  rw [show Try.prog.cellsOf _ = 1 from by kernel_rfl] at h0
  obtain ⟨a0, r0, k0⟩ := (opens_str Try.underlying9) _ _ _ h0
  obtain ⟨y1, n1, h1⟩ := st_field Try.underlying184 h (j := 1) rfl
  rw [show Try.prog.cellsOf _ = 2 from by kernel_rfl] at h1
  obtain ⟨a1, r1, k1⟩ := op182 _ _ _ h1
  refine ⟨(a0, a1), ?_, k0, k1⟩
  exact (rdl_field (off := 0) (n := 1) r0 (rdl_field (off := 1) (n := 2) r1 (rdl_end hl)))
def ok145 (x : List Y183) : Prop := x.length ≤ maxLen ∧ ∀ a ∈ x, ok184 a
theorem op145 : Opens enc Try.prog w base spare held 145 c145_ddd ok145 := opens_sl Try.underlying145 (by kernel_rfl) (Nat.le_of_ble_eq_true rfl) zc184_dd op184
def ok147 (x : List Y183) : Prop := ok145 x
theorem op147 : Opens enc Try.prog w base spare held 147 c147_ddd ok147 := by
  intro fuel cs x h
  have hl : cs.length = 1 := (st_len Try.underlying147 h).trans (by kernel_rfl)
  obtain ⟨y0, n0, h0⟩ := st_field Try.underlying147 h (j := 0) rfl
  rw [show Try.prog.cellsOf _ = 1 from by kernel_rfl] at h0
  obtain ⟨a0, r0, k0⟩ := op145 _ _ _ h0
  refine ⟨a0, ?_, k0⟩
  exact (rdl_field (off := 0) (n := 1) r0 (rdl_end hl))
def ok45 (x : List (List Y183)) : Prop := x.length ≤ maxLen ∧ ∀ a ∈ x, ok147 a
theorem op45 : Opens enc Try.prog w base spare held 45 c45_dddd ok45 := opens_sl Try.underlying45 (by kernel_rfl) (Nat.le_of_ble_eq_true rfl) zc147_ddd op147
def ok47 (x : Y46) : Prop := InI x.1 ∧ ok45 x.2
theorem op47 : Opens enc Try.prog w base spare held 47 c47_dddd ok47 := by
  intro fuel cs x h
  have hl : cs.length = 2 := (st_len Try.underlying47 h).trans (by kernel_rfl)
  obtain ⟨y0, n0, h0⟩ := st_field Try.underlying47 h (j := 0) rfl
  rw [show Try.prog.cellsOf _ = 1 from by kernel_rfl] at h0
  obtain ⟨a0, r0, k0⟩ := (opens_int Try.underlying3) _ _ _ h0
  obtain ⟨y1, n1, h1⟩ := st_field Try.underlying47 h (j := 1) rfl
  rw [show Try.prog.cellsOf _ = 1 from by kernel_rfl] at h1
  obtain ⟨a1, r1, k1⟩ := op45 _ _ _ h1
  refine ⟨(a0, a1), ?_, k0, k1⟩
  exact (rdl_field (off := 0) (n := 1) r0 (rdl_field (off := 1) (n := 1) r1 (rdl_end hl)))
def ok186 (x : Y123) : Prop := List.length x.1 ≤ maxLen ∧ ok60 x.2
theorem op186 : Opens enc Try.prog w base spare held 186 c186_d ok186 := by
  intro fuel cs x h
  have hl : cs.length = 2 := (st_len Try.underlying186 h).trans (by kernel_rfl)
  obtain ⟨y0, n0, h0⟩ := st_field Try.underlying186 h (j := 0) rfl
  rw [show Try.prog.cellsOf _ = 1 from by kernel_rfl] at h0
  obtain ⟨a0, r0, k0⟩ := (opens_str Try.underlying9) _ _ _ h0
  obtain ⟨y1, n1, h1⟩ := st_field Try.underlying186 h (j := 1) rfl
  rw [show Try.prog.cellsOf _ = 1 from by kernel_rfl] at h1
  obtain ⟨a1, r1, k1⟩ := op60 _ _ _ h1
  refine ⟨(a0, a1), ?_, k0, k1⟩
  exact (rdl_field (off := 0) (n := 1) r0 (rdl_field (off := 1) (n := 1) r1 (rdl_end hl)))
def ok94 (x : List Y123) : Prop := x.length ≤ maxLen ∧ ∀ a ∈ x, ok186 a
theorem op94 : Opens enc Try.prog w base spare held 94 c94_dd ok94 := opens_sl Try.underlying94 (by kernel_rfl) (Nat.le_of_ble_eq_true rfl) zc186_d op186
def ok96 (x : Y95) : Prop := InI x.1 ∧ ok94 x.2.1 ∧ ok60 x.2.2
theorem op96 : Opens enc Try.prog w base spare held 96 c96_ddd ok96 := by
  intro fuel cs x h
  have hl : cs.length = 3 := (st_len Try.underlying96 h).trans (by kernel_rfl)
  obtain ⟨y0, n0, h0⟩ := st_field Try.underlying96 h (j := 0) rfl
  rw [show Try.prog.cellsOf _ = 1 from by kernel_rfl] at h0
  obtain ⟨a0, r0, k0⟩ := (opens_int Try.underlying3) _ _ _ h0
  obtain ⟨y1, n1, h1⟩ := st_field Try.underlying96 h (j := 1) rfl
  rw [show Try.prog.cellsOf _ = 1 from by kernel_rfl] at h1
  obtain ⟨a1, r1, k1⟩ := op94 _ _ _ h1
  obtain ⟨y2, n2, h2⟩ := st_field Try.underlying96 h (j := 2) rfl
  rw [show Try.prog.cellsOf _ = 1 from by kernel_rfl] at h2
  obtain ⟨a2, r2, k2⟩ := op60 _ _ _ h2
  refine ⟨(a0, a1, a2), ?_, k0, k1, k2⟩
  exact (rdl_field (off := 0) (n := 1) r0 (rdl_field (off := 1) (n := 1) r1 (rdl_field (off := 2) (n := 1) r2 (rdl_end hl))))
def ok98 (x : Y97) : Prop := InI x.1 ∧ ok60 x.2.1 ∧ ok60 x.2.2.1 ∧ ok96 x.2.2.2
theorem op98 : Opens enc Try.prog w base spare held 98 c98_ddddd ok98 := by
  intro fuel cs x h
  have hl : cs.length = 6 := (st_len Try.underlying98 h).trans (by kernel_rfl)
  obtain ⟨y0, n0, h0⟩ := st_field Try.underlying98 h (j := 0) rfl
  rw [show Try.prog.cellsOf _ = 1 from by kernel_rfl] at h0
  obtain ⟨a0, r0, k0⟩ := (opens_int Try.underlying3) _ _ _ h0
  obtain ⟨y1, n1, h1⟩ := st_field Try.underlying98 h (j := 1) rfl
  rw [show Try.prog.cellsOf _ = 1 from by kernel_rfl] at h1
  obtain ⟨a1, r1, k1⟩ := op60 _ _ _ h1
  obtain ⟨y2, n2, h2⟩ := st_field Try.underlying98 h (j := 2) rfl
  rw [show Try.prog.cellsOf _ = 1 from by kernel_rfl] at h2
  obtain ⟨a2, r2, k2⟩ := op60 _ _ _ h2
  obtain ⟨y3, n3, h3⟩ := st_field Try.underlying98 h (j := 3) rfl
  rw [show Try.prog.cellsOf _ = 3 from by kernel_rfl] at h3
  obtain ⟨a3, r3, k3⟩ := op96 _ _ _ h3
  refine ⟨(a0, a1, a2, a3), ?_, k0, k1, k2, k3⟩
  exact (rdl_field (off := 0) (n := 1) r0 (rdl_field (off := 1) (n := 1) r1 (rdl_field (off := 2) (n := 1) r2 (rdl_field (off := 3) (n := 3) r3 (rdl_end hl)))))
def ok48 (x : List Y97) : Prop := x.length ≤ maxLen ∧ ∀ a ∈ x, ok98 a
theorem op48 : Opens enc Try.prog w base spare held 48 c48_dddddd ok48 := opens_sl Try.underlying48 (by kernel_rfl) (Nat.le_of_ble_eq_true rfl) zc98_ddddd op98
end
end Go.Proofs.Ytcoalfphehhadaa
