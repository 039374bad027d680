/-
  How the laws' arguments read as the machine's data, printed by genlaw.py. No conditions.
-/
import Derived.Test.YtlknpohjnpnodaaGreatKc
import Derived.Test.YtlknpohjnpnodaaGreatGenAC1
namespace Go.Proofs.YtlknpohjnpnodaaGreat
open Go.RowKit Go.ChangeShapes Go.WideShapes Go.Deep
set_option linter.unusedVariables false
set_option maxRecDepth 100000
section
variable {H : Type} {enc : TypeId × Value → H} {w : World} {base : Nat} {spare : Nat → Bool} {held : Bool}
def ok27 (x : List Int) : Prop := x.length ≤ maxLen ∧ ∀ a ∈ x, InI a
theorem op27 : Opens enc Tryz.prog w base spare held 27 c27_d ok27 := opens_sl Tryz.underlying27 (by kernel_rfl) (Nat.le_of_ble_eq_true rfl) zci64 (opens_int Tryz.underlying3)
def ok39 (x : List (List Int)) : Prop := x.length ≤ maxLen ∧ ∀ a ∈ x, ok27 a
theorem op39 : Opens enc Tryz.prog w base spare held 39 c39_dd ok39 := opens_sl Tryz.underlying39 (by kernel_rfl) (Nat.le_of_ble_eq_true rfl) zc27_d op27
def ok192 (x : Y40) : Prop := InI x.1 ∧ ok39 x.2
theorem op192 : Opens enc Tryz.prog w base spare held 192 c192_dd ok192 := by
  intro fuel cs x h
  have hl : cs.length = 2 := (st_len Tryz.underlying192 h).trans (by kernel_rfl)
  obtain ⟨y0, n0, h0⟩ := st_field Tryz.underlying192 h (j := 0) rfl
  rw [show Tryz.prog.cellsOf _ = 1 from by kernel_rfl] at h0
  obtain ⟨a0, r0, k0⟩ := (opens_int Tryz.underlying3) _ _ _ h0
  obtain ⟨y1, n1, h1⟩ := st_field Tryz.underlying192 h (j := 1) rfl
  rw [show Tryz.prog.cellsOf _ = 1 from by kernel_rfl] at h1
  obtain ⟨a1, r1, k1⟩ := op39 _ _ _ h1
  refine ⟨(a0, a1), ?_, k0, k1⟩
  exact (rdl_field (off := 0) (n := 1) r0 (rdl_field (off := 1) (n := 1) r1 (rdl_end hl)))
def ok194 (x : Y193) : Prop := List.length x.1 ≤ maxLen ∧ ok192 x.2
theorem op194 : Opens enc Tryz.prog w base spare held 194 c194_dd ok194 := by
  intro fuel cs x h
  have hl : cs.length = 3 := (st_len Tryz.underlying194 h).trans (by kernel_rfl)
  obtain ⟨y0, n0, h0⟩ := st_field Tryz.underlying194 h (j := 0) rfl
  rw [show Tryz.prog.cellsOf _ = 1 from by kernel_rfl] at h0
  obtain ⟨a0, r0, k0⟩ := (opens_str Tryz.underlying9) _ _ _ h0
  obtain ⟨y1, n1, h1⟩ := st_field Tryz.underlying194 h (j := 1) rfl
  rw [show Tryz.prog.cellsOf _ = 2 from by kernel_rfl] at h1
  obtain ⟨a1, r1, k1⟩ := op192 _ _ _ h1
  refine ⟨(a0, a1), ?_, k0, k1⟩
  exact (rdl_field (off := 0) (n := 1) r0 (rdl_field (off := 1) (n := 2) r1 (rdl_end hl)))
def ok130 (x : List Y193) : Prop := x.length ≤ maxLen ∧ ∀ a ∈ x, ok194 a
theorem op130 : Opens enc Tryz.prog w base spare held 130 c130_ddd ok130 := opens_sl Tryz.underlying130 (by kernel_rfl) (Nat.le_of_ble_eq_true rfl) zc194_dd op194
def ok132 (x : List Y193) : Prop := ok130 x
theorem op132 : Opens enc Tryz.prog w base spare held 132 c132_ddd ok132 := by
  intro fuel cs x h
  have hl : cs.length = 1 := (st_len Tryz.underlying132 h).trans (by kernel_rfl)
  obtain ⟨y0, n0, h0⟩ := st_field Tryz.underlying132 h (j := 0) rfl
  rw [show Tryz.prog.cellsOf _ = 1 from by kernel_rfl] at h0
  obtain ⟨a0, r0, k0⟩ := op130 _ _ _ h0
  refine ⟨a0, ?_, k0⟩
  exact (rdl_field (off := 0) (n := 1) r0 (rdl_end hl))
def ok52 (x : List (List Y193)) : Prop := x.length ≤ maxLen ∧ ∀ a ∈ x, ok132 a
theorem op52 : Opens enc Tryz.prog w base spare held 52 c52_dddd ok52 := opens_sl Tryz.underlying52 (by kernel_rfl) (Nat.le_of_ble_eq_true rfl) zc132_ddd op132
def ok54 (x : Y53) : Prop := InI x.1 ∧ ok52 x.2
theorem op54 : Opens enc Tryz.prog w base spare held 54 c54_dddd ok54 := by
  intro fuel cs x h
  have hl : cs.length = 2 := (st_len Tryz.underlying54 h).trans (by kernel_rfl)
  obtain ⟨y0, n0, h0⟩ := st_field Tryz.underlying54 h (j := 0) rfl
  rw [show Tryz.prog.cellsOf _ = 1 from by kernel_rfl] at h0
  obtain ⟨a0, r0, k0⟩ := (opens_int Tryz.underlying3) _ _ _ h0
  obtain ⟨y1, n1, h1⟩ := st_field Tryz.underlying54 h (j := 1) rfl
  rw [show Tryz.prog.cellsOf _ = 1 from by kernel_rfl] at h1
  obtain ⟨a1, r1, k1⟩ := op52 _ _ _ h1
  refine ⟨(a0, a1), ?_, k0, k1⟩
  exact (rdl_field (off := 0) (n := 1) r0 (rdl_field (off := 1) (n := 1) r1 (rdl_end hl)))
def ok167 (x : Y108) : Prop := List.length x.1 ≤ maxLen ∧ ok27 x.2
theorem op167 : Opens enc Tryz.prog w base spare held 167 c167_d ok167 := by
  intro fuel cs x h
  have hl : cs.length = 2 := (st_len Tryz.underlying167 h).trans (by kernel_rfl)
  obtain ⟨y0, n0, h0⟩ := st_field Tryz.underlying167 h (j := 0) rfl
  rw [show Tryz.prog.cellsOf _ = 1 from by kernel_rfl] at h0
  obtain ⟨a0, r0, k0⟩ := (opens_str Tryz.underlying9) _ _ _ h0
  obtain ⟨y1, n1, h1⟩ := st_field Tryz.underlying167 h (j := 1) rfl
  rw [show Tryz.prog.cellsOf _ = 1 from by kernel_rfl] at h1
  obtain ⟨a1, r1, k1⟩ := op27 _ _ _ h1
  refine ⟨(a0, a1), ?_, k0, k1⟩
  exact (rdl_field (off := 0) (n := 1) r0 (rdl_field (off := 1) (n := 1) r1 (rdl_end hl)))
def ok55 (x : List Y108) : Prop := x.length ≤ maxLen ∧ ∀ a ∈ x, ok167 a
theorem op55 : Opens enc Tryz.prog w base spare held 55 c55_dd ok55 := opens_sl Tryz.underlying55 (by kernel_rfl) (Nat.le_of_ble_eq_true rfl) zc167_d op167
def ok57 (x : Y56) : Prop := InI x.1 ∧ ok55 x.2.1 ∧ ok27 x.2.2
theorem op57 : Opens enc Tryz.prog w base spare held 57 c57_ddd ok57 := by
  intro fuel cs x h
  have hl : cs.length = 3 := (st_len Tryz.underlying57 h).trans (by kernel_rfl)
  obtain ⟨y0, n0, h0⟩ := st_field Tryz.underlying57 h (j := 0) rfl
  rw [show Tryz.prog.cellsOf _ = 1 from by kernel_rfl] at h0
  obtain ⟨a0, r0, k0⟩ := (opens_int Tryz.underlying3) _ _ _ h0
  obtain ⟨y1, n1, h1⟩ := st_field Tryz.underlying57 h (j := 1) rfl
  rw [show Tryz.prog.cellsOf _ = 1 from by kernel_rfl] at h1
  obtain ⟨a1, r1, k1⟩ := op55 _ _ _ h1
  obtain ⟨y2, n2, h2⟩ := st_field Tryz.underlying57 h (j := 2) rfl
  rw [show Tryz.prog.cellsOf _ = 1 from by kernel_rfl] at h2
  obtain ⟨a2, r2, k2⟩ := op27 _ _ _ h2
  refine ⟨(a0, a1, a2), ?_, k0, k1, k2⟩
  exact (rdl_field (off := 0) (n := 1) r0 (rdl_field (off := 1) (n := 1) r1 (rdl_field (off := 2) (n := 1) r2 (rdl_end hl))))
def ok59 (x : Y58) : Prop := InI x.1 ∧ ok27 x.2.1 ∧ ok27 x.2.2.1 ∧ ok57 x.2.2.2
theorem op59 : Opens enc Tryz.prog w base spare held 59 c59_ddddd ok59 := by
  intro fuel cs x h
  have hl : cs.length = 6 := (st_len Tryz.underlying59 h).trans (by kernel_rfl)
  obtain ⟨y0, n0, h0⟩ := st_field Tryz.underlying59 h (j := 0) rfl
  rw [show Tryz.prog.cellsOf _ = 1 from by kernel_rfl] at h0
  obtain ⟨a0, r0, k0⟩ := (opens_int Tryz.underlying3) _ _ _ h0
  obtain ⟨y1, n1, h1⟩ := st_field Tryz.underlying59 h (j := 1) rfl
  rw [show Tryz.prog.cellsOf _ = 1 from by kernel_rfl] at h1
  obtain ⟨a1, r1, k1⟩ := op27 _ _ _ h1
  obtain ⟨y2, n2, h2⟩ := st_field Tryz.underlying59 h (j := 2) rfl
  rw [show Tryz.prog.cellsOf _ = 1 from by kernel_rfl] at h2
  obtain ⟨a2, r2, k2⟩ := op27 _ _ _ h2
  obtain ⟨y3, n3, h3⟩ := st_field Tryz.underlying59 h (j := 3) rfl
  rw [show Tryz.prog.cellsOf _ = 3 from by kernel_rfl] at h3
  obtain ⟨a3, r3, k3⟩ := op57 _ _ _ h3
  refine ⟨(a0, a1, a2, a3), ?_, k0, k1, k2, k3⟩
  exact (rdl_field (off := 0) (n := 1) r0 (rdl_field (off := 1) (n := 1) r1 (rdl_field (off := 2) (n := 1) r2 (rdl_field (off := 3) (n := 3) r3 (rdl_end hl)))))
end
end Go.Proofs.YtlknpohjnpnodaaGreat
