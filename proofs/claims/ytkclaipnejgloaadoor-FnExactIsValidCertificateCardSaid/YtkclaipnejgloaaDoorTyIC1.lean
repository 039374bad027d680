/-
  How the laws' arguments read as the machine's data, printed by genlaw.py. No conditions.
-/
import Derived.Test.YtkclaipnejgloaaDoorKc
import Derived.Test.YtkclaipnejgloaaDoorGenIC1
namespace Go.Proofs.YtkclaipnejgloaaDoor
open Go.RowKit Go.ChangeShapes Go.WideShapes Go.Deep
set_option linter.unusedVariables false
set_option maxRecDepth 100000
def c23_d (x : List Int) : List V := [dL ci64 x]
theorem zc23_d (x : List Int) : (c23_d x).length = 1 := rfl
theorem ec23_d (x : List Int) : erL (c23_d x) = c23_d x := (erc (erD eci64 _) rfl)
def c22_dd (x : List Y58) : List V := [dL c59_d x]
theorem zc22_dd (x : List Y58) : (c22_dd x).length = 1 := rfl
theorem ec22_dd (x : List Y58) : erL (c22_dd x) = c22_dd x := (erc (erD ec59_d _) rfl)
def c26_d (x : List Y65) : List V := [dL c82_ x]
theorem zc26_d (x : List Y65) : (c26_d x).length = 1 := rfl
theorem ec26_d (x : List Y65) : erL (c26_d x) = c26_d x := (erc (erD ec82_ _) rfl)
section
variable {H : Type} {enc : TypeId × Value → H} {w : World} {base : Nat} {spare : Nat → Bool} {held : Bool}
def ok23 (x : List Int) : Prop := x.length ≤ maxLen ∧ ∀ a ∈ x, InI a
theorem op23 : Opens enc Tryd.prog w base spare held 23 c23_d ok23 := opens_sl Tryd.underlying23 (by kernel_rfl) (Nat.le_of_ble_eq_true rfl) zci64 (opens_int Tryd.underlying3)
def ok59 (x : Y58) : Prop := List.length x.1 ≤ maxLen ∧ ok23 x.2
theorem op59 : Opens enc Tryd.prog w base spare held 59 c59_d ok59 := by
  intro fuel cs x h
  have hl : cs.length = 2 := (st_len Tryd.underlying59 h).trans (by kernel_rfl)
  obtain ⟨y0, n0, h0⟩ := st_field Tryd.underlying59 h (j := 0) rfl
  rw [show Tryd.prog.cellsOf _ = 1 from by kernel_rfl] at h0
  obtain ⟨a0, r0, k0⟩ := (opens_str Tryd.underlying9) _ _ _ h0
  obtain ⟨y1, n1, h1⟩ := st_field Tryd.underlying59 h (j := 1) rfl
  rw [show Tryd.prog.cellsOf _ = 1 from by kernel_rfl] at h1
  obtain ⟨a1, r1, k1⟩ := op23 _ _ _ h1
  refine ⟨(a0, a1), ?_, k0, k1⟩
  exact (rdl_field (off := 0) (n := 1) r0 (rdl_field (off := 1) (n := 1) r1 (rdl_end hl)))
def ok22 (x : List Y58) : Prop := x.length ≤ maxLen ∧ ∀ a ∈ x, ok59 a
theorem op22 : Opens enc Tryd.prog w base spare held 22 c22_dd ok22 := opens_sl Tryd.underlying22 (by kernel_rfl) (Nat.le_of_ble_eq_true rfl) zc59_d op59
def ok25 (x : Y24) : Prop := InI x.1 ∧ ok22 x.2.1 ∧ ok23 x.2.2
theorem op25 : Opens enc Tryd.prog w base spare held 25 c25_ddd ok25 := by
  intro fuel cs x h
  have hl : cs.length = 3 := (st_len Tryd.underlying25 h).trans (by kernel_rfl)
  obtain ⟨y0, n0, h0⟩ := st_field Tryd.underlying25 h (j := 0) rfl
  rw [show Tryd.prog.cellsOf _ = 1 from by kernel_rfl] at h0
  obtain ⟨a0, r0, k0⟩ := (opens_int Tryd.underlying3) _ _ _ h0
  obtain ⟨y1, n1, h1⟩ := st_field Tryd.underlying25 h (j := 1) rfl
  rw [show Tryd.prog.cellsOf _ = 1 from by kernel_rfl] at h1
  obtain ⟨a1, r1, k1⟩ := op22 _ _ _ h1
  obtain ⟨y2, n2, h2⟩ := st_field Tryd.underlying25 h (j := 2) rfl
  rw [show Tryd.prog.cellsOf _ = 1 from by kernel_rfl] at h2
  obtain ⟨a2, r2, k2⟩ := op23 _ _ _ h2
  refine ⟨(a0, a1, a2), ?_, k0, k1, k2⟩
  exact (rdl_field (off := 0) (n := 1) r0 (rdl_field (off := 1) (n := 1) r1 (rdl_field (off := 2) (n := 1) r2 (rdl_end hl))))
def ok82 (x : Y65) : Prop := InI x.1 ∧ InI x.2
theorem op82 : Opens enc Tryd.prog w base spare held 82 c82_ ok82 := by
  intro fuel cs x h
  have hl : cs.length = 2 := (st_len Tryd.underlying82 h).trans (by kernel_rfl)
  obtain ⟨y0, n0, h0⟩ := st_field Tryd.underlying82 h (j := 0) rfl
  rw [show Tryd.prog.cellsOf _ = 1 from by kernel_rfl] at h0
  obtain ⟨a0, r0, k0⟩ := (opens_int Tryd.underlying3) _ _ _ h0
  obtain ⟨y1, n1, h1⟩ := st_field Tryd.underlying82 h (j := 1) rfl
  rw [show Tryd.prog.cellsOf _ = 1 from by kernel_rfl] at h1
  obtain ⟨a1, r1, k1⟩ := (opens_int Tryd.underlying3) _ _ _ h1
  refine ⟨(a0, a1), ?_, k0, k1⟩
  exact (rdl_field (off := 0) (n := 1) r0 (rdl_field (off := 1) (n := 1) r1 (rdl_end hl)))
def ok26 (x : List Y65) : Prop := x.length ≤ maxLen ∧ ∀ a ∈ x, ok82 a
theorem op26 : Opens enc Tryd.prog w base spare held 26 c26_d ok26 := opens_sl Tryd.underlying26 (by kernel_rfl) (Nat.le_of_ble_eq_true rfl) zc82_ op82
def ok28 (x : Y27) : Prop := ok23 x.1 ∧ ok26 x.2.1 ∧ ok23 x.2.2.1 ∧ InI x.2.2.2.1 ∧ InI x.2.2.2.2
theorem op28 : Opens enc Tryd.prog w base spare held 28 c28_ddd ok28 := by
  intro fuel cs x h
  have hl : cs.length = 5 := (st_len Tryd.underlying28 h).trans (by kernel_rfl)
  obtain ⟨y0, n0, h0⟩ := st_field Tryd.underlying28 h (j := 0) rfl
  rw [show Tryd.prog.cellsOf _ = 1 from by kernel_rfl] at h0
  obtain ⟨a0, r0, k0⟩ := op23 _ _ _ h0
  obtain ⟨y1, n1, h1⟩ := st_field Tryd.underlying28 h (j := 1) rfl
  rw [show Tryd.prog.cellsOf _ = 1 from by kernel_rfl] at h1
  obtain ⟨a1, r1, k1⟩ := op26 _ _ _ h1
  obtain ⟨y2, n2, h2⟩ := st_field Tryd.underlying28 h (j := 2) rfl
  rw [show Tryd.prog.cellsOf _ = 1 from by kernel_rfl] at h2
  obtain ⟨a2, r2, k2⟩ := op23 _ _ _ h2
  obtain ⟨y3, n3, h3⟩ := st_field Tryd.underlying28 h (j := 3) rfl
  rw [show Tryd.prog.cellsOf _ = 1 from by kernel_rfl] at h3
  obtain ⟨a3, r3, k3⟩ := (opens_int Tryd.underlying3) _ _ _ h3
  obtain ⟨y4, n4, h4⟩ := st_field Tryd.underlying28 h (j := 4) rfl
  rw [show Tryd.prog.cellsOf _ = 1 from by kernel_rfl] at h4
  obtain ⟨a4, r4, k4⟩ := (opens_int Tryd.underlying3) _ _ _ h4
  refine ⟨(a0, a1, a2, a3, a4), ?_, k0, k1, k2, k3, k4⟩
  exact (rdl_field (off := 0) (n := 1) r0 (rdl_field (off := 1) (n := 1) r1 (rdl_field (off := 2) (n := 1) r2 (rdl_field (off := 3) (n := 1) r3 (rdl_field (off := 4) (n := 1) r4 (rdl_end hl))))))
end
end Go.Proofs.YtkclaipnejgloaaDoor
