/-
  How the laws' arguments read as the machine's data, printed by genlaw.py. No conditions.
-/
import Derived.Test.YtkcfahfladikkaaKc
import Derived.Test.YtkcfahfladikkaaGenX1
namespace Go.Proofs.Ytkcfahfladikkaa
open Go.RowKit Go.ChangeShapes Go.WideShapes Go.Deep
set_option linter.unusedVariables false
set_option maxRecDepth 100000
def c77_dd (x : List Y194) : List V := [dL c231_d x]
theorem zc77_dd (x : List Y194) : (c77_dd x).length = 1 := rfl
theorem ec77_dd (x : List Y194) : erL (c77_dd x) = c77_dd x := (erc (erD ec231_d _) rfl)
def c81_d (x : List Int) : List V := [dL ci64 x]
theorem zc81_d (x : List Int) : (c81_d x).length = 1 := rfl
theorem ec81_d (x : List Int) : erL (c81_d x) = c81_d x := (erc (erD eci64 _) rfl)
def c82_dd (x : List (List Int)) : List V := [dL c25_d x]
theorem zc82_dd (x : List (List Int)) : (c82_dd x).length = 1 := rfl
theorem ec82_dd (x : List (List Int)) : erL (c82_dd x) = c82_dd x := (erc (erD ec25_d _) rfl)
section
variable {H : Type} {enc : TypeId × Value → H} {w : World} {base : Nat} {spare : Nat → Bool} {held : Bool}
def ok25 (x : List Int) : Prop := x.length ≤ maxLen ∧ ∀ a ∈ x, InI a
theorem op25 : Opens enc Try.prog w base spare held 25 c25_d ok25 := opens_sl Try.underlying25 (by kernel_rfl) (Nat.le_of_ble_eq_true rfl) zci64 (opens_int Try.underlying3)
def ok231 (x : Y194) : Prop := List.length x.1 ≤ maxLen ∧ ok25 x.2
theorem op231 : Opens enc Try.prog w base spare held 231 c231_d ok231 := by
  intro fuel cs x h
  have hl : cs.length = 2 := (st_len Try.underlying231 h).trans (by kernel_rfl)
  obtain ⟨y0, n0, h0⟩ := st_field Try.underlying231 h (j := 0) rfl
  rw [show Try.prog.cellsOf _ = 1 from by kernel_rfl] at h0
  obtain ⟨a0, r0, k0⟩ := (opens_str Try.underlying9) _ _ _ h0
  obtain ⟨y1, n1, h1⟩ := st_field Try.underlying231 h (j := 1) rfl
  rw [show Try.prog.cellsOf _ = 1 from by kernel_rfl] at h1
  obtain ⟨a1, r1, k1⟩ := op25 _ _ _ h1
  refine ⟨(a0, a1), ?_, k0, k1⟩
  exact (rdl_field (off := 0) (n := 1) r0 (rdl_field (off := 1) (n := 1) r1 (rdl_end hl)))
def ok77 (x : List Y194) : Prop := x.length ≤ maxLen ∧ ∀ a ∈ x, ok231 a
theorem op77 : Opens enc Try.prog w base spare held 77 c77_dd ok77 := opens_sl Try.underlying77 (by kernel_rfl) (Nat.le_of_ble_eq_true rfl) zc231_d op231
def ok79 (x : Y78) : Prop := InI x.1 ∧ ok77 x.2.1 ∧ ok25 x.2.2
theorem op79 : Opens enc Try.prog w base spare held 79 c79_ddd ok79 := by
  intro fuel cs x h
  have hl : cs.length = 3 := (st_len Try.underlying79 h).trans (by kernel_rfl)
  obtain ⟨y0, n0, h0⟩ := st_field Try.underlying79 h (j := 0) rfl
  rw [show Try.prog.cellsOf _ = 1 from by kernel_rfl] at h0
  obtain ⟨a0, r0, k0⟩ := (opens_int Try.underlying3) _ _ _ h0
  obtain ⟨y1, n1, h1⟩ := st_field Try.underlying79 h (j := 1) rfl
  rw [show Try.prog.cellsOf _ = 1 from by kernel_rfl] at h1
  obtain ⟨a1, r1, k1⟩ := op77 _ _ _ h1
  obtain ⟨y2, n2, h2⟩ := st_field Try.underlying79 h (j := 2) rfl
  rw [show Try.prog.cellsOf _ = 1 from by kernel_rfl] at h2
  obtain ⟨a2, r2, k2⟩ := op25 _ _ _ h2
  refine ⟨(a0, a1, a2), ?_, k0, k1, k2⟩
  exact (rdl_field (off := 0) (n := 1) r0 (rdl_field (off := 1) (n := 1) r1 (rdl_field (off := 2) (n := 1) r2 (rdl_end hl))))
def ok81 (x : List Int) : Prop := ok25 x
theorem op81 : Opens enc Try.prog w base spare held 81 c81_d ok81 := by
  intro fuel cs x h
  have hl : cs.length = 1 := (st_len Try.underlying81 h).trans (by kernel_rfl)
  obtain ⟨y0, n0, h0⟩ := st_field Try.underlying81 h (j := 0) rfl
  rw [show Try.prog.cellsOf _ = 1 from by kernel_rfl] at h0
  obtain ⟨a0, r0, k0⟩ := op25 _ _ _ h0
  refine ⟨a0, ?_, k0⟩
  exact (rdl_field (off := 0) (n := 1) r0 (rdl_end hl))
def ok82 (x : List (List Int)) : Prop := x.length ≤ maxLen ∧ ∀ a ∈ x, ok25 a
theorem op82 : Opens enc Try.prog w base spare held 82 c82_dd ok82 := opens_sl Try.underlying82 (by kernel_rfl) (Nat.le_of_ble_eq_true rfl) zc25_d op25
def ok84 (x : Y83) : Prop := ok82 x.1 ∧ ok25 x.2
theorem op84 : Opens enc Try.prog w base spare held 84 c84_ddd ok84 := by
  intro fuel cs x h
  have hl : cs.length = 2 := (st_len Try.underlying84 h).trans (by kernel_rfl)
  obtain ⟨y0, n0, h0⟩ := st_field Try.underlying84 h (j := 0) rfl
  rw [show Try.prog.cellsOf _ = 1 from by kernel_rfl] at h0
  obtain ⟨a0, r0, k0⟩ := op82 _ _ _ h0
  obtain ⟨y1, n1, h1⟩ := st_field Try.underlying84 h (j := 1) rfl
  rw [show Try.prog.cellsOf _ = 1 from by kernel_rfl] at h1
  obtain ⟨a1, r1, k1⟩ := op25 _ _ _ h1
  refine ⟨(a0, a1), ?_, k0, k1⟩
  exact (rdl_field (off := 0) (n := 1) r0 (rdl_field (off := 1) (n := 1) r1 (rdl_end hl)))
def ok86 (x : Y85) : Prop := InI x.1 ∧ ok25 x.2.1 ∧ ok81 x.2.2.1 ∧ ok84 x.2.2.2
theorem op86 : Opens enc Try.prog w base spare held 86 c86_ddddd ok86 := by
  intro fuel cs x h
  have hl : cs.length = 5 := (st_len Try.underlying86 h).trans (by kernel_rfl)
  obtain ⟨y0, n0, h0⟩ := st_field Try.underlying86 h (j := 0) rfl
  rw [show Try.prog.cellsOf _ = 1 from by kernel_rfl] at h0
  obtain ⟨a0, r0, k0⟩ := (opens_int Try.underlying3) _ _ _ h0
  obtain ⟨y1, n1, h1⟩ := st_field Try.underlying86 h (j := 1) rfl
  rw [show Try.prog.cellsOf _ = 1 from by kernel_rfl] at h1
  obtain ⟨a1, r1, k1⟩ := op25 _ _ _ h1
  obtain ⟨y2, n2, h2⟩ := st_field Try.underlying86 h (j := 2) rfl
  rw [show Try.prog.cellsOf _ = 1 from by kernel_rfl] at h2
  obtain ⟨a2, r2, k2⟩ := op81 _ _ _ h2
  obtain ⟨y3, n3, h3⟩ := st_field Try.underlying86 h (j := 3) rfl
  rw [show Try.prog.cellsOf _ = 2 from by kernel_rfl] at h3
  obtain ⟨a3, r3, k3⟩ := op84 _ _ _ h3
  refine ⟨(a0, a1, a2, a3), ?_, k0, k1, k2, k3⟩
  exact (rdl_field (off := 0) (n := 1) r0 (rdl_field (off := 1) (n := 1) r1 (rdl_field (off := 2) (n := 1) r2 (rdl_field (off := 3) (n := 2) r3 (rdl_end hl)))))
end
end Go.Proofs.Ytkcfahfladikkaa
