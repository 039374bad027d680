/-
  How the laws' arguments read as the machine's data, printed by genlaw.py. No conditions.
-/
import Derived.Test.YtkcfahfladikkaaKc
import Derived.Test.YtkcfahfladikkaaGenF1
namespace Go.Proofs.Ytkcfahfladikkaa
open Go.RowKit Go.ChangeShapes Go.WideShapes Go.Deep
set_option linter.unusedVariables false
set_option maxRecDepth 100000
def c82_dd (x : List (List Int)) : List V := [dL c25_d x]
theorem zc82_dd (x : List (List Int)) : (c82_dd x).length = 1 := rfl
theorem ec82_dd (x : List (List Int)) : erL (c82_dd x) = c82_dd x := (erc (erD ec25_d _) rfl)
def c22_ddd (x : List Y205) : List V := [dL c206_dd x]
theorem zc22_ddd (x : List Y205) : (c22_ddd x).length = 1 := rfl
theorem ec22_ddd (x : List Y205) : erL (c22_ddd x) = c22_ddd x := (erc (erD ec206_dd _) rfl)
def c24_ddd (x : List Y205) : List V := [dL c206_dd x]
theorem zc24_ddd (x : List Y205) : (c24_ddd x).length = 1 := rfl
theorem ec24_ddd (x : List Y205) : erL (c24_ddd x) = c24_ddd x := (erc (erD ec206_dd _) rfl)
def c77_dd (x : List Y194) : List V := [dL c231_d x]
theorem zc77_dd (x : List Y194) : (c77_dd x).length = 1 := rfl
theorem ec77_dd (x : List Y194) : erL (c77_dd x) = c77_dd x := (erc (erD ec231_d _) rfl)
def c119_dd (x : List Y26) : List V := [dL c27_d x]
theorem zc119_dd (x : List Y26) : (c119_dd x).length = 1 := rfl
theorem ec119_dd (x : List Y26) : erL (c119_dd x) = c119_dd x := (erc (erD ec27_d _) rfl)
section
variable {H : Type} {enc : TypeId × Value → H} {w : World} {base : Nat} {spare : Nat → Bool} {held : Bool}
def ok25 (x : List Int) : Prop := x.length ≤ maxLen ∧ ∀ a ∈ x, InI a
theorem op25 : Opens enc Try.prog w base spare held 25 c25_d ok25 := opens_sl Try.underlying25 (by kernel_rfl) (Nat.le_of_ble_eq_true rfl) zci64 (opens_int Try.underlying3)
def ok82 (x : List (List Int)) : Prop := x.length ≤ maxLen ∧ ∀ a ∈ x, ok25 a
theorem op82 : Opens enc Try.prog w base spare held 82 c82_dd ok82 := opens_sl Try.underlying82 (by kernel_rfl) (Nat.le_of_ble_eq_true rfl) zc25_d op25
def ok204 (x : Y127) : Prop := InI x.1 ∧ ok82 x.2
theorem op204 : Opens enc Try.prog w base spare held 204 c204_dd ok204 := by
  intro fuel cs x h
  have hl : cs.length = 2 := (st_len Try.underlying204 h).trans (by kernel_rfl)
  obtain ⟨y0, n0, h0⟩ := st_field Try.underlying204 h (j := 0) rfl
  rw [show Try.prog.cellsOf _ = 1 from by kernel_rfl] at h0
  obtain ⟨a0, r0, k0⟩ := (opens_int Try.underlying3) _ _ _ h0
  obtain ⟨y1, n1, h1⟩ := st_field Try.underlying204 h (j := 1) rfl
  rw [show Try.prog.cellsOf _ = 1 from by kernel_rfl] at h1
  obtain ⟨a1, r1, k1⟩ := op82 _ _ _ h1
  refine ⟨(a0, a1), ?_, k0, k1⟩
  exact (rdl_field (off := 0) (n := 1) r0 (rdl_field (off := 1) (n := 1) r1 (rdl_end hl)))
def ok206 (x : Y205) : Prop := List.length x.1 ≤ maxLen ∧ ok204 x.2
theorem op206 : Opens enc Try.prog w base spare held 206 c206_dd ok206 := by
  intro fuel cs x h
  have hl : cs.length = 3 := (st_len Try.underlying206 h).trans (by kernel_rfl)
  obtain ⟨y0, n0, h0⟩ := st_field Try.underlying206 h (j := 0) rfl
  rw [show Try.prog.cellsOf _ = 1 from by kernel_rfl] at h0
  obtain ⟨a0, r0, k0⟩ := (opens_str Try.underlying9) _ _ _ h0
  obtain ⟨y1, n1, h1⟩ := st_field Try.underlying206 h (j := 1) rfl
  rw [show Try.prog.cellsOf _ = 2 from by kernel_rfl] at h1
  obtain ⟨a1, r1, k1⟩ := op204 _ _ _ h1
  refine ⟨(a0, a1), ?_, k0, k1⟩
  exact (rdl_field (off := 0) (n := 1) r0 (rdl_field (off := 1) (n := 2) r1 (rdl_end hl)))
def ok22 (x : List Y205) : Prop := x.length ≤ maxLen ∧ ∀ a ∈ x, ok206 a
theorem op22 : Opens enc Try.prog w base spare held 22 c22_ddd ok22 := opens_sl Try.underlying22 (by kernel_rfl) (Nat.le_of_ble_eq_true rfl) zc206_dd op206
def ok24 (x : List Y205) : Prop := ok22 x
theorem op24 : Opens enc Try.prog w base spare held 24 c24_ddd ok24 := by
  intro fuel cs x h
  have hl : cs.length = 1 := (st_len Try.underlying24 h).trans (by kernel_rfl)
  obtain ⟨y0, n0, h0⟩ := st_field Try.underlying24 h (j := 0) rfl
  rw [show Try.prog.cellsOf _ = 1 from by kernel_rfl] at h0
  obtain ⟨a0, r0, k0⟩ := op22 _ _ _ h0
  refine ⟨a0, ?_, k0⟩
  exact (rdl_field (off := 0) (n := 1) r0 (rdl_end hl))
def ok231 (x : Y194) : Prop := List.length x.1 ≤ maxLen ∧ ok25 x.2
theorem op231 : Opens enc Try.prog w base spare held 231 c231_d ok231 := by
  intro fuel cs x h
  have hl : cs.length = 2 := (st_len Try.underlying231 h).trans (by kernel_rfl)
  obtain ⟨y0, n0, h0⟩ := st_field Try.underlying231 h (j := 0) rfl
  rw [show Try.prog.cellsOf _ = 1 from by kernel_rfl] at h0
  obtain ⟨a0, r0, k0⟩ := (opens_str Try.underlying9) _ _ _ h0
  obtain ⟨y1, n1, h1⟩ := st_field Try.underlying231 h (j := 1) rfl
  rw [show Try.prog.cellsOf _ = 1 from by kernel_rfl] at h1
  obtain ⟨a1, r1, k1⟩ := op25 _ _ _ h1
  refine ⟨(a0, a1), ?_, k0, k1⟩
  exact (rdl_field (off := 0) (n := 1) r0 (rdl_field (off := 1) (n := 1) r1 (rdl_end hl)))
def ok77 (x : List Y194) : Prop := x.length ≤ maxLen ∧ ∀ a ∈ x, ok231 a
theorem op77 : Opens enc Try.prog w base spare held 77 c77_dd ok77 := opens_sl Try.underlying77 (by kernel_rfl) (Nat.le_of_ble_eq_true rfl) zc231_d op231
def ok79 (x : Y78) : Prop := InI x.1 ∧ ok77 x.2.1 ∧ ok25 x.2.2
theorem op79 : Opens enc Try.prog w base spare held 79 c79_ddd ok79 := by
  intro fuel cs x h
  have hl : cs.length = 3 := (st_len Try.underlying79 h).trans (by kernel_rfl)
  obtain ⟨y0, n0, h0⟩ := st_field Try.underlying79 h (j := 0) rfl
  rw [show Try.prog.cellsOf _ = 1 from by kernel_rfl] at h0
  obtain ⟨a0, r0, k0⟩ := (opens_int Try.underlying3) _ _ _ h0
  obtain ⟨y1, n1, h1⟩ := st_field Try.underlying79 h (j := 1) rfl
  rw [show Try.prog.cellsOf _ = 1 from by kernel_rfl] at h1
  obtain ⟨a1, r1, k1⟩ := op77 _ _ _ h1
  obtain ⟨y2, n2, h2⟩ := st_field Try.underlying79 h (j := 2) rfl
  rw [show Try.prog.cellsOf _ = 1 from by kernel_rfl] at h2
  obtain ⟨a2, r2, k2⟩ := op25 _ _ _ h2
  refine ⟨(a0, a1, a2), ?_, k0, k1, k2⟩
  exact (rdl_field (off := 0) (n := 1) r0 (rdl_field (off := 1) (n := 1) r1 (rdl_field (off := 2) (n := 1) r2 (rdl_end hl))))
def ok27 (x : Y26) : Prop := List.length x.1 ≤ maxLen ∧ ok25 x.2.1 ∧ InI x.2.2
theorem op27 : Opens enc Try.prog w base spare held 27 c27_d ok27 := by
  intro fuel cs x h
  have hl : cs.length = 3 := (st_len Try.underlying27 h).trans (by kernel_rfl)
  obtain ⟨y0, n0, h0⟩ := st_field Try.underlying27 h (j := 0) rfl
  rw [show Try.prog.cellsOf _ = 1 from by kernel_rfl] at h0
  obtain ⟨a0, r0, k0⟩ := (opens_str Try.underlying9) _ _ _ h0
  obtain ⟨y1, n1, h1⟩ := st_field Try.underlying27 h (j := 1) rfl
  rw [show Try.prog.cellsOf _ = 1 from by kernel_rfl] at h1
  obtain ⟨a1, r1, k1⟩ := op25 _ _ _ h1
  obtain ⟨y2, n2, h2⟩ := st_field Try.underlying27 h (j := 2) rfl
  rw [show Try.prog.cellsOf _ = 1 from by kernel_rfl] at h2
  obtain ⟨a2, r2, k2⟩ := (opens_int Try.underlying3) _ _ _ h2
  refine ⟨(a0, a1, a2), ?_, k0, k1, k2⟩
  exact (rdl_field (off := 0) (n := 1) r0 (rdl_field (off := 1) (n := 1) r1 (rdl_field (off := 2) (n := 1) r2 (rdl_end hl))))
def ok119 (x : List Y26) : Prop := x.length ≤ maxLen ∧ ∀ a ∈ x, ok27 a
theorem op119 : Opens enc Try.prog w base spare held 119 c119_dd ok119 := opens_sl Try.underlying119 (by kernel_rfl) (Nat.le_of_ble_eq_true rfl) zc27_d op27
end
end Go.Proofs.Ytkcfahfladikkaa
