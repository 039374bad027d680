/-
  How the laws' arguments read as the machine's data, printed by genlaw.py. No conditions.
-/
import Derived.Test.YtmioifafgbjjhaaKc
import Derived.Test.YtmioifafgbjjhaaGenAS1
namespace Go.Proofs.Ytmioifafgbjjhaa
open Go.RowKit Go.ChangeShapes Go.WideShapes Go.Deep
set_option linter.unusedVariables false
set_option maxRecDepth 100000
section
variable {H : Type} {enc : TypeId × Value → H} {w : World} {base : Nat} {spare : Nat → Bool} {held : Bool}
def ok31 (x : List Int) : Prop := x.length ≤ maxLen ∧ ∀ a ∈ x, InI a
theorem op31 : Opens enc Try.prog w base spare held 31 c31_d ok31 := opens_sl Try.underlying31 (by kernel_rfl) (Nat.le_of_ble_eq_true rfl) zci64 (opens_int Try.underlying3)
def ok24 (x : List (List Int)) : Prop := x.length ≤ maxLen ∧ ∀ a ∈ x, ok31 a
theorem op24 : Opens enc Try.prog w base spare held 24 c24_dd ok24 := opens_sl Try.underlying24 (by kernel_rfl) (Nat.le_of_ble_eq_true rfl) zc31_d op31
def ok95 (x : Y25) : Prop := InI x.1 ∧ ok24 x.2
theorem op95 : Opens enc Try.prog w base spare held 95 c95_dd ok95 := by
  intro fuel cs x h
  have hl : cs.length = 2 := (st_len Try.underlying95 h).trans (by kernel_rfl)
  obtain ⟨y0, n0, h0⟩ := st_field Try.underlying95 h (j := 0) rfl
  rw [show Try.prog.cellsOf _ = 1 from by kernel_rfl] at h0
  obtain ⟨a0, r0, k0⟩ := (opens_int Try.underlying3) _ _ _ h0
  obtain ⟨y1, n1, h1⟩ := st_field Try.underlying95 h (j := 1) rfl
  rw [show Try.prog.cellsOf _ = 1 from by kernel_rfl] at h1
  obtain ⟨a1, r1, k1⟩ := op24 _ _ _ h1
  refine ⟨(a0, a1), ?_, k0, k1⟩
  exact (rdl_field (off := 0) (n := 1) r0 (rdl_field (off := 1) (n := 1) r1 (rdl_end hl)))
def ok263 (x : Y262) : Prop := List.length x.1 ≤ maxLen ∧ ok95 x.2
theorem op263 : Opens enc Try.prog w base spare held 263 c263_dd ok263 := by
  intro fuel cs x h
  have hl : cs.length = 3 := (st_len Try.underlying263 h).trans (by kernel_rfl)
  obtain ⟨y0, n0, h0⟩ := st_field Try.underlying263 h (j := 0) rfl
  rw [show Try.prog.cellsOf _ = 1 from by kernel_rfl] at h0
  obtain ⟨a0, r0, k0⟩ := (opens_str Try.underlying9) _ _ _ h0
  obtain ⟨y1, n1, h1⟩ := st_field Try.underlying263 h (j := 1) rfl
  rw [show Try.prog.cellsOf _ = 2 from by kernel_rfl] at h1
  obtain ⟨a1, r1, k1⟩ := op95 _ _ _ h1
  refine ⟨(a0, a1), ?_, k0, k1⟩
  exact (rdl_field (off := 0) (n := 1) r0 (rdl_field (off := 1) (n := 2) r1 (rdl_end hl)))
def ok220 (x : List Y262) : Prop := x.length ≤ maxLen ∧ ∀ a ∈ x, ok263 a
theorem op220 : Opens enc Try.prog w base spare held 220 c220_ddd ok220 := opens_sl Try.underlying220 (by kernel_rfl) (Nat.le_of_ble_eq_true rfl) zc263_dd op263
def ok222 (x : List Y262) : Prop := ok220 x
theorem op222 : Opens enc Try.prog w base spare held 222 c222_ddd ok222 := by
  intro fuel cs x h
  have hl : cs.length = 1 := (st_len Try.underlying222 h).trans (by kernel_rfl)
  obtain ⟨y0, n0, h0⟩ := st_field Try.underlying222 h (j := 0) rfl
  rw [show Try.prog.cellsOf _ = 1 from by kernel_rfl] at h0
  obtain ⟨a0, r0, k0⟩ := op220 _ _ _ h0
  refine ⟨a0, ?_, k0⟩
  exact (rdl_field (off := 0) (n := 1) r0 (rdl_end hl))
def ok81 (x : List (List Y262)) : Prop := x.length ≤ maxLen ∧ ∀ a ∈ x, ok222 a
theorem op81 : Opens enc Try.prog w base spare held 81 c81_dddd ok81 := opens_sl Try.underlying81 (by kernel_rfl) (Nat.le_of_ble_eq_true rfl) zc222_ddd op222
def ok83 (x : Y82) : Prop := InI x.1 ∧ ok81 x.2
theorem op83 : Opens enc Try.prog w base spare held 83 c83_dddd ok83 := by
  intro fuel cs x h
  have hl : cs.length = 2 := (st_len Try.underlying83 h).trans (by kernel_rfl)
  obtain ⟨y0, n0, h0⟩ := st_field Try.underlying83 h (j := 0) rfl
  rw [show Try.prog.cellsOf _ = 1 from by kernel_rfl] at h0
  obtain ⟨a0, r0, k0⟩ := (opens_int Try.underlying3) _ _ _ h0
  obtain ⟨y1, n1, h1⟩ := st_field Try.underlying83 h (j := 1) rfl
  rw [show Try.prog.cellsOf _ = 1 from by kernel_rfl] at h1
  obtain ⟨a1, r1, k1⟩ := op81 _ _ _ h1
  refine ⟨(a0, a1), ?_, k0, k1⟩
  exact (rdl_field (off := 0) (n := 1) r0 (rdl_field (off := 1) (n := 1) r1 (rdl_end hl)))
def ok97 (x : Y96) : Prop := List.length x.1 ≤ maxLen ∧ ok95 x.2.1 ∧ ok95 x.2.2
theorem op97 : Opens enc Try.prog w base spare held 97 c97_dddd ok97 := by
  intro fuel cs x h
  have hl : cs.length = 5 := (st_len Try.underlying97 h).trans (by kernel_rfl)
  obtain ⟨y0, n0, h0⟩ := st_field Try.underlying97 h (j := 0) rfl
  rw [show Try.prog.cellsOf _ = 1 from by kernel_rfl] at h0
  obtain ⟨a0, r0, k0⟩ := (opens_str Try.underlying9) _ _ _ h0
  obtain ⟨y1, n1, h1⟩ := st_field Try.underlying97 h (j := 1) rfl
  rw [show Try.prog.cellsOf _ = 2 from by kernel_rfl] at h1
  obtain ⟨a1, r1, k1⟩ := op95 _ _ _ h1
  obtain ⟨y2, n2, h2⟩ := st_field Try.underlying97 h (j := 2) rfl
  rw [show Try.prog.cellsOf _ = 2 from by kernel_rfl] at h2
  obtain ⟨a2, r2, k2⟩ := op95 _ _ _ h2
  refine ⟨(a0, a1, a2), ?_, k0, k1, k2⟩
  exact (rdl_field (off := 0) (n := 1) r0 (rdl_field (off := 1) (n := 2) r1 (rdl_field (off := 3) (n := 2) r2 (rdl_end hl))))
end
end Go.Proofs.Ytmioifafgbjjhaa
