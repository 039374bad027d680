/-
  How the laws' arguments read as the machine's data, printed by genlaw.py. No conditions.
-/
import Derived.Test.YtceghmdneadhbaaGreatKc
import Derived.Test.YtceghmdneadhbaaGreatGenAW1
namespace Go.Proofs.YtceghmdneadhbaaGreat
open Go.RowKit Go.ChangeShapes Go.WideShapes Go.Deep
set_option linter.unusedVariables false
set_option maxRecDepth 100000
section
variable {H : Type} {enc : TypeId × Value → H} {w : World} {base : Nat} {spare : Nat → Bool} {held : Bool}
def ok53 (x : List Int) : Prop := x.length ≤ maxLen ∧ ∀ a ∈ x, InI a
theorem op53 : Opens enc Tryz.prog w base spare held 53 c53_d ok53 := opens_sl Tryz.underlying53 (by kernel_rfl) (Nat.le_of_ble_eq_true rfl) zci64 (opens_int Tryz.underlying3)
def ok41 (x : List (List Int)) : Prop := x.length ≤ maxLen ∧ ∀ a ∈ x, ok53 a
theorem op41 : Opens enc Tryz.prog w base spare held 41 c41_dd ok41 := opens_sl Tryz.underlying41 (by kernel_rfl) (Nat.le_of_ble_eq_true rfl) zc53_d op53
def ok166 (x : Y42) : Prop := InI x.1 ∧ ok41 x.2
theorem op166 : Opens enc Tryz.prog w base spare held 166 c166_dd ok166 := by
  intro fuel cs x h
  have hl : cs.length = 2 := (st_len Tryz.underlying166 h).trans (by kernel_rfl)
  obtain ⟨y0, n0, h0⟩ := st_field Tryz.underlying166 h (j := 0) rfl
  rw [show Tryz.prog.cellsOf _ = 1 from by kernel_rfl] at h0
  obtain ⟨a0, r0, k0⟩ := (opens_int Tryz.underlying3) _ _ _ h0
  obtain ⟨y1, n1, h1⟩ := st_field Tryz.underlying166 h (j := 1) rfl
  rw [show Tryz.prog.cellsOf _ = 1 from by kernel_rfl] at h1
  obtain ⟨a1, r1, k1⟩ := op41 _ _ _ h1
  refine ⟨(a0, a1), ?_, k0, k1⟩
  exact (rdl_field (off := 0) (n := 1) r0 (rdl_field (off := 1) (n := 1) r1 (rdl_end hl)))
def ok168 (x : Y167) : Prop := List.length x.1 ≤ maxLen ∧ ok166 x.2
theorem op168 : Opens enc Tryz.prog w base spare held 168 c168_dd ok168 := by
  intro fuel cs x h
  have hl : cs.length = 3 := (st_len Tryz.underlying168 h).trans (by kernel_rfl)
  obtain ⟨y0, n0, h0⟩ := st_field Tryz.underlying168 h (j := 0) rfl
  rw [show Tryz.prog.cellsOf _ = 1 from by kernel_rfl] at h0
  obtain ⟨a0, r0, k0⟩ := (opens_str Tryz.underlying9) _ _ _ h0
  obtain ⟨y1, n1, h1⟩ := st_field Tryz.underlying168 h (j := 1) rfl
  rw [show Tryz.prog.cellsOf _ = 2 from by kernel_rfl] at h1
  obtain ⟨a1, r1, k1⟩ := op166 _ _ _ h1
  refine ⟨(a0, a1), ?_, k0, k1⟩
  exact (rdl_field (off := 0) (n := 1) r0 (rdl_field (off := 1) (n := 2) r1 (rdl_end hl)))
def ok22 (x : List Y167) : Prop := x.length ≤ maxLen ∧ ∀ a ∈ x, ok168 a
theorem op22 : Opens enc Tryz.prog w base spare held 22 c22_ddd ok22 := opens_sl Tryz.underlying22 (by kernel_rfl) (Nat.le_of_ble_eq_true rfl) zc168_dd op168
def ok24 (x : List Y167) : Prop := ok22 x
theorem op24 : Opens enc Tryz.prog w base spare held 24 c24_ddd ok24 := by
  intro fuel cs x h
  have hl : cs.length = 1 := (st_len Tryz.underlying24 h).trans (by kernel_rfl)
  obtain ⟨y0, n0, h0⟩ := st_field Tryz.underlying24 h (j := 0) rfl
  rw [show Tryz.prog.cellsOf _ = 1 from by kernel_rfl] at h0
  obtain ⟨a0, r0, k0⟩ := op22 _ _ _ h0
  refine ⟨a0, ?_, k0⟩
  exact (rdl_field (off := 0) (n := 1) r0 (rdl_end hl))
def ok161 (x : Y147) : Prop := List.length x.1 ≤ maxLen ∧ ok53 x.2
theorem op161 : Opens enc Tryz.prog w base spare held 161 c161_d ok161 := by
  intro fuel cs x h
  have hl : cs.length = 2 := (st_len Tryz.underlying161 h).trans (by kernel_rfl)
  obtain ⟨y0, n0, h0⟩ := st_field Tryz.underlying161 h (j := 0) rfl
  rw [show Tryz.prog.cellsOf _ = 1 from by kernel_rfl] at h0
  obtain ⟨a0, r0, k0⟩ := (opens_str Tryz.underlying9) _ _ _ h0
  obtain ⟨y1, n1, h1⟩ := st_field Tryz.underlying161 h (j := 1) rfl
  rw [show Tryz.prog.cellsOf _ = 1 from by kernel_rfl] at h1
  obtain ⟨a1, r1, k1⟩ := op53 _ _ _ h1
  refine ⟨(a0, a1), ?_, k0, k1⟩
  exact (rdl_field (off := 0) (n := 1) r0 (rdl_field (off := 1) (n := 1) r1 (rdl_end hl)))
def ok62 (x : List Y147) : Prop := x.length ≤ maxLen ∧ ∀ a ∈ x, ok161 a
theorem op62 : Opens enc Tryz.prog w base spare held 62 c62_dd ok62 := opens_sl Tryz.underlying62 (by kernel_rfl) (Nat.le_of_ble_eq_true rfl) zc161_d op161
def ok64 (x : Y63) : Prop := InI x.1 ∧ ok62 x.2.1 ∧ ok53 x.2.2
theorem op64 : Opens enc Tryz.prog w base spare held 64 c64_ddd ok64 := by
  intro fuel cs x h
  have hl : cs.length = 3 := (st_len Tryz.underlying64 h).trans (by kernel_rfl)
  obtain ⟨y0, n0, h0⟩ := st_field Tryz.underlying64 h (j := 0) rfl
  rw [show Tryz.prog.cellsOf _ = 1 from by kernel_rfl] at h0
  obtain ⟨a0, r0, k0⟩ := (opens_int Tryz.underlying3) _ _ _ h0
  obtain ⟨y1, n1, h1⟩ := st_field Tryz.underlying64 h (j := 1) rfl
  rw [show Tryz.prog.cellsOf _ = 1 from by kernel_rfl] at h1
  obtain ⟨a1, r1, k1⟩ := op62 _ _ _ h1
  obtain ⟨y2, n2, h2⟩ := st_field Tryz.underlying64 h (j := 2) rfl
  rw [show Tryz.prog.cellsOf _ = 1 from by kernel_rfl] at h2
  obtain ⟨a2, r2, k2⟩ := op53 _ _ _ h2
  refine ⟨(a0, a1, a2), ?_, k0, k1, k2⟩
  exact (rdl_field (off := 0) (n := 1) r0 (rdl_field (off := 1) (n := 1) r1 (rdl_field (off := 2) (n := 1) r2 (rdl_end hl))))
def ok115 (x : Y75) : Prop := InI x.1 ∧ ok41 x.2.1 ∧ ok53 x.2.2
theorem op115 : Opens enc Tryz.prog w base spare held 115 c115_ddd ok115 := by
  intro fuel cs x h
  have hl : cs.length = 3 := (st_len Tryz.underlying115 h).trans (by kernel_rfl)
  obtain ⟨y0, n0, h0⟩ := st_field Tryz.underlying115 h (j := 0) rfl
  rw [show Tryz.prog.cellsOf _ = 1 from by kernel_rfl] at h0
  obtain ⟨a0, r0, k0⟩ := (opens_int Tryz.underlying3) _ _ _ h0
  obtain ⟨y1, n1, h1⟩ := st_field Tryz.underlying115 h (j := 1) rfl
  rw [show Tryz.prog.cellsOf _ = 1 from by kernel_rfl] at h1
  obtain ⟨a1, r1, k1⟩ := op41 _ _ _ h1
  obtain ⟨y2, n2, h2⟩ := st_field Tryz.underlying115 h (j := 2) rfl
  rw [show Tryz.prog.cellsOf _ = 1 from by kernel_rfl] at h2
  obtain ⟨a2, r2, k2⟩ := op53 _ _ _ h2
  refine ⟨(a0, a1, a2), ?_, k0, k1, k2⟩
  exact (rdl_field (off := 0) (n := 1) r0 (rdl_field (off := 1) (n := 1) r1 (rdl_field (off := 2) (n := 1) r2 (rdl_end hl))))
def ok117 (x : Y116) : Prop := ok64 x.1 ∧ ok115 x.2
theorem op117 : Opens enc Tryz.prog w base spare held 117 c117_dddddd ok117 := by
  intro fuel cs x h
  have hl : cs.length = 6 := (st_len Tryz.underlying117 h).trans (by kernel_rfl)
  obtain ⟨y0, n0, h0⟩ := st_field Tryz.underlying117 h (j := 0) rfl
  rw [show Tryz.prog.cellsOf _ = 3 from by kernel_rfl] at h0
  obtain ⟨a0, r0, k0⟩ := op64 _ _ _ h0
  obtain ⟨y1, n1, h1⟩ := st_field Tryz.underlying117 h (j := 1) rfl
  rw [show Tryz.prog.cellsOf _ = 3 from by kernel_rfl] at h1
  obtain ⟨a1, r1, k1⟩ := op115 _ _ _ h1
  refine ⟨(a0, a1), ?_, k0, k1⟩
  exact (rdl_field (off := 0) (n := 3) r0 (rdl_field (off := 3) (n := 3) r1 (rdl_end hl)))
def ok25 (x : List Y116) : Prop := x.length ≤ maxLen ∧ ∀ a ∈ x, ok117 a
theorem op25 : Opens enc Tryz.prog w base spare held 25 c25_ddddddd ok25 := opens_sl Tryz.underlying25 (by kernel_rfl) (Nat.le_of_ble_eq_true rfl) zc117_dddddd op117
def ok26 (x : List Y75) : Prop := x.length ≤ maxLen ∧ ∀ a ∈ x, ok115 a
theorem op26 : Opens enc Tryz.prog w base spare held 26 c26_dddd ok26 := opens_sl Tryz.underlying26 (by kernel_rfl) (Nat.le_of_ble_eq_true rfl) zc115_ddd op115
def ok28 (x : Y27) : Prop := ok24 x.1 ∧ ok25 x.2.1 ∧ ok26 x.2.2
theorem op28 : Opens enc Tryz.prog w base spare held 28 c28_dddddddddddddd ok28 := by
  intro fuel cs x h
  have hl : cs.length = 3 := (st_len Tryz.underlying28 h).trans (by kernel_rfl)
  obtain ⟨y0, n0, h0⟩ := st_field Tryz.underlying28 h (j := 0) rfl
  rw [show Tryz.prog.cellsOf _ = 1 from by kernel_rfl] at h0
  obtain ⟨a0, r0, k0⟩ := op24 _ _ _ h0
  obtain ⟨y1, n1, h1⟩ := st_field Tryz.underlying28 h (j := 1) rfl
  rw [show Tryz.prog.cellsOf _ = 1 from by kernel_rfl] at h1
  obtain ⟨a1, r1, k1⟩ := op25 _ _ _ h1
  obtain ⟨y2, n2, h2⟩ := st_field Tryz.underlying28 h (j := 2) rfl
  rw [show Tryz.prog.cellsOf _ = 1 from by kernel_rfl] at h2
  obtain ⟨a2, r2, k2⟩ := op26 _ _ _ h2
  refine ⟨(a0, a1, a2), ?_, k0, k1, k2⟩
  exact (rdl_field (off := 0) (n := 1) r0 (rdl_field (off := 1) (n := 1) r1 (rdl_field (off := 2) (n := 1) r2 (rdl_end hl))))
end
end Go.Proofs.YtceghmdneadhbaaGreat
