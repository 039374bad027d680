/-
  How the laws' arguments read as the machine's data, printed by genlaw.py. No conditions.
-/
import Derived.Test.YtkmkbpphdalgoaaBr
import Derived.Test.YtkmkbpphdalgoaaG1
namespace Go.Proofs.Ytkmkbpphdalgoaa
open Go.RowKit Go.ChangeShapes Go.WideShapes Go.Deep
set_option linter.unusedVariables false
set_option maxRecDepth 100000
def c30_d (x : List Int) : List V := [.dat x.length (x.flatMap ci64)]
theorem zc30_d (x : List Int) : (c30_d x).length = 1 := rfl
theorem ec30_d (x : List Int) : erL (c30_d x) = c30_d x := (erc (erD eci64 _) rfl)
def c31_d (x : List (Int × Int)) : List V := [.dat x.length (x.flatMap c165_)]
theorem zc31_d (x : List (Int × Int)) : (c31_d x).length = 1 := rfl
theorem ec31_d (x : List (Int × Int)) : erL (c31_d x) = c31_d x := (erc (erD ec165_ _) rfl)
def c33_ddd (x : (List Int) × (List (Int × Int)) × (List Int) × Int × Int) : List V := [.dat x.1.length (x.1.flatMap ci64), .dat x.2.1.length (x.2.1.flatMap c165_), .dat x.2.2.1.length (x.2.2.1.flatMap ci64), .int .i64 x.2.2.2.1, .int .i64 x.2.2.2.2]
theorem zc33_ddd (x : (List Int) × (List (Int × Int)) × (List Int) × Int × Int) : (c33_ddd x).length = 5 := rfl
theorem ec33_ddd (x : (List Int) × (List (Int × Int)) × (List Int) × Int × Int) : erL (c33_ddd x) = c33_ddd x := (erc (erD eci64 _) (erc (erD ec165_ _) (erc (erD eci64 _) (erc rfl (erc rfl rfl)))))
section
variable {H : Type} {enc : TypeId × Value → H} {w : World} {base : Nat} {spare : Nat → Bool} {held : Bool}
def ok30 (x : List Int) : Prop := x.length ≤ maxLen ∧ ∀ a ∈ x, InI a
theorem op30 : Opens enc Try.prog w base spare held 30 c30_d ok30 := opens_sl Try.underlying30 (by kernel_rfl) (Nat.le_of_ble_eq_true rfl) zci64 (opens_int Try.underlying3)
def ok165 (x : Int × Int) : Prop := InI x.1 ∧ InI x.2
theorem op165 : Opens enc Try.prog w base spare held 165 c165_ ok165 := by
  intro fuel cs x h
  have hl : cs.length = 2 := (st_len Try.underlying165 h).trans (by kernel_rfl)
  obtain ⟨y0, n0, h0⟩ := st_field Try.underlying165 h (j := 0) rfl
  rw [show Try.prog.cellsOf _ = 1 from by kernel_rfl] at h0
  obtain ⟨a0, r0, k0⟩ := (opens_int Try.underlying3) _ _ _ h0
  obtain ⟨y1, n1, h1⟩ := st_field Try.underlying165 h (j := 1) rfl
  rw [show Try.prog.cellsOf _ = 1 from by kernel_rfl] at h1
  obtain ⟨a1, r1, k1⟩ := (opens_int Try.underlying3) _ _ _ h1
  refine ⟨(a0, a1), ?_, k0, k1⟩
  exact (rdl_field (off := 0) (n := 1) r0 (rdl_field (off := 1) (n := 1) r1 (rdl_end hl)))
def ok31 (x : List (Int × Int)) : Prop := x.length ≤ maxLen ∧ ∀ a ∈ x, ok165 a
theorem op31 : Opens enc Try.prog w base spare held 31 c31_d ok31 := opens_sl Try.underlying31 (by kernel_rfl) (Nat.le_of_ble_eq_true rfl) zc165_ op165
def ok33 (x : (List Int) × (List (Int × Int)) × (List Int) × Int × Int) : Prop := ok30 x.1 ∧ ok31 x.2.1 ∧ ok30 x.2.2.1 ∧ InI x.2.2.2.1 ∧ InI x.2.2.2.2
theorem op33 : Opens enc Try.prog w base spare held 33 c33_ddd ok33 := by
  intro fuel cs x h
  have hl : cs.length = 5 := (st_len Try.underlying33 h).trans (by kernel_rfl)
  obtain ⟨y0, n0, h0⟩ := st_field Try.underlying33 h (j := 0) rfl
  rw [show Try.prog.cellsOf _ = 1 from by kernel_rfl] at h0
  obtain ⟨a0, r0, k0⟩ := op30 _ _ _ h0
  obtain ⟨y1, n1, h1⟩ := st_field Try.underlying33 h (j := 1) rfl
  rw [show Try.prog.cellsOf _ = 1 from by kernel_rfl] at h1
  obtain ⟨a1, r1, k1⟩ := op31 _ _ _ h1
  obtain ⟨y2, n2, h2⟩ := st_field Try.underlying33 h (j := 2) rfl
  rw [show Try.prog.cellsOf _ = 1 from by kernel_rfl] at h2
  obtain ⟨a2, r2, k2⟩ := op30 _ _ _ h2
  obtain ⟨y3, n3, h3⟩ := st_field Try.underlying33 h (j := 3) rfl
  rw [show Try.prog.cellsOf _ = 1 from by kernel_rfl] at h3
  obtain ⟨a3, r3, k3⟩ := (opens_int Try.underlying3) _ _ _ h3
  obtain ⟨y4, n4, h4⟩ := st_field Try.underlying33 h (j := 4) rfl
  rw [show Try.prog.cellsOf _ = 1 from by kernel_rfl] at h4
  obtain ⟨a4, r4, k4⟩ := (opens_int Try.underlying3) _ _ _ h4
  refine ⟨(a0, a1, a2, a3, a4), ?_, k0, k1, k2, k3, k4⟩
  exact (rdl_field (off := 0) (n := 1) r0 (rdl_field (off := 1) (n := 1) r1 (rdl_field (off := 2) (n := 1) r2 (rdl_field (off := 3) (n := 1) r3 (rdl_field (off := 4) (n := 1) r4 (rdl_end hl))))))
end
end Go.Proofs.Ytkmkbpphdalgoaa
