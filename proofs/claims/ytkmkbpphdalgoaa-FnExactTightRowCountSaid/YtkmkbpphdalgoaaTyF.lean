/-
  How the laws' arguments read as the machine's data, printed by genlaw.py. No conditions.
-/
import Derived.Test.YtkmkbpphdalgoaaTyH
import Derived.Test.YtkmkbpphdalgoaaGF
namespace Go.Proofs.Ytkmkbpphdalgoaa
open Go.RowKit Go.ChangeShapes Go.WideShapes Go.Deep
set_option linter.unusedVariables false
set_option maxRecDepth 100000
def c83_d (x : (List UInt8) × (List Int) × Int) : List V := [.str x.1, .dat x.2.1.length (x.2.1.flatMap ci64), .int .i64 x.2.2]
theorem zc83_d (x : (List UInt8) × (List Int) × Int) : (c83_d x).length = 3 := rfl
theorem ec83_d (x : (List UInt8) × (List Int) × Int) : erL (c83_d x) = c83_d x := (erc rfl (erc (erD eci64 _) (erc rfl rfl)))
section
variable {H : Type} {enc : TypeId × Value → H} {w : World} {base : Nat} {spare : Nat → Bool} {held : Bool}
def ok83 (x : (List UInt8) × (List Int) × Int) : Prop := List.length x.1 ≤ maxLen ∧ ok30 x.2.1 ∧ InI x.2.2
theorem op83 : Opens enc Try.prog w base spare held 83 c83_d ok83 := by
  intro fuel cs x h
  have hl : cs.length = 3 := (st_len Try.underlying83 h).trans (by kernel_rfl)
  obtain ⟨y0, n0, h0⟩ := st_field Try.underlying83 h (j := 0) rfl
  rw [show Try.prog.cellsOf _ = 1 from by kernel_rfl] at h0
  obtain ⟨a0, r0, k0⟩ := (opens_str Try.underlying9) _ _ _ h0
  obtain ⟨y1, n1, h1⟩ := st_field Try.underlying83 h (j := 1) rfl
  rw [show Try.prog.cellsOf _ = 1 from by kernel_rfl] at h1
  obtain ⟨a1, r1, k1⟩ := op30 _ _ _ h1
  obtain ⟨y2, n2, h2⟩ := st_field Try.underlying83 h (j := 2) rfl
  rw [show Try.prog.cellsOf _ = 1 from by kernel_rfl] at h2
  obtain ⟨a2, r2, k2⟩ := (opens_int Try.underlying3) _ _ _ h2
  refine ⟨(a0, a1, a2), ?_, k0, k1, k2⟩
  exact (rdl_field (off := 0) (n := 1) r0 (rdl_field (off := 1) (n := 1) r1 (rdl_field (off := 2) (n := 1) r2 (rdl_end hl))))
end
end Go.Proofs.Ytkmkbpphdalgoaa
