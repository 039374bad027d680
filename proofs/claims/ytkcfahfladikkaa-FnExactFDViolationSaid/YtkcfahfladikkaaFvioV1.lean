/-
  FDViolation: the reference and the program give the same, and how much. No conditions.
-/
import Derived.Test.YtkcfahfladikkaaHpV1
import Derived.Test.YtkcfahfladikkaaFhV1
import Derived.Test.YtkcfahfladikkaaSmV1
-- pure
namespace Go.Proofs.Ytkcfahfladikkaa
open Go.RowKit
set_option linter.unusedVariables false
theorem s_viol0 {d : List Tbl} {f : List UInt8 × List Int × Int} (h : smDb d) (hl : f.2.1.length ≤ lim) (hf : fdB d f = false) : spec_FDViolation d f = some [] := by
  unfold spec_FDViolation
  simp only [s_look h, obind]
  have : loopF (spec_FDViolation_B1 d f (lookB d f.1)) fz 0 = some (.inl ()) := loop_to (body := spec_FDViolation_B1 d f (lookB d f.1)) (fun _ => 0) 0 (fun k hk => absurd hk (by omega)) (fun rec => by
    unfold spec_FDViolation_B1
    rw [s_fd h hl, hf]
    cases decide ((0 : Int) < ((lookB d f.1).1.2.length : Int)) <;> rfl) fz (by unfold fz; omega)
  rw [this]
theorem viol_len (rows : List (List Int)) (fr : List Int) (to : Int) : (violB rows fr to).length ≤ 2 := by
  unfold violB
  cases h : (List.range rows.length).findSome? fun k => (List.range k).findSome? fun i => if clashB rows fr to k i = true then some [(i : Int), (k : Int)] else none with
  | none => simp
  | some x =>
    obtain ⟨k, _, h⟩ := List.exists_of_findSome?_eq_some h
    obtain ⟨i, _, h⟩ := List.exists_of_findSome?_eq_some h
    split at h
    · cases h; simp
    · cases h
theorem pure_FDViolation {d : List Tbl} {f : List UInt8 × List Int × Int} (s0 : sm_Database d) (s1 : sm_FunctionalDependency f) (k0 : ok24 d) (k1 : ok27 f) : ∃ r, spec_FDViolation d f = some r ∧ impl_FDViolation d f = some r ∧ sm_IntS r := by
  have h := sm_db s0
  have hl := sm_lim s1.2
  cases hf : fdB d f with
  | true => exact ⟨_, s_viol h hl hf, i_viol h hl hf, Nat.le_trans (viol_len _ _ _) (by decide)⟩
  | false =>
    refine ⟨[], s_viol0 h hl hf, ?_, by show List.length _ ≤ _; simp⟩
    unfold impl_FDViolation
    simp only [i_fd h hl, hf, obind, Bool.not_false, cond_true]
end Go.Proofs.Ytkcfahfladikkaa
