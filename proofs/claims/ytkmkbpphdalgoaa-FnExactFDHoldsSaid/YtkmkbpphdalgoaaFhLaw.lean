/-
  The law of FDHolds on typed functions. No conditions.
-/
import Derived.Test.YtkmkbpphdalgoaaHpF
import Derived.Test.YtkmkbpphdalgoaaFh
import Derived.Test.YtkmkbpphdalgoaaHi
namespace Go.Proofs.Ytkmkbpphdalgoaa
open Go.RowKit
set_option linter.unusedSimpArgs false
theorem law_FDHolds {d : List Tbl} {f : List UInt8 × List Int × Int} (k : ok95 d) (kf : ok83 f) : laws_FnExactFDHolds d f = some true := by
  unfold laws_FnExactFDHolds
  obtain ⟨v, e, p⟩ := sz_Database k (left := 1048576) (by omega)
  rw [e]
  rcases p with p | ⟨p1, p, s⟩
  · simp only [obind]; rw [decide_eq_true p]; rfl
  simp only [obind]
  rw [decide_eq_false (by omega : ¬ v < 0)]
  obtain ⟨v', e', p'⟩ := sz_FunctionalDependency kf (left := v) (by omega)
  rw [e']
  rcases p' with p' | ⟨p1', p', s'⟩
  · simp only [obind]; rw [decide_eq_true p']; rfl
  simp only [obind, cond_false]
  rw [decide_eq_false (by omega : ¬ v' < 0)]
  obtain ⟨b, e1, e2⟩ := holds_same (f := f) (sm_db s) (sm_lim s'.2)
  simp [to_Database s, eq_Database s, to_FunctionalDependency s', eq_FunctionalDependency s', e1, e2]
end Go.Proofs.Ytkmkbpphdalgoaa
