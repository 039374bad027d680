/-
  WatcherRows: the reference and the program give the same. No conditions.
-/
import Derived.Test.YtceghmdneadhbaaGreatWrWR1
import Derived.Test.YtceghmdneadhbaaGreatVnPWR1
-- pure
namespace Go.Proofs.YtceghmdneadhbaaGreat
open Go.RowKit
set_option linter.unusedVariables false
theorem pure_WatcherRows {n : Ntf} {k : Int} (s0 : sm_Notifier n) (k0 : ok28 n) (k1 : InI k) : ∃ r, spec_WatcherRows n k = some r ∧ impl_WatcherRows n k = some r ∧ sm_Relation r.1 := by
  have h0 : sm_Relation ((0, []) : Rln) := ⟨Nat.zero_le _, fun r hr => by cases hr⟩
  obtain ⟨r, e1, e2, h⟩ := wr_same (sm_ntv s0) (k := k)
  refine ⟨r, e1, e2, ?_⟩
  rcases h with rfl | ⟨v, hv, rfl⟩
  · exact h0
  · unfold rowsB
    cases cntB v.2 && !badAny v.2.2.2 fun _ n => decide (n < 0) with
    | false => exact h0
    | true => exact (s0.2.1.2 v hv).2.1
end Go.Proofs.YtceghmdneadhbaaGreat
