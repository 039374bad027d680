/-
  IsValidNotifier: the reference and the program give the same. No conditions.
-/
import Derived.Test.YtceghmdneadhbaaGreatVnVN1
import Derived.Test.YtceghmdneadhbaaGreatSmVN1
-- pure
namespace Go.Proofs.YtceghmdneadhbaaGreat
open Go.RowKit
set_option linter.unusedVariables false
theorem sm_qV {q : Qry} (h : sm_Query q) : smQ q := ⟨sm_lim h.1.1, fun a ha => ⟨sm_lim (h.1.2 a ha).1, sm_lim (h.1.2 a ha).2⟩, sm_lim h.2⟩
theorem sm_cV {c : Cnt} (h : sm_CountedRelation c) : smCnt c := ⟨sm_rows h.1, sm_lim h.2⟩
theorem sm_ntv {n : Ntf} (h : sm_Notifier n) : smNtv n := ⟨sm_db h.1, ⟨sm_lim h.2.1.1, fun v hv => ⟨sm_qV (h.2.1.2 v hv).1, sm_cV (h.2.1.2 v hv).2⟩⟩, sm_lim h.2.2.1, fun c hc => sm_cV (h.2.2.2 c hc)⟩
theorem pure_IsValidNotifier {n : Ntf} (s0 : sm_Notifier n) (k0 : ok28 n) : ∃ r, spec_IsValidNotifier n = some r ∧ impl_IsValidNotifier n = some r :=
  let ⟨b, h1, h2, _⟩ := ntv_same (sm_ntv s0)
  ⟨b, h1, h2⟩
end Go.Proofs.YtceghmdneadhbaaGreat
