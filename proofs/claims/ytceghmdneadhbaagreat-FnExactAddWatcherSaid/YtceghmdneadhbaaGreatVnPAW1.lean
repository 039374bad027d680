/-
  IsValidNotifier: the reference and the program give the same. No conditions.
-/
import Derived.Test.YtceghmdneadhbaaGreatVnAW1
import Derived.Test.YtceghmdneadhbaaGreatSmAW1
-- pure
namespace Go.Proofs.YtceghmdneadhbaaGreat
open Go.RowKit
set_option linter.unusedVariables false
theorem sm_qV {q : Qry} (h : sm_Query q) : smQ q := ⟨sm_lim h.1.1, fun a ha => ⟨sm_lim (h.1.2 a ha).1, sm_lim (h.1.2 a ha).2⟩, sm_lim h.2⟩
theorem sm_cV {c : Cnt} (h : sm_CountedRelation c) : smCnt c := ⟨sm_rows h.1, sm_lim h.2⟩
theorem sm_ntv {n : Ntf} (h : sm_Notifier n) : smNtv n := ⟨sm_db h.1, ⟨sm_lim h.2.1.1, fun v hv => ⟨sm_qV (h.2.1.2 v hv).1, sm_cV (h.2.1.2 v hv).2⟩⟩, sm_lim h.2.2.1, fun c hc => sm_cV (h.2.2.2 c hc)⟩
end Go.Proofs.YtceghmdneadhbaaGreat
