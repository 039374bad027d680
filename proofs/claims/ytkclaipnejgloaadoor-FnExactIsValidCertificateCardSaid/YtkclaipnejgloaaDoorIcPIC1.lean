/-
  IsValidCertificate: the reference and the program give the same. No conditions.
-/
import Derived.Test.YtkclaipnejgloaaDoorIcIC1
import Derived.Test.YtkclaipnejgloaaDoorHpIC1
-- pure
namespace Go.Proofs.YtkclaipnejgloaaDoor
open Go.RowKit
set_option linter.unusedVariables false
theorem sm_qC {q : Qry} (h : sm_Query q) : smQ q := ⟨sm_lim h.1.1, fun a ha => ⟨sm_lim (h.1.2 a ha).1, sm_lim (h.1.2 a ha).2⟩, sm_lim h.2⟩
theorem sm_crt {c : Crt} (h : sm_Certificate c) (k : ok28 c) : smC c := ⟨sm_lim h.1, sm_lim h.2.1, sm_lim h.2.2, fun e he => (k.2.2.1.2 e he).2, k.2.2.2.1.2, k.2.2.2.2.2⟩
theorem pure_IsValidCertificate {q : Qry} {c : Crt} (s0 : sm_Query q) (s1 : sm_Certificate c) (k0 : ok25 q) (k1 : ok28 c) : ∃ r, spec_IsValidCertificate q c = some r ∧ impl_IsValidCertificate q c = some r := ⟨_, s_ic (sm_qC s0) (sm_crt s1 k1), i_ic (sm_qC s0) (sm_crt s1 k1)⟩
end Go.Proofs.YtkclaipnejgloaaDoor
