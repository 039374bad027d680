/-
 IsCertificateFor: the reference and the program give the same. No conditions.
-/
import Derived.Test.YtkclaipnejgloaaGreatDoorIfIF1
import Derived.Test.YtkclaipnejgloaaGreatDoorSmIF1
import Derived.Test.YtkclaipnejgloaaGreatDoorHpIF1
namespace Go.Proofs.YtkclaipnejgloaaGreatDoor
open Go.RowKit
set_option linter.unusedVariables false
theorem dZ {q : Qry} (h : L5 q) : smQ q:=⟨Ft h.1.1,fun a ha => ⟨Ft (h.1.2 a ha).1,Ft (h.1.2 a ha).2⟩,Ft h.2⟩
theorem VW {c : Crt} (h : GV c) (k : dp c) : smC c:=⟨Ft h.1,Ft h.2.1,Ft h.2.2,fun e he => (k.2.2.1.2 e he).2,k.2.2.2.1.2,k.2.2.2.2.2⟩
theorem Kw {d : List Tbl} {q : Qry} {c : Crt} (s0 : IV d) (s1 : L5 q) (s2 : GV c) (k0 : eP d) (k1 : eQ q) (k2 : dp c) : ∃ r,Cl d q c = some r ∧ Ci d q c = some r:=⟨_,lc (dY s0) (dZ s1) (VW s2 k2),kA (dY s0) (dZ s1) (VW s2 k2)⟩
end Go.Proofs.YtkclaipnejgloaaGreatDoor
