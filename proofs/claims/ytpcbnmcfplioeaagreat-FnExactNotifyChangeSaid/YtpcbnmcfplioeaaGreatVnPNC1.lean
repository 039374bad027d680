/-
 IsValidNotifier: the reference and the program give the same. No conditions.
-/
import Derived.Test.YtpcbnmcfplioeaaGreatVnNC1
import Derived.Test.YtpcbnmcfplioeaaGreatSmNC1
namespace Go.Proofs.YtpcbnmcfplioeaaGreat
open Go.RowKit
set_option linter.unusedVariables false
theorem oC {q : Qry} (h : NL q) : smQ q:=⟨CH h.1.1,fun a ha => ⟨CH (h.1.2 a ha).1,CH (h.1.2 a ha).2⟩,CH h.2⟩
theorem kK {c : Cnt} (h : Ci c) : H1 c:=⟨Su h.1,CH h.2⟩
theorem cg {n : Ntf} (h : Hp n) : TH n:=⟨oB h.1,⟨CH h.2.1.1,fun v hv => ⟨oC (h.2.1.2 v hv).1,kK (h.2.1.2 v hv).2⟩⟩,CH h.2.2.1,fun c hc => kK (h.2.2.2 c hc)⟩
end Go.Proofs.YtpcbnmcfplioeaaGreat
