/-
 Sizes: what the law's size check gives the pure texts. No conditions.
-/
import Derived.Test.YtpcbnmcfplioeaaGreatHpNC1
import Derived.Test.YtpcbnmcfplioeaaGreatVaNC1
namespace Go.Proofs.YtpcbnmcfplioeaaGreat
open Go.RowKit
theorem Su {l : List (List Int)} (h : Lk l) : Bl l:=⟨CH h.1,fun r hr => CH (h.2 r hr)⟩
theorem oB {d : List Tbl} (h : Ho d) : KU d:=⟨CH h.1,fun t ht => ⟨CH (h.2 t ht).1,Su (h.2 t ht).2⟩⟩
end Go.Proofs.YtpcbnmcfplioeaaGreat
