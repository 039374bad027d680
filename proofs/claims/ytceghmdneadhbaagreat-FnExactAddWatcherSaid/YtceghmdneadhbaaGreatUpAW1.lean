/-
  The laws' arguments as data that stay whole, printed by genlaw.py. No conditions.
-/
import Derived.Test.YtceghmdneadhbaaGreatKc
import Derived.Test.YtceghmdneadhbaaGreatMfAW1
namespace Go.Proofs.YtceghmdneadhbaaGreat
open Go.RowKit
set_option linter.unusedVariables false
def c53_a (x : List Int) : List V := [aL ci64 x]
theorem zc53_a (x : List Int) : (c53_a x).length = 1 := rfl
theorem ec53_a (x : List Int) : erL (c53_a x) = c53_d x := (erc (erG eci64 _) rfl)
theorem gkc53_a (x : List Int) : argdL (c53_a x) = true := (acc (aca (fun _ => rfl) _) rfl)
def c166_dd (x : Y42) : List V := [nI x.1, dL c53_d x.2]
abbrev Y167 := (List UInt8) × Y42
def c168_dd (x : Y167) : List V := [.str x.1, nI x.2.1, dL c53_d x.2.2]
theorem zc168_dd (x : Y167) : (c168_dd x).length = 3 := rfl
theorem ec168_dd (x : Y167) : erL (c168_dd x) = c168_dd x := (erc rfl (erc rfl (erc (erD ec53_d _) rfl)))
def c168_aa (x : Y167) : List V := [.str x.1, nI x.2.1, aL c53_a x.2.2]
theorem ec168_aa (x : Y167) : erL (c168_aa x) = c168_dd x := (erc rfl (erc rfl (erc (erG ec53_a _) rfl)))
def c22_ddd (x : List Y167) : List V := [dL c168_dd x]
def c24_ddd (x : List Y167) : List V := [dL c168_dd x]
def c161_d (x : Y147) : List V := [.str x.1, dL ci64 x.2]
theorem zc161_d (x : Y147) : (c161_d x).length = 2 := rfl
theorem ec161_d (x : Y147) : erL (c161_d x) = c161_d x := (erc rfl (erc (erD eci64 _) rfl))
def c161_a (x : Y147) : List V := [.str x.1, aL ci64 x.2]
theorem ec161_a (x : Y147) : erL (c161_a x) = c161_d x := (erc rfl (erc (erG eci64 _) rfl))
def c62_dd (x : List Y147) : List V := [dL c161_d x]
theorem gkc161_a (x : Y147) : argdL (c161_a x) = true := (acc rfl (acc (aca (fun _ => rfl) _) rfl))
abbrev Y63 := Int × (List Y147) × (List Int)
def c64_ddd (x : Y63) : List V := [nI x.1, dL c161_d x.2.1, dL ci64 x.2.2]
def c64_aaa (x : Y63) : List V := [nI x.1, aL c161_a x.2.1, aL ci64 x.2.2]
def c115_ddd (x : Y75) : List V := [nI x.1, dL c53_d x.2.1, dL ci64 x.2.2]
theorem zc115_ddd (x : Y75) : (c115_ddd x).length = 3 := rfl
theorem ec115_ddd (x : Y75) : erL (c115_ddd x) = c115_ddd x := (erc rfl (erc (erD ec53_d _) (erc (erD eci64 _) rfl)))
def c115_aaa (x : Y75) : List V := [nI x.1, aL c53_a x.2.1, aL ci64 x.2.2]
theorem ec115_aaa (x : Y75) : erL (c115_aaa x) = c115_ddd x := (erc rfl (erc (erG ec53_a _) (erc (erG eci64 _) rfl)))
abbrev Y116 := Y63 × Y75
def c117_dddddd (x : Y116) : List V := [nI x.1.1, dL c161_d x.1.2.1, dL ci64 x.1.2.2, nI x.2.1, dL c53_d x.2.2.1, dL ci64 x.2.2.2]
theorem zc117_dddddd (x : Y116) : (c117_dddddd x).length = 6 := rfl
theorem ec117_dddddd (x : Y116) : erL (c117_dddddd x) = c117_dddddd x := (erc rfl (erc (erD ec161_d _) (erc (erD eci64 _) (erc rfl (erc (erD ec53_d _) (erc (erD eci64 _) rfl))))))
def c117_aaaaaa (x : Y116) : List V := [nI x.1.1, aL c161_a x.1.2.1, aL ci64 x.1.2.2, nI x.2.1, aL c53_a x.2.2.1, aL ci64 x.2.2.2]
theorem ec117_aaaaaa (x : Y116) : erL (c117_aaaaaa x) = c117_dddddd x := (erc rfl (erc (erG ec161_a _) (erc (erG eci64 _) (erc rfl (erc (erG ec53_a _) (erc (erG eci64 _) rfl))))))
def c25_ddddddd (x : List Y116) : List V := [dL c117_dddddd x]
def c26_dddd (x : List Y75) : List V := [dL c115_ddd x]
abbrev Y27 := (List Y167) × (List Y116) × (List Y75)
def c28_dddddddddddddd (x : Y27) : List V := [dL c168_dd x.1, dL c117_dddddd x.2.1, dL c115_ddd x.2.2]
def c28_aaaaaaaaaaaaaa (x : Y27) : List V := [aL c168_aa x.1, aL c117_aaaaaa x.2.1, aL c115_aaa x.2.2]
theorem up53 (x : List Int) : Ups (c53_d x) (c53_a x) := (upc (upd_ ci64_up _) upn)
theorem ad168 (x : Y167) : argdL (c168_aa x) = true := (adc rfl (adc rfl (adc (ada gkc53_a _) rfl)))
theorem up168 (x : Y167) : Ups (c168_dd x) (c168_aa x) := (upc ⟨rfl, rfl⟩ (upc ⟨rfl, rfl⟩ (upc (upd_ up53 _) upn)))
theorem ad161 (x : Y147) : argdL (c161_a x) = true := (adc rfl (adc (ada (fun _ => rfl) _) rfl))
theorem up161 (x : Y147) : Ups (c161_d x) (c161_a x) := (upc ⟨rfl, rfl⟩ (upc (upd_ ci64_up _) upn))
theorem up64 (x : Y63) : Ups (c64_ddd x) (c64_aaa x) := (upc ⟨rfl, rfl⟩ (upc (upd_ up161 _) (upc (upd_ ci64_up _) upn)))
theorem ad115 (x : Y75) : argdL (c115_aaa x) = true := (adc rfl (adc (ada gkc53_a _) (adc (ada (fun _ => rfl) _) rfl)))
theorem up115 (x : Y75) : Ups (c115_ddd x) (c115_aaa x) := (upc ⟨rfl, rfl⟩ (upc (upd_ up53 _) (upc (upd_ ci64_up _) upn)))
theorem ad117 (x : Y116) : argdL (c117_aaaaaa x) = true := (adc rfl (adc (ada gkc161_a _) (adc (ada (fun _ => rfl) _) (adc rfl (adc (ada gkc53_a _) (adc (ada (fun _ => rfl) _) rfl))))))
theorem up117 (x : Y116) : Ups (c117_dddddd x) (c117_aaaaaa x) := (upc ⟨rfl, rfl⟩ (upc (upd_ up161 _) (upc (upd_ ci64_up _) (upc ⟨rfl, rfl⟩ (upc (upd_ up53 _) (upc (upd_ ci64_up _) upn))))))
theorem up28 (x : Y27) : Ups (c28_dddddddddddddd x) (c28_aaaaaaaaaaaaaa x) := (upc (upd_ up168 _) (upc (upd_ up117 _) (upc (upd_ up115 _) upn)))
end Go.Proofs.YtceghmdneadhbaaGreat
