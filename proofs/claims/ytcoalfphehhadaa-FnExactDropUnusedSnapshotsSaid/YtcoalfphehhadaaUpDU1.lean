/-
  The laws' arguments as data that stay whole, printed by genlaw.py. No conditions.
-/
import Derived.Test.YtcoalfphehhadaaKc
import Derived.Test.YtcoalfphehhadaaMfDU1
namespace Go.Proofs.Ytcoalfphehhadaa
open Go.RowKit
set_option linter.unusedVariables false
def c60_a (x : List Int) : List V := [aL ci64 x]
theorem zc60_a (x : List Int) : (c60_a x).length = 1 := rfl
theorem ec60_a (x : List Int) : erL (c60_a x) = c60_d x := (erc (erG eci64 _) rfl)
def c27_aa (x : List (List Int)) : List V := [aL c60_a x]
theorem zc27_aa (x : List (List Int)) : (c27_aa x).length = 1 := rfl
theorem ec27_aa (x : List (List Int)) : erL (c27_aa x) = c27_dd x := (erc (erG ec60_a _) rfl)
theorem gkc60_a (x : List Int) : argdL (c60_a x) = true := (acc (aca (fun _ => rfl) _) rfl)
def c182_dd (x : Y28) : List V := [nI x.1, dL c60_d x.2]
theorem zc182_dd (x : Y28) : (c182_dd x).length = 2 := rfl
theorem ec182_dd (x : Y28) : erL (c182_dd x) = c182_dd x := (erc rfl (erc (erD ec60_d _) rfl))
def c182_aa (x : Y28) : List V := [nI x.1, aL c60_a x.2]
theorem zc182_aa (x : Y28) : (c182_aa x).length = 2 := rfl
theorem ec182_aa (x : Y28) : erL (c182_aa x) = c182_dd x := (erc rfl (erc (erG ec60_a _) rfl))
abbrev Y183 := (List UInt8) × Y28
def c184_dd (x : Y183) : List V := [.str x.1, nI x.2.1, dL c60_d x.2.2]
theorem zc184_dd (x : Y183) : (c184_dd x).length = 3 := rfl
theorem ec184_dd (x : Y183) : erL (c184_dd x) = c184_dd x := (erc rfl (erc rfl (erc (erD ec60_d _) rfl)))
def c184_aa (x : Y183) : List V := [.str x.1, nI x.2.1, aL c60_a x.2.2]
theorem zc184_aa (x : Y183) : (c184_aa x).length = 3 := rfl
theorem ec184_aa (x : Y183) : erL (c184_aa x) = c184_dd x := (erc rfl (erc rfl (erc (erG ec60_a _) rfl)))
def c145_ddd (x : List Y183) : List V := [dL c184_dd x]
theorem zc145_ddd (x : List Y183) : (c145_ddd x).length = 1 := rfl
theorem ec145_ddd (x : List Y183) : erL (c145_ddd x) = c145_ddd x := (erc (erD ec184_dd _) rfl)
def c145_aaa (x : List Y183) : List V := [aL c184_aa x]
theorem zc145_aaa (x : List Y183) : (c145_aaa x).length = 1 := rfl
theorem ec145_aaa (x : List Y183) : erL (c145_aaa x) = c145_ddd x := (erc (erG ec184_aa _) rfl)
theorem gkc184_aa (x : Y183) : argdL (c184_aa x) = true := (acc rfl (acc rfl (acc (aca gkc60_a _) rfl)))
def c147_ddd (x : List Y183) : List V := [dL c184_dd x]
theorem zc147_ddd (x : List Y183) : (c147_ddd x).length = 1 := rfl
theorem ec147_ddd (x : List Y183) : erL (c147_ddd x) = c147_ddd x := (erc (erD ec184_dd _) rfl)
def c147_aaa (x : List Y183) : List V := [aL c184_aa x]
theorem zc147_aaa (x : List Y183) : (c147_aaa x).length = 1 := rfl
theorem ec147_aaa (x : List Y183) : erL (c147_aaa x) = c147_ddd x := (erc (erG ec184_aa _) rfl)
def c45_dddd (x : List (List Y183)) : List V := [dL c147_ddd x]
theorem zc45_dddd (x : List (List Y183)) : (c45_dddd x).length = 1 := rfl
theorem ec45_dddd (x : List (List Y183)) : erL (c45_dddd x) = c45_dddd x := (erc (erD ec147_ddd _) rfl)
def c45_aaaa (x : List (List Y183)) : List V := [aL c147_aaa x]
theorem zc45_aaaa (x : List (List Y183)) : (c45_aaaa x).length = 1 := rfl
theorem ec45_aaaa (x : List (List Y183)) : erL (c45_aaaa x) = c45_dddd x := (erc (erG ec147_aaa _) rfl)
theorem gkc147_aaa (x : List Y183) : argdL (c147_aaa x) = true := (acc (aca gkc184_aa _) rfl)
abbrev Y46 := Int × (List (List Y183))
def c47_dddd (x : Y46) : List V := [nI x.1, dL c147_ddd x.2]
theorem zc47_dddd (x : Y46) : (c47_dddd x).length = 2 := rfl
theorem ec47_dddd (x : Y46) : erL (c47_dddd x) = c47_dddd x := (erc rfl (erc (erD ec147_ddd _) rfl))
def c47_aaaa (x : Y46) : List V := [nI x.1, aL c147_aaa x.2]
theorem zc47_aaaa (x : Y46) : (c47_aaaa x).length = 2 := rfl
theorem ec47_aaaa (x : Y46) : erL (c47_aaaa x) = c47_dddd x := (erc rfl (erc (erG ec147_aaa _) rfl))
def c186_d (x : Y123) : List V := [.str x.1, dL ci64 x.2]
theorem zc186_d (x : Y123) : (c186_d x).length = 2 := rfl
theorem ec186_d (x : Y123) : erL (c186_d x) = c186_d x := (erc rfl (erc (erD eci64 _) rfl))
def c186_a (x : Y123) : List V := [.str x.1, aL ci64 x.2]
theorem zc186_a (x : Y123) : (c186_a x).length = 2 := rfl
theorem ec186_a (x : Y123) : erL (c186_a x) = c186_d x := (erc rfl (erc (erG eci64 _) rfl))
def c94_dd (x : List Y123) : List V := [dL c186_d x]
theorem zc94_dd (x : List Y123) : (c94_dd x).length = 1 := rfl
theorem ec94_dd (x : List Y123) : erL (c94_dd x) = c94_dd x := (erc (erD ec186_d _) rfl)
def c94_aa (x : List Y123) : List V := [aL c186_a x]
theorem zc94_aa (x : List Y123) : (c94_aa x).length = 1 := rfl
theorem ec94_aa (x : List Y123) : erL (c94_aa x) = c94_dd x := (erc (erG ec186_a _) rfl)
theorem gkc186_a (x : Y123) : argdL (c186_a x) = true := (acc rfl (acc (aca (fun _ => rfl) _) rfl))
abbrev Y95 := Int × (List Y123) × (List Int)
def c96_ddd (x : Y95) : List V := [nI x.1, dL c186_d x.2.1, dL ci64 x.2.2]
theorem zc96_ddd (x : Y95) : (c96_ddd x).length = 3 := rfl
theorem ec96_ddd (x : Y95) : erL (c96_ddd x) = c96_ddd x := (erc rfl (erc (erD ec186_d _) (erc (erD eci64 _) rfl)))
def c96_aaa (x : Y95) : List V := [nI x.1, aL c186_a x.2.1, aL ci64 x.2.2]
theorem zc96_aaa (x : Y95) : (c96_aaa x).length = 3 := rfl
theorem ec96_aaa (x : Y95) : erL (c96_aaa x) = c96_ddd x := (erc rfl (erc (erG ec186_a _) (erc (erG eci64 _) rfl)))
abbrev Y97 := Int × (List Int) × (List Int) × Y95
def c98_ddddd (x : Y97) : List V := [nI x.1, dL ci64 x.2.1, dL ci64 x.2.2.1, nI x.2.2.2.1, dL c186_d x.2.2.2.2.1, dL ci64 x.2.2.2.2.2]
theorem zc98_ddddd (x : Y97) : (c98_ddddd x).length = 6 := rfl
theorem ec98_ddddd (x : Y97) : erL (c98_ddddd x) = c98_ddddd x := (erc rfl (erc (erD eci64 _) (erc (erD eci64 _) (erc rfl (erc (erD ec186_d _) (erc (erD eci64 _) rfl))))))
def c98_aaaaa (x : Y97) : List V := [nI x.1, aL ci64 x.2.1, aL ci64 x.2.2.1, nI x.2.2.2.1, aL c186_a x.2.2.2.2.1, aL ci64 x.2.2.2.2.2]
theorem zc98_aaaaa (x : Y97) : (c98_aaaaa x).length = 6 := rfl
theorem ec98_aaaaa (x : Y97) : erL (c98_aaaaa x) = c98_ddddd x := (erc rfl (erc (erG eci64 _) (erc (erG eci64 _) (erc rfl (erc (erG ec186_a _) (erc (erG eci64 _) rfl))))))
def c48_dddddd (x : List Y97) : List V := [dL c98_ddddd x]
theorem zc48_dddddd (x : List Y97) : (c48_dddddd x).length = 1 := rfl
theorem ec48_dddddd (x : List Y97) : erL (c48_dddddd x) = c48_dddddd x := (erc (erD ec98_ddddd _) rfl)
def c48_aaaaaa (x : List Y97) : List V := [aL c98_aaaaa x]
theorem zc48_aaaaaa (x : List Y97) : (c48_aaaaaa x).length = 1 := rfl
theorem ec48_aaaaaa (x : List Y97) : erL (c48_aaaaaa x) = c48_dddddd x := (erc (erG ec98_aaaaa _) rfl)
theorem gkc98_aaaaa (x : Y97) : argdL (c98_aaaaa x) = true := (acc rfl (acc (aca (fun _ => rfl) _) (acc (aca (fun _ => rfl) _) (acc rfl (acc (aca gkc186_a _) (acc (aca (fun _ => rfl) _) rfl))))))
theorem ad60 (x : List Int) : argdL (c60_a x) = true := (adc (ada (fun _ => rfl) _) rfl)
theorem up60 (x : List Int) : Ups (c60_d x) (c60_a x) := (upc (upd_ ci64_up _) upn)
theorem ad27 (x : List (List Int)) : argdL (c27_aa x) = true := (adc (ada gkc60_a _) rfl)
theorem up27 (x : List (List Int)) : Ups (c27_dd x) (c27_aa x) := (upc (upd_ up60 _) upn)
theorem ad182 (x : Y28) : argdL (c182_aa x) = true := (adc rfl (adc (ada gkc60_a _) rfl))
theorem up182 (x : Y28) : Ups (c182_dd x) (c182_aa x) := (upc ⟨rfl, rfl⟩ (upc (upd_ up60 _) upn))
theorem ad184 (x : Y183) : argdL (c184_aa x) = true := (adc rfl (adc rfl (adc (ada gkc60_a _) rfl)))
theorem up184 (x : Y183) : Ups (c184_dd x) (c184_aa x) := (upc ⟨rfl, rfl⟩ (upc ⟨rfl, rfl⟩ (upc (upd_ up60 _) upn)))
theorem ad145 (x : List Y183) : argdL (c145_aaa x) = true := (adc (ada gkc184_aa _) rfl)
theorem up145 (x : List Y183) : Ups (c145_ddd x) (c145_aaa x) := (upc (upd_ up184 _) upn)
theorem ad147 (x : List Y183) : argdL (c147_aaa x) = true := (adc (ada gkc184_aa _) rfl)
theorem up147 (x : List Y183) : Ups (c147_ddd x) (c147_aaa x) := (upc (upd_ up184 _) upn)
theorem ad45 (x : List (List Y183)) : argdL (c45_aaaa x) = true := (adc (ada gkc147_aaa _) rfl)
theorem up45 (x : List (List Y183)) : Ups (c45_dddd x) (c45_aaaa x) := (upc (upd_ up147 _) upn)
theorem ad47 (x : Y46) : argdL (c47_aaaa x) = true := (adc rfl (adc (ada gkc147_aaa _) rfl))
theorem up47 (x : Y46) : Ups (c47_dddd x) (c47_aaaa x) := (upc ⟨rfl, rfl⟩ (upc (upd_ up147 _) upn))
theorem ad186 (x : Y123) : argdL (c186_a x) = true := (adc rfl (adc (ada (fun _ => rfl) _) rfl))
theorem up186 (x : Y123) : Ups (c186_d x) (c186_a x) := (upc ⟨rfl, rfl⟩ (upc (upd_ ci64_up _) upn))
theorem ad94 (x : List Y123) : argdL (c94_aa x) = true := (adc (ada gkc186_a _) rfl)
theorem up94 (x : List Y123) : Ups (c94_dd x) (c94_aa x) := (upc (upd_ up186 _) upn)
theorem ad96 (x : Y95) : argdL (c96_aaa x) = true := (adc rfl (adc (ada gkc186_a _) (adc (ada (fun _ => rfl) _) rfl)))
theorem up96 (x : Y95) : Ups (c96_ddd x) (c96_aaa x) := (upc ⟨rfl, rfl⟩ (upc (upd_ up186 _) (upc (upd_ ci64_up _) upn)))
theorem ad98 (x : Y97) : argdL (c98_aaaaa x) = true := (adc rfl (adc (ada (fun _ => rfl) _) (adc (ada (fun _ => rfl) _) (adc rfl (adc (ada gkc186_a _) (adc (ada (fun _ => rfl) _) rfl))))))
theorem up98 (x : Y97) : Ups (c98_ddddd x) (c98_aaaaa x) := (upc ⟨rfl, rfl⟩ (upc (upd_ ci64_up _) (upc (upd_ ci64_up _) (upc ⟨rfl, rfl⟩ (upc (upd_ up186 _) (upc (upd_ ci64_up _) upn))))))
theorem ad48 (x : List Y97) : argdL (c48_aaaaaa x) = true := (adc (ada gkc98_aaaaa _) rfl)
theorem up48 (x : List Y97) : Ups (c48_dddddd x) (c48_aaaaaa x) := (upc (upd_ up98 _) upn)
end Go.Proofs.Ytcoalfphehhadaa
