/-
  The laws' arguments as data that stay whole, printed by genlaw.py. No conditions.
-/
import Derived.Test.YtmioifafgbjjhaaKc
import Derived.Test.YtmioifafgbjjhaaMfAS1
namespace Go.Proofs.Ytmioifafgbjjhaa
open Go.RowKit
set_option linter.unusedVariables false
def c31_a (x : List Int) : List V := [aL ci64 x]
theorem zc31_a (x : List Int) : (c31_a x).length = 1 := rfl
theorem ec31_a (x : List Int) : erL (c31_a x) = c31_d x := (erc (erG eci64 _) rfl)
def c24_aa (x : List (List Int)) : List V := [aL c31_a x]
theorem zc24_aa (x : List (List Int)) : (c24_aa x).length = 1 := rfl
theorem ec24_aa (x : List (List Int)) : erL (c24_aa x) = c24_dd x := (erc (erG ec31_a _) rfl)
def c95_dd (x : Y25) : List V := [nI x.1, dL c31_d x.2]
theorem zc95_dd (x : Y25) : (c95_dd x).length = 2 := rfl
theorem ec95_dd (x : Y25) : erL (c95_dd x) = c95_dd x := (erc rfl (erc (erD ec31_d _) rfl))
def c95_aa (x : Y25) : List V := [nI x.1, aL c31_a x.2]
theorem zc95_aa (x : Y25) : (c95_aa x).length = 2 := rfl
theorem ec95_aa (x : Y25) : erL (c95_aa x) = c95_dd x := (erc rfl (erc (erG ec31_a _) rfl))
abbrev Y262 := (List UInt8) × Y25
def c263_dd (x : Y262) : List V := [.str x.1, nI x.2.1, dL c31_d x.2.2]
theorem zc263_dd (x : Y262) : (c263_dd x).length = 3 := rfl
theorem ec263_dd (x : Y262) : erL (c263_dd x) = c263_dd x := (erc rfl (erc rfl (erc (erD ec31_d _) rfl)))
def c263_aa (x : Y262) : List V := [.str x.1, nI x.2.1, aL c31_a x.2.2]
theorem zc263_aa (x : Y262) : (c263_aa x).length = 3 := rfl
theorem ec263_aa (x : Y262) : erL (c263_aa x) = c263_dd x := (erc rfl (erc rfl (erc (erG ec31_a _) rfl)))
def c220_ddd (x : List Y262) : List V := [dL c263_dd x]
theorem zc220_ddd (x : List Y262) : (c220_ddd x).length = 1 := rfl
theorem ec220_ddd (x : List Y262) : erL (c220_ddd x) = c220_ddd x := (erc (erD ec263_dd _) rfl)
def c220_aaa (x : List Y262) : List V := [aL c263_aa x]
theorem zc220_aaa (x : List Y262) : (c220_aaa x).length = 1 := rfl
theorem ec220_aaa (x : List Y262) : erL (c220_aaa x) = c220_ddd x := (erc (erG ec263_aa _) rfl)
def c222_ddd (x : List Y262) : List V := [dL c263_dd x]
theorem zc222_ddd (x : List Y262) : (c222_ddd x).length = 1 := rfl
theorem ec222_ddd (x : List Y262) : erL (c222_ddd x) = c222_ddd x := (erc (erD ec263_dd _) rfl)
def c222_aaa (x : List Y262) : List V := [aL c263_aa x]
theorem zc222_aaa (x : List Y262) : (c222_aaa x).length = 1 := rfl
theorem ec222_aaa (x : List Y262) : erL (c222_aaa x) = c222_ddd x := (erc (erG ec263_aa _) rfl)
def c81_dddd (x : List (List Y262)) : List V := [dL c222_ddd x]
theorem zc81_dddd (x : List (List Y262)) : (c81_dddd x).length = 1 := rfl
theorem ec81_dddd (x : List (List Y262)) : erL (c81_dddd x) = c81_dddd x := (erc (erD ec222_ddd _) rfl)
def c81_aaaa (x : List (List Y262)) : List V := [aL c222_aaa x]
theorem zc81_aaaa (x : List (List Y262)) : (c81_aaaa x).length = 1 := rfl
theorem ec81_aaaa (x : List (List Y262)) : erL (c81_aaaa x) = c81_dddd x := (erc (erG ec222_aaa _) rfl)
abbrev Y82 := Int × (List (List Y262))
def c83_dddd (x : Y82) : List V := [nI x.1, dL c222_ddd x.2]
theorem zc83_dddd (x : Y82) : (c83_dddd x).length = 2 := rfl
theorem ec83_dddd (x : Y82) : erL (c83_dddd x) = c83_dddd x := (erc rfl (erc (erD ec222_ddd _) rfl))
def c83_aaaa (x : Y82) : List V := [nI x.1, aL c222_aaa x.2]
theorem zc83_aaaa (x : Y82) : (c83_aaaa x).length = 2 := rfl
theorem ec83_aaaa (x : Y82) : erL (c83_aaaa x) = c83_dddd x := (erc rfl (erc (erG ec222_aaa _) rfl))
abbrev Y96 := (List UInt8) × Y25 × Y25
def c97_dddd (x : Y96) : List V := [.str x.1, nI x.2.1.1, dL c31_d x.2.1.2, nI x.2.2.1, dL c31_d x.2.2.2]
theorem zc97_dddd (x : Y96) : (c97_dddd x).length = 5 := rfl
theorem ec97_dddd (x : Y96) : erL (c97_dddd x) = c97_dddd x := (erc rfl (erc rfl (erc (erD ec31_d _) (erc rfl (erc (erD ec31_d _) rfl)))))
def c97_aaaa (x : Y96) : List V := [.str x.1, nI x.2.1.1, aL c31_a x.2.1.2, nI x.2.2.1, aL c31_a x.2.2.2]
theorem zc97_aaaa (x : Y96) : (c97_aaaa x).length = 5 := rfl
theorem ec97_aaaa (x : Y96) : erL (c97_aaaa x) = c97_dddd x := (erc rfl (erc rfl (erc (erG ec31_a _) (erc rfl (erc (erG ec31_a _) rfl)))))
theorem ad31 (x : List Int) : argdL (c31_a x) = true := (adc (ada (fun _ => rfl) _) rfl)
theorem up31 (x : List Int) : Ups (c31_d x) (c31_a x) := (upc (upd_ ci64_up _) upn)
theorem ad24 (x : List (List Int)) : argdL (c24_aa x) = true := (adc (ada ad31 _) rfl)
theorem up24 (x : List (List Int)) : Ups (c24_dd x) (c24_aa x) := (upc (upd_ up31 _) upn)
theorem ad95 (x : Y25) : argdL (c95_aa x) = true := (adc rfl (adc (ada ad31 _) rfl))
theorem up95 (x : Y25) : Ups (c95_dd x) (c95_aa x) := (upc ⟨rfl, rfl⟩ (upc (upd_ up31 _) upn))
theorem ad263 (x : Y262) : argdL (c263_aa x) = true := (adc rfl (adc rfl (adc (ada ad31 _) rfl)))
theorem up263 (x : Y262) : Ups (c263_dd x) (c263_aa x) := (upc ⟨rfl, rfl⟩ (upc ⟨rfl, rfl⟩ (upc (upd_ up31 _) upn)))
theorem ad220 (x : List Y262) : argdL (c220_aaa x) = true := (adc (ada ad263 _) rfl)
theorem up220 (x : List Y262) : Ups (c220_ddd x) (c220_aaa x) := (upc (upd_ up263 _) upn)
theorem ad222 (x : List Y262) : argdL (c222_aaa x) = true := (adc (ada ad263 _) rfl)
theorem up222 (x : List Y262) : Ups (c222_ddd x) (c222_aaa x) := (upc (upd_ up263 _) upn)
theorem ad81 (x : List (List Y262)) : argdL (c81_aaaa x) = true := (adc (ada ad222 _) rfl)
theorem up81 (x : List (List Y262)) : Ups (c81_dddd x) (c81_aaaa x) := (upc (upd_ up222 _) upn)
theorem ad83 (x : Y82) : argdL (c83_aaaa x) = true := (adc rfl (adc (ada ad222 _) rfl))
theorem up83 (x : Y82) : Ups (c83_dddd x) (c83_aaaa x) := (upc ⟨rfl, rfl⟩ (upc (upd_ up222 _) upn))
theorem ad97 (x : Y96) : argdL (c97_aaaa x) = true := (adc rfl (adc rfl (adc (ada ad31 _) (adc rfl (adc (ada ad31 _) rfl)))))
theorem up97 (x : Y96) : Ups (c97_dddd x) (c97_aaaa x) := (upc ⟨rfl, rfl⟩ (upc ⟨rfl, rfl⟩ (upc (upd_ up31 _) (upc ⟨rfl, rfl⟩ (upc (upd_ up31 _) upn)))))
end Go.Proofs.Ytmioifafgbjjhaa
