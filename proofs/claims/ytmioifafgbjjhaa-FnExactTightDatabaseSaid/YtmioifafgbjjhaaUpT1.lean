/-
  The laws' arguments as data that stay whole, printed by genlaw.py. No conditions.
-/
import Derived.Test.YtmioifafgbjjhaaKc
import Derived.Test.YtmioifafgbjjhaaMfT1
namespace Go.Proofs.Ytmioifafgbjjhaa
open Go.RowKit
set_option linter.unusedVariables false
def c31_a (x : List Int) : List V := [aL ci64 x]
theorem zc31_a (x : List Int) : (c31_a x).length = 1 := rfl
theorem ec31_a (x : List Int) : erL (c31_a x) = c31_d x := (erc (erG eci64 _) rfl)
def c211_d (x : Y141) : List V := [.str x.1, dL ci64 x.2]
theorem zc211_d (x : Y141) : (c211_d x).length = 2 := rfl
theorem ec211_d (x : Y141) : erL (c211_d x) = c211_d x := (erc rfl (erc (erD eci64 _) rfl))
def c211_a (x : Y141) : List V := [.str x.1, aL ci64 x.2]
theorem zc211_a (x : Y141) : (c211_a x).length = 2 := rfl
theorem ec211_a (x : Y141) : erL (c211_a x) = c211_d x := (erc rfl (erc (erG eci64 _) rfl))
def c51_dd (x : List Y141) : List V := [dL c211_d x]
theorem zc51_dd (x : List Y141) : (c51_dd x).length = 1 := rfl
theorem ec51_dd (x : List Y141) : erL (c51_dd x) = c51_dd x := (erc (erD ec211_d _) rfl)
def c51_aa (x : List Y141) : List V := [aL c211_a x]
theorem zc51_aa (x : List Y141) : (c51_aa x).length = 1 := rfl
theorem ec51_aa (x : List Y141) : erL (c51_aa x) = c51_dd x := (erc (erG ec211_a _) rfl)
abbrev Y52 := Int × (List Y141) × (List Int)
def c53_ddd (x : Y52) : List V := [nI x.1, dL c211_d x.2.1, dL ci64 x.2.2]
theorem zc53_ddd (x : Y52) : (c53_ddd x).length = 3 := rfl
theorem ec53_ddd (x : Y52) : erL (c53_ddd x) = c53_ddd x := (erc rfl (erc (erD ec211_d _) (erc (erD eci64 _) rfl)))
def c53_aaa (x : Y52) : List V := [nI x.1, aL c211_a x.2.1, aL ci64 x.2.2]
theorem zc53_aaa (x : Y52) : (c53_aaa x).length = 3 := rfl
theorem ec53_aaa (x : Y52) : erL (c53_aaa x) = c53_ddd x := (erc rfl (erc (erG ec211_a _) (erc (erG eci64 _) rfl)))
theorem ad31 (x : List Int) : argdL (c31_a x) = true := (adc (ada (fun _ => rfl) _) rfl)
theorem up31 (x : List Int) : Ups (c31_d x) (c31_a x) := (upc (upd_ ci64_up _) upn)
theorem ad211 (x : Y141) : argdL (c211_a x) = true := (adc rfl (adc (ada (fun _ => rfl) _) rfl))
theorem up211 (x : Y141) : Ups (c211_d x) (c211_a x) := (upc ⟨rfl, rfl⟩ (upc (upd_ ci64_up _) upn))
theorem ad51 (x : List Y141) : argdL (c51_aa x) = true := (adc (ada ad211 _) rfl)
theorem up51 (x : List Y141) : Ups (c51_dd x) (c51_aa x) := (upc (upd_ up211 _) upn)
theorem ad53 (x : Y52) : argdL (c53_aaa x) = true := (adc rfl (adc (ada ad211 _) (adc (ada (fun _ => rfl) _) rfl)))
theorem up53 (x : Y52) : Ups (c53_ddd x) (c53_aaa x) := (upc ⟨rfl, rfl⟩ (upc (upd_ up211 _) (upc (upd_ ci64_up _) upn)))
end Go.Proofs.Ytmioifafgbjjhaa
