/-
  The laws' arguments as data that stay whole, printed by genlaw.py. No conditions.
-/
import Derived.Test.YtkcfahfladikkaaKc
import Derived.Test.YtkcfahfladikkaaMfC1
namespace Go.Proofs.Ytkcfahfladikkaa
open Go.RowKit
set_option linter.unusedVariables false
def c25_a (x : List Int) : List V := [aL ci64 x]
theorem zc25_a (x : List Int) : (c25_a x).length = 1 := rfl
theorem ec25_a (x : List Int) : erL (c25_a x) = c25_d x := (erc (erG eci64 _) rfl)
def c82_aa (x : List (List Int)) : List V := [aL c25_a x]
theorem zc82_aa (x : List (List Int)) : (c82_aa x).length = 1 := rfl
theorem ec82_aa (x : List (List Int)) : erL (c82_aa x) = c82_dd x := (erc (erG ec25_a _) rfl)
def c204_dd (x : Y127) : List V := [nI x.1, dL c25_d x.2]
theorem zc204_dd (x : Y127) : (c204_dd x).length = 2 := rfl
theorem ec204_dd (x : Y127) : erL (c204_dd x) = c204_dd x := (erc rfl (erc (erD ec25_d _) rfl))
def c204_aa (x : Y127) : List V := [nI x.1, aL c25_a x.2]
theorem zc204_aa (x : Y127) : (c204_aa x).length = 2 := rfl
theorem ec204_aa (x : Y127) : erL (c204_aa x) = c204_dd x := (erc rfl (erc (erG ec25_a _) rfl))
abbrev Y205 := (List UInt8) × Y127
def c206_dd (x : Y205) : List V := [.str x.1, nI x.2.1, dL c25_d x.2.2]
theorem zc206_dd (x : Y205) : (c206_dd x).length = 3 := rfl
theorem ec206_dd (x : Y205) : erL (c206_dd x) = c206_dd x := (erc rfl (erc rfl (erc (erD ec25_d _) rfl)))
def c206_aa (x : Y205) : List V := [.str x.1, nI x.2.1, aL c25_a x.2.2]
theorem zc206_aa (x : Y205) : (c206_aa x).length = 3 := rfl
theorem ec206_aa (x : Y205) : erL (c206_aa x) = c206_dd x := (erc rfl (erc rfl (erc (erG ec25_a _) rfl)))
def c22_ddd (x : List Y205) : List V := [dL c206_dd x]
theorem zc22_ddd (x : List Y205) : (c22_ddd x).length = 1 := rfl
theorem ec22_ddd (x : List Y205) : erL (c22_ddd x) = c22_ddd x := (erc (erD ec206_dd _) rfl)
def c22_aaa (x : List Y205) : List V := [aL c206_aa x]
theorem zc22_aaa (x : List Y205) : (c22_aaa x).length = 1 := rfl
theorem ec22_aaa (x : List Y205) : erL (c22_aaa x) = c22_ddd x := (erc (erG ec206_aa _) rfl)
def c24_ddd (x : List Y205) : List V := [dL c206_dd x]
theorem zc24_ddd (x : List Y205) : (c24_ddd x).length = 1 := rfl
theorem ec24_ddd (x : List Y205) : erL (c24_ddd x) = c24_ddd x := (erc (erD ec206_dd _) rfl)
def c24_aaa (x : List Y205) : List V := [aL c206_aa x]
theorem zc24_aaa (x : List Y205) : (c24_aaa x).length = 1 := rfl
theorem ec24_aaa (x : List Y205) : erL (c24_aaa x) = c24_ddd x := (erc (erG ec206_aa _) rfl)
def c44_dddd (x : List (List Y205)) : List V := [dL c24_ddd x]
theorem zc44_dddd (x : List (List Y205)) : (c44_dddd x).length = 1 := rfl
theorem ec44_dddd (x : List (List Y205)) : erL (c44_dddd x) = c44_dddd x := (erc (erD ec24_ddd _) rfl)
def c44_aaaa (x : List (List Y205)) : List V := [aL c24_aaa x]
theorem zc44_aaaa (x : List (List Y205)) : (c44_aaaa x).length = 1 := rfl
theorem ec44_aaaa (x : List (List Y205)) : erL (c44_aaaa x) = c44_dddd x := (erc (erG ec24_aaa _) rfl)
abbrev Y45 := Int × (List (List Y205))
def c46_dddd (x : Y45) : List V := [nI x.1, dL c24_ddd x.2]
theorem zc46_dddd (x : Y45) : (c46_dddd x).length = 2 := rfl
theorem ec46_dddd (x : Y45) : erL (c46_dddd x) = c46_dddd x := (erc rfl (erc (erD ec24_ddd _) rfl))
def c46_aaaa (x : Y45) : List V := [nI x.1, aL c24_aaa x.2]
theorem zc46_aaaa (x : Y45) : (c46_aaaa x).length = 2 := rfl
theorem ec46_aaaa (x : Y45) : erL (c46_aaaa x) = c46_dddd x := (erc rfl (erc (erG ec24_aaa _) rfl))
def c231_d (x : Y194) : List V := [.str x.1, dL ci64 x.2]
theorem zc231_d (x : Y194) : (c231_d x).length = 2 := rfl
theorem ec231_d (x : Y194) : erL (c231_d x) = c231_d x := (erc rfl (erc (erD eci64 _) rfl))
def c231_a (x : Y194) : List V := [.str x.1, aL ci64 x.2]
theorem zc231_a (x : Y194) : (c231_a x).length = 2 := rfl
theorem ec231_a (x : Y194) : erL (c231_a x) = c231_d x := (erc rfl (erc (erG eci64 _) rfl))
def c77_dd (x : List Y194) : List V := [dL c231_d x]
theorem zc77_dd (x : List Y194) : (c77_dd x).length = 1 := rfl
theorem ec77_dd (x : List Y194) : erL (c77_dd x) = c77_dd x := (erc (erD ec231_d _) rfl)
def c77_aa (x : List Y194) : List V := [aL c231_a x]
theorem zc77_aa (x : List Y194) : (c77_aa x).length = 1 := rfl
theorem ec77_aa (x : List Y194) : erL (c77_aa x) = c77_dd x := (erc (erG ec231_a _) rfl)
abbrev Y78 := Int × (List Y194) × (List Int)
def c79_ddd (x : Y78) : List V := [nI x.1, dL c231_d x.2.1, dL ci64 x.2.2]
theorem zc79_ddd (x : Y78) : (c79_ddd x).length = 3 := rfl
theorem ec79_ddd (x : Y78) : erL (c79_ddd x) = c79_ddd x := (erc rfl (erc (erD ec231_d _) (erc (erD eci64 _) rfl)))
def c79_aaa (x : Y78) : List V := [nI x.1, aL c231_a x.2.1, aL ci64 x.2.2]
theorem zc79_aaa (x : Y78) : (c79_aaa x).length = 3 := rfl
theorem ec79_aaa (x : Y78) : erL (c79_aaa x) = c79_ddd x := (erc rfl (erc (erG ec231_a _) (erc (erG eci64 _) rfl)))
theorem ad25 (x : List Int) : argdL (c25_a x) = true := (adc (ada (fun _ => rfl) _) rfl)
theorem up25 (x : List Int) : Ups (c25_d x) (c25_a x) := (upc (upd_ ci64_up _) upn)
theorem ad82 (x : List (List Int)) : argdL (c82_aa x) = true := (adc (ada ad25 _) rfl)
theorem up82 (x : List (List Int)) : Ups (c82_dd x) (c82_aa x) := (upc (upd_ up25 _) upn)
theorem ad204 (x : Y127) : argdL (c204_aa x) = true := (adc rfl (adc (ada ad25 _) rfl))
theorem up204 (x : Y127) : Ups (c204_dd x) (c204_aa x) := (upc ⟨rfl, rfl⟩ (upc (upd_ up25 _) upn))
theorem ad206 (x : Y205) : argdL (c206_aa x) = true := (adc rfl (adc rfl (adc (ada ad25 _) rfl)))
theorem up206 (x : Y205) : Ups (c206_dd x) (c206_aa x) := (upc ⟨rfl, rfl⟩ (upc ⟨rfl, rfl⟩ (upc (upd_ up25 _) upn)))
theorem ad22 (x : List Y205) : argdL (c22_aaa x) = true := (adc (ada ad206 _) rfl)
theorem up22 (x : List Y205) : Ups (c22_ddd x) (c22_aaa x) := (upc (upd_ up206 _) upn)
theorem ad24 (x : List Y205) : argdL (c24_aaa x) = true := (adc (ada ad206 _) rfl)
theorem up24 (x : List Y205) : Ups (c24_ddd x) (c24_aaa x) := (upc (upd_ up206 _) upn)
theorem ad44 (x : List (List Y205)) : argdL (c44_aaaa x) = true := (adc (ada ad24 _) rfl)
theorem up44 (x : List (List Y205)) : Ups (c44_dddd x) (c44_aaaa x) := (upc (upd_ up24 _) upn)
theorem ad46 (x : Y45) : argdL (c46_aaaa x) = true := (adc rfl (adc (ada ad24 _) rfl))
theorem up46 (x : Y45) : Ups (c46_dddd x) (c46_aaaa x) := (upc ⟨rfl, rfl⟩ (upc (upd_ up24 _) upn))
theorem ad231 (x : Y194) : argdL (c231_a x) = true := (adc rfl (adc (ada (fun _ => rfl) _) rfl))
theorem up231 (x : Y194) : Ups (c231_d x) (c231_a x) := (upc ⟨rfl, rfl⟩ (upc (upd_ ci64_up _) upn))
theorem ad77 (x : List Y194) : argdL (c77_aa x) = true := (adc (ada ad231 _) rfl)
theorem up77 (x : List Y194) : Ups (c77_dd x) (c77_aa x) := (upc (upd_ up231 _) upn)
theorem ad79 (x : Y78) : argdL (c79_aaa x) = true := (adc rfl (adc (ada ad231 _) (adc (ada (fun _ => rfl) _) rfl)))
theorem up79 (x : Y78) : Ups (c79_ddd x) (c79_aaa x) := (upc ⟨rfl, rfl⟩ (upc (upd_ up231 _) (upc (upd_ ci64_up _) upn)))
end Go.Proofs.Ytkcfahfladikkaa
