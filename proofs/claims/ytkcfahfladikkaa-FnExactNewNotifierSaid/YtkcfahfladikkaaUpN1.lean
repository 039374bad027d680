/-
  The laws' arguments as data that stay whole, printed by genlaw.py. No conditions.
-/
import Derived.Test.YtkcfahfladikkaaKc
import Derived.Test.YtkcfahfladikkaaMfN1
namespace Go.Proofs.Ytkcfahfladikkaa
open Go.RowKit
set_option linter.unusedVariables false
def c25_a (x : List Int) : List V := [.arg x.length (x.flatMap ci64)]
theorem zc25_a (x : List Int) : (c25_a x).length = 1 := rfl
theorem ec25_a (x : List Int) : erL (c25_a x) = c25_d x := (erc (erG eci64 _) rfl)
def c82_aa (x : List (List Int)) : List V := [.arg x.length (x.flatMap c25_a)]
theorem zc82_aa (x : List (List Int)) : (c82_aa x).length = 1 := rfl
theorem ec82_aa (x : List (List Int)) : erL (c82_aa x) = c82_dd x := (erc (erG ec25_a _) rfl)
def c204_dd (x : Int × (List (List Int))) : List V := [.int .i64 x.1, .dat x.2.length (x.2.flatMap c25_d)]
theorem zc204_dd (x : Int × (List (List Int))) : (c204_dd x).length = 2 := rfl
theorem ec204_dd (x : Int × (List (List Int))) : erL (c204_dd x) = c204_dd x := (erc rfl (erc (erD ec25_d _) rfl))
def c204_aa (x : Int × (List (List Int))) : List V := [.int .i64 x.1, .arg x.2.length (x.2.flatMap c25_a)]
theorem zc204_aa (x : Int × (List (List Int))) : (c204_aa x).length = 2 := rfl
theorem ec204_aa (x : Int × (List (List Int))) : erL (c204_aa x) = c204_dd x := (erc rfl (erc (erG ec25_a _) rfl))
def c206_dd (x : (List UInt8) × (Int × (List (List Int)))) : List V := [.str x.1, .int .i64 x.2.1, .dat x.2.2.length (x.2.2.flatMap c25_d)]
theorem zc206_dd (x : (List UInt8) × (Int × (List (List Int)))) : (c206_dd x).length = 3 := rfl
theorem ec206_dd (x : (List UInt8) × (Int × (List (List Int)))) : erL (c206_dd x) = c206_dd x := (erc rfl (erc rfl (erc (erD ec25_d _) rfl)))
def c206_aa (x : (List UInt8) × (Int × (List (List Int)))) : List V := [.str x.1, .int .i64 x.2.1, .arg x.2.2.length (x.2.2.flatMap c25_a)]
theorem zc206_aa (x : (List UInt8) × (Int × (List (List Int)))) : (c206_aa x).length = 3 := rfl
theorem ec206_aa (x : (List UInt8) × (Int × (List (List Int)))) : erL (c206_aa x) = c206_dd x := (erc rfl (erc rfl (erc (erG ec25_a _) rfl)))
def c22_ddd (x : List ((List UInt8) × (Int × (List (List Int))))) : List V := [.dat x.length (x.flatMap c206_dd)]
theorem zc22_ddd (x : List ((List UInt8) × (Int × (List (List Int))))) : (c22_ddd x).length = 1 := rfl
theorem ec22_ddd (x : List ((List UInt8) × (Int × (List (List Int))))) : erL (c22_ddd x) = c22_ddd x := (erc (erD ec206_dd _) rfl)
def c22_aaa (x : List ((List UInt8) × (Int × (List (List Int))))) : List V := [.arg x.length (x.flatMap c206_aa)]
theorem zc22_aaa (x : List ((List UInt8) × (Int × (List (List Int))))) : (c22_aaa x).length = 1 := rfl
theorem ec22_aaa (x : List ((List UInt8) × (Int × (List (List Int))))) : erL (c22_aaa x) = c22_ddd x := (erc (erG ec206_aa _) rfl)
def c24_ddd (x : (List ((List UInt8) × (Int × (List (List Int)))))) : List V := [.dat x.length (x.flatMap c206_dd)]
theorem zc24_ddd (x : (List ((List UInt8) × (Int × (List (List Int)))))) : (c24_ddd x).length = 1 := rfl
theorem ec24_ddd (x : (List ((List UInt8) × (Int × (List (List Int)))))) : erL (c24_ddd x) = c24_ddd x := (erc (erD ec206_dd _) rfl)
def c24_aaa (x : (List ((List UInt8) × (Int × (List (List Int)))))) : List V := [.arg x.length (x.flatMap c206_aa)]
theorem zc24_aaa (x : (List ((List UInt8) × (Int × (List (List Int)))))) : (c24_aaa x).length = 1 := rfl
theorem ec24_aaa (x : (List ((List UInt8) × (Int × (List (List Int)))))) : erL (c24_aaa x) = c24_ddd x := (erc (erG ec206_aa _) rfl)
theorem ad25 (x : List Int) : argdL (c25_a x) = true := (adc (ada (fun _ => rfl) _) rfl)
theorem up25 (x : List Int) : Ups (c25_d x) (c25_a x) := (upc (upd_ ci64_up _) upn)
theorem ad82 (x : List (List Int)) : argdL (c82_aa x) = true := (adc (ada ad25 _) rfl)
theorem up82 (x : List (List Int)) : Ups (c82_dd x) (c82_aa x) := (upc (upd_ up25 _) upn)
theorem ad204 (x : Int × (List (List Int))) : argdL (c204_aa x) = true := (adc rfl (adc (ada ad25 _) rfl))
theorem up204 (x : Int × (List (List Int))) : Ups (c204_dd x) (c204_aa x) := (upc ⟨rfl, rfl⟩ (upc (upd_ up25 _) upn))
theorem ad206 (x : (List UInt8) × (Int × (List (List Int)))) : argdL (c206_aa x) = true := (adc rfl (adc rfl (adc (ada ad25 _) rfl)))
theorem up206 (x : (List UInt8) × (Int × (List (List Int)))) : Ups (c206_dd x) (c206_aa x) := (upc ⟨rfl, rfl⟩ (upc ⟨rfl, rfl⟩ (upc (upd_ up25 _) upn)))
theorem ad22 (x : List ((List UInt8) × (Int × (List (List Int))))) : argdL (c22_aaa x) = true := (adc (ada ad206 _) rfl)
theorem up22 (x : List ((List UInt8) × (Int × (List (List Int))))) : Ups (c22_ddd x) (c22_aaa x) := (upc (upd_ up206 _) upn)
theorem ad24 (x : (List ((List UInt8) × (Int × (List (List Int)))))) : argdL (c24_aaa x) = true := (adc (ada ad206 _) rfl)
theorem up24 (x : (List ((List UInt8) × (Int × (List (List Int)))))) : Ups (c24_ddd x) (c24_aaa x) := (upc (upd_ up206 _) upn)
end Go.Proofs.Ytkcfahfladikkaa
