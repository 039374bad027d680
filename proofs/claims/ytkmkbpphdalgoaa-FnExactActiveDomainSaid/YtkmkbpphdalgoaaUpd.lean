/-
  The laws' arguments as data that stay whole, printed by genlaw.py. No conditions.
-/
import Derived.Test.YtkmkbpphdalgoaaKc
import Derived.Test.YtkmkbpphdalgoaaMfd
namespace Go.Proofs.Ytkmkbpphdalgoaa
open Go.RowKit
set_option linter.unusedVariables false
def c30_a (x : List Int) : List V := [.arg x.length (x.flatMap ci64)]
theorem zc30_a (x : List Int) : (c30_a x).length = 1 := rfl
theorem ec30_a (x : List Int) : erL (c30_a x) = c30_d x := (erc (erG eci64 _) rfl)
def c22_aa (x : List (List Int)) : List V := [.arg x.length (x.flatMap c30_a)]
theorem zc22_aa (x : List (List Int)) : (c22_aa x).length = 1 := rfl
theorem ec22_aa (x : List (List Int)) : erL (c22_aa x) = c22_dd x := (erc (erG ec30_a _) rfl)
def c42_dd (x : Int × (List (List Int))) : List V := [.int .i64 x.1, .dat x.2.length (x.2.flatMap c30_d)]
theorem zc42_dd (x : Int × (List (List Int))) : (c42_dd x).length = 2 := rfl
theorem ec42_dd (x : Int × (List (List Int))) : erL (c42_dd x) = c42_dd x := (erc rfl (erc (erD ec30_d _) rfl))
def c42_aa (x : Int × (List (List Int))) : List V := [.int .i64 x.1, .arg x.2.length (x.2.flatMap c30_a)]
theorem zc42_aa (x : Int × (List (List Int))) : (c42_aa x).length = 2 := rfl
theorem ec42_aa (x : Int × (List (List Int))) : erL (c42_aa x) = c42_dd x := (erc rfl (erc (erG ec30_a _) rfl))
def c187_dd (x : (List UInt8) × (Int × (List (List Int)))) : List V := [.str x.1, .int .i64 x.2.1, .dat x.2.2.length (x.2.2.flatMap c30_d)]
theorem zc187_dd (x : (List UInt8) × (Int × (List (List Int)))) : (c187_dd x).length = 3 := rfl
theorem ec187_dd (x : (List UInt8) × (Int × (List (List Int)))) : erL (c187_dd x) = c187_dd x := (erc rfl (erc rfl (erc (erD ec30_d _) rfl)))
def c187_aa (x : (List UInt8) × (Int × (List (List Int)))) : List V := [.str x.1, .int .i64 x.2.1, .arg x.2.2.length (x.2.2.flatMap c30_a)]
theorem zc187_aa (x : (List UInt8) × (Int × (List (List Int)))) : (c187_aa x).length = 3 := rfl
theorem ec187_aa (x : (List UInt8) × (Int × (List (List Int)))) : erL (c187_aa x) = c187_dd x := (erc rfl (erc rfl (erc (erG ec30_a _) rfl)))
def c93_ddd (x : List ((List UInt8) × (Int × (List (List Int))))) : List V := [.dat x.length (x.flatMap c187_dd)]
theorem zc93_ddd (x : List ((List UInt8) × (Int × (List (List Int))))) : (c93_ddd x).length = 1 := rfl
theorem ec93_ddd (x : List ((List UInt8) × (Int × (List (List Int))))) : erL (c93_ddd x) = c93_ddd x := (erc (erD ec187_dd _) rfl)
def c93_aaa (x : List ((List UInt8) × (Int × (List (List Int))))) : List V := [.arg x.length (x.flatMap c187_aa)]
theorem zc93_aaa (x : List ((List UInt8) × (Int × (List (List Int))))) : (c93_aaa x).length = 1 := rfl
theorem ec93_aaa (x : List ((List UInt8) × (Int × (List (List Int))))) : erL (c93_aaa x) = c93_ddd x := (erc (erG ec187_aa _) rfl)
def c95_ddd (x : (List ((List UInt8) × (Int × (List (List Int)))))) : List V := [.dat x.length (x.flatMap c187_dd)]
theorem zc95_ddd (x : (List ((List UInt8) × (Int × (List (List Int)))))) : (c95_ddd x).length = 1 := rfl
theorem ec95_ddd (x : (List ((List UInt8) × (Int × (List (List Int)))))) : erL (c95_ddd x) = c95_ddd x := (erc (erD ec187_dd _) rfl)
def c95_aaa (x : (List ((List UInt8) × (Int × (List (List Int)))))) : List V := [.arg x.length (x.flatMap c187_aa)]
theorem zc95_aaa (x : (List ((List UInt8) × (Int × (List (List Int)))))) : (c95_aaa x).length = 1 := rfl
theorem ec95_aaa (x : (List ((List UInt8) × (Int × (List (List Int)))))) : erL (c95_aaa x) = c95_ddd x := (erc (erG ec187_aa _) rfl)
theorem ad30 (x : List Int) : argdL (c30_a x) = true := (adc (ada (fun _ => rfl) _) rfl)
theorem up30 (x : List Int) : Ups (c30_d x) (c30_a x) := (upc (upd_ ci64_up _) upn)
theorem ad22 (x : List (List Int)) : argdL (c22_aa x) = true := (adc (ada ad30 _) rfl)
theorem up22 (x : List (List Int)) : Ups (c22_dd x) (c22_aa x) := (upc (upd_ up30 _) upn)
theorem ad42 (x : Int × (List (List Int))) : argdL (c42_aa x) = true := (adc rfl (adc (ada ad30 _) rfl))
theorem up42 (x : Int × (List (List Int))) : Ups (c42_dd x) (c42_aa x) := (upc ⟨rfl, rfl⟩ (upc (upd_ up30 _) upn))
theorem ad187 (x : (List UInt8) × (Int × (List (List Int)))) : argdL (c187_aa x) = true := (adc rfl (adc rfl (adc (ada ad30 _) rfl)))
theorem up187 (x : (List UInt8) × (Int × (List (List Int)))) : Ups (c187_dd x) (c187_aa x) := (upc ⟨rfl, rfl⟩ (upc ⟨rfl, rfl⟩ (upc (upd_ up30 _) upn)))
theorem ad93 (x : List ((List UInt8) × (Int × (List (List Int))))) : argdL (c93_aaa x) = true := (adc (ada ad187 _) rfl)
theorem up93 (x : List ((List UInt8) × (Int × (List (List Int))))) : Ups (c93_ddd x) (c93_aaa x) := (upc (upd_ up187 _) upn)
theorem ad95 (x : (List ((List UInt8) × (Int × (List (List Int)))))) : argdL (c95_aaa x) = true := (adc (ada ad187 _) rfl)
theorem up95 (x : (List ((List UInt8) × (Int × (List (List Int)))))) : Ups (c95_ddd x) (c95_aaa x) := (upc (upd_ up187 _) upn)
end Go.Proofs.Ytkmkbpphdalgoaa
