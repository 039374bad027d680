/-
  The laws' arguments as data that stay whole, printed by genlaw.py. No conditions.
-/
import Derived.Test.YtkmkbpphdalgoaaKc
import Derived.Test.YtkmkbpphdalgoaaMfK3
namespace Go.Proofs.Ytkmkbpphdalgoaa
open Go.RowKit
set_option linter.unusedVariables false
def c30_a (x : List Int) : List V := [.arg x.length (x.flatMap ci64)]
theorem zc30_a (x : List Int) : (c30_a x).length = 1 := rfl
theorem ec30_a (x : List Int) : erL (c30_a x) = c30_d x := (erc (erG eci64 _) rfl)
def c22_aa (x : List (List Int)) : List V := [.arg x.length (x.flatMap c30_a)]
theorem zc22_aa (x : List (List Int)) : (c22_aa x).length = 1 := rfl
theorem ec22_aa (x : List (List Int)) : erL (c22_aa x) = c22_dd x := (erc (erG ec30_a _) rfl)
def c42_dd (x : Int × (List (List Int))) : List V := [.int .i64 x.1, .dat x.2.length (x.2.flatMap c30_d)]
theorem zc42_dd (x : Int × (List (List Int))) : (c42_dd x).length = 2 := rfl
theorem ec42_dd (x : Int × (List (List Int))) : erL (c42_dd x) = c42_dd x := (erc rfl (erc (erD ec30_d _) rfl))
def c42_aa (x : Int × (List (List Int))) : List V := [.int .i64 x.1, .arg x.2.length (x.2.flatMap c30_a)]
theorem zc42_aa (x : Int × (List (List Int))) : (c42_aa x).length = 2 := rfl
theorem ec42_aa (x : Int × (List (List Int))) : erL (c42_aa x) = c42_dd x := (erc rfl (erc (erG ec30_a _) rfl))
theorem ad30 (x : List Int) : argdL (c30_a x) = true := (adc (ada (fun _ => rfl) _) rfl)
theorem up30 (x : List Int) : Ups (c30_d x) (c30_a x) := (upc (upd_ ci64_up _) upn)
theorem ad22 (x : List (List Int)) : argdL (c22_aa x) = true := (adc (ada ad30 _) rfl)
theorem up22 (x : List (List Int)) : Ups (c22_dd x) (c22_aa x) := (upc (upd_ up30 _) upn)
theorem ad42 (x : Int × (List (List Int))) : argdL (c42_aa x) = true := (adc rfl (adc (ada ad30 _) rfl))
theorem up42 (x : Int × (List (List Int))) : Ups (c42_dd x) (c42_aa x) := (upc ⟨rfl, rfl⟩ (upc (upd_ up30 _) upn))
end Go.Proofs.Ytkmkbpphdalgoaa
