/-
  The laws' arguments as data that stay whole, printed by genlaw.py. No conditions.
-/
import Derived.Test.YtkmkbpphdalgoaaKc
import Derived.Test.YtkmkbpphdalgoaaMfc
namespace Go.Proofs.Ytkmkbpphdalgoaa
open Go.RowKit
set_option linter.unusedVariables false
def c30_a (x : List Int) : List V := [.arg x.length (x.flatMap ci64)]
theorem zc30_a (x : List Int) : (c30_a x).length = 1 := rfl
theorem ec30_a (x : List Int) : erL (c30_a x) = c30_d x := (erc (erG eci64 _) rfl)
def c171_d (x : (List UInt8) × (List Int)) : List V := [.str x.1, .dat x.2.length (x.2.flatMap ci64)]
theorem zc171_d (x : (List UInt8) × (List Int)) : (c171_d x).length = 2 := rfl
theorem ec171_d (x : (List UInt8) × (List Int)) : erL (c171_d x) = c171_d x := (erc rfl (erc (erD eci64 _) rfl))
def c171_a (x : (List UInt8) × (List Int)) : List V := [.str x.1, .arg x.2.length (x.2.flatMap ci64)]
theorem zc171_a (x : (List UInt8) × (List Int)) : (c171_a x).length = 2 := rfl
theorem ec171_a (x : (List UInt8) × (List Int)) : erL (c171_a x) = c171_d x := (erc rfl (erc (erG eci64 _) rfl))
def c48_dd (x : List ((List UInt8) × (List Int))) : List V := [.dat x.length (x.flatMap c171_d)]
theorem zc48_dd (x : List ((List UInt8) × (List Int))) : (c48_dd x).length = 1 := rfl
theorem ec48_dd (x : List ((List UInt8) × (List Int))) : erL (c48_dd x) = c48_dd x := (erc (erD ec171_d _) rfl)
def c48_aa (x : List ((List UInt8) × (List Int))) : List V := [.arg x.length (x.flatMap c171_a)]
theorem zc48_aa (x : List ((List UInt8) × (List Int))) : (c48_aa x).length = 1 := rfl
theorem ec48_aa (x : List ((List UInt8) × (List Int))) : erL (c48_aa x) = c48_dd x := (erc (erG ec171_a _) rfl)
def c50_ddd (x : Int × (List ((List UInt8) × (List Int))) × (List Int)) : List V := [.int .i64 x.1, .dat x.2.1.length (x.2.1.flatMap c171_d), .dat x.2.2.length (x.2.2.flatMap ci64)]
theorem zc50_ddd (x : Int × (List ((List UInt8) × (List Int))) × (List Int)) : (c50_ddd x).length = 3 := rfl
theorem ec50_ddd (x : Int × (List ((List UInt8) × (List Int))) × (List Int)) : erL (c50_ddd x) = c50_ddd x := (erc rfl (erc (erD ec171_d _) (erc (erD eci64 _) rfl)))
def c50_aaa (x : Int × (List ((List UInt8) × (List Int))) × (List Int)) : List V := [.int .i64 x.1, .arg x.2.1.length (x.2.1.flatMap c171_a), .arg x.2.2.length (x.2.2.flatMap ci64)]
theorem zc50_aaa (x : Int × (List ((List UInt8) × (List Int))) × (List Int)) : (c50_aaa x).length = 3 := rfl
theorem ec50_aaa (x : Int × (List ((List UInt8) × (List Int))) × (List Int)) : erL (c50_aaa x) = c50_ddd x := (erc rfl (erc (erG ec171_a _) (erc (erG eci64 _) rfl)))
def c83_d (x : (List UInt8) × (List Int) × Int) : List V := [.str x.1, .dat x.2.1.length (x.2.1.flatMap ci64), .int .i64 x.2.2]
theorem zc83_d (x : (List UInt8) × (List Int) × Int) : (c83_d x).length = 3 := rfl
theorem ec83_d (x : (List UInt8) × (List Int) × Int) : erL (c83_d x) = c83_d x := (erc rfl (erc (erD eci64 _) (erc rfl rfl)))
def c83_a (x : (List UInt8) × (List Int) × Int) : List V := [.str x.1, .arg x.2.1.length (x.2.1.flatMap ci64), .int .i64 x.2.2]
theorem zc83_a (x : (List UInt8) × (List Int) × Int) : (c83_a x).length = 3 := rfl
theorem ec83_a (x : (List UInt8) × (List Int) × Int) : erL (c83_a x) = c83_d x := (erc rfl (erc (erG eci64 _) (erc rfl rfl)))
def c111_dd (x : List ((List UInt8) × (List Int) × Int)) : List V := [.dat x.length (x.flatMap c83_d)]
theorem zc111_dd (x : List ((List UInt8) × (List Int) × Int)) : (c111_dd x).length = 1 := rfl
theorem ec111_dd (x : List ((List UInt8) × (List Int) × Int)) : erL (c111_dd x) = c111_dd x := (erc (erD ec83_d _) rfl)
def c111_aa (x : List ((List UInt8) × (List Int) × Int)) : List V := [.arg x.length (x.flatMap c83_a)]
theorem zc111_aa (x : List ((List UInt8) × (List Int) × Int)) : (c111_aa x).length = 1 := rfl
theorem ec111_aa (x : List ((List UInt8) × (List Int) × Int)) : erL (c111_aa x) = c111_dd x := (erc (erG ec83_a _) rfl)
theorem ad30 (x : List Int) : argdL (c30_a x) = true := (adc (ada (fun _ => rfl) _) rfl)
theorem up30 (x : List Int) : Ups (c30_d x) (c30_a x) := (upc (upd_ ci64_up _) upn)
theorem ad171 (x : (List UInt8) × (List Int)) : argdL (c171_a x) = true := (adc rfl (adc (ada (fun _ => rfl) _) rfl))
theorem up171 (x : (List UInt8) × (List Int)) : Ups (c171_d x) (c171_a x) := (upc ⟨rfl, rfl⟩ (upc (upd_ ci64_up _) upn))
theorem ad48 (x : List ((List UInt8) × (List Int))) : argdL (c48_aa x) = true := (adc (ada ad171 _) rfl)
theorem up48 (x : List ((List UInt8) × (List Int))) : Ups (c48_dd x) (c48_aa x) := (upc (upd_ up171 _) upn)
theorem ad50 (x : Int × (List ((List UInt8) × (List Int))) × (List Int)) : argdL (c50_aaa x) = true := (adc rfl (adc (ada ad171 _) (adc (ada (fun _ => rfl) _) rfl)))
theorem up50 (x : Int × (List ((List UInt8) × (List Int))) × (List Int)) : Ups (c50_ddd x) (c50_aaa x) := (upc ⟨rfl, rfl⟩ (upc (upd_ up171 _) (upc (upd_ ci64_up _) upn)))
theorem ad83 (x : (List UInt8) × (List Int) × Int) : argdL (c83_a x) = true := (adc rfl (adc (ada (fun _ => rfl) _) (adc rfl rfl)))
theorem up83 (x : (List UInt8) × (List Int) × Int) : Ups (c83_d x) (c83_a x) := (upc ⟨rfl, rfl⟩ (upc (upd_ ci64_up _) (upc ⟨rfl, rfl⟩ upn)))
theorem ad111 (x : List ((List UInt8) × (List Int) × Int)) : argdL (c111_aa x) = true := (adc (ada ad83 _) rfl)
theorem up111 (x : List ((List UInt8) × (List Int) × Int)) : Ups (c111_dd x) (c111_aa x) := (upc (upd_ up83 _) upn)
end Go.Proofs.Ytkmkbpphdalgoaa
