/-
  The words of the marks of numbers. No conditions.
-/
import Derived.Test.YtkcfahfladikkaaKd
import Derived.Test.YtkcfahfladikkaaLit2Q1
namespace Go.Proofs.Ytkcfahfladikkaa
open Go.RowKit
set_option linter.unusedVariables false
def mtx (_ : Int) : List UInt8 := []
def oneI (_ : Int) : Nat := 1
def markI (_ : Int) (k : Int) : Int := k
def oneS (_ : List UInt8) : Nat := 1
def markS (_ : List UInt8) (k : Int) : List UInt8 := mtx k
theorem hmI (x k : Int) : mkVs mtx (ci64 x) k = ci64 (markI x k) := rfl
theorem hcI (x : Int) : cntVs (ci64 x) = oneI x := rfl
theorem hmS (x : List UInt8) (k : Int) : mkVs mtx (cst x) k = cst (markS x k) := rfl
theorem hcS (x : List UInt8) : cntVs (cst x) = oneS x := rfl
end Go.Proofs.Ytkcfahfladikkaa
