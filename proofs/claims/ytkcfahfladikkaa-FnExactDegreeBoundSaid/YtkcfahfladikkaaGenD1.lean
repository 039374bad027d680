/-
  The printed functions. No conditions.
-/
import Derived.Test.YtkcfahfladikkaaGSbD1
