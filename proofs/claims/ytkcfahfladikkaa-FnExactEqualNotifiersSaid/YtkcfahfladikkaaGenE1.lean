/-
  The printed functions. No conditions.
-/
import Derived.Test.YtkcfahfladikkaaGSbE1
