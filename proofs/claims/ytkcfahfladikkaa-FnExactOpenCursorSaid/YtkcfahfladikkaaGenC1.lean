/-
  The printed functions. No conditions.
-/
import Derived.Test.YtkcfahfladikkaaGScC1
