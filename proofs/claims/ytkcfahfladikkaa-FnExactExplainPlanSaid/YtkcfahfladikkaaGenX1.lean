/-
  The printed functions. No conditions.
-/
import Derived.Test.YtkcfahfladikkaaGSbX1
