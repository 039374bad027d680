/-
  The printed functions. No conditions.
-/
import Derived.Test.YtkcfahfladikkaaGSbV1
