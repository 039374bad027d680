/-
  The printed functions. No conditions.
-/
import Derived.Test.YtkcfahfladikkaaGSbN1
