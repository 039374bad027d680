/-
  The printed functions. No conditions.
-/
import Derived.Test.YtkcfahfladikkaaGSbF1
