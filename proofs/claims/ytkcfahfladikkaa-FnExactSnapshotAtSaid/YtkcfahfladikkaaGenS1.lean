/-
  The printed functions. No conditions.
-/
import Derived.Test.YtkcfahfladikkaaGSbS1
