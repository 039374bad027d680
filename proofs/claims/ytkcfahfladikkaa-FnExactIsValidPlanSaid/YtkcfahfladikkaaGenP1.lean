/-
  The printed functions. No conditions.
-/
import Derived.Test.YtkcfahfladikkaaGSbP1
