/-
  The printed functions. No conditions.
-/
import Derived.Test.YtkcfahfladikkaaGSQ1
