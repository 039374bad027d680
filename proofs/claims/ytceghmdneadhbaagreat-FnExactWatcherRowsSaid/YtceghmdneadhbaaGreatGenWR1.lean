/-
  The printed functions. No conditions.
-/
import Derived.Test.YtceghmdneadhbaaGreatGScWR1
