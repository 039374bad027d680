/-
  The printed functions. No conditions.
-/
import Derived.Test.YtceghmdneadhbaaGreatGScAW1
