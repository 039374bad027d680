/-
  The printed functions. No conditions.
-/
import Derived.Test.YtceghmdneadhbaaGreatGScVN1
