/-
  The printed functions. No conditions.
-/
import Derived.Test.YtceghmdneadhbaaGreatGSdWA1
