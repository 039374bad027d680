/-
  The printed functions. No conditions.
-/
import Derived.Test.YtlknpohjnpnodaaGreatGScAC1
