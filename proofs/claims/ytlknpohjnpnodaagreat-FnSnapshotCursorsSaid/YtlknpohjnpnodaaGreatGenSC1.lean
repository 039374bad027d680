/-
  The printed functions. No conditions.
-/
import Derived.Test.YtlknpohjnpnodaaGreatGSdSC1
