/-
 The printed functions. No conditions.
-/
import Derived.Test.YtpcbnmcfplioeaaGreatGSdNC1
