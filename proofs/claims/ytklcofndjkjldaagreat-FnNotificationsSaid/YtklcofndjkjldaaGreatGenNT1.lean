/-
  The printed functions. No conditions.
-/
import Derived.Test.YtklcofndjkjldaaGreatGSdNT1
