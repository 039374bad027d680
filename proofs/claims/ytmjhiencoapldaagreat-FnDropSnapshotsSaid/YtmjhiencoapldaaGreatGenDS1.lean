/-
  The printed functions. No conditions.
-/
import Derived.Test.YtmjhiencoapldaaGreatGScDS1
