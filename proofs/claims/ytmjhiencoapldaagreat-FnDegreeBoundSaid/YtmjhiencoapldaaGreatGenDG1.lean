/-
  The printed functions. No conditions.
-/
import Derived.Test.YtmjhiencoapldaaGreatGScDG1
