/-
  The printed functions. No conditions.
-/
import Derived.Test.YtkclaipnejgloaaGreatDoorGSdIF1
