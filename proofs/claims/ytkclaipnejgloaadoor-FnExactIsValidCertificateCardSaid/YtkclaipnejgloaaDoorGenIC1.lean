/-
  The printed functions. No conditions.
-/
import Derived.Test.YtkclaipnejgloaaDoorGSbIC1
