/-
  The printed functions. No conditions.
-/
import Derived.Test.YtmioifafgbjjhaaGSDV1
