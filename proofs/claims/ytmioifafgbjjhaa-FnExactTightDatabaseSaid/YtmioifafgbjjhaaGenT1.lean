/-
  The printed functions. No conditions.
-/
import Derived.Test.YtmioifafgbjjhaaGSbT1
