/-
  The printed functions. No conditions.
-/
import Derived.Test.YtmioifafgbjjhaaGSbW1
