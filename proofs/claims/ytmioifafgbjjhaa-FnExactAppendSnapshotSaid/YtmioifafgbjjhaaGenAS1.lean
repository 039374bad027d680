/-
  The printed functions. No conditions.
-/
import Derived.Test.YtmioifafgbjjhaaGSbAS1
