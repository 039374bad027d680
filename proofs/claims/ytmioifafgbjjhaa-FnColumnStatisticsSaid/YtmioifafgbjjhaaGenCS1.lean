/-
  The printed functions. No conditions.
-/
import Derived.Test.YtmioifafgbjjhaaGSCS1
