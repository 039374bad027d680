/-
  The printed functions. No conditions.
-/
import Derived.Test.YtkmkbpphdalgoaaGSK4
