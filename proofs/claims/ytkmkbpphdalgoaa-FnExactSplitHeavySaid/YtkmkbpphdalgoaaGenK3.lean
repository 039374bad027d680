/-
  The printed functions. No conditions.
-/
import Derived.Test.YtkmkbpphdalgoaaGSbK3
