/-
  The printed functions. No conditions.
-/
import Derived.Test.YtcoalfphehhadaaGSbDU1
