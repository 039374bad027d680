/-
  The printed functions. No conditions.
-/
import Derived.Test.YtcoalfphehhadaaGScFB1
