/-
  The printed functions. No conditions.
-/
import Derived.Test.YtcoalfphehhadaaGSbSS1
