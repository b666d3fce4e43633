/-
  What stands in the reader's texts already. No condition.
-/
import Derived.Test.YtmgafcblbbbanaaMe
