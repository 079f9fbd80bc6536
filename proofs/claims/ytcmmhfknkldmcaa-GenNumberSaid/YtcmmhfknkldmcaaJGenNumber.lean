/-
  The last contracts, and the way from a contract to a row. No condition beyond those that each theorem states.
-/
import Derived.Test.YtcmmhfknkldmcaaY12
import Derived.Test.YtcmmhfknkldmcaaA10
