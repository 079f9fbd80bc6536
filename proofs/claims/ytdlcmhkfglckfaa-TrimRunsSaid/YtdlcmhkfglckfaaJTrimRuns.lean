/-
  The last contracts, and the way from a contract to a row. No condition beyond those that each theorem states.
-/
import Derived.Test.YtdlcmhkfglckfaaX3
import Derived.Test.YtdlcmhkfglckfaaO
