/-
  The last contracts, and the way from a contract to a row. No condition beyond those that each theorem states.
-/
import Derived.Test.YtokkiaokpfediaaX1
import Derived.Test.YtokkiaokpfediaaO
