/-
  Contracts of the document's runs (marlineref07). No condition beyond those that each theorem states.
-/
import Derived.Test.YtokkiaokpfediaaT6
import Derived.Test.YtokkiaokpfediaaE0
namespace Go.Proofs.Ytokkiaokpfediaa
open Go.RowKit


end Go.Proofs.Ytokkiaokpfediaa
