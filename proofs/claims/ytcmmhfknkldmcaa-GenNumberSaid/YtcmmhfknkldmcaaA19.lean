/-
  Two structs that are compared. No condition beyond those that each theorem states.
-/
import Derived.Test.YtcmmhfknkldmcaaA15
import Derived.RangeFuncNested
namespace Go.Proofs.Ytcmmhfknkldmcaa
open Go.RowKit

section
variable {P : Program} {n : Nat} {R : Exit → Act → World → Prop} {k : Kt} {σ : Env} {w : World} {ops : Array Oper} {rest : List Oper} {d : Nat}
variable {ty : TypeId} {pos : String} {af : Array Edge} {g : Option (Nat × Bool)}
end
end Go.Proofs.Ytcmmhfknkldmcaa

namespace Go.Proofs.Ytcmmhfknkldmcaa
open Go.RowKit

end Go.Proofs.Ytcmmhfknkldmcaa

namespace Go.Proofs.Ytcmmhfknkldmcaa
open Go.RowKit

end Go.Proofs.Ytcmmhfknkldmcaa

namespace Go.Proofs.Ytcmmhfknkldmcaa
open Go.RowKit

end Go.Proofs.Ytcmmhfknkldmcaa
