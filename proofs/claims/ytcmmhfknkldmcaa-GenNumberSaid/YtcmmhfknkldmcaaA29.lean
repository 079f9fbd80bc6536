/-
  Strings put together, in the walks of these claims. No condition beyond those that each theorem states.
-/
import Derived.Test.YtcmmhfknkldmcaaA24
namespace Go.Proofs.Ytcmmhfknkldmcaa
open Go.RowKit
section
variable {P : Program} {n : Nat} {R : Exit → Act → World → Prop} {k : Kt} {σ : Env} {w : World} {ops : Array Oper} {rest : List Oper}
variable {d : Nat} {ty : TypeId} {pos : String} {af : Array Edge} {g : Option (Nat × Bool)}
end
end Go.Proofs.Ytcmmhfknkldmcaa
