/-
  Contracts of what is right (marlineref05). No condition beyond those that each theorem states.
-/
import Derived.Test.YtcmmhfknkldmcaaR5c
import Derived.Test.YtcmmhfknkldmcaaA15
namespace Go.Proofs.Ytcmmhfknkldmcaa
open Go.RowKit
def func5 (f : DFunc) : Bool :=
  if name5 f.name = false ∨ f.bind < 1 ∨ 3 < f.bind ∨ f.params < 0 ∨ 6 < f.params ∨ 16 < f.blocks.length then false
  else match f.blocks with
  | [] => decide (f.bind ≠ 1)
  | b :: _ => decide (b.params = f.params) && f.blocks.all (block5 f)

end Go.Proofs.Ytcmmhfknkldmcaa

namespace Go.Proofs.Ytcmmhfknkldmcaa
open Go.RowKit

end Go.Proofs.Ytcmmhfknkldmcaa

namespace Go.Proofs.Ytcmmhfknkldmcaa
open Go.RowKit

end Go.Proofs.Ytcmmhfknkldmcaa
