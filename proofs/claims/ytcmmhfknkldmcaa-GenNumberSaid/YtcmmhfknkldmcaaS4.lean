/-
  Contracts of layer 16 (slot). No condition beyond those that each theorem states.
-/
import Derived.Test.YtcmmhfknkldmcaaC2
namespace Go.Proofs.Ytcmmhfknkldmcaa
open Go.RowKit
/-- What holds of what is taken and given so far. -/
structure Given16 (b : DBlock) (v : Nat) (T : Int → Option Int) (out : List Int) : Prop where
  len : out.length = v
  key : ∀ k l, T k = some l → k ∈ out
  out : ∀ x ∈ out, 0 ≤ x ∧ x ≤ 2000
end Go.Proofs.Ytcmmhfknkldmcaa

namespace Go.Proofs.Ytcmmhfknkldmcaa
open Go.RowKit

end Go.Proofs.Ytcmmhfknkldmcaa
