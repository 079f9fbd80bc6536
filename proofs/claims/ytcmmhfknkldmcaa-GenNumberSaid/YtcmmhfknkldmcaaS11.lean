/-
  Contracts of layer 16 (slot). No condition beyond those that each theorem states.
-/
import Derived.Test.YtcmmhfknkldmcaaS4
namespace Go.Proofs.Ytcmmhfknkldmcaa
open Go.RowKit

structure RApart (b : DBlock) (l : List Int) : Prop where
  len : l.length = (last16 b).length
  nn : ∀ (v : Nat) x, l[v]? = some x → 0 ≤ x
  ap : ∀ (v w : Nat) x z, w < v → l[v]? = some x → l[w]? = some x → (last16 b)[w]? = some z → b.params ≤ v ∧ z ≤ v - b.params
/-- What stands between the steps: whose value is needed still holds its slot. -/
structure Inv16 (b : DBlock) (v : Nat) (T : Int → Option Int) (out : List Int) : Prop where
  low : ∀ w : Nat, w < v → (w : Int) < b.params → out[w]? = some (w : Int)
  held : ∀ (w : Nat) x z, w < v → out[w]? = some x → (last16 b)[w]? = some z → ((v : Int) ≤ b.params ∨ (v : Int) - 1 - b.params < z) → T x = some z
  ap : ∀ (u w : Nat) x z, w < u → out[u]? = some x → out[w]? = some x → (last16 b)[w]? = some z → b.params ≤ u ∧ z ≤ u - b.params
end Go.Proofs.Ytcmmhfknkldmcaa

namespace Go.Proofs.Ytcmmhfknkldmcaa
open Go.RowKit

/-- How slots are given: each one is 0, or one more than one that was given before. -/
structure Few16 (b : DBlock) (out : List Int) : Prop where
  step : ∀ (i : Nat) x, out[i]? = some x → 0 ≤ x ∧ x ≤ i ∧ (x = 0 ∨ x - 1 ∈ out.take i)
  low : ∀ (i : Nat) x, out[i]? = some x → (i : Int) < b.params → x = i
end Go.Proofs.Ytcmmhfknkldmcaa
