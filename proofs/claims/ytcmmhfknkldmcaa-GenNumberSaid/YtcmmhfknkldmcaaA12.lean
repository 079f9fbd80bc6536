/-
  Maps that the call makes itself, in the walks of these claims: made, stored into, asked, asked with 'ok', taken from. No condition beyond those that each theorem states.
-/
import Derived.Test.YtcmmhfknkldmcaaA11
import Derived.MapKept
namespace Go.Proofs.Ytcmmhfknkldmcaa
open Go.RowKit Go.MapKept

/-- What a map's entries say: of each key that is there, its value; at most n of them. -/
structure MapG {κ ν : Type} (kv : κ → Value) (vv : ν → Value) (es : Array MapEntry) (clock n : Nat) (g : κ → Option ν) : Prop where
  stamped : Stamped es clock
  size : es.size ≤ n
  key : ∀ x ∈ es.toList, ∃ k v, x.key = kv k ∧ x.val = vv v ∧ g k = some v
  has : ∀ k v, g k = some v → ∃ x ∈ es.toList, x.key = kv k ∧ x.val = vv v
structure KeyE {κ : Type} (d : TypeDesc) (kv : κ → Value) : Prop where
  key : ∀ k, IsKey d (kv k)
  inj : ∀ a b, kv a = kv b → a = b
section
variable {κ ν : Type} {kv : κ → Value} {vv : ν → Value} {es : Array MapEntry} {clock n : Nat} {g : κ → Option ν} {d : TypeDesc}
theorem MapG.mono (h : MapG kv vv es clock n g) {n' : Nat} (hn : n ≤ n') : MapG kv vv es clock n' g := ⟨h.stamped, Nat.le_trans h.size hn, h.key, h.has⟩
variable {P : Program} {w : World} {mty kt et : TypeId} {b : Nat}
variable [DecidableEq κ]
end
section
variable {P : Program} {n : Nat} {R : Exit → Act → World → Prop} {k : Kt} {σ : Env} {w : World} {ops : Array Oper} {rest : List Oper}
variable {d : Nat} {ty : TypeId} {pos : String} {af : Array Edge} {gd : Option (Nat × Bool)}
variable {w0 ws : World} {ro : Nat → Prop} {L : List (Nat × Obj)} {Rs : List Row}
variable {κ ν : Type} {kv : κ → Value} {vv : ν → Value} {es : Array MapEntry} {clock m : Nat} {g : κ → Option ν} {dk : TypeDesc} {mty kt et b : Nat}
end
end Go.Proofs.Ytcmmhfknkldmcaa
