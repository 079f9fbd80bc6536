/-
  An own array of values of one cell each, read and written at an index; a slice's own block in place of an own row; what a closure does to its caller's own memory. No condition beyond those that each theorem states.
-/
import Derived.Test.YtcmmhfknkldmcaaA12
namespace Go.Proofs.Ytcmmhfknkldmcaa
open Go.RowKit

section
variable {w0 ws w : World} {ro : Nat → Prop} {L : List (Nat × Obj)} {Rs : List Row} {α : Type} {f : α → Value} {t b : Nat} {u : List α}
end
section
variable {P : Program} {n : Nat} {R : Exit → Act → World → Prop} {k : Kt} {σ : Env} {w : World} {ops : Array Oper} {rest : List Oper}
variable {d : Nat} {ty : TypeId} {pos : String} {af : Array Edge} {g : Option (Nat × Bool)}
variable {w0 ws : World} {ro : Nat → Prop} {L : List (Nat × Obj)} {Rs : List Row} {α : Type} {f : α → Value} {t b : Nat} {u : List α}
end
end Go.Proofs.Ytcmmhfknkldmcaa
