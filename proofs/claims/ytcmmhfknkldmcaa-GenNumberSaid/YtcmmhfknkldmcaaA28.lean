/-
  Two aggregates that are compared. No condition beyond those that each theorem states.
-/
import Derived.Test.YtcmmhfknkldmcaaA19
namespace Go.Proofs.Ytcmmhfknkldmcaa
open Go.RowKit

section
variable {P : Program} {n : Nat} {R : Exit → Act → World → Prop} {k : Kt} {σ : Env} {w : World} {ops : Array Oper} {rest : List Oper} {d : Nat}
variable {ty : TypeId} {pos : String} {af : Array Edge} {g : Option (Nat × Bool)}
theorem WL.eqAggO {xT yT : TypeId} {x y : Operand} {xs ys : Array Value} (r : Bool) (hf : P.underlying xT = some (.struct (P.fieldsOf xT))) (hs : P.stoodInHeld xT = false) (hm : P.eqGuardType P.depth xT = false)
    (he : ∀ w, (Op.eqFields 9999 xs ys (P.fieldsOf xT).toList).run P w = .ok r w) (hg : want ops σ g = some true) (hd : Nat.blt d n = true)
    (hx : ev σ x = some (.agg xs)) (hy : ev σ y = some (.agg ys))
    (h : WL P n R ops rest k ((d, .bool r) :: σ) w) : WL P n R ops (⟨some d, .binOp .eql xT x y yT, ty, pos, af, g⟩ :: rest) k σ w :=
  WL.valW (o := ⟨some d, .binOp .eql xT x y yT, ty, pos, af, g⟩) hg hd (fun a ha => by
    have h1 := run_eql_struct (P := P) w xT xs ys
    rw [run_equalIn_agg w 9999 xT xs ys hf hs, he w] at h1
    simp [execOp, ha.eval hx, ha.eval hy, run_eqGuard_agg, hm, h1]) h
end
end Go.Proofs.Ytcmmhfknkldmcaa
