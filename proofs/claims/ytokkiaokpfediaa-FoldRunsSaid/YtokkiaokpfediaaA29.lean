/-
  Strings put together, in the walks of these claims. No condition beyond those that each theorem states.
-/
import Derived.Test.YtokkiaokpfediaaA24
namespace Go.Proofs.Ytokkiaokpfediaa
open Go.RowKit
section
variable {P : Program} {n : Nat} {R : Exit → Act → World → Prop} {k : Kt} {σ : Env} {w : World} {ops : Array Oper} {rest : List Oper}
variable {d : Nat} {ty : TypeId} {pos : String} {af : Array Edge} {g : Option (Nat × Bool)}
theorem WL.addStr {xT yT : TypeId} {x y : Operand} {a b : ByteArray} (hg : want ops σ g = some true) (hd : Nat.blt d n = true)
    (hx : ev σ x = some (.string a)) (hy : ev σ y = some (.string b)) (hs : a.size + b.size ≤ 9223372036854775807)
    (h : WL P n R ops rest k ((d, .string (a ++ b)) :: σ) w) : WL P n R ops (⟨some d, .binOp .add xT x y yT, ty, pos, af, g⟩ :: rest) k σ w :=
  WL.valW (o := ⟨some d, .binOp .add xT x y yT, ty, pos, af, g⟩) hg hd (fun c hc => by
    have h1 : ¬ (((a.size + b.size : Nat) : Int) > IntKind.i64.max) := by
      have : IntKind.i64.max = 9223372036854775807 := by decide
      rw [this]; omega
    simp [execOp, hc.eval hx, hc.eval hy, binOp, Op.stringOp, eqGuard]
    have : IntKind.i64.max = 9223372036854775807 := by decide
    omega) h
end
end Go.Proofs.Ytokkiaokpfediaa
