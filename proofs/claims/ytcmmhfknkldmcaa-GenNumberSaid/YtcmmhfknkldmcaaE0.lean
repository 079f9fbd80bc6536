/-
  The byte of a string, in the walks of these claims. No condition beyond those that each theorem states.
-/
import Derived.Test.YtcmmhfknkldmcaaA31
import Derived.Laws.Strings
namespace Go.Proofs.Ytcmmhfknkldmcaa
open Go.RowKit
section
variable {P : Program} {n : Nat} {R : Exit → Act → World → Prop} {k : Kt} {σ : Env} {w : World} {ops : Array Oper} {rest : List Oper}
variable {d : Nat} {ty : TypeId} {pos : String} {af : Array Edge} {g : Option (Nat × Bool)}
theorem WL.indexStr {xT : TypeId} {x y : Operand} {s : ByteArray} {kk : IntKind} {i v : Int} (hu : P.underlying xT = some .string) (hg : want ops σ g = some true) (hd : Nat.blt d n = true)
    (hx : ev σ x = some (.string s)) (hy : ev σ y = some (.int kk i)) (h0 : 0 ≤ i) (h1 : i < s.size) (hv : (((s[i.toNat]'(by omega)).toNat : Nat) : Int) = v)
    (h : WL P n R ops rest k ((d, .int .u8 v) :: σ) w) : WL P n R ops (⟨some d, .index xT x y, ty, pos, af, g⟩ :: rest) k σ w :=
  WL.valW (o := ⟨some d, .index xT x y, ty, pos, af, g⟩) hg hd (fun c hc => by
    have hr := run_index_string (P := P) w xT s kk i hu
    rw [dif_pos ⟨h0, h1⟩] at hr
    subst hv
    simp [execOp, hc.eval hx, hc.eval hy, hr]) h
end
end Go.Proofs.Ytcmmhfknkldmcaa
