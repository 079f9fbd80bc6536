/-
  Two structs that are compared. No condition beyond those that each theorem states.
-/
import Derived.Test.YtdlcmhkfglckfaaA15
namespace Go.Proofs.Ytdlcmhkfglckfaa
open Go.RowKit

section
variable {P : Program} {n : Nat} {R : Exit → Act → World → Prop} {k : Kt} {σ : Env} {w : World} {ops : Array Oper} {rest : List Oper} {d : Nat}
variable {ty : TypeId} {pos : String} {af : Array Edge} {g : Option (Nat × Bool)}
theorem WL.neAgg {xT yT : TypeId} {x y : Operand} {xs ys : Array Value} (r : Bool) (hf : P.underlying xT = some (.struct (P.fieldsOf xT))) (hs : P.stoodInHeld xT = false) (hm : P.eqGuardType P.depth xT = false)
    (he : ∀ w, (Op.eqFields 9999 xs ys (P.fieldsOf xT).toList).run P w = .ok r w) (hg : want ops σ g = some true) (hd : Nat.blt d n = true)
    (hx : ev σ x = some (.agg xs)) (hy : ev σ y = some (.agg ys))
    (h : WL P n R ops rest k ((d, .bool (!r)) :: σ) w) : WL P n R ops (⟨some d, .binOp .neq xT x y yT, ty, pos, af, g⟩ :: rest) k σ w :=
  WL.valW (o := ⟨some d, .binOp .neq xT x y yT, ty, pos, af, g⟩) hg hd (fun a ha => by
    have h1 := run_neq_struct (P := P) w xT xs ys
    rw [run_equalIn_agg w 9999 xT xs ys hf hs, he w] at h1
    simp [execOp, ha.eval hx, ha.eval hy, run_eqGuard_agg, hm, h1]) h
end
/-- A global's fields, one by one. -/
theorem eqGlob {P : Program} {t : TypeId} {f0 f1 f2 f3 : Field} (hf : (P.fieldsOf t).toList = [f0, f1, f2, f3]) (n0 : f0.name ≠ "_") (n1 : f1.name ≠ "_") (n2 : f2.name ≠ "_") (n3 : f3.name ≠ "_")
    (o0 : f0.offset = 0) (o1 : f1.offset = 1) (o2 : f2.offset = 2) (o3 : f3.offset = 3) (k0 : P.plainKey f0.type = true) (k1 : P.plainKey f1.type = true) (k2 : P.plainKey f2.type = true) (k3 : P.plainKey f3.type = true)
    (u0 : P.underlying f0.type = some .string) (u1 : P.underlying f1.type = some (.int .i64)) (u2 : P.underlying f2.type = some .bool) (u3 : P.underlying f3.type = some (.int .u64)) (x y : DGlob) (w : World) :
    (Op.eqFields 9999 #[.string x.name, .int .i64 x.bind, .bool x.here, .int .u64 x.init] #[.string y.name, .int .i64 y.bind, .bool y.here, .int .u64 y.init] (P.fieldsOf t).toList).run P w = .ok (decide (x = y)) w := by
  rw [hf]
  have p0 : ∀ a b c e : Value, (part f0.type #[a, b, c, e] 0).run P w = .ok a w := fun _ _ _ _ => run_part_plain w k0 rfl
  have p1 : ∀ a b c e : Value, (part f1.type #[a, b, c, e] 1).run P w = .ok b w := fun _ _ _ _ => run_part_plain w k1 rfl
  have p2 : ∀ a b c e : Value, (part f2.type #[a, b, c, e] 2).run P w = .ok c w := fun _ _ _ _ => run_part_plain w k2 rfl
  have p3 : ∀ a b c e : Value, (part f3.type #[a, b, c, e] 3).run P w = .ok e w := fun _ _ _ _ => run_part_plain w k3 rfl
  have e0 := fun a b => run_equalIn_string (P := P) w 9998 _ a b u0
  have e1 := fun a b => run_equalIn_int (P := P) w 9998 _ .i64 _ a b u1
  have e2 := fun a b => run_equalIn_bool' (P := P) w 9998 _ a b u2
  have e3 := fun a b => run_equalIn_int (P := P) w 9998 _ .u64 _ a b u3
  obtain ⟨a, b, c, e⟩ := x
  obtain ⟨a', b', c', e'⟩ := y
  simp only [Op.eqFields, n0, n1, n2, n3, o0, o1, o2, o3, ne_eq, not_false_eq_true, if_true, Sem.run_bind, p0, p1, p2, p3, Result.andThen_ok, e0, e1, e2, e3, Sem.run_ite, Sem.run_pure, bytes_eq_iff, DGlob.mk.injEq]
  by_cases h0 : a = a' <;> by_cases h1 : b = b' <;> by_cases h2 : c = c' <;> by_cases h3 : e = e' <;> simp [h0, h1, h2, h3]
end Go.Proofs.Ytdlcmhkfglckfaa
