/-
  An own block that is only read from here on. No condition beyond those that each theorem states.
-/
import Derived.Test.YtdlcmhkfglckfaaA14
namespace Go.Proofs.Ytdlcmhkfglckfaa
open Go.RowKit

section
variable {w0 ws w : World} {ro : Nat → Prop} {L : List (Nat × Obj)} {Rs : List Row} {b : Nat} {o : Obj}
theorem St.give (h : St w0 ws w ro ((b, o) :: L) Rs) : St w0 w w (fun x => ro x ∨ x = b) L Rs := by
  have hk : b ∈ keysOf ((b, o) :: L) Rs := by simp [keysOf]
  have hnd := h.nodup
  simp only [keysOf, List.map_cons, List.cons_append, List.nodup_cons] at hnd
  refine ⟨h.below, fun x hx => ⟨hx.elim (fun hx => (h.snap x hx).1) (fun hx => by rw [hx]; exact (h.keys b hk).2.1), rfl⟩, fun p hp => h.own p (List.mem_cons_of_mem _ hp), h.rows, fun x hx => ?_, hnd.2⟩
  have hx' : x ∈ keysOf ((b, o) :: L) Rs := by simp only [keysOf, List.map_cons, List.cons_append]; exact List.mem_cons_of_mem _ hx
  obtain ⟨h1, h2, h3⟩ := h.keys x hx'
  exact ⟨h1, h2, fun hr => hr.elim h3 fun e => hnd.1 (by rw [← e]; exact hx)⟩
theorem St.giveAlike (h : St w0 ws w ro ((b, o) :: L) Rs) : Alike ro ws (fun x => ro x ∨ x = b) w := fun x hx => ⟨.inl hx, (h.snap x hx).2⟩
theorem St.giveLe (h : St w0 ws w ro ((b, o) :: L) Rs) : w0.heap.size ≤ b := (h.keys b (by simp [keysOf])).1
end
theorem stays_new {α : Type} {B sz : Nat} {Q : List Value → α → Prop} {xs : List α} : Stays fun v u => SlV (fun b => B ≤ b ∧ b < u.heap.size) u sz Q v xs := fun _ _ _ h hb =>
  h.keep (fun b hr => ⟨⟨hr.1, Nat.lt_of_lt_of_le hr.2 hb.size⟩, hb.block b hr.2⟩) fun _ _ q => q
theorem newUp {α : Type} {B sz : Nat} {Q : List Value → α → Prop} {xs : List α} {v : Value} {wd w' : World} (h : SlV (fun b => wd.heap.size ≤ b ∧ b < w'.heap.size) w' sz Q v xs) (hb : B ≤ wd.heap.size) : SlV (fun b => B ≤ b ∧ b < w'.heap.size) w' sz Q v xs :=
  h.keep (fun _ hr => ⟨⟨Nat.le_trans hb hr.1, hr.2⟩, rfl⟩) fun _ _ q => q
section
open Go.MapKept
variable {P : Program} {n : Nat} {R : Exit → Act → World → Prop} {k : Kt} {σ : Env} {w : World} {ops : Array Oper} {rest : List Oper}
variable {ty : TypeId} {pos : String} {af : Array Edge} {gd : Option (Nat × Bool)}
variable {w0 ws : World} {ro : Nat → Prop} {L : List (Nat × Obj)} {Rs : List Row}
variable {κ ν : Type} {kv : κ → Value} {vv : ν → Value} {es : Array MapEntry} {clock m : Nat} {g : κ → Option ν} {dk : TypeDesc} {mty kt et b : Nat}
end
end Go.Proofs.Ytdlcmhkfglckfaa

namespace Go.Proofs.Ytdlcmhkfglckfaa
open Go.RowKit

section
variable {P : Program} {n : Nat} {R : Exit → Act → World → Prop} {k : Kt} {σ : Env} {w : World} {ops : Array Oper} {rest : List Oper} {d : Nat}
variable {ty : TypeId} {pos : String} {af : Array Edge} {g : Option (Nat × Bool)}
theorem WL.neAgg {xT yT : TypeId} {x y : Operand} {xs ys : Array Value} (r : Bool) (hf : P.underlying xT = some (.struct (P.fieldsOf xT))) (hs : P.stoodInHeld xT = false) (hm : P.eqGuardType P.depth xT = false)
    (he : ∀ w, (Op.eqFields 9999 xs ys (P.fieldsOf xT).toList).run P w = .ok r w) (hg : want ops σ g = some true) (hd : Nat.blt d n = true)
    (hx : ev σ x = some (.agg xs)) (hy : ev σ y = some (.agg ys))
    (h : WL P n R ops rest k ((d, .bool (!r)) :: σ) w) : WL P n R ops (⟨some d, .binOp .neq xT x y yT, ty, pos, af, g⟩ :: rest) k σ w :=
  WL.valW (o := ⟨some d, .binOp .neq xT x y yT, ty, pos, af, g⟩) hg hd (fun a ha => by
    have h1 := run_neq_struct (P := P) w xT xs ys
    rw [run_equalIn_agg w 9999 xT xs ys hf hs, he w] at h1
    simp [execOp, ha.eval hx, ha.eval hy, run_eqGuard_agg, hm, h1]) h
end
/-- A global's fields, one by one. -/
theorem eqGlob {P : Program} {t : TypeId} {f0 f1 f2 f3 : Field} (hf : (P.fieldsOf t).toList = [f0, f1, f2, f3]) (n0 : f0.name ≠ "_") (n1 : f1.name ≠ "_") (n2 : f2.name ≠ "_") (n3 : f3.name ≠ "_")
    (o0 : f0.offset = 0) (o1 : f1.offset = 1) (o2 : f2.offset = 2) (o3 : f3.offset = 3) (k0 : P.plainKey f0.type = true) (k1 : P.plainKey f1.type = true) (k2 : P.plainKey f2.type = true) (k3 : P.plainKey f3.type = true)
    (u0 : P.underlying f0.type = some .string) (u1 : P.underlying f1.type = some (.int .i64)) (u2 : P.underlying f2.type = some .bool) (u3 : P.underlying f3.type = some (.int .u64)) (x y : DGlob) (w : World) :
    (Op.eqFields 9999 #[.string x.name, .int .i64 x.bind, .bool x.here, .int .u64 x.init] #[.string y.name, .int .i64 y.bind, .bool y.here, .int .u64 y.init] (P.fieldsOf t).toList).run P w = .ok (decide (x = y)) w := by
  rw [hf]
  have p0 : ∀ a b c e : Value, (part f0.type #[a, b, c, e] 0).run P w = .ok a w := fun _ _ _ _ => run_part_plain w k0 rfl
  have p1 : ∀ a b c e : Value, (part f1.type #[a, b, c, e] 1).run P w = .ok b w := fun _ _ _ _ => run_part_plain w k1 rfl
  have p2 : ∀ a b c e : Value, (part f2.type #[a, b, c, e] 2).run P w = .ok c w := fun _ _ _ _ => run_part_plain w k2 rfl
  have p3 : ∀ a b c e : Value, (part f3.type #[a, b, c, e] 3).run P w = .ok e w := fun _ _ _ _ => run_part_plain w k3 rfl
  have e0 := fun a b => run_equalIn_string (P := P) w 9998 _ a b u0
  have e1 := fun a b => run_equalIn_int (P := P) w 9998 _ .i64 _ a b u1
  have e2 := fun a b => run_equalIn_bool' (P := P) w 9998 _ a b u2
  have e3 := fun a b => run_equalIn_int (P := P) w 9998 _ .u64 _ a b u3
  obtain ⟨a, b, c, e⟩ := x
  obtain ⟨a', b', c', e'⟩ := y
  simp only [Op.eqFields, n0, n1, n2, n3, o0, o1, o2, o3, ne_eq, not_false_eq_true, if_true, Sem.run_bind, p0, p1, p2, p3, Result.andThen_ok, e0, e1, e2, e3, Sem.run_ite, Sem.run_pure, bytes_eq_iff, DGlob.mk.injEq]
  by_cases h0 : a = a' <;> by_cases h1 : b = b' <;> by_cases h2 : c = c' <;> by_cases h3 : e = e' <;> simp [h0, h1, h2, h3]
end Go.Proofs.Ytdlcmhkfglckfaa
