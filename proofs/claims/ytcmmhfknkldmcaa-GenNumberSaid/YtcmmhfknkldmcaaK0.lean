/-
  What is right of a function as far as its frame goes; the instructions of the document's example. No condition beyond those that each theorem states.
-/
import Derived.Test.YtcmmhfknkldmcaaG2
import Derived.Test.YtcmmhfknkldmcaaA28
namespace Go.Proofs.Ytcmmhfknkldmcaa
open Go.RowKit
/-- What is right of a function, as these walks use it. -/
structure OkG (f : DFunc) : Prop where
  bl : f.blocks.length ≤ 16
  p0 : 0 ≤ f.params
  p1 : f.params ≤ 6
  ok : ∀ b ∈ f.blocks, Ok16 b
  pb : ∀ b ∈ f.blocks, b.params ≤ 6 ∧ b.ins.length ≤ 32
/-- An instruction's fields, one by one. -/
theorem eqOp {P : Program} {t : TypeId} {f0 f1 f2 f3 f4 : Field} (hf : (P.fieldsOf t).toList = [f0, f1, f2, f3, f4]) (n0 : f0.name ≠ "_") (n1 : f1.name ≠ "_") (n2 : f2.name ≠ "_") (n3 : f3.name ≠ "_") (n4 : f4.name ≠ "_")
    (o0 : f0.offset = 0) (o1 : f1.offset = 1) (o2 : f2.offset = 2) (o3 : f3.offset = 3) (o4 : f4.offset = 4) (k0 : P.plainKey f0.type = true) (k1 : P.plainKey f1.type = true) (k2 : P.plainKey f2.type = true) (k3 : P.plainKey f3.type = true) (k4 : P.plainKey f4.type = true)
    (u0 : P.underlying f0.type = some (.int .i64)) (u1 : P.underlying f1.type = some (.int .i64)) (u2 : P.underlying f2.type = some (.int .i64)) (u3 : P.underlying f3.type = some (.int .i64)) (u4 : P.underlying f4.type = some (.int .i64)) (x y : DOp) (w : World) :
    (Op.eqFields 9999 (opL x).toArray (opL y).toArray (P.fieldsOf t).toList).run P w = .ok (decide (x = y)) w := by
  rw [hf]
  have p0 : ∀ a b c e f : Value, (part f0.type #[a, b, c, e, f] 0).run P w = .ok a w := fun _ _ _ _ _ => run_part_plain w k0 rfl
  have p1 : ∀ a b c e f : Value, (part f1.type #[a, b, c, e, f] 1).run P w = .ok b w := fun _ _ _ _ _ => run_part_plain w k1 rfl
  have p2 : ∀ a b c e f : Value, (part f2.type #[a, b, c, e, f] 2).run P w = .ok c w := fun _ _ _ _ _ => run_part_plain w k2 rfl
  have p3 : ∀ a b c e f : Value, (part f3.type #[a, b, c, e, f] 3).run P w = .ok e w := fun _ _ _ _ _ => run_part_plain w k3 rfl
  have p4 : ∀ a b c e f : Value, (part f4.type #[a, b, c, e, f] 4).run P w = .ok f w := fun _ _ _ _ _ => run_part_plain w k4 rfl
  have e0 := fun a b => run_equalIn_int (P := P) w 9998 _ .i64 _ a b u0
  have e1 := fun a b => run_equalIn_int (P := P) w 9998 _ .i64 _ a b u1
  have e2 := fun a b => run_equalIn_int (P := P) w 9998 _ .i64 _ a b u2
  have e3 := fun a b => run_equalIn_int (P := P) w 9998 _ .i64 _ a b u3
  have e4 := fun a b => run_equalIn_int (P := P) w 9998 _ .i64 _ a b u4
  obtain ⟨a, b, c, e, f⟩ := x
  obtain ⟨a', b', c', e', f'⟩ := y
  show (Op.eqFields 9999 #[.int .i64 a, .int .i64 b, .int .i64 c, .int .i64 e, .int .i64 f] #[.int .i64 a', .int .i64 b', .int .i64 c', .int .i64 e', .int .i64 f'] [f0, f1, f2, f3, f4]).run P w = _
  simp only [Op.eqFields, n0, n1, n2, n3, n4, o0, o1, o2, o3, o4, ne_eq, not_false_eq_true, if_true, Sem.run_bind, p0, p1, p2, p3, p4, Result.andThen_ok, e0, e1, e2, e3, e4, Sem.run_ite, Sem.run_pure, DOp.mk.injEq]
  by_cases h0 : a = a' <;> by_cases h1 : b = b' <;> by_cases h2 : c = c' <;> by_cases h3 : e = e' <;> by_cases h4 : f = f' <;> simp [h0, h1, h2, h3, h4]
def litX : List DOp := [⟨12, 5, 0, 0, 2⟩, ⟨17, 5, 5, 0, 11⟩, ⟨12, 5, 5, 0, 3⟩]
theorem lit_4099 : lit 5 4099 = litX := by
  unfold lit
  rw [litD_more (by decide), litD_last (by decide)]
  decide
end Go.Proofs.Ytcmmhfknkldmcaa
