/-
  Appends to a row without elements, in a region that draws; own rows that are read. No condition beyond those that each theorem states.
-/
import Derived.Test.YtapjejjmhmdmdaaDoorA17
import Derived.ArgAppend
import Derived.Test.YtapjejjmhmdmdaaDoorA11
import Derived.Test.YtapjejjmhmdmdaaDoorA20
namespace Go.Proofs.YtapjejjmhmdmdaaDoor
open Go.RowKit

section
variable {P : Program} {n : Nat} {R : Exit → Act → World → Prop} {k : Kt} {σ : Env} {w : World} {ops : Array Oper} {rest : List Oper}
variable {d : Nat} {ty : TypeId} {pos : String} {af : Array Edge} {g : Option (Nat × Bool)}
variable {w0 ws : World} {ro : Nat → Prop} {L : List (Nat × Obj)} {Rs : List Row}

end
theorem stays_own {B e sz n : Nat} {cs : List Value} : Stays fun v u => u.ownsRow B e sz v n cs := fun v w w' h hb => by
  refine ⟨h.1, ?_⟩
  rcases h.2 with h2 | ⟨g, cap, cur, h1, h2, h3, h4⟩
  · exact .inl h2
  · exact .inr ⟨g, cap, cur, h1, h2, (hb.block g (Array.getElem?_eq_some_iff.1 h3).1).trans h3, h4⟩
/-- An own row is read. -/
theorem St.rowCells {w0 ws w : World} {ro : Nat → Prop} {L : List (Nat × Obj)} {Rs : List Row} (h : St w0 ws w ro L Rs) (i : Nat) {g n cap e sz j : Nat} {cs c : List Value} (hr : Rs[i]? = some ⟨.slice (some ⟨g, 0, none⟩) n cap, e, sz, n, cs⟩)
    (hk : (cs.drop (j * sz)).take sz = c) : CellsAt w g (0 + j * sz) c := by
  intro i' v hv
  subst hk
  have hrow := h.rows _ (List.mem_of_getElem? hr)
  have h2 := hrow.cells (g := g) rfl (j * sz + i') v (chunk_get hv)
  simp only [addr_add, Nat.zero_add] at h2
  rw [Nat.zero_add]
  exact h2
end Go.Proofs.YtapjejjmhmdmdaaDoor

namespace Go.Proofs.YtapjejjmhmdmdaaDoor
open Go.RowKit

section
variable {P : Program} {ops : Array Oper} {Q : Exit → Act → World → Prop}
end
section
variable {P : Program} {ops : Array Oper} {Q : Exit → Act → World → Prop}
end
section
variable {P : Program} {ops : Array Oper} {C : Act → World → Prop} {Q : Exit → Act → World → Prop}
theorem wpOp_then {i : Nat} {a : Act} {w : World} {K : Act → World → Prop} (hh : wpOp P ops (Exit.then C NoR) i K a w) : wpOp P ops Q i K a w := by
  unfold wpOp at *
  split
  · simpa [*] using hh
  · rename_i o ho
    simp only [ho] at hh
    split
    · rename_i hw
      simp only [hw, if_true] at hh
      rcases hh with hh | ⟨_, _, _, hl⟩
      · left
        unfold Oper.wp at *
        generalize (execOp a.eval o).run P w = r at *
        cases r with
        | ok n w' =>
          cases n <;> simp only [Oper.upon] at hh ⊢ <;>
            first
              | exact hh
              | exact Calls.mono hh (fun e w'' he => by cases e <;> first | exact he | exact he.elim | (obtain ⟨_, _, h4⟩ := he; exact h4.elim))
        | halt x w' => cases x <;> simp only [Oper.upon] at hh ⊢ <;> exact hh.elim
      · exact hl.elim
    · rename_i hw; simp only [hw] at hh; exact hh
theorem wpAny_then (h : ∀ a w, C a w → Q .normal a w) : ∀ (fuel : Nat) (listed : Array Bool) (a : Act) (w : World), wpAny P .any ops (Exit.then C NoR) fuel listed a w → wpAny P .any ops Q fuel listed a w
  | 0, _, _, _, hh => ⟨hh.1, h _ _ hh.2⟩
  | fuel + 1, _, _, _, hh => ⟨fun e => h _ _ (hh.1 e), fun i hi => wpOp_then (wpOp_mono (fun a' w' h' => wpAny_then h fuel _ a' w' h') (hh.2 i hi))⟩
end
section
variable {P : Program} {n : Nat} {ops : Array Oper} {R : Exit → Act → World → Prop} {k : Kt} {σ : Env} {w : World} {Q : Exit → Act → World → Prop} {S : World → Prop} {fuel : Nat} {listed : Array Bool}
/-- A region that draws its order, in a plain walk. -/
theorem W.drawA {id : Nat} {l : List Oper} {α : Type} (F : α → Env) (I : α → World → Prop) (hm : P.follows .mixedOrders = true) (h : ∀ w', Below w.heap.size w w' → WA P n l.toArray (Exit.then (CI n F I) NoR) S l.toArray.size (Array.replicate l.toArray.size false) σ w') (h2 : ∀ x w', I x w' → N P n R k (F x) w') : W P n R (.region id l.toArray true) k σ w := by
  refine ⟨fun a ha => wp_region_any hm ?_⟩
  have hb : Below w.heap.size w { w with drawn := w.drawn + 1 } := (Below.refl _ w).drew
  have h1 := wpAny_of_held _ _ _ _ ((h _ hb).out a ha)
  exact wpAny_then (fun a' w' ⟨x, hk, hI⟩ => (h2 x w' hI).out a' hk) _ _ _ _ h1
/-- One operation, the only one that may come next. -/
theorem WA.step (i : Nat) {o : Oper} (hr : Region.ready .any ops listed = [i]) (hi : ops[i]? = some o) (h : WL P n NoR ops [o] (.cut (fun a w => wpAnyH P .any ops Q (fun _ => True) fuel (listed.setIfInBounds i true) a w) .fin) σ w) : WA P n ops Q (fun _ => True) (fuel + 1) listed σ w :=
  ⟨fun a ha => wpAnyH_all hr (by simp) fun j hj => by
    obtain rfl : j = i := by simpa using hj
    have h1 := h.out a ha
    unfold wpList at h1
    unfold wpOp
    simp only [hi]
    by_cases hw : Region.wanted o (yielded ops a.tmps) = true
    · rw [if_pos hw] at h1 ⊢
      rcases h1 with h1 | ⟨_, a', w', h2⟩
      · left
        unfold Oper.wp at *
        generalize (execOp a.eval o).run P w = r at *
        cases r with
        | ok nx w1 =>
          cases nx <;> simp only [Oper.upon] at h1 ⊢ <;> try (exact h1.elim)
          case value u => exact ⟨trivial, h1⟩
          case skip => exact ⟨trivial, h1⟩
          case enter f args =>
            refine Calls.mono h1 fun e w2 h3 => ?_
            cases e with
            | returned u => exact ⟨trivial, h3⟩
            | panicked c => exact h3.elim
            | outgrown => obtain ⟨a', w', h4⟩ := h3; exact h4.elim
          case row r args => exact Rows.mono h1 fun u w2 h3 => ⟨trivial, h3⟩
          case defer dd => exact ⟨trivial, h1⟩
        | halt x w1 => cases x <;> simp only [Oper.upon] at h1 ⊢ <;> exact h1.elim
      · exact h2.elim
    · rw [if_neg hw] at h1 ⊢
      exact ⟨trivial, h1⟩⟩
theorem N.rest (h : WA P n ops Q S fuel listed σ w) : N P n NoR (.cut (fun a w => wpAnyH P .any ops Q S fuel listed a w) .fin) σ w := ⟨fun a ha => h.out a ha⟩
theorem exec_extract {x : Operand} {vs : Array Value} {i : Nat} {v : Value} {d : Option Nat} {ty : TypeId} {pos : String} {af : Array Edge} {g : Option (Nat × Bool)} (hx : ev σ x = some (.tuple vs)) (hv : vs[i]? = some v) : ∀ a, Known n a σ → ∀ w, S w → (execOp a.eval ⟨d, .extract x i, ty, pos, af, g⟩).run P w = .ok (.value v) w := fun a ha w _ => by simp [execOp, ha.eval hx, Instr.extract, hv]
theorem W.drawA0 {id : Nat} {l : List Oper} (hm : P.follows .mixedOrders = true) (h : ∀ w', Below w.heap.size w w' → WA P n l.toArray (k.post P R) S l.toArray.size (Array.replicate l.toArray.size false) σ w') : W P n R (.region id l.toArray true) k σ w := by
  refine ⟨fun a ha => wp_region_any hm ?_⟩
  have hb : Below w.heap.size w { w with drawn := w.drawn + 1 } := (Below.refl _ w).drew
  exact wpAny_of_held _ _ _ _ ((h _ hb).out a ha)
theorem WA.sub {σ' : Env} (hs : Sub σ' σ) (h : WA P n ops Q S fuel listed σ' w) : WA P n ops Q S fuel listed σ w := ⟨fun a ha => h.out a (ha.sub hs)⟩
theorem WA.conv {fuel' : Nat} {listed' : Array Bool} (hf : fuel = fuel') (hl : listed = listed') (h : WA P n ops Q S fuel' listed' σ w) : WA P n ops Q S fuel listed σ w := by subst hf; subst hl; exact h
theorem WA.doneN (hr : Region.ready .any ops listed = []) (h : N P n R k σ w) : WA P n ops (k.post P R) S fuel listed σ w := ⟨fun a ha => wpAnyH_done hr (h.out a ha) fuel⟩
def valOf (m : Nat) (V : List Value) (i : Nat) : Value := V.getD (i - m) undef
def AllX (P : Program) (n : Nat) (ops : Array Oper) (m : Nat) (V0 : List Value) (σ : Env) : Nat → List Value → List Oper → Prop
  | i, v :: V, o :: l => (o.guard = none ∧ ∀ a, Known n a (PEnv (valOf m V0) ops ((depsOf ops i).filter (Nat.ble m ·)) ++ σ) → ∀ w, True → (execOp a.eval o).run P w = .ok (.value v) w) ∧ AllX P n ops m V0 σ (i + 1) V l
  | _, [], _ => True
  | _, _ :: _, [] => False
theorem AllX.at {m : Nat} {V0 : List Value} : ∀ (V : List Value) (l : List Oper) (q : Nat), AllX P n ops m V0 σ q V l → ∀ (i : Nat) (v : Value) (o : Oper), V[i]? = some v → l[i]? = some o →
    o.guard = none ∧ ∀ a, Known n a (PEnv (valOf m V0) ops ((depsOf ops (q + i)).filter (Nat.ble m ·)) ++ σ) → ∀ w, True → (execOp a.eval o).run P w = .ok (.value v) w
  | [], _, _, _, i, v, o, hi, _ => by simp at hi
  | _ :: _, [], _, _, i, v, o, _, ho => by simp at ho
  | x :: V, o' :: l, q, h, 0, v, o, hi, ho => by
    simp only [List.getElem?_cons_zero, Option.some.injEq] at hi ho
    subst hi; subst ho
    exact h.1
  | x :: V, o' :: l, q, h, i + 1, v, o, hi, ho => by
    rw [show q + (i + 1) = q + 1 + i by omega]
    exact AllX.at V l (q + 1) h.2 i v o (by simpa using hi) (by simpa using ho)
end
end Go.Proofs.YtapjejjmhmdmdaaDoor

namespace Go.Proofs.YtapjejjmhmdmdaaDoor
open Go.RowKit
section
variable {P : Program} {n : Nat} {R : Exit → Act → World → Prop} {k : Kt} {σ : Env} {w : World} {ops : Array Oper} {rest : List Oper}
variable {d : Nat} {ty : TypeId} {pos : String} {af : Array Edge} {g : Option (Nat × Bool)}
theorem WL.addStr {xT yT : TypeId} {x y : Operand} {a b : ByteArray} (hg : want ops σ g = some true) (hd : Nat.blt d n = true)
    (hx : ev σ x = some (.string a)) (hy : ev σ y = some (.string b)) (hs : a.size + b.size ≤ 9223372036854775807)
    (h : WL P n R ops rest k ((d, .string (a ++ b)) :: σ) w) : WL P n R ops (⟨some d, .binOp .add xT x y yT, ty, pos, af, g⟩ :: rest) k σ w :=
  WL.valW (o := ⟨some d, .binOp .add xT x y yT, ty, pos, af, g⟩) hg hd (fun c hc => by
    have h1 : ¬ (((a.size + b.size : Nat) : Int) > IntKind.i64.max) := by
      have : IntKind.i64.max = 9223372036854775807 := by decide
      rw [this]; omega
    simp [execOp, hc.eval hx, hc.eval hy, binOp, Op.stringOp, eqGuard]
    have : IntKind.i64.max = 9223372036854775807 := by decide
    omega) h
end
end Go.Proofs.YtapjejjmhmdmdaaDoor
