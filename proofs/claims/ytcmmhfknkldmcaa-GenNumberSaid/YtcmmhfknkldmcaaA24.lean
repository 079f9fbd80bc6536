/-
  A region that draws its order, in phases: first what comes in any order and only adds to memory, then one operation after the other. No condition beyond those that each theorem states.
-/
import Derived.Test.YtcmmhfknkldmcaaA23
import Derived.Test.YtcmmhfknkldmcaaA11
import Derived.Test.YtcmmhfknkldmcaaA20
namespace Go.Proofs.Ytcmmhfknkldmcaa
open Go.RowKit

section
variable {P : Program} {ops : Array Oper} {Q : Exit → Act → World → Prop}
end
section
variable {P : Program} {ops : Array Oper} {Q : Exit → Act → World → Prop}
end
section
variable {P : Program} {ops : Array Oper} {C : Act → World → Prop} {Q : Exit → Act → World → Prop}
end
section
variable {P : Program} {n : Nat} {ops : Array Oper} {R : Exit → Act → World → Prop} {k : Kt} {σ : Env} {w : World} {Q : Exit → Act → World → Prop} {S : World → Prop} {fuel : Nat} {listed : Array Bool}
/-- One operation, the only one that may come next. -/
theorem WA.step (i : Nat) {o : Oper} (hr : Region.ready .any ops listed = [i]) (hi : ops[i]? = some o) (h : WL P n NoR ops [o] (.cut (fun a w => wpAnyH P .any ops Q (fun _ => True) fuel (listed.setIfInBounds i true) a w) .fin) σ w) : WA P n ops Q (fun _ => True) (fuel + 1) listed σ w :=
  ⟨fun a ha => wpAnyH_all hr (by simp) fun j hj => by
    obtain rfl : j = i := by simpa using hj
    have h1 := h.out a ha
    unfold wpList at h1
    unfold wpOp
    simp only [hi]
    by_cases hw : Region.wanted o (yielded ops a.tmps) = true
    · rw [if_pos hw] at h1 ⊢
      rcases h1 with h1 | ⟨_, a', w', h2⟩
      · left
        unfold Oper.wp at *
        generalize (execOp a.eval o).run P w = r at *
        cases r with
        | ok nx w1 =>
          cases nx <;> simp only [Oper.upon] at h1 ⊢ <;> try (exact h1.elim)
          case value u => exact ⟨trivial, h1⟩
          case skip => exact ⟨trivial, h1⟩
          case enter f args =>
            refine Calls.mono h1 fun e w2 h3 => ?_
            cases e with
            | returned u => exact ⟨trivial, h3⟩
            | panicked c => exact h3.elim
            | outgrown => obtain ⟨a', w', h4⟩ := h3; exact h4.elim
          case row r args => exact Rows.mono h1 fun u w2 h3 => ⟨trivial, h3⟩
          case defer dd => exact ⟨trivial, h1⟩
        | halt x w1 => cases x <;> simp only [Oper.upon] at h1 ⊢ <;> exact h1.elim
      · exact h2.elim
    · rw [if_neg hw] at h1 ⊢
      exact ⟨trivial, h1⟩⟩
theorem N.rest (h : WA P n ops Q S fuel listed σ w) : N P n NoR (.cut (fun a w => wpAnyH P .any ops Q S fuel listed a w) .fin) σ w := ⟨fun a ha => h.out a ha⟩
theorem W.drawA0 {id : Nat} {l : List Oper} (hm : P.follows .mixedOrders = true) (h : ∀ w', Below w.heap.size w w' → WA P n l.toArray (k.post P R) S l.toArray.size (Array.replicate l.toArray.size false) σ w') : W P n R (.region id l.toArray true) k σ w := by
  refine ⟨fun a ha => wp_region_any hm ?_⟩
  have hb : Below w.heap.size w { w with drawn := w.drawn + 1 } := (Below.refl _ w).drew
  exact wpAny_of_held _ _ _ _ ((h _ hb).out a ha)
theorem WA.sub {σ' : Env} (hs : Sub σ' σ) (h : WA P n ops Q S fuel listed σ' w) : WA P n ops Q S fuel listed σ w := ⟨fun a ha => h.out a (ha.sub hs)⟩
theorem WA.conv {fuel' : Nat} {listed' : Array Bool} (hf : fuel = fuel') (hl : listed = listed') (h : WA P n ops Q S fuel' listed' σ w) : WA P n ops Q S fuel listed σ w := by subst hf; subst hl; exact h
theorem WA.doneN (hr : Region.ready .any ops listed = []) (h : N P n R k σ w) : WA P n ops (k.post P R) S fuel listed σ w := ⟨fun a ha => wpAnyH_done hr (h.out a ha) fuel⟩
def valOf (m : Nat) (V : List Value) (i : Nat) : Value := V.getD (i - m) undef
def AllX (P : Program) (n : Nat) (ops : Array Oper) (m : Nat) (V0 : List Value) (σ : Env) : Nat → List Value → List Oper → Prop
  | i, v :: V, o :: l => (o.guard = none ∧ ∀ a, Known n a (PEnv (valOf m V0) ops ((depsOf ops i).filter (Nat.ble m ·)) ++ σ) → ∀ w, True → (execOp a.eval o).run P w = .ok (.value v) w) ∧ AllX P n ops m V0 σ (i + 1) V l
  | _, [], _ => True
  | _, _ :: _, [] => False
theorem AllX.at {m : Nat} {V0 : List Value} : ∀ (V : List Value) (l : List Oper) (q : Nat), AllX P n ops m V0 σ q V l → ∀ (i : Nat) (v : Value) (o : Oper), V[i]? = some v → l[i]? = some o →
    o.guard = none ∧ ∀ a, Known n a (PEnv (valOf m V0) ops ((depsOf ops (q + i)).filter (Nat.ble m ·)) ++ σ) → ∀ w, True → (execOp a.eval o).run P w = .ok (.value v) w
  | [], _, _, _, i, v, o, hi, _ => by simp at hi
  | _ :: _, [], _, _, i, v, o, _, ho => by simp at ho
  | x :: V, o' :: l, q, h, 0, v, o, hi, ho => by
    simp only [List.getElem?_cons_zero, Option.some.injEq] at hi ho
    subst hi; subst ho
    exact h.1
  | x :: V, o' :: l, q, h, i + 1, v, o, hi, ho => by
    rw [show q + (i + 1) = q + 1 + i by omega]
    exact AllX.at V l (q + 1) h.2 i v o (by simpa using hi) (by simpa using ho)
end
end Go.Proofs.Ytcmmhfknkldmcaa
