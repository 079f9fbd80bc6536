/-
  A region that draws its order, in the walks of these claims: what only reads is taken first, the rest is walked in each order that is left. No condition beyond those that each theorem states.
-/
import Derived.Test.YtcmmhfknkldmcaaA19
import Derived.OrdersHeld
namespace Go.Proofs.Ytcmmhfknkldmcaa
open Go.RowKit

section
variable {P : Program} {n : Nat} {ops : Array Oper}
/-- Which operations are done: the bits of m. -/
def lb (n m : Nat) : Array Bool := ((List.range n).map fun i => Nat.testBit m i).toArray
/-- Whatever order is picked from here on. -/
structure WA (P : Program) (n : Nat) (ops : Array Oper) (Q : Exit → Act → World → Prop) (S : World → Prop) (fuel : Nat) (listed : Array Bool) (σ : Env) (w : World) : Prop where
  out : ∀ a, Known n a σ → wpAnyH P .any ops Q S fuel listed a w
variable {Q : Exit → Act → World → Prop} {S : World → Prop} {fuel : Nat} {listed : Array Bool} {σ : Env} {w : World}
/-- An operation that only reads what 'S' tells is taken first. -/
theorem WA.take (i : Nat) {o : Oper} {v : Value} (hi : ops[i]? = some o) (hg : o.guard = none) (hs : Region.noSelect ops = true) (hf : Region.free .any ops listed i = true) (hr : (Region.ready .any ops listed).contains i = true) (hQ : ∀ c a w, ¬ Q (.panic c) a w) (hd : dOk n o.dst = true)
    (hex : ∀ a, Known n a σ → ∀ w, S w → (execOp a.eval o).run P w = .ok (.value v) w) (hS : S w) (h : WA P n ops Q S fuel (listed.setIfInBounds i true) (putS o.dst v σ) w) : WA P n ops Q S (fuel + 1) listed σ w :=
  ⟨fun a ha => wpAnyH_take hi hs hf hr (fun c a w h => absurd h (hQ c _ w)) (.inl ⟨by simp [Region.wanted, hg], hex a ha⟩) hS (h.out _ (ha.put hd v))⟩
theorem WA.done (hr : Region.ready .any ops listed = []) (h : ∀ a, Known n a σ → Q .normal a w) : WA P n ops Q S fuel listed σ w := ⟨fun a ha => wpAnyH_done hr (h a ha) fuel⟩
theorem wpOp_of {K : Act → World → Prop} {i : Nat} {o : Oper} {α : Type} (F : α → Env) (I : α → World → Prop) (hi : ops[i]? = some o) (h : WL P n NoR ops [o] (.cut (CI n F I) .fin) σ w) {a : Act} (ha : Known n a σ) (hk : ∀ x a' w', Known n a' (F x) → I x w' → K a' w') : wpOp P ops Q i K a w := by
  have h1 := h.out a ha
  unfold wpList at h1
  unfold wpOp
  simp only [hi]
  have fin : ∀ (a' : Act) (w' : World), (∃ x, Known n a' (F x) ∧ I x w') → K a' w' := fun a' w' ⟨x, hx, hI⟩ => hk x a' w' hx hI
  by_cases hw : Region.wanted o (yielded ops a.tmps) = true
  · rw [if_pos hw] at h1 ⊢
    rcases h1 with h1 | ⟨_, a', w', h2⟩
    · left
      unfold Oper.wp at *
      generalize (execOp a.eval o).run P w = r at *
      cases r with
      | ok nx w1 =>
        cases nx <;> simp only [Oper.upon] at h1 ⊢ <;> try (exact h1.elim)
        case value u => exact fin _ _ h1
        case skip => exact fin _ _ h1
        case enter f args =>
          refine Calls.mono h1 fun e w2 h3 => ?_
          cases e with
          | returned u => exact fin _ _ h3
          | panicked c => exact h3.elim
          | outgrown => obtain ⟨a', w', h4⟩ := h3; exact h4.elim
        case row r args => exact Rows.mono h1 fun u w2 h3 => fin _ _ h3
        case defer dd => exact fin _ _ h1
      | halt x w1 => cases x <;> simp only [Oper.upon] at h1 ⊢ <;> exact h1.elim
    · exact h2.elim
  · rw [if_neg hw] at h1 ⊢
    exact fin _ _ h1
theorem WA.one (i : Nat) {o : Oper} {α : Type} (F : α → Env) (I : α → World → Prop) (hr : Region.ready .any ops listed = [i]) (hi : ops[i]? = some o) (h : WL P n NoR ops [o] (.cut (CI n F I) .fin) σ w) (hk : ∀ x w', I x w' → S w' ∧ WA P n ops Q S fuel (listed.setIfInBounds i true) (F x) w') : WA P n ops Q S (fuel + 1) listed σ w :=
  ⟨fun a ha => wpAnyH_all hr (by simp) fun j hj => by
    obtain rfl : j = i := by simpa using hj
    exact wpOp_of F I hi h ha fun x a' w' hx hI => ⟨(hk x w' hI).1, (hk x w' hI).2.out a' hx⟩⟩
theorem exec_move {x : Operand} {v : Value} {d : Option Nat} {ty : TypeId} {pos : String} {af : Array Edge} {g : Option (Nat × Bool)} (hx : ev σ x = some v) : ∀ a, Known n a σ → ∀ w, S w → (execOp a.eval ⟨d, .move x, ty, pos, af, g⟩).run P w = .ok (.value v) w := fun a ha w _ => by simp [execOp, ha.eval hx]
end
section
variable {r : Option Nat} {ds : List Deferred} {P : Program} {n : Nat} {R : Exit → Act → World → Prop} {k : Kt} {σ : Env} {w : World}
end
end Go.Proofs.Ytcmmhfknkldmcaa
