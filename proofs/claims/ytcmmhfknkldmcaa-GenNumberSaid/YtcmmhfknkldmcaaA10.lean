/-
  An argument opened: from its reading as data to what a walk knows of it. No condition beyond those that each theorem states.
-/
import Derived.Test.YtcmmhfknkldmcaaA9
import Derived.ChangeArms
namespace Go.Proofs.Ytcmmhfknkldmcaa
open Go.ChangeShapes Go.WideShapes Go.ChangeAt Go.RowKit

section
variable {H : Type} {enc : TypeId × Value → H} {P : Program} {w : World} {sp : Nat → Bool}

/-- Whatever reads as a value of type 't', of sizes that may be, stands for something plain. -/
def Opens {α : Type} (enc : TypeId × Value → H) (P : Program) (w : World) (sp : Nat → Bool) (t : TypeId) (Q : List Value → α → Prop) : Prop :=
  ∀ fuel cs x, DataW.trod enc P w 0 sp true fuel t cs = some x → (∀ z ∈ x.1.weights P t, z ≤ reachBytes) → ∃ y, Q cs y
theorem Opens.mono {α : Type} {t : TypeId} {Q Q' : List Value → α → Prop} (h : Opens enc P w sp t Q) (hq : ∀ cs y, Q cs y → Q' cs y) : Opens enc P w sp t Q' := fun fuel cs x h1 h2 => by
  obtain ⟨y, hy⟩ := h fuel cs x h1 h2
  exact ⟨y, hq _ _ hy⟩
theorem addN (b off k : Nat) : (⟨b, off, none⟩ : Addr).add k = ⟨b, off + k, none⟩ := by
  unfold Addr.add
  split
  · rename_i h; subst h; rfl
  · rfl
/-- What was there when the call began. -/
def roW (w : World) : Nat → Prop := fun b => b < w.heap.size
end
/-! ### What the sizes are that may be -/
end Go.Proofs.Ytcmmhfknkldmcaa
