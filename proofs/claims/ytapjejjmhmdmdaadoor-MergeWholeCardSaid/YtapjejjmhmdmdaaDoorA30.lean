/-
  An argument that is a row, opened. No condition beyond those that each theorem states.
-/
import Derived.Test.YtapjejjmhmdmdaaDoorA21
import Derived.Test.YtapjejjmhmdmdaaDoorA10
namespace Go.Proofs.YtapjejjmhmdmdaaDoor
open Go.ChangeShapes Go.WideShapes Go.ChangeAt Go.RowKit
section
variable {H : Type} {enc : TypeId × Value → H} {P : Program} {w : World} {sp : Nat → Bool}
theorem open1_sl {α : Type} {t e : TypeId} {r : Reach} {b0 sz by_ : Nat} {v : Value} {d : DataW H} {ps : List MemPlace} {Q : List Value → α → Prop} {B : α → Prop} (ht : P.underlying t = some (.slice e)) (hval : Value.okWide P w r b0 t v)
    (hd : DataW.Trod enc P w 0 sp true t v d ps) (ho : Opens enc P w sp t fun cs (ys : List α) => (∃ v, cs = [v] ∧ SlV (roW w) w sz Q v ys) ∧ (∀ y ∈ ys, B y) ∧ ys.length * by_ ≤ reachBytes) (hz : ∀ z ∈ d.weights P t, z ≤ reachBytes) :
    ∃ ys, SlV (roW w) w sz Q v ys ∧ (∀ y ∈ ys, B y) ∧ ys.length * by_ ≤ reachBytes := by
  obtain ⟨a, len, cap, rfl⟩ := okWide_slice ht hval
  obtain ⟨fuel, h⟩ := hd
  obtain ⟨ys, ⟨u, hu, hs⟩, hb⟩ := ho fuel _ _ h hz
  simp [Value.cells] at hu
  subst hu
  exact ⟨ys, hs, hb⟩
end
end Go.Proofs.YtapjejjmhmdmdaaDoor
