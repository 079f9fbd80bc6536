/-
  Appends to a row without elements, in a region that draws; own rows that are read. No condition beyond those that each theorem states.
-/
import Derived.Test.YtcmmhfknkldmcaaA15
import Derived.ArgAppend
namespace Go.Proofs.Ytcmmhfknkldmcaa
open Go.RowKit

section
variable {P : Program} {n : Nat} {R : Exit → Act → World → Prop} {k : Kt} {σ : Env} {w : World} {ops : Array Oper} {rest : List Oper}
variable {d : Nat} {ty : TypeId} {pos : String} {af : Array Edge} {g : Option (Nat × Bool)}
variable {w0 ws : World} {ro : Nat → Prop} {L : List (Nat × Obj)} {Rs : List Row}

end
/-- An own row is read. -/
theorem St.rowCells {w0 ws w : World} {ro : Nat → Prop} {L : List (Nat × Obj)} {Rs : List Row} (h : St w0 ws w ro L Rs) (i : Nat) {g n cap e sz j : Nat} {cs c : List Value} (hr : Rs[i]? = some ⟨.slice (some ⟨g, 0, none⟩) n cap, e, sz, n, cs⟩)
    (hk : (cs.drop (j * sz)).take sz = c) : CellsAt w g (0 + j * sz) c := by
  intro i' v hv
  subst hk
  have hrow := h.rows _ (List.mem_of_getElem? hr)
  have h2 := hrow.cells (g := g) rfl (j * sz + i') v (chunk_get hv)
  simp only [addr_add, Nat.zero_add] at h2
  rw [Nat.zero_add]
  exact h2
end Go.Proofs.Ytcmmhfknkldmcaa
