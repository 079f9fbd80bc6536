/-
  An own block that a call has made and handed over. No condition beyond those that each theorem states.
-/
import Derived.Test.YtdlcmhkfglckfaaA16
namespace Go.Proofs.Ytdlcmhkfglckfaa
open Go.RowKit

theorem St.callOwn {w0 ws w w' : World} {ro : Nat → Prop} {L : List (Nat × Obj)} {Rs : List Row} {g : Nat} {o : Obj} (h : St w0 ws w ro L Rs) (hb : Below w.heap.size w w') (hg : w.heap.size ≤ g) (ho : w'.heap[g]? = some o) : St w0 ws w' ro ((g, o) :: L) Rs := by
  have G := h.grow hb
  have hlt : g < w'.heap.size := (Array.getElem?_eq_some_iff.1 ho).1
  have hout : g ∉ keysOf L Rs := fun hx => by have := (h.keys g hx).2.1; omega
  refine ⟨G.below, G.snap, ?_, G.rows, ?_, ?_⟩
  · intro p hp
    rcases List.mem_cons.1 hp with e | hp
    · subst e; exact ho
    · exact G.own p hp
  · intro x hx
    have hx' : x = g ∨ x ∈ keysOf L Rs := by simpa [keysOf, or_assoc] using hx
    rcases hx' with e | hx'
    · subst e
      exact ⟨Nat.le_trans h.below.size hg, hlt, fun hr => absurd (h.snap _ hr).1 (by omega)⟩
    · exact G.keys x hx'
  · have : keysOf ((g, o) :: L) Rs = g :: keysOf L Rs := by simp [keysOf]
    rw [this]
    exact List.nodup_cons.2 ⟨hout, G.nodup⟩
end Go.Proofs.Ytdlcmhkfglckfaa
