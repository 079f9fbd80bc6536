/-
  The definitions stand in the order of the names: plain facts. No condition beyond those that each theorem states.
-/
import Derived.Test.YtenldpbbelhomaaQ7
namespace Go.Proofs.Ytenldpbbelhomaa
open Go.RowKit

theorem grp9_at {xs : List DItem} {i : Nat} {s : ByteArray} (h : (nms9 xs)[i]? = some s) : ∃ g, (grp9 xs)[i]? = some g ∧ (def9 g).name = s ∧ 0 < g.length ∧ g = xs.filter fun x => decide (x.name = s) := by
  refine ⟨xs.filter fun x => decide (x.name = s), by unfold grp9; rw [List.getElem?_map, h]; rfl, ?_, ?_, rfl⟩
  · have h0 : 0 < (xs.filter fun x => decide (x.name = s)).length := by
      obtain ⟨x, hx, e⟩ := (mem_nms9 _ _).1 (List.mem_of_getElem? h)
      exact List.length_pos_of_mem (List.mem_filter.2 ⟨hx, by simp [e]⟩)
    have := (List.mem_filter.1 (getD_mem item0 h0)).2
    exact of_decide_eq_true this
  · obtain ⟨x, hx, e⟩ := (mem_nms9 _ _).1 (List.mem_of_getElem? h)
    exact List.length_pos_of_mem (List.mem_filter.2 ⟨hx, by simp [e]⟩)
theorem one9_len {xs : List DItem} (h : (all9 xs).2 = 0) : (all9 xs).1.length = (nms9 xs).length := by
  rw [(all9_ok h).1, List.length_map, grp9_length]
theorem one9_name {xs : List DItem} (h : (all9 xs).2 = 0) {i : Nat} {d : DDef} {s : ByteArray} (hd : (all9 xs).1[i]? = some d) (hs : (nms9 xs)[i]? = some s) : d.name = s := by
  obtain ⟨g, hg, hn, _⟩ := grp9_at hs
  rw [(all9_ok h).1, List.getElem?_map, hg] at hd
  cases hd
  exact hn
theorem nodup_ne {α : Type} {l : List α} (h : l.Nodup) {i k : Nat} {x y : α} (hx : l[i]? = some x) (hy : l[k]? = some y) (hne : i ≠ k) : ¬ x = y := fun e => by
  subst e
  exact hne ((List.getElem?_inj (List.getElem?_eq_some_iff.1 hx).1 h).1 (hx.trans hy.symm))
end Go.Proofs.Ytenldpbbelhomaa
