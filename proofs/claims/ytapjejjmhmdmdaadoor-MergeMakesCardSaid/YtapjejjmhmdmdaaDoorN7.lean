/-
  What the items of a name say: plain facts. No condition beyond those that each theorem states.
-/
import Derived.Test.YtapjejjmhmdmdaaDoorY6
namespace Go.Proofs.YtapjejjmhmdmdaaDoor
open Go.RowKit
theorem any_grp {X : List DItem} {p : List DItem → Bool} : (grp9 X).any p = true ↔ ∃ s ∈ nms9 X, p (X.filter fun x => decide (x.name = s)) = true := by
  rw [List.any_eq_true]
  unfold grp9
  constructor
  · rintro ⟨g, hg, h⟩
    obtain ⟨s, hs, rfl⟩ := List.mem_map.1 hg
    exact ⟨s, hs, h⟩
  · rintro ⟨s, hs, h⟩
    exact ⟨_, List.mem_map.2 ⟨s, hs, rfl⟩, h⟩
theorem filter_mem_ne {X : List DItem} {s : ByteArray} (h : s ∈ nms9 X) : 0 < (X.filter fun x => decide (x.name = s)).length := by
  obtain ⟨x, hx, e⟩ := (mem_nms9 _ _).1 h
  exact List.length_pos_of_mem (List.mem_filter.2 ⟨hx, by simp [e]⟩)
theorem entry9_eq (X : List DItem) : entry9 (grp9 X) = (decide (mainB ∈ nms9 X) && okMain (X.filter fun x => decide (x.name = mainB))) := by
  have hmain : ∀ s, s ∈ nms9 X → isMain (X.filter fun x => decide (x.name = s)) = decide (s = mainB) := fun s hs => by
    have := (List.mem_filter.1 (getD_mem item0 (filter_mem_ne hs))).2
    unfold isMain
    rw [of_decide_eq_true this]
  by_cases hm : mainB ∈ nms9 X
  · obtain ⟨i, hi1, hi2⟩ := pos9_some hm
    unfold entry9
    have : (grp9 X).find? isMain = some (X.filter fun x => decide (x.name = mainB)) := by
      cases hf : (grp9 X).find? isMain with
      | none =>
        rw [List.find?_eq_none] at hf
        have h1 := hf _ (by unfold grp9; exact List.mem_map.2 ⟨mainB, hm, rfl⟩)
        rw [hmain _ hm] at h1
        simp at h1
      | some g =>
        have h1 := List.find?_some hf
        have h2 := List.mem_of_find?_eq_some hf
        unfold grp9 at h2
        obtain ⟨s, hs, rfl⟩ := List.mem_map.1 h2
        rw [hmain s hs] at h1
        rw [of_decide_eq_true h1]
    rw [this]
    simp [hm]
  · unfold entry9
    have : (grp9 X).find? isMain = none := by
      rw [List.find?_eq_none]
      intro g hg
      unfold grp9 at hg
      obtain ⟨s, hs, rfl⟩ := List.mem_map.1 hg
      rw [hmain s hs]
      simp
      intro e; subst e; exact hm hs
    rw [this]
    simp [hm]
end Go.Proofs.YtapjejjmhmdmdaaDoor
