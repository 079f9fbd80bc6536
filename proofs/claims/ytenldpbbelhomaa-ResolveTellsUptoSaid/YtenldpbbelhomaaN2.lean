/-
  What the definitions say: plain facts for the statements of layer 9. No condition beyond those that each theorem states.
-/
import Derived.Test.YtenldpbbelhomaaQ6
namespace Go.Proofs.Ytenldpbbelhomaa
open Go.RowKit

theorem itemsFrom_mem : ∀ (l : List DMod) (n : Nat) (x : DItem), x ∈ itemsFrom n l → ∃ i m, l[i]? = some m ∧ x ∈ mItems (n + i) m
  | [], _, x, h => by simp [itemsFrom] at h
  | m :: l, n, x, h => by
    simp only [itemsFrom, List.mem_append] at h
    rcases h with h | h
    · exact ⟨0, m, rfl, h⟩
    · obtain ⟨i, m', h1, h2⟩ := itemsFrom_mem l (n + 1) x h
      exact ⟨i + 1, m', h1, by rw [show n + (i + 1) = n + 1 + i by omega]; exact h2⟩
theorem mItems_mem {i : Nat} {m : DMod} {x : DItem} (h : x ∈ mItems i m) : (∃ f ∈ m.funcs, ¬ f.bind = 1 ∧ x = fItem i f) ∨ ∃ g ∈ m.globs, ¬ g.bind = 1 ∧ x = gItem i g := by
  simp only [mItems, fItems, gItems, List.mem_append, List.mem_filterMap] at h
  rcases h with ⟨f, hf, e⟩ | ⟨g, hg, e⟩
  · left
    split at e
    · cases e
    · rename_i hb; cases e; exact ⟨f, hf, hb, rfl⟩
  · right
    split at e
    · cases e
    · rename_i hb; cases e; exact ⟨g, hg, hb, rfl⟩
theorem items_mem {l : List DMod} {x : DItem} (h : x ∈ items9 l) : ∃ i m, l[i]? = some m ∧ ((∃ f ∈ m.funcs, ¬ f.bind = 1 ∧ x = fItem i f) ∨ ∃ g ∈ m.globs, ¬ g.bind = 1 ∧ x = gItem i g) := by
  obtain ⟨i, m, h1, h2⟩ := itemsFrom_mem l 0 x h
  rw [Nat.zero_add] at h2
  exact ⟨i, m, h1, mItems_mem h2⟩
theorem slv_mem {α : Type} {ro : Nat → Prop} {w : World} {sz : Nat} {Q : List Value → α → Prop} {v : Value} {xs : List α} (h : SlV ro w sz Q v xs) {x : α} (hx : x ∈ xs) : ∃ cs, Q cs x := by
  obtain ⟨ad, cap, _, _, _, _, he⟩ := h
  obtain ⟨i, hi⟩ := List.mem_iff_getElem?.1 hx
  obtain ⟨_, _, cs, _, _, _, _, hq⟩ := he i x hi
  exact ⟨cs, hq⟩
theorem slv_len {α : Type} {ro : Nat → Prop} {w : World} {sz : Nat} {Q : List Value → α → Prop} {v : Value} {xs : List α} (h : SlV ro w sz Q v xs) : xs.length ≤ 9223372036854775807 := by
  obtain ⟨ad, cap, _, h1, h2, _⟩ := h
  unfold maxLen at h2; omega
theorem itemsFrom_len : ∀ (l : List DMod) (n : Nat), (itemsFrom n l).length ≤ (l.map fun m => m.funcs.length + m.globs.length).sum
  | [], _ => by simp [itemsFrom]
  | m :: l, n => by
    have ih := itemsFrom_len l (n + 1)
    have h1 := List.length_filterMap_le (fun f : DFunc => if f.bind = 1 then none else some (fItem n f)) m.funcs
    have h2 := List.length_filterMap_le (fun f : DGlob => if f.bind = 1 then none else some (gItem n f)) m.globs
    simp only [itemsFrom, mItems, fItems, gItems, List.length_append, List.map_cons, List.sum_cons]
    omega
/-- What is read of modules fits. -/
theorem items_ok {ro : Nat → Prop} {w : World} {v : Value} {ms : List DMod} (h : SlV ro w 2 (ModC ro w) v ms) : ∀ x ∈ items9 ms, x.name.size ≤ maxLen ∧ inI x.mod ∧ inI x.params := by
  intro x hx
  obtain ⟨i, m, hi, hm⟩ := items_mem hx
  have hl := slv_len h
  have hlt := (List.getElem?_eq_some_iff.1 hi).1
  obtain ⟨cs, s, t, _, hf, hg⟩ := slv_mem h (List.mem_of_getElem? hi)
  have hmod : inI (i : Int) := by unfold inI; omega
  rcases hm with ⟨f, hfm, _, rfl⟩ | ⟨g, hgm, _, rfl⟩
  · obtain ⟨_, _, _, _, h1, _, h3⟩ := slv_mem hf hfm
    exact ⟨h1, hmod, h3⟩
  · obtain ⟨_, _, h1, _⟩ := slv_mem hg hgm
    exact ⟨h1, hmod, inI0⟩
theorem all9_ok {xs : List DItem} (h : (all9 xs).2 = 0) : (all9 xs).1 = (grp9 xs).map def9 ∧ (grp9 xs).any oddG = false ∧ entry9 (grp9 xs) = true ∧ (grp9 xs).any (fun g => decide (1 < many9 g)) = false ∧ (grp9 xs).any missing9 = false := by
  unfold all9 at *
  split at h
  · simp at h
  · split at h
    · simp at h
    · split at h
      · simp at h
      · split at h
        · rename_i h1 h2 h3 h4
          rw [if_neg h1, if_neg h2, if_neg h3, if_pos h4]
          exact ⟨rfl, by simpa using h1, h4, by simpa using h2, by simpa using h3⟩
        · simp at h
theorem all9_bad {xs : List DItem} (h : ¬ (all9 xs).2 = 0) : (all9 xs).1 = [] := by
  unfold all9 at *
  split at h
  · rename_i h1; rw [if_pos h1]
  · rename_i h1; rw [if_neg h1]
    split at h
    · rename_i h2; rw [if_pos h2]
    · rename_i h2; rw [if_neg h2]
      split at h
      · rename_i h3; rw [if_pos h3]
      · rename_i h3; rw [if_neg h3]
        split at h
        · simp at h
        · rename_i h4; rw [if_neg h4]
theorem all9_def {xs : List DItem} (h : (all9 xs).2 = 0) {d : DDef} (hd : d ∈ (all9 xs).1) : ∃ g, g ∈ grp9 xs ∧ d = def9 g ∧ 0 < g.length ∧ oddG g = false := by
  obtain ⟨e, ho, _⟩ := all9_ok h
  rw [e] at hd
  obtain ⟨g, hg, rfl⟩ := List.mem_map.1 hd
  exact ⟨g, hg, rfl, grp9_ne hg, List.any_eq_false.1 ho g hg |> fun h => by simpa using h⟩
theorem grp9_name {xs : List DItem} {g : List DItem} (h : g ∈ grp9 xs) {x y : DItem} (hx : x ∈ g) (hy : y ∈ g) : x.name = y.name := by
  unfold grp9 at h
  obtain ⟨s, _, rfl⟩ := List.mem_map.1 h
  have h1 := (List.mem_filter.1 hx).2
  have h2 := (List.mem_filter.1 hy).2
  simp at h1 h2
  rw [h1, h2]
theorem shape9 {g : List DItem} (ho : oddG g = false) {x : DItem} (hx : x ∈ g) : x.fn = (g.getD 0 item0).fn ∧ x.params = (g.getD 0 item0).params := by
  have := List.any_eq_false.1 ho x hx
  simp [odd9] at this
  exact this
/-- Which item a definition is of. -/
theorem def9_item {g : List DItem} (h0 : 0 < g.length) : ∃ x, x ∈ g ∧ (def9 g).mod = x.mod ∧ ((def9 g).here = true → x.here = true ∧ ((def9 g).weak = false → x.strong = true)) ∧ ((def9 g).here = false → (def9 g).weak = true) := by
  refine ⟨g.getD (di9 g) item0, getD_mem _ (di9_lt h0), rfl, ?_, ?_⟩
  · intro hh
    have hh2 : ¬ ixI hB9 g < 0 := by
      have : decide (0 ≤ ixI hB9 g) = true := hh
      simp at this; omega
    by_cases hs : ixI sB9 g < 0
    · refine ⟨?_, fun hw => ?_⟩
      · unfold di9
        rw [if_neg hh2, if_pos hs]
        rcases ixI_cases hB9 g with ⟨h1, _⟩ | ⟨i, x, h1, h2, h3, _⟩
        · omega
        · rw [h1, Int.toNat_natCast, List.getD_eq_getElem?_getD, h2]; exact h3
      · have : decide (ixI sB9 g < 0) = false := hw
        simp at this; omega
    · unfold di9
      rw [if_neg hh2, if_neg hs]
      rcases ixI_cases sB9 g with ⟨h1, _⟩ | ⟨i, x, h1, h2, h3, _⟩
      · omega
      · rw [h1, Int.toNat_natCast, List.getD_eq_getElem?_getD, h2]
        simp [sB9] at h3
        exact ⟨h3.1, fun _ => h3.2⟩
  · intro hh
    have h1 : decide (0 ≤ ixI hB9 g) = false := hh
    rw [ixI_any] at h1
    show decide (ixI sB9 g < 0) = true
    rw [ixI_neg]
    simp only [Bool.not_eq_true', List.any_eq_false] at *
    intro x hx
    have := h1 x hx
    simp [sB9, hB9] at *
    intro h; exact absurd h (by simp [this])
def pF9 (d : DDef) (f : DFunc) : Bool := d.fn && decide (f.name = d.name) && decide ((0 : Int) < (f.blocks.length : Int)) && (d.weak || decide (f.bind = 2))
def pG9 (d : DDef) (g : DGlob) : Bool := !d.fn && decide (g.name = d.name) && g.here && (d.weak || decide (g.bind = 2))
/-- Where a name is defined that module has it. -/
theorem there9 {ms : List DMod} (h : (all9 (items9 ms)).2 = 0) {d : DDef} (hd : d ∈ (all9 (items9 ms)).1) :
    (d.here = false → d.weak = true) ∧ ∃ (i : Nat) (m : DMod), d.mod = (i : Int) ∧ ms[i]? = some m ∧ (d.here = true → (m.funcs.any (pF9 d) || m.globs.any (pG9 d)) = true) := by
  obtain ⟨g, hg, rfl, h0, ho⟩ := all9_def h hd
  obtain ⟨x, hx, hm, hh, hw⟩ := def9_item h0
  obtain ⟨i, m, hi, hmem⟩ := items_mem (grp9_sub hg x hx)
  have hn : x.name = (def9 g).name := grp9_name hg hx (getD_mem item0 h0)
  have hf := (shape9 ho hx).1
  refine ⟨hw, i, m, ?_, hi, fun hd1 => ?_⟩
  · rw [hm]
    rcases hmem with ⟨f, _, _, rfl⟩ | ⟨f, _, _, rfl⟩ <;> rfl
  · obtain ⟨h1, h2⟩ := hh hd1
    have hws : ((def9 g).weak || x.strong) = true := by
      cases hq : (def9 g).weak with
      | true => rfl
      | false => rw [h2 hq]; rfl
    have hfn : (def9 g).fn = x.fn := hf.symm
    rw [Bool.or_eq_true]
    rcases hmem with ⟨f, hfm, _, rfl⟩ | ⟨f, hfm, _, rfl⟩
    · left
      refine List.any_eq_true.2 ⟨f, hfm, ?_⟩
      unfold pF9
      rw [hfn, ← hn]
      simp only [fItem] at h1 hws ⊢
      simp [hws, h1]
      simpa using h1
    · right
      refine List.any_eq_true.2 ⟨f, hfm, ?_⟩
      unfold pG9
      rw [hfn, ← hn]
      simp only [gItem] at h1 hws ⊢
      simp [hws, h1]
end Go.Proofs.Ytenldpbbelhomaa
