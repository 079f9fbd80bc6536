/-
  The items of a name, in the order of the names: plain facts. No condition beyond those that each theorem states.
-/
import Derived.Test.YtapjejjmhmdmdaaDoorQ2
namespace Go.Proofs.YtapjejjmhmdmdaaDoor
open Go.RowKit

theorem mem_nms9 (s : ByteArray) (xs : List DItem) : s ∈ nms9 xs ↔ ∃ x ∈ xs, x.name = s := by
  induction xs using snoc_ind with
  | h0 => simp [nms9]
  | h1 l x ih =>
    rw [nms9_snoc]
    by_cases h : x.name ∈ nms9 l
    · rw [if_pos h, ih]
      constructor
      · rintro ⟨y, hy, rfl⟩; exact ⟨y, List.mem_append_left _ hy, rfl⟩
      · rintro ⟨y, hy, rfl⟩
        rcases List.mem_append.1 hy with hy | hy
        · exact ⟨y, hy, rfl⟩
        · simp at hy; subst hy; exact ih.1 h |> fun ⟨z, hz, e⟩ => ⟨z, hz, e⟩
    · rw [if_neg h, List.mem_append, ih]
      constructor
      · rintro (⟨y, hy, rfl⟩ | hy)
        · exact ⟨y, List.mem_append_left _ hy, rfl⟩
        · simp at hy; exact ⟨x, by simp, hy.symm⟩
      · rintro ⟨y, hy, rfl⟩
        rcases List.mem_append.1 hy with hy | hy
        · exact .inl ⟨y, hy, rfl⟩
        · simp at hy; subst hy; exact .inr (by simp)
theorem nodup_nms9 (xs : List DItem) : (nms9 xs).Nodup := by
  induction xs using snoc_ind with
  | h0 => exact List.nodup_nil
  | h1 l x ih =>
    rw [nms9_snoc]
    by_cases h : x.name ∈ nms9 l
    · rw [if_pos h]; exact ih
    · rw [if_neg h]
      refine List.nodup_append.2 ⟨ih, by simp, ?_⟩
      intro a ha b hb
      simp at hb; subst hb
      intro e; subst e; exact h ha
def pos9 (ns : List ByteArray) (s : ByteArray) : Option Nat := ns.findIdx? fun t => decide (t = s)
theorem pos9_some {ns : List ByteArray} {s : ByteArray} (h : s ∈ ns) : ∃ i, pos9 ns s = some i ∧ ns[i]? = some s := by
  unfold pos9
  cases hf : ns.findIdx? (fun t => decide (t = s)) with
  | none =>
    rw [List.findIdx?_eq_none_iff] at hf
    have := hf s h
    simp at this
  | some i =>
    rw [List.findIdx?_eq_some_iff_getElem] at hf
    obtain ⟨hlt, hp, _⟩ := hf
    refine ⟨i, rfl, ?_⟩
    rw [List.getElem?_eq_getElem hlt]
    simpa using hp
theorem pos9_none {ns : List ByteArray} {s : ByteArray} (h : ¬ s ∈ ns) : pos9 ns s = none := by
  unfold pos9
  rw [List.findIdx?_eq_none_iff]
  intro x hx
  simp
  intro e; subst e; exact h hx
theorem pos9_app {ns : List ByteArray} {s t : ByteArray} (h : ¬ t ∈ ns) : pos9 (ns ++ [t]) s = if s = t then some ns.length else pos9 ns s := by
  by_cases e : s = t
  · subst e
    rw [if_pos rfl]
    have h1 := pos9_none h
    unfold pos9 at *
    rw [List.findIdx?_append, h1]
    simp
  · rw [if_neg e]
    unfold pos9
    rw [List.findIdx?_append]
    have : (fun u => decide (u = s)) t = false := by simp; exact fun q => e q.symm
    cases hq : ns.findIdx? (fun u => decide (u = s)) with
    | some i => rfl
    | none => simp [this]
def at9 (xs : List DItem) : ByteArray → Option Int := fun s => (pos9 (nms9 xs) s).map fun i => (i : Int)
def grp9 (xs : List DItem) : List (List DItem) := (nms9 xs).map fun s => xs.filter fun x => decide (x.name = s)
theorem grp9_length (xs : List DItem) : (grp9 xs).length = (nms9 xs).length := by simp [grp9]
theorem at9_isSome (xs : List DItem) (s : ByteArray) : (at9 xs s).isSome = decide (s ∈ nms9 xs) := by
  unfold at9
  by_cases h : s ∈ nms9 xs
  · obtain ⟨i, h1, _⟩ := pos9_some h
    rw [h1]; simp [h]
  · rw [pos9_none h]; simp [h]
theorem filter_app_ne {xs : List DItem} {e : DItem} {s : ByteArray} (h : ¬ e.name = s) : (xs ++ [e]).filter (fun x => decide (x.name = s)) = xs.filter fun x => decide (x.name = s) := by
  rw [List.filter_append]; simp [h]
theorem filter_app_eq (xs : List DItem) (e : DItem) : (xs ++ [e]).filter (fun x => decide (x.name = e.name)) = xs.filter (fun x => decide (x.name = e.name)) ++ [e] := by
  rw [List.filter_append]; simp
/-- An item of a name that has come. -/
theorem grp9_old {pre : List DItem} {e : DItem} (h : e.name ∈ nms9 pre) : ∃ (i : Nat) (gi : List DItem), at9 pre e.name = some (i : Int) ∧ i < (nms9 pre).length ∧ (grp9 pre)[i]? = some gi ∧ grp9 (pre ++ [e]) = (grp9 pre).set i (gi ++ [e]) ∧ nms9 (pre ++ [e]) = nms9 pre ∧ at9 (pre ++ [e]) = at9 pre := by
  obtain ⟨i, h1, h2⟩ := pos9_some h
  have hlt : i < (nms9 pre).length := (List.getElem?_eq_some_iff.1 h2).1
  have hn : nms9 (pre ++ [e]) = nms9 pre := by rw [nms9_snoc, if_pos h]
  refine ⟨i, pre.filter fun x => decide (x.name = e.name), by unfold at9; rw [h1]; rfl, hlt, by unfold grp9; rw [List.getElem?_map, h2]; rfl, ?_, hn, by unfold at9; rw [hn]⟩
  apply List.ext_getElem?
  intro j
  unfold grp9
  rw [hn, List.getElem?_map, List.getElem?_set, List.length_map, List.getElem?_map]
  by_cases hij : i = j
  · subst hij
    rw [if_pos rfl, if_pos hlt, h2]
    simp only [Option.map_some, filter_app_eq]
  · rw [if_neg hij]
    cases hj : (nms9 pre)[j]? with
    | none => rfl
    | some s =>
      simp only [Option.map_some]
      rw [filter_app_ne]
      intro q
      subst q
      exact hij ((List.getElem?_inj hlt (nodup_nms9 pre)).1 (h2.trans hj.symm))
/-- An item of a new name. -/
theorem grp9_new {pre : List DItem} {e : DItem} (h : ¬ e.name ∈ nms9 pre) : at9 pre e.name = none ∧ grp9 (pre ++ [e]) = (grp9 pre ++ [[]]).set (nms9 pre).length ([] ++ [e]) ∧ nms9 (pre ++ [e]) = nms9 pre ++ [e.name] ∧ updG (at9 pre) e.name ((nms9 pre).length : Int) = at9 (pre ++ [e]) := by
  have hn : nms9 (pre ++ [e]) = nms9 pre ++ [e.name] := by rw [nms9_snoc, if_neg h]
  have hno : ∀ x ∈ pre, ¬ x.name = e.name := fun x hx q => h ((mem_nms9 _ _).2 ⟨x, hx, q⟩)
  refine ⟨by unfold at9; rw [pos9_none h]; rfl, ?_, hn, ?_⟩
  · unfold grp9
    rw [hn, List.map_append]
    have h1 : (nms9 pre).map (fun s => (pre ++ [e]).filter fun x => decide (x.name = s)) = (nms9 pre).map fun s => pre.filter fun x => decide (x.name = s) := by
      apply List.map_congr_left
      intro s hs
      exact filter_app_ne fun q => h (by rw [q]; exact hs)
    have h2 : (pre ++ [e]).filter (fun x => decide (x.name = e.name)) = [e] := by
      rw [filter_app_eq, List.filter_eq_nil_iff.2 (fun x hx => by simpa using hno x hx)]; rfl
    rw [h1]
    simp only [List.map_cons, List.map_nil, h2]
    rw [List.set_append_right _ _ (by simp)]
    simp
  · funext s
    unfold at9
    simp only [updG]
    rw [hn, pos9_app h]
    by_cases q : s = e.name
    · rw [if_pos q, if_pos q]; rfl
    · rw [if_neg q, if_neg q]
/-- The rows of groups. -/
def RG (e : Nat) (GR : List Row) (gs : List (List DItem)) : Prop := GR.length = gs.length ∧ ∀ (j : Nat) (r : Row) (g : List DItem), GR[j]? = some r → gs[j]? = some g → r.e = e ∧ r.sz = 6 ∧ r.n = g.length ∧ Chunks 6 ItemC r.xs g
theorem RG.nil (e : Nat) : RG e [] [] := ⟨rfl, fun j r g h => by simp at h⟩
theorem RG.snoc {e : Nat} {GR : List Row} {gs : List (List DItem)} (h : RG e GR gs) : RG e (GR ++ [⟨.slice none 0 0, e, 6, 0, []⟩]) (gs ++ [[]]) := by
  refine ⟨by simp [h.1], fun j r g hr hg => ?_⟩
  by_cases hj : j < GR.length
  · rw [List.getElem?_append_left hj] at hr
    rw [List.getElem?_append_left (by rw [← h.1]; exact hj)] at hg
    exact h.2 j r g hr hg
  · rw [List.getElem?_append_right (by omega)] at hr
    rw [List.getElem?_append_right (by rw [← h.1]; omega)] at hg
    have e0 : j - GR.length = 0 := by have := (List.getElem?_eq_some_iff.1 hr).1; simp at this; omega
    rw [e0] at hr
    rw [← h.1, e0] at hg
    simp only [List.getElem?_cons_zero, Option.some.injEq] at hr hg
    subst hr; subst hg
    exact ⟨rfl, rfl, rfl, Chunks.nil⟩
theorem RG.set {e : Nat} {GR : List Row} {gs : List (List DItem)} (h : RG e GR gs) {i : Nat} {r' : Row} {g' : List DItem} (h1 : r'.e = e) (h2 : r'.sz = 6) (h3 : r'.n = g'.length) (h4 : Chunks 6 ItemC r'.xs g') : RG e (GR.set i r') (gs.set i g') := by
  refine ⟨by simp [h.1], fun j r g hr hg => ?_⟩
  rw [List.getElem?_set] at hr hg
  by_cases hij : i = j
  · subst hij
    rw [if_pos rfl] at hr hg
    split at hr
    · split at hg
      · cases hr; cases hg; exact ⟨h1, h2, h3, h4⟩
      · cases hg
    · cases hr
  · rw [if_neg hij] at hr hg
    exact h.2 j r g hr hg
theorem RG.type {e : Nat} {GR : List Row} {gs : List (List DItem)} (h : RG e GR gs) : ∀ r ∈ GR, r.e = e := fun r hr => by
  obtain ⟨j, hj⟩ := List.mem_iff_getElem?.1 hr
  have hlt : j < gs.length := by rw [← h.1]; exact (List.getElem?_eq_some_iff.1 hj).1
  exact (h.2 j r _ hj (List.getElem?_eq_getElem hlt)).1
theorem split_at {α : Type} {l : List α} {i : Nat} {x : α} (h : l[i]? = some x) : l = l.take i ++ x :: l.drop (i + 1) := by
  have hi := (List.getElem?_eq_some_iff.1 h).1
  have h2 := (List.getElem?_eq_some_iff.1 h).2
  rw [← h2, ← List.drop_eq_getElem_cons hi, List.take_append_drop]
theorem perm_at {α : Type} {l : List α} {i : Nat} {x : α} (a : α) (h : l[i]? = some x) : (a :: l).Perm (x :: a :: (l.take i ++ l.drop (i + 1))) := by
  have h1 : l.Perm (x :: (l.take i ++ l.drop (i + 1))) := by
    have e := split_at h
    exact (show l.Perm (l.take i ++ x :: l.drop (i + 1)) from by rw [← e]).trans List.perm_middle
  exact (h1.cons a).trans (List.Perm.swap x a _)
theorem perm_back {α : Type} {l : List α} {i : Nat} (x' a : α) (h : i < l.length) : (a :: x' :: (l.take i ++ l.drop (i + 1))).Perm (a :: l.set i x') := by
  refine List.Perm.cons a ?_
  rw [List.set_eq_take_append_cons_drop, if_pos h]
  exact List.perm_middle.symm
theorem map_set_v {GR : List Row} {i : Nat} {r' : Row} (h : i < GR.length) : (GR.map (·.v)).take i ++ [r'.v] ++ (GR.map (·.v)).drop (i + 1) = (GR.set i r').map (·.v) := by
  rw [List.map_set, List.set_eq_take_append_cons_drop, if_pos (by simpa using h)]
  simp

theorem grp9_le {xs : List DItem} {i : Nat} {g : List DItem} (h : (grp9 xs)[i]? = some g) : g.length ≤ xs.length := by
  unfold grp9 at h
  rw [List.getElem?_map] at h
  obtain ⟨s, _, e⟩ := Option.map_eq_some_iff.1 h
  rw [← e]
  exact List.length_filter_le _ _
end Go.Proofs.YtapjejjmhmdmdaaDoor
