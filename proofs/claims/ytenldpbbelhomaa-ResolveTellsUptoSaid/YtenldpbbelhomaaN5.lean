/-
  Two modules that stand the other way round: plain facts. No condition beyond those that each theorem states.
-/
import Derived.Test.YtenldpbbelhomaaQ10
namespace Go.Proofs.Ytenldpbbelhomaa
open Go.RowKit

def relab (t : Int → Int) (x : DItem) : DItem := { x with mod := t x.mod }
theorem itemsFrom_flat : ∀ (l : List DMod) (n : Nat), itemsFrom n l = (List.range' n l.length).flatMap fun j => match l[j - n]? with | some m => mItems j m | none => []
  | [], n => rfl
  | m :: l, n => by
    rw [itemsFrom, itemsFrom_flat l (n + 1), List.length_cons, List.range'_succ, List.flatMap_cons, Nat.sub_self]
    congr 1
    rw [List.flatMap_def, List.flatMap_def]
    congr 1
    apply List.map_congr_left
    intro j hj
    have := (List.mem_range'_1.1 hj).1
    rw [show j - n = (j - (n + 1)) + 1 by omega, List.getElem?_cons_succ]
theorem items9_flat (l : List DMod) : items9 l = (List.range l.length).flatMap fun j => match l[j]? with | some m => mItems j m | none => [] := by
  rw [items9, itemsFrom_flat, List.range_eq_range']
  simp
def tau (i k : Nat) (z : Int) : Int := if z = (i : Int) then (k : Int) else if z = (k : Int) then (i : Int) else z
def tauN (i k j : Nat) : Nat := if j = i then k else if j = k then i else j
theorem tau_tau (i k : Nat) (z : Int) : tau i k (tau i k z) = z := by unfold tau; (repeat' split) <;> omega
theorem tauN_tauN (i k j : Nat) : tauN i k (tauN i k j) = j := by unfold tauN; (repeat' split) <;> omega
theorem tau_nat (i k j : Nat) : tau i k (j : Int) = (tauN i k j : Int) := by unfold tau tauN; (repeat' split) <;> omega
def turn9 (l : List DMod) (i k : Nat) (x y : DMod) : List DMod := (l.set i y).set k x
theorem turn9_get {l : List DMod} {i k : Nat} {x y : DMod} (hi : l[i]? = some x) (hk : l[k]? = some y) (j : Nat) : (turn9 l i k x y)[j]? = l[tauN i k j]? := by
  have h1 := (List.getElem?_eq_some_iff.1 hi).1
  have h2 := (List.getElem?_eq_some_iff.1 hk).1
  unfold turn9 tauN
  rw [List.getElem?_set, List.getElem?_set]
  by_cases ej : j = i
  · subst ej
    rw [if_pos rfl]
    by_cases e2 : k = j
    · subst e2; rw [if_pos rfl, if_pos (by simpa using h1), if_pos rfl, hi]
    · rw [if_neg e2, if_pos rfl, if_pos h1, hk]
  · rw [if_neg ej]
    by_cases e2 : k = j
    · subst e2; rw [if_pos rfl, if_pos (by simpa using h2), if_pos rfl, hi]
    · rw [if_neg e2, if_neg (fun h => ej h.symm), if_neg (fun h => e2 h.symm)]
theorem fm_congr {α β : Type} {f g : α → Option β} : ∀ (l : List α), (∀ x ∈ l, f x = g x) → l.filterMap f = l.filterMap g
  | [], _ => rfl
  | x :: l, h => by
    rw [List.filterMap_cons, List.filterMap_cons, h x (by simp), fm_congr l fun y hy => h y (List.mem_cons_of_mem _ hy)]
theorem nodup_map {α β : Type} {f : α → β} (hf : ∀ a b, f a = f b → a = b) : ∀ {l : List α}, l.Nodup → (l.map f).Nodup
  | [], _ => List.nodup_nil
  | x :: l, h => by
    obtain ⟨h1, h2⟩ := List.nodup_cons.1 h
    rw [List.map_cons, List.nodup_cons]
    refine ⟨fun hm => ?_, nodup_map hf h2⟩
    obtain ⟨y, hy, e⟩ := List.mem_map.1 hm
    exact h1 (by rw [← hf _ _ e]; exact hy)
theorem mItems_relab (i k j : Nat) (m : DMod) : (mItems (tauN i k j) m).map (relab (tau i k)) = mItems j m := by
  have e : tau i k ((tauN i k j : Nat) : Int) = (j : Int) := by rw [tau_nat, tauN_tauN]
  unfold mItems fItems gItems
  rw [List.map_append, List.map_filterMap, List.map_filterMap]
  congr 1
  · apply fm_congr
    intro f _
    split
    · rfl
    · simp only [Option.map_some, relab, fItem, e]
  · apply fm_congr
    intro f _
    split
    · rfl
    · simp only [Option.map_some, relab, gItem, e]
theorem range_perm (n i k : Nat) (hi : i < n) (hk : k < n) : ((List.range n).map (tauN i k)).Perm (List.range n) := by
  have hinj : ∀ a b, tauN i k a = tauN i k b → a = b := fun a b h => by rw [← tauN_tauN i k a, h, tauN_tauN]
  rw [List.perm_ext_iff_of_nodup]
  · intro a
    simp only [List.mem_map, List.mem_range]
    constructor
    · rintro ⟨b, hb, rfl⟩; unfold tauN; (repeat' split) <;> omega
    · intro ha
      refine ⟨tauN i k a, ?_, tauN_tauN i k a⟩
      unfold tauN; (repeat' split) <;> omega
  · exact nodup_map hinj List.nodup_range
  · exact List.nodup_range
/-- The items of the modules that are turned. -/
theorem items9_turn {l : List DMod} {i k : Nat} {x y : DMod} (hi : l[i]? = some x) (hk : l[k]? = some y) : (items9 (turn9 l i k x y)).Perm ((items9 l).map (relab (tau i k))) := by
  have h1 := (List.getElem?_eq_some_iff.1 hi).1
  have h2 := (List.getElem?_eq_some_iff.1 hk).1
  have hlen : (turn9 l i k x y).length = l.length := by simp [turn9]
  rw [items9_flat, items9_flat, hlen, List.map_flatMap]
  have e : ((List.range l.length).flatMap fun j => match (turn9 l i k x y)[j]? with | some m => mItems j m | none => []) = ((List.range l.length).map (tauN i k)).flatMap fun j => (match l[j]? with | some m => mItems j m | none => []).map (relab (tau i k)) := by
    rw [List.flatMap_map]
    rw [List.flatMap_def, List.flatMap_def]
    congr 1
    apply List.map_congr_left
    intro j _
    rw [turn9_get hi hk]
    cases l[tauN i k j]? with
    | none => rfl
    | some m => exact (mItems_relab i k j m).symm
  rw [e]
  exact (range_perm _ i k h1 h2).flatMap_right _
end Go.Proofs.Ytenldpbbelhomaa
