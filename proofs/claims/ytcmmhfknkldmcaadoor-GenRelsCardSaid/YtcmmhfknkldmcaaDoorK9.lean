/-
  The names of what hangs on places, in order. No condition beyond those that each theorem states.
-/
import Derived.Test.YtcmmhfknkldmcaaDoorK7
namespace Go.Proofs.YtcmmhfknkldmcaaDoor
open Go.RowKit
theorem pw_at {α : Type} {R : α → α → Prop} {l : List α} (h : l.Pairwise R) {a b : Nat} {x y : α} (hx : l[a]? = some x) (hy : l[b]? = some y) (hab : a < b) : R x y := by
  obtain ⟨h1, rfl⟩ := List.getElem?_eq_some_iff.1 hx
  obtain ⟨h2, rfl⟩ := List.getElem?_eq_some_iff.1 hy
  exact List.pairwise_iff_getElem.1 h a b h1 h2 hab
/-- The name of each one is the next name. -/
def NP (rs : List DRel) : Prop := ∀ (i : Nat) r, rs[i]? = some r → (namesR rs)[(namesR (rs.take i)).length]? = some r.name
theorem NP.nil : NP [] := fun i r h => by simp at h
theorem NP.app {a b : List DRel} (ha : NP a) (hb : NP b) : NP (a ++ b) := fun i r h => by
  rw [namesR_app]
  by_cases hi : i < a.length
  · rw [List.getElem?_append_left hi] at h
    have h1 := ha i r h
    rw [List.take_append_of_le_length (by omega), List.getElem?_append_left (List.getElem?_eq_some_iff.1 h1).1]
    exact h1
  · rw [List.getElem?_append_right (by omega)] at h
    have h1 := hb _ r h
    rw [List.take_append, List.take_of_length_le (by omega), namesR_app, List.length_append, List.getElem?_append_right (by omega), Nat.add_sub_cancel_left]
    exact h1
theorem give_np {no : Nat} {slots : List Int} {x : DInst} : NP (give17 no slots x).2.1 := by
  have two : ∀ p q : Int, NP [⟨p, 2, x.name⟩, ⟨q, 3, x.name⟩] := fun p q i r h => by
    match i, h with
    | 0, h => simp at h; subst h; simp [namesR]
    | 1, h => simp at h; subst h; simp [namesR]
    | n + 2, h => simp at h
  unfold give17
  by_cases h1 : x.op = 1
  · rw [if_pos h1]; exact NP.nil
  rw [if_neg h1]
  by_cases h2 : x.op = 12
  · rw [if_pos h2]; exact two _ _
  rw [if_neg h2]
  by_cases h3 : x.op = 13
  · rw [if_pos h3]; exact two _ _
  rw [if_neg h3]
  by_cases h4 : x.op = 14
  · rw [if_pos h4]
    intro i r h
    match i, h with
    | 0, h => simp at h; subst h; simp [namesR]
    | n + 1, h => simp at h
  rw [if_neg h4]
  by_cases h5 : x.op = 15
  · rw [if_pos h5]; exact NP.nil
  rw [if_neg h5]
  by_cases h6 : x.op = 16
  · rw [if_pos h6]; exact NP.nil
  rw [if_neg h6]; exact NP.nil
theorem ins_np {slots : List Int} {p : Int} {s : List DOp × List DRel} {l : List DInst} (hs : NP s.2) (k : Nat) (hk : k ≤ l.length) : NP (ins17 slots p s (l.take k)).2 := by
  induction k with
  | zero => exact hs
  | succ k ih =>
    have hx : l[k]? = some l[k] := List.getElem?_eq_getElem (by omega)
    rw [ins17_next hx]
    exact NP.app (ih (by omega)) give_np
theorem gAt_np {f : DFunc} (k : Nat) (hk : k ≤ f.blocks.length) : NP (gAt f k).rels := by
  induction k with
  | zero => exact NP.nil
  | succ k ih =>
    have hb : f.blocks[k]? = some f.blocks[k] := List.getElem?_eq_getElem (by omega)
    rw [blkAt hb]
    exact ins_np (s := ((gAt f k).ops, (gAt f k).rels)) (ih (by omega)) _ (Nat.le_refl _)
theorem func_np {f : DFunc} : NP (func17 f).rels := gAt_np f.blocks.length (Nat.le_refl _)
theorem namesR_next {rs : List DRel} {i : Nat} {r : DRel} (h : rs[i]? = some r) : (namesR (rs.take (i + 1))).length = (namesR (rs.take i)).length + (if r.kind = 2 then 0 else 1) := by
  rw [take_next h, namesR_app, List.length_append]
  congr 1
  unfold namesR
  by_cases e : r.kind = 2 <;> simp [e]
end Go.Proofs.YtcmmhfknkldmcaaDoor
