/-
  The new names of layer 10 (merge): plain facts. No condition beyond those that each theorem states.
-/
import Derived.Test.YtapjejjmhmdmdaaDoorR5i
import Derived.Lib.ItoaNum
import Derived.Lib.ItoaLen
import Derived.WalkSmall
namespace Go.Proofs.YtapjejjmhmdmdaaDoor
open Go.RowKit

theorem itemsFrom_mem : ∀ (l : List DMod) (n : Nat) (x : DItem), x ∈ itemsFrom n l → ∃ i m, l[i]? = some m ∧ x ∈ mItems (n + i) m
  | [], _, x, h => by simp [itemsFrom] at h
  | m :: l, n, x, h => by
    simp only [itemsFrom, List.mem_append] at h
    rcases h with h | h
    · exact ⟨0, m, rfl, h⟩
    · obtain ⟨i, m', h1, h2⟩ := itemsFrom_mem l (n + 1) x h
      exact ⟨i + 1, m', h1, by rw [show n + (i + 1) = n + 1 + i by omega]; exact h2⟩
theorem mItems_mem {i : Nat} {m : DMod} {x : DItem} (h : x ∈ mItems i m) : (∃ f ∈ m.funcs, ¬ f.bind = 1 ∧ x = fItem i f) ∨ ∃ g ∈ m.globs, ¬ g.bind = 1 ∧ x = gItem i g := by
  simp only [mItems, fItems, gItems, List.mem_append, List.mem_filterMap] at h
  rcases h with ⟨f, hf, e⟩ | ⟨g, hg, e⟩
  · left
    split at e
    · cases e
    · rename_i hb; cases e; exact ⟨f, hf, hb, rfl⟩
  · right
    split at e
    · cases e
    · rename_i hb; cases e; exact ⟨g, hg, hb, rfl⟩
theorem items_mem {l : List DMod} {x : DItem} (h : x ∈ items9 l) : ∃ i m, l[i]? = some m ∧ ((∃ f ∈ m.funcs, ¬ f.bind = 1 ∧ x = fItem i f) ∨ ∃ g ∈ m.globs, ¬ g.bind = 1 ∧ x = gItem i g) := by
  obtain ⟨i, m, h1, h2⟩ := itemsFrom_mem l 0 x h
  rw [Nat.zero_add] at h2
  exact ⟨i, m, h1, mItems_mem h2⟩
theorem slv_mem {α : Type} {ro : Nat → Prop} {w : World} {sz : Nat} {Q : List Value → α → Prop} {v : Value} {xs : List α} (h : SlV ro w sz Q v xs) {x : α} (hx : x ∈ xs) : ∃ cs, Q cs x := by
  obtain ⟨ad, cap, _, _, _, _, he⟩ := h
  obtain ⟨i, hi⟩ := List.mem_iff_getElem?.1 hx
  obtain ⟨_, _, cs, _, _, _, _, hq⟩ := he i x hi
  exact ⟨cs, hq⟩
theorem slv_len {α : Type} {ro : Nat → Prop} {w : World} {sz : Nat} {Q : List Value → α → Prop} {v : Value} {xs : List α} (h : SlV ro w sz Q v xs) : xs.length ≤ 9223372036854775807 := by
  obtain ⟨ad, cap, _, h1, h2, _⟩ := h
  unfold maxLen at h2; omega
theorem itemsFrom_len : ∀ (l : List DMod) (n : Nat), (itemsFrom n l).length ≤ (l.map fun m => m.funcs.length + m.globs.length).sum
  | [], _ => by simp [itemsFrom]
  | m :: l, n => by
    have ih := itemsFrom_len l (n + 1)
    have h1 := List.length_filterMap_le (fun f : DFunc => if f.bind = 1 then none else some (fItem n f)) m.funcs
    have h2 := List.length_filterMap_le (fun f : DGlob => if f.bind = 1 then none else some (gItem n f)) m.globs
    simp only [itemsFrom, mItems, fItems, gItems, List.length_append, List.map_cons, List.sum_cons]
    omega
/-- What is read of modules fits. -/
theorem inI0 : inI 0 := by unfold inI; omega
/-- What is read of modules fits. -/
theorem items_ok {ro : Nat → Prop} {w : World} {v : Value} {ms : List DMod} (h : SlV ro w 2 (ModC ro w) v ms) : ∀ x ∈ items9 ms, x.name.size ≤ maxLen ∧ inI x.mod ∧ inI x.params := by
  intro x hx
  obtain ⟨i, m, hi, hm⟩ := items_mem hx
  have hl := slv_len h
  have hlt := (List.getElem?_eq_some_iff.1 hi).1
  obtain ⟨cs, s, t, _, hf, hg⟩ := slv_mem h (List.mem_of_getElem? hi)
  have hmod : inI (i : Int) := by unfold inI; omega
  rcases hm with ⟨f, hfm, _, rfl⟩ | ⟨g, hgm, _, rfl⟩
  · obtain ⟨_, _, _, _, h1, _, h3⟩ := slv_mem hf hfm
    exact ⟨h1, hmod, h3⟩
  · obtain ⟨_, _, h1, _⟩ := slv_mem hg hgm
    exact ⟨h1, hmod, inI0⟩
def val10 (l : List UInt8) : Nat := l.foldl (fun a d => a * 10 + (d.toNat - 48)) 0
theorem val10_dec (u : Nat) : val10 (Lib.decDigits u) = u := by
  induction u using Nat.strongRecOn with
  | _ u ih =>
    by_cases h : u < 10
    · rw [Lib.decDigits, dif_pos h]
      have : (UInt8.ofNat (48 + u)).toNat = 48 + u := by rw [UInt8.toNat_ofNat']; omega
      simp only [val10, List.foldl_cons, List.foldl_nil, this]; omega
    · rw [Lib.decDigits, dif_neg h]
      have h1 : (UInt8.ofNat (48 + u % 10)).toNat = 48 + u % 10 := by rw [UInt8.toNat_ofNat']; omega
      have h2 := ih (u / 10) (by omega)
      unfold val10 at h2 ⊢
      rw [List.foldl_append, h2]
      simp only [List.foldl_cons, List.foldl_nil, h1]; omega
def dot10 (n : Nat) : ByteArray := (⟨#[46]⟩ : ByteArray) ++ ⟨(Lib.itoa (n : Int)).toArray⟩
theorem itoa_nat (n : Nat) : Lib.itoa (n : Int) = Lib.decDigits n := by unfold Lib.itoa; rw [if_neg (by omega)]; simp
theorem dot10_inj {a b : Nat} (h : dot10 a = dot10 b) : a = b := by
  have h1 := congrArg (fun x : ByteArray => x.data.toList) h
  simp only [dot10, ByteArray.data_append, itoa_nat, Array.toList_append, List.cons_append, List.nil_append, List.cons.injEq, true_and] at h1
  rw [← val10_dec a, h1, val10_dec b]
theorem mem_len {α : Type} [DecidableEq α] : ∀ (l r : List α), l.Nodup → (∀ x ∈ l, x ∈ r) → l.length ≤ r.length
  | [], _, _, _ => Nat.zero_le _
  | x :: l, r, h, hm => by
    have h1 := List.nodup_cons.1 h
    have h2 := mem_len l (r.erase x) h1.2 fun y hy => (List.mem_erase_of_ne (fun e => h1.1 (by rw [← e]; exact hy))).2 (hm y (List.mem_cons_of_mem _ hy))
    have h3 := List.length_erase_of_mem (hm x List.mem_cons_self)
    have h4 : 0 < r.length := List.length_pos_of_mem (hm x List.mem_cons_self)
    rw [List.length_cons]; omega
/-- The first number from n on whose name is not taken, among f. -/
def locF (t : List ByteArray) : Nat → Nat → Nat
  | 0, n => n
  | f + 1, n => if dot10 n ∈ t then locF t f (n + 1) else n
def loc10 (t : List ByteArray) (n : Nat) : Nat := locF t t.length n
theorem locF_bounds (t : List ByteArray) : ∀ f n, n ≤ locF t f n ∧ locF t f n ≤ n + f
  | 0, n => ⟨Nat.le_refl _, Nat.le_refl _⟩
  | f + 1, n => by
    unfold locF
    split
    · have := locF_bounds t f (n + 1); omega
    · omega
theorem locF_all (t : List ByteArray) : ∀ f n, dot10 (locF t f n) ∈ t → ∀ j, j ≤ f → dot10 (n + j) ∈ t
  | 0, n, h, j, hj => by obtain rfl : j = 0 := by omega
                         exact h
  | f + 1, n, h, j, hj => by
    unfold locF at h
    split at h
    · rename_i h1
      cases j with
      | zero => exact h1
      | succ j => have := locF_all t f (n + 1) h j (by omega); rwa [show n + 1 + j = n + (j + 1) by omega] at this
    · contradiction
theorem loc10_not (t : List ByteArray) (n : Nat) : dot10 (loc10 t n) ∉ t := fun h => by
  have h1 := locF_all t t.length n h
  have h2 := mem_len ((List.range (t.length + 1)).map fun j => dot10 (n + j)) t
    (List.pairwise_map.2 (List.nodup_range.imp fun h e => h (by have := dot10_inj e; omega)))
    (fun x hx => by obtain ⟨j, hj, rfl⟩ := List.mem_map.1 hx; exact h1 j (by have := List.mem_range.1 hj; omega))
  rw [List.length_map, List.length_range] at h2
  omega
end Go.Proofs.YtapjejjmhmdmdaaDoor
