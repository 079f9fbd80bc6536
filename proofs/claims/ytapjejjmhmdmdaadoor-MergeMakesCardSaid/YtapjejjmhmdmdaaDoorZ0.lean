/-
  Contracts of layer 9 (resolve). No condition beyond those that each theorem states.
-/
import Derived.Test.YtapjejjmhmdmdaaDoorR5g
import Derived.Lib.ItoaNum
import Derived.Lib.ItoaLen
import Derived.WalkSmall
import Derived.Shelf.Strconv.Itoa3
import Derived.Ground.NamesProg
import Derived.Test.YtapjejjmhmdmdaaDoorProg
namespace Go.Proofs.YtapjejjmhmdmdaaDoor
open Go.RowKit

theorem check5_all {m : DMod} (h : check5 m = 0) : m.funcs.length ≤ 16 ∧ m.globs.length ≤ 16 ∧ (∀ f ∈ m.funcs, func5 f = true) ∧ (∀ g ∈ m.globs, glob5 g = true) ∧ (names5 m).Nodup ∧ (∀ x ∈ insts5 m, bad5 m x = false) ∧ (∀ x ∈ insts5 m, odd5 m x = false) := by
  unfold check5 at h
  split at h
  · omega
  split at h
  · omega
  split at h
  · omega
  split at h
  · omega
  split at h
  · omega
  rename_i h1 h2 h3 h4 h5
  have hf : m.funcs.all func5 = true := by cases e : m.funcs.all func5 <;> simp_all
  have hg : m.globs.all glob5 = true := by cases e : m.globs.all glob5 <;> simp_all
  refine ⟨by omega, by omega, List.all_eq_true.1 hf, List.all_eq_true.1 hg, Classical.not_not.1 h3, fun x hx => ?_, fun x hx => ?_⟩
  · cases e : bad5 m x with
    | false => rfl
    | true => exact absurd (List.any_eq_true.2 ⟨x, hx, e⟩) h4
  · cases e : odd5 m x with
    | false => rfl
    | true => exact absurd (List.any_eq_true.2 ⟨x, hx, e⟩) h5

theorem func5_all {f : DFunc} (h : func5 f = true) : f.blocks.length ≤ 16 ∧ ∀ b ∈ f.blocks, block5 f b = true := by
  unfold func5 at h
  split at h
  · cases h
  rename_i h1
  refine ⟨by omega, ?_⟩
  split at h
  · rename_i e; rw [e]; intro b hb; cases hb
  · simp only [Bool.and_eq_true, List.all_eq_true] at h
    exact h.2
theorem block5_all {f : DFunc} {b : DBlock} (h : block5 f b = true) : 0 ≤ b.params ∧ b.params ≤ 6 ∧ b.ins.length ≤ 32 := by
  unfold block5 at h
  split at h
  · cases h
  · omega
end Go.Proofs.YtapjejjmhmdmdaaDoor

namespace Go.Proofs.YtapjejjmhmdmdaaDoor
open Go.RowKit

theorem itemsFrom_mem : ∀ (l : List DMod) (n : Nat) (x : DItem), x ∈ itemsFrom n l → ∃ i m, l[i]? = some m ∧ x ∈ mItems (n + i) m
  | [], _, x, h => by simp [itemsFrom] at h
  | m :: l, n, x, h => by
    simp only [itemsFrom, List.mem_append] at h
    rcases h with h | h
    · exact ⟨0, m, rfl, h⟩
    · obtain ⟨i, m', h1, h2⟩ := itemsFrom_mem l (n + 1) x h
      exact ⟨i + 1, m', h1, by rw [show n + (i + 1) = n + 1 + i by omega]; exact h2⟩
theorem mItems_mem {i : Nat} {m : DMod} {x : DItem} (h : x ∈ mItems i m) : (∃ f ∈ m.funcs, ¬ f.bind = 1 ∧ x = fItem i f) ∨ ∃ g ∈ m.globs, ¬ g.bind = 1 ∧ x = gItem i g := by
  simp only [mItems, fItems, gItems, List.mem_append, List.mem_filterMap] at h
  rcases h with ⟨f, hf, e⟩ | ⟨g, hg, e⟩
  · left
    split at e
    · cases e
    · rename_i hb; cases e; exact ⟨f, hf, hb, rfl⟩
  · right
    split at e
    · cases e
    · rename_i hb; cases e; exact ⟨g, hg, hb, rfl⟩
theorem items_mem {l : List DMod} {x : DItem} (h : x ∈ items9 l) : ∃ i m, l[i]? = some m ∧ ((∃ f ∈ m.funcs, ¬ f.bind = 1 ∧ x = fItem i f) ∨ ∃ g ∈ m.globs, ¬ g.bind = 1 ∧ x = gItem i g) := by
  obtain ⟨i, m, h1, h2⟩ := itemsFrom_mem l 0 x h
  rw [Nat.zero_add] at h2
  exact ⟨i, m, h1, mItems_mem h2⟩
theorem slv_mem {α : Type} {ro : Nat → Prop} {w : World} {sz : Nat} {Q : List Value → α → Prop} {v : Value} {xs : List α} (h : SlV ro w sz Q v xs) {x : α} (hx : x ∈ xs) : ∃ cs, Q cs x := by
  obtain ⟨ad, cap, _, _, _, _, he⟩ := h
  obtain ⟨i, hi⟩ := List.mem_iff_getElem?.1 hx
  obtain ⟨_, _, cs, _, _, _, _, hq⟩ := he i x hi
  exact ⟨cs, hq⟩
theorem slv_len {α : Type} {ro : Nat → Prop} {w : World} {sz : Nat} {Q : List Value → α → Prop} {v : Value} {xs : List α} (h : SlV ro w sz Q v xs) : xs.length ≤ 9223372036854775807 := by
  obtain ⟨ad, cap, _, h1, h2, _⟩ := h
  unfold maxLen at h2; omega
theorem itemsFrom_len : ∀ (l : List DMod) (n : Nat), (itemsFrom n l).length ≤ (l.map fun m => m.funcs.length + m.globs.length).sum
  | [], _ => by simp [itemsFrom]
  | m :: l, n => by
    have ih := itemsFrom_len l (n + 1)
    have h1 := List.length_filterMap_le (fun f : DFunc => if f.bind = 1 then none else some (fItem n f)) m.funcs
    have h2 := List.length_filterMap_le (fun f : DGlob => if f.bind = 1 then none else some (gItem n f)) m.globs
    simp only [itemsFrom, mItems, fItems, gItems, List.length_append, List.map_cons, List.sum_cons]
    omega
/-- What is read of modules fits. -/
theorem inI0 : inI 0 := by unfold inI; omega
/-- What is read of modules fits. -/
theorem items_ok {ro : Nat → Prop} {w : World} {v : Value} {ms : List DMod} (h : SlV ro w 2 (ModC ro w) v ms) : ∀ x ∈ items9 ms, x.name.size ≤ maxLen ∧ inI x.mod ∧ inI x.params := by
  intro x hx
  obtain ⟨i, m, hi, hm⟩ := items_mem hx
  have hl := slv_len h
  have hlt := (List.getElem?_eq_some_iff.1 hi).1
  obtain ⟨cs, s, t, _, hf, hg⟩ := slv_mem h (List.mem_of_getElem? hi)
  have hmod : inI (i : Int) := by unfold inI; omega
  rcases hm with ⟨f, hfm, _, rfl⟩ | ⟨g, hgm, _, rfl⟩
  · obtain ⟨_, _, _, _, h1, _, h3⟩ := slv_mem hf hfm
    exact ⟨h1, hmod, h3⟩
  · obtain ⟨_, _, h1, _⟩ := slv_mem hg hgm
    exact ⟨h1, hmod, inI0⟩
def val10 (l : List UInt8) : Nat := l.foldl (fun a d => a * 10 + (d.toNat - 48)) 0
theorem val10_dec (u : Nat) : val10 (Lib.decDigits u) = u := by
  induction u using Nat.strongRecOn with
  | _ u ih =>
    by_cases h : u < 10
    · rw [Lib.decDigits, dif_pos h]
      have : (UInt8.ofNat (48 + u)).toNat = 48 + u := by rw [UInt8.toNat_ofNat']; omega
      simp only [val10, List.foldl_cons, List.foldl_nil, this]; omega
    · rw [Lib.decDigits, dif_neg h]
      have h1 : (UInt8.ofNat (48 + u % 10)).toNat = 48 + u % 10 := by rw [UInt8.toNat_ofNat']; omega
      have h2 := ih (u / 10) (by omega)
      unfold val10 at h2 ⊢
      rw [List.foldl_append, h2]
      simp only [List.foldl_cons, List.foldl_nil, h1]; omega
def dot10 (n : Nat) : ByteArray := (⟨#[46]⟩ : ByteArray) ++ ⟨(Lib.itoa (n : Int)).toArray⟩
theorem itoa_nat (n : Nat) : Lib.itoa (n : Int) = Lib.decDigits n := by unfold Lib.itoa; rw [if_neg (by omega)]; simp
theorem dot10_inj {a b : Nat} (h : dot10 a = dot10 b) : a = b := by
  have h1 := congrArg (fun x : ByteArray => x.data.toList) h
  simp only [dot10, ByteArray.data_append, itoa_nat, Array.toList_append, List.cons_append, List.nil_append, List.cons.injEq, true_and] at h1
  rw [← val10_dec a, h1, val10_dec b]
theorem mem_len {α : Type} [DecidableEq α] : ∀ (l r : List α), l.Nodup → (∀ x ∈ l, x ∈ r) → l.length ≤ r.length
  | [], _, _, _ => Nat.zero_le _
  | x :: l, r, h, hm => by
    have h1 := List.nodup_cons.1 h
    have h2 := mem_len l (r.erase x) h1.2 fun y hy => (List.mem_erase_of_ne (fun e => h1.1 (by rw [← e]; exact hy))).2 (hm y (List.mem_cons_of_mem _ hy))
    have h3 := List.length_erase_of_mem (hm x List.mem_cons_self)
    have h4 : 0 < r.length := List.length_pos_of_mem (hm x List.mem_cons_self)
    rw [List.length_cons]; omega
/-- The first number from n on whose name is not taken, among f. -/
def locF (t : List ByteArray) : Nat → Nat → Nat
  | 0, n => n
  | f + 1, n => if dot10 n ∈ t then locF t f (n + 1) else n
def loc10 (t : List ByteArray) (n : Nat) : Nat := locF t t.length n
theorem locF_bounds (t : List ByteArray) : ∀ f n, n ≤ locF t f n ∧ locF t f n ≤ n + f
  | 0, n => ⟨Nat.le_refl _, Nat.le_refl _⟩
  | f + 1, n => by
    unfold locF
    split
    · have := locF_bounds t f (n + 1); omega
    · omega
theorem locF_all (t : List ByteArray) : ∀ f n, dot10 (locF t f n) ∈ t → ∀ j, j ≤ f → dot10 (n + j) ∈ t
  | 0, n, h, j, hj => by obtain rfl : j = 0 := by omega
                         exact h
  | f + 1, n, h, j, hj => by
    unfold locF at h
    split at h
    · rename_i h1
      cases j with
      | zero => exact h1
      | succ j => have := locF_all t f (n + 1) h j (by omega); rwa [show n + 1 + j = n + (j + 1) by omega] at this
    · contradiction
theorem loc10_not (t : List ByteArray) (n : Nat) : dot10 (loc10 t n) ∉ t := fun h => by
  have h1 := locF_all t t.length n h
  have h2 := mem_len ((List.range (t.length + 1)).map fun j => dot10 (n + j)) t
    (List.pairwise_map.2 (List.nodup_range.imp fun h e => h (by have := dot10_inj e; omega)))
    (fun x hx => by obtain ⟨j, hj, rfl⟩ := List.mem_map.1 hx; exact h1 j (by have := List.mem_range.1 hj; omega))
  rw [List.length_map, List.length_range] at h2
  omega
end Go.Proofs.YtapjejjmhmdmdaaDoor

namespace Go.Proofs.YtapjejjmhmdmdaaDoor
open Go.RowKit

abbrev Ren := ByteArray → Option ByteArray
def its10 (m : DMod) : List (ByteArray × Int) := m.funcs.map (fun f => (f.name, f.bind)) ++ m.globs.map (fun g => (g.name, g.bind))
def give10 (t : List ByteArray) (s : Ren × Nat) (x : ByteArray × Int) : Ren × Nat :=
  if x.2 = 1 ∧ (s.1 x.1).isSome = false then (updG s.1 x.1 (dot10 (loc10 t s.2)), loc10 t s.2 + 1) else s
def mod10 (t : List ByteArray) (n : Nat) (l : List (ByteArray × Int)) : Ren × Nat := l.foldl (give10 t) (fun _ => none, n)
def namStep (t : List ByteArray) (s : List Ren × Nat) (m : DMod) : List Ren × Nat := (s.1 ++ [(mod10 t s.2 (its10 m)).1], (mod10 t s.2 (its10 m)).2)
def nam10 (t : List ByteArray) (ms : List DMod) : List Ren × Nat := ms.foldl (namStep t) ([], 0)
theorem its_f {m : DMod} {k : Nat} {f : DFunc} (h : m.funcs[k]? = some f) : (its10 m)[k]? = some (f.name, f.bind) := by
  have hk := (List.getElem?_eq_some_iff.1 h).1
  unfold its10
  rw [List.getElem?_append_left (by simpa using hk), List.getElem?_map, h]; rfl
theorem its_g {m : DMod} {k : Nat} {f : DGlob} (h : m.globs[k]? = some f) : (its10 m)[m.funcs.length + k]? = some (f.name, f.bind) := by
  unfold its10
  rw [List.getElem?_append_right (by simp), List.getElem?_map, List.length_map, Nat.add_sub_cancel_left, h]; rfl
theorem its_len (m : DMod) : (its10 m).length = m.funcs.length + m.globs.length := by simp [its10]
theorem mod10_next {t : List ByteArray} {n : Nat} {l : List (ByteArray × Int)} {k : Nat} {x : ByteArray × Int} (h : l[k]? = some x) : mod10 t n (l.take (k + 1)) = give10 t (mod10 t n (l.take k)) x := by
  unfold mod10
  rw [take_next h, List.foldl_append]; rfl
theorem nam10_next {t : List ByteArray} {ms : List DMod} {i : Nat} {m : DMod} (h : ms[i]? = some m) : nam10 t (ms.take (i + 1)) = namStep t (nam10 t (ms.take i)) m := by
  unfold nam10
  rw [take_next h, List.foldl_append]; rfl
theorem give10_yes {t : List ByteArray} {s : Ren × Nat} {x : ByteArray × Int} (h1 : x.2 = 1) (h2 : (s.1 x.1).isSome = false) : give10 t s x = (updG s.1 x.1 (dot10 (loc10 t s.2)), loc10 t s.2 + 1) := by
  unfold give10; rw [if_pos ⟨h1, h2⟩]
theorem give10_no1 {t : List ByteArray} {s : Ren × Nat} {x : ByteArray × Int} (h1 : ¬ x.2 = 1) : give10 t s x = s := by unfold give10; rw [if_neg fun h => h1 h.1]
theorem give10_no2 {t : List ByteArray} {s : Ren × Nat} {x : ByteArray × Int} (h2 : (s.1 x.1).isSome = true) : give10 t s x = s := by unfold give10; rw [if_neg fun h => by rw [h2] at h; cases h.2]
theorem loc10_bounds (t : List ByteArray) (n : Nat) : n ≤ loc10 t n ∧ loc10 t n ≤ n + t.length := locF_bounds t t.length n
theorem give10_num {t : List ByteArray} (ht : t.length ≤ 1048576) (s : Ren × Nat) (x : ByteArray × Int) : s.2 ≤ (give10 t s x).2 ∧ (give10 t s x).2 ≤ s.2 + 1048577 := by
  have := loc10_bounds t s.2
  unfold give10; split
  · simp only; omega
  · omega
theorem fold10_num {t : List ByteArray} (ht : t.length ≤ 1048576) : ∀ (l : List (ByteArray × Int)) (s : Ren × Nat), s.2 ≤ (l.foldl (give10 t) s).2 ∧ (l.foldl (give10 t) s).2 ≤ s.2 + l.length * 1048577
  | [], s => by simp
  | x :: l, s => by
    have h1 := fold10_num ht l (give10 t s x)
    have h2 := give10_num ht s x
    rw [List.foldl_cons, List.length_cons]; omega
theorem mod10_num {t : List ByteArray} (ht : t.length ≤ 1048576) (n : Nat) (l : List (ByteArray × Int)) : n ≤ (mod10 t n l).2 ∧ (mod10 t n l).2 ≤ n + l.length * 1048577 := fold10_num ht l (fun _ => none, n)
theorem nam10_num {t : List ByteArray} (ht : t.length ≤ 1048576) (ms : List DMod) (hl : ∀ m ∈ ms, (its10 m).length ≤ 32) : (nam10 t ms).2 ≤ ms.length * 33554464 ∧ (nam10 t ms).1.length = ms.length := by
  induction ms using snoc_ind with
  | h0 => simp [nam10]
  | h1 l x ih =>
    have ih := ih fun m hm => hl m (List.mem_append_left _ hm)
    have e : nam10 t (l ++ [x]) = namStep t (nam10 t l) x := by unfold nam10; rw [List.foldl_append]; rfl
    have h1 := mod10_num ht (nam10 t l).2 (its10 x)
    have h2 := hl x (by simp)
    rw [e]; unfold namStep
    simp only [List.length_append, List.length_cons, List.length_nil]
    omega
/-- What is given is new: what stands in a map is a name that was given behind n, and is no name that is taken. -/
theorem fold10_keys {t : List ByteArray} (n : Nat) : ∀ (l : List (ByteArray × Int)), ∀ s v, (mod10 t n l).1 s = some v → (s, (1 : Int)) ∈ l ∧ ∃ k, v = dot10 k ∧ n ≤ k ∧ k < (mod10 t n l).2 ∧ dot10 k ∉ t := by
  intro l
  have hn : n ≤ (mod10 t n l).2 := by
    induction l using snoc_ind with
    | h0 => exact Nat.le_refl _
    | h1 l x ih =>
      have e : mod10 t n (l ++ [x]) = give10 t (mod10 t n l) x := by unfold mod10; rw [List.foldl_append]; rfl
      have h := loc10_bounds t (mod10 t n l).2
      rw [e]; unfold give10; split
      · simp only; omega
      · exact ih
  clear hn
  induction l using snoc_ind with
  | h0 => intro s v h; simp [mod10] at h
  | h1 l x ih =>
    have e : mod10 t n (l ++ [x]) = give10 t (mod10 t n l) x := by unfold mod10; rw [List.foldl_append]; rfl
    have hb := loc10_bounds t (mod10 t n l).2
    have hn : n ≤ (mod10 t n l).2 := by
      clear ih e hb
      induction l using snoc_ind with
      | h0 => exact Nat.le_refl _
      | h1 l x ih =>
        have e : mod10 t n (l ++ [x]) = give10 t (mod10 t n l) x := by unfold mod10; rw [List.foldl_append]; rfl
        have h := loc10_bounds t (mod10 t n l).2
        rw [e]; unfold give10; split
        · simp only; omega
        · exact ih
    intro s v h
    rw [e] at h ⊢
    unfold give10 at h ⊢
    split at h
    · rename_i hc
      rw [if_pos hc]
      simp only [updG] at h
      split at h
      · rename_i he
        cases h
        refine ⟨by rw [he]; simp [← hc.1], _, rfl, by omega, by simp only; omega, loc10_not t _⟩
      · obtain ⟨h1, k, h2, h3, h4, h5⟩ := ih s v h
        exact ⟨List.mem_append_left _ h1, k, h2, h3, by simp only; omega, h5⟩
    · rename_i hc
      rw [if_neg hc]
      obtain ⟨h1, k, h2, h3, h4, h5⟩ := ih s v h
      exact ⟨List.mem_append_left _ h1, k, h2, h3, h4, h5⟩
/-- The i-th map, and the number that is due behind it. -/
theorem nam10_at {t : List ByteArray} {ms : List DMod} {i : Nat} {m : DMod} (h : ms[i]? = some m) : (nam10 t ms).1[i]? = some (mod10 t (nam10 t (ms.take i)).2 (its10 m)).1 := by
  have hi := (List.getElem?_eq_some_iff.1 h).1
  have key : ∀ (l : List DMod) (s : List Ren × Nat), ∃ r, (l.foldl (namStep t) s).1 = s.1 ++ r := by
    intro l
    induction l with
    | nil => intro s; exact ⟨[], by simp⟩
    | cons x l ih =>
      intro s
      obtain ⟨r, hr⟩ := ih (namStep t s x)
      refine ⟨[(mod10 t s.2 (its10 x)).1] ++ r, ?_⟩
      rw [List.foldl_cons, hr]; simp [namStep]
  have hl : ∀ (l : List DMod), (nam10 t l).1.length = l.length := by
    intro l
    induction l using snoc_ind with
    | h0 => rfl
    | h1 l x ih =>
      have e : nam10 t (l ++ [x]) = namStep t (nam10 t l) x := by unfold nam10; rw [List.foldl_append]; rfl
      rw [e]; simp [namStep, ih]
  have e : nam10 t ms = (ms.drop (i + 1)).foldl (namStep t) (nam10 t (ms.take (i + 1))) := by
    unfold nam10; rw [← List.foldl_append, List.take_append_drop]
  obtain ⟨r, hr⟩ := key (ms.drop (i + 1)) (nam10 t (ms.take (i + 1)))
  rw [e, hr, nam10_next h]
  have h2 := hl (ms.take i)
  rw [List.length_take, Nat.min_eq_left (by omega)] at h2
  simp only [namStep]
  rw [List.getElem?_append_left (by simp; omega), List.getElem?_append_right (by omega), h2, Nat.sub_self]; rfl
end Go.Proofs.YtapjejjmhmdmdaaDoor

namespace Go.Proofs
open Go.Shelf
def Tryd.laysItoa_ren : Go.Shelf.Ren := ⟨fun | 171 => 42 | 243 => 77 | 246 => 94 | 283 => 98 | 284 => 99 | 285 => 100 | 286 => 101 | 129 => 105 | 317 => 104 | 318 => 106 | 319 => 107 | 320 => 108 | 337 => 109 | 338 => 110 | n => n, fun | 3 => 3 | 9 => 9 | 2 => 2 | 4 => 4 | 171 => 155 | 0 => 0 | 53 => 36 | 37 => 149 | 5 => 5 | 173 => 158 | 212 => 164 | 51 => 165 | 20 => 20 | 213 => 166 | 46 => 168 | 232 => 171 | 233 => 172 | n => n, fun | 17 => 0 | 18 => 1 | 19 => 2 | n => n⟩
theorem Tryd.laysItoa : Go.Proofs.LaysM.n171 Tryd.prog Tryd.laysItoa_ren := {
  mixed := by kernel_rfl
  f129 := Tryd.func105.trans (congrArg some (by kernel_rfl))
  f171 := Tryd.func42.trans (congrArg some (by kernel_rfl))
  f243 := Tryd.func77.trans (congrArg some (by kernel_rfl))
  f246 := Tryd.func94.trans (congrArg some (by kernel_rfl))
  f283 := Tryd.func98.trans (congrArg some (by kernel_rfl))
  f284 := Tryd.func99.trans (congrArg some (by kernel_rfl))
  f285 := Tryd.func100.trans (congrArg some (by kernel_rfl))
  f286 := Tryd.func101.trans (congrArg some (by kernel_rfl))
  f317 := Tryd.func104.trans (congrArg some (by kernel_rfl))
  f318 := Tryd.func106.trans (congrArg some (by kernel_rfl))
  f319 := Tryd.func107.trans (congrArg some (by kernel_rfl))
  f320 := Tryd.func108.trans (congrArg some (by kernel_rfl))
  f337 := Tryd.func109.trans (congrArg some (by kernel_rfl))
  f338 := Tryd.func110.trans (congrArg some (by kernel_rfl))
  t0 := Tryd.underlying0
  a0 := Tryd.isAgg0
  z0 := Tryd.sizeOf0
  v0 := Tryd.zeroValue0
  t2 := Tryd.underlying2
  a2 := Tryd.isAgg2
  z2 := Tryd.sizeOf2
  v2 := Tryd.zeroValue2
  t3 := Tryd.underlying3
  a3 := Tryd.isAgg3
  z3 := Tryd.sizeOf3
  v3 := Tryd.zeroValue3
  t4 := Tryd.underlying4
  a4 := Tryd.isAgg4
  z4 := Tryd.sizeOf4
  v4 := Tryd.zeroValue4
  t5 := Tryd.underlying5
  a5 := Tryd.isAgg5
  z5 := Tryd.sizeOf5
  v5 := Tryd.zeroValue5
  t9 := Tryd.underlying9
  a9 := Tryd.isAgg9
  z9 := Tryd.sizeOf9
  v9 := Tryd.zeroValue9
  t20 := Tryd.underlying20
  a20 := Tryd.isAgg20
  z20 := Tryd.sizeOf20
  v20 := Tryd.zeroValue20
  t37 := Tryd.underlying149
  a37 := Tryd.isAgg149
  z37 := Tryd.sizeOf149
  v37 := Tryd.zeroValue149
  t46 := Tryd.underlying168
  a46 := Tryd.isAgg168
  z46 := Tryd.sizeOf168
  v46 := Tryd.zeroValue168
  t51 := Tryd.underlying165
  a51 := Tryd.isAgg165
  z51 := Tryd.sizeOf165
  v51 := Tryd.zeroValue165
  t53 := Tryd.underlying36
  a53 := Tryd.isAgg36
  z53 := Tryd.sizeOf36
  v53 := Tryd.zeroValue36
  t171 := Tryd.underlying155
  a171 := Tryd.isAgg155
  z171 := Tryd.sizeOf155
  v171 := Tryd.zeroValue155
  t173 := Tryd.underlying158
  a173 := Tryd.isAgg158
  z173 := Tryd.sizeOf158
  v173 := Tryd.zeroValue158
  t212 := Tryd.underlying164
  a212 := Tryd.isAgg164
  z212 := Tryd.sizeOf164
  v212 := Tryd.zeroValue164
  t213 := Tryd.underlying166
  a213 := Tryd.isAgg166
  z213 := Tryd.sizeOf166
  t232 := Tryd.underlying171
  a232 := Tryd.isAgg171
  z232 := Tryd.sizeOf171
  v232 := Tryd.zeroValue171
  t233 := Tryd.underlying172
  a233 := Tryd.isAgg172
  z233 := Tryd.sizeOf172
  v233 := Tryd.zeroValue172
  g17 := by kernel_rfl
  g18 := by kernel_rfl
  g19 := by kernel_rfl
  i0 := by kernel_rfl
  i2 := by kernel_rfl
  i3 := by kernel_rfl
  i4 := by kernel_rfl
  i5 := by kernel_rfl
  i9 := by kernel_rfl
  i20 := by kernel_rfl
  i37 := by kernel_rfl
  i46 := by kernel_rfl
  i51 := by kernel_rfl
  i53 := by kernel_rfl
  i171 := by kernel_rfl
  i173 := by kernel_rfl
  i212 := by kernel_rfl
  i232 := by kernel_rfl
  i233 := by kernel_rfl
  m17 := by kernel_rfl
  m18 := by kernel_rfl
  m19 := by kernel_rfl }
end Go.Proofs
