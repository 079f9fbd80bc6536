/-
  A strong definition, and none: plain facts. No condition beyond those that each theorem states.
-/
import Derived.Test.YtenldpbbelhomaaR5i
namespace Go.Proofs.Ytenldpbbelhomaa
open Go.RowKit

def stM (n : ByteArray) (m : DMod) : Bool :=
  (decide (0 ≤ find5 (fnames m) n) && (match m.funcs[(find5 (fnames m) n).toNat]? with
    | some f => decide (f.bind = 2) && decide ((0 : Int) < (f.blocks.length : Int))
    | none => false)) ||
  (decide (0 ≤ find5 (gnames m) n) && (match m.globs[(find5 (gnames m) n).toNat]? with
    | some g => decide (g.bind = 2) && g.here
    | none => false))
theorem find5_ltg {m : DMod} {s : ByteArray} {z : Int} (h : z = find5 (gnames m) s) (h0 : 0 ≤ z) : z.toNat < m.globs.length := by
  rcases find5_cases (gnames m) s with ⟨h1, _⟩ | ⟨k, h1, _, h3, _⟩
  · omega
  · rw [h, h1, Int.toNat_natCast]; unfold gnames at h3; simpa using h3
theorem itemsFrom_in : ∀ (l : List DMod) (n i : Nat) (m : DMod) (x : DItem), l[i]? = some m → x ∈ mItems (n + i) m → x ∈ itemsFrom n l
  | [], _, _, _, _, h, _ => by simp at h
  | m' :: l, n, 0, m, x, h, hx => by
    simp only [List.getElem?_cons_zero, Option.some.injEq] at h
    subst h
    exact List.mem_append_left _ hx
  | m' :: l, n, i + 1, m, x, h, hx => by
    refine List.mem_append_right _ (itemsFrom_in l (n + 1) i m x (by simpa using h) ?_)
    rw [show n + 1 + i = n + (i + 1) by omega]; exact hx
theorem items_in {l : List DMod} {i : Nat} {m : DMod} {x : DItem} (h : l[i]? = some m) (hx : x ∈ mItems i m) : x ∈ items9 l := itemsFrom_in l 0 i m x h (by rw [Nat.zero_add]; exact hx)
theorem fItem_in {l : List DMod} {i : Nat} {m : DMod} {f : DFunc} (h : l[i]? = some m) (hf : f ∈ m.funcs) (hb : ¬ f.bind = 1) : fItem i f ∈ items9 l :=
  items_in h (List.mem_append_left _ (List.mem_filterMap.2 ⟨f, hf, if_neg hb⟩))
theorem gItem_in {l : List DMod} {i : Nat} {m : DMod} {f : DGlob} (h : l[i]? = some m) (hf : f ∈ m.globs) (hb : ¬ f.bind = 1) : gItem i f ∈ items9 l :=
  items_in h (List.mem_append_right _ (List.mem_filterMap.2 ⟨f, hf, if_neg hb⟩))
theorem strong9 {ms : List DMod} (hr : ∀ m ∈ ms, check5 m = 0) {s : ByteArray} : ms.any (stM s) = ((items9 ms).filter fun x => decide (x.name = s)).any sB9 := by
  rw [Bool.eq_iff_iff, List.any_eq_true, List.any_eq_true]
  constructor
  · rintro ⟨m, hm, h⟩
    obtain ⟨i, hi⟩ := List.mem_iff_getElem?.1 hm
    unfold stM at h
    rw [Bool.or_eq_true] at h
    rcases h with h | h
    · rw [Bool.and_eq_true] at h
      obtain ⟨h1, h2⟩ := h
      have h1 := of_decide_eq_true h1
      rcases find5_cases (fnames m) s with ⟨e, _⟩ | ⟨k, e, hk, hlt, _⟩
      · omega
      · rw [e, Int.toNat_natCast] at h2
        unfold fnames at hk
        rw [List.getElem?_map] at hk
        obtain ⟨f, hf, hn⟩ := Option.map_eq_some_iff.1 hk
        rw [hf] at h2
        simp only [Bool.and_eq_true, decide_eq_true_eq] at h2
        refine ⟨fItem i f, List.mem_filter.2 ⟨fItem_in hi (List.mem_of_getElem? hf) (by omega), decide_eq_true hn⟩, ?_⟩
        simp only [sB9, fItem, Bool.and_eq_true, decide_eq_true_eq]
        exact ⟨h2.2, h2.1⟩
    · rw [Bool.and_eq_true] at h
      obtain ⟨h1, h2⟩ := h
      have h1 := of_decide_eq_true h1
      rcases find5_cases (gnames m) s with ⟨e, _⟩ | ⟨k, e, hk, hlt, _⟩
      · omega
      · rw [e, Int.toNat_natCast] at h2
        unfold gnames at hk
        rw [List.getElem?_map] at hk
        obtain ⟨f, hf, hn⟩ := Option.map_eq_some_iff.1 hk
        rw [hf] at h2
        simp only [Bool.and_eq_true, decide_eq_true_eq] at h2
        refine ⟨gItem i f, List.mem_filter.2 ⟨gItem_in hi (List.mem_of_getElem? hf) (by omega), decide_eq_true hn⟩, ?_⟩
        simp only [sB9, gItem, Bool.and_eq_true, decide_eq_true_eq]
        exact ⟨h2.2, h2.1⟩
  · rintro ⟨x, hx, h⟩
    obtain ⟨hx1, hx2⟩ := List.mem_filter.1 hx
    have hx2 := of_decide_eq_true hx2
    obtain ⟨i, m, hi, hm⟩ := items_mem hx1
    have hmm := List.mem_of_getElem? hi
    obtain ⟨_, _, _, _, hnd, _⟩ := check5_all (hr m hmm)
    unfold names5 at hnd
    refine ⟨m, hmm, ?_⟩
    unfold stM
    rcases hm with ⟨f, hf, _, rfl⟩ | ⟨f, hf, _, rfl⟩
    · have hnf := (List.nodup_append.1 hnd).1
      obtain ⟨k', hk'⟩ := List.mem_iff_getElem?.1 hf
      have hk2 : (fnames m)[k']? = some s := by unfold fnames; rw [List.getElem?_map, hk']; exact congrArg some hx2
      rcases find5_cases (fnames m) s with ⟨_, e⟩ | ⟨k, e, hk, hlt, _⟩
      · exact absurd (List.mem_of_getElem? hk2) e
      · obtain rfl : k = k' := (List.getElem?_inj hlt hnf).1 (hk.trans hk2.symm)
        rw [e, Int.toNat_natCast, hk']
        simp only [sB9, fItem, Bool.and_eq_true, decide_eq_true_eq] at h
        simp only [h.1, h.2]
        simp
    · have hnf := (List.nodup_append.1 hnd).2.1
      obtain ⟨k', hk'⟩ := List.mem_iff_getElem?.1 hf
      have hk2 : (gnames m)[k']? = some s := by unfold gnames; rw [List.getElem?_map, hk']; exact congrArg some hx2
      rcases find5_cases (gnames m) s with ⟨_, e⟩ | ⟨k, e, hk, hlt, _⟩
      · exact absurd (List.mem_of_getElem? hk2) e
      · obtain rfl : k = k' := (List.getElem?_inj hlt hnf).1 (hk.trans hk2.symm)
        rw [e, Int.toNat_natCast, hk']
        simp only [sB9, gItem, Bool.and_eq_true, decide_eq_true_eq] at h
        simp only [h.1, h.2]
        simp
theorem strong9_weak {ms : List DMod} (hr : ∀ m ∈ ms, check5 m = 0) (h : (all9 (items9 ms)).2 = 0) {d : DDef} (hd : d ∈ (all9 (items9 ms)).1) : ms.any (stM d.name) = !d.weak := by
  rw [strong9 hr]
  rw [(all9_ok h).1] at hd
  obtain ⟨g, hg, rfl⟩ := List.mem_map.1 hd
  obtain ⟨i, hi⟩ := List.mem_iff_getElem?.1 hg
  have hlt : i < (nms9 (items9 ms)).length := by rw [← grp9_length]; exact (List.getElem?_eq_some_iff.1 hi).1
  obtain ⟨g', hg', hn, _, e⟩ := grp9_at (List.getElem?_eq_getElem hlt)
  rw [hi] at hg'
  cases hg'
  rw [hn, ← e]
  show g.any sB9 = !decide (ixI sB9 g < 0)
  rw [ixI_neg]; simp
end Go.Proofs.Ytenldpbbelhomaa
