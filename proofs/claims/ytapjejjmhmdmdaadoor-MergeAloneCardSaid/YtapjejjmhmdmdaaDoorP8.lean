/-
  What comes out of modules made one: plain facts. No condition beyond those that each theorem states.
-/
import Derived.Test.YtapjejjmhmdmdaaDoorP5
import Derived.Test.YtapjejjmhmdmdaaDoorP4
namespace Go.Proofs.YtapjejjmhmdmdaaDoor
open Go.RowKit

theorem all9_ok {xs : List DItem} (h : (all9 xs).2 = 0) : (all9 xs).1 = (grp9 xs).map def9 ∧ (grp9 xs).any oddG = false ∧ entry9 (grp9 xs) = true ∧ (grp9 xs).any (fun g => decide (1 < many9 g)) = false ∧ (grp9 xs).any missing9 = false := by
  unfold all9 at *
  split at h
  · simp at h
  · split at h
    · simp at h
    · split at h
      · simp at h
      · split at h
        · rename_i h1 h2 h3 h4
          rw [if_neg h1, if_neg h2, if_neg h3, if_pos h4]
          exact ⟨rfl, by simpa using h1, h4, by simpa using h2, by simpa using h3⟩
        · simp at h
theorem all9_def {xs : List DItem} (h : (all9 xs).2 = 0) {d : DDef} (hd : d ∈ (all9 xs).1) : ∃ g, g ∈ grp9 xs ∧ d = def9 g ∧ 0 < g.length ∧ oddG g = false := by
  obtain ⟨e, ho, _⟩ := all9_ok h
  rw [e] at hd
  obtain ⟨g, hg, rfl⟩ := List.mem_map.1 hd
  exact ⟨g, hg, rfl, grp9_ne hg, List.any_eq_false.1 ho g hg |> fun h => by simpa using h⟩
theorem grp9_name {xs : List DItem} {g : List DItem} (h : g ∈ grp9 xs) {x y : DItem} (hx : x ∈ g) (hy : y ∈ g) : x.name = y.name := by
  unfold grp9 at h
  obtain ⟨s, _, rfl⟩ := List.mem_map.1 h
  have h1 := (List.mem_filter.1 hx).2
  have h2 := (List.mem_filter.1 hy).2
  simp at h1 h2
  rw [h1, h2]
theorem shape9 {g : List DItem} (ho : oddG g = false) {x : DItem} (hx : x ∈ g) : x.fn = (g.getD 0 item0).fn ∧ x.params = (g.getD 0 item0).params := by
  have := List.any_eq_false.1 ho x hx
  simp [odd9] at this
  exact this
theorem def9_item {g : List DItem} (h0 : 0 < g.length) : ∃ x, x ∈ g ∧ (def9 g).mod = x.mod ∧ ((def9 g).here = true → x.here = true ∧ ((def9 g).weak = false → x.strong = true)) ∧ ((def9 g).here = false → (def9 g).weak = true) := by
  refine ⟨g.getD (di9 g) item0, getD_mem _ (di9_lt h0), rfl, ?_, ?_⟩
  · intro hh
    have hh2 : ¬ ixI hB9 g < 0 := by
      have : decide (0 ≤ ixI hB9 g) = true := hh
      simp at this; omega
    by_cases hs : ixI sB9 g < 0
    · refine ⟨?_, fun hw => ?_⟩
      · unfold di9
        rw [if_neg hh2, if_pos hs]
        rcases ixI_cases hB9 g with ⟨h1, _⟩ | ⟨i, x, h1, h2, h3, _⟩
        · omega
        · rw [h1, Int.toNat_natCast, List.getD_eq_getElem?_getD, h2]; exact h3
      · have : decide (ixI sB9 g < 0) = false := hw
        simp at this; omega
    · unfold di9
      rw [if_neg hh2, if_neg hs]
      rcases ixI_cases sB9 g with ⟨h1, _⟩ | ⟨i, x, h1, h2, h3, _⟩
      · omega
      · rw [h1, Int.toNat_natCast, List.getD_eq_getElem?_getD, h2]
        simp [sB9] at h3
        exact ⟨h3.1, fun _ => h3.2⟩
  · intro hh
    have h1 : decide (0 ≤ ixI hB9 g) = false := hh
    rw [ixI_any] at h1
    show decide (ixI sB9 g < 0) = true
    rw [ixI_neg]
    simp only [Bool.not_eq_true', List.any_eq_false] at *
    intro x hx
    have := h1 x hx
    simp [sB9, hB9] at *
    intro h; exact absurd h (by simp [this])
theorem itemsFrom_in : ∀ (l : List DMod) (n i : Nat) (m : DMod) (x : DItem), l[i]? = some m → x ∈ mItems (n + i) m → x ∈ itemsFrom n l
  | [], _, _, _, _, h, _ => by simp at h
  | m' :: l, n, 0, m, x, h, hx => by
    simp only [List.getElem?_cons_zero, Option.some.injEq] at h
    subst h
    exact List.mem_append_left _ hx
  | m' :: l, n, i + 1, m, x, h, hx => by
    refine List.mem_append_right _ (itemsFrom_in l (n + 1) i m x (by simpa using h) ?_)
    rw [show n + 1 + i = n + (i + 1) by omega]; exact hx
theorem items_in {l : List DMod} {i : Nat} {m : DMod} {x : DItem} (h : l[i]? = some m) (hx : x ∈ mItems i m) : x ∈ items9 l := itemsFrom_in l 0 i m x h (by rw [Nat.zero_add]; exact hx)
theorem fItem_in {l : List DMod} {i : Nat} {m : DMod} {f : DFunc} (h : l[i]? = some m) (hf : f ∈ m.funcs) (hb : ¬ f.bind = 1) : fItem i f ∈ items9 l :=
  items_in h (List.mem_append_left _ (List.mem_filterMap.2 ⟨f, hf, if_neg hb⟩))
theorem gItem_in {l : List DMod} {i : Nat} {m : DMod} {f : DGlob} (h : l[i]? = some m) (hf : f ∈ m.globs) (hb : ¬ f.bind = 1) : gItem i f ∈ items9 l :=
  items_in h (List.mem_append_right _ (List.mem_filterMap.2 ⟨f, hf, if_neg hb⟩))
theorem def9_src {g : List DItem} (h0 : 0 < g.length) : ∃ x, x ∈ g ∧ (def9 g).mod = x.mod ∧ (def9 g).here = x.here := by
  obtain ⟨x, hx, hm, hh, _⟩ := def9_item h0
  refine ⟨x, hx, hm, ?_⟩
  cases e : (def9 g).here with
  | true => exact ((hh e).1).symm
  | false =>
    have h1 : decide (0 ≤ ixI hB9 g) = false := e
    rw [ixI_any] at h1
    have := List.any_eq_false.1 h1 x hx
    simpa [hB9] using this
abbrev nm10 (ms : List DMod) : List ByteArray := nms9 (items9 ms)
abbrev ds10 (ms : List DMod) : List DDef := (all9 (items9 ms)).1
/-- A shared name's definition is that of its items. -/
theorem fnd9_in {ms : List DMod} (hok : (all9 (items9 ms)).2 = 0) {s : ByteArray} (hs : s ∈ nm10 ms) :
    ∃ g, fnd9 (ds10 ms) s = (def9 g, true) ∧ 0 < g.length ∧ oddG g = false ∧ (g.getD 0 item0).name = s ∧ ∀ x, x ∈ g ↔ x ∈ items9 ms ∧ x.name = s := by
  obtain ⟨e, _⟩ := all9_ok hok
  rcases ixI_cases (isName s) (ds10 ms) with ⟨_, h2⟩ | ⟨j, d, h1, h2, h3, _⟩
  · exfalso
    have hg : ((items9 ms).filter fun x => decide (x.name = s)) ∈ grp9 (items9 ms) := by unfold grp9; exact List.mem_map.2 ⟨s, hs, rfl⟩
    have hne := grp9_ne hg
    have hd : def9 ((items9 ms).filter fun x => decide (x.name = s)) ∈ ds10 ms := by unfold ds10; rw [e]; exact List.mem_map.2 ⟨_, hg, rfl⟩
    have h4 := List.any_eq_false.1 h2 _ hd
    have h5 := (List.mem_filter.1 (getD_mem item0 hne)).2
    simp [isName, def9] at h4
    simp at h5
    exact h4 h5
  · obtain ⟨g, hg, rfl, h0, ho⟩ := all9_def hok (List.mem_of_getElem? h2)
    have hn : (g.getD 0 item0).name = s := by simpa [isName, def9] using h3
    refine ⟨g, fnd9_at h1 h2, h0, ho, hn, fun x => ?_⟩
    unfold grp9 at hg
    obtain ⟨s', _, rfl⟩ := List.mem_map.1 hg
    have h5 := (List.mem_filter.1 (getD_mem item0 h0)).2
    simp only [decide_eq_true_eq] at h5
    have : s' = s := h5.symm.trans hn
    subst this
    simp
theorem fnd9_out {ms : List DMod} (hok : (all9 (items9 ms)).2 = 0) {s : ByteArray} (h : (fnd9 (ds10 ms) s).2 = true) : s ∈ nm10 ms := by
  rcases ixI_cases (isName s) (ds10 ms) with ⟨h1, _⟩ | ⟨j, d, _, h2, h3, _⟩
  · rw [fnd9_no (by omega)] at h; cases h
  · obtain ⟨g, hg, rfl, h0, _⟩ := all9_def hok (List.mem_of_getElem? h2)
    have hn : (g.getD 0 item0).name = s := by simpa [isName, def9] using h3
    unfold grp9 at hg
    obtain ⟨s', hs', rfl⟩ := List.mem_map.1 hg
    have h5 := (List.mem_filter.1 (getD_mem item0 h0)).2
    simp only [decide_eq_true_eq] at h5
    rw [← hn, h5]; exact hs'
def par10 (ms : List DMod) (s : ByteArray) : Int := (((items9 ms).filter fun x => decide (x.name = s)).getD 0 item0).params
/-- Where a shared name's definition stands. -/
theorem src10 {ms : List DMod} (hok : (all9 (items9 ms)).2 = 0) {s : ByteArray} (hs : s ∈ nm10 ms) :
    ∃ (i : Nat) (m : DMod), ms[i]? = some m ∧ (fnd9 (ds10 ms) s).1.mod = (i : Int) ∧
      ((∃ f ∈ m.funcs, ¬ f.bind = 1 ∧ f.name = s ∧ hereF f = (fnd9 (ds10 ms) s).1.here ∧ (fnd9 (ds10 ms) s).1.fn = true) ∨
       ∃ x ∈ m.globs, ¬ x.bind = 1 ∧ x.name = s ∧ x.here = (fnd9 (ds10 ms) s).1.here ∧ (fnd9 (ds10 ms) s).1.fn = false) := by
  obtain ⟨g, e, h0, ho, hn, hmem⟩ := fnd9_in hok hs
  rw [e]
  obtain ⟨x, hx, hm, hh⟩ := def9_src h0
  obtain ⟨hxi, hxn⟩ := (hmem x).1 hx
  have hfn := (shape9 ho hx).1
  obtain ⟨i, m, hi, hc⟩ := items_mem hxi
  refine ⟨i, m, hi, ?_, ?_⟩
  · show (def9 g).mod = _
    rw [hm]; rcases hc with ⟨f, _, _, rfl⟩ | ⟨f, _, _, rfl⟩ <;> rfl
  · rcases hc with ⟨f, hf, hb, rfl⟩ | ⟨f, hf, hb, rfl⟩
    · exact .inl ⟨f, hf, hb, hxn, by show _ = (def9 g).here; rw [hh]; rfl, hfn.symm⟩
    · exact .inr ⟨f, hf, hb, hxn, by show _ = (def9 g).here; rw [hh]; rfl, hfn.symm⟩
theorem nms_mem {xs : List DItem} {x : DItem} (h : x ∈ xs) : x.name ∈ nms9 xs := (mem_nms9 _ _).2 ⟨x, h, rfl⟩
theorem kindF {ms : List DMod} (hok : (all9 (items9 ms)).2 = 0) {i : Nat} {m : DMod} {f : DFunc} (hi : ms[i]? = some m) (hf : f ∈ m.funcs) (hb : ¬ f.bind = 1) :
    f.name ∈ nm10 ms ∧ (fnd9 (ds10 ms) f.name).1.fn = true ∧ f.params = par10 ms f.name := by
  have hx := fItem_in hi hf hb
  have hs : f.name ∈ nm10 ms := nms_mem hx
  obtain ⟨g, e, h0, ho, hn, hmem⟩ := fnd9_in hok hs
  have hg := (hmem (fItem i f)).2 ⟨hx, rfl⟩
  obtain ⟨h1, h2⟩ := shape9 ho hg
  refine ⟨hs, by rw [e]; exact h1.symm, ?_⟩
  have h3 : ((items9 ms).filter fun x => decide (x.name = f.name)) ∈ grp9 (items9 ms) := by unfold grp9; exact List.mem_map.2 ⟨_, hs, rfl⟩
  obtain ⟨e2, ho2, _⟩ := all9_ok hok
  have h4 := List.any_eq_false.1 ho2 _ h3
  exact (shape9 (by simpa using h4) (List.mem_filter.2 ⟨hx, by simp [fItem]⟩)).2
theorem kindG {ms : List DMod} (hok : (all9 (items9 ms)).2 = 0) {i : Nat} {m : DMod} {f : DGlob} (hi : ms[i]? = some m) (hf : f ∈ m.globs) (hb : ¬ f.bind = 1) :
    f.name ∈ nm10 ms ∧ (fnd9 (ds10 ms) f.name).1.fn = false := by
  have hx := gItem_in hi hf hb
  have hs : f.name ∈ nm10 ms := nms_mem hx
  obtain ⟨g, e, h0, ho, hn, hmem⟩ := fnd9_in hok hs
  have hg := (hmem (gItem i f)).2 ⟨hx, rfl⟩
  obtain ⟨h1, _⟩ := shape9 ho hg
  exact ⟨hs, by rw [e]; exact h1.symm⟩
/-- main is a function of no values, and is there. -/
theorem main10 {ms : List DMod} (hok : (all9 (items9 ms)).2 = 0) : mainB ∈ nm10 ms ∧ (fnd9 (ds10 ms) mainB).1.fn = true ∧ (fnd9 (ds10 ms) mainB).1.here = true ∧ par10 ms mainB = 0 := by
  obtain ⟨e, ho, hen, _⟩ := all9_ok hok
  rcases ixI_cases isMain (grp9 (items9 ms)) with ⟨h1, _⟩ | ⟨j, g, h1, h2, h3, _⟩
  · rw [entry_none (by omega)] at hen; cases hen
  · rw [entry_at h1 h2] at hen
    have hg := List.mem_of_getElem? h2
    have hn : (g.getD 0 item0).name = mainB := by simpa [isMain] using h3
    have h0 := grp9_ne hg
    have hi := grp9_sub hg _ (getD_mem item0 h0)
    have hs : mainB ∈ nm10 ms := by rw [← hn]; exact nms_mem hi
    simp only [okMain, Bool.and_eq_true, decide_eq_true_eq] at hen
    obtain ⟨g2, e2, h02, ho2, hn2, hmem2⟩ := fnd9_in hok hs
    have hgg : g = (items9 ms).filter fun x => decide (x.name = mainB) := by
      unfold grp9 at hg
      obtain ⟨s', _, rfl⟩ := List.mem_map.1 hg
      have h5 := (List.mem_filter.1 (getD_mem item0 h0)).2
      simp only [decide_eq_true_eq] at h5
      rw [show s' = mainB from h5.symm.trans hn]
    have hd : def9 g ∈ ds10 ms := by unfold ds10; rw [e]; exact List.mem_map.2 ⟨g, hg, rfl⟩
    have hfd : (fnd9 (ds10 ms) mainB).1 = def9 g := by
      rcases ixI_cases (isName mainB) (ds10 ms) with ⟨_, q2⟩ | ⟨j', d, q1, q2, q3, _⟩
      · have := List.any_eq_false.1 q2 _ hd
        simp [isName, def9] at this
        exact absurd hn this
      · rw [fnd9_at q1 q2]
        obtain ⟨g3, hg3, rfl, h03, _⟩ := all9_def hok (List.mem_of_getElem? q2)
        have hn3 : (g3.getD 0 item0).name = mainB := by simpa [isName, def9] using q3
        unfold grp9 at hg3
        obtain ⟨s3, _, rfl⟩ := List.mem_map.1 hg3
        have h5 := (List.mem_filter.1 (getD_mem item0 h03)).2
        simp only [decide_eq_true_eq] at h5
        rw [show s3 = mainB from h5.symm.trans hn3, ← hgg]
    refine ⟨hs, by rw [hfd]; exact hen.1.2, by rw [hfd]; exact hen.1.1, ?_⟩
    unfold par10; rw [← hgg]; exact hen.2
/-! What has come out stays. -/
structure Le10 (s s' : S10) : Prop where
  fs : ∃ r, s'.fs = s.fs ++ r
  gs : ∃ r, s'.gs = s.gs ++ r
  dn : ∀ x, s.done x = some true → s'.done x = some true
theorem Le10.refl (s : S10) : Le10 s s := ⟨⟨[], by simp⟩, ⟨[], by simp⟩, fun _ h => h⟩
theorem Le10.trans {a b c : S10} (h : Le10 a b) (k : Le10 b c) : Le10 a c := by
  obtain ⟨⟨r1, e1⟩, ⟨r2, e2⟩, h3⟩ := h
  obtain ⟨⟨q1, f1⟩, ⟨q2, f2⟩, k3⟩ := k
  exact ⟨⟨r1 ++ q1, by rw [f1, e1, List.append_assoc]⟩, ⟨r2 ++ q2, by rw [f2, e2, List.append_assoc]⟩, fun x hx => k3 x (h3 x hx)⟩
theorem upd_true {d : ByteArray → Option Bool} {n x : ByteArray} (h : d x = some true) : updG d n true x = some true := by unfold updG; split <;> first | rfl | exact h
theorem fun10_le (ds : List DDef) (ks : List ByteArray) (i : Nat) (g : Ren) (s : S10) (f : DFunc) : Le10 s (fun10 ds ks i g s f) := by
  unfold fun10; split
  · exact ⟨⟨_, rfl⟩, ⟨[], by simp⟩, fun _ h => h⟩
  · split
    · exact ⟨⟨_, rfl⟩, ⟨[], by simp⟩, fun _ h => upd_true h⟩
    · exact Le10.refl s
theorem glob10_le (ds : List DDef) (ks : List ByteArray) (i : Nat) (g : Ren) (s : S10) (f : DGlob) : Le10 s (glob10 ds ks i g s f) := by
  unfold glob10; split
  · exact ⟨⟨[], by simp⟩, ⟨_, rfl⟩, fun _ h => h⟩
  · split
    · exact ⟨⟨[], by simp⟩, ⟨_, rfl⟩, fun _ h => upd_true h⟩
    · exact Le10.refl s
theorem fold_le {α : Type} {f : S10 → α → S10} (h : ∀ s x, Le10 s (f s x)) : ∀ (l : List α) (s : S10), Le10 s (l.foldl f s)
  | [], s => Le10.refl s
  | x :: l, s => (h s x).trans (fold_le h l (f s x))
theorem take_le {α : Type} {f : S10 → α → S10} (h : ∀ s x, Le10 s (f s x)) (l : List α) (s : S10) (j : Nat) : Le10 ((l.take j).foldl f s) (l.foldl f s) := by
  have e : l.foldl f s = (l.drop j).foldl f ((l.take j).foldl f s) := by rw [← List.foldl_append, List.take_append_drop]
  rw [e]; exact fold_le h _ _
theorem mod10s_le (ds : List DDef) (ks : List ByteArray) (i : Nat) (g : Ren) (s : S10) (m : DMod) : Le10 s (mod10s ds ks i g s m) := (fold_le (fun10_le ds ks i g) _ _).trans (fold_le (glob10_le ds ks i g) _ _)
theorem at_fun {ds : List DDef} {ks : List ByteArray} {ms : List DMod} {gl : List Ren} {i : Nat} {m : DMod} {G : Ren} (hm : ms[i]? = some m) (hg : gl[i]? = some G) {f : DFunc} (hf : f ∈ m.funcs) :
    ∃ s, Le10 (fun10 ds ks i G s f) (out10 ds ks (zip10 ms gl)) := by
  obtain ⟨k, hk⟩ := List.mem_iff_getElem?.1 hf
  refine ⟨(m.funcs.take k).foldl (fun10 ds ks i G) (out10 ds ks ((zip10 ms gl).take i)), ?_⟩
  rw [← foldl_next (f := fun10 ds ks i G) (b := out10 ds ks ((zip10 ms gl).take i)) hk]
  have h1 := take_le (fun10_le ds ks i G) m.funcs (out10 ds ks ((zip10 ms gl).take i)) (k + 1)
  have h2 : Le10 (m.funcs.foldl (fun10 ds ks i G) (out10 ds ks ((zip10 ms gl).take i))) (mod10s ds ks i G (out10 ds ks ((zip10 ms gl).take i)) m) := fold_le (glob10_le ds ks i G) _ _
  have h3 := take_le (f := fun s (p : (DMod × Ren) × Nat) => mod10s ds ks p.2 p.1.2 s p.1.1) (fun s p => mod10s_le ds ks p.2 p.1.2 s p.1.1) (zip10 ms gl) ⟨[], [], fun _ => none⟩ (i + 1)
  have h4 := out10_next (ds := ds) (ks := ks) (zip10_at hm hg)
  rw [← h4] at h2
  exact (h1.trans h2).trans h3
theorem at_glob {ds : List DDef} {ks : List ByteArray} {ms : List DMod} {gl : List Ren} {i : Nat} {m : DMod} {G : Ren} (hm : ms[i]? = some m) (hg : gl[i]? = some G) {f : DGlob} (hf : f ∈ m.globs) :
    ∃ s, Le10 (glob10 ds ks i G s f) (out10 ds ks (zip10 ms gl)) := by
  obtain ⟨k, hk⟩ := List.mem_iff_getElem?.1 hf
  refine ⟨(m.globs.take k).foldl (glob10 ds ks i G) (m.funcs.foldl (fun10 ds ks i G) (out10 ds ks ((zip10 ms gl).take i))), ?_⟩
  rw [← foldl_next (f := glob10 ds ks i G) (b := m.funcs.foldl (fun10 ds ks i G) (out10 ds ks ((zip10 ms gl).take i))) hk]
  have h1 : Le10 _ (mod10s ds ks i G (out10 ds ks ((zip10 ms gl).take i)) m) := take_le (glob10_le ds ks i G) m.globs (m.funcs.foldl (fun10 ds ks i G) (out10 ds ks ((zip10 ms gl).take i))) (k + 1)
  have h3 := take_le (f := fun s (p : (DMod × Ren) × Nat) => mod10s ds ks p.2 p.1.2 s p.1.1) (fun s p => mod10s_le ds ks p.2 p.1.2 s p.1.1) (zip10 ms gl) ⟨[], [], fun _ => none⟩ (i + 1)
  have h4 := out10_next (ds := ds) (ks := ks) (zip10_at hm hg)
  rw [← h4] at h1
  exact h1.trans h3
theorem getD_true {o : Option Bool} (h : o.getD false = true) : o = some true := by cases o with
  | none => cases h
  | some b => exact congrArg some h
theorem wants_done {ds : List DDef} {dn : ByteArray → Option Bool} {s : ByteArray} {i : Int} {hr : Bool} (h1 : (fnd9 ds s).1.mod = i) (h2 : hr = (fnd9 ds s).1.here) (h : ¬ wants10 ds dn s i hr = true) : dn s = some true := by
  unfold wants10 at h
  rw [h1, h2] at h
  simp at h
  exact getD_true (by simpa using h)
theorem upd_self {d : ByteArray → Option Bool} {n : ByteArray} : updG d n true n = some true := by unfold updG; rw [if_pos rfl]
abbrev ot10 (ms : List DMod) (ks : List ByteArray) : S10 := out10 (ds10 ms) ks (zip10 ms (nam10 (nm10 ms) ms).1)
/-- Each shared name comes out. -/
theorem done10 {ms : List DMod} (ks : List ByteArray) (hok : (all9 (items9 ms)).2 = 0) {s : ByteArray} (hs : s ∈ nm10 ms) : (ot10 ms ks).done s = some true := by
  obtain ⟨i, m, hi, hmod, hc⟩ := src10 hok hs
  have hg := nam10_at (t := nm10 ms) hi
  rcases hc with ⟨f, hf, hb, hn, hh, _⟩ | ⟨f, hf, hb, hn, hh, _⟩
  · obtain ⟨s0, h0⟩ := at_fun (ds := ds10 ms) (ks := ks) hi hg hf
    refine h0.dn s ?_
    unfold fun10
    rw [if_neg hb]
    split
    · show updG _ _ _ _ = _; rw [hn]; exact upd_self
    · rename_i hw
      rw [hn] at hw
      exact wants_done hmod hh hw
  · obtain ⟨s0, h0⟩ := at_glob (ds := ds10 ms) (ks := ks) hi hg hf
    refine h0.dn s ?_
    unfold glob10
    rw [if_neg hb]
    split
    · show updG _ _ _ _ = _; rw [hn]; exact upd_self
    · rename_i hw
      rw [hn] at hw
      exact wants_done hmod hh hw
end Go.Proofs.YtapjejjmhmdmdaaDoor

namespace Go.Proofs.YtapjejjmhmdmdaaDoor
open Go.RowKit

structure Inv10 (t : List ByteArray) (ds : List DDef) (ks : List ByteArray) (n : Nat) (s : S10) : Prop where
  nodup : (s.fs.map (·.name) ++ s.gs.map (·.name)).Nodup
  kf : ∀ f ∈ s.fs, (∃ k, f.name = dot10 k ∧ k < n ∧ dot10 k ∉ t ∧ f.bind = 1) ∨ (f.name ∈ t ∧ s.done f.name = some true ∧ f.bind = bind10 ks f.name)
  kg : ∀ g ∈ s.gs, (∃ k, g.name = dot10 k ∧ k < n ∧ dot10 k ∉ t ∧ g.bind = 1) ∨ (g.name ∈ t ∧ s.done g.name = some true ∧ g.bind = bind10 ks g.name)
  dn : ∀ x, s.done x = some true → ((fnd9 ds x).1.fn = true → x ∈ s.fs.map (·.name)) ∧ ((fnd9 ds x).1.fn = false → x ∈ s.gs.map (·.name))
theorem Inv10.mono {t : List ByteArray} {ds : List DDef} {ks : List ByteArray} {n n' : Nat} {s : S10} (h : Inv10 t ds ks n s) (hn : n ≤ n') : Inv10 t ds ks n' s :=
  ⟨h.nodup, fun f hf => (h.kf f hf).imp (fun ⟨k, a, b, c⟩ => ⟨k, a, by omega, c⟩) id, fun f hf => (h.kg f hf).imp (fun ⟨k, a, b, c⟩ => ⟨k, a, by omega, c⟩) id, h.dn⟩
theorem Inv10.stepF {t : List ByteArray} {ds : List DDef} {ks : List ByteArray} {n : Nat} {s : S10} (h : Inv10 t ds ks n s) {i : Nat} {G : Ren} {f : DFunc} {n' : Nat} (hn : n ≤ n')
    (hl : f.bind = 1 → ∃ L, G f.name = some (dot10 L) ∧ n ≤ L ∧ L < n' ∧ dot10 L ∉ t) (hs : ¬ f.bind = 1 → G f.name = none ∧ f.name ∈ t ∧ (fnd9 ds f.name).1.fn = true) :
    Inv10 t ds ks n' (fun10 ds ks i G s f) := by
  unfold fun10
  by_cases hb : f.bind = 1
  · rw [if_pos hb]
    obtain ⟨L, hG, h1, h2, h3⟩ := hl hb
    have hnm : ren10 G f.name = dot10 L := by unfold ren10; rw [hG]; rfl
    have hno : dot10 L ∉ s.fs.map (·.name) ++ s.gs.map (·.name) := fun hm => by
      rcases List.mem_append.1 hm with hm | hm
      · obtain ⟨y, hy, e⟩ := List.mem_map.1 hm
        rcases h.kf y hy with ⟨k, q1, q2, _, _⟩ | ⟨q1, _, _⟩
        · have := dot10_inj (q1.symm.trans e); omega
        · rw [e] at q1; exact h3 q1
      · obtain ⟨y, hy, e⟩ := List.mem_map.1 hm
        rcases h.kg y hy with ⟨k, q1, q2, _, _⟩ | ⟨q1, _, _⟩
        · have := dot10_inj (q1.symm.trans e); omega
        · rw [e] at q1; exact h3 q1
    refine ⟨(by
      have hp : ((s.fs ++ [rename10 G f]).map (·.name) ++ s.gs.map (·.name)).Perm (dot10 L :: (s.fs.map (·.name) ++ s.gs.map (·.name))) := by
        rw [List.map_append, List.append_assoc]; show (s.fs.map (·.name) ++ ([ren10 G f.name] ++ s.gs.map (·.name))).Perm _; rw [hnm]; exact List.perm_middle
      exact hp.nodup_iff.2 (List.nodup_cons.2 ⟨hno, h.nodup⟩)), ?_, ?_, ?_⟩
    · intro y hy
      rcases List.mem_append.1 hy with hy | hy
      · rcases h.kf y hy with ⟨k, q1, q2, q3, q4⟩ | ⟨q1, q2, q3⟩
        · exact .inl ⟨k, q1, by omega, q3, q4⟩
        · exact .inr ⟨q1, q2, q3⟩
      · obtain rfl := List.mem_singleton.1 hy
        exact .inl ⟨L, hnm, h2, h3, hb⟩
    · intro y hy
      rcases h.kg y hy with ⟨k, q1, q2, q3, q4⟩ | ⟨q1, q2, q3⟩
      · exact .inl ⟨k, q1, by omega, q3, q4⟩
      · exact .inr ⟨q1, q2, q3⟩
    · intro x hx
      obtain ⟨q1, q2⟩ := h.dn x hx
      exact ⟨fun e => by rw [List.map_append]; exact List.mem_append_left _ (q1 e), fun e => q2 e⟩
  · rw [if_neg hb]
    obtain ⟨hG, h1, h2⟩ := hs hb
    have hnm : ren10 G f.name = f.name := by unfold ren10; rw [hG]; rfl
    split
    · rename_i hw
      have hnd : ¬ s.done f.name = some true := fun e => by
        unfold wants10 at hw; rw [e] at hw; simp at hw
      have hno : f.name ∉ s.fs.map (·.name) ++ s.gs.map (·.name) := fun hm => by
        rcases List.mem_append.1 hm with hm | hm
        · obtain ⟨y, hy, e⟩ := List.mem_map.1 hm
          rcases h.kf y hy with ⟨k, q1, q2, q3, _⟩ | ⟨_, q2, _⟩
          · rw [← q1, e] at q3; exact q3 h1
          · rw [e] at q2; exact hnd q2
        · obtain ⟨y, hy, e⟩ := List.mem_map.1 hm
          rcases h.kg y hy with ⟨k, q1, q2, q3, _⟩ | ⟨_, q2, _⟩
          · rw [← q1, e] at q3; exact q3 h1
          · rw [e] at q2; exact hnd q2
      have old : ∀ {x : ByteArray}, s.done x = some true → updG s.done f.name true x = some true := fun hx => upd_true hx
      refine ⟨(by
        have hp : ((s.fs ++ [rename10 G (defF ks f)]).map (·.name) ++ s.gs.map (·.name)).Perm (f.name :: (s.fs.map (·.name) ++ s.gs.map (·.name))) := by
          rw [List.map_append, List.append_assoc]; show (s.fs.map (·.name) ++ ([ren10 G f.name] ++ s.gs.map (·.name))).Perm _; rw [hnm]; exact List.perm_middle
        exact hp.nodup_iff.2 (List.nodup_cons.2 ⟨hno, h.nodup⟩)), ?_, ?_, ?_⟩
      · intro y hy
        rcases List.mem_append.1 hy with hy | hy
        · rcases h.kf y hy with ⟨k, q1, q2, q3, q4⟩ | ⟨q1, q2, q3⟩
          · exact .inl ⟨k, q1, by omega, q3, q4⟩
          · exact .inr ⟨q1, old q2, q3⟩
        · obtain rfl := List.mem_singleton.1 hy
          exact .inr ⟨by show ren10 G f.name ∈ t; rw [hnm]; exact h1, by show updG s.done f.name true (ren10 G f.name) = _; rw [hnm]; exact upd_self, by show bind10 ks f.name = bind10 ks (ren10 G f.name); rw [hnm]⟩
      · intro y hy
        rcases h.kg y hy with ⟨k, q1, q2, q3, q4⟩ | ⟨q1, q2, q3⟩
        · exact .inl ⟨k, q1, by omega, q3, q4⟩
        · exact .inr ⟨q1, old q2, q3⟩
      · intro x hx
        by_cases hxn : x = f.name
        · subst hxn
          exact ⟨fun _ => by rw [List.map_append]; exact List.mem_append_right _ (List.mem_singleton.2 hnm.symm), fun e => by rw [h2] at e; cases e⟩
        · have hx' : s.done x = some true := by
            have hx2 : updG s.done f.name true x = some true := hx
            unfold updG at hx2; rwa [if_neg hxn] at hx2
          obtain ⟨q1, q2⟩ := h.dn x hx'
          exact ⟨fun e => by rw [List.map_append]; exact List.mem_append_left _ (q1 e), fun e => q2 e⟩
    · exact h.mono hn
theorem Inv10.stepG {t : List ByteArray} {ds : List DDef} {ks : List ByteArray} {n : Nat} {s : S10} (h : Inv10 t ds ks n s) {i : Nat} {G : Ren} {f : DGlob} {n' : Nat} (hn : n ≤ n')
    (hl : f.bind = 1 → ∃ L, G f.name = some (dot10 L) ∧ n ≤ L ∧ L < n' ∧ dot10 L ∉ t) (hs : ¬ f.bind = 1 → G f.name = none ∧ f.name ∈ t ∧ (fnd9 ds f.name).1.fn = false) :
    Inv10 t ds ks n' (glob10 ds ks i G s f) := by
  unfold glob10
  by_cases hb : f.bind = 1
  · rw [if_pos hb]
    obtain ⟨L, hG, h1, h2, h3⟩ := hl hb
    have hnm : ren10 G f.name = dot10 L := by unfold ren10; rw [hG]; rfl
    have hno : dot10 L ∉ s.fs.map (·.name) ++ s.gs.map (·.name) := fun hm => by
      rcases List.mem_append.1 hm with hm | hm
      · obtain ⟨y, hy, e⟩ := List.mem_map.1 hm
        rcases h.kf y hy with ⟨k, q1, q2, _, _⟩ | ⟨q1, _, _⟩
        · have := dot10_inj (q1.symm.trans e); omega
        · rw [e] at q1; exact h3 q1
      · obtain ⟨y, hy, e⟩ := List.mem_map.1 hm
        rcases h.kg y hy with ⟨k, q1, q2, _, _⟩ | ⟨q1, _, _⟩
        · have := dot10_inj (q1.symm.trans e); omega
        · rw [e] at q1; exact h3 q1
    refine ⟨(by
      have hp : (s.fs.map (·.name) ++ (s.gs ++ [renG G f]).map (·.name)).Perm (dot10 L :: (s.fs.map (·.name) ++ s.gs.map (·.name))) := by
        rw [List.map_append, ← List.append_assoc]; show (s.fs.map (·.name) ++ s.gs.map (·.name) ++ [ren10 G f.name]).Perm _; rw [hnm]; exact List.perm_append_singleton _ _
      exact hp.nodup_iff.2 (List.nodup_cons.2 ⟨hno, h.nodup⟩)), ?_, ?_, ?_⟩
    · intro y hy
      rcases h.kf y hy with ⟨k, q1, q2, q3, q4⟩ | ⟨q1, q2, q3⟩
      · exact .inl ⟨k, q1, by omega, q3, q4⟩
      · exact .inr ⟨q1, q2, q3⟩
    · intro y hy
      rcases List.mem_append.1 hy with hy | hy
      · rcases h.kg y hy with ⟨k, q1, q2, q3, q4⟩ | ⟨q1, q2, q3⟩
        · exact .inl ⟨k, q1, by omega, q3, q4⟩
        · exact .inr ⟨q1, q2, q3⟩
      · obtain rfl := List.mem_singleton.1 hy
        exact .inl ⟨L, hnm, h2, h3, hb⟩
    · intro x hx
      obtain ⟨q1, q2⟩ := h.dn x hx
      exact ⟨fun e => q1 e, fun e => by rw [List.map_append]; exact List.mem_append_left _ (q2 e)⟩
  · rw [if_neg hb]
    obtain ⟨hG, h1, h2⟩ := hs hb
    have hnm : ren10 G f.name = f.name := by unfold ren10; rw [hG]; rfl
    split
    · rename_i hw
      have hnd : ¬ s.done f.name = some true := fun e => by
        unfold wants10 at hw; rw [e] at hw; simp at hw
      have hno : f.name ∉ s.fs.map (·.name) ++ s.gs.map (·.name) := fun hm => by
        rcases List.mem_append.1 hm with hm | hm
        · obtain ⟨y, hy, e⟩ := List.mem_map.1 hm
          rcases h.kf y hy with ⟨k, q1, q2, q3, _⟩ | ⟨_, q2, _⟩
          · rw [← q1, e] at q3; exact q3 h1
          · rw [e] at q2; exact hnd q2
        · obtain ⟨y, hy, e⟩ := List.mem_map.1 hm
          rcases h.kg y hy with ⟨k, q1, q2, q3, _⟩ | ⟨_, q2, _⟩
          · rw [← q1, e] at q3; exact q3 h1
          · rw [e] at q2; exact hnd q2
      have old : ∀ {x : ByteArray}, s.done x = some true → updG s.done f.name true x = some true := fun hx => upd_true hx
      refine ⟨(by
        have hp : (s.fs.map (·.name) ++ (s.gs ++ [renG G (defG ks f)]).map (·.name)).Perm (f.name :: (s.fs.map (·.name) ++ s.gs.map (·.name))) := by
          rw [List.map_append, ← List.append_assoc]; show (s.fs.map (·.name) ++ s.gs.map (·.name) ++ [ren10 G f.name]).Perm _; rw [hnm]; exact List.perm_append_singleton _ _
        exact hp.nodup_iff.2 (List.nodup_cons.2 ⟨hno, h.nodup⟩)), ?_, ?_, ?_⟩
      · intro y hy
        rcases h.kf y hy with ⟨k, q1, q2, q3, q4⟩ | ⟨q1, q2, q3⟩
        · exact .inl ⟨k, q1, by omega, q3, q4⟩
        · exact .inr ⟨q1, old q2, q3⟩
      · intro y hy
        rcases List.mem_append.1 hy with hy | hy
        · rcases h.kg y hy with ⟨k, q1, q2, q3, q4⟩ | ⟨q1, q2, q3⟩
          · exact .inl ⟨k, q1, by omega, q3, q4⟩
          · exact .inr ⟨q1, old q2, q3⟩
        · obtain rfl := List.mem_singleton.1 hy
          exact .inr ⟨by show ren10 G f.name ∈ t; rw [hnm]; exact h1, by show updG s.done f.name true (ren10 G f.name) = _; rw [hnm]; exact upd_self, by show bind10 ks f.name = bind10 ks (ren10 G f.name); rw [hnm]⟩
      · intro x hx
        by_cases hxn : x = f.name
        · subst hxn
          exact ⟨fun e => (by rw [h2] at e; cases e), fun _ => by rw [List.map_append]; exact List.mem_append_right _ (List.mem_singleton.2 hnm.symm)⟩
        · have hx' : s.done x = some true := by
            have hx2 : updG s.done f.name true x = some true := hx
            unfold updG at hx2; rwa [if_neg hxn] at hx2
          obtain ⟨q1, q2⟩ := h.dn x hx'
          exact ⟨fun e => q1 e, fun e => by rw [List.map_append]; exact List.mem_append_left _ (q2 e)⟩
    · exact h.mono hn
theorem inv_item {t : List ByteArray} {n0 : Nat} {l : List (ByteArray × Int)} (ho : Once10 l) {k : Nat} {x : ByteArray × Int} (hx : l[k]? = some x) :
    (mod10 t n0 (l.take k)).2 ≤ (mod10 t n0 (l.take (k + 1))).2 ∧
    (x.2 = 1 → ∃ L, (mod10 t n0 l).1 x.1 = some (dot10 L) ∧ (mod10 t n0 (l.take k)).2 ≤ L ∧ L < (mod10 t n0 (l.take (k + 1))).2 ∧ dot10 L ∉ t) ∧ (¬ x.2 = 1 → (mod10 t n0 l).1 x.1 = none) := by
  by_cases hb : x.2 = 1
  · obtain ⟨h1, h2⟩ := mod10_at (t := t) (n := n0) ho hx hb
    have h3 := (loc10_bounds t (mod10 t n0 (l.take k)).2).1
    exact ⟨by omega, fun _ => ⟨_, h1, h3, by omega, loc10_not t _⟩, fun h => absurd hb h⟩
  · refine ⟨by rw [mod10_next hx, give10_no1 hb]; exact Nat.le_refl _, fun h => absurd h hb, fun _ => mod10_none ho hx hb⟩
theorem inv_mod {ms : List DMod} {ks : List ByteArray} (hok : (all9 (items9 ms)).2 = 0) {i : Nat} {m : DMod} (hi : ms[i]? = some m) (ho : Once10 (its10 m)) {s : S10} {n0 : Nat}
    (h : Inv10 (nm10 ms) (ds10 ms) ks n0 s) : Inv10 (nm10 ms) (ds10 ms) ks (mod10 (nm10 ms) n0 (its10 m)).2 (mod10s (ds10 ms) ks i (mod10 (nm10 ms) n0 (its10 m)).1 s m) := by
  have hf : ∀ k, k ≤ m.funcs.length → Inv10 (nm10 ms) (ds10 ms) ks (mod10 (nm10 ms) n0 ((its10 m).take k)).2 ((m.funcs.take k).foldl (fun10 (ds10 ms) ks i (mod10 (nm10 ms) n0 (its10 m)).1) s) := by
    intro k
    induction k with
    | zero => intro _; exact h
    | succ k ih =>
      intro hk
      have hx : m.funcs[k]? = some m.funcs[k] := List.getElem?_eq_getElem (by omega)
      obtain ⟨h1, h2, h3⟩ := inv_item (t := nm10 ms) (n0 := n0) ho (its_f hx)
      rw [foldl_next hx]
      refine (ih (by omega)).stepF h1 h2 fun hb => ?_
      obtain ⟨k1, k2, _⟩ := kindF hok hi (List.mem_of_getElem? hx) hb
      exact ⟨h3 hb, k1, k2⟩
  have hg : ∀ k, k ≤ m.globs.length → Inv10 (nm10 ms) (ds10 ms) ks (mod10 (nm10 ms) n0 ((its10 m).take (m.funcs.length + k))).2 ((m.globs.take k).foldl (glob10 (ds10 ms) ks i (mod10 (nm10 ms) n0 (its10 m)).1) (m.funcs.foldl (fun10 (ds10 ms) ks i (mod10 (nm10 ms) n0 (its10 m)).1) s)) := by
    intro k
    induction k with
    | zero => intro _; have := hf m.funcs.length (Nat.le_refl _); rw [List.take_length] at this; exact this
    | succ k ih =>
      intro hk
      have hx : m.globs[k]? = some m.globs[k] := List.getElem?_eq_getElem (by omega)
      obtain ⟨h1, h2, h3⟩ := inv_item (t := nm10 ms) (n0 := n0) ho (its_g hx)
      rw [foldl_next hx]
      refine (ih (by omega)).stepG h1 h2 fun hb => ?_
      obtain ⟨k1, k2⟩ := kindG hok hi (List.mem_of_getElem? hx) hb
      exact ⟨h3 hb, k1, k2⟩
  have := hg m.globs.length (Nat.le_refl _)
  rw [← its_len, List.take_length, List.take_length] at this
  exact this
theorem inv10 {ms : List DMod} (ks : List ByteArray) (hrt : ∀ m ∈ ms, check5 m = 0) (hok : (all9 (items9 ms)).2 = 0) (i : Nat) (hi : i ≤ ms.length) :
    Inv10 (nm10 ms) (ds10 ms) ks (nam10 (nm10 ms) (ms.take i)).2 (out10 (ds10 ms) ks ((zip10 ms (nam10 (nm10 ms) ms).1).take i)) := by
  induction i with
  | zero => exact ⟨List.nodup_nil, fun f hf => (by cases hf), fun f hf => (by cases hf), fun x hx => (by cases hx)⟩
  | succ i ih =>
    have hm : ms[i]? = some ms[i] := List.getElem?_eq_getElem (by omega)
    rw [nam10_next hm, out10_next (zip10_at hm (nam10_at hm))]
    exact inv_mod hok hm (its_once (hrt _ (List.mem_of_getElem? hm))) (ih (by omega))
theorem nam10_length (t : List ByteArray) (l : List DMod) : (nam10 t l).1.length = l.length := by
  induction l using snoc_ind with
  | h0 => rfl
  | h1 l x ih =>
    have e : nam10 t (l ++ [x]) = namStep t (nam10 t l) x := by unfold nam10; rw [List.foldl_append]; rfl
    rw [e]; simp [namStep, ih]
theorem invAll {ms : List DMod} (ks : List ByteArray) (hrt : ∀ m ∈ ms, check5 m = 0) (hok : (all9 (items9 ms)).2 = 0) : Inv10 (nm10 ms) (ds10 ms) ks (nam10 (nm10 ms) ms).2 (ot10 ms ks) := by
  have h := inv10 ks hrt hok ms.length (Nat.le_refl _)
  rwa [List.take_length, List.take_of_length_le (Nat.le_of_eq (zip10_len (nam10_length _ _)))] at h
/-- What merge says, where it says a module. -/
theorem merge10_ok {ms : List DMod} {ks : List ByteArray} (h : (merge10 ms ks).2 = 0) : (all9 (items9 ms)).2 = 0 ∧ ks.any (lost10 (ds10 ms)) = false ∧ (merge10 ms ks).1 = ⟨(ot10 ms ks).fs, (ot10 ms ks).gs⟩ ∧ (ot10 ms ks).fs.length ≤ 16 ∧ (ot10 ms ks).gs.length ≤ 16 := by
  unfold merge10 at h ⊢
  by_cases h1 : (all9 (items9 ms)).2 = 0
  · rw [if_pos h1] at h ⊢
    by_cases h2 : ks.any (lost10 (ds10 ms)) = true
    · rw [if_pos h2] at h; cases h
    · rw [if_neg h2] at h ⊢
      simp only at h ⊢
      split at h
      · cases h
      · rename_i h3
        rw [if_neg h3]
        refine ⟨h1, by simpa using h2, rfl, ?_, ?_⟩ <;> (unfold ot10 ds10 nm10; omega)
  · rw [if_neg h1] at h; exact absurd h h1
theorem kept10 {ms : List DMod} {ks : List ByteArray} (hok : (all9 (items9 ms)).2 = 0) (hl : ks.any (lost10 (ds10 ms)) = false) {s : ByteArray} (hs : s ∈ ks) : s ∈ nm10 ms := by
  have := List.any_eq_false.1 hl s hs
  unfold lost10 at this
  simp at this
  exact fnd9_out hok this.1
theorem mem_find5 {l : List ByteArray} {s : ByteArray} (h : s ∈ l) : 0 ≤ find5 l s := by
  rcases find5_cases l s with ⟨h1, h2⟩ | ⟨k, h1, _⟩
  · exact absurd h (by first | exact h2 | (intro h; exact absurd h (by simpa using h2)))
  · omega
end Go.Proofs.YtapjejjmhmdmdaaDoor

namespace Go.Proofs.YtapjejjmhmdmdaaDoor
open Go.RowKit

theorem find_atF {m : DMod} {s : ByteArray} (h : 0 ≤ find5 (fnames m) s) {x : DFunc} (hx : m.funcs[(find5 (fnames m) s).toNat]? = some x) : x.name = s := by
  rcases find5_cases (fnames m) s with ⟨h1, _⟩ | ⟨k, h1, h2, _⟩
  · omega
  · rw [h1, Int.toNat_natCast] at hx
    unfold fnames at h2
    rw [List.getElem?_map, hx] at h2
    exact Option.some.inj h2
theorem find_atG {m : DMod} {s : ByteArray} (h : 0 ≤ find5 (gnames m) s) {x : DGlob} (hx : m.globs[(find5 (gnames m) s).toNat]? = some x) : x.name = s := by
  rcases find5_cases (gnames m) s with ⟨h1, _⟩ | ⟨k, h1, h2, _⟩
  · omega
  · rw [h1, Int.toNat_natCast] at hx
    unfold gnames at h2
    rw [List.getElem?_map, hx] at h2
    exact Option.some.inj h2
theorem find_ltF {m : DMod} {s : ByteArray} (h : 0 ≤ find5 (fnames m) s) : (find5 (fnames m) s).toNat < m.funcs.length := by
  rcases find5_cases (fnames m) s with ⟨h1, _⟩ | ⟨k, h1, _, h3, _⟩
  · omega
  · rw [h1, Int.toNat_natCast]; unfold fnames at h3; simpa using h3
theorem find_ltG {m : DMod} {s : ByteArray} (h : 0 ≤ find5 (gnames m) s) : (find5 (gnames m) s).toNat < m.globs.length := by
  rcases find5_cases (gnames m) s with ⟨h1, _⟩ | ⟨k, h1, _, h3, _⟩
  · omega
  · rw [h1, Int.toNat_natCast]; unfold gnames at h3; simpa using h3
theorem name_once {M : DMod} (h : (fnames M).Nodup) {i j : Nat} {x y : DFunc} (hx : M.funcs[i]? = some x) (hy : M.funcs[j]? = some y) (e : x.name = y.name) : i = j := by
  have h1 : (fnames M)[i]? = some x.name := by unfold fnames; rw [List.getElem?_map, hx]; rfl
  have h2 : (fnames M)[j]? = some x.name := by unfold fnames; rw [List.getElem?_map, hy, e]; rfl
  exact (List.getElem?_inj (List.getElem?_eq_some_iff.1 h1).1 h).1 (h1.trans h2.symm)
def fewB (ms : List DMod) (ks : List ByteArray) : Bool := decide (ms.length ≤ 16) && decide (ks.length ≤ 16)
theorem fewB_iff {ms : List DMod} {ks : List ByteArray} : fewB ms ks = true ↔ ms.length ≤ 16 ∧ ks.length ≤ 16 := by unfold fewB; simp
/-- All that the statements say of a module that comes out. -/
structure Out10 (ms : List DMod) (ks : List ByteArray) (M : DMod) : Prop where
  nodup : (fnames M).Nodup
  few : M.funcs.length ≤ 16 ∧ M.globs.length ≤ 16
  sum : M.funcs.length + M.globs.length ≤ (ms.map fun m => m.funcs.length + m.globs.length).sum
  kept : ∀ s ∈ ks, 0 ≤ find5 (fnames M) s ∨ 0 ≤ find5 (gnames M) s
  keptF : ∀ s ∈ ks, ∀ f ∈ M.funcs, f.name = s → f.bind = 2
  keptG : ∀ s ∈ ks, ∀ g ∈ M.globs, g.name = s → g.bind = 2
  bind : ∀ f ∈ M.funcs, decide (f.bind = 2) = (decide (f.name = mainB) || ks.any fun k => decide (k = f.name))
  main : 0 ≤ find5 (fnames M) mainB
theorem zip10_fst {ms : List DMod} {gs : List Ren} (h : gs.length = ms.length) : (zip10 ms gs).map (fun p => p.1.1) = ms := by
  unfold zip10
  have e : (fun p : (DMod × Ren) × Nat => p.1.1) = (fun q : DMod × Ren => q.1) ∘ (fun p : (DMod × Ren) × Nat => p.1) := rfl
  rw [e, ← List.map_map]
  have e2 : ((ms.zip gs).zipIdx).map (fun p : (DMod × Ren) × Nat => p.1) = ms.zip gs := by
    simp
  rw [e2]
  exact List.map_fst_zip (Nat.le_of_eq h.symm)
theorem out10_facts {ms : List DMod} {ks : List ByteArray} (hrt : ∀ m ∈ ms, check5 m = 0) (h : (merge10 ms ks).2 = 0) : Out10 ms ks (merge10 ms ks).1 := by
  obtain ⟨hok, hl, e, h1, h2⟩ := merge10_ok h
  rw [e]
  have hv := invAll ks hrt hok
  obtain ⟨m1, m2, m3, _⟩ := main10 hok
  have hdn := fun s (hs : s ∈ nm10 ms) => hv.dn s (done10 ks hok hs)
  refine ⟨(List.nodup_append.1 hv.nodup).1, ⟨h1, h2⟩, ?_, fun s hs => ?_, fun s hs f hf hn => ?_, fun s hs f hf hn => ?_, fun f hf => ?_, ?_⟩
  · have h3 := out10_len (ds10 ms) ks (zip10 ms (nam10 (nm10 ms) ms).1)
    have h4 : ((zip10 ms (nam10 (nm10 ms) ms).1).map fun p => p.1.1.funcs.length + p.1.1.globs.length) = ms.map fun m => m.funcs.length + m.globs.length := by
      have h5 := zip10_fst (ms := ms) (gs := (nam10 (nm10 ms) ms).1) (nam10_length _ _)
      conv => rhs; rw [← h5, List.map_map]
      rfl
    rw [h4] at h3; exact h3
  · obtain ⟨q1, q2⟩ := hdn s (kept10 hok hl hs)
    cases hfn : (fnd9 (ds10 ms) s).1.fn with
    | true => exact .inl (mem_find5 (q1 hfn))
    | false => exact .inr (mem_find5 (q2 hfn))
  · have hs2 := kept10 hok hl hs
    rcases hv.kf f hf with ⟨k, q1, _, q3, _⟩ | ⟨_, _, q⟩
    · exact absurd (by rw [← q1, hn]; exact hs2) q3
    · rw [q, bind10, if_pos (.inr (by rw [hn]; exact hs))]
  · have hs2 := kept10 hok hl hs
    rcases hv.kg f hf with ⟨k, q1, _, q3, _⟩ | ⟨_, _, q⟩
    · exact absurd (by rw [← q1, hn]; exact hs2) q3
    · rw [q, bind10, if_pos (.inr (by rw [hn]; exact hs))]
  · have hany : (ks.any fun k => decide (k = f.name)) = decide (f.name ∈ ks) := by rw [Bool.eq_iff_iff]; simp
    rw [hany]
    rcases hv.kf f hf with ⟨k, q1, _, q3, q4⟩ | ⟨_, _, q⟩
    · have n1 : ¬ f.name = mainB := fun e2 => q3 (by rw [← q1, e2]; exact m1)
      have n2 : ¬ f.name ∈ ks := fun e2 => q3 (by rw [← q1]; exact kept10 hok hl e2)
      rw [q4, decide_eq_false n1, decide_eq_false n2]; rfl
    · rw [q]
      unfold bind10
      by_cases h3 : f.name = mainB ∨ f.name ∈ ks
      · rw [if_pos h3]; rcases h3 with h3 | h3 <;> simp [h3]
      · rw [if_neg h3]
        have n1 : ¬ f.name = mainB := fun e2 => h3 (.inl e2)
        have n2 : ¬ f.name ∈ ks := fun e2 => h3 (.inr e2)
        rw [decide_eq_false n1, decide_eq_false n2]; rfl
  · exact mem_find5 ((hdn mainB m1).1 m2)
end Go.Proofs.YtapjejjmhmdmdaaDoor
