/-
  What comes out of modules made one: plain facts. No condition beyond those that each theorem states.
-/
import Derived.Test.YtapjejjmhmdmdaaDoorZ8
import Derived.Test.YtapjejjmhmdmdaaDoorP4
import Derived.Test.YtapjejjmhmdmdaaDoorZ11
namespace Go.Proofs.YtapjejjmhmdmdaaDoor
open Go.RowKit

theorem all9_ok {xs : List DItem} (h : (all9 xs).2 = 0) : (all9 xs).1 = (grp9 xs).map def9 ∧ (grp9 xs).any oddG = false ∧ entry9 (grp9 xs) = true ∧ (grp9 xs).any (fun g => decide (1 < many9 g)) = false ∧ (grp9 xs).any missing9 = false := by
  unfold all9 at *
  split at h
  · simp at h
  · split at h
    · simp at h
    · split at h
      · simp at h
      · split at h
        · rename_i h1 h2 h3 h4
          rw [if_neg h1, if_neg h2, if_neg h3, if_pos h4]
          exact ⟨rfl, by simpa using h1, h4, by simpa using h2, by simpa using h3⟩
        · simp at h
theorem all9_def {xs : List DItem} (h : (all9 xs).2 = 0) {d : DDef} (hd : d ∈ (all9 xs).1) : ∃ g, g ∈ grp9 xs ∧ d = def9 g ∧ 0 < g.length ∧ oddG g = false := by
  obtain ⟨e, ho, _⟩ := all9_ok h
  rw [e] at hd
  obtain ⟨g, hg, rfl⟩ := List.mem_map.1 hd
  exact ⟨g, hg, rfl, grp9_ne hg, List.any_eq_false.1 ho g hg |> fun h => by simpa using h⟩
theorem shape9 {g : List DItem} (ho : oddG g = false) {x : DItem} (hx : x ∈ g) : x.fn = (g.getD 0 item0).fn ∧ x.params = (g.getD 0 item0).params := by
  have := List.any_eq_false.1 ho x hx
  simp [odd9] at this
  exact this
theorem itemsFrom_in : ∀ (l : List DMod) (n i : Nat) (m : DMod) (x : DItem), l[i]? = some m → x ∈ mItems (n + i) m → x ∈ itemsFrom n l
  | [], _, _, _, _, h, _ => by simp at h
  | m' :: l, n, 0, m, x, h, hx => by
    simp only [List.getElem?_cons_zero, Option.some.injEq] at h
    subst h
    exact List.mem_append_left _ hx
  | m' :: l, n, i + 1, m, x, h, hx => by
    refine List.mem_append_right _ (itemsFrom_in l (n + 1) i m x (by simpa using h) ?_)
    rw [show n + 1 + i = n + (i + 1) by omega]; exact hx
theorem items_in {l : List DMod} {i : Nat} {m : DMod} {x : DItem} (h : l[i]? = some m) (hx : x ∈ mItems i m) : x ∈ items9 l := itemsFrom_in l 0 i m x h (by rw [Nat.zero_add]; exact hx)
theorem fItem_in {l : List DMod} {i : Nat} {m : DMod} {f : DFunc} (h : l[i]? = some m) (hf : f ∈ m.funcs) (hb : ¬ f.bind = 1) : fItem i f ∈ items9 l :=
  items_in h (List.mem_append_left _ (List.mem_filterMap.2 ⟨f, hf, if_neg hb⟩))
theorem gItem_in {l : List DMod} {i : Nat} {m : DMod} {f : DGlob} (h : l[i]? = some m) (hf : f ∈ m.globs) (hb : ¬ f.bind = 1) : gItem i f ∈ items9 l :=
  items_in h (List.mem_append_right _ (List.mem_filterMap.2 ⟨f, hf, if_neg hb⟩))
abbrev nm10 (ms : List DMod) : List ByteArray := nms9 (items9 ms)
abbrev ds10 (ms : List DMod) : List DDef := (all9 (items9 ms)).1
/-- A shared name's definition is that of its items. -/
theorem fnd9_in {ms : List DMod} (hok : (all9 (items9 ms)).2 = 0) {s : ByteArray} (hs : s ∈ nm10 ms) :
    ∃ g, fnd9 (ds10 ms) s = (def9 g, true) ∧ 0 < g.length ∧ oddG g = false ∧ (g.getD 0 item0).name = s ∧ ∀ x, x ∈ g ↔ x ∈ items9 ms ∧ x.name = s := by
  obtain ⟨e, _⟩ := all9_ok hok
  rcases ixI_cases (isName s) (ds10 ms) with ⟨_, h2⟩ | ⟨j, d, h1, h2, h3, _⟩
  · exfalso
    have hg : ((items9 ms).filter fun x => decide (x.name = s)) ∈ grp9 (items9 ms) := by unfold grp9; exact List.mem_map.2 ⟨s, hs, rfl⟩
    have hne := grp9_ne hg
    have hd : def9 ((items9 ms).filter fun x => decide (x.name = s)) ∈ ds10 ms := by unfold ds10; rw [e]; exact List.mem_map.2 ⟨_, hg, rfl⟩
    have h4 := List.any_eq_false.1 h2 _ hd
    have h5 := (List.mem_filter.1 (getD_mem item0 hne)).2
    simp [isName, def9] at h4
    simp at h5
    exact h4 h5
  · obtain ⟨g, hg, rfl, h0, ho⟩ := all9_def hok (List.mem_of_getElem? h2)
    have hn : (g.getD 0 item0).name = s := by simpa [isName, def9] using h3
    refine ⟨g, fnd9_at h1 h2, h0, ho, hn, fun x => ?_⟩
    unfold grp9 at hg
    obtain ⟨s', _, rfl⟩ := List.mem_map.1 hg
    have h5 := (List.mem_filter.1 (getD_mem item0 h0)).2
    simp only [decide_eq_true_eq] at h5
    have : s' = s := h5.symm.trans hn
    subst this
    simp
def par10 (ms : List DMod) (s : ByteArray) : Int := (((items9 ms).filter fun x => decide (x.name = s)).getD 0 item0).params
theorem nms_mem {xs : List DItem} {x : DItem} (h : x ∈ xs) : x.name ∈ nms9 xs := (mem_nms9 _ _).2 ⟨x, h, rfl⟩
theorem kindF {ms : List DMod} (hok : (all9 (items9 ms)).2 = 0) {i : Nat} {m : DMod} {f : DFunc} (hi : ms[i]? = some m) (hf : f ∈ m.funcs) (hb : ¬ f.bind = 1) :
    f.name ∈ nm10 ms ∧ (fnd9 (ds10 ms) f.name).1.fn = true ∧ f.params = par10 ms f.name := by
  have hx := fItem_in hi hf hb
  have hs : f.name ∈ nm10 ms := nms_mem hx
  obtain ⟨g, e, h0, ho, hn, hmem⟩ := fnd9_in hok hs
  have hg := (hmem (fItem i f)).2 ⟨hx, rfl⟩
  obtain ⟨h1, h2⟩ := shape9 ho hg
  refine ⟨hs, by rw [e]; exact h1.symm, ?_⟩
  have h3 : ((items9 ms).filter fun x => decide (x.name = f.name)) ∈ grp9 (items9 ms) := by unfold grp9; exact List.mem_map.2 ⟨_, hs, rfl⟩
  obtain ⟨e2, ho2, _⟩ := all9_ok hok
  have h4 := List.any_eq_false.1 ho2 _ h3
  exact (shape9 (by simpa using h4) (List.mem_filter.2 ⟨hx, by simp [fItem]⟩)).2
theorem kindG {ms : List DMod} (hok : (all9 (items9 ms)).2 = 0) {i : Nat} {m : DMod} {f : DGlob} (hi : ms[i]? = some m) (hf : f ∈ m.globs) (hb : ¬ f.bind = 1) :
    f.name ∈ nm10 ms ∧ (fnd9 (ds10 ms) f.name).1.fn = false := by
  have hx := gItem_in hi hf hb
  have hs : f.name ∈ nm10 ms := nms_mem hx
  obtain ⟨g, e, h0, ho, hn, hmem⟩ := fnd9_in hok hs
  have hg := (hmem (gItem i f)).2 ⟨hx, rfl⟩
  obtain ⟨h1, _⟩ := shape9 ho hg
  exact ⟨hs, by rw [e]; exact h1.symm⟩
/-! What has come out stays. -/
structure Le10 (s s' : S10) : Prop where
  fs : ∃ r, s'.fs = s.fs ++ r
  gs : ∃ r, s'.gs = s.gs ++ r
  dn : ∀ x, s.done x = some true → s'.done x = some true
theorem Le10.refl (s : S10) : Le10 s s := ⟨⟨[], by simp⟩, ⟨[], by simp⟩, fun _ h => h⟩
theorem Le10.trans {a b c : S10} (h : Le10 a b) (k : Le10 b c) : Le10 a c := by
  obtain ⟨⟨r1, e1⟩, ⟨r2, e2⟩, h3⟩ := h
  obtain ⟨⟨q1, f1⟩, ⟨q2, f2⟩, k3⟩ := k
  exact ⟨⟨r1 ++ q1, by rw [f1, e1, List.append_assoc]⟩, ⟨r2 ++ q2, by rw [f2, e2, List.append_assoc]⟩, fun x hx => k3 x (h3 x hx)⟩
end Go.Proofs.YtapjejjmhmdmdaaDoor

namespace Go.Proofs.YtapjejjmhmdmdaaDoor
open Go.RowKit

structure Inv10 (t : List ByteArray) (ds : List DDef) (ks : List ByteArray) (n : Nat) (s : S10) : Prop where
  nodup : (s.fs.map (·.name) ++ s.gs.map (·.name)).Nodup
  kf : ∀ f ∈ s.fs, (∃ k, f.name = dot10 k ∧ k < n ∧ dot10 k ∉ t ∧ f.bind = 1) ∨ (f.name ∈ t ∧ s.done f.name = some true ∧ f.bind = bind10 ks f.name)
  kg : ∀ g ∈ s.gs, (∃ k, g.name = dot10 k ∧ k < n ∧ dot10 k ∉ t ∧ g.bind = 1) ∨ (g.name ∈ t ∧ s.done g.name = some true ∧ g.bind = bind10 ks g.name)
  dn : ∀ x, s.done x = some true → ((fnd9 ds x).1.fn = true → x ∈ s.fs.map (·.name)) ∧ ((fnd9 ds x).1.fn = false → x ∈ s.gs.map (·.name))
theorem Inv10.mono {t : List ByteArray} {ds : List DDef} {ks : List ByteArray} {n n' : Nat} {s : S10} (h : Inv10 t ds ks n s) (hn : n ≤ n') : Inv10 t ds ks n' s :=
  ⟨h.nodup, fun f hf => (h.kf f hf).imp (fun ⟨k, a, b, c⟩ => ⟨k, a, by omega, c⟩) id, fun f hf => (h.kg f hf).imp (fun ⟨k, a, b, c⟩ => ⟨k, a, by omega, c⟩) id, h.dn⟩
theorem nam10_length (t : List ByteArray) (l : List DMod) : (nam10 t l).1.length = l.length := by
  induction l using snoc_ind with
  | h0 => rfl
  | h1 l x ih =>
    have e : nam10 t (l ++ [x]) = namStep t (nam10 t l) x := by unfold nam10; rw [List.foldl_append]; rfl
    rw [e]; simp [namStep, ih]
end Go.Proofs.YtapjejjmhmdmdaaDoor

namespace Go.Proofs.YtapjejjmhmdmdaaDoor
open Go.RowKit

def fewB (ms : List DMod) (ks : List ByteArray) : Bool := decide (ms.length ≤ 16) && decide (ks.length ≤ 16)
theorem fewB_iff {ms : List DMod} {ks : List ByteArray} : fewB ms ks = true ↔ ms.length ≤ 16 ∧ ks.length ≤ 16 := by unfold fewB; simp
/-- All that the statements say of a module that comes out. -/
structure Out10 (ms : List DMod) (ks : List ByteArray) (M : DMod) : Prop where
  nodup : (fnames M).Nodup
  few : M.funcs.length ≤ 16 ∧ M.globs.length ≤ 16
  sum : M.funcs.length + M.globs.length ≤ (ms.map fun m => m.funcs.length + m.globs.length).sum
  kept : ∀ s ∈ ks, 0 ≤ find5 (fnames M) s ∨ 0 ≤ find5 (gnames M) s
  keptF : ∀ s ∈ ks, ∀ f ∈ M.funcs, f.name = s → f.bind = 2
  keptG : ∀ s ∈ ks, ∀ g ∈ M.globs, g.name = s → g.bind = 2
  bind : ∀ f ∈ M.funcs, decide (f.bind = 2) = (decide (f.name = mainB) || ks.any fun k => decide (k = f.name))
  main : 0 ≤ find5 (fnames M) mainB
end Go.Proofs.YtapjejjmhmdmdaaDoor

namespace Go.Proofs.YtapjejjmhmdmdaaDoor
open Go.RowKit

theorem few10_ret (ms : List DMod) (ks : List ByteArray) (vx vk : Value) {w : World} {ro : Nat → Prop} (hro : ∀ b, ro b → b < w.heap.size) (hx : SlV ro w 2 (ModC ro w) vx ms) (hk : SlV ro w 1 StrC vk ks) : Ret Tryd.prog 13 #[vx, vk] w fun v w' => v = .bool (fewB ms ks) ∧ Below w.heap.size w w' := by
 have hxo := hx
 obtain ⟨adl, capl, rfl, hla, hlb, hlc, hld⟩ := hxo
 have hlm : ms.length ≤ 9223372036854775807 := slv_len hx
 obtain ⟨adk, capk, rfl, hk0a, hk0b, hk0c, hk0d⟩ := id hk
 have hk0m : ks.length ≤ 9223372036854775807 := by have h1 := hk0a; have h2 := hk0b; unfold maxLen at h2; omega
 refine Ret.enter (P := Tryd.prog) (n := 13) (args := [.slice adl ms.length capl, .slice adk ks.length capk]) (σ := [(0, .slice adl ms.length capl), (1, .slice adk ks.length capk)]) Tryd.func13 rfl rfl rfl rfl ?_
 have hS := St.start (ro := ro) hro
 refine W.seq (W.region (WL.assign rfl rfl rfl (WL.nil (N.seq (W.seq (W.region (WL.move rfl rfl rfl (WL.lenSlice Tryd.underlying22 rfl rfl rfl (WL.bin rfl rfl rfl rfl rfl ?_)))))))))
 refine WL.move rfl rfl rfl ?_
 cases hg1 : (decide ((ms.length : Int) ≤ 16))
 ·
  have hg1p : ¬ ((ms.length : Int) ≤ 16) := by simpa using hg1
  refine WL.skp rfl rfl (WL.skp rfl rfl (WL.skp rfl rfl (WL.pick (v := .bool false) rfl rfl rfl rfl rfl rfl (WL.assign rfl rfl rfl (WL.nil (N.seq ?_))))))
  refine Fin.ret1 rfl (v := .bool false) rfl ?_
  refine ⟨?_, hS.below⟩
  congr 1
  rw [Bool.eq_iff_iff, fewB_iff]
  first | (simp; omega) | (simp only [decide_eq_true_eq]; omega)
 have hg1p : (ms.length : Int) ≤ 16 := by simpa using hg1
 refine WL.move rfl rfl rfl (WL.lenSlice Tryd.underlying25 rfl rfl rfl (WL.bin rfl rfl rfl rfl rfl (WL.pick (v := .bool (decide ((ks.length : Int) ≤ 16))) rfl rfl rfl rfl rfl rfl (WL.assign rfl rfl rfl (WL.nil (N.seq ?_))))))
 refine Fin.ret1 rfl (v := .bool (decide ((ks.length : Int) ≤ 16))) rfl ?_
 refine ⟨?_, hS.below⟩
 congr 1
 rw [Bool.eq_iff_iff, fewB_iff]
 first | (simp; omega) | (simp only [decide_eq_true_eq]; omega)

end Go.Proofs.YtapjejjmhmdmdaaDoor
