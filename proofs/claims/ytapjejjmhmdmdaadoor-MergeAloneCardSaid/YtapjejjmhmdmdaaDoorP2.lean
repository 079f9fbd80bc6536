/-
  The new names of what is local: plain facts. No condition beyond those that each theorem states.
-/
import Derived.Test.YtapjejjmhmdmdaaDoorP1
namespace Go.Proofs.YtapjejjmhmdmdaaDoor
open Go.RowKit

abbrev Ren := ByteArray → Option ByteArray
def its10 (m : DMod) : List (ByteArray × Int) := m.funcs.map (fun f => (f.name, f.bind)) ++ m.globs.map (fun g => (g.name, g.bind))
def give10 (t : List ByteArray) (s : Ren × Nat) (x : ByteArray × Int) : Ren × Nat :=
  if x.2 = 1 ∧ (s.1 x.1).isSome = false then (updG s.1 x.1 (dot10 (loc10 t s.2)), loc10 t s.2 + 1) else s
def mod10 (t : List ByteArray) (n : Nat) (l : List (ByteArray × Int)) : Ren × Nat := l.foldl (give10 t) (fun _ => none, n)
def namStep (t : List ByteArray) (s : List Ren × Nat) (m : DMod) : List Ren × Nat := (s.1 ++ [(mod10 t s.2 (its10 m)).1], (mod10 t s.2 (its10 m)).2)
def nam10 (t : List ByteArray) (ms : List DMod) : List Ren × Nat := ms.foldl (namStep t) ([], 0)
theorem its_f {m : DMod} {k : Nat} {f : DFunc} (h : m.funcs[k]? = some f) : (its10 m)[k]? = some (f.name, f.bind) := by
  have hk := (List.getElem?_eq_some_iff.1 h).1
  unfold its10
  rw [List.getElem?_append_left (by simpa using hk), List.getElem?_map, h]; rfl
theorem its_g {m : DMod} {k : Nat} {f : DGlob} (h : m.globs[k]? = some f) : (its10 m)[m.funcs.length + k]? = some (f.name, f.bind) := by
  unfold its10
  rw [List.getElem?_append_right (by simp), List.getElem?_map, List.length_map, Nat.add_sub_cancel_left, h]; rfl
theorem its_len (m : DMod) : (its10 m).length = m.funcs.length + m.globs.length := by simp [its10]
theorem mod10_next {t : List ByteArray} {n : Nat} {l : List (ByteArray × Int)} {k : Nat} {x : ByteArray × Int} (h : l[k]? = some x) : mod10 t n (l.take (k + 1)) = give10 t (mod10 t n (l.take k)) x := by
  unfold mod10
  rw [take_next h, List.foldl_append]; rfl
theorem nam10_next {t : List ByteArray} {ms : List DMod} {i : Nat} {m : DMod} (h : ms[i]? = some m) : nam10 t (ms.take (i + 1)) = namStep t (nam10 t (ms.take i)) m := by
  unfold nam10
  rw [take_next h, List.foldl_append]; rfl
theorem give10_yes {t : List ByteArray} {s : Ren × Nat} {x : ByteArray × Int} (h1 : x.2 = 1) (h2 : (s.1 x.1).isSome = false) : give10 t s x = (updG s.1 x.1 (dot10 (loc10 t s.2)), loc10 t s.2 + 1) := by
  unfold give10; rw [if_pos ⟨h1, h2⟩]
theorem give10_no1 {t : List ByteArray} {s : Ren × Nat} {x : ByteArray × Int} (h1 : ¬ x.2 = 1) : give10 t s x = s := by unfold give10; rw [if_neg fun h => h1 h.1]
theorem give10_no2 {t : List ByteArray} {s : Ren × Nat} {x : ByteArray × Int} (h2 : (s.1 x.1).isSome = true) : give10 t s x = s := by unfold give10; rw [if_neg fun h => by rw [h2] at h; cases h.2]
theorem loc10_bounds (t : List ByteArray) (n : Nat) : n ≤ loc10 t n ∧ loc10 t n ≤ n + t.length := locF_bounds t t.length n
theorem give10_num {t : List ByteArray} (ht : t.length ≤ 1048576) (s : Ren × Nat) (x : ByteArray × Int) : s.2 ≤ (give10 t s x).2 ∧ (give10 t s x).2 ≤ s.2 + 1048577 := by
  have := loc10_bounds t s.2
  unfold give10; split
  · simp only; omega
  · omega
theorem fold10_num {t : List ByteArray} (ht : t.length ≤ 1048576) : ∀ (l : List (ByteArray × Int)) (s : Ren × Nat), s.2 ≤ (l.foldl (give10 t) s).2 ∧ (l.foldl (give10 t) s).2 ≤ s.2 + l.length * 1048577
  | [], s => by simp
  | x :: l, s => by
    have h1 := fold10_num ht l (give10 t s x)
    have h2 := give10_num ht s x
    rw [List.foldl_cons, List.length_cons]; omega
theorem mod10_num {t : List ByteArray} (ht : t.length ≤ 1048576) (n : Nat) (l : List (ByteArray × Int)) : n ≤ (mod10 t n l).2 ∧ (mod10 t n l).2 ≤ n + l.length * 1048577 := fold10_num ht l (fun _ => none, n)
theorem nam10_num {t : List ByteArray} (ht : t.length ≤ 1048576) (ms : List DMod) (hl : ∀ m ∈ ms, (its10 m).length ≤ 32) : (nam10 t ms).2 ≤ ms.length * 33554464 ∧ (nam10 t ms).1.length = ms.length := by
  induction ms using snoc_ind with
  | h0 => simp [nam10]
  | h1 l x ih =>
    have ih := ih fun m hm => hl m (List.mem_append_left _ hm)
    have e : nam10 t (l ++ [x]) = namStep t (nam10 t l) x := by unfold nam10; rw [List.foldl_append]; rfl
    have h1 := mod10_num ht (nam10 t l).2 (its10 x)
    have h2 := hl x (by simp)
    rw [e]; unfold namStep
    simp only [List.length_append, List.length_cons, List.length_nil]
    omega
/-- What is given is new: what stands in a map is a name that was given behind n, and is no name that is taken. -/
theorem fold10_keys {t : List ByteArray} (n : Nat) : ∀ (l : List (ByteArray × Int)), ∀ s v, (mod10 t n l).1 s = some v → (s, (1 : Int)) ∈ l ∧ ∃ k, v = dot10 k ∧ n ≤ k ∧ k < (mod10 t n l).2 ∧ dot10 k ∉ t := by
  intro l
  have hn : n ≤ (mod10 t n l).2 := by
    induction l using snoc_ind with
    | h0 => exact Nat.le_refl _
    | h1 l x ih =>
      have e : mod10 t n (l ++ [x]) = give10 t (mod10 t n l) x := by unfold mod10; rw [List.foldl_append]; rfl
      have h := loc10_bounds t (mod10 t n l).2
      rw [e]; unfold give10; split
      · simp only; omega
      · exact ih
  clear hn
  induction l using snoc_ind with
  | h0 => intro s v h; simp [mod10] at h
  | h1 l x ih =>
    have e : mod10 t n (l ++ [x]) = give10 t (mod10 t n l) x := by unfold mod10; rw [List.foldl_append]; rfl
    have hb := loc10_bounds t (mod10 t n l).2
    have hn : n ≤ (mod10 t n l).2 := by
      clear ih e hb
      induction l using snoc_ind with
      | h0 => exact Nat.le_refl _
      | h1 l x ih =>
        have e : mod10 t n (l ++ [x]) = give10 t (mod10 t n l) x := by unfold mod10; rw [List.foldl_append]; rfl
        have h := loc10_bounds t (mod10 t n l).2
        rw [e]; unfold give10; split
        · simp only; omega
        · exact ih
    intro s v h
    rw [e] at h ⊢
    unfold give10 at h ⊢
    split at h
    · rename_i hc
      rw [if_pos hc]
      simp only [updG] at h
      split at h
      · rename_i he
        cases h
        refine ⟨by rw [he]; simp [← hc.1], _, rfl, by omega, by simp only; omega, loc10_not t _⟩
      · obtain ⟨h1, k, h2, h3, h4, h5⟩ := ih s v h
        exact ⟨List.mem_append_left _ h1, k, h2, h3, by simp only; omega, h5⟩
    · rename_i hc
      rw [if_neg hc]
      obtain ⟨h1, k, h2, h3, h4, h5⟩ := ih s v h
      exact ⟨List.mem_append_left _ h1, k, h2, h3, h4, h5⟩
theorem fold10_stays {t : List ByteArray} : ∀ (l : List (ByteArray × Int)) (s : Ren × Nat) {a v : ByteArray}, s.1 a = some v → (l.foldl (give10 t) s).1 a = some v
  | [], s, a, v, h => h
  | x :: l, s, a, v, h => by
    rw [List.foldl_cons]
    refine fold10_stays l _ ?_
    unfold give10; split
    · rename_i hc
      simp only [updG]; rw [if_neg (fun e => by rw [← e, h] at hc; cases hc.2)]; exact h
    · exact h
/-- The names of a module stand once. -/
def Once10 (l : List (ByteArray × Int)) : Prop := (l.map (·.1)).Nodup
theorem once_at {l : List (ByteArray × Int)} (h : Once10 l) {j k : Nat} {x y : ByteArray × Int} (hx : l[j]? = some x) (hy : l[k]? = some y) (e : x.1 = y.1) : j = k := by
  have h1 : (l.map (·.1))[j]? = some x.1 := by rw [List.getElem?_map, hx]; rfl
  have h2 : (l.map (·.1))[k]? = some x.1 := by rw [List.getElem?_map, hy, e]; rfl
  exact (List.getElem?_inj (List.getElem?_eq_some_iff.1 h1).1 h).1 (h1.trans h2.symm)
/-- A local name has the number that was due at its place. -/
theorem mod10_at {t : List ByteArray} {n : Nat} {l : List (ByteArray × Int)} (h : Once10 l) {k : Nat} {x : ByteArray × Int} (hx : l[k]? = some x) (hb : x.2 = 1) :
    (mod10 t n l).1 x.1 = some (dot10 (loc10 t (mod10 t n (l.take k)).2)) ∧ (mod10 t n (l.take (k + 1))).2 = loc10 t (mod10 t n (l.take k)).2 + 1 := by
  have hno : ((mod10 t n (l.take k)).1 x.1).isSome = false := by
    cases e : (mod10 t n (l.take k)).1 x.1 with
    | none => rfl
    | some v =>
      obtain ⟨h1, _⟩ := fold10_keys n _ _ _ e
      obtain ⟨j, hj⟩ := List.mem_iff_getElem?.1 h1
      have hjk : j < k := by have := (List.getElem?_eq_some_iff.1 hj).1; rw [List.length_take] at this; omega
      rw [List.getElem?_take, if_pos hjk] at hj
      exact absurd (once_at h hj hx rfl) (by omega)
  have hs := mod10_next (t := t) (n := n) hx
  rw [give10_yes hb hno] at hs
  refine ⟨?_, by rw [hs]⟩
  have e : mod10 t n l = (l.drop (k + 1)).foldl (give10 t) (mod10 t n (l.take (k + 1))) := by
    unfold mod10; rw [← List.foldl_append, List.take_append_drop]
  rw [e]
  refine fold10_stays _ _ ?_
  rw [hs]; simp [updG]
/-- What is not local has none. -/
theorem mod10_none {t : List ByteArray} {n : Nat} {l : List (ByteArray × Int)} (h : Once10 l) {k : Nat} {x : ByteArray × Int} (hx : l[k]? = some x) (hb : ¬ x.2 = 1) : (mod10 t n l).1 x.1 = none := by
  cases e : (mod10 t n l).1 x.1 with
  | none => rfl
  | some v =>
    obtain ⟨h1, _⟩ := fold10_keys n _ _ _ e
    obtain ⟨j, hj⟩ := List.mem_iff_getElem?.1 h1
    have := once_at h hj hx rfl
    subst this
    rw [hx] at hj
    exact absurd (by rw [Option.some.inj hj]) hb
/-- The i-th map, and the number that is due behind it. -/
theorem nam10_at {t : List ByteArray} {ms : List DMod} {i : Nat} {m : DMod} (h : ms[i]? = some m) : (nam10 t ms).1[i]? = some (mod10 t (nam10 t (ms.take i)).2 (its10 m)).1 := by
  have hi := (List.getElem?_eq_some_iff.1 h).1
  have key : ∀ (l : List DMod) (s : List Ren × Nat), ∃ r, (l.foldl (namStep t) s).1 = s.1 ++ r := by
    intro l
    induction l with
    | nil => intro s; exact ⟨[], by simp⟩
    | cons x l ih =>
      intro s
      obtain ⟨r, hr⟩ := ih (namStep t s x)
      refine ⟨[(mod10 t s.2 (its10 x)).1] ++ r, ?_⟩
      rw [List.foldl_cons, hr]; simp [namStep]
  have hl : ∀ (l : List DMod), (nam10 t l).1.length = l.length := by
    intro l
    induction l using snoc_ind with
    | h0 => rfl
    | h1 l x ih =>
      have e : nam10 t (l ++ [x]) = namStep t (nam10 t l) x := by unfold nam10; rw [List.foldl_append]; rfl
      rw [e]; simp [namStep, ih]
  have e : nam10 t ms = (ms.drop (i + 1)).foldl (namStep t) (nam10 t (ms.take (i + 1))) := by
    unfold nam10; rw [← List.foldl_append, List.take_append_drop]
  obtain ⟨r, hr⟩ := key (ms.drop (i + 1)) (nam10 t (ms.take (i + 1)))
  rw [e, hr, nam10_next h]
  have h2 := hl (ms.take i)
  rw [List.length_take, Nat.min_eq_left (by omega)] at h2
  simp only [namStep]
  rw [List.getElem?_append_left (by simp; omega), List.getElem?_append_right (by omega), h2, Nat.sub_self]; rfl
end Go.Proofs.YtapjejjmhmdmdaaDoor
