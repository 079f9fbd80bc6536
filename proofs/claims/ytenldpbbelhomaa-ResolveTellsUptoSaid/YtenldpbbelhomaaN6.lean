/-
  What modules that stand the other way round come to: plain facts. No condition beyond those that each theorem states.
-/
import Derived.Test.YtenldpbbelhomaaN5
import Derived.Test.YtenldpbbelhomaaN3
namespace Go.Proofs.Ytenldpbbelhomaa
open Go.RowKit

theorem any_grp {X : List DItem} {p : List DItem → Bool} : (grp9 X).any p = true ↔ ∃ s ∈ nms9 X, p (X.filter fun x => decide (x.name = s)) = true := by
  rw [List.any_eq_true]
  unfold grp9
  constructor
  · rintro ⟨g, hg, h⟩
    obtain ⟨s, hs, rfl⟩ := List.mem_map.1 hg
    exact ⟨s, hs, h⟩
  · rintro ⟨s, hs, h⟩
    exact ⟨_, List.mem_map.2 ⟨s, hs, rfl⟩, h⟩
theorem filter_mem_ne {X : List DItem} {s : ByteArray} (h : s ∈ nms9 X) : 0 < (X.filter fun x => decide (x.name = s)).length := by
  obtain ⟨x, hx, e⟩ := (mem_nms9 _ _).1 h
  exact List.length_pos_of_mem (List.mem_filter.2 ⟨hx, by simp [e]⟩)
theorem odd9_iff {x y : DItem} : odd9 x y = true ↔ ¬ (y.fn = x.fn ∧ y.params = x.params) := by
  unfold odd9
  by_cases h1 : y.fn = x.fn <;> by_cases h2 : y.params = x.params <;> simp [h1, h2]
theorem oddG_iff {g : List DItem} : oddG g = true ↔ ∃ x ∈ g, ∃ y ∈ g, ¬ (y.fn = x.fn ∧ y.params = x.params) := by
  unfold oddG
  rw [List.any_eq_true]
  constructor
  · rintro ⟨y, hy, h⟩
    exact ⟨_, getD_mem item0 (List.length_pos_of_mem hy), y, hy, odd9_iff.1 h⟩
  · rintro ⟨x, hx, y, hy, h⟩
    by_cases hx2 : odd9 (g.getD 0 item0) x = true
    · exact ⟨x, hx, hx2⟩
    · refine ⟨y, hy, odd9_iff.2 fun hy2 => ?_⟩
      have hx3 : x.fn = (g.getD 0 item0).fn ∧ x.params = (g.getD 0 item0).params := Classical.byContradiction fun hn => hx2 (odd9_iff.2 hn)
      exact h ⟨hy2.1.trans hx3.1.symm, hy2.2.trans hx3.2.symm⟩
theorem entry9_eq (X : List DItem) : entry9 (grp9 X) = (decide (mainB ∈ nms9 X) && okMain (X.filter fun x => decide (x.name = mainB))) := by
  have hmain : ∀ s, s ∈ nms9 X → isMain (X.filter fun x => decide (x.name = s)) = decide (s = mainB) := fun s hs => by
    have := (List.mem_filter.1 (getD_mem item0 (filter_mem_ne hs))).2
    unfold isMain
    rw [of_decide_eq_true this]
  by_cases hm : mainB ∈ nms9 X
  · obtain ⟨i, hi1, hi2⟩ := pos9_some hm
    unfold entry9
    have : (grp9 X).find? isMain = some (X.filter fun x => decide (x.name = mainB)) := by
      cases hf : (grp9 X).find? isMain with
      | none =>
        rw [List.find?_eq_none] at hf
        have h1 := hf _ (by unfold grp9; exact List.mem_map.2 ⟨mainB, hm, rfl⟩)
        rw [hmain _ hm] at h1
        simp at h1
      | some g =>
        have h1 := List.find?_some hf
        have h2 := List.mem_of_find?_eq_some hf
        unfold grp9 at h2
        obtain ⟨s, hs, rfl⟩ := List.mem_map.1 h2
        rw [hmain s hs] at h1
        rw [of_decide_eq_true h1]
    rw [this]
    simp [hm]
  · unfold entry9
    have : (grp9 X).find? isMain = none := by
      rw [List.find?_eq_none]
      intro g hg
      unfold grp9 at hg
      obtain ⟨s, hs, rfl⟩ := List.mem_map.1 hg
      rw [hmain s hs]
      simp
      intro e; subst e; exact hm hs
    rw [this]
    simp [hm]
section
variable {X X' : List DItem} {t : Int → Int}
theorem turn_filter (hp : X'.Perm (X.map (relab t))) (s : ByteArray) : (X'.filter fun x => decide (x.name = s)).Perm ((X.filter fun x => decide (x.name = s)).map (relab t)) := by
  have := hp.filter fun x => decide (x.name = s)
  rw [List.filter_map] at this
  exact this
theorem turn_nms (hp : X'.Perm (X.map (relab t))) (s : ByteArray) : s ∈ nms9 X' ↔ s ∈ nms9 X := by
  rw [mem_nms9, mem_nms9]
  constructor
  · rintro ⟨x, hx, e⟩
    obtain ⟨y, hy, rfl⟩ := List.mem_map.1 (hp.mem_iff.1 hx)
    exact ⟨y, hy, e⟩
  · rintro ⟨x, hx, e⟩
    exact ⟨relab t x, hp.mem_iff.2 (List.mem_map.2 ⟨x, hx, rfl⟩), e⟩
theorem turn_len (hp : X'.Perm (X.map (relab t))) : (nms9 X').length = (nms9 X).length :=
  ((List.perm_ext_iff_of_nodup (nodup_nms9 X') (nodup_nms9 X)).2 fun s => turn_nms hp s).length_eq
theorem turn_any (hp : X'.Perm (X.map (relab t))) {p : List DItem → Bool} (h : ∀ s, s ∈ nms9 X → p (X'.filter fun x => decide (x.name = s)) = p (X.filter fun x => decide (x.name = s))) : (grp9 X').any p = (grp9 X).any p := by
  rw [Bool.eq_iff_iff, any_grp, any_grp]
  constructor
  · rintro ⟨s, hs, e⟩
    have hs2 := (turn_nms hp s).1 hs
    exact ⟨s, hs2, by rw [← h s hs2]; exact e⟩
  · rintro ⟨s, hs, e⟩
    exact ⟨s, (turn_nms hp s).2 hs, by rw [h s hs]; exact e⟩
variable {g g' : List DItem}
theorem turn_q (hp : g'.Perm (g.map (relab t))) {q : DItem → Bool} (hq : ∀ x, q (relab t x) = q x) : g'.any q = g.any q := by
  rw [hp.any_eq, List.any_map]
  congr 1
  funext x
  exact hq x
theorem turn_odd (hp : g'.Perm (g.map (relab t))) : oddG g' = oddG g := by
  rw [Bool.eq_iff_iff, oddG_iff, oddG_iff]
  constructor
  · rintro ⟨x, hx, y, hy, h⟩
    obtain ⟨x0, hx0, rfl⟩ := List.mem_map.1 (hp.mem_iff.1 hx)
    obtain ⟨y0, hy0, rfl⟩ := List.mem_map.1 (hp.mem_iff.1 hy)
    exact ⟨x0, hx0, y0, hy0, h⟩
  · rintro ⟨x, hx, y, hy, h⟩
    exact ⟨_, hp.mem_iff.2 (List.mem_map.2 ⟨x, hx, rfl⟩), _, hp.mem_iff.2 (List.mem_map.2 ⟨y, hy, rfl⟩), h⟩
theorem turn_strong (hp : g'.Perm (g.map (relab t))) : (g'.filter sB9).Perm ((g.filter sB9).map (relab t)) := by
  have := hp.filter sB9
  rw [List.filter_map] at this
  exact this
theorem turn_many (hp : g'.Perm (g.map (relab t))) : many9 g' = many9 g := by
  unfold many9
  rw [(turn_strong hp).length_eq, List.length_map]
theorem turn_missing (hp : g'.Perm (g.map (relab t))) : missing9 g' = missing9 g := by
  unfold missing9
  rw [turn_q hp (q := hB9) (fun _ => rfl), turn_q hp (q := fun x => x.strong) (fun _ => rfl)]
theorem turn_head (hp : g'.Perm (g.map (relab t))) (h0 : 0 < g.length) (ho : oddG g = false) : (g'.getD 0 item0).fn = (g.getD 0 item0).fn ∧ (g'.getD 0 item0).params = (g.getD 0 item0).params := by
  have h0' : 0 < g'.length := by rw [hp.length_eq, List.length_map]; exact h0
  obtain ⟨x, hx, e⟩ := List.mem_map.1 (hp.mem_iff.1 (getD_mem item0 h0'))
  have := shape9 ho hx
  rw [← e]
  exact this
theorem turn_ok (hp : g'.Perm (g.map (relab t))) (h0 : 0 < g.length) (ho : oddG g = false) : okMain g' = okMain g := by
  obtain ⟨h1, h2⟩ := turn_head hp h0 ho
  unfold okMain
  have h3 : (def9 g').here = (def9 g).here := by
    show decide (0 ≤ ixI hB9 g') = decide (0 ≤ ixI hB9 g)
    rw [ixI_any, ixI_any, turn_q hp (q := hB9) (fun _ => rfl)]
  rw [h1, h2, h3]
theorem all9_turn (hp : X'.Perm (X.map (relab t))) : (all9 X').2 = (all9 X).2 := by
  have e1 : (grp9 X').any oddG = (grp9 X).any oddG := turn_any hp fun s _ => turn_odd (turn_filter hp s)
  have e2 : (grp9 X').any (fun g => decide (1 < many9 g)) = (grp9 X).any (fun g => decide (1 < many9 g)) := turn_any hp fun s _ => by rw [turn_many (turn_filter hp s)]
  have e3 : (grp9 X').any missing9 = (grp9 X).any missing9 := turn_any hp fun s _ => turn_missing (turn_filter hp s)
  unfold all9
  rw [e1, e2, e3]
  by_cases h1 : (grp9 X).any oddG = true
  · rw [if_pos h1, if_pos h1]
  · rw [if_neg h1, if_neg h1]
    have e4 : entry9 (grp9 X') = entry9 (grp9 X) := by
      rw [entry9_eq, entry9_eq]
      by_cases hm : mainB ∈ nms9 X
      · have ho : oddG (X.filter fun x => decide (x.name = mainB)) = false := by
          cases hq : oddG (X.filter fun x => decide (x.name = mainB)) with
          | false => rfl
          | true => exact absurd (any_grp.2 ⟨mainB, hm, hq⟩) h1
        rw [turn_ok (turn_filter hp mainB) (filter_mem_ne hm) ho]
        simp [hm, (turn_nms hp mainB).2 hm]
      · have : ¬ mainB ∈ nms9 X' := fun h => hm ((turn_nms hp mainB).1 h)
        simp [hm, this]
    rw [e4]
    repeat' split
    all_goals rfl
end
/-- Of each definition its items. -/
theorem all9_of {X : List DItem} (h : (all9 X).2 = 0) {d : DDef} (hd : d ∈ (all9 X).1) : d.name ∈ nms9 X ∧ d = def9 (X.filter fun x => decide (x.name = d.name)) := by
  rw [(all9_ok h).1] at hd
  obtain ⟨g, hg, rfl⟩ := List.mem_map.1 hd
  unfold grp9 at hg
  obtain ⟨s, hs, rfl⟩ := List.mem_map.1 hg
  have : (def9 (X.filter fun x => decide (x.name = s))).name = s := of_decide_eq_true (List.mem_filter.1 (getD_mem item0 (filter_mem_ne hs))).2
  rw [this]
  exact ⟨hs, rfl⟩
theorem all9_has {X : List DItem} (h : (all9 X).2 = 0) {s : ByteArray} (hs : s ∈ nms9 X) : def9 (X.filter fun x => decide (x.name = s)) ∈ (all9 X).1 ∧ (def9 (X.filter fun x => decide (x.name = s))).name = s := by
  rw [(all9_ok h).1]
  exact ⟨List.mem_map.2 ⟨_, by unfold grp9; exact List.mem_map.2 ⟨s, hs, rfl⟩, rfl⟩, of_decide_eq_true (List.mem_filter.1 (getD_mem item0 (filter_mem_ne hs))).2⟩
theorem def9_strong {g : List DItem} (h : (def9 g).weak = false) : ∃ x, x ∈ g ∧ sB9 x = true ∧ (def9 g).mod = x.mod := by
  have hs : ¬ ixI sB9 g < 0 := by
    have : decide (ixI sB9 g < 0) = false := h
    simpa using this
  rcases ixI_cases sB9 g with ⟨h1, _⟩ | ⟨i, x, h1, h2, h3, _⟩
  · omega
  · refine ⟨x, List.mem_of_getElem? h2, h3, ?_⟩
    have hh : ¬ ixI hB9 g < 0 := fun hn => by
      rcases ixI_cases hB9 g with ⟨_, hb⟩ | ⟨_, _, hb, _⟩
      · have := List.any_eq_false.1 hb x (List.mem_of_getElem? h2)
        simp [sB9] at h3
        simp [hB9, h3] at this
      · omega
    show (g.getD (di9 g) item0).mod = x.mod
    unfold di9
    rw [if_neg hh, if_neg hs, h1, Int.toNat_natCast, List.getD_eq_getElem?_getD, h2]
    rfl
theorem one_elem {α : Type} {l : List α} (h : l.length ≤ 1) {x y : α} (hx : x ∈ l) (hy : y ∈ l) : x = y := by
  match l, h with
  | [a], _ => simp at hx hy; rw [hx, hy]
  | [], _ => cases hx
theorem turned9 {ms : List DMod} {i k : Nat} {x y : DMod} (hi : ms[i]? = some x) (hk : ms[k]? = some y) (h : (all9 (items9 ms)).2 = 0) {d : DDef} (hd : d ∈ (all9 (items9 ms)).1) :
    ∃ (j : Nat) (d' : DDef), ixI (isName d.name) (all9 (items9 (turn9 ms i k x y))).1 = (j : Int) ∧ (all9 (items9 (turn9 ms i k x y))).1[j]? = some d' ∧ d.weak = d'.weak ∧ d.here = d'.here ∧ d.fn = d'.fn ∧ (d.weak = false → tau i k d'.mod = d.mod) := by
  have hp := items9_turn hi hk
  have h' : (all9 (items9 (turn9 ms i k x y))).2 = 0 := by rw [all9_turn hp]; exact h
  obtain ⟨hs, hde⟩ := all9_of h hd
  have hpf := turn_filter hp d.name
  have hs' := (turn_nms hp d.name).2 hs
  obtain ⟨hm, hn⟩ := all9_has h' hs'
  obtain ⟨_, ho, _, hmany, _⟩ := all9_ok h
  rcases ixI_cases (isName d.name) (all9 (items9 (turn9 ms i k x y))).1 with ⟨_, hb⟩ | ⟨j, d', h1, h2, h3, _⟩
  · have := List.any_eq_false.1 hb _ hm
    simp [isName, hn] at this
  · have hn' : d'.name = d.name := of_decide_eq_true h3
    obtain ⟨_, hde'⟩ := all9_of h' (List.mem_of_getElem? h2)
    rw [hn'] at hde'
    refine ⟨j, d', h1, h2, ?_⟩
    generalize hg : (items9 ms).filter (fun x => decide (x.name = d.name)) = g at *
    generalize hg' : (items9 (turn9 ms i k x y)).filter (fun x => decide (x.name = d.name)) = g' at *
    have h0 : 0 < g.length := by rw [← hg]; exact filter_mem_ne hs
    have hog : oddG g = false := by
      cases hq : oddG g with
      | false => rfl
      | true => rw [← hg] at hq; rw [any_grp.2 ⟨_, hs, hq⟩] at ho; cases ho
    have hmg : many9 g ≤ 1 := by
      apply Classical.byContradiction
      intro hc
      have : (grp9 (items9 ms)).any (fun g => decide (1 < many9 g)) = true := any_grp.2 ⟨_, hs, by rw [hg]; exact decide_eq_true (by omega)⟩
      rw [this] at hmany; cases hmany
    have ew : (def9 g').weak = (def9 g).weak := by
      show decide (ixI sB9 g' < 0) = decide (ixI sB9 g < 0)
      rw [ixI_neg, ixI_neg, turn_q hpf (q := sB9) (fun _ => rfl)]
    have eh : (def9 g').here = (def9 g).here := by
      show decide (0 ≤ ixI hB9 g') = decide (0 ≤ ixI hB9 g)
      rw [ixI_any, ixI_any, turn_q hpf (q := hB9) (fun _ => rfl)]
    have ef : (def9 g').fn = (def9 g).fn := (turn_head hpf h0 hog).1
    refine ⟨?_, ?_, ?_, fun hw => ?_⟩
    · rw [hde', ew, ← hde]
    · rw [hde', eh, ← hde]
    · rw [hde', ef, ← hde]
    · have hw1 : (def9 g).weak = false := by rw [← hde]; exact hw
      obtain ⟨a, ha, hsa, hma⟩ := def9_strong hw1
      obtain ⟨b, hb, hsb, hmb⟩ := def9_strong (g := g') (by rw [ew]; exact hw1)
      obtain ⟨c, hc, rfl⟩ := List.mem_map.1 (hpf.mem_iff.1 hb)
      have hac : a = c := one_elem (l := g.filter sB9) (by unfold many9 at hmg; omega) (List.mem_filter.2 ⟨ha, hsa⟩) (List.mem_filter.2 ⟨hc, hsb⟩)
      rw [hde', hmb, hde, hma, hac]
      exact tau_tau i k c.mod
theorem turned_len {X X' : List DItem} {t : Int → Int} (hp : X'.Perm (X.map (relab t))) : (all9 X).1.length = (all9 X').1.length := by
  by_cases h : (all9 X).2 = 0
  · rw [one9_len h, one9_len (by rw [all9_turn hp]; exact h), turn_len hp]
  · rw [all9_bad h, all9_bad (by rw [all9_turn hp]; exact h)]
end Go.Proofs.Ytenldpbbelhomaa
