/-
  Contracts of layer 12 (fold). No condition beyond those that each theorem states.
-/
import Derived.Test.YtokkiaokpfediaaT5
namespace Go.Proofs.Ytokkiaokpfediaa
open Go.RowKit

theorem valsF_pre : ∀ (r : List DInst) (l : List (Int × Bool)) (i : Nat), i < l.length → (valsF l r)[i]? = l[i]?
  | [], _, _, _ => rfl
  | x :: r, l, i, h => by
    rw [valsF, valsF_pre r _ i (by simp; omega), List.getElem?_append_left h]

theorem valsF_drop {l : List (Int × Bool)} {k : Int × Bool} {r : List DInst} : (valsF (l ++ [k]) r).drop l.length = k :: (valsF (l ++ [k]) r).drop (l ++ [k]).length := by
  have hlt : l.length < (valsF (l ++ [k]) r).length := by rw [valsF_length]; simp; omega
  rw [List.drop_eq_getElem_cons hlt]
  congr 1
  · have h1 := valsF_pre r (l ++ [k]) l.length (by simp)
    rw [List.getElem?_eq_getElem hlt, List.getElem?_append_right (Nat.le_refl _)] at h1
    simpa using h1
  · simp

theorem fnames_fold (m : DMod) : fnames (foldMod m) = fnames m := by simp [fnames, foldMod, foldFunc, Function.comp_def]
theorem gnames_fold (m : DMod) : gnames (foldMod m) = gnames m := rfl
theorem names5_fold (m : DMod) : names5 (foldMod m) = names5 m := by rw [names5, names5, fnames_fold, gnames_fold]
theorem inst5_c (k n : Int) : inst5 (cInst k) n = true := by
  unfold inst5
  rw [if_neg (by simp [cInst, uses5, below5]), if_neg (by simp [cInst]), if_neg (by simp [named5, cInst])]
  simp [cInst]
theorem allFrom_fold : ∀ (ins : List DInst) (ks : List (Int × Bool)) (p : Int), allFrom p ins = true → allFrom p (foldIns ins ks) = true
  | [], _, _, _ => by simp [foldIns, allFrom]
  | _ :: _, [], _, _ => by simp [foldIns, allFrom]
  | x :: r, k :: ks, p, h => by
    simp only [allFrom, Bool.and_eq_true] at h
    have h2 := allFrom_fold r ks (p + 1) h.2
    simp only [foldIns, List.zipWith_cons_cons, allFrom, Bool.and_eq_true] at h2 ⊢
    refine ⟨?_, h2⟩
    split
    · exact inst5_c _ _
    · exact h.1
theorem goes5_fold (f : DFunc) (to : Int) (args : List Int) (n : Int) : goes5 (foldFunc f) to args n = goes5 f to args n := by
  unfold goes5
  split
  · rfl
  · rw [show (foldFunc f).blocks = f.blocks.map foldBlock from rfl, List.getElem?_map]
    cases f.blocks[to.toNat]? <;> rfl
theorem term5_fold {f : DFunc} {t : DTerm} {n : Int} (ks : List (Int × Bool)) (h : term5 f t n = true) : term5 (foldFunc f) (foldTerm ks t) n = true := by
  unfold foldTerm
  split
  · rename_i hc
    unfold term5 at h
    rw [if_neg (by omega), if_pos hc.1] at h
    simp only [Bool.and_eq_true] at h
    split
    · unfold term5; rw [if_pos rfl, goes5_fold]; simp only [Bool.and_eq_true]; exact ⟨⟨⟨h.2, by simp⟩, by simp⟩, by simp⟩
    · unfold term5; rw [if_pos rfl, goes5_fold]; simp only [Bool.and_eq_true]; exact ⟨⟨⟨h.1.2, by simp⟩, by simp⟩, by simp⟩
  · unfold term5 at h ⊢
    rw [goes5_fold, goes5_fold]
    exact h
theorem block5_fold {f : DFunc} {b : DBlock} (h : block5 f b = true) : block5 (foldFunc f) (foldBlock b) = true := by
  have h0 := block5_all h
  unfold block5 at h ⊢
  have hl : (foldBlock b).ins.length = b.ins.length := foldIns_length b
  have hp : (foldBlock b).params = b.params := rfl
  rw [if_neg (by omega)] at h
  rw [hl, hp, if_neg (by omega)]
  split at h
  · cases h
  rename_i ha
  have ha' : allFrom b.params b.ins = true := by simpa using ha
  rw [if_neg (by rw [show (foldBlock b).ins = foldIns b.ins ((vals b).drop b.params.toNat) from rfl, allFrom_fold _ _ _ ha']; simp)]
  exact term5_fold (vals b) h
theorem func5_fold {f : DFunc} (h : func5 f = true) : func5 (foldFunc f) = true := by
  have h0 := func5_all h
  unfold func5 at h ⊢
  have hl : (foldFunc f).blocks.length = f.blocks.length := by simp [foldFunc]
  split at h
  · cases h
  rename_i h1
  rw [if_neg (by rw [hl]; exact h1)]
  cases e : f.blocks with
  | nil =>
    rw [e] at h
    rw [show (foldFunc f).blocks = [] by simp [foldFunc, e]]
    exact h
  | cons b r =>
    rw [e] at h
    rw [show (foldFunc f).blocks = foldBlock b :: r.map foldBlock by simp [foldFunc, e]]
    simp only [Bool.and_eq_true, List.all_eq_true] at h ⊢
    refine ⟨h.1, fun c hc => ?_⟩
    rw [← List.map_cons, List.mem_map] at hc
    obtain ⟨d, hd, rfl⟩ := hc
    exact block5_fold (h.2 d hd)
theorem insts_fold {m : DMod} {y : DInst} (h : y ∈ insts5 (foldMod m)) : y ∈ insts5 m ∨ ∃ k, y = cInst k := by
  obtain ⟨f, hf, hy⟩ := List.mem_flatMap.1 h
  obtain ⟨g, hg, rfl⟩ := List.mem_map.1 hf
  obtain ⟨b, hb, hy⟩ := List.mem_flatMap.1 hy
  obtain ⟨c, hc, rfl⟩ := List.mem_map.1 hb
  obtain ⟨i, hi⟩ := List.getElem?_of_mem hy
  rw [show (foldBlock c).ins = foldIns c.ins ((vals c).drop c.params.toNat) from rfl, foldIns, List.getElem?_zipWith] at hi
  split at hi
  · rename_i x k hx hk
    split at hi
    · exact .inr ⟨_, (Option.some.inj hi).symm⟩
    · exact .inl (mem_insts hg hc (by rw [← Option.some.inj hi]; exact List.mem_of_getElem? hx))
  · cases hi
theorem check5_of {m : DMod} (h1 : m.funcs.length ≤ 16) (h2 : m.globs.length ≤ 16) (h3 : ∀ f ∈ m.funcs, func5 f = true) (h4 : ∀ g ∈ m.globs, glob5 g = true) (h5 : (names5 m).Nodup) (h6 : ∀ x ∈ insts5 m, bad5 m x = false) (h7 : ∀ x ∈ insts5 m, odd5 m x = false) : check5 m = 0 := by
  unfold check5
  rw [if_neg (by omega), if_neg (by rw [List.all_eq_true.2 h3, List.all_eq_true.2 h4]; simp), if_neg (fun h => h h5), if_neg, if_neg]
  · rw [List.any_eq_true]; rintro ⟨x, hx, e⟩; rw [h7 x hx] at e; cases e
  · rw [List.any_eq_true]; rintro ⟨x, hx, e⟩; rw [h6 x hx] at e; cases e
/-- A module that is right stays so. -/
theorem check5_fold {m : DMod} (h : check5 m = 0) : check5 (foldMod m) = 0 := by
  obtain ⟨h1, h2, h3, h4, h5, h6, h7⟩ := check5_all h
  refine check5_of (by simpa [foldMod] using h1) h2 (fun f hf => ?_) h4 (by rw [names5_fold]; exact h5) (fun x hx => ?_) (fun x hx => ?_)
  · obtain ⟨g, hg, rfl⟩ := List.mem_map.1 hf
    exact func5_fold (h3 g hg)
  · have e : bad5 (foldMod m) x = bad5 m x := by unfold bad5; rw [fnames_fold, gnames_fold]
    rw [e]
    rcases insts_fold hx with hx | ⟨k, rfl⟩
    · exact h6 x hx
    · simp [bad5, cInst]
  · rcases insts_fold hx with hx | ⟨k, rfl⟩
    · have h8 := h7 x hx
      unfold odd5 at h8 ⊢
      rw [fnames_fold, show (foldMod m).funcs = m.funcs.map foldFunc from rfl, List.getElem?_map]
      cases e : m.funcs[(find5 (fnames m) x.name).toNat]? with
      | none => simp
      | some f => rw [e] at h8; simpa [foldFunc] using h8
    · simp [odd5, cInst]
theorem refs_fold {m : DMod} {s : ByteArray} (h : s ∈ (foldMod m).funcs.flatMap refs5) : s ∈ m.funcs.flatMap refs5 := by
  obtain ⟨f, hf, hs⟩ := List.mem_flatMap.1 h
  obtain ⟨g, hg, rfl⟩ := List.mem_map.1 hf
  refine List.mem_flatMap.2 ⟨g, hg, ?_⟩
  obtain ⟨x, hx, rfl⟩ := List.mem_map.1 hs
  obtain ⟨hx1, hx2⟩ := List.mem_filter.1 hx
  obtain ⟨b, hb, hy⟩ := List.mem_flatMap.1 hx1
  obtain ⟨c, hc, rfl⟩ := List.mem_map.1 hb
  obtain ⟨i, hi⟩ := List.getElem?_of_mem hy
  rw [show (foldBlock c).ins = foldIns c.ins ((vals c).drop c.params.toNat) from rfl, foldIns, List.getElem?_zipWith] at hi
  split at hi
  · rename_i z k hz hk
    split at hi
    · rw [← Option.some.inj hi] at hx2; simp [named5, cInst] at hx2
    · rw [← Option.some.inj hi] at hx2 ⊢
      exact List.mem_map.2 ⟨z, List.mem_filter.2 ⟨List.mem_flatMap.2 ⟨c, hc, List.mem_of_getElem? hz⟩, hx2⟩, rfl⟩
  · cases hi
theorem open7_fold (m : DMod) (s : ByteArray) : open7 (foldMod m) s = open7 m s := by
  unfold open7
  rw [fnames_fold, gnames_fold, show (foldMod m).funcs = m.funcs.map foldFunc from rfl, List.getElem?_map]
  split
  · cases m.funcs[(find5 (fnames m) s).toNat]? with
    | none => rfl
    | some f => simp [foldFunc]
  · rfl
/-- A module that is whole stays so. -/
theorem whole7_fold {m : DMod} (h : whole7 m = 0) : whole7 (foldMod m) = 0 := by
  have hc : check5 m = 0 := by
    apply Classical.byContradiction
    intro hn
    rw [whole7, if_pos hn] at h
    exact hn h
  have hc2 := check5_fold hc
  rw [whole7, if_neg (by omega)] at h
  rw [whole7, if_neg (by omega), fnames_fold]
  split at h
  · omega
  rename_i hm
  rw [if_neg hm, show (foldMod m).funcs = m.funcs.map foldFunc from rfl, List.getElem?_map]
  cases e : m.funcs[(find5 (fnames m) mainB).toNat]? with
  | none => rw [e] at h; simp at h
  | some f =>
    rw [e] at h
    simp only [Option.map_some] at h ⊢
    split at h
    · omega
    rename_i hf
    rw [if_neg (by simpa [foldFunc] using hf)]
    split at h
    · omega
    rename_i ho
    rw [if_neg]
    rw [List.any_eq_true]
    rintro ⟨s, hs, hos⟩
    rw [open7_fold] at hos
    exact ho (List.any_eq_true.2 ⟨s, refs_fold hs, hos⟩)
theorem okF_of {m : DMod} (h : check5 m = 0) : ∀ f ∈ m.funcs, okF f := fun f hf => by
  obtain ⟨_, _, h3, _⟩ := check5_all h
  obtain ⟨h1, h2⟩ := func5_all (h3 f hf)
  refine ⟨fun b hb => ?_, by omega⟩
  have := block5_all (h2 b hb)
  exact ⟨by omega, by omega⟩
theorem okBlock_fold {b : DBlock} (h : okBlock b) : okBlock (foldBlock b) := by
  obtain ⟨h1, h2, h3, h4⟩ := h
  refine ⟨fun y hy => ?_, by rw [show (foldBlock b).ins.length = b.ins.length from foldIns_length b]; exact h2, ?_⟩
  · obtain ⟨i, hi⟩ := List.getElem?_of_mem hy
    rw [show (foldBlock b).ins = foldIns b.ins ((vals b).drop b.params.toNat) from rfl, foldIns, List.getElem?_zipWith] at hi
    split at hi
    · rename_i z k hz hk
      split at hi
      · rw [← Option.some.inj hi]; simp [okInst, cInst]
      · rw [← Option.some.inj hi]; exact h1 z (List.mem_of_getElem? hz)
    · cases hi
  · show okTerm (foldTerm (vals b) b.fin)
    unfold foldTerm
    split
    · split
      · exact ⟨h4, by simp⟩
      · exact ⟨h3, by simp⟩
    · exact ⟨h3, h4⟩
theorem okMod_fold {m : DMod} (h : okMod m) : okMod (foldMod m) := by
  obtain ⟨h1, h2, h3⟩ := h
  refine ⟨fun f hf => ?_, by simpa [foldMod] using h2, h3⟩
  obtain ⟨g, hg, rfl⟩ := List.mem_map.1 hf
  obtain ⟨h4, h5⟩ := h1 g hg
  refine ⟨fun b hb => ?_, by simpa [foldFunc] using h5⟩
  obtain ⟨c, hc, rfl⟩ := List.mem_map.1 hb
  exact okBlock_fold (h4 c hc)

end Go.Proofs.Ytokkiaokpfediaa
