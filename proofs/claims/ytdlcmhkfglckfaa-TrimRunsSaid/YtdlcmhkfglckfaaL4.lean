/-
  A trimmed module is right, or whole, where the module was. No condition beyond those that each theorem states.
-/
import Derived.Test.YtdlcmhkfglckfaaL3
import Derived.Test.YtdlcmhkfglckfaaW7
namespace Go.Proofs.Ytdlcmhkfglckfaa

theorem check5_of {m : DMod} (h1 : m.funcs.length ≤ 16) (h2 : m.globs.length ≤ 16) (h3 : ∀ f ∈ m.funcs, func5 f = true) (h4 : ∀ g ∈ m.globs, glob5 g = true) (h5 : (names5 m).Nodup) (h6 : ∀ x ∈ insts5 m, bad5 m x = false) (h7 : ∀ x ∈ insts5 m, odd5 m x = false) : check5 m = 0 := by
  unfold check5
  rw [if_neg (by omega), if_neg (by rw [List.all_eq_true.2 h3, List.all_eq_true.2 h4]; simp), if_neg (fun h => h h5), if_neg, if_neg]
  · rw [List.any_eq_true]; rintro ⟨x, hx, e⟩; rw [h7 x hx] at e; cases e
  · rw [List.any_eq_true]; rintro ⟨x, hx, e⟩; rw [h6 x hx] at e; cases e
theorem okFunc_of5 {f : DFunc} (h : func5 f = true) : okFunc f := by
  obtain ⟨hl, hb⟩ := func5_all h
  refine ⟨fun b hbm => ?_, by unfold reachBytes; omega⟩
  obtain ⟨p0, p1, hn⟩ := block5_all (hb b hbm)
  obtain ⟨hall, hterm⟩ := block5_more (hb b hbm)
  obtain ⟨t1, t2, _⟩ := term5_all hterm h
  refine ⟨fun x hx => ?_, by unfold reachBytes; omega, by unfold okTerm reachBytes; omega⟩
  obtain ⟨i, hi⟩ := List.mem_iff_getElem?.1 hx
  have := (inst5_all (allFrom_at b.ins b.params i x hall hi)).1
  unfold okInst reachBytes; omega
theorem fnames_13 (m : DMod) : fnames (mod13 m) = fnames m := by simp [fnames, mod13, func13, Function.comp_def]
theorem gnames_13 (m : DMod) : gnames (mod13 m) = gnames m := rfl
theorem names5_13 (m : DMod) : names5 (mod13 m) = names5 m := by rw [names5, names5, fnames_13, gnames_13]
theorem okMod_13 {m : DMod} (hok : okMod m) (h : ∀ f ∈ m.funcs, func5 f = true) : okMod (mod13 m) :=
  ⟨fun f hf => okFunc_of5 (func5_mod13 h f hf), by have := hok.2.1; simpa [mod13] using this, hok.2.2⟩
/-- Where an instruction of a trimmed function comes from. -/
theorem fins_13 {f : DFunc} {y : DInst} (h : y ∈ fins5 (func13 f)) : ∃ x ∈ fins5 f, y.op = x.op ∧ y.name = x.name ∧ y.args.length = x.args.length := by
  obtain ⟨c, hc, hy⟩ := List.mem_flatMap.1 h
  obtain ⟨j, hj⟩ := List.mem_iff_getElem?.1 hc
  obtain ⟨k, b, _, hb, _, rfl⟩ := func13_from hj
  obtain ⟨i, hi⟩ := List.mem_iff_getElem?.1 hy
  obtain ⟨i', x, g, hx, rfl⟩ := ins_src (b := b) hi
  exact ⟨x, List.mem_flatMap.2 ⟨b, List.mem_of_getElem? hb, List.mem_of_getElem? hx⟩, rfl, rfl, args_inst13 g x⟩
theorem insts_13 {m : DMod} {y : DInst} (h : y ∈ insts5 (mod13 m)) : ∃ x ∈ insts5 m, y.op = x.op ∧ y.name = x.name ∧ y.args.length = x.args.length := by
  obtain ⟨f, hf, hy⟩ := List.mem_flatMap.1 h
  obtain ⟨g, hg, rfl⟩ := List.mem_map.1 hf
  obtain ⟨x, hx, e⟩ := fins_13 hy
  exact ⟨x, List.mem_flatMap.2 ⟨g, hg, hx⟩, e⟩
/-- A module that is right stays so. -/
theorem check5_13 {m : DMod} (h : check5 m = 0) : check5 (mod13 m) = 0 := by
  obtain ⟨h1, h2, h3, h4, h5, h6, h7⟩ := check5_all h
  refine check5_of (by simpa [mod13] using h1) h2 (func5_mod13 h3) h4 (by rw [names5_13]; exact h5) (fun y hy => ?_) (fun y hy => ?_)
  · obtain ⟨x, hx, e1, e2, _⟩ := insts_13 hy
    have := h6 x hx
    unfold bad5 at this ⊢
    rw [fnames_13, gnames_13, e1, e2]; exact this
  · obtain ⟨x, hx, e1, e2, e3⟩ := insts_13 hy
    have := h7 x hx
    unfold odd5 at this ⊢
    rw [fnames_13, e1, e2, e3, show (mod13 m).funcs = m.funcs.map func13 from rfl, List.getElem?_map]
    cases e : m.funcs[(find5 (fnames m) x.name).toNat]? with
    | none => simp
    | some f => rw [e] at this; simpa [func13] using this
theorem blocks_13 {f : DFunc} (h : func5 f = true) : (func13 f).blocks.length ≤ f.blocks.length ∧ ((func13 f).blocks.length = 0 ↔ f.blocks.length = 0) := by
  have hle : (func13 f).blocks.length ≤ f.blocks.length := outs13_len _ _ _
  refine ⟨hle, fun e => ?_, fun e => by omega⟩
  apply Classical.byContradiction
  intro hne
  obtain ⟨b, hb⟩ : ∃ b, f.blocks[0]? = some b := ⟨_, List.getElem?_eq_getElem (by omega)⟩
  have := (List.getElem?_eq_some_iff.1 (func13_at ((reached13_iff (goes13_of5 h) 0).2 (.zero (by omega))) hb)).1
  omega
theorem blocks_mod13 {m : DMod} (h : ∀ f ∈ m.funcs, func5 f = true) : ∀ (k : Nat) (q x : DFunc), (mod13 m).funcs[k]? = some q → m.funcs[k]? = some x → q.blocks.length ≤ x.blocks.length ∧ (q.blocks.length = 0 ↔ x.blocks.length = 0) := fun k q x hq hx => by
  rw [show (mod13 m).funcs = m.funcs.map func13 from rfl, List.getElem?_map, hx] at hq
  cases hq
  exact blocks_13 (h x (List.mem_of_getElem? hx))
theorem refs_13 {m : DMod} {s : ByteArray} (h : s ∈ (mod13 m).funcs.flatMap refs5) : s ∈ m.funcs.flatMap refs5 := by
  obtain ⟨f, hf, hs⟩ := List.mem_flatMap.1 h
  obtain ⟨g, hg, rfl⟩ := List.mem_map.1 hf
  refine List.mem_flatMap.2 ⟨g, hg, ?_⟩
  obtain ⟨y, hy, rfl⟩ := List.mem_map.1 hs
  obtain ⟨hy1, hy2⟩ := List.mem_filter.1 hy
  obtain ⟨x, hx, e1, e2, _⟩ := fins_13 hy1
  exact List.mem_map.2 ⟨x, List.mem_filter.2 ⟨hx, by unfold named5 at hy2 ⊢; rw [← e1]; exact hy2⟩, e2.symm⟩
theorem open7_13 {m : DMod} (h : ∀ f ∈ m.funcs, func5 f = true) (s : ByteArray) : open7 (mod13 m) s = open7 m s := by
  unfold open7
  rw [fnames_13, gnames_13, show (mod13 m).funcs = m.funcs.map func13 from rfl, List.getElem?_map]
  split
  · cases e : m.funcs[(find5 (fnames m) s).toNat]? with
    | none => rfl
    | some f =>
      have := (blocks_13 (h f (List.mem_of_getElem? e))).2
      simp only [Option.map_some]
      rw [Bool.eq_iff_iff, decide_eq_true_eq, decide_eq_true_eq]; exact this
  · rfl
/-- A module that is whole stays so. -/
theorem whole7_13 {m : DMod} (h : whole7 m = 0) : whole7 (mod13 m) = 0 := by
  have hc : check5 m = 0 := by
    apply Classical.byContradiction
    intro hn
    rw [whole7, if_pos hn] at h
    exact hn h
  have h3 := (check5_all hc).2.2.1
  have hc2 := check5_13 hc
  rw [whole7, if_neg (by omega)] at h
  rw [whole7, if_neg (by omega), fnames_13]
  split at h
  · omega
  rename_i hm
  rw [if_neg hm, show (mod13 m).funcs = m.funcs.map func13 from rfl, List.getElem?_map]
  cases e : m.funcs[(find5 (fnames m) mainB).toNat]? with
  | none => rw [e] at h; simp at h
  | some f =>
    rw [e] at h
    have hb := (blocks_13 (h3 f (List.mem_of_getElem? e))).2
    simp only [Option.map_some] at h ⊢
    split at h
    · omega
    rename_i hf
    rw [if_neg (fun c => hf (c.imp hb.1 id))]
    split at h
    · omega
    rename_i ho
    rw [if_neg]
    rw [List.any_eq_true]
    rintro ⟨s, hs, hos⟩
    rw [open7_13 h3] at hos
    exact ho (List.any_eq_true.2 ⟨s, refs_13 hs, hos⟩)
end Go.Proofs.Ytdlcmhkfglckfaa
