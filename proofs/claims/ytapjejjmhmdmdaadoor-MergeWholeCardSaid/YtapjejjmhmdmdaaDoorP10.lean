/-
  What comes out is right, and whole: plain facts. No condition beyond those that each theorem states.
-/
import Derived.Test.YtapjejjmhmdmdaaDoorP9
import Derived.Test.YtapjejjmhmdmdaaDoorW7
namespace Go.Proofs.YtapjejjmhmdmdaaDoor
open Go.RowKit

theorem check5_of {m : DMod} (h1 : m.funcs.length ≤ 16) (h2 : m.globs.length ≤ 16) (h3 : ∀ f ∈ m.funcs, func5 f = true) (h4 : ∀ g ∈ m.globs, glob5 g = true) (h5 : (names5 m).Nodup) (h6 : ∀ x ∈ insts5 m, bad5 m x = false) (h7 : ∀ x ∈ insts5 m, odd5 m x = false) : check5 m = 0 := by
  unfold check5
  rw [if_neg (by omega), if_neg (by rw [List.all_eq_true.2 h3, List.all_eq_true.2 h4]; simp), if_neg (fun h => h h5), if_neg, if_neg]
  · rw [List.any_eq_true]; rintro ⟨x, hx, e⟩; rw [h7 x hx] at e; cases e
  · rw [List.any_eq_true]; rintro ⟨x, hx, e⟩; rw [h6 x hx] at e; cases e
theorem okFunc_of5 {f : DFunc} (h : func5 f = true) : okFunc f := by
  obtain ⟨hl, hb⟩ := func5_all h
  refine ⟨fun b hbm => ?_, by unfold reachBytes; omega⟩
  obtain ⟨p0, p1, hn⟩ := block5_all (hb b hbm)
  obtain ⟨hall, hterm⟩ := block5_more (hb b hbm)
  obtain ⟨t1, t2, _⟩ := term5_all hterm h
  refine ⟨fun x hx => ?_, by unfold reachBytes; omega, by unfold okTerm reachBytes; omega⟩
  obtain ⟨i, hi⟩ := List.mem_iff_getElem?.1 hx
  have := (inst5_all (allFrom_at b.ins b.params i x hall hi)).1
  unfold okInst reachBytes; omega
theorem G10_none {ms : List DMod} (hrt : ∀ m ∈ ms, check5 m = 0) {i : Nat} {m : DMod} (hi : ms[i]? = some m) {x : ByteArray × Int} (hx : x ∈ its10 m) (hb : ¬ x.2 = 1) : ren10 (G10 ms i m) x.1 = x.1 := by
  obtain ⟨k, hk⟩ := List.mem_iff_getElem?.1 hx
  unfold ren10
  rw [show G10 ms i m x.1 = none from mod10_none (its_once (hrt _ (List.mem_of_getElem? hi))) hk hb]; rfl
theorem G10_some {ms : List DMod} (hrt : ∀ m ∈ ms, check5 m = 0) {i : Nat} {m : DMod} (hi : ms[i]? = some m) {x : ByteArray × Int} (hx : x ∈ its10 m) (hb : x.2 = 1) : ∃ k, ren10 (G10 ms i m) x.1 = dot10 k ∧ dot10 k ∉ nm10 ms := by
  obtain ⟨k, hk⟩ := List.mem_iff_getElem?.1 hx
  unfold ren10
  obtain ⟨h1, _⟩ := mod10_at (t := nm10 ms) (n := (nam10 (nm10 ms) (ms.take i)).2) (its_once (hrt _ (List.mem_of_getElem? hi))) hk hb
  rw [show G10 ms i m x.1 = some _ from h1]
  exact ⟨_, rfl, loc10_not _ _⟩
theorem its_memF {m : DMod} {f : DFunc} (h : f ∈ m.funcs) : (f.name, f.bind) ∈ its10 m := List.mem_append_left _ (List.mem_map.2 ⟨f, h, rfl⟩)
theorem its_memG {m : DMod} {f : DGlob} (h : f ∈ m.globs) : (f.name, f.bind) ∈ its10 m := List.mem_append_right _ (List.mem_map.2 ⟨f, h, rfl⟩)
section
variable {ms : List DMod} {ks : List ByteArray} (hrt : ∀ m ∈ ms, check5 m = 0) (hok : (all9 (items9 ms)).2 = 0)
include hrt hok
/-- A shared name's function has the values that its items have. -/
theorem par_shared {f' : DFunc} (hf : f' ∈ (ot10 ms ks).fs) (hs : f'.name ∈ nm10 ms) : f'.params = par10 ms f'.name := by
  obtain ⟨i, m, f, hi, hm, ⟨hb, rfl⟩ | ⟨hb, rfl⟩⟩ := (srcs10 ms ks).f f' hf
  · obtain ⟨k, h1, h2⟩ := G10_some hrt hi (its_memF hm) hb
    exact absurd (by rw [← h1]; exact hs) h2
  · have h1 : ren10 (G10 ms i m) f.name = f.name := G10_none hrt hi (its_memF hm) hb
    show f.params = par10 ms (ren10 (G10 ms i m) f.name)
    rw [h1]; exact (kindF hok hi hm hb).2.2
/-- Each function that there was is there, under its new name. -/
theorem has_fun {i : Nat} {m : DMod} (hi : ms[i]? = some m) {f : DFunc} (hf : f ∈ m.funcs) : ∃ f' ∈ (ot10 ms ks).fs, f'.name = ren10 (G10 ms i m) f.name ∧ f'.params = f.params := by
  by_cases hb : f.bind = 1
  · obtain ⟨s, hle⟩ := at_fun (ds := ds10 ms) (ks := ks) hi (nam10_at (t := nm10 ms) hi) hf
    obtain ⟨r, e⟩ := hle.fs
    refine ⟨rename10 (G10 ms i m) f, ?_, rfl, rfl⟩
    show _ ∈ (out10 _ _ _).fs
    rw [e]
    unfold fun10
    rw [if_pos hb]
    exact List.mem_append_left _ (List.mem_append_right _ (List.mem_singleton.2 rfl))
  · obtain ⟨k1, k2, k3⟩ := kindF hok hi hf hb
    have h1 : ren10 (G10 ms i m) f.name = f.name := G10_none hrt hi (its_memF hf) hb
    obtain ⟨f', hf', e⟩ := List.mem_map.1 (((invAll ks hrt hok).dn f.name (done10 ks hok k1)).1 k2)
    refine ⟨f', hf', by rw [h1]; exact e, ?_⟩
    rw [par_shared hrt hok hf' (by rw [e]; exact k1), e, k3]
theorem has_glob {i : Nat} {m : DMod} (hi : ms[i]? = some m) {f : DGlob} (hf : f ∈ m.globs) : ∃ f' ∈ (ot10 ms ks).gs, f'.name = ren10 (G10 ms i m) f.name := by
  by_cases hb : f.bind = 1
  · obtain ⟨s, hle⟩ := at_glob (ds := ds10 ms) (ks := ks) hi (nam10_at (t := nm10 ms) hi) hf
    obtain ⟨r, e⟩ := hle.gs
    refine ⟨renG (G10 ms i m) f, ?_, rfl⟩
    show _ ∈ (out10 _ _ _).gs
    rw [e]
    unfold glob10
    rw [if_pos hb]
    exact List.mem_append_left _ (List.mem_append_right _ (List.mem_singleton.2 rfl))
  · obtain ⟨k1, k2⟩ := kindG hok hi hf hb
    have h1 : ren10 (G10 ms i m) f.name = f.name := G10_none hrt hi (its_memG hf) hb
    obtain ⟨f', hf', e⟩ := List.mem_map.1 (((invAll ks hrt hok).dn f.name (done10 ks hok k1)).2 k2)
    exact ⟨f', hf', by rw [h1]; exact e⟩
variable (hml : ms.length ≤ 16)
include hml
omit hok in
theorem func_right {f' : DFunc} (hf : f' ∈ (ot10 ms ks).fs) : func5 f' = true ∧ 0 < f'.blocks.length := by
  obtain ⟨i, m, f, hi, hm, hc⟩ := (srcs10 ms ks).f f' hf
  have hG := goodG hrt hml hi
  obtain ⟨_, _, h5, _⟩ := check5_all (hrt m (List.mem_of_getElem? hi))
  have hf5 := h5 f hm
  rcases hc with ⟨hb, rfl⟩ | ⟨hb, rfl⟩
  · refine ⟨func5_ren hG hf5, ?_⟩
    show 0 < (f.blocks.map (renB (G10 ms i m))).length
    rw [List.length_map]
    have h7 := ((func5_iff f).1 hf5).2.2.2.2.2.2.1
    cases e : f.blocks with
    | nil => exact absurd hb (h7 e)
    | cons b r => simp
  · obtain ⟨d1, d2⟩ := func5_def ks hf5
    refine ⟨func5_ren hG d1, ?_⟩
    show 0 < ((defF ks f).blocks.map (renB (G10 ms i m))).length
    rw [List.length_map]; exact d2
omit hok in
theorem glob_right {g' : DGlob} (hg : g' ∈ (ot10 ms ks).gs) : glob5 g' = true ∧ g'.here = true := by
  obtain ⟨i, m, g, hi, hm, hc⟩ := (srcs10 ms ks).g g' hg
  have hG := goodG hrt hml hi
  obtain ⟨_, _, _, h5, _⟩ := check5_all (hrt m (List.mem_of_getElem? hi))
  have hg5 := h5 g hm
  unfold glob5 at hg5
  simp only [Bool.and_eq_true, Bool.or_eq_true, decide_eq_true_eq, Bool.not_eq_true', decide_eq_false_iff_not] at hg5
  obtain ⟨⟨⟨n1, b1⟩, b2⟩, hh⟩ := hg5
  rcases hc with ⟨hb, rfl⟩ | ⟨hb, rfl⟩
  · have hhere : g.here = true := hh.elim id fun h => absurd hb h.2
    refine ⟨?_, hhere⟩
    unfold glob5 renG
    simp only [Bool.and_eq_true, Bool.or_eq_true, decide_eq_true_eq]
    exact ⟨⟨⟨hG _ n1, b1⟩, b2⟩, .inl hhere⟩
  · refine ⟨?_, rfl⟩
    have hbd := bind10_two ks g.name
    unfold glob5 renG defG
    simp only [Bool.and_eq_true, Bool.or_eq_true, decide_eq_true_eq]
    exact ⟨⟨⟨hG _ n1, hbd.1⟩, hbd.2⟩, .inl trivial⟩
omit hrt hok hml in
/-- An instruction of what comes out: none of a name, or one that there was. -/
theorem ins_src {x' : DInst} (hx : x' ∈ insts5 ⟨(ot10 ms ks).fs, (ot10 ms ks).gs⟩) : x'.op = 1 ∨ ∃ i m x, ms[i]? = some m ∧ x ∈ insts5 m ∧ x' = renI (G10 ms i m) x := by
  obtain ⟨f', hf', hx1⟩ := List.mem_flatMap.1 hx
  obtain ⟨b', hb', hx2⟩ := List.mem_flatMap.1 hx1
  obtain ⟨i, m, f, hi, hm, hc⟩ := (srcs10 ms ks).f f' hf'
  rcases hc with ⟨hb, rfl⟩ | ⟨hb, rfl⟩
  · obtain ⟨c, hc, rfl⟩ := List.mem_map.1 (show b' ∈ f.blocks.map (renB (G10 ms i m)) from hb')
    obtain ⟨x, hx3, rfl⟩ := List.mem_map.1 (show x' ∈ c.ins.map (renI (G10 ms i m)) from hx2)
    exact .inr ⟨i, m, x, hi, List.mem_flatMap.2 ⟨f, hm, List.mem_flatMap.2 ⟨c, hc, hx3⟩⟩, rfl⟩
  · obtain ⟨c, hc, rfl⟩ := List.mem_map.1 (show b' ∈ (defF ks f).blocks.map (renB (G10 ms i m)) from hb')
    obtain ⟨x, hx3, rfl⟩ := List.mem_map.1 (show x' ∈ c.ins.map (renI (G10 ms i m)) from hx2)
    by_cases hl : f.blocks.length = 0
    · have he : (defF ks f).blocks = nothing10 f.params := by unfold defF; simp only; rw [if_pos hl]
      rw [he] at hc
      simp only [nothing10, List.mem_singleton] at hc
      rw [hc] at hx3
      simp only [List.mem_singleton] at hx3
      left
      rw [hx3]
      unfold renI; split <;> rfl
    · have he : (defF ks f).blocks = f.blocks := by unfold defF; simp only; rw [if_neg hl]
      rw [he] at hc
      exact .inr ⟨i, m, x, hi, List.mem_flatMap.2 ⟨f, hm, List.mem_flatMap.2 ⟨c, hc, hx3⟩⟩, rfl⟩
theorem check_right (h1 : (ot10 ms ks).fs.length ≤ 16) (h2 : (ot10 ms ks).gs.length ≤ 16) : check5 ⟨(ot10 ms ks).fs, (ot10 ms ks).gs⟩ = 0 := by
  have hv := invAll ks hrt hok
  have hren : ∀ {i : Nat} {m : DMod} {x : DInst}, ms[i]? = some m → (renI (G10 ms i m) x).op = x.op ∧ (renI (G10 ms i m) x).args = x.args := fun {i m x} _ => by unfold renI; split <;> exact ⟨rfl, rfl⟩
  have hnm : ∀ {i : Nat} {m : DMod} {x : DInst}, name5 x.name = true → (renI (G10 ms i m) x).name = ren10 (G10 ms i m) x.name := fun {i m x} hn => by
    unfold renI
    split
    · rename_i e
      rw [e] at hn
      simp [name5] at hn
      exact absurd hn (by decide)
    · rfl
  refine check5_of h1 h2 (fun f hf => (func_right hrt hml hf).1) (fun g hg => (glob_right hrt hml hg).1) hv.nodup (fun x' hx => ?_) (fun x' hx => ?_)
  · rcases ins_src hx with ho | ⟨i, m, x, hi, hxm, rfl⟩
    · unfold bad5; rw [ho]; simp
    · obtain ⟨_, _, c5, g5, _, hbad, _⟩ := check5_all (hrt m (List.mem_of_getElem? hi))
      have hb := hbad x hxm
      obtain ⟨ho, _⟩ := hren (x := x) hi
      unfold bad5 at hb ⊢
      rw [ho]
      simp only [Bool.or_eq_false_iff, Bool.and_eq_false_iff, decide_eq_false_iff_not, Bool.or_eq_true, decide_eq_true_eq] at hb ⊢
      constructor
      · by_cases h14 : x.op = 14
        · right
          have hge : 0 ≤ find5 (fnames m) x.name := by omega
          obtain ⟨f2, hf2⟩ : ∃ f2, m.funcs[(find5 (fnames m) x.name).toNat]? = some f2 := ⟨_, List.getElem?_eq_getElem (find_ltF hge)⟩
          have hn2 := find_atF hge hf2
          obtain ⟨f', hf', e1, _⟩ := has_fun (ks := ks) hrt hok hi (List.mem_of_getElem? hf2)
          have hn5 : name5 x.name = true := by rw [← hn2]; exact ((func5_iff f2).1 (c5 f2 (List.mem_of_getElem? hf2))).1
          have := mem_find5 (l := fnames ⟨(ot10 ms ks).fs, (ot10 ms ks).gs⟩) (s := (renI (G10 ms i m) x).name) (List.mem_map.2 ⟨f', hf', by rw [e1, hnm hn5, hn2]⟩)
          omega
        · exact .inl h14
      · by_cases h12 : x.op = 12 ∨ x.op = 13
        · right
          have hge : 0 ≤ find5 (gnames m) x.name := by omega
          obtain ⟨f2, hf2⟩ : ∃ f2, m.globs[(find5 (gnames m) x.name).toNat]? = some f2 := ⟨_, List.getElem?_eq_getElem (find_ltG hge)⟩
          have hn2 := find_atG hge hf2
          obtain ⟨f', hf', e1⟩ := has_glob (ks := ks) hrt hok hi (List.mem_of_getElem? hf2)
          have hn5 : name5 x.name = true := by
            have := g5 f2 (List.mem_of_getElem? hf2)
            unfold glob5 at this
            simp only [Bool.and_eq_true] at this
            rw [← hn2]; exact this.1.1.1
          have := mem_find5 (l := gnames ⟨(ot10 ms ks).fs, (ot10 ms ks).gs⟩) (s := (renI (G10 ms i m) x).name) (List.mem_map.2 ⟨f', hf', by rw [e1, hnm hn5, hn2]⟩)
          omega
        · left; omega
  · rcases ins_src hx with ho | ⟨i, m, x, hi, hxm, rfl⟩
    · unfold odd5; rw [ho]; simp
    · obtain ⟨_, _, c5, _, _, hbad, hodd⟩ := check5_all (hrt m (List.mem_of_getElem? hi))
      have hb := hbad x hxm
      have hd := hodd x hxm
      obtain ⟨ho, ha⟩ := hren (x := x) hi
      unfold bad5 at hb
      unfold odd5 at hd ⊢
      rw [ho, ha]
      simp only [Bool.or_eq_false_iff, Bool.and_eq_false_iff, decide_eq_false_iff_not] at hb
      by_cases h14 : x.op = 14
      · have hge : 0 ≤ find5 (fnames m) x.name := by omega
        obtain ⟨f2, hf2⟩ : ∃ f2, m.funcs[(find5 (fnames m) x.name).toNat]? = some f2 := ⟨_, List.getElem?_eq_getElem (find_ltF hge)⟩
        have hn2 := find_atF hge hf2
        rw [hf2, h14] at hd
        simp only [decide_true, Bool.true_and, Bool.not_eq_false', decide_eq_true_eq] at hd
        obtain ⟨f', hf', e1, e2⟩ := has_fun (ks := ks) hrt hok hi (List.mem_of_getElem? hf2)
        have hn5 : name5 x.name = true := by rw [← hn2]; exact ((func5_iff f2).1 (c5 f2 (List.mem_of_getElem? hf2))).1
        rw [hnm hn5, h14]
        cases e3 : (ot10 ms ks).fs[(find5 (fnames ⟨(ot10 ms ks).fs, (ot10 ms ks).gs⟩) (ren10 (G10 ms i m) x.name)).toNat]? with
        | none => simp
        | some f3 =>
          have hge3 := mem_find5 (l := fnames ⟨(ot10 ms ks).fs, (ot10 ms ks).gs⟩) (s := ren10 (G10 ms i m) x.name) (List.mem_map.2 ⟨f', hf', by rw [e1, hn2]⟩)
          have hn3 := find_atF hge3 e3
          obtain ⟨j, hj⟩ := List.mem_iff_getElem?.1 hf'
          have hij := name_once (M := ⟨(ot10 ms ks).fs, (ot10 ms ks).gs⟩) (List.nodup_append.1 hv.nodup).1 e3 hj (by rw [hn3, e1, hn2])
          rw [hij] at e3
          have hj2 : (ot10 ms ks).fs[j]? = some f' := hj
          rw [hj2] at e3
          obtain rfl := Option.some.inj e3
          show (decide ((14 : Int) = 14) && !decide (f'.params = (x.args.length : Int))) = false
          rw [e2, hd]; simp
      · simp [h14]
/-- What comes out is whole. -/
theorem whole_right (h1 : (ot10 ms ks).fs.length ≤ 16) (h2 : (ot10 ms ks).gs.length ≤ 16) (hmain : 0 ≤ find5 (fnames ⟨(ot10 ms ks).fs, (ot10 ms ks).gs⟩) mainB) : whole7 ⟨(ot10 ms ks).fs, (ot10 ms ks).gs⟩ = 0 := by
  have hc := check_right (ks := ks) hrt hok hml h1 h2
  unfold whole7
  rw [if_neg (fun h => h hc), if_neg (by omega)]
  cases e : (ot10 ms ks).fs[(find5 (fnames ⟨(ot10 ms ks).fs, (ot10 ms ks).gs⟩) mainB).toNat]? with
  | none =>
    have := find_ltF hmain
    rw [List.getElem?_eq_none_iff] at e
    exact absurd this (by simp only; omega)
  | some f =>
    have hn := find_atF hmain e
    have hf := List.mem_of_getElem? e
    obtain ⟨m1, _, _, m4⟩ := main10 hok
    have hp := par_shared hrt hok hf (by rw [hn]; exact m1)
    rw [hn, m4] at hp
    have hbl := (func_right hrt hml hf).2
    simp only
    rw [if_neg (by rintro (h | h); omega; exact h hp), if_neg]
    rw [List.any_eq_true]
    rintro ⟨s, hs, ho⟩
    obtain ⟨f2, hf2, hs2⟩ := List.mem_flatMap.1 hs
    have ht := ref_there hc hf2 hs2
    unfold open7 at ho
    split at ho
    · rename_i hge
      obtain ⟨f3, hf3⟩ : ∃ f3, (ot10 ms ks).fs[(find5 (fnames ⟨(ot10 ms ks).fs, (ot10 ms ks).gs⟩) s).toNat]? = some f3 := ⟨_, List.getElem?_eq_getElem (find_ltF hge)⟩
      have hb3 := (func_right hrt hml (List.mem_of_getElem? hf3)).2
      simp only at ho
      rw [hf3] at ho
      simp only [decide_eq_true_eq] at ho
      omega
    · rename_i hlt
      have hge : 0 ≤ find5 (gnames ⟨(ot10 ms ks).fs, (ot10 ms ks).gs⟩) s := by omega
      obtain ⟨f3, hf3⟩ : ∃ f3, (ot10 ms ks).gs[(find5 (gnames ⟨(ot10 ms ks).fs, (ot10 ms ks).gs⟩) s).toNat]? = some f3 := ⟨_, List.getElem?_eq_getElem (find_ltG hge)⟩
      have hb3 := (glob_right hrt hml (List.mem_of_getElem? hf3)).2
      simp only at ho
      rw [hf3] at ho
      simp only [hb3] at ho
      cases ho
end
/-- All that MergeWhole says. -/
theorem whole10_facts {ms : List DMod} {ks : List ByteArray} (hrt : ∀ m ∈ ms, check5 m = 0) (hml : ms.length ≤ 16) (h : (merge10 ms ks).2 = 0) :
    whole7 (merge10 ms ks).1 = 0 ∧ okMod (merge10 ms ks).1 ∧ (∀ f ∈ (merge10 ms ks).1.funcs, 0 < f.blocks.length) ∧ ∀ g ∈ (merge10 ms ks).1.globs, g.here = true := by
  have hmain := (out10_facts hrt h).main
  obtain ⟨hok, hl, e, h1, h2⟩ := merge10_ok h
  rw [e] at hmain ⊢
  refine ⟨whole_right hrt hok hml h1 h2 hmain, ⟨fun f hf => okFunc_of5 (func_right hrt hml hf).1, ?_, ?_⟩, fun f hf => (func_right hrt hml hf).2, fun g hg => (glob_right hrt hml hg).2⟩
  · unfold reachBytes; simp only; omega
  · unfold reachBytes; simp only; omega
end Go.Proofs.YtapjejjmhmdmdaaDoor
