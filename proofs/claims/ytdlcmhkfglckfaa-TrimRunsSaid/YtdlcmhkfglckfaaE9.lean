/-
  A trimmed module does the same where the module ends. No condition beyond those that each theorem states.
-/
import Derived.Test.YtdlcmhkfglckfaaL4
import Derived.Test.YtdlcmhkfglckfaaE1
namespace Go.Proofs.Ytdlcmhkfglckfaa

structure Sim7 (Y Z : DW) : Prop where
  en : Z.t.ended = Y.t.ended
  co : Z.t.code = Y.t.code
  out : Z.t.out = Y.t.out
  rd : Z.t.read = Y.t.read
  dp : Z.t.deep = Y.t.deep
  gl : Z.globs = Y.globs
  yb : Y.bad = 0
  zb : Z.bad = 0
  st : Z.t.steps ≤ Y.t.steps
/-- The values in a block and in the trimmed one. -/
def VR (b : DBlock) (i : Nat) (vals vals' : List Int) : Prop := vals.length = b.params.toNat + i ∧ vals'.length = b.params.toNat + cnt13 b i ∧ (∀ v, v < b.params.toNat → vals'[v]? = vals[v]?) ∧
  ∀ j x, Kept13 b j x → j < i → vals'[b.params.toNat + cnt13 b j]? = vals[b.params.toNat + j]?
theorem VR.get {b : DBlock} {i m : Nat} {vals vals' : List Int} (h : VR b i vals vals') (hi : i ≤ m) (hm : m ≤ b.ins.length) {v : Int} (h0 : 0 ≤ v) (hv : v < ((b.params.toNat + i : Nat) : Int)) (hu : (used13 b)[v.toNat]? = some true) :
    vals'.getD (((at13 b m).1 v).getD 0).toNat 0 = vals.getD v.toNat 0 := by
  obtain ⟨_, _, h3, h4⟩ := h
  rw [List.getD_eq_getElem?_getD, List.getD_eq_getElem?_getD]
  by_cases hp : v < (b.params.toNat : Int)
  · obtain ⟨n, rfl⟩ := Int.eq_ofNat_of_zero_le h0
    rw [g_param b hm (by omega), Option.getD_some, Int.toNat_natCast, h3 n (by omega)]
  · obtain ⟨j, rfl⟩ : ∃ j : Nat, v = ((b.params.toNat + j : Nat) : Int) := ⟨(v - b.params.toNat).toNat, by omega⟩
    rw [Int.toNat_natCast] at hu ⊢
    have hk : Kept13 b j b.ins[j] := ⟨List.getElem?_eq_getElem (by omega), .inr hu⟩
    rw [g_kept b hk (by omega) hm, Option.getD_some, Int.toNat_natCast, h4 j _ hk (by omega)]
theorem pick_anew {vals vals' : List Int} {g : Int → Option Int} {l : List Int} (h : ∀ v ∈ l, vals'.getD ((g v).getD 0).toNat 0 = vals.getD v.toNat 0) : pick7 vals' (anew13 g l) = pick7 vals l := by
  unfold pick7 anew13
  rw [List.map_map]
  exact List.map_congr_left fun v hv => h v hv
theorem Sim7.step {Y Z : DW} {fuel : Int} (h : Sim7 Y Z) (hf : Y.t.steps ≤ fuel) (hb : (step7 Y fuel).bad = 0) : Sim7 (step7 Y fuel) (step7 Z fuel) := by
  have hne : ¬ Y.t.steps = fuel := fun e => by unfold step7 at hb; rw [if_pos e] at hb; simp at hb
  have hst := h.st
  unfold step7
  rw [if_neg hne, if_neg (by omega)]
  exact ⟨h.en, h.co, h.out, h.rd, h.dp, h.gl, h.yb, h.zb, by simp only; omega⟩
theorem Sim7.stepL {Y Z : DW} {fuel : Int} (h : Sim7 Y Z) (hb : (step7 Y fuel).bad = 0) : Sim7 (step7 Y fuel) Z := by
  have hst := h.st
  unfold step7 at hb ⊢
  split
  · rename_i e; rw [if_pos e] at hb; simp at hb
  · exact ⟨h.en, h.co, h.out, h.rd, h.dp, h.gl, h.yb, h.zb, by simp only; omega⟩
theorem Sim7.deep {Y Z : DW} (h : Sim7 Y Z) (n : Int) : Sim7 (deep7 Y n) (deep7 Z n) := by
  obtain ⟨h1, h2, h3, h4, h5, h6, h7, h8, h9⟩ := h
  unfold deep7
  rw [h5]
  split
  · exact ⟨h1, h2, h3, h4, rfl, h6, h7, h8, h9⟩
  · exact ⟨h1, h2, h3, h4, h5, h6, h7, h8, h9⟩
section
variable {m : DMod} {inp : ByteArray} {fuel : Int}
theorem gives7_trim {Y Z : DW} (h : Sim7 Y Z) {x x' : DInst} {vals vals' : List Int} (e1 : x'.op = x.op) (e2 : x'.k = x.k) (e3 : x'.name = x.name)
    (ha : (2 ≤ x.op ∧ x.op ≤ 11) ∨ x.op = 13 ∨ x.op = 16 → vals'.getD x'.a.toNat 0 = vals.getD x.a.toNat 0) (hb : 2 ≤ x.op ∧ x.op ≤ 11 → vals'.getD x'.b.toNat 0 = vals.getD x.b.toNat 0) (ho : 1 ≤ x.op ∧ x.op ≤ 16 ∧ x.op ≠ 14) :
    ∃ Y' Z' k, gives7 m Y inp x vals = (Y', k) ∧ gives7 (mod13 m) Z inp x' vals' = (Z', k) ∧ Sim7 Y' Z' ∧ Z.t.steps ≤ Z'.t.steps := by
  obtain ⟨h1, h2, h3, h4, h5, h6, h7, h8, h9⟩ := h
  have hg : find5 (gnames (mod13 m)) x'.name = find5 (gnames m) x.name := by rw [gnames_13, e3]
  unfold gives7
  rw [e1, e2, hg]
  by_cases o1 : x.op = 1
  · rw [if_pos o1, if_pos o1]; exact ⟨_, _, _, rfl, rfl, ⟨h1, h2, h3, h4, h5, h6, h7, h8, h9⟩, Int.le_refl _⟩
  rw [if_neg o1, if_neg o1]
  by_cases o2 : x.op = 12
  · rw [if_pos o2, if_pos o2, h6]; exact ⟨_, _, _, rfl, rfl, ⟨h1, h2, h3, h4, h5, h6, h7, h8, h9⟩, Int.le_refl _⟩
  rw [if_neg o2, if_neg o2]
  by_cases o3 : x.op = 13
  · rw [if_pos o3, if_pos o3, h6, ha (by omega)]; exact ⟨_, _, _, rfl, rfl, ⟨h1, h2, h3, h4, h5, rfl, h7, h8, h9⟩, Int.le_refl _⟩
  rw [if_neg o3, if_neg o3]
  by_cases o4 : x.op = 15
  · rw [if_pos o4, if_pos o4, h4]
    split
    · exact ⟨_, _, _, rfl, rfl, ⟨h1, h2, h3, h4, h5, h6, h7, h8, h9⟩, Int.le_refl _⟩
    · exact ⟨_, _, _, rfl, rfl, ⟨h1, h2, h3, rfl, h5, h6, h7, h8, h9⟩, Int.le_refl _⟩
  rw [if_neg o4, if_neg o4]
  by_cases o5 : x.op = 16
  · rw [if_pos o5, if_pos o5, ha (by omega), h3]; exact ⟨_, _, _, rfl, rfl, ⟨h1, h2, rfl, h4, h5, h6, h7, h8, h9⟩, Int.le_refl _⟩
  rw [if_neg o5, if_neg o5, ha (by omega), hb (by omega)]
  exact ⟨_, _, _, rfl, rfl, ⟨h1, h2, h3, h4, h5, h6, h7, h8, h9⟩, Int.le_refl _⟩
/-- An instruction that does nothing leaves the world as it is. -/
theorem ins7_quiet {cal : Cal} {Y : DW} {x : DInst} {vals : List Int} (h : does13 x = false) : ∃ k, ins7 m inp cal Y vals x = (Y, k) := by
  unfold does13 at h
  simp only [Bool.or_eq_false_iff, decide_eq_false_iff_not] at h
  unfold ins7 gives7
  rw [if_neg (by omega)]
  by_cases o1 : x.op = 1
  · rw [if_pos o1]; exact ⟨_, rfl⟩
  rw [if_neg o1]
  by_cases o2 : x.op = 12
  · rw [if_pos o2]; exact ⟨_, rfl⟩
  rw [if_neg o2, if_neg (by omega), if_neg (by omega), if_neg (by omega)]
  exact ⟨_, rfl⟩
def Callee (m : DMod) (s : ByteArray) (n : Nat) : Prop := ∃ g, m.funcs[(find5 (fnames m) s).toNat]? = some g ∧ 0 ≤ find5 (fnames m) s ∧ g.blocks ≠ [] ∧ g.params = (n : Int)
/-- What is called does the same. -/
def CalSim (m : DMod) (fuel : Int) (cal cal' : Cal) : Prop := (cal = none → cal' = none) ∧ ∀ c, cal = some c → ∃ c', cal' = some c' ∧ ∀ Y Z s args Y' k, Sim7 Y Z → Inv7 m fuel 0 Y → Callee m s args.length → c Y s args = (Y', k) → Y'.bad = 0 → ∃ Z', c' Z s args = (Z', k) ∧ Sim7 Y' Z' ∧ Z.t.steps ≤ Z'.t.steps
theorem ins7_trim {cal cal' : Cal} (hcs : CalSim m fuel cal cal') {b : DBlock} (hs : Sc13 b) {i : Nat} {x : DInst} (hk : Kept13 b i x) (hop : 1 ≤ x.op ∧ x.op ≤ 16) (hco : x.op = 14 → Callee m x.name x.args.length)
    {Y Z Y' : DW} {k : Int} {vals vals' : List Int} (h : Sim7 Y Z) (hI : Inv7 m fuel 0 Y) (hv : VR b i vals vals') (he : ins7 m inp cal Y vals x = (Y', k)) (hb : Y'.bad = 0) :
    ∃ Z', ins7 (mod13 m) inp cal' Z vals' (inst13 (at13 b (i + 1)).1 x) = (Z', k) ∧ Sim7 Y' Z' ∧ Z.t.steps ≤ Z'.t.steps := by
  have hi : i < b.ins.length := (List.getElem?_eq_some_iff.1 hk.1).1
  have hu : ∀ v ∈ uses5 x, vals'.getD (((at13 b (i + 1)).1 v).getD 0).toNat 0 = vals.getD v.toNat 0 := fun v hvm =>
    hv.get (Nat.le_succ i) hi (hs.ok.uses x (List.mem_of_getElem? hk.1) v hvm).1 (hs.sc i x hk.1 v hvm) (used_of_uses hs hk hvm)
  have o1 : (inst13 (at13 b (i + 1)).1 x).op = x.op := rfl
  unfold ins7 at he ⊢
  rw [o1]
  by_cases ho : x.op = 14
  · rw [if_pos ho] at he ⊢
    have hua : uses5 x = x.args := by unfold uses5; rw [if_neg (by omega), if_neg (by omega), if_pos ho]
    have hargs : pick7 vals' (inst13 (at13 b (i + 1)).1 x).args = pick7 vals x.args := by
      by_cases h0 : 0 < (uses5 x).length
      · rw [show (inst13 (at13 b (i + 1)).1 x).args = anew13 (at13 b (i + 1)).1 x.args by simp only [inst13]; rw [if_pos h0]]
        exact pick_anew fun v hv2 => hu v (by rw [hua]; exact hv2)
      · have : x.args = [] := List.eq_nil_of_length_eq_zero (by rw [hua] at h0; omega)
        rw [show (inst13 (at13 b (i + 1)).1 x).args = x.args by simp only [inst13]; rw [if_neg h0], this]; rfl
    cases hc : cal with
    | none => rw [hc] at he; simp only [Prod.mk.injEq] at he; rw [← he.1] at hb; simp at hb
    | some c =>
      obtain ⟨c', hc', hcc⟩ := hcs.2 c hc
      rw [hc] at he
      rw [hc']
      dsimp only at he ⊢
      rw [hargs]
      exact hcc Y Z x.name _ Y' k h hI (by rw [show (pick7 vals x.args).length = x.args.length by simp [pick7]]; exact hco ho) he hb
  · rw [if_neg ho] at he ⊢
    obtain ⟨Y2, Z2, k2, g1, g2, g3, g4⟩ := gives7_trim (m := m) (inp := inp) h (x := x) (x' := inst13 (at13 b (i + 1)).1 x) (vals := vals) (vals' := vals') rfl rfl rfl (fun hq => by
      have hm : x.a ∈ uses5 x := by
        unfold uses5
        by_cases hq2 : 2 ≤ x.op ∧ x.op ≤ 11
        · rw [if_pos hq2]; simp
        · rw [if_neg hq2, if_pos (by omega)]; simp
      rw [← i13_aU ho (List.length_pos_of_mem hm)]; exact hu _ hm) (fun hq => by
      have hm : x.b ∈ uses5 x := by unfold uses5; rw [if_pos hq]; simp
      rw [← i13_bU (by omega) (List.length_pos_of_mem hm)]; exact hu _ hm) ⟨hop.1, hop.2, ho⟩
    rw [g1] at he
    obtain ⟨rfl, rfl⟩ := Prod.mk.inj he
    exact ⟨Z2, g2, g3, g4⟩
theorem VR.kept {b : DBlock} {i : Nat} {x : DInst} (hk : Kept13 b i x) {vals vals' : List Int} (h : VR b i vals vals') (k : Int) : VR b (i + 1) (vals ++ [k]) (vals' ++ [k]) := by
  have hi : i < b.ins.length := (List.getElem?_eq_some_iff.1 hk.1).1
  have hc := (cnt_step b i hi).2 x hk
  obtain ⟨h1, h2, h3, h4⟩ := h
  refine ⟨by simp [h1, Nat.add_assoc], by rw [hc]; simp [h2, Nat.add_assoc], fun v hv => ?_, fun j y hj hlt => ?_⟩
  · rw [List.getElem?_append_left (by omega), List.getElem?_append_left (by omega)]; exact h3 v hv
  · by_cases e : j = i
    · subst e
      rw [List.getElem?_append_right (by omega), List.getElem?_append_right (by omega)]
      simp [h1, h2]
    · have := cnt_lt b hj (j := i) (by omega) (by omega)
      rw [List.getElem?_append_left (by omega), List.getElem?_append_left (by omega)]
      exact h4 j y hj (by omega)
theorem VR.drop {b : DBlock} {i : Nat} {x : DInst} (hx : b.ins[i]? = some x) (hk : ¬ Kept13 b i x) {vals vals' : List Int} (h : VR b i vals vals') (k : Int) : VR b (i + 1) (vals ++ [k]) vals' := by
  have hc : cnt13 b (i + 1) = cnt13 b i := by unfold cnt13; rw [at13_drop hx hk]
  obtain ⟨h1, h2, h3, h4⟩ := h
  refine ⟨by simp [h1, Nat.add_assoc], by rw [hc]; exact h2, fun v hv => ?_, fun j y hj hlt => ?_⟩
  · rw [List.getElem?_append_left (by omega)]; exact h3 v hv
  · by_cases e : j = i
    · subst e
      have : y = x := Option.some.inj (hj.1.symm.trans hx)
      exact absurd (by rw [← this]; exact hj) hk
    · rw [List.getElem?_append_left (by omega)]; exact h4 j y hj (by omega)
theorem body7_trim {cal cal' : Cal} (hcs : CalSim m fuel cal cal') (hci : CalInv m fuel cal) {b : DBlock} (hs : Sc13 b) (hop : ∀ x ∈ b.ins, 1 ≤ x.op ∧ x.op ≤ 16) (hco : ∀ x ∈ b.ins, x.op = 14 → Callee m x.name x.args.length) :
    ∀ (n i : Nat) (Y Z Y' : DW) (vals vals' vs : List Int), b.ins.length - i = n → i ≤ b.ins.length → Sim7 Y Z → Inv7 m fuel 0 Y → VR b i vals vals' → body7 m inp fuel cal Y vals (b.ins.drop i) = (Y', vs) → Y'.bad = 0 →
      ∃ Z' vs', body7 (mod13 m) inp fuel cal' Z vals' ((block13 b).ins.drop (cnt13 b i)) = (Z', vs') ∧ Sim7 Y' Z' ∧ VR b b.ins.length vs vs' ∧ Z.t.steps ≤ Z'.t.steps
  | 0, i, Y, Z, Y', vals, vals', vs, hn, hi, h, hI, hv, he, hb => by
    have e : i = b.ins.length := by omega
    subst e
    rw [body7_end (Nat.le_refl _)] at he
    obtain ⟨rfl, rfl⟩ := Prod.mk.inj he
    exact ⟨Z, vals', body7_end (Nat.le_of_eq (len_block13 b)), h, hv, Int.le_refl _⟩
  | n + 1, i, Y, Z, Y', vals, vals', vs, hn, hi, h, hI, hv, he, hb => by
    have hil : i < b.ins.length := by omega
    have hx : b.ins[i]? = some b.ins[i] := List.getElem?_eq_getElem hil
    generalize b.ins[i] = x at hx
    obtain ⟨Y1, hY1⟩ : ∃ Y1, step7 Y fuel = Y1 := ⟨_, rfl⟩
    by_cases hb1 : Y1.bad = 0
    · obtain ⟨Y2, k, hY2⟩ : ∃ Y2 k, ins7 m inp cal Y1 vals x = (Y2, k) := ⟨_, _, rfl⟩
      have hI1 : Inv7 m fuel 1 Y1 := hY1 ▸ hI.step1 (by rw [hY1]; exact hb1)
      by_cases hb2 : Y2.bad = 0
      · rw [body7_go hx hY1 hb1 hY2 hb2] at he
        have hI2 : Inv7 m fuel 0 Y2 := by have := (ins7_inv (inp := inp) hci (vals := vals) (x := x) hI1).1; rw [hY2] at this; exact this
        by_cases hk : Kept13 b i x
        · have hs1 : Sim7 Y1 (step7 Z fuel) := hY1 ▸ h.step hI.sf (by rw [hY1]; exact hb1)
          obtain ⟨Z2, hZ2, hs2, hz2⟩ := ins7_trim (inp := inp) hcs hs hk (hop x (List.mem_of_getElem? hx)) (hco x (List.mem_of_getElem? hx)) hs1 hI1.less hv hY2 hb2
          obtain ⟨Z', vs', r1, r2, r3, r4⟩ := body7_trim hcs hci hs hop hco n (i + 1) Y2 Z2 Y' _ (vals' ++ [k]) vs (by omega) hil hs2 hI2 (hv.kept hk k) he hb
          refine ⟨Z', vs', ?_, r2, r3, by have := step7_le Z fuel; omega⟩
          rw [(cnt_step b i hil).2 x hk] at r1
          rw [body7_go (ins_at hk) rfl hs1.zb hZ2 hs2.zb]; exact r1
        · have hd : does13 x = false := by
            cases e : does13 x with
            | false => rfl
            | true => exact absurd ⟨hx, .inl e⟩ hk
          obtain ⟨k2, hk2⟩ := ins7_quiet (m := m) (inp := inp) (cal := cal) (Y := Y1) (vals := vals) hd
          rw [hk2] at hY2
          obtain ⟨rfl, rfl⟩ := Prod.mk.inj hY2
          have hs1 : Sim7 Y1 Z := hY1 ▸ h.stepL (by rw [hY1]; exact hb1)
          obtain ⟨Z', vs', r1, r2, r3, r4⟩ := body7_trim hcs hci hs hop hco n (i + 1) Y1 Z Y' _ vals' vs (by omega) hil hs1 hI2 (hv.drop hx hk k2) he hb
          refine ⟨Z', vs', ?_, r2, r3, r4⟩
          rw [show cnt13 b (i + 1) = cnt13 b i by unfold cnt13; rw [at13_drop hx hk]] at r1
          exact r1
      · rw [body7_bad hx hY1 hb1 hY2 hb2] at he
        exact absurd (by rw [(Prod.mk.inj he).1]; exact hb) hb2
    · rw [body7_stop hx hY1 hb1] at he
      exact absurd (by rw [(Prod.mk.inj he).1]; exact hb) hb1
theorem blocks7_trim {cal cal' : Cal} (hcs : CalSim m fuel cal cal') (hci : CalInv m fuel cal) {f : DFunc} (hf5 : func5 f = true) (hco : ∀ b ∈ f.blocks, ∀ x ∈ b.ins, x.op = 14 → Callee m x.name x.args.length) :
    ∀ (g : Nat) (Y Z Y' : DW) (a : Int) (vals : List Int) (g' : Nat) (k : Int), Sim7 Y Z → Inv7 m fuel 0 Y → (reached13 f)[a.toNat]? = some true → (∀ b, f.blocks[a.toNat]? = some b → (vals.length : Int) = b.params) → (fuel - Y.t.steps).toNat < g → (fuel - Z.t.steps).toNat < g' →
      blocks7 m inp fuel cal f g Y a vals = (Y', k) → Y'.bad = 0 → ∃ Z', blocks7 (mod13 m) inp fuel cal' (func13 f) g' Z (cntR (reached13 f) a.toNat : Int) vals = (Z', k) ∧ Sim7 Y' Z' ∧ Z.t.steps ≤ Z'.t.steps
  | 0, Y, Z, Y', a, vals, g', k, h, hI, hr, hl, hg, hg', he, hb => by omega
  | g + 1, Y, Z, Y', a, vals, g', k, h, hI, hr, hl, hg, hg', he, hb => by
    have hgo := goes13_of5 hf5
    have hR := (reached13_iff hgo _).1 hr
    have hal := hR.lt hgo
    have hbk : f.blocks[a.toNat]? = some f.blocks[a.toNat] := List.getElem?_eq_getElem hal
    generalize f.blocks[a.toNat] = b at hbk
    have hbm := List.mem_of_getElem? hbk
    have hs := sc13_of5 hf5 hbm
    have hb5 := (func5_all hf5).2 b hbm
    obtain ⟨hall, hterm⟩ := block5_more hb5
    obtain ⟨hp0, _, _⟩ := block5_all hb5
    have hop : ∀ x ∈ b.ins, 1 ≤ x.op ∧ x.op ≤ 16 := fun x hx => by
      obtain ⟨i, hi⟩ := List.mem_iff_getElem?.1 hx
      have := inst5_all (allFrom_at b.ins b.params i x hall hi)
      exact ⟨this.2.2.1, this.2.2.2⟩
    obtain ⟨Y1, vs, hY1⟩ : ∃ Y1 vs, body7 m inp fuel cal Y vals b.ins = (Y1, vs) := ⟨_, _, rfl⟩
    have hIB := body7_inv (inp := inp) hci b.ins Y vals hI
    rw [hY1] at hIB
    by_cases hb1 : Y1.bad = 0
    · obtain ⟨Y2, hY2⟩ : ∃ Y2, step7 Y1 fuel = Y2 := ⟨_, rfl⟩
      by_cases hb2 : Y2.bad = 0
      · have hlen := hl b hbk
        have hv0 : VR b 0 vals vals := ⟨by omega, by show vals.length = b.params.toNat + 0; omega, fun _ _ => rfl, fun j x _ hj => by omega⟩
        obtain ⟨Z1, vs', r1, r2, r3, hzs⟩ := body7_trim (inp := inp) hcs hci hs hop (hco b hbm) b.ins.length 0 Y Z Y1 vals vals vs (by omega) (Nat.zero_le _) h hI hv0 (by simpa using hY1) hb1
        have hs2 : Sim7 Y2 (step7 Z1 fuel) := hY2 ▸ r2.step hIB.1.sf (by rw [hY2]; exact hb2)
        have hbt := func13_at hr hbk
        have hcb : (func13 f).blocks[((cntR (reached13 f) a.toNat : Nat) : Int).toNat]? = some (blk13 (numAt (reached13 f) f.blocks.length).1 b) := by rw [Int.toNat_natCast]; exact hbt
        have r1' : body7 (mod13 m) inp fuel cal' Z vals (blk13 (numAt (reached13 f) f.blocks.length).1 b).ins = (Z1, vs') := by show body7 _ _ _ _ _ _ (block13 b).ins = _; simpa [cnt13, at13, go13] using r1
        have hA : b.fin.kind ≠ 1 → (blk13 (numAt (reached13 f) f.blocks.length).1 b).fin.a = ((at13 b b.ins.length).1 b.fin.a).getD 0 := fun h1 => by
          show (if b.fin.kind = 1 then b.fin.a else _) = _
          rw [if_neg h1]
        have hend : ∀ v ∈ ends13 b.fin, vs'.getD (((at13 b b.ins.length).1 v).getD 0).toNat 0 = vs.getD v.toNat 0 := fun v hv => by
          obtain ⟨e1, e2⟩ := hs.ok.ends v hv
          exact r3.get (Nat.le_refl _) (Nat.le_refl _) e1 (by omega) (used_of_ends hs hv)
        by_cases hk3 : b.fin.kind = 3
        · have e := blocks7_ret (g := g + 1) (a := a) hbk (by omega) hY1 hb1 hY2 hb2 hk3
          obtain ⟨rfl, rfl⟩ := Prod.mk.inj (e.symm.trans he)
          refine ⟨_, ?_, hs2, by have := step7_le Z1 fuel; omega⟩
          rw [blocks7_ret (g := g') hcb (by omega) r1' r2.zb rfl hs2.zb hk3]
          congr 1
          have := hend b.fin.a (by unfold ends13; rw [if_neg (by omega)]; simp)
          rw [hA (by omega)]
          exact this
        · have hI2 : Inv7 m fuel 0 Y2 := hY2 ▸ hIB.1.step0
          have hst2 : Y2.t.steps = Y1.t.steps + 1 := by have := step7_steps (W := Y1) (fuel := fuel) (by rw [hY2]; exact hb2); rwa [hY2] at this
          have hstz : (step7 Z1 fuel).t.steps = Z1.t.steps + 1 := step7_steps hs2.zb
          have hsf2 := hI2.sf
          have hsz2 := hs2.st
          have he2 := (blocks7_go (g := g + 1) (a := a) hbk (by omega) hY1 hb1 hY2 hb2 hk3).symm.trans he
          rw [Nat.add_sub_cancel] at he2
          have hgoes := blk13_goes hgo hr hbk
          have hn5 := next5 hterm hk3
          have hkb : (blk13 (numAt (reached13 f) f.blocks.length).1 b).fin.kind = b.fin.kind := rfl
          have hnx : ∃ t : Int, (reached13 f)[t.toNat]? = some true ∧ (next7 b.fin vs).1 = t ∧ next7 (blk13 (numAt (reached13 f) f.blocks.length).1 b).fin vs' = ((cntR (reached13 f) t.toNat : Int), (next7 b.fin vs).2) ∧ ∀ c, f.blocks[t.toNat]? = some c → ((next7 b.fin vs).2.length : Int) = c.params := by
            by_cases hc : b.fin.kind = 2 ∧ vs.getD b.fin.a.toNat 0 = 0
            · have hza : vs'.getD (blk13 (numAt (reached13 f) f.blocks.length).1 b).fin.a.toNat 0 = 0 := by
                have := hend b.fin.a (by unfold ends13; rw [if_neg (by omega)]; simp)
                rw [hA (by omega), this]
                exact hc.2
              obtain ⟨q1, q2⟩ := hgoes.2 hc.1
              refine ⟨b.fin.els, q1, by rw [next7, if_pos hc], ?_, fun c hc2 => ?_⟩
              · rw [next7, if_pos ⟨hc.1, hza⟩, next7, if_pos hc, q2]
                congr 1
                exact pick_anew fun v hv => hend v (by unfold ends13; simp [hv])
              · rw [next7, if_pos hc]
                show ((pick7 vs b.fin.elses).length : Int) = _
                rw [show (pick7 vs b.fin.elses).length = b.fin.elses.length by simp [pick7]]
                exact hn5.2 hc.1 c hc2
            · have hza : ¬ ((blk13 (numAt (reached13 f) f.blocks.length).1 b).fin.kind = 2 ∧ vs'.getD (blk13 (numAt (reached13 f) f.blocks.length).1 b).fin.a.toNat 0 = 0) := fun q => hc ⟨q.1, by
                have hq1 : b.fin.kind = 2 := q.1
                have := hend b.fin.a (by unfold ends13; rw [if_neg (by omega)]; simp)
                rw [hA (by omega)] at q
                exact this.symm.trans q.2⟩
              obtain ⟨q1, q2⟩ := hgoes.1 hk3
              refine ⟨b.fin.to, q1, by rw [next7, if_neg hc], ?_, fun c hc2 => ?_⟩
              · rw [next7, if_neg hza, next7, if_neg hc, q2]
                congr 1
                exact pick_anew fun v hv => hend v (by unfold ends13; simp [hv])
              · rw [next7, if_neg hc]
                show ((pick7 vs b.fin.args).length : Int) = _
                rw [show (pick7 vs b.fin.args).length = b.fin.args.length by simp [pick7]]
                exact hn5.1 c hc2
          obtain ⟨t, t1, t2, t3, t4⟩ := hnx
          rw [t2] at he2
          obtain ⟨Z', z1, z2, z3⟩ := blocks7_trim hcs hci hf5 hco g Y2 (step7 Z1 fuel) Y' t (next7 b.fin vs).2 (g' - 1) k hs2 hI2 t1 t4 (by have := hIB.2; simp only at this; omega) (by omega) he2 hb
          refine ⟨Z', ?_, z2, by omega⟩
          rw [blocks7_go (g := g') hcb (by omega) r1' r2.zb rfl hs2.zb (by rw [hkb]; exact hk3), t3]
          exact z1
      · have e := blocks7_stop (g := g + 1) (a := a) hbk (by omega) hY1 hb1 hY2 hb2
        exact absurd (by rw [(Prod.mk.inj (e.symm.trans he)).1]; exact hb) hb2
    · have e := blocks7_bad (g := g + 1) (a := a) hbk (by omega) hY1 hb1
      exact absurd (by rw [(Prod.mk.inj (e.symm.trans he)).1]; exact hb) hb1
theorem funcs_13 (m : DMod) (i : Nat) : (mod13 m).funcs[i]? = (m.funcs[i]?).map func13 := by unfold mod13; rw [List.getElem?_map]
theorem call7_trim (hw : whole7 m = 0) {deep : Int} : ∀ (d : Nat) (Y Z : DW) (s : ByteArray) (args : List Int) (Y' : DW) (k : Int), Sim7 Y Z → Inv7 m fuel 0 Y → Callee m s args.length → call7 m inp fuel deep d Y s args = (Y', k) → Y'.bad = 0 → ∃ Z', call7 (mod13 m) inp fuel deep d Z s args = (Z', k) ∧ Sim7 Y' Z' ∧ Z.t.steps ≤ Z'.t.steps := by
  have main : ∀ (d : Nat), CalSim m fuel (calOf m inp fuel deep d) (calOf (mod13 m) inp fuel deep d) → ∀ (Y Z : DW) (s : ByteArray) (args : List Int) (Y' : DW) (k : Int), Sim7 Y Z → Inv7 m fuel 0 Y → Callee m s args.length → call7 m inp fuel deep d Y s args = (Y', k) → Y'.bad = 0 → ∃ Z', call7 (mod13 m) inp fuel deep d Z s args = (Z', k) ∧ Sim7 Y' Z' ∧ Z.t.steps ≤ Z'.t.steps := by
    rintro d hcs Y Z s args Y' k h hI ⟨f, hf, h0, hb, hp⟩ he hbad
    have hf' : (mod13 m).funcs[(find5 (fnames (mod13 m)) s).toNat]? = some (func13 f) := by rw [fnames_13, funcs_13, hf]; rfl
    have hfm := List.mem_of_getElem? hf
    have hf5 := (check5_all (whole7_all hw).1).2.2.1 f hfm
    rw [call7_eq hf] at he
    rw [call7_eq hf']
    have hr0 : (reached13 f)[(0 : Int).toNat]? = some true := (reached13_iff (goes13_of5 hf5) 0).2 (Rch.zero (List.length_pos_iff.2 hb))
    have e := blocks7_trim (inp := inp) hcs (calOf_inv d) hf5 (fun b hb x hx ho => whole7_call hw hfm hb hx ho) _ (deep7 Y (deep - d)) (deep7 Z (deep - d)) Y' 0 args (fuel - Z.t.steps).toNat.succ k (h.deep _) (hI.deep _) hr0 (fun b hb => by rw [entry5 hf5 hb, hp]) (by rw [deep7_steps]; exact Nat.lt_succ_self _) (by rw [deep7_steps]; exact Nat.lt_succ_self _) he hbad
    rw [deep7_steps] at e
    exact e
  intro d
  induction d with
  | zero => exact main 0 ⟨fun _ => rfl, fun c e => by cases e⟩
  | succ d ih => exact main (d + 1) ⟨(fun e => by cases e), fun c e => by cases e; exact ⟨_, rfl, ih⟩⟩
/-- Where a whole module's run ends, the trimmed module's ends alike, in no more steps. -/
theorem run7_trim (hw : whole7 m = 0) {deep : Int} {T : DTr} (he : run7 m inp fuel deep = (T, 0)) :
    ∃ T', run7 (mod13 m) inp fuel deep = (T', 0) ∧ T'.ended = true ∧ T'.code = T.code ∧ T'.out = T.out ∧ T'.read = T.read ∧ T'.steps ≤ T.steps ∧ T'.deep = T.deep := by
  unfold run7 at he ⊢
  rw [whole7_13 hw]
  rw [hw] at he
  by_cases hd : fuel < 0 ∨ 100000 < fuel ∨ deep < 1 ∨ 64 < deep
  · rw [if_pos hd] at he; cases he
  rw [if_neg hd] at he ⊢
  rw [if_neg (by simp)] at he ⊢
  obtain ⟨Y, k, hY⟩ : ∃ Y k, call7 m inp fuel deep (deep - 1).toNat ⟨tr0, m.globs.map (·.init), 0⟩ mainB [] = (Y, k) := ⟨_, _, rfl⟩
  rw [hY] at he
  have hI0 : Inv7 m fuel 0 (⟨tr0, m.globs.map (·.init), 0⟩ : DW) := ⟨by simp, Int.le_refl 0, Int.le_refl 0, Int.le_refl 0, by show (0 : Int) ≤ fuel; omega, Int.le_refl 0⟩
  have hs0 : Sim7 (⟨tr0, m.globs.map (·.init), 0⟩ : DW) ⟨tr0, m.globs.map (·.init), 0⟩ := ⟨rfl, rfl, rfl, rfl, rfl, rfl, rfl, rfl, Int.le_refl _⟩
  obtain ⟨f, h1, h2, h3, h4⟩ := (whole7_all hw).2.1
  dsimp only at he
  by_cases hb : Y.bad = 0
  · rw [if_neg (by rw [hb]; simp)] at he
    obtain ⟨Z, hZ, hs, _⟩ := call7_trim (inp := inp) hw _ _ _ mainB [] Y k hs0 hI0 ⟨f, h1, h2, h3, by rw [h4]; rfl⟩ hY hb
    rw [show (mod13 m).globs = m.globs from rfl, hZ]
    dsimp only
    rw [if_neg (by rw [hs.zb]; simp)]
    obtain ⟨rfl, _⟩ := Prod.mk.inj he
    exact ⟨_, rfl, rfl, rfl, hs.out, hs.rd, hs.st, hs.dp⟩
  · rw [if_pos hb] at he
    exact absurd (Prod.mk.inj he).2 hb
end
end Go.Proofs.Ytdlcmhkfglckfaa
