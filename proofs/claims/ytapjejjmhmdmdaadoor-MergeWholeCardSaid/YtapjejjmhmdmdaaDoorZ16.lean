/-
  Contracts of layer 10 (merge). No condition beyond those that each theorem states.
-/
import Derived.Test.YtapjejjmhmdmdaaDoorP10
namespace Go.Proofs.YtapjejjmhmdmdaaDoor
open Go.RowKit

set_option maxRecDepth 10000 in
set_option maxHeartbeats 4000000 in
theorem mergeWhole_ret (ms : List DMod) (ks : List ByteArray) (vx vk : Value) {w : World} {ro : Nat → Prop} (hro : ∀ b, ro b → b < w.heap.size) (hx : SlV ro w 2 (ModC ro w) vx ms) (hk : SlV ro w 1 StrC vk ks) (hpw : PowT ro w) (hokm : ∀ m ∈ ms, okMod m) : Ret Tryd.prog 5 #[vx, vk] w fun v w' => v = .bool true ∧ Below w.heap.size w w' := by
 have hxo := hx
 obtain ⟨adl, capl, rfl, hla, hlb, hlc, hld⟩ := hxo
 have hlm : ms.length ≤ 9223372036854775807 := slv_len hx
 obtain ⟨adk, capk, rfl, hk0a, hk0b, hk0c, hk0d⟩ := id hk
 have hk0m : ks.length ≤ 9223372036854775807 := by have h1 := hk0a; have h2 := hk0b; unfold maxLen at h2; omega
 refine Ret.enter (P := Tryd.prog) (n := 69) (args := [.slice adl ms.length capl, .slice adk ks.length capk]) (σ := [(0, .slice adl ms.length capl), (1, .slice adk ks.length capk)]) Tryd.func5 rfl rfl rfl rfl ?_
 have hS := St.start (ro := ro) hro
 have hsub : ∀ b, ro b → ro b ∨ w.heap.size ≤ b := fun _ h => .inl h
 have halT : Alike ro w ro w := Alike.refl
 refine W.seq (W.region (WL.assign rfl rfl rfl (WL.nil (N.seq (W.seq (W.region ?_))))))
 refine WL.callF (vs := []) Tryd.func9 (by kernel_rfl) rfl rfl rfl (shown10_ret (ro := ro) (fun b hb => (hS.snap b hb).1) (hpw.keep hS.alike)) ?_
 rintro v w1 ⟨rfl, hbl⟩
 replace hS := hS.grow hbl
 refine WL.assign rfl rfl rfl (WL.nil (N.seq (W.seq (W.region (WL.move rfl rfl rfl ?_)))))
 refine WL.callF (vs := [.slice adl ms.length capl]) Tryd.func10 (by kernel_rfl) rfl rfl rfl (right10_ret ms _ (ro := ro) (fun b hb => (hS.snap b hb).1) (SlV.keep hx hS.alike (fun _ _ q => q.keep hS.alike)) hokm) ?_
 rintro v w2 ⟨rfl, hbl⟩
 replace hS := hS.grow hbl
 refine WL.assign rfl rfl rfl (WL.nil (N.seq (W.seq (W.region (WL.move rfl rfl rfl (WL.move rfl rfl rfl ?_))))))
 refine WL.callF (vs := [.slice adl ms.length capl, .slice adk ks.length capk]) Tryd.func13 (by kernel_rfl) rfl rfl rfl (few10_ret ms ks _ _ (ro := ro) (fun b hb => (hS.snap b hb).1) (SlV.keep hx hS.alike (fun _ _ q => q.keep hS.alike)) (SlV.keep hk hS.alike (fun _ _ q => q))) ?_
 rintro v w3 ⟨rfl, hbl⟩
 replace hS := hS.grow hbl
 refine WL.assign rfl rfl rfl (WL.nil (N.seq (W.seq (W.seq (W.region (WL.move rfl rfl rfl (WL.not rfl rfl rfl (WL.move rfl rfl rfl ?_))))))))
 rcases (Bool.eq_false_or_eq_true (!(ms.all fun m => decide (check5 m = 0)))).symm with hg4 | hg4
 ·
  refine WL.set 19 (v' := .bool false) rfl (by rw [hg4]) ?_
  refine WL.set 20 (v' := .bool false) rfl (by rw [hg4]) ?_
  refine WL.move rfl rfl rfl (WL.not rfl rfl rfl ?_)
  refine WL.pick (v := .bool (!(fewB ms ks))) rfl rfl rfl rfl rfl rfl ?_
  refine WL.nil (N.seq ?_)
  refine W.cond rfl (fun hc5 => ?_) (fun hc5 => ?_)
  ·
   refine W.seq (W.region (WL.move rfl rfl rfl (WL.assign rfl rfl rfl (WL.nil (N.seq ?_)))))
   refine Fin.ret1 rfl (v := .bool true) rfl ?_
   exact ⟨rfl, hS.below⟩
  refine W.skip (N.seq (W.seq (W.region (WL.move rfl rfl rfl (WL.move rfl rfl rfl ?_)))))
  have hrt : ∀ m ∈ ms, check5 m = 0 := fun m hm => by have h := hg4; simp only [Bool.not_eq_false', Bool.not_eq_true, List.all_eq_true, decide_eq_true_eq, Bool.not_eq_true', Bool.not_eq_false] at h; exact h m hm
  have hfw : ms.length ≤ 16 ∧ ks.length ≤ 16 := fewB_iff.1 (by simpa using hc5)
  obtain ⟨hml, hkl⟩ := hfw
  refine WL.callF (vs := [.slice adl ms.length capl, .slice adk ks.length capk]) Tryd.func14 (by kernel_rfl) rfl rfl rfl (all10_ret ms ks _ _ (ro := ro) (fun b hb => (hS.snap b hb).1) (SlV.keep hx hS.alike (fun _ _ q => q.keep hS.alike)) (SlV.keep hk hS.alike (fun _ _ q => q)) (hpw.keep hS.alike) hrt hml) ?_
  rintro v w6 ⟨csm, rfl, hmr, hbl⟩
  have hal7 := hS.alikeTo hbl (ro' := (roFrom ro w3 w6)) (fun b hb => .inl hb)
  replace hsub : ∀ b, (roFrom ro w3 w6) b → ro b ∨ w.heap.size ≤ b := fun b hb => hb.elim (hsub b) (fun h => .inr (Nat.le_trans hS.below.size h.1))
  replace halT := halT.trans hal7
  replace hld : Elems (roFrom ro w3 w6) w6 2 (ModC (roFrom ro w3 w6) w6) adl ms := hld.keep hal7 (fun _ _ h => h.keep hal7)
  replace hx : SlV (roFrom ro w3 w6) w6 2 (ModC (roFrom ro w3 w6) w6) (.slice adl ms.length capl) ms := SlV.keep hx hal7 (fun _ _ h => h.keep hal7)
  replace hk0d : Elems (roFrom ro w3 w6) w6 1 StrC adk ks := hk0d.keep hal7 (fun _ _ h => h)
  replace hk : SlV (roFrom ro w3 w6) w6 1 StrC (.slice adk ks.length capk) ks := SlV.keep hk hal7 (fun _ _ h => h)
  replace hpw := hpw.keep hal7
  replace hS := hS.readNew hbl
  obtain ⟨M, hM0⟩ : ∃ M, M = (merge10 ms ks).1 := ⟨_, rfl⟩
  rw [← hM0] at hmr
  obtain ⟨sfR, sgR, rfl, hfsR, hgsR⟩ := id hmr
  obtain ⟨adfR, capfR, rfl, hfsRa, hfsRb, hfsRc, hfsRd⟩ := id hfsR
  have hfsRm : M.funcs.length ≤ 9223372036854775807 := by have h1 := hfsRa; have h2 := hfsRb; unfold maxLen at h2; omega
  obtain ⟨adgR, capgR, rfl, hgsRa, hgsRb, hgsRc, hgsRd⟩ := id hgsR
  have hgsRm : M.globs.length ≤ 9223372036854775807 := by have h1 := hgsRa; have h2 := hgsRb; unfold maxLen at h2; omega
  refine WL.move rfl rfl rfl ?_
  refine WL.extract (v := .agg #[.slice adfR M.funcs.length capfR, .slice adgR M.globs.length capgR]) rfl rfl rfl rfl ?_
  refine WL.extract (v := .int .i64 ((merge10 ms ks).2)) rfl rfl rfl rfl ?_
  refine WL.alloc (tyZero_spec zer_32) rfl rfl hS ?_
  clear hS; intro w9 b8 hb_b8 hS
  refine WL.store (cs := [.slice adfR M.funcs.length capfR, .slice adgR M.globs.length capgR]) (c' := #[.slice adfR M.funcs.length capfR, .slice adgR M.globs.length capgR]) (L' := [(b8, .cells #[.slice adfR M.funcs.length capfR, .slice adgR M.globs.length capgR] 32 (0, 0))]) 0 rfl rfl rfl rfl siz_32 rfl rfl rfl rfl rfl hS ?_
  clear hS; intro w10 hS
  refine WL.assign rfl rfl rfl (WL.nil (N.seq (W.seq (W.seq (W.region (WL.move rfl rfl rfl (WL.bin rfl rfl rfl rfl rfl (WL.nil (N.seq ?_)))))))))
  refine W.cond rfl (fun hc11 => ?_) (fun hc11 => ?_)
  ·
   have hc11p : ¬ ((merge10 ms ks).2 = 0) := by simpa using hc11
   refine W.seq (W.region (WL.move rfl rfl rfl (WL.assign rfl rfl rfl (WL.nil (N.seq ?_)))))
   refine Fin.ret1 rfl (v := .bool true) rfl ?_
   exact ⟨rfl, hS.below⟩
  have hc11p : (merge10 ms ks).2 = 0 := by simpa using hc11
  refine W.skip (N.seq (W.seq (W.seq (W.region (WL.assign rfl rfl rfl (WL.nil (N.seq (W.block ?_))))))))
  have hm0 : (merge10 ms ks).2 = 0 := by simpa using hc11p
  have hF := out10_facts hrt hm0
  rw [← hM0] at hF
  obtain ⟨hfm, hgm⟩ := hF.few
  obtain ⟨hW1, hW2, hW3, hW4⟩ := whole10_facts (ks := ks) hrt hml hm0
  rw [← hM0] at hW1 hW2 hW3 hW4
  refine W.loop (α := Nat) (fun (i : Nat) => [(0, .slice adl ms.length capl), (1, .slice adk ks.length capk), (5, .bool true), (6, .bool (ms.all fun m => decide (check5 m = 0))), (7, .bool (fewB ms ks)), (8, .pointer (some ⟨b8, 0, none⟩)), (9, .int .i64 ((merge10 ms ks).2)), (10, .int .i64 (i : Int)), (12, .bool true), (13, .slice adl ms.length capl), (14, .bool (ms.all fun m => decide (check5 m = 0))), (15, .slice adl ms.length capl), (16, .slice adk ks.length capk), (17, .bool (fewB ms ks)), (18, .bool (ms.all fun m => decide (check5 m = 0))), (19, .bool false), (20, .bool false), (21, .bool (fewB ms ks)), (22, .bool (!(fewB ms ks))), (23, .bool (!(fewB ms ks))), (25, .tuple #[.agg #[.slice adfR M.funcs.length capfR, .slice adgR M.globs.length capgR], .int .i64 ((merge10 ms ks).2)]), (26, .slice adl ms.length capl), (27, .slice adk ks.length capk), (28, .tuple #[.agg #[.slice adfR M.funcs.length capfR, .slice adgR M.globs.length capgR], .int .i64 ((merge10 ms ks).2)]), (29, .agg #[.slice adfR M.funcs.length capfR, .slice adgR M.globs.length capgR]), (30, .int .i64 ((merge10 ms ks).2)), (31, .int .i64 ((merge10 ms ks).2)), (32, .bool (!decide ((merge10 ms ks).2 = 0)))]) (fun (i : Nat) u => St w w6 u (roFrom ro w3 w6) [(b8, .cells #[.slice adfR M.funcs.length capfR, .slice adgR M.globs.length capgR] 32 (0, 0))] [] ∧ i ≤ M.funcs.length) (fun (i : Nat) => M.funcs.length - i) 0 ⟨rfl, rfl, rfl, rfl, rfl, rfl, rfl, rfl, rfl, rfl, rfl, rfl, rfl, rfl, rfl, rfl, rfl, rfl, rfl, rfl, rfl, rfl, rfl, rfl, rfl, rfl, rfl, rfl, trivial⟩ ⟨hS, Nat.zero_le _⟩ ?_
  clear hS
  rintro i w12 ⟨hS, hi⟩
  refine W.seq (W.seq (W.region (WL.move rfl rfl rfl ?_)))
  refine WL.fieldAddr fo_32_0 rfl rfl rfl ?_
  refine WL.load1 (v := .slice adfR M.funcs.length capfR) one_29 rfl rfl rfl (hS.cell 0 rfl rfl) ?_
  refine WL.lenSlice Tryd.underlying29 rfl rfl rfl ?_
  refine WL.bin rfl rfl rfl rfl rfl (WL.nil (N.seq ?_))
  refine W.cond rfl (fun hc13 => ?_) (fun hc13 => ?_)
  ·
   have hc13p : (i : Int) < (M.funcs.length : Int) := by simpa using hc13
   refine W.skip (N.seq (W.seq (W.block (W.seq (W.region ?_)))))
   refine WL.fieldAddr fo_32_0 rfl rfl rfl ?_
   refine WL.load1 (v := .slice adfR M.funcs.length capfR) one_29 rfl rfl rfl (hS.cell 0 rfl rfl) ?_
   refine WL.move rfl rfl rfl ?_
   have hj14 : i < M.funcs.length := by omega
   obtain ⟨x14, hx14⟩ : ∃ zz, M.funcs[i]? = some zz := ⟨_, List.getElem?_eq_getElem hj14⟩
   obtain ⟨b14, o14, cs14, hE14, hr14, hl14, hc14, hQ14⟩ := hfsRd i _ hx14
   obtain ⟨sb14, rfl, hbl14, hnm14, hbd14, hpr14⟩ := id hQ14
   obtain ⟨adb14, capb14, rfl, hbk14a, hbk14b, hbk14c, hbk14d⟩ := id hbl14
   have hbk14m : x14.blocks.length ≤ 9223372036854775807 := by have h1 := hbk14a; have h2 := hbk14b; unfold maxLen at h2; omega
   refine WL.indexAddrE (j := i) Tryd.underlying29 isz_35 rfl rfl rfl rfl hj14 hE14 ?_
   refine WL.fieldAddr fo_35_3 rfl rfl rfl ?_
   refine WL.load1 (v := .slice adb14 x14.blocks.length capb14) one_33 rfl rfl rfl (hS.roCells hr14 hc14 3 _ rfl) ?_
   refine WL.lenSlice Tryd.underlying33 rfl rfl rfl ?_
   refine WL.bin rfl rfl rfl rfl rfl (WL.nil (N.seq ?_))
   refine W.cond rfl (fun hc15 => ?_) (fun hc15 => ?_)
   ·
    have hc15p : (x14.blocks.length : Int) = 0 := by simpa using hc15
    exact absurd (hW3 _ (List.mem_of_getElem? hx14)) (by omega)
   have hc15p : ¬ ((x14.blocks.length : Int) = 0) := by simpa using hc15
   refine W.skip (N.blk (N.seq (W.region (WL.move rfl rfl rfl ?_))))
   refine WL.add (c := (i : Int) + 1) rfl rfl rfl rfl (rfl) (by omega) ?_
   refine WL.assign rfl rfl rfl (WL.nil ?_)
   exact N.loop (i + 1) ⟨rfl, rfl, rfl, rfl, rfl, rfl, rfl, rfl, rfl, rfl, rfl, rfl, rfl, rfl, rfl, rfl, rfl, rfl, rfl, rfl, rfl, rfl, rfl, rfl, rfl, rfl, rfl, rfl, trivial⟩ ⟨hS, by omega⟩ (by first | omega | (simp only; omega))
  have hc13p : ¬ ((i : Int) < (M.funcs.length : Int)) := by simpa using hc13
  refine W.exit (X.seq (X.loop (X.blk (N.seq (W.seq (W.seq (W.region (WL.assign rfl rfl rfl (WL.nil ?_)))))))))
  refine N.seq (W.block ?_)
  refine W.loop (α := Nat) (fun (j : Nat) => [(0, .slice adl ms.length capl), (1, .slice adk ks.length capk), (5, .bool true), (6, .bool (ms.all fun m => decide (check5 m = 0))), (7, .bool (fewB ms ks)), (8, .pointer (some ⟨b8, 0, none⟩)), (9, .int .i64 ((merge10 ms ks).2)), (10, .int .i64 (i : Int)), (11, .int .i64 (j : Int)), (12, .bool true), (13, .slice adl ms.length capl), (14, .bool (ms.all fun m => decide (check5 m = 0))), (15, .slice adl ms.length capl), (16, .slice adk ks.length capk), (17, .bool (fewB ms ks)), (18, .bool (ms.all fun m => decide (check5 m = 0))), (19, .bool false), (20, .bool false), (21, .bool (fewB ms ks)), (22, .bool (!(fewB ms ks))), (23, .bool (!(fewB ms ks))), (25, .tuple #[.agg #[.slice adfR M.funcs.length capfR, .slice adgR M.globs.length capgR], .int .i64 ((merge10 ms ks).2)]), (26, .slice adl ms.length capl), (27, .slice adk ks.length capk), (28, .tuple #[.agg #[.slice adfR M.funcs.length capfR, .slice adgR M.globs.length capgR], .int .i64 ((merge10 ms ks).2)]), (29, .agg #[.slice adfR M.funcs.length capfR, .slice adgR M.globs.length capgR]), (30, .int .i64 ((merge10 ms ks).2)), (31, .int .i64 ((merge10 ms ks).2)), (32, .bool (!decide ((merge10 ms ks).2 = 0))), (34, .int .i64 (i : Int)), (35, .pointer (some ⟨b8, 0, none⟩)), (36, .slice adfR M.funcs.length capfR), (37, .int .i64 (M.funcs.length : Int)), (38, .bool (decide ((i : Int) < (M.funcs.length : Int))))]) (fun (j : Nat) u => St w w6 u (roFrom ro w3 w6) [(b8, .cells #[.slice adfR M.funcs.length capfR, .slice adgR M.globs.length capgR] 32 (0, 0))] [] ∧ j ≤ M.globs.length) (fun (j : Nat) => M.globs.length - j) 0 ⟨rfl, rfl, rfl, rfl, rfl, rfl, rfl, rfl, rfl, rfl, rfl, rfl, rfl, rfl, rfl, rfl, rfl, rfl, rfl, rfl, rfl, rfl, rfl, rfl, rfl, rfl, rfl, rfl, rfl, rfl, rfl, rfl, rfl, rfl, trivial⟩ ⟨hS, Nat.zero_le _⟩ ?_
  clear hS
  rintro j w16 ⟨hS, hj⟩
  refine W.seq (W.seq (W.region (WL.move rfl rfl rfl ?_)))
  refine WL.fieldAddr fo_32_1 rfl rfl rfl ?_
  refine WL.load1 (v := .slice adgR M.globs.length capgR) one_30 rfl rfl rfl (hS.cell 0 rfl rfl) ?_
  refine WL.lenSlice Tryd.underlying30 rfl rfl rfl ?_
  refine WL.bin rfl rfl rfl rfl rfl (WL.nil (N.seq ?_))
  refine W.cond rfl (fun hc17 => ?_) (fun hc17 => ?_)
  ·
   have hc17p : (j : Int) < (M.globs.length : Int) := by simpa using hc17
   refine W.skip (N.seq (W.seq (W.block (W.seq (W.region ?_)))))
   refine WL.fieldAddr fo_32_1 rfl rfl rfl ?_
   refine WL.load1 (v := .slice adgR M.globs.length capgR) one_30 rfl rfl rfl (hS.cell 0 rfl rfl) ?_
   refine WL.move rfl rfl rfl ?_
   have hj18 : j < M.globs.length := by omega
   obtain ⟨x18, hx18⟩ : ∃ zz, M.globs[j]? = some zz := ⟨_, List.getElem?_eq_getElem hj18⟩
   obtain ⟨b18, o18, cs18, hE18, hr18, hl18, hc18, hQ18⟩ := hgsRd j _ hx18
   obtain ⟨rfl, hgn18, hgb18, hgi18⟩ := hQ18
   refine WL.indexAddrE (j := j) Tryd.underlying30 isz_38 rfl rfl rfl rfl hj18 hE18 ?_
   refine WL.fieldAddr fo_38_2 rfl rfl rfl ?_
   refine WL.load1 (v := .bool x18.here) one_4 rfl rfl rfl (hS.roCells hr18 hc18 2 _ rfl) ?_
   refine WL.not rfl rfl rfl (WL.nil (N.seq ?_))
   refine W.cond rfl (fun hc19 => ?_) (fun hc19 => ?_)
   ·
    exact absurd (hW4 _ (List.mem_of_getElem? hx18)) (by simpa using hc19)
   refine W.skip (N.blk (N.seq (W.region (WL.move rfl rfl rfl ?_))))
   refine WL.add (c := (j : Int) + 1) rfl rfl rfl rfl (rfl) (by omega) ?_
   refine WL.assign rfl rfl rfl (WL.nil ?_)
   exact N.loop (j + 1) ⟨rfl, rfl, rfl, rfl, rfl, rfl, rfl, rfl, rfl, rfl, rfl, rfl, rfl, rfl, rfl, rfl, rfl, rfl, rfl, rfl, rfl, rfl, rfl, rfl, rfl, rfl, rfl, rfl, rfl, rfl, rfl, rfl, rfl, rfl, trivial⟩ ⟨hS, by omega⟩ (by first | omega | (simp only; omega))
  have hc17p : ¬ ((j : Int) < (M.globs.length : Int)) := by simpa using hc17
  refine W.exit (X.seq (X.loop (X.blk (N.seq (W.seq (W.region (WL.move rfl rfl rfl (WL.move rfl rfl rfl ?_))))))))
  refine WL.loadN (cs := [.slice adfR M.funcs.length capfR, .slice adgR M.globs.length capgR]) agg_32 rfl rfl rfl rfl (hS.cells 0 (m := 2) rfl rfl) ?_
  refine WL.callF (vs := [.agg #[.slice adfR M.funcs.length capfR, .slice adgR M.globs.length capgR]]) Tryd.func17 (by kernel_rfl) rfl rfl rfl (whole7_ret M _ (ro := (roFrom ro w3 w6)) (fun b hb => (hS.snap b hb).1) (hmr.keep hS.alike) hW2) ?_
  rintro v w20 ⟨rfl, hbl⟩
  replace hS := hS.grow hbl
  refine WL.bin rfl rfl rfl rfl rfl ?_
  refine WL.set 67 (v' := .bool true) rfl (congrArg Value.bool (show (decide (whole7 M = 0)) = true from decide_eq_true hW1)) ?_
  refine WL.pick (v := .bool true) rfl rfl rfl rfl rfl rfl (WL.assign rfl rfl rfl (WL.nil (N.seq ?_)))
  refine Fin.ret1 rfl (v := .bool true) rfl ?_
  exact ⟨rfl, hS.below⟩
 refine WL.set 19 (v' := .bool true) rfl (by rw [hg4]) ?_
 refine WL.set 20 (v' := .bool true) rfl (by rw [hg4]) ?_
 refine WL.skp rfl rfl (WL.skp rfl rfl (WL.pick (v := .bool true) rfl rfl rfl rfl rfl rfl (WL.nil (N.seq (W.condT rfl (W.seq (W.region (WL.move rfl rfl rfl (WL.assign rfl rfl rfl ?_)))))))))
 refine WL.nil (N.seq ?_)
 refine Fin.ret1 rfl (v := .bool true) rfl ?_
 exact ⟨rfl, hS.below⟩

end Go.Proofs.YtapjejjmhmdmdaaDoor
