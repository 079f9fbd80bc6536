/-
  Contracts of layer 17 (gen). No condition beyond those that each theorem states.
-/
import Derived.Test.YtcmmhfknkldmcaaDoorG12
namespace Go.Proofs.YtcmmhfknkldmcaaDoor
open Go.RowKit
theorem fo_36_1 : fOff Tryd.prog 36 1 1 = true := by kernel_rfl
set_option maxRecDepth 10000 in
set_option maxHeartbeats 4000000 in
theorem genFrame_ret (f : DFunc) (cf : List Value) {w : World} {ro : Nat → Prop} (hro : ∀ b, ro b → b < w.heap.size) (hx : FuncC ro w cf f) (hok : okFunc f) (hr0 : ro 0) (hc0 : CellsAt w 0 0 [.int .i64 0, .int .i64 0, .int .i64 1, .int .i64 2, .int .i64 9, .int .i64 8, .int .i64 7, .int .i64 5, .int .i64 3, .int .i64 6, .int .i64 4, .int .i64 2]) : Ret Tryd.prog 5 #[.agg cf.toArray] w fun v w' => v = .bool true ∧ Below w.heap.size w w' := by
 obtain ⟨sbF, rfl, hblF, hnmF, hbdF, hprF⟩ := id hx
 obtain ⟨adbF, capbF, rfl, hbkFa, hbkFb, hbkFc, hbkFd⟩ := id hblF
 have hbkFm : f.blocks.length ≤ 9223372036854775807 := by have h1 := hbkFa; have h2 := hbkFb; unfold maxLen at h2; omega
 refine Ret.enter (P := Tryd.prog) (n := 136) (args := [.agg #[.string f.name, .int .i64 f.bind, .int .i64 f.params, .slice adbF f.blocks.length capbF]]) (σ := [(0, .agg #[.string f.name, .int .i64 f.bind, .int .i64 f.params, .slice adbF f.blocks.length capbF])]) Tryd.func5 rfl rfl rfl rfl ?_
 have hS := St.start (ro := ro) hro
 have hsub : ∀ b, ro b → ro b ∨ w.heap.size ≤ b := fun _ h => .inl h
 have halT : Alike ro w ro w := Alike.refl
 refine W.seq ?_
 refine W.region ?_
 refine WL.box (v := .agg #[.string f.name, .int .i64 f.bind, .int .i64 f.params, .slice adbF f.blocks.length capbF]) (cs := [.string f.name, .int .i64 f.bind, .int .i64 f.params, .slice adbF f.blocks.length capbF]) rfl rfl rfl rfl hS ?_
 clear hS; intro w2 b1 hb_b1 hS
 refine WL.assign rfl rfl rfl ?_
 refine WL.nil ?_
 refine N.seq ?_
 refine W.seq ?_
 refine W.region ?_
 refine WL.callF (vs := []) Tryd.func8 (by kernel_rfl) rfl rfl rfl (shown17_ret (ro := ro) (fun b hb => (hS.snap b hb).1)) ?_
 rintro v w3 ⟨rfl, hbl⟩
 replace hS := hS.grow hbl
 refine WL.assign rfl rfl rfl ?_
 refine WL.nil ?_
 refine N.seq ?_
 refine W.seq ?_
 refine W.region ?_
 refine WL.loadN (cs := [.string f.name, .int .i64 f.bind, .int .i64 f.params, .slice adbF f.blocks.length capbF]) agg_24 rfl rfl rfl rfl (hS.cells 0 (m := 4) rfl rfl) ?_
 refine WL.callF (vs := [.agg #[.string f.name, .int .i64 f.bind, .int .i64 f.params, .slice adbF f.blocks.length capbF]]) Tryd.func9 (by kernel_rfl) rfl rfl rfl (func5_ret f _ (ro := ro) (fun b hb => (hS.snap b hb).1) (hx.keep hS.alike) hok) ?_
 rintro v w4 ⟨rfl, hbl⟩
 replace hS := hS.grow hbl
 refine WL.assign rfl rfl rfl ?_
 refine WL.nil ?_
 refine N.seq ?_
 refine W.seq ?_
 refine W.seq ?_
 refine W.region ?_
 refine WL.move rfl rfl rfl ?_
 refine WL.not rfl rfl rfl ?_
 refine WL.move rfl rfl rfl ?_
 rcases (Bool.eq_false_or_eq_true (!(func5 f))).symm with hg5 | hg5
 ·
  refine WL.set 13 (v' := .bool false) rfl (by rw [hg5]) ?_
  refine WL.set 14 (v' := .bool false) rfl (by rw [hg5]) ?_
  refine WL.fieldAddr fo_24_3 rfl rfl rfl ?_
  refine WL.load1 (v := .slice adbF f.blocks.length capbF) one_22 rfl rfl rfl (hS.cell 0 rfl rfl) ?_
  refine WL.lenSlice Tryd.underlying22 rfl rfl rfl ?_
  refine WL.bin rfl rfl rfl rfl rfl ?_
  refine WL.pick (v := .bool (decide ((f.blocks.length : Int) = 0))) rfl rfl rfl rfl rfl rfl ?_
  refine WL.nil ?_
  refine N.seq ?_
  refine W.cond rfl (fun hc6 => ?_) (fun hc6 => ?_)
  ·
   have hc6p : (f.blocks.length : Int) = 0 := by simpa using hc6
   refine W.seq ?_
   refine W.region ?_
   refine WL.move rfl rfl rfl ?_
   refine WL.assign rfl rfl rfl ?_
   refine WL.nil ?_
   refine N.seq ?_
   refine Fin.ret1 rfl (v := .bool true) rfl ?_
   exact ⟨rfl, hS.below⟩
  have hc6p : ¬ ((f.blocks.length : Int) = 0) := by simpa using hc6
  refine W.skip ?_
  refine N.seq ?_
  refine W.seq ?_
  have hf5 : func5 f = true := by simpa using hg5
  have hokG := okg_of5 hf5 hx; have hfr := frame_in hokG; have hff := frame_facts hokG
  refine W.region ?_
  refine WL.loadN (cs := [.string f.name, .int .i64 f.bind, .int .i64 f.params, .slice adbF f.blocks.length capbF]) agg_24 rfl rfl rfl rfl (hS.cells 0 (m := 4) rfl rfl) ?_
  refine WL.callF (vs := [.agg #[.string f.name, .int .i64 f.bind, .int .i64 f.params, .slice adbF f.blocks.length capbF]]) Tryd.func13 (by kernel_rfl) rfl rfl rfl (frame_ret f _ (ro := ro) (fun b hb => (hS.snap b hb).1) (hx.keep hS.alike) hokG) ?_
  rintro v w7 ⟨rfl, hbl⟩
  replace hS := hS.grow hbl
  refine WL.assign rfl rfl rfl ?_
  refine WL.nil ?_
  refine N.seq ?_
  refine W.seq ?_
  refine W.region ?_
  refine WL.loadN (cs := [.string f.name, .int .i64 f.bind, .int .i64 f.params, .slice adbF f.blocks.length capbF]) agg_24 rfl rfl rfl rfl (hS.cells 0 (m := 4) rfl rfl) ?_
  refine WL.callF (vs := [.agg #[.string f.name, .int .i64 f.bind, .int .i64 f.params, .slice adbF f.blocks.length capbF]]) Tryd.func10 (by kernel_rfl) rfl rfl rfl (func_ret f _ (ro := ro) (fun b hb => (hS.snap b hb).1) (hx.keep hS.alike) hokG hr0 (hS.roCells hr0 hc0)) ?_
  rintro v w8 ⟨so, sr, rfl, hso, hsr, hko, hkr, hbl⟩
  have hal9 := hS.alikeTo hbl (ro' := (roFrom ro w7 w8)) (fun b hb => .inl hb)
  replace hsub : ∀ b, (roFrom ro w7 w8) b → ro b ∨ w.heap.size ≤ b := fun b hb => hb.elim (hsub b) (fun h => .inr (Nat.le_trans hS.below.size h.1))
  replace halT := halT.trans hal9
  replace hx := hx.keep hal9
  replace hbkFd : Elems (roFrom ro w7 w8) w8 8 (BlockC (roFrom ro w7 w8) w8) adbF f.blocks := hbkFd.keep hal9 (fun _ _ h => h.keep hal9)
  replace hblF : SlV (roFrom ro w7 w8) w8 8 (BlockC (roFrom ro w7 w8) w8) (.slice adbF f.blocks.length capbF) f.blocks := SlV.keep hblF hal9 (fun _ _ h => h.keep hal9)
  replace hc0 := hc0.keep (hal9 _ hr0).2
  replace hr0 := (hal9 _ hr0).1
  replace hS := hS.readNew hbl
  have hso2 : SlV (roFrom ro w7 w8) w8 5 OpC so (func17 f).ops := row_slv hso (oCells_chunks (func_ok hokG)) rfl (fun b hb => .inr (hko b hb))
  obtain ⟨ado, capo, rfl, hooa, hoob, hooc, hood⟩ := id hso2
  have hoom : ((func17 f).ops).length ≤ 9223372036854775807 := by have h1 := hooa; have h2 := hoob; unfold maxLen at h2; omega
  obtain ⟨adr, capr, rfl, hra, hrb, hrc⟩ := row_shape hsr
  refine WL.alloc (tyZero_spec zer_30) rfl rfl hS ?_
  clear hS; intro w11 b10 hb_b10 hS
  refine WL.store (cs := [.string f.name, .slice ado (((func17 f).ops).length) capo, .slice adr ((func17 f).rels.length) capr]) (c' := #[.string f.name, .slice ado (((func17 f).ops).length) capo, .slice adr ((func17 f).rels.length) capr]) (L' := [(b10, .cells #[.string f.name, .slice ado (((func17 f).ops).length) capo, .slice adr ((func17 f).rels.length) capr] 30 (0, 0)), (b1, .cells #[.string f.name, .int .i64 f.bind, .int .i64 f.params, .slice adbF f.blocks.length capbF] 24 (0, 0))]) 0 rfl rfl rfl rfl siz_30 rfl rfl rfl rfl rfl hS ?_
  clear hS; intro w12 hS
  refine WL.nil ?_
  refine N.seq ?_
  refine W.seq ?_
  refine W.seq ?_
  have hj13 : 0 < (func17 f).ops.length := (List.getElem?_eq_some_iff.1 hff.2.1).1
  have hx13 := hff.2.1
  obtain ⟨b13, o13, cs13, hE13, hr13, hl13, hc13, hQ13⟩ := hood 0 _ hff.2.1
  obtain ⟨rfl, hop13⟩ := hQ13
  refine W.region ?_
  refine WL.move rfl rfl rfl ?_
  refine WL.remC rfl rfl rfl rfl (by decide) ?_
  refine WL.bin rfl rfl rfl rfl rfl ?_
  refine WL.set 27 (v' := .bool false) rfl (congrArg Value.bool (show (!decide ((frame17 f).tmod 16 = 0)) = false from by rw [decide_eq_true (show (frame17 f).tmod 16 = 0 from by rw [Int.tmod_eq_emod_of_nonneg (by omega)]; unfold frame17; omega)]; rfl)) ?_
  refine WL.move rfl rfl rfl ?_
  refine WL.move rfl rfl rfl ?_
  refine WL.bin rfl rfl rfl rfl rfl ?_
  refine WL.set 30 (v' := .bool false) rfl (congrArg Value.bool (show (decide (frame17 f < 64)) = false from decide_eq_false (show ¬ (frame17 f < 64) from by have := hff.1; omega))) ?_
  refine WL.pick (v := .bool false) rfl rfl rfl rfl rfl rfl ?_
  refine WL.move rfl rfl rfl ?_
  refine WL.move rfl rfl rfl ?_
  refine WL.bin rfl rfl rfl rfl rfl ?_
  refine WL.set 34 (v' := .bool false) rfl (congrArg Value.bool (show (decide (368 < frame17 f)) = false from decide_eq_false (show ¬ (368 < frame17 f) from by have := hff.1; omega))) ?_
  refine WL.pick (v := .bool false) rfl rfl rfl rfl rfl rfl ?_
  refine WL.move rfl rfl rfl ?_
  refine WL.fieldAddr fo_30_1 rfl rfl rfl ?_
  refine WL.load1 (v := .slice ado (((func17 f).ops).length) capo) one_27 rfl rfl rfl (hS.cell 0 rfl rfl) ?_
  refine WL.lenSlice Tryd.underlying27 rfl rfl rfl ?_
  refine WL.bin rfl rfl rfl rfl rfl ?_
  refine WL.set 40 (v' := .bool false) rfl (congrArg Value.bool (show (decide ((((func17 f).ops).length : Int) < 2)) = false from decide_eq_false (show ¬ ((((func17 f).ops).length : Int) < 2) from by have := hff.1; omega))) ?_
  refine WL.pick (v := .bool false) rfl rfl rfl rfl rfl rfl ?_
  refine WL.move rfl rfl rfl ?_
  refine WL.fieldAddr fo_30_1 rfl rfl rfl ?_
  refine WL.load1 (v := .slice ado (((func17 f).ops).length) capo) one_27 rfl rfl rfl (hS.cell 0 rfl rfl) ?_
  refine WL.indexAddrE (j := 0) Tryd.underlying27 isz_36 rfl rfl rfl rfl hj13 hE13 ?_
  refine WL.fieldAddr fo_36_0 rfl rfl rfl ?_
  refine WL.load1 (v := .int .i64 ((addF (0 - frame17 f)).kind)) one_3 rfl rfl rfl (hS.roCells hr13 hc13 0 _ rfl) ?_
  refine WL.bin rfl rfl rfl rfl rfl ?_
  refine WL.set 48 (v' := .bool false) rfl (congrArg Value.bool (show (!decide ((addF (0 - frame17 f)).kind = 12)) = false from by rw [decide_eq_true (show (addF (0 - frame17 f)).kind = 12 from rfl)]; rfl)) ?_
  refine WL.pick (v := .bool false) rfl rfl rfl rfl rfl rfl ?_
  refine WL.move rfl rfl rfl ?_
  refine WL.fieldAddr fo_30_1 rfl rfl rfl ?_
  refine WL.load1 (v := .slice ado (((func17 f).ops).length) capo) one_27 rfl rfl rfl (hS.cell 0 rfl rfl) ?_
  refine WL.indexAddrE (j := 0) Tryd.underlying27 isz_36 rfl rfl rfl rfl hj13 hE13 ?_
  refine WL.fieldAddr fo_36_1 rfl rfl rfl ?_
  refine WL.load1 (v := .int .i64 ((addF (0 - frame17 f)).rd)) one_3 rfl rfl rfl (hS.roCells hr13 hc13 1 _ rfl) ?_
  refine WL.bin rfl rfl rfl rfl rfl ?_
  refine WL.set 56 (v' := .bool false) rfl (congrArg Value.bool (show (!decide ((addF (0 - frame17 f)).rd = 2)) = false from by rw [decide_eq_true (show (addF (0 - frame17 f)).rd = 2 from rfl)]; rfl)) ?_
  refine WL.pick (v := .bool false) rfl rfl rfl rfl rfl rfl ?_
  refine WL.move rfl rfl rfl ?_
  refine WL.fieldAddr fo_30_1 rfl rfl rfl ?_
  refine WL.load1 (v := .slice ado (((func17 f).ops).length) capo) one_27 rfl rfl rfl (hS.cell 0 rfl rfl) ?_
  refine WL.indexAddrE (j := 0) Tryd.underlying27 isz_36 rfl rfl rfl rfl hj13 hE13 ?_
  refine WL.fieldAddr fo_36_4 rfl rfl rfl ?_
  refine WL.load1 (v := .int .i64 ((addF (0 - frame17 f)).imm)) one_2 rfl rfl rfl (hS.roCells hr13 hc13 4 _ rfl) ?_
  refine WL.move rfl rfl rfl ?_
  refine WL.neg rfl rfl rfl ?_
  refine WL.bin rfl rfl rfl rfl rfl ?_
  refine WL.set 66 (v' := .bool false) rfl (congrArg Value.bool (show (!decide ((addF (0 - frame17 f)).imm = IntKind.i64.wrap (0 - (frame17 f)))) = false from by rw [decide_eq_true (show (addF (0 - frame17 f)).imm = IntKind.i64.wrap (0 - (frame17 f)) from by rw [wrap64 (by omega)]; rfl)]; rfl)) ?_
  refine WL.pick (v := .bool false) rfl rfl rfl rfl rfl rfl ?_
  refine WL.nil ?_
  refine N.seq ?_
  refine W.condF rfl ?_
  refine W.skip ?_
  refine N.seq ?_
  refine W.seq ?_
  refine W.seq ?_
  refine W.region ?_
  refine WL.assign rfl rfl rfl ?_
  refine WL.nil ?_
  refine N.seq ?_
  refine W.block ?_
  refine W.loop (α := Nat) (fun (i : Nat) => [(0, .agg #[.string f.name, .int .i64 f.bind, .int .i64 f.params, .slice adbF f.blocks.length capbF]), (1, .pointer (some ⟨b1, 0, none⟩)), (3, .bool true), (4, .bool (func5 f)), (5, .int .i64 (frame17 f)), (6, .pointer (some ⟨b10, 0, none⟩)), (7, .int .i64 (i : Int)), (9, .bool true), (10, .agg #[.string f.name, .int .i64 f.bind, .int .i64 f.params, .slice adbF f.blocks.length capbF]), (11, .bool (func5 f)), (12, .bool (func5 f)), (13, .bool false), (14, .bool false), (15, .pointer (some ⟨b1, 3, none⟩)), (16, .slice adbF f.blocks.length capbF), (17, .int .i64 (f.blocks.length : Int)), (18, .bool (decide ((f.blocks.length : Int) = 0))), (19, .bool (decide ((f.blocks.length : Int) = 0))), (21, .agg #[.string f.name, .int .i64 f.bind, .int .i64 f.params, .slice adbF f.blocks.length capbF]), (22, .int .i64 (frame17 f)), (23, .agg #[.string f.name, .int .i64 f.bind, .int .i64 f.params, .slice adbF f.blocks.length capbF]), (24, .agg #[.string f.name, .slice ado (((func17 f).ops).length) capo, .slice adr ((func17 f).rels.length) capr]), (25, .int .i64 (frame17 f)), (26, .int .i64 ((frame17 f).tmod 16)), (27, .bool false), (28, .bool false), (29, .int .i64 (frame17 f)), (30, .bool false), (31, .bool false), (32, .bool false), (33, .int .i64 (frame17 f)), (34, .bool false), (35, .bool false), (36, .bool false), (37, .pointer (some ⟨b10, 1, none⟩)), (38, .slice ado (((func17 f).ops).length) capo), (39, .int .i64 (((func17 f).ops).length : Int)), (40, .bool false), (41, .bool false), (42, .bool false), (43, .pointer (some ⟨b10, 1, none⟩)), (44, .slice ado (((func17 f).ops).length) capo), (45, .pointer (some ⟨b13, o13 + 0 * 5, none⟩)), (46, .pointer (some ⟨b13, o13 + 0 * 5, none⟩)), (47, .int .i64 ((addF (0 - frame17 f)).kind)), (48, .bool false), (49, .bool false), (50, .bool false), (51, .pointer (some ⟨b10, 1, none⟩)), (52, .slice ado (((func17 f).ops).length) capo), (53, .pointer (some ⟨b13, o13 + 0 * 5, none⟩)), (54, .pointer (some ⟨b13, o13 + 0 * 5 + 1, none⟩)), (55, .int .i64 ((addF (0 - frame17 f)).rd)), (56, .bool false), (57, .bool false), (58, .bool false), (59, .pointer (some ⟨b10, 1, none⟩)), (60, .slice ado (((func17 f).ops).length) capo), (61, .pointer (some ⟨b13, o13 + 0 * 5, none⟩)), (62, .pointer (some ⟨b13, o13 + 0 * 5 + 4, none⟩)), (63, .int .i64 ((addF (0 - frame17 f)).imm)), (64, .int .i64 (frame17 f)), (65, .int .i64 (IntKind.i64.wrap (0 - (frame17 f)))), (66, .bool false), (67, .bool false)]) (fun (i : Nat) u => St w w8 u (roFrom ro w7 w8) [(b10, .cells #[.string f.name, .slice ado (((func17 f).ops).length) capo, .slice adr ((func17 f).rels.length) capr] 30 (0, 0)), (b1, .cells #[.string f.name, .int .i64 f.bind, .int .i64 f.params, .slice adbF f.blocks.length capbF] 24 (0, 0))] [] ∧ 1 ≤ i) (fun (i : Nat) => (func17 f).ops.length - i) 1 ⟨rfl, rfl, rfl, rfl, rfl, rfl, rfl, rfl, rfl, rfl, rfl, rfl, rfl, rfl, rfl, rfl, rfl, rfl, rfl, rfl, rfl, rfl, rfl, rfl, rfl, rfl, rfl, rfl, rfl, rfl, rfl, rfl, rfl, rfl, rfl, rfl, rfl, rfl, rfl, rfl, rfl, rfl, rfl, rfl, rfl, rfl, rfl, rfl, rfl, rfl, rfl, rfl, rfl, rfl, rfl, rfl, rfl, rfl, rfl, rfl, rfl, rfl, rfl, rfl, rfl, trivial⟩ ⟨hS, Nat.le_refl _⟩ ?_
  clear hS
  rintro i w14 ⟨hS, hi1⟩
  refine W.seq ?_
  refine W.seq ?_
  refine W.region ?_
  refine WL.move rfl rfl rfl ?_
  refine WL.fieldAddr fo_30_1 rfl rfl rfl ?_
  refine WL.load1 (v := .slice ado (((func17 f).ops).length) capo) one_27 rfl rfl rfl (hS.cell 0 rfl rfl) ?_
  refine WL.lenSlice Tryd.underlying27 rfl rfl rfl ?_
  refine WL.bin rfl rfl rfl rfl rfl ?_
  refine WL.nil ?_
  refine N.seq ?_
  refine W.cond rfl (fun hc15 => ?_) (fun hc15 => ?_)
  ·
   have hc15p : (i : Int) < (((func17 f).ops).length : Int) := by simpa using hc15
   refine W.skip ?_
   refine N.seq ?_
   refine W.seq ?_
   refine W.block ?_
   refine W.seq ?_
   refine W.region ?_
   refine WL.fieldAddr fo_30_1 rfl rfl rfl ?_
   refine WL.load1 (v := .slice ado (((func17 f).ops).length) capo) one_27 rfl rfl rfl (hS.cell 0 rfl rfl) ?_
   refine WL.move rfl rfl rfl ?_
   have hj16 : i < (func17 f).ops.length := by omega
   obtain ⟨x16, hx16⟩ : ∃ zz, (func17 f).ops[i]? = some zz := ⟨_, List.getElem?_eq_getElem hj16⟩
   obtain ⟨b16, o16, cs16, hE16, hr16, hl16, hc16, hQ16⟩ := hood i _ hx16
   obtain ⟨rfl, hop16⟩ := hQ16
   refine WL.indexAddrE (j := i) Tryd.underlying27 isz_36 rfl rfl rfl rfl hj16 hE16 ?_
   refine WL.loadN (cs := [.int .i64 x16.kind, .int .i64 x16.rd, .int .i64 x16.a, .int .i64 x16.b, .int .i64 x16.imm]) agg_36 rfl rfl rfl rfl (hS.roCells hr16 hc16) ?_
   refine WL.alloc (tyZero_spec zer_36) rfl rfl hS ?_
   clear hS; intro w18 b17 hb_b17 hS
   refine WL.store (cs := [.int .i64 x16.kind, .int .i64 x16.rd, .int .i64 x16.a, .int .i64 x16.b, .int .i64 x16.imm]) (c' := #[.int .i64 x16.kind, .int .i64 x16.rd, .int .i64 x16.a, .int .i64 x16.b, .int .i64 x16.imm]) (L' := [(b17, .cells #[.int .i64 x16.kind, .int .i64 x16.rd, .int .i64 x16.a, .int .i64 x16.b, .int .i64 x16.imm] 36 (0, 0)), (b10, .cells #[.string f.name, .slice ado (((func17 f).ops).length) capo, .slice adr ((func17 f).rels.length) capr] 30 (0, 0)), (b1, .cells #[.string f.name, .int .i64 f.bind, .int .i64 f.params, .slice adbF f.blocks.length capbF] 24 (0, 0))]) 0 rfl rfl rfl rfl siz_36 rfl rfl rfl rfl rfl hS ?_
   clear hS; intro w19 hS
   refine WL.nil ?_
   refine N.seq ?_
   refine W.seq ?_
   refine W.seq ?_
   have hoi := hop16.2.2.2.2; unfold inI at hoi; have hfk := hff.2.2 i _ hi1 hx16
   refine W.region ?_
   refine WL.fieldAddr fo_36_0 rfl rfl rfl ?_
   refine WL.load1 (v := .int .i64 x16.kind) one_3 rfl rfl rfl (hS.cell 0 rfl rfl) ?_
   refine WL.bin rfl rfl rfl rfl rfl ?_
   refine WL.move rfl rfl rfl ?_
   rcases (Bool.eq_false_or_eq_true (decide (x16.kind = 30))).symm with hg20 | hg20
   ·
    refine WL.set 82 (v' := .bool false) rfl (by rw [hg20]) ?_
    refine WL.set 83 (v' := .bool false) rfl (by rw [hg20]) ?_
    have hg20p : ¬ (x16.kind = 30) := by simpa using hg20
    refine WL.skp rfl rfl ?_
    refine WL.skp rfl rfl ?_
    refine WL.skp rfl rfl ?_
    refine WL.skp rfl rfl ?_
    refine WL.skp rfl rfl ?_
    refine WL.skp rfl rfl ?_
    refine WL.skp rfl rfl ?_
    refine WL.skp rfl rfl ?_
    refine WL.skp rfl rfl ?_
    refine WL.skp rfl rfl ?_
    refine WL.skp rfl rfl ?_
    refine WL.skp rfl rfl ?_
    refine WL.skp rfl rfl ?_
    refine WL.skp rfl rfl ?_
    refine WL.skp rfl rfl ?_
    refine WL.skp rfl rfl ?_
    refine WL.skp rfl rfl ?_
    refine WL.skp rfl rfl ?_
    refine WL.skp rfl rfl ?_
    refine WL.skp rfl rfl ?_
    refine WL.skp rfl rfl ?_
    refine WL.skp rfl rfl ?_
    refine WL.skp rfl rfl ?_
    refine WL.skp rfl rfl ?_
    refine WL.skp rfl rfl ?_
    refine WL.skp rfl rfl ?_
    refine WL.skp rfl rfl ?_
    refine WL.skp rfl rfl ?_
    refine WL.skp rfl rfl ?_
    refine WL.pick (v := .bool false) rfl rfl rfl rfl rfl rfl ?_
    refine WL.nil ?_
    refine N.seq ?_
    refine W.condF rfl ?_
    refine W.skip ?_
    refine N.seq ?_
    refine W.seq ?_
    refine W.region ?_
    refine WL.fieldAddr fo_36_1 rfl rfl rfl ?_
    refine WL.load1 (v := .int .i64 x16.rd) one_3 rfl rfl rfl (hS.cell 0 rfl rfl) ?_
    refine WL.bin rfl rfl rfl rfl rfl ?_
    refine WL.move rfl rfl rfl ?_
    rcases (Bool.eq_false_or_eq_true (decide (x16.rd = 2))).symm with hg21 | hg21
    ·
     refine WL.set 116 (v' := .bool false) rfl (by rw [hg21]) ?_
     refine WL.set 117 (v' := .bool false) rfl (by rw [hg21]) ?_
     have hg21p : ¬ (x16.rd = 2) := by simpa using hg21
     refine WL.skp rfl rfl ?_
     refine WL.skp rfl rfl ?_
     refine WL.skp rfl rfl ?_
     refine WL.skp rfl rfl ?_
     refine WL.skp rfl rfl ?_
     refine WL.skp rfl rfl ?_
     refine WL.skp rfl rfl ?_
     refine WL.skp rfl rfl ?_
     refine WL.skp rfl rfl ?_
     refine WL.skp rfl rfl ?_
     refine WL.skp rfl rfl ?_
     refine WL.skp rfl rfl ?_
     refine WL.skp rfl rfl ?_
     refine WL.skp rfl rfl ?_
     refine WL.skp rfl rfl ?_
     refine WL.skp rfl rfl ?_
     refine WL.pick (v := .bool false) rfl rfl rfl rfl rfl rfl ?_
     refine WL.nil ?_
     refine N.seq ?_
     refine W.condF rfl ?_
     refine W.skip ?_
     refine N.blk ?_
     refine N.seq ?_
     refine W.region ?_
     refine WL.move rfl rfl rfl ?_
     refine WL.add (c := (i : Int) + 1) rfl rfl rfl rfl (rfl) (by omega) ?_
     refine WL.assign rfl rfl rfl ?_
     refine WL.nil ?_
     have hS := hS.dropN 1
     exact N.loop (i + 1) ⟨rfl, rfl, rfl, rfl, rfl, rfl, rfl, rfl, rfl, rfl, rfl, rfl, rfl, rfl, rfl, rfl, rfl, rfl, rfl, rfl, rfl, rfl, rfl, rfl, rfl, rfl, rfl, rfl, rfl, rfl, rfl, rfl, rfl, rfl, rfl, rfl, rfl, rfl, rfl, rfl, rfl, rfl, rfl, rfl, rfl, rfl, rfl, rfl, rfl, rfl, rfl, rfl, rfl, rfl, rfl, rfl, rfl, rfl, rfl, rfl, rfl, rfl, rfl, rfl, rfl, trivial⟩ ⟨hS, by omega⟩ (by first | omega | (simp only; omega))
    refine WL.set 116 (v' := .bool true) rfl (by rw [hg21]) ?_
    refine WL.set 117 (v' := .bool true) rfl (by rw [hg21]) ?_
    have hg21p : x16.rd = 2 := by simpa using hg21
    obtain ⟨pA, hpA, hpB⟩ := hfk.2 hg21p
    refine WL.move rfl rfl rfl ?_
    refine WL.add (c := (i : Int) + 1) rfl rfl rfl rfl (rfl) (by omega) ?_
    refine WL.fieldAddr fo_30_1 rfl rfl rfl ?_
    refine WL.load1 (v := .slice ado (((func17 f).ops).length) capo) one_27 rfl rfl rfl (hS.cell 1 rfl rfl) ?_
    refine WL.lenSlice Tryd.underlying27 rfl rfl rfl ?_
    refine WL.bin rfl rfl rfl rfl rfl ?_
    refine WL.set 123 (v' := .bool false) rfl (congrArg Value.bool (show (decide ((((func17 f).ops).length : Int) ≤ (i : Int) + 1)) = false from decide_eq_false (show ¬ ((((func17 f).ops).length : Int) ≤ (i : Int) + 1) from by have := (List.getElem?_eq_some_iff.1 hpA).1; omega))) ?_
    refine WL.move rfl rfl rfl ?_
    refine WL.fieldAddr fo_30_1 rfl rfl rfl ?_
    refine WL.load1 (v := .slice ado (((func17 f).ops).length) capo) one_27 rfl rfl rfl (hS.cell 1 rfl rfl) ?_
    refine WL.move rfl rfl rfl ?_
    refine WL.add (c := (i : Int) + 1) rfl rfl rfl rfl (rfl) (by omega) ?_
    have hj22 : (i + 1) < (func17 f).ops.length := (List.getElem?_eq_some_iff.1 hpA).1
    have hx22 := hpA
    obtain ⟨b22, o22, cs22, hE22, hr22, hl22, hc22, hQ22⟩ := hood (i + 1) _ hpA
    obtain ⟨rfl, hop22⟩ := hQ22
    refine WL.set 128 (v' := .int .i64 (((i + 1) : Nat) : Int)) rfl (congrArg _ (by omega)) ?_
    refine WL.indexAddrE (j := (i + 1)) Tryd.underlying27 isz_36 rfl rfl rfl rfl hj22 hE22 ?_
    refine WL.fieldAddr fo_36_0 rfl rfl rfl ?_
    refine WL.load1 (v := .int .i64 pA.kind) one_3 rfl rfl rfl (hS.roCells hr22 hc22 0 _ rfl) ?_
    refine WL.bin rfl rfl rfl rfl rfl ?_
    refine WL.set 132 (v' := .bool false) rfl (congrArg Value.bool (show (!decide (pA.kind = 30)) = false from by rw [decide_eq_true (show pA.kind = 30 from hpB)]; rfl)) ?_
    refine WL.pick (v := .bool false) rfl rfl rfl rfl rfl rfl ?_
    refine WL.pick (v := .bool false) rfl rfl rfl rfl rfl rfl ?_
    refine WL.nil ?_
    refine N.seq ?_
    refine W.condF rfl ?_
    refine W.skip ?_
    refine N.blk ?_
    refine N.seq ?_
    refine W.region ?_
    refine WL.move rfl rfl rfl ?_
    refine WL.add (c := (i : Int) + 1) rfl rfl rfl rfl (rfl) (by omega) ?_
    refine WL.assign rfl rfl rfl ?_
    refine WL.nil ?_
    have hS := hS.dropN 1
    exact N.loop (i + 1) ⟨rfl, rfl, rfl, rfl, rfl, rfl, rfl, rfl, rfl, rfl, rfl, rfl, rfl, rfl, rfl, rfl, rfl, rfl, rfl, rfl, rfl, rfl, rfl, rfl, rfl, rfl, rfl, rfl, rfl, rfl, rfl, rfl, rfl, rfl, rfl, rfl, rfl, rfl, rfl, rfl, rfl, rfl, rfl, rfl, rfl, rfl, rfl, rfl, rfl, rfl, rfl, rfl, rfl, rfl, rfl, rfl, rfl, rfl, rfl, rfl, rfl, rfl, rfl, rfl, rfl, trivial⟩ ⟨hS, by omega⟩ (by first | omega | (simp only; omega))
   refine WL.set 82 (v' := .bool true) rfl (by rw [hg20]) ?_
   refine WL.set 83 (v' := .bool true) rfl (by rw [hg20]) ?_
   have hg20p : x16.kind = 30 := by simpa using hg20
   refine WL.fieldAddr fo_30_1 rfl rfl rfl ?_
   refine WL.load1 (v := .slice ado (((func17 f).ops).length) capo) one_27 rfl rfl rfl (hS.cell 1 rfl rfl) ?_
   refine WL.move rfl rfl rfl ?_
   refine WL.sub_ (c := (i : Int) - 1) rfl rfl rfl rfl (rfl) (by omega) ?_
   have hpv := hfk.1 hg20p
   have hj23 : (i - 1) < (func17 f).ops.length := (List.getElem?_eq_some_iff.1 hpv).1
   have hx23 := hpv
   obtain ⟨b23, o23, cs23, hE23, hr23, hl23, hc23, hQ23⟩ := hood (i - 1) _ hpv
   obtain ⟨rfl, hop23⟩ := hQ23
   refine WL.set 87 (v' := .int .i64 (((i - 1) : Nat) : Int)) rfl (congrArg _ (by omega)) ?_
   refine WL.indexAddrE (j := (i - 1)) Tryd.underlying27 isz_36 rfl rfl rfl rfl hj23 hE23 ?_
   refine WL.fieldAddr fo_36_0 rfl rfl rfl ?_
   refine WL.load1 (v := .int .i64 ((addF (frame17 f)).kind)) one_3 rfl rfl rfl (hS.roCells hr23 hc23 0 _ rfl) ?_
   refine WL.bin rfl rfl rfl rfl rfl ?_
   refine WL.set 91 (v' := .bool false) rfl (congrArg Value.bool (show (!decide ((addF (frame17 f)).kind = 12)) = false from by rw [decide_eq_true (show (addF (frame17 f)).kind = 12 from rfl)]; rfl)) ?_
   refine WL.move rfl rfl rfl ?_
   refine WL.fieldAddr fo_30_1 rfl rfl rfl ?_
   refine WL.load1 (v := .slice ado (((func17 f).ops).length) capo) one_27 rfl rfl rfl (hS.cell 1 rfl rfl) ?_
   refine WL.move rfl rfl rfl ?_
   refine WL.sub_ (c := (i : Int) - 1) rfl rfl rfl rfl (rfl) (by omega) ?_
   refine WL.set 96 (v' := .int .i64 (((i - 1) : Nat) : Int)) rfl (congrArg _ (by omega)) ?_
   refine WL.indexAddrE (j := (i - 1)) Tryd.underlying27 isz_36 rfl rfl rfl rfl hj23 hE23 ?_
   refine WL.fieldAddr fo_36_1 rfl rfl rfl ?_
   refine WL.load1 (v := .int .i64 ((addF (frame17 f)).rd)) one_3 rfl rfl rfl (hS.roCells hr23 hc23 1 _ rfl) ?_
   refine WL.bin rfl rfl rfl rfl rfl ?_
   refine WL.set 100 (v' := .bool false) rfl (congrArg Value.bool (show (!decide ((addF (frame17 f)).rd = 2)) = false from by rw [decide_eq_true (show (addF (frame17 f)).rd = 2 from rfl)]; rfl)) ?_
   refine WL.pick (v := .bool false) rfl rfl rfl rfl rfl rfl ?_
   refine WL.move rfl rfl rfl ?_
   refine WL.fieldAddr fo_30_1 rfl rfl rfl ?_
   refine WL.load1 (v := .slice ado (((func17 f).ops).length) capo) one_27 rfl rfl rfl (hS.cell 1 rfl rfl) ?_
   refine WL.move rfl rfl rfl ?_
   refine WL.sub_ (c := (i : Int) - 1) rfl rfl rfl rfl (rfl) (by omega) ?_
   refine WL.set 106 (v' := .int .i64 (((i - 1) : Nat) : Int)) rfl (congrArg _ (by omega)) ?_
   refine WL.indexAddrE (j := (i - 1)) Tryd.underlying27 isz_36 rfl rfl rfl rfl hj23 hE23 ?_
   refine WL.fieldAddr fo_36_4 rfl rfl rfl ?_
   refine WL.load1 (v := .int .i64 ((addF (frame17 f)).imm)) one_2 rfl rfl rfl (hS.roCells hr23 hc23 4 _ rfl) ?_
   refine WL.move rfl rfl rfl ?_
   refine WL.bin rfl rfl rfl rfl rfl ?_
   refine WL.set 111 (v' := .bool false) rfl (congrArg Value.bool (show (!decide ((addF (frame17 f)).imm = frame17 f)) = false from by rw [decide_eq_true (show (addF (frame17 f)).imm = frame17 f from rfl)]; rfl)) ?_
   refine WL.pick (v := .bool false) rfl rfl rfl rfl rfl rfl ?_
   refine WL.pick (v := .bool false) rfl rfl rfl rfl rfl rfl ?_
   refine WL.nil ?_
   refine N.seq ?_
   refine W.condF rfl ?_
   refine W.skip ?_
   refine N.seq ?_
   refine W.seq ?_
   refine W.region ?_
   refine WL.fieldAddr fo_36_1 rfl rfl rfl ?_
   refine WL.load1 (v := .int .i64 x16.rd) one_3 rfl rfl rfl (hS.cell 0 rfl rfl) ?_
   refine WL.bin rfl rfl rfl rfl rfl ?_
   refine WL.move rfl rfl rfl ?_
   rcases (Bool.eq_false_or_eq_true (decide (x16.rd = 2))).symm with hg24 | hg24
   ·
    refine WL.set 116 (v' := .bool false) rfl (by rw [hg24]) ?_
    refine WL.set 117 (v' := .bool false) rfl (by rw [hg24]) ?_
    have hg24p : ¬ (x16.rd = 2) := by simpa using hg24
    refine WL.skp rfl rfl ?_
    refine WL.skp rfl rfl ?_
    refine WL.skp rfl rfl ?_
    refine WL.skp rfl rfl ?_
    refine WL.skp rfl rfl ?_
    refine WL.skp rfl rfl ?_
    refine WL.skp rfl rfl ?_
    refine WL.skp rfl rfl ?_
    refine WL.skp rfl rfl ?_
    refine WL.skp rfl rfl ?_
    refine WL.skp rfl rfl ?_
    refine WL.skp rfl rfl ?_
    refine WL.skp rfl rfl ?_
    refine WL.skp rfl rfl ?_
    refine WL.skp rfl rfl ?_
    refine WL.skp rfl rfl ?_
    refine WL.pick (v := .bool false) rfl rfl rfl rfl rfl rfl ?_
    refine WL.nil ?_
    refine N.seq ?_
    refine W.condF rfl ?_
    refine W.skip ?_
    refine N.blk ?_
    refine N.seq ?_
    refine W.region ?_
    refine WL.move rfl rfl rfl ?_
    refine WL.add (c := (i : Int) + 1) rfl rfl rfl rfl (rfl) (by omega) ?_
    refine WL.assign rfl rfl rfl ?_
    refine WL.nil ?_
    have hS := hS.dropN 1
    exact N.loop (i + 1) ⟨rfl, rfl, rfl, rfl, rfl, rfl, rfl, rfl, rfl, rfl, rfl, rfl, rfl, rfl, rfl, rfl, rfl, rfl, rfl, rfl, rfl, rfl, rfl, rfl, rfl, rfl, rfl, rfl, rfl, rfl, rfl, rfl, rfl, rfl, rfl, rfl, rfl, rfl, rfl, rfl, rfl, rfl, rfl, rfl, rfl, rfl, rfl, rfl, rfl, rfl, rfl, rfl, rfl, rfl, rfl, rfl, rfl, rfl, rfl, rfl, rfl, rfl, rfl, rfl, rfl, trivial⟩ ⟨hS, by omega⟩ (by first | omega | (simp only; omega))
   refine WL.set 116 (v' := .bool true) rfl (by rw [hg24]) ?_
   refine WL.set 117 (v' := .bool true) rfl (by rw [hg24]) ?_
   have hg24p : x16.rd = 2 := by simpa using hg24
   obtain ⟨pA, hpA, hpB⟩ := hfk.2 hg24p
   refine WL.move rfl rfl rfl ?_
   refine WL.add (c := (i : Int) + 1) rfl rfl rfl rfl (rfl) (by omega) ?_
   refine WL.fieldAddr fo_30_1 rfl rfl rfl ?_
   refine WL.load1 (v := .slice ado (((func17 f).ops).length) capo) one_27 rfl rfl rfl (hS.cell 1 rfl rfl) ?_
   refine WL.lenSlice Tryd.underlying27 rfl rfl rfl ?_
   refine WL.bin rfl rfl rfl rfl rfl ?_
   refine WL.set 123 (v' := .bool false) rfl (congrArg Value.bool (show (decide ((((func17 f).ops).length : Int) ≤ (i : Int) + 1)) = false from decide_eq_false (show ¬ ((((func17 f).ops).length : Int) ≤ (i : Int) + 1) from by have := (List.getElem?_eq_some_iff.1 hpA).1; omega))) ?_
   refine WL.move rfl rfl rfl ?_
   refine WL.fieldAddr fo_30_1 rfl rfl rfl ?_
   refine WL.load1 (v := .slice ado (((func17 f).ops).length) capo) one_27 rfl rfl rfl (hS.cell 1 rfl rfl) ?_
   refine WL.move rfl rfl rfl ?_
   refine WL.add (c := (i : Int) + 1) rfl rfl rfl rfl (rfl) (by omega) ?_
   have hj25 : (i + 1) < (func17 f).ops.length := (List.getElem?_eq_some_iff.1 hpA).1
   have hx25 := hpA
   obtain ⟨b25, o25, cs25, hE25, hr25, hl25, hc25, hQ25⟩ := hood (i + 1) _ hpA
   obtain ⟨rfl, hop25⟩ := hQ25
   refine WL.set 128 (v' := .int .i64 (((i + 1) : Nat) : Int)) rfl (congrArg _ (by omega)) ?_
   refine WL.indexAddrE (j := (i + 1)) Tryd.underlying27 isz_36 rfl rfl rfl rfl hj25 hE25 ?_
   refine WL.fieldAddr fo_36_0 rfl rfl rfl ?_
   refine WL.load1 (v := .int .i64 pA.kind) one_3 rfl rfl rfl (hS.roCells hr25 hc25 0 _ rfl) ?_
   refine WL.bin rfl rfl rfl rfl rfl ?_
   refine WL.set 132 (v' := .bool false) rfl (congrArg Value.bool (show (!decide (pA.kind = 30)) = false from by rw [decide_eq_true (show pA.kind = 30 from hpB)]; rfl)) ?_
   refine WL.pick (v := .bool false) rfl rfl rfl rfl rfl rfl ?_
   refine WL.pick (v := .bool false) rfl rfl rfl rfl rfl rfl ?_
   refine WL.nil ?_
   refine N.seq ?_
   refine W.condF rfl ?_
   refine W.skip ?_
   refine N.blk ?_
   refine N.seq ?_
   refine W.region ?_
   refine WL.move rfl rfl rfl ?_
   refine WL.add (c := (i : Int) + 1) rfl rfl rfl rfl (rfl) (by omega) ?_
   refine WL.assign rfl rfl rfl ?_
   refine WL.nil ?_
   have hS := hS.dropN 1
   exact N.loop (i + 1) ⟨rfl, rfl, rfl, rfl, rfl, rfl, rfl, rfl, rfl, rfl, rfl, rfl, rfl, rfl, rfl, rfl, rfl, rfl, rfl, rfl, rfl, rfl, rfl, rfl, rfl, rfl, rfl, rfl, rfl, rfl, rfl, rfl, rfl, rfl, rfl, rfl, rfl, rfl, rfl, rfl, rfl, rfl, rfl, rfl, rfl, rfl, rfl, rfl, rfl, rfl, rfl, rfl, rfl, rfl, rfl, rfl, rfl, rfl, rfl, rfl, rfl, rfl, rfl, rfl, rfl, trivial⟩ ⟨hS, by omega⟩ (by first | omega | (simp only; omega))
  have hc15p : ¬ ((i : Int) < (((func17 f).ops).length : Int)) := by simpa using hc15
  refine W.exit ?_
  refine X.seq ?_
  refine X.loop ?_
  refine X.blk ?_
  refine N.seq ?_
  refine W.seq ?_
  refine W.region ?_
  refine WL.move rfl rfl rfl ?_
  refine WL.assign rfl rfl rfl ?_
  refine WL.nil ?_
  refine N.seq ?_
  refine Fin.ret1 rfl (v := .bool true) rfl ?_
  exact ⟨rfl, hS.below⟩
 refine WL.set 13 (v' := .bool true) rfl (by rw [hg5]) ?_
 refine WL.set 14 (v' := .bool true) rfl (by rw [hg5]) ?_
 refine WL.skp rfl rfl ?_
 refine WL.skp rfl rfl ?_
 refine WL.skp rfl rfl ?_
 refine WL.skp rfl rfl ?_
 refine WL.pick (v := .bool true) rfl rfl rfl rfl rfl rfl ?_
 refine WL.nil ?_
 refine N.seq ?_
 refine W.condT rfl ?_
 refine W.seq ?_
 refine W.region ?_
 refine WL.move rfl rfl rfl ?_
 refine WL.assign rfl rfl rfl ?_
 refine WL.nil ?_
 refine N.seq ?_
 refine Fin.ret1 rfl (v := .bool true) rfl ?_
 exact ⟨rfl, hS.below⟩

end Go.Proofs.YtcmmhfknkldmcaaDoor
