/-
  Contracts of layer 17 (gen). No condition beyond those that each theorem states.
-/
import Derived.Test.YtcmmhfknkldmcaaDoorG11
namespace Go.Proofs.YtcmmhfknkldmcaaDoor
open Go.RowKit
theorem fo_36_0 : fOff Tryd.prog 36 0 0 = true := by kernel_rfl
theorem fo_36_2 : fOff Tryd.prog 36 2 2 = true := by kernel_rfl
theorem siz_36 : tySize Tryd.prog 36 5 = true := by kernel_rfl
set_option maxRecDepth 10000 in
set_option maxHeartbeats 4000000 in
theorem genInside_ret (f : DFunc) (cf : List Value) {w : World} {ro : Nat → Prop} (hro : ∀ b, ro b → b < w.heap.size) (hx : FuncC ro w cf f) (hok : okFunc f) (hr0 : ro 0) (hc0 : CellsAt w 0 0 [.int .i64 0, .int .i64 0, .int .i64 1, .int .i64 2, .int .i64 9, .int .i64 8, .int .i64 7, .int .i64 5, .int .i64 3, .int .i64 6, .int .i64 4, .int .i64 2]) : Ret Tryd.prog 6 #[.agg cf.toArray] w fun v w' => v = .bool true ∧ Below w.heap.size w w' := by
 obtain ⟨sbF, rfl, hblF, hnmF, hbdF, hprF⟩ := id hx
 obtain ⟨adbF, capbF, rfl, hbkFa, hbkFb, hbkFc, hbkFd⟩ := id hblF
 have hbkFm : f.blocks.length ≤ 9223372036854775807 := by have h1 := hbkFa; have h2 := hbkFb; unfold maxLen at h2; omega
 refine Ret.enter (P := Tryd.prog) (n := 69) (args := [.agg #[.string f.name, .int .i64 f.bind, .int .i64 f.params, .slice adbF f.blocks.length capbF]]) (σ := [(0, .agg #[.string f.name, .int .i64 f.bind, .int .i64 f.params, .slice adbF f.blocks.length capbF])]) Tryd.func6 rfl rfl rfl rfl ?_
 have hS := St.start (ro := ro) hro
 have hsub : ∀ b, ro b → ro b ∨ w.heap.size ≤ b := fun _ h => .inl h
 have halT : Alike ro w ro w := Alike.refl
 refine W.seq ?_
 refine W.region ?_
 refine WL.box (v := .agg #[.string f.name, .int .i64 f.bind, .int .i64 f.params, .slice adbF f.blocks.length capbF]) (cs := [.string f.name, .int .i64 f.bind, .int .i64 f.params, .slice adbF f.blocks.length capbF]) rfl rfl rfl rfl hS ?_
 clear hS; intro w2 b1 hb_b1 hS
 refine WL.assign rfl rfl rfl ?_
 refine WL.nil ?_
 refine N.seq ?_
 refine W.seq ?_
 refine W.region ?_
 refine WL.callF (vs := []) Tryd.func8 (by kernel_rfl) rfl rfl rfl (shown17_ret (ro := ro) (fun b hb => (hS.snap b hb).1)) ?_
 rintro v w3 ⟨rfl, hbl⟩
 replace hS := hS.grow hbl
 refine WL.assign rfl rfl rfl ?_
 refine WL.nil ?_
 refine N.seq ?_
 refine W.seq ?_
 refine W.region ?_
 refine WL.loadN (cs := [.string f.name, .int .i64 f.bind, .int .i64 f.params, .slice adbF f.blocks.length capbF]) agg_24 rfl rfl rfl rfl (hS.cells 0 (m := 4) rfl rfl) ?_
 refine WL.callF (vs := [.agg #[.string f.name, .int .i64 f.bind, .int .i64 f.params, .slice adbF f.blocks.length capbF]]) Tryd.func9 (by kernel_rfl) rfl rfl rfl (func5_ret f _ (ro := ro) (fun b hb => (hS.snap b hb).1) (hx.keep hS.alike) hok) ?_
 rintro v w4 ⟨rfl, hbl⟩
 replace hS := hS.grow hbl
 refine WL.assign rfl rfl rfl ?_
 refine WL.nil ?_
 refine N.seq ?_
 refine W.seq ?_
 refine W.seq ?_
 refine W.region ?_
 refine WL.move rfl rfl rfl ?_
 refine WL.not rfl rfl rfl ?_
 refine WL.move rfl rfl rfl ?_
 rcases (Bool.eq_false_or_eq_true (!(func5 f))).symm with hg5 | hg5
 ·
  refine WL.set 13 (v' := .bool false) rfl (by rw [hg5]) ?_
  refine WL.set 14 (v' := .bool false) rfl (by rw [hg5]) ?_
  refine WL.fieldAddr fo_24_3 rfl rfl rfl ?_
  refine WL.load1 (v := .slice adbF f.blocks.length capbF) one_22 rfl rfl rfl (hS.cell 0 rfl rfl) ?_
  refine WL.lenSlice Tryd.underlying22 rfl rfl rfl ?_
  refine WL.bin rfl rfl rfl rfl rfl ?_
  refine WL.pick (v := .bool (decide ((f.blocks.length : Int) = 0))) rfl rfl rfl rfl rfl rfl ?_
  refine WL.nil ?_
  refine N.seq ?_
  refine W.cond rfl (fun hc6 => ?_) (fun hc6 => ?_)
  ·
   have hc6p : (f.blocks.length : Int) = 0 := by simpa using hc6
   refine W.seq ?_
   refine W.region ?_
   refine WL.move rfl rfl rfl ?_
   refine WL.assign rfl rfl rfl ?_
   refine WL.nil ?_
   refine N.seq ?_
   refine Fin.ret1 rfl (v := .bool true) rfl ?_
   exact ⟨rfl, hS.below⟩
  have hc6p : ¬ ((f.blocks.length : Int) = 0) := by simpa using hc6
  refine W.skip ?_
  refine N.seq ?_
  refine W.seq ?_
  have hf5 : func5 f = true := by simpa using hg5
  have hokG := okg_of5 hf5 hx; have hfr := frame_in hokG; have hff := frame_facts hokG
  refine W.region ?_
  refine WL.loadN (cs := [.string f.name, .int .i64 f.bind, .int .i64 f.params, .slice adbF f.blocks.length capbF]) agg_24 rfl rfl rfl rfl (hS.cells 0 (m := 4) rfl rfl) ?_
  refine WL.callF (vs := [.agg #[.string f.name, .int .i64 f.bind, .int .i64 f.params, .slice adbF f.blocks.length capbF]]) Tryd.func13 (by kernel_rfl) rfl rfl rfl (frame_ret f _ (ro := ro) (fun b hb => (hS.snap b hb).1) (hx.keep hS.alike) hokG) ?_
  rintro v w7 ⟨rfl, hbl⟩
  replace hS := hS.grow hbl
  refine WL.assign rfl rfl rfl ?_
  refine WL.nil ?_
  refine N.seq ?_
  refine W.seq ?_
  refine W.region ?_
  refine WL.loadN (cs := [.string f.name, .int .i64 f.bind, .int .i64 f.params, .slice adbF f.blocks.length capbF]) agg_24 rfl rfl rfl rfl (hS.cells 0 (m := 4) rfl rfl) ?_
  refine WL.callF (vs := [.agg #[.string f.name, .int .i64 f.bind, .int .i64 f.params, .slice adbF f.blocks.length capbF]]) Tryd.func10 (by kernel_rfl) rfl rfl rfl (func_ret f _ (ro := ro) (fun b hb => (hS.snap b hb).1) (hx.keep hS.alike) hokG hr0 (hS.roCells hr0 hc0)) ?_
  rintro v w8 ⟨so, sr, rfl, hso, hsr, hko, hkr, hbl⟩
  have hal9 := hS.alikeTo hbl (ro' := (roFrom ro w7 w8)) (fun b hb => .inl hb)
  replace hsub : ∀ b, (roFrom ro w7 w8) b → ro b ∨ w.heap.size ≤ b := fun b hb => hb.elim (hsub b) (fun h => .inr (Nat.le_trans hS.below.size h.1))
  replace halT := halT.trans hal9
  replace hx := hx.keep hal9
  replace hbkFd : Elems (roFrom ro w7 w8) w8 8 (BlockC (roFrom ro w7 w8) w8) adbF f.blocks := hbkFd.keep hal9 (fun _ _ h => h.keep hal9)
  replace hblF : SlV (roFrom ro w7 w8) w8 8 (BlockC (roFrom ro w7 w8) w8) (.slice adbF f.blocks.length capbF) f.blocks := SlV.keep hblF hal9 (fun _ _ h => h.keep hal9)
  replace hc0 := hc0.keep (hal9 _ hr0).2
  replace hr0 := (hal9 _ hr0).1
  replace hS := hS.readNew hbl
  have hso2 : SlV (roFrom ro w7 w8) w8 5 OpC so (func17 f).ops := row_slv hso (oCells_chunks (func_ok hokG)) rfl (fun b hb => .inr (hko b hb))
  obtain ⟨ado, capo, rfl, hooa, hoob, hooc, hood⟩ := id hso2
  have hoom : ((func17 f).ops).length ≤ 9223372036854775807 := by have h1 := hooa; have h2 := hoob; unfold maxLen at h2; omega
  obtain ⟨adr, capr, rfl, hra, hrb, hrc⟩ := row_shape hsr
  refine WL.alloc (tyZero_spec zer_30) rfl rfl hS ?_
  clear hS; intro w11 b10 hb_b10 hS
  refine WL.store (cs := [.string f.name, .slice ado (((func17 f).ops).length) capo, .slice adr ((func17 f).rels.length) capr]) (c' := #[.string f.name, .slice ado (((func17 f).ops).length) capo, .slice adr ((func17 f).rels.length) capr]) (L' := [(b10, .cells #[.string f.name, .slice ado (((func17 f).ops).length) capo, .slice adr ((func17 f).rels.length) capr] 30 (0, 0)), (b1, .cells #[.string f.name, .int .i64 f.bind, .int .i64 f.params, .slice adbF f.blocks.length capbF] 24 (0, 0))]) 0 rfl rfl rfl rfl siz_30 rfl rfl rfl rfl rfl hS ?_
  clear hS; intro w12 hS
  refine WL.nil ?_
  refine N.seq ?_
  refine W.seq ?_
  refine W.seq ?_
  refine W.region ?_
  refine WL.assign rfl rfl rfl ?_
  refine WL.nil ?_
  refine N.seq ?_
  refine W.block ?_
  refine W.loop (α := Nat) (fun (i : Nat) => [(0, .agg #[.string f.name, .int .i64 f.bind, .int .i64 f.params, .slice adbF f.blocks.length capbF]), (1, .pointer (some ⟨b1, 0, none⟩)), (3, .bool true), (4, .bool (func5 f)), (5, .int .i64 (frame17 f)), (6, .pointer (some ⟨b10, 0, none⟩)), (7, .int .i64 (i : Int)), (9, .bool true), (10, .agg #[.string f.name, .int .i64 f.bind, .int .i64 f.params, .slice adbF f.blocks.length capbF]), (11, .bool (func5 f)), (12, .bool (func5 f)), (13, .bool false), (14, .bool false), (15, .pointer (some ⟨b1, 3, none⟩)), (16, .slice adbF f.blocks.length capbF), (17, .int .i64 (f.blocks.length : Int)), (18, .bool (decide ((f.blocks.length : Int) = 0))), (19, .bool (decide ((f.blocks.length : Int) = 0))), (21, .agg #[.string f.name, .int .i64 f.bind, .int .i64 f.params, .slice adbF f.blocks.length capbF]), (22, .int .i64 (frame17 f)), (23, .agg #[.string f.name, .int .i64 f.bind, .int .i64 f.params, .slice adbF f.blocks.length capbF]), (24, .agg #[.string f.name, .slice ado (((func17 f).ops).length) capo, .slice adr ((func17 f).rels.length) capr])]) (fun (i : Nat) u => St w w8 u (roFrom ro w7 w8) [(b10, .cells #[.string f.name, .slice ado (((func17 f).ops).length) capo, .slice adr ((func17 f).rels.length) capr] 30 (0, 0)), (b1, .cells #[.string f.name, .int .i64 f.bind, .int .i64 f.params, .slice adbF f.blocks.length capbF] 24 (0, 0))] [] ∧ i ≤ (func17 f).ops.length) (fun (i : Nat) => (func17 f).ops.length - i) 0 ⟨rfl, rfl, rfl, rfl, rfl, rfl, rfl, rfl, rfl, rfl, rfl, rfl, rfl, rfl, rfl, rfl, rfl, rfl, rfl, rfl, rfl, rfl, trivial⟩ ⟨hS, Nat.zero_le _⟩ ?_
  clear hS
  rintro i w13 ⟨hS, hil⟩
  refine W.seq ?_
  refine W.seq ?_
  refine W.region ?_
  refine WL.move rfl rfl rfl ?_
  refine WL.fieldAddr fo_30_1 rfl rfl rfl ?_
  refine WL.load1 (v := .slice ado (((func17 f).ops).length) capo) one_27 rfl rfl rfl (hS.cell 0 rfl rfl) ?_
  refine WL.lenSlice Tryd.underlying27 rfl rfl rfl ?_
  refine WL.bin rfl rfl rfl rfl rfl ?_
  refine WL.nil ?_
  refine N.seq ?_
  refine W.cond rfl (fun hc14 => ?_) (fun hc14 => ?_)
  ·
   have hc14p : (i : Int) < (((func17 f).ops).length : Int) := by simpa using hc14
   refine W.skip ?_
   refine N.seq ?_
   refine W.seq ?_
   refine W.block ?_
   refine W.seq ?_
   refine W.region ?_
   refine WL.fieldAddr fo_30_1 rfl rfl rfl ?_
   refine WL.load1 (v := .slice ado (((func17 f).ops).length) capo) one_27 rfl rfl rfl (hS.cell 0 rfl rfl) ?_
   refine WL.move rfl rfl rfl ?_
   have hj15 : i < (func17 f).ops.length := by omega
   obtain ⟨x15, hx15⟩ : ∃ zz, (func17 f).ops[i]? = some zz := ⟨_, List.getElem?_eq_getElem hj15⟩
   obtain ⟨b15, o15, cs15, hE15, hr15, hl15, hc15, hQ15⟩ := hood i _ hx15
   obtain ⟨rfl, hop15⟩ := hQ15
   refine WL.indexAddrE (j := i) Tryd.underlying27 isz_36 rfl rfl rfl rfl hj15 hE15 ?_
   refine WL.loadN (cs := [.int .i64 x15.kind, .int .i64 x15.rd, .int .i64 x15.a, .int .i64 x15.b, .int .i64 x15.imm]) agg_36 rfl rfl rfl rfl (hS.roCells hr15 hc15) ?_
   refine WL.alloc (tyZero_spec zer_36) rfl rfl hS ?_
   clear hS; intro w17 b16 hb_b16 hS
   refine WL.store (cs := [.int .i64 x15.kind, .int .i64 x15.rd, .int .i64 x15.a, .int .i64 x15.b, .int .i64 x15.imm]) (c' := #[.int .i64 x15.kind, .int .i64 x15.rd, .int .i64 x15.a, .int .i64 x15.b, .int .i64 x15.imm]) (L' := [(b16, .cells #[.int .i64 x15.kind, .int .i64 x15.rd, .int .i64 x15.a, .int .i64 x15.b, .int .i64 x15.imm] 36 (0, 0)), (b10, .cells #[.string f.name, .slice ado (((func17 f).ops).length) capo, .slice adr ((func17 f).rels.length) capr] 30 (0, 0)), (b1, .cells #[.string f.name, .int .i64 f.bind, .int .i64 f.params, .slice adbF f.blocks.length capbF] 24 (0, 0))]) 0 rfl rfl rfl rfl siz_36 rfl rfl rfl rfl rfl hS ?_
   clear hS; intro w18 hS
   refine WL.nil ?_
   refine N.seq ?_
   refine W.seq ?_
   have hoi := hop15.2.2.2.2; unfold inI at hoi
   refine W.region ?_
   refine WL.fieldAddr fo_36_0 rfl rfl rfl ?_
   refine WL.load1 (v := .int .i64 x15.kind) one_3 rfl rfl rfl (hS.cell 0 rfl rfl) ?_
   refine WL.bin rfl rfl rfl rfl rfl ?_
   refine WL.move rfl rfl rfl ?_
   rcases (Bool.eq_false_or_eq_true (decide (x15.kind = 19))).symm with hg19 | hg19
   ·
    refine WL.set 39 (v' := .bool false) rfl (by rw [hg19]) ?_
    refine WL.set 40 (v' := .bool false) rfl (by rw [hg19]) ?_
    have hg19p : ¬ (x15.kind = 19) := by simpa using hg19
    refine WL.fieldAddr fo_36_0 rfl rfl rfl ?_
    refine WL.load1 (v := .int .i64 x15.kind) one_3 rfl rfl rfl (hS.cell 0 rfl rfl) ?_
    refine WL.bin rfl rfl rfl rfl rfl ?_
    refine WL.pick (v := .bool (decide (x15.kind = 21))) rfl rfl rfl rfl rfl rfl ?_
    refine WL.move rfl rfl rfl ?_
    rcases (Bool.eq_false_or_eq_true (decide (x15.kind = 21))).symm with hg20 | hg20
    ·
     refine WL.set 43 (v' := .bool false) rfl (by rw [hg20]) ?_
     refine WL.set 44 (v' := .bool false) rfl (by rw [hg20]) ?_
     refine WL.set 45 (v' := .bool false) rfl (by rw [hg20]) ?_
     have hg20p : ¬ (x15.kind = 21) := by simpa using hg20
     refine WL.skp rfl rfl ?_
     refine WL.skp rfl rfl ?_
     refine WL.skp rfl rfl ?_
     refine WL.pick (v := .bool false) rfl rfl rfl rfl rfl rfl ?_
     refine WL.move rfl rfl rfl ?_
     refine WL.skp rfl rfl ?_
     refine WL.skp rfl rfl ?_
     refine WL.skp rfl rfl ?_
     refine WL.skp rfl rfl ?_
     refine WL.skp rfl rfl ?_
     refine WL.skp rfl rfl ?_
     refine WL.skp rfl rfl ?_
     refine WL.skp rfl rfl ?_
     refine WL.skp rfl rfl ?_
     refine WL.skp rfl rfl ?_
     refine WL.skp rfl rfl ?_
     refine WL.skp rfl rfl ?_
     refine WL.skp rfl rfl ?_
     refine WL.skp rfl rfl ?_
     refine WL.skp rfl rfl ?_
     refine WL.skp rfl rfl ?_
     refine WL.pick (v := .bool false) rfl rfl rfl rfl rfl rfl ?_
     refine WL.nil ?_
     refine N.seq ?_
     refine W.condF rfl ?_
     refine W.skip ?_
     refine N.blk ?_
     refine N.seq ?_
     refine W.region ?_
     refine WL.move rfl rfl rfl ?_
     refine WL.add (c := (i : Int) + 1) rfl rfl rfl rfl (rfl) (by omega) ?_
     refine WL.assign rfl rfl rfl ?_
     refine WL.nil ?_
     have hS := hS.dropN 1
     exact N.loop (i + 1) ⟨rfl, rfl, rfl, rfl, rfl, rfl, rfl, rfl, rfl, rfl, rfl, rfl, rfl, rfl, rfl, rfl, rfl, rfl, rfl, rfl, rfl, rfl, trivial⟩ ⟨hS, by omega⟩ (by first | omega | (simp only; omega))
    refine WL.set 43 (v' := .bool true) rfl (by rw [hg20]) ?_
    refine WL.set 44 (v' := .bool true) rfl (by rw [hg20]) ?_
    refine WL.set 45 (v' := .bool true) rfl (by rw [hg20]) ?_
    have hg20p : x15.kind = 21 := by simpa using hg20
    refine WL.fieldAddr fo_36_2 rfl rfl rfl ?_
    refine WL.load1 (v := .int .i64 x15.a) one_3 rfl rfl rfl (hS.cell 0 rfl rfl) ?_
    refine WL.bin rfl rfl rfl rfl rfl ?_
    refine WL.pick (v := .bool (decide (x15.a = 2))) rfl rfl rfl rfl rfl rfl ?_
    refine WL.move rfl rfl rfl ?_
    rcases (Bool.eq_false_or_eq_true (decide (x15.a = 2))).symm with hg21 | hg21
    ·
     refine WL.set 48 (v' := .bool false) rfl (by rw [hg21]) ?_
     refine WL.set 49 (v' := .bool false) rfl (by rw [hg21]) ?_
     refine WL.set 50 (v' := .bool false) rfl (by rw [hg21]) ?_
     have hg21p : ¬ (x15.a = 2) := by simpa using hg21
     refine WL.skp rfl rfl ?_
     refine WL.skp rfl rfl ?_
     refine WL.skp rfl rfl ?_
     refine WL.skp rfl rfl ?_
     refine WL.skp rfl rfl ?_
     refine WL.skp rfl rfl ?_
     refine WL.skp rfl rfl ?_
     refine WL.skp rfl rfl ?_
     refine WL.skp rfl rfl ?_
     refine WL.skp rfl rfl ?_
     refine WL.skp rfl rfl ?_
     refine WL.skp rfl rfl ?_
     refine WL.skp rfl rfl ?_
     refine WL.skp rfl rfl ?_
     refine WL.skp rfl rfl ?_
     refine WL.skp rfl rfl ?_
     refine WL.pick (v := .bool false) rfl rfl rfl rfl rfl rfl ?_
     refine WL.nil ?_
     refine N.seq ?_
     refine W.condF rfl ?_
     refine W.skip ?_
     refine N.blk ?_
     refine N.seq ?_
     refine W.region ?_
     refine WL.move rfl rfl rfl ?_
     refine WL.add (c := (i : Int) + 1) rfl rfl rfl rfl (rfl) (by omega) ?_
     refine WL.assign rfl rfl rfl ?_
     refine WL.nil ?_
     have hS := hS.dropN 1
     exact N.loop (i + 1) ⟨rfl, rfl, rfl, rfl, rfl, rfl, rfl, rfl, rfl, rfl, rfl, rfl, rfl, rfl, rfl, rfl, rfl, rfl, rfl, rfl, rfl, rfl, trivial⟩ ⟨hS, by omega⟩ (by first | omega | (simp only; omega))
    refine WL.set 48 (v' := .bool true) rfl (by rw [hg21]) ?_
    refine WL.set 49 (v' := .bool true) rfl (by rw [hg21]) ?_
    refine WL.set 50 (v' := .bool true) rfl (by rw [hg21]) ?_
    have hg21p : x15.a = 2 := by simpa using hg21
    refine WL.fieldAddr fo_36_4 rfl rfl rfl ?_
    refine WL.load1 (v := .int .i64 x15.imm) one_2 rfl rfl rfl (hS.cell 0 rfl rfl) ?_
    refine WL.bin rfl rfl rfl rfl rfl ?_
    have hin := (func_in hokG hx15).2
    have hin2 := hin (.inr hg20p) hg21p
    refine WL.set 53 (v' := .bool false) rfl (congrArg Value.bool (show (decide (x15.imm < 0)) = false from decide_eq_false (show ¬ (x15.imm < 0) from by omega))) ?_
    refine WL.move rfl rfl rfl ?_
    refine WL.fieldAddr fo_36_4 rfl rfl rfl ?_
    refine WL.load1 (v := .int .i64 x15.imm) one_2 rfl rfl rfl (hS.cell 0 rfl rfl) ?_
    refine WL.add (c := x15.imm + 8) rfl rfl rfl rfl (rfl) (by omega) ?_
    refine WL.move rfl rfl rfl ?_
    refine WL.bin rfl rfl rfl rfl rfl ?_
    refine WL.set 59 (v' := .bool false) rfl (congrArg Value.bool (show (decide (frame17 f < x15.imm + 8)) = false from decide_eq_false (show ¬ (frame17 f < x15.imm + 8) from by omega))) ?_
    refine WL.pick (v := .bool false) rfl rfl rfl rfl rfl rfl ?_
    refine WL.move rfl rfl rfl ?_
    refine WL.fieldAddr fo_36_4 rfl rfl rfl ?_
    refine WL.load1 (v := .int .i64 x15.imm) one_2 rfl rfl rfl (hS.cell 0 rfl rfl) ?_
    refine WL.remC rfl rfl rfl rfl (by decide) ?_
    refine WL.bin rfl rfl rfl rfl rfl ?_
    refine WL.set 65 (v' := .bool false) rfl (congrArg Value.bool (show (!decide (x15.imm.tmod 8 = 0)) = false from by rw [decide_eq_true (show x15.imm.tmod 8 = 0 from by rw [Int.tmod_eq_emod_of_nonneg hin2.1]; exact hin2.2.2)]; rfl)) ?_
    refine WL.pick (v := .bool false) rfl rfl rfl rfl rfl rfl ?_
    refine WL.pick (v := .bool false) rfl rfl rfl rfl rfl rfl ?_
    refine WL.nil ?_
    refine N.seq ?_
    refine W.condF rfl ?_
    refine W.skip ?_
    refine N.blk ?_
    refine N.seq ?_
    refine W.region ?_
    refine WL.move rfl rfl rfl ?_
    refine WL.add (c := (i : Int) + 1) rfl rfl rfl rfl (rfl) (by omega) ?_
    refine WL.assign rfl rfl rfl ?_
    refine WL.nil ?_
    have hS := hS.dropN 1
    exact N.loop (i + 1) ⟨rfl, rfl, rfl, rfl, rfl, rfl, rfl, rfl, rfl, rfl, rfl, rfl, rfl, rfl, rfl, rfl, rfl, rfl, rfl, rfl, rfl, rfl, trivial⟩ ⟨hS, by omega⟩ (by first | omega | (simp only; omega))
   refine WL.set 39 (v' := .bool true) rfl (by rw [hg19]) ?_
   refine WL.set 40 (v' := .bool true) rfl (by rw [hg19]) ?_
   have hg19p : x15.kind = 19 := by simpa using hg19
   refine WL.skp rfl rfl ?_
   refine WL.skp rfl rfl ?_
   refine WL.skp rfl rfl ?_
   refine WL.pick (v := .bool true) rfl rfl rfl rfl rfl rfl ?_
   refine WL.move rfl rfl rfl ?_
   refine WL.fieldAddr fo_36_2 rfl rfl rfl ?_
   refine WL.load1 (v := .int .i64 x15.a) one_3 rfl rfl rfl (hS.cell 0 rfl rfl) ?_
   refine WL.bin rfl rfl rfl rfl rfl ?_
   refine WL.pick (v := .bool (decide (x15.a = 2))) rfl rfl rfl rfl rfl rfl ?_
   refine WL.move rfl rfl rfl ?_
   rcases (Bool.eq_false_or_eq_true (decide (x15.a = 2))).symm with hg22 | hg22
   ·
    refine WL.set 48 (v' := .bool false) rfl (by rw [hg22]) ?_
    refine WL.set 49 (v' := .bool false) rfl (by rw [hg22]) ?_
    refine WL.set 50 (v' := .bool false) rfl (by rw [hg22]) ?_
    have hg22p : ¬ (x15.a = 2) := by simpa using hg22
    refine WL.skp rfl rfl ?_
    refine WL.skp rfl rfl ?_
    refine WL.skp rfl rfl ?_
    refine WL.skp rfl rfl ?_
    refine WL.skp rfl rfl ?_
    refine WL.skp rfl rfl ?_
    refine WL.skp rfl rfl ?_
    refine WL.skp rfl rfl ?_
    refine WL.skp rfl rfl ?_
    refine WL.skp rfl rfl ?_
    refine WL.skp rfl rfl ?_
    refine WL.skp rfl rfl ?_
    refine WL.skp rfl rfl ?_
    refine WL.skp rfl rfl ?_
    refine WL.skp rfl rfl ?_
    refine WL.skp rfl rfl ?_
    refine WL.pick (v := .bool false) rfl rfl rfl rfl rfl rfl ?_
    refine WL.nil ?_
    refine N.seq ?_
    refine W.condF rfl ?_
    refine W.skip ?_
    refine N.blk ?_
    refine N.seq ?_
    refine W.region ?_
    refine WL.move rfl rfl rfl ?_
    refine WL.add (c := (i : Int) + 1) rfl rfl rfl rfl (rfl) (by omega) ?_
    refine WL.assign rfl rfl rfl ?_
    refine WL.nil ?_
    have hS := hS.dropN 1
    exact N.loop (i + 1) ⟨rfl, rfl, rfl, rfl, rfl, rfl, rfl, rfl, rfl, rfl, rfl, rfl, rfl, rfl, rfl, rfl, rfl, rfl, rfl, rfl, rfl, rfl, trivial⟩ ⟨hS, by omega⟩ (by first | omega | (simp only; omega))
   refine WL.set 48 (v' := .bool true) rfl (by rw [hg22]) ?_
   refine WL.set 49 (v' := .bool true) rfl (by rw [hg22]) ?_
   refine WL.set 50 (v' := .bool true) rfl (by rw [hg22]) ?_
   have hg22p : x15.a = 2 := by simpa using hg22
   refine WL.fieldAddr fo_36_4 rfl rfl rfl ?_
   refine WL.load1 (v := .int .i64 x15.imm) one_2 rfl rfl rfl (hS.cell 0 rfl rfl) ?_
   refine WL.bin rfl rfl rfl rfl rfl ?_
   have hin := (func_in hokG hx15).2
   have hin2 := hin (.inl hg19p) hg22p
   refine WL.set 53 (v' := .bool false) rfl (congrArg Value.bool (show (decide (x15.imm < 0)) = false from decide_eq_false (show ¬ (x15.imm < 0) from by omega))) ?_
   refine WL.move rfl rfl rfl ?_
   refine WL.fieldAddr fo_36_4 rfl rfl rfl ?_
   refine WL.load1 (v := .int .i64 x15.imm) one_2 rfl rfl rfl (hS.cell 0 rfl rfl) ?_
   refine WL.add (c := x15.imm + 8) rfl rfl rfl rfl (rfl) (by omega) ?_
   refine WL.move rfl rfl rfl ?_
   refine WL.bin rfl rfl rfl rfl rfl ?_
   refine WL.set 59 (v' := .bool false) rfl (congrArg Value.bool (show (decide (frame17 f < x15.imm + 8)) = false from decide_eq_false (show ¬ (frame17 f < x15.imm + 8) from by omega))) ?_
   refine WL.pick (v := .bool false) rfl rfl rfl rfl rfl rfl ?_
   refine WL.move rfl rfl rfl ?_
   refine WL.fieldAddr fo_36_4 rfl rfl rfl ?_
   refine WL.load1 (v := .int .i64 x15.imm) one_2 rfl rfl rfl (hS.cell 0 rfl rfl) ?_
   refine WL.remC rfl rfl rfl rfl (by decide) ?_
   refine WL.bin rfl rfl rfl rfl rfl ?_
   refine WL.set 65 (v' := .bool false) rfl (congrArg Value.bool (show (!decide (x15.imm.tmod 8 = 0)) = false from by rw [decide_eq_true (show x15.imm.tmod 8 = 0 from by rw [Int.tmod_eq_emod_of_nonneg hin2.1]; exact hin2.2.2)]; rfl)) ?_
   refine WL.pick (v := .bool false) rfl rfl rfl rfl rfl rfl ?_
   refine WL.pick (v := .bool false) rfl rfl rfl rfl rfl rfl ?_
   refine WL.nil ?_
   refine N.seq ?_
   refine W.condF rfl ?_
   refine W.skip ?_
   refine N.blk ?_
   refine N.seq ?_
   refine W.region ?_
   refine WL.move rfl rfl rfl ?_
   refine WL.add (c := (i : Int) + 1) rfl rfl rfl rfl (rfl) (by omega) ?_
   refine WL.assign rfl rfl rfl ?_
   refine WL.nil ?_
   have hS := hS.dropN 1
   exact N.loop (i + 1) ⟨rfl, rfl, rfl, rfl, rfl, rfl, rfl, rfl, rfl, rfl, rfl, rfl, rfl, rfl, rfl, rfl, rfl, rfl, rfl, rfl, rfl, rfl, trivial⟩ ⟨hS, by omega⟩ (by first | omega | (simp only; omega))
  have hc14p : ¬ ((i : Int) < (((func17 f).ops).length : Int)) := by simpa using hc14
  refine W.exit ?_
  refine X.seq ?_
  refine X.loop ?_
  refine X.blk ?_
  refine N.seq ?_
  refine W.seq ?_
  refine W.region ?_
  refine WL.move rfl rfl rfl ?_
  refine WL.assign rfl rfl rfl ?_
  refine WL.nil ?_
  refine N.seq ?_
  refine Fin.ret1 rfl (v := .bool true) rfl ?_
  exact ⟨rfl, hS.below⟩
 refine WL.set 13 (v' := .bool true) rfl (by rw [hg5]) ?_
 refine WL.set 14 (v' := .bool true) rfl (by rw [hg5]) ?_
 refine WL.skp rfl rfl ?_
 refine WL.skp rfl rfl ?_
 refine WL.skp rfl rfl ?_
 refine WL.skp rfl rfl ?_
 refine WL.pick (v := .bool true) rfl rfl rfl rfl rfl rfl ?_
 refine WL.nil ?_
 refine N.seq ?_
 refine W.condT rfl ?_
 refine W.seq ?_
 refine W.region ?_
 refine WL.move rfl rfl rfl ?_
 refine WL.assign rfl rfl rfl ?_
 refine WL.nil ?_
 refine N.seq ?_
 refine Fin.ret1 rfl (v := .bool true) rfl ?_
 exact ⟨rfl, hS.below⟩

end Go.Proofs.YtcmmhfknkldmcaaDoor
