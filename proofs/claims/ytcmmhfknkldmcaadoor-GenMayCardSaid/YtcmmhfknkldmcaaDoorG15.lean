/-
  Contracts of layer 17 (gen). No condition beyond those that each theorem states.
-/
import Derived.Test.YtcmmhfknkldmcaaDoorG14
namespace Go.Proofs.YtcmmhfknkldmcaaDoor
open Go.RowKit
theorem byt_4 : (Tryd.prog.info? 4).map (·.bytes) = some 1 := by kernel_rfl
theorem fo_30_0 : fOff Tryd.prog 30 0 0 = true := by kernel_rfl
theorem fo_34_0 : fOff Tryd.prog 34 0 0 = true := by kernel_rfl
theorem isz_34 : (Tryd.prog.info? 34).map (·.size) = some 3 := by kernel_rfl
theorem isz_4 : (Tryd.prog.info? 4).map (·.size) = some 1 := by kernel_rfl
theorem one_4 : tyOne Tryd.prog 4 = true := by kernel_rfl
theorem siz_36 : tySize Tryd.prog 36 5 = true := by kernel_rfl
theorem siz_4 : tySize Tryd.prog 4 1 = true := by kernel_rfl
theorem zer_4 : tyZero Tryd.prog 4 = some [.bool false] := by kernel_rfl
theorem func_len {f : DFunc} (h : OkG f) : (func17 f).ops.length ≤ 10000 := by
  rw [(func_jset h).1]
  have h1 : (gFull f).ops.length ≤ 8 + 437 * f.blocks.length := (gAt_len h f.blocks.length (Nat.le_refl _)).1
  have := h.bl
  omega

set_option maxRecDepth 10000 in
set_option maxHeartbeats 4000000 in
theorem genMay_ret (f : DFunc) (cf : List Value) {w : World} {ro : Nat → Prop} (hro : ∀ b, ro b → b < w.heap.size) (hx : FuncC ro w cf f) (hok : okFunc f) (hr0 : ro 0) (hc0 : CellsAt w 0 0 [.int .i64 0, .int .i64 0, .int .i64 1, .int .i64 2, .int .i64 9, .int .i64 8, .int .i64 7, .int .i64 5, .int .i64 3, .int .i64 6, .int .i64 4, .int .i64 2]) : Ret Tryd.prog 3 #[.agg cf.toArray] w fun v w' => v = .bool true ∧ Below w.heap.size w w' := by
 obtain ⟨sbF, rfl, hblF, hnmF, hbdF, hprF⟩ := id hx
 obtain ⟨adbF, capbF, rfl, hbkFa, hbkFb, hbkFc, hbkFd⟩ := id hblF
 have hbkFm : f.blocks.length ≤ 9223372036854775807 := by have h1 := hbkFa; have h2 := hbkFb; unfold maxLen at h2; omega
 refine Ret.enter (P := Tryd.prog) (n := 129) (args := [.agg #[.string f.name, .int .i64 f.bind, .int .i64 f.params, .slice adbF f.blocks.length capbF]]) (σ := [(0, .agg #[.string f.name, .int .i64 f.bind, .int .i64 f.params, .slice adbF f.blocks.length capbF])]) Tryd.func3 rfl rfl rfl rfl ?_
 have hS := St.start (ro := ro) hro
 have hsub : ∀ b, ro b → ro b ∨ w.heap.size ≤ b := fun _ h => .inl h
 have halT : Alike ro w ro w := Alike.refl
 refine W.seq ?_
 refine W.region ?_
 refine WL.box (v := .agg #[.string f.name, .int .i64 f.bind, .int .i64 f.params, .slice adbF f.blocks.length capbF]) (cs := [.string f.name, .int .i64 f.bind, .int .i64 f.params, .slice adbF f.blocks.length capbF]) rfl rfl rfl rfl hS ?_
 clear hS; intro w2 b1 hb_b1 hS
 refine WL.assign rfl rfl rfl ?_
 refine WL.nil ?_
 refine N.seq ?_
 refine W.seq ?_
 refine W.region ?_
 refine WL.callF (vs := []) Tryd.func8 (by kernel_rfl) rfl rfl rfl (shown17_ret (ro := ro) (fun b hb => (hS.snap b hb).1)) ?_
 rintro v w3 ⟨rfl, hbl⟩
 replace hS := hS.grow hbl
 refine WL.assign rfl rfl rfl ?_
 refine WL.nil ?_
 refine N.seq ?_
 refine W.seq ?_
 refine W.region ?_
 refine WL.loadN (cs := [.string f.name, .int .i64 f.bind, .int .i64 f.params, .slice adbF f.blocks.length capbF]) agg_24 rfl rfl rfl rfl (hS.cells 0 (m := 4) rfl rfl) ?_
 refine WL.callF (vs := [.agg #[.string f.name, .int .i64 f.bind, .int .i64 f.params, .slice adbF f.blocks.length capbF]]) Tryd.func9 (by kernel_rfl) rfl rfl rfl (func5_ret f _ (ro := ro) (fun b hb => (hS.snap b hb).1) (hx.keep hS.alike) hok) ?_
 rintro v w4 ⟨rfl, hbl⟩
 replace hS := hS.grow hbl
 refine WL.assign rfl rfl rfl ?_
 refine WL.nil ?_
 refine N.seq ?_
 refine W.seq ?_
 refine W.seq ?_
 refine W.region ?_
 refine WL.move rfl rfl rfl ?_
 refine WL.not rfl rfl rfl ?_
 refine WL.move rfl rfl rfl ?_
 rcases (Bool.eq_false_or_eq_true (!(func5 f))).symm with hg5 | hg5
 ·
  refine WL.set 16 (v' := .bool false) rfl (by rw [hg5]) ?_
  refine WL.set 17 (v' := .bool false) rfl (by rw [hg5]) ?_
  refine WL.fieldAddr fo_24_3 rfl rfl rfl ?_
  refine WL.load1 (v := .slice adbF f.blocks.length capbF) one_22 rfl rfl rfl (hS.cell 0 rfl rfl) ?_
  refine WL.lenSlice Tryd.underlying22 rfl rfl rfl ?_
  refine WL.bin rfl rfl rfl rfl rfl ?_
  refine WL.pick (v := .bool (decide ((f.blocks.length : Int) = 0))) rfl rfl rfl rfl rfl rfl ?_
  refine WL.nil ?_
  refine N.seq ?_
  refine W.cond rfl (fun hc6 => ?_) (fun hc6 => ?_)
  ·
   have hc6p : (f.blocks.length : Int) = 0 := by simpa using hc6
   refine W.seq ?_
   refine W.region ?_
   refine WL.move rfl rfl rfl ?_
   refine WL.assign rfl rfl rfl ?_
   refine WL.nil ?_
   refine N.seq ?_
   refine Fin.ret1 rfl (v := .bool true) rfl ?_
   exact ⟨rfl, hS.below⟩
  have hc6p : ¬ ((f.blocks.length : Int) = 0) := by simpa using hc6
  refine W.skip ?_
  refine N.seq ?_
  refine W.seq ?_
  have hf5 : func5 f = true := by simpa using hg5
  have hokG := okg_of5 hf5 hx; have hfr := frame_in hokG; have hff := frame_facts hokG; have hfl := func_len hokG
  refine W.region ?_
  refine WL.loadN (cs := [.string f.name, .int .i64 f.bind, .int .i64 f.params, .slice adbF f.blocks.length capbF]) agg_24 rfl rfl rfl rfl (hS.cells 0 (m := 4) rfl rfl) ?_
  refine WL.callF (vs := [.agg #[.string f.name, .int .i64 f.bind, .int .i64 f.params, .slice adbF f.blocks.length capbF]]) Tryd.func10 (by kernel_rfl) rfl rfl rfl (func_ret f _ (ro := ro) (fun b hb => (hS.snap b hb).1) (hx.keep hS.alike) hokG hr0 (hS.roCells hr0 hc0)) ?_
  rintro v w7 ⟨so, sr, rfl, hso, hsr, hko, hkr, hbl⟩
  have hal8 := hS.alikeTo hbl (ro' := (roFrom ro w4 w7)) (fun b hb => .inl hb)
  replace hsub : ∀ b, (roFrom ro w4 w7) b → ro b ∨ w.heap.size ≤ b := fun b hb => hb.elim (hsub b) (fun h => .inr (Nat.le_trans hS.below.size h.1))
  replace halT := halT.trans hal8
  replace hx := hx.keep hal8
  replace hbkFd : Elems (roFrom ro w4 w7) w7 8 (BlockC (roFrom ro w4 w7) w7) adbF f.blocks := hbkFd.keep hal8 (fun _ _ h => h.keep hal8)
  replace hblF : SlV (roFrom ro w4 w7) w7 8 (BlockC (roFrom ro w4 w7) w7) (.slice adbF f.blocks.length capbF) f.blocks := SlV.keep hblF hal8 (fun _ _ h => h.keep hal8)
  replace hc0 := hc0.keep (hal8 _ hr0).2
  replace hr0 := (hal8 _ hr0).1
  replace hS := hS.readNew hbl
  have hso2 : SlV (roFrom ro w4 w7) w7 5 OpC so (func17 f).ops := row_slv hso (oCells_chunks (func_ok hokG)) rfl (fun b hb => .inr (hko b hb))
  have hsr2 : SlV (roFrom ro w4 w7) w7 3 RelC sr (func17 f).rels := row_slv hsr (Chunks.flat (f := relL) (fun _ => rfl) _ fun x hx => ⟨rfl, func_relC hokG x hx⟩) rfl (fun b hb => .inr (hkr b hb))
  obtain ⟨ado, capo, rfl, hooa, hoob, hooc, hood⟩ := id hso2
  have hoom : ((func17 f).ops).length ≤ 9223372036854775807 := by have h1 := hooa; have h2 := hoob; unfold maxLen at h2; omega
  obtain ⟨adr, capr, rfl, hrra, hrrb, hrrc, hrrd⟩ := id hsr2
  have hrrm : ((func17 f).rels).length ≤ 9223372036854775807 := by have h1 := hrra; have h2 := hrrb; unfold maxLen at h2; omega
  refine WL.alloc (tyZero_spec zer_30) rfl rfl hS ?_
  clear hS; intro w10 b9 hb_b9 hS
  refine WL.store (cs := [.string f.name, .slice ado (((func17 f).ops).length) capo, .slice adr (((func17 f).rels).length) capr]) (c' := #[.string f.name, .slice ado (((func17 f).ops).length) capo, .slice adr (((func17 f).rels).length) capr]) (L' := [(b9, .cells #[.string f.name, .slice ado (((func17 f).ops).length) capo, .slice adr (((func17 f).rels).length) capr] 30 (0, 0)), (b1, .cells #[.string f.name, .int .i64 f.bind, .int .i64 f.params, .slice adbF f.blocks.length capbF] 24 (0, 0))]) 0 rfl rfl rfl rfl siz_30 rfl rfl rfl rfl rfl hS ?_
  clear hS; intro w11 hS
  refine WL.nil ?_
  refine N.seq ?_
  refine W.seq ?_
  refine W.region ?_
  refine WL.fieldAddr fo_30_1 rfl rfl rfl ?_
  refine WL.load1 (v := .slice ado (((func17 f).ops).length) capo) one_27 rfl rfl rfl (hS.cell 0 rfl rfl) ?_
  refine WL.lenSlice Tryd.underlying27 rfl rfl rfl ?_
  refine WL.makeSliceL (m := ((func17 f).ops).length) (f := Value.bool) (z := false) 1 Tryd.underlying32 (tyZero_spec zer_4) byt_4 rfl rfl rfl rfl hS (by unfold maxLen; omega) (by omega) ?_
  clear hS; intro w13 b12 hS
  refine WL.assign rfl rfl rfl ?_
  refine WL.nil ?_
  refine N.seq ?_
  refine W.seq ?_
  refine W.seq ?_
  refine W.region ?_
  refine WL.assign rfl rfl rfl ?_
  refine WL.nil ?_
  refine N.seq ?_
  refine W.block ?_
  refine W.loop (α := Nat × List Bool) (fun ⟨i, us⟩ => [(0, .agg #[.string f.name, .int .i64 f.bind, .int .i64 f.params, .slice adbF f.blocks.length capbF]), (1, .pointer (some ⟨b1, 0, none⟩)), (3, .bool true), (4, .bool (func5 f)), (5, .pointer (some ⟨b9, 0, none⟩)), (6, .slice (some ⟨b12, 0, none⟩) (((func17 f).ops).length) (((func17 f).ops).length)), (7, .int .i64 (i : Int)), (12, .bool true), (13, .agg #[.string f.name, .int .i64 f.bind, .int .i64 f.params, .slice adbF f.blocks.length capbF]), (14, .bool (func5 f)), (15, .bool (func5 f)), (16, .bool false), (17, .bool false), (18, .pointer (some ⟨b1, 3, none⟩)), (19, .slice adbF f.blocks.length capbF), (20, .int .i64 (f.blocks.length : Int)), (21, .bool (decide ((f.blocks.length : Int) = 0))), (22, .bool (decide ((f.blocks.length : Int) = 0))), (24, .agg #[.string f.name, .int .i64 f.bind, .int .i64 f.params, .slice adbF f.blocks.length capbF]), (25, .agg #[.string f.name, .slice ado (((func17 f).ops).length) capo, .slice adr (((func17 f).rels).length) capr]), (26, .pointer (some ⟨b9, 1, none⟩)), (27, .slice ado (((func17 f).ops).length) capo), (28, .int .i64 (((func17 f).ops).length : Int)), (29, .slice (some ⟨b12, 0, none⟩) (((func17 f).ops).length) (((func17 f).ops).length))]) (fun ⟨i, us⟩ u => St w w7 u (roFrom ro w4 w7) [(b12, arrO Value.bool 4 us), (b9, .cells #[.string f.name, .slice ado (((func17 f).ops).length) capo, .slice adr (((func17 f).rels).length) capr] 30 (0, 0)), (b1, .cells #[.string f.name, .int .i64 f.bind, .int .i64 f.params, .slice adbF f.blocks.length capbF] 24 (0, 0))] [] ∧ i ≤ (func17 f).rels.length ∧ us.length = (func17 f).ops.length) (fun ⟨i, us⟩ => (func17 f).rels.length - i) (0, List.replicate (((func17 f).ops).length) false) ⟨rfl, rfl, rfl, rfl, rfl, rfl, rfl, rfl, rfl, rfl, rfl, rfl, rfl, rfl, rfl, rfl, rfl, rfl, rfl, rfl, rfl, rfl, rfl, rfl, trivial⟩ ⟨hS, Nat.zero_le _, by simp⟩ ?_
  clear hS
  rintro ⟨i, us⟩ w14 ⟨hS, hil, hul⟩
  refine W.seq ?_
  refine W.seq ?_
  refine W.region ?_
  refine WL.move rfl rfl rfl ?_
  refine WL.fieldAddr fo_30_2 rfl rfl rfl ?_
  refine WL.load1 (v := .slice adr (((func17 f).rels).length) capr) one_28 rfl rfl rfl (hS.cell 1 rfl rfl) ?_
  refine WL.lenSlice Tryd.underlying28 rfl rfl rfl ?_
  refine WL.bin rfl rfl rfl rfl rfl ?_
  refine WL.nil ?_
  refine N.seq ?_
  refine W.cond rfl (fun hc15 => ?_) (fun hc15 => ?_)
  ·
   have hc15p : (i : Int) < (((func17 f).rels).length : Int) := by simpa using hc15
   refine W.skip ?_
   refine N.seq ?_
   refine W.seq ?_
   refine W.block ?_
   refine W.seq ?_
   refine W.seq ?_
   have hj16 : i < (func17 f).rels.length := by omega
   obtain ⟨x16, hx16⟩ : ∃ zz, (func17 f).rels[i]? = some zz := ⟨_, List.getElem?_eq_getElem hj16⟩
   obtain ⟨b16, o16, cs16, hE16, hr16, hl16, hc16, hQ16⟩ := hrrd i _ hx16
   obtain ⟨rfl, hrn16, hra16, hrk16⟩ := hQ16
   obtain ⟨_, nR, hnR, oR, hoR, _, _⟩ := (func_rels hokG).1 _ (List.mem_of_getElem? hx16)
   have hnl := (List.getElem?_eq_some_iff.1 hoR).1
   refine W.drawL (by kernel_rfl) 19 ((.q (.pointer (some ⟨b9, 2, none⟩))) :: (.q (.slice adr (((func17 f).rels).length) capr)) :: (.q (.int .i64 (i : Int))) :: (.q (.pointer (some ⟨b16, o16 + i * 3, none⟩))) :: (.q (.pointer (some ⟨b16, o16 + i * 3, none⟩))) :: (.q (.int .i64 x16.at_)) :: (.q (.bool false)) :: (.q (.bool false)) :: (.q (.pointer (some ⟨b9, 2, none⟩))) :: (.q (.slice adr (((func17 f).rels).length) capr)) :: (.q (.int .i64 (i : Int))) :: (.q (.pointer (some ⟨b16, o16 + i * 3, none⟩))) :: (.q (.pointer (some ⟨b16, o16 + i * 3, none⟩))) :: (.q (.int .i64 x16.at_)) :: (.q (.pointer (some ⟨b9, 1, none⟩))) :: (.q (.slice ado (((func17 f).ops).length) capo)) :: (.q (.int .i64 (((func17 f).ops).length : Int))) :: (.q (.bool false)) :: (.q (.bool false)) :: []) (by kernel_rfl) (by kernel_rfl) [(0, .agg #[.string f.name, .int .i64 f.bind, .int .i64 f.params, .slice adbF f.blocks.length capbF]), (1, .pointer (some ⟨b1, 0, none⟩)), (3, .bool true), (4, .bool (func5 f)), (5, .pointer (some ⟨b9, 0, none⟩)), (6, .slice (some ⟨b12, 0, none⟩) (((func17 f).ops).length) (((func17 f).ops).length)), (7, .int .i64 (i : Int)), (12, .bool true), (13, .agg #[.string f.name, .int .i64 f.bind, .int .i64 f.params, .slice adbF f.blocks.length capbF]), (14, .bool (func5 f)), (15, .bool (func5 f)), (16, .bool false), (17, .bool false), (18, .pointer (some ⟨b1, 3, none⟩)), (19, .slice adbF f.blocks.length capbF), (20, .int .i64 (f.blocks.length : Int)), (21, .bool (decide ((f.blocks.length : Int) = 0))), (22, .bool (decide ((f.blocks.length : Int) = 0))), (24, .agg #[.string f.name, .int .i64 f.bind, .int .i64 f.params, .slice adbF f.blocks.length capbF]), (25, .agg #[.string f.name, .slice ado (((func17 f).ops).length) capo, .slice adr (((func17 f).rels).length) capr]), (26, .pointer (some ⟨b9, 1, none⟩)), (27, .slice ado (((func17 f).ops).length) capo), (28, .int .i64 (((func17 f).ops).length : Int)), (29, .slice (some ⟨b12, 0, none⟩) (((func17 f).ops).length) (((func17 f).ops).length)), (30, .int .i64 (i : Int)), (31, .pointer (some ⟨b9, 2, none⟩)), (32, .slice adr (((func17 f).rels).length) capr), (33, .int .i64 (((func17 f).rels).length : Int)), (34, .bool (decide ((i : Int) < (((func17 f).rels).length : Int))))] ⟨rfl, rfl, rfl, rfl, rfl, rfl, rfl, rfl, rfl, rfl, rfl, rfl, rfl, rfl, rfl, rfl, rfl, rfl, rfl, rfl, rfl, rfl, rfl, rfl, rfl, rfl, rfl, rfl, rfl, trivial⟩ (by kernel_rfl) hS ?_ ?_
   ·
    refine And.intro (fun β w hS => ?_) ?_
    ·
     refine WL.sub (σ' := [(5, .pointer (some ⟨b9, 0, none⟩))]) ⟨rfl, trivial⟩ ?_
     refine WL.fieldAddr fo_30_2 rfl rfl rfl ?_
     exact WL.nil (N.cut () ⟨rfl, trivial⟩ (Below.refl _ _))
    refine And.intro (fun β w hS => ?_) ?_
    ·
     refine WL.sub (σ' := [(37, .pointer (some ⟨b9, 2, none⟩))]) ⟨rfl, trivial⟩ ?_
     refine WL.load1 (v := .slice adr (((func17 f).rels).length) capr) one_28 rfl rfl rfl (hS.cell 1 rfl rfl) ?_
     exact WL.nil (N.cut () ⟨rfl, trivial⟩ (Below.refl _ _))
    refine And.intro (fun β w hS => ?_) ?_
    ·
     refine WL.sub (σ' := [(7, .int .i64 (i : Int))]) ⟨rfl, trivial⟩ ?_
     refine WL.move rfl rfl rfl ?_
     exact WL.nil (N.cut () ⟨rfl, trivial⟩ (Below.refl _ _))
    refine And.intro (fun β w hS => ?_) ?_
    ·
     refine WL.sub (σ' := [(38, .slice adr (((func17 f).rels).length) capr), (39, .int .i64 (i : Int))]) ⟨rfl, rfl, trivial⟩ ?_
     refine WL.indexAddrE (j := i) Tryd.underlying28 isz_34 rfl rfl rfl rfl hj16 hE16 ?_
     exact WL.nil (N.cut () ⟨rfl, trivial⟩ (Below.refl _ _))
    refine And.intro (fun β w hS => ?_) ?_
    ·
     refine WL.sub (σ' := [(40, .pointer (some ⟨b16, o16 + i * 3, none⟩))]) ⟨rfl, trivial⟩ ?_
     refine WL.fieldAddr fo_34_0 rfl rfl rfl ?_
     exact WL.nil (N.cut () ⟨rfl, trivial⟩ (Below.refl _ _))
    refine And.intro (fun β w hS => ?_) ?_
    ·
     refine WL.sub (σ' := [(41, .pointer (some ⟨b16, o16 + i * 3, none⟩))]) ⟨rfl, trivial⟩ ?_
     refine WL.load1 (v := .int .i64 x16.at_) one_3 rfl rfl rfl (hS.roCells hr16 hc16 0 _ rfl) ?_
     exact WL.nil (N.cut () ⟨rfl, trivial⟩ (Below.refl _ _))
    refine And.intro (fun β w hS => ?_) ?_
    ·
     refine WL.sub (σ' := [(42, .int .i64 x16.at_)]) ⟨rfl, trivial⟩ ?_
     refine WL.bin rfl rfl rfl rfl rfl ?_
     refine WL.set 43 (v' := .bool false) rfl (congrArg Value.bool (show (decide (x16.at_ < 0)) = false from decide_eq_false (show ¬ (x16.at_ < 0) from by omega))) ?_
     exact WL.nil (N.cut () ⟨rfl, trivial⟩ (Below.refl _ _))
    refine And.intro (fun β w hS => ?_) ?_
    ·
     refine WL.sub (σ' := [(43, .bool false)]) ⟨rfl, trivial⟩ ?_
     refine WL.move rfl rfl rfl ?_
     exact WL.nil (N.cut () ⟨rfl, trivial⟩ (Below.refl _ _))
    refine And.intro (fun β w hS => ?_) ?_
    ·
     refine WL.sub (σ' := [(5, .pointer (some ⟨b9, 0, none⟩)), (44, .bool false)]) ⟨rfl, rfl, trivial⟩ ?_
     refine WL.fieldAddr fo_30_2 rfl rfl rfl ?_
     exact WL.nil (N.cut () ⟨rfl, trivial⟩ (Below.refl _ _))
    refine And.intro (fun β w hS => ?_) ?_
    ·
     refine WL.sub (σ' := [(44, .bool false), (45, .pointer (some ⟨b9, 2, none⟩))]) ⟨rfl, rfl, trivial⟩ ?_
     refine WL.load1 (v := .slice adr (((func17 f).rels).length) capr) one_28 rfl rfl rfl (hS.cell 1 rfl rfl) ?_
     exact WL.nil (N.cut () ⟨rfl, trivial⟩ (Below.refl _ _))
    refine And.intro (fun β w hS => ?_) ?_
    ·
     refine WL.sub (σ' := [(7, .int .i64 (i : Int)), (44, .bool false)]) ⟨rfl, rfl, trivial⟩ ?_
     refine WL.move rfl rfl rfl ?_
     exact WL.nil (N.cut () ⟨rfl, trivial⟩ (Below.refl _ _))
    refine And.intro (fun β w hS => ?_) ?_
    ·
     refine WL.sub (σ' := [(44, .bool false), (46, .slice adr (((func17 f).rels).length) capr), (47, .int .i64 (i : Int))]) ⟨rfl, rfl, rfl, trivial⟩ ?_
     refine WL.indexAddrE (j := i) Tryd.underlying28 isz_34 rfl rfl rfl rfl hj16 hE16 ?_
     exact WL.nil (N.cut () ⟨rfl, trivial⟩ (Below.refl _ _))
    refine And.intro (fun β w hS => ?_) ?_
    ·
     refine WL.sub (σ' := [(44, .bool false), (48, .pointer (some ⟨b16, o16 + i * 3, none⟩))]) ⟨rfl, rfl, trivial⟩ ?_
     refine WL.fieldAddr fo_34_0 rfl rfl rfl ?_
     exact WL.nil (N.cut () ⟨rfl, trivial⟩ (Below.refl _ _))
    refine And.intro (fun β w hS => ?_) ?_
    ·
     refine WL.sub (σ' := [(44, .bool false), (49, .pointer (some ⟨b16, o16 + i * 3, none⟩))]) ⟨rfl, rfl, trivial⟩ ?_
     refine WL.load1 (v := .int .i64 x16.at_) one_3 rfl rfl rfl (hS.roCells hr16 hc16 0 _ rfl) ?_
     exact WL.nil (N.cut () ⟨rfl, trivial⟩ (Below.refl _ _))
    refine And.intro (fun β w hS => ?_) ?_
    ·
     refine WL.sub (σ' := [(5, .pointer (some ⟨b9, 0, none⟩)), (44, .bool false)]) ⟨rfl, rfl, trivial⟩ ?_
     refine WL.fieldAddr fo_30_1 rfl rfl rfl ?_
     exact WL.nil (N.cut () ⟨rfl, trivial⟩ (Below.refl _ _))
    refine And.intro (fun β w hS => ?_) ?_
    ·
     refine WL.sub (σ' := [(44, .bool false), (51, .pointer (some ⟨b9, 1, none⟩))]) ⟨rfl, rfl, trivial⟩ ?_
     refine WL.load1 (v := .slice ado (((func17 f).ops).length) capo) one_27 rfl rfl rfl (hS.cell 1 rfl rfl) ?_
     exact WL.nil (N.cut () ⟨rfl, trivial⟩ (Below.refl _ _))
    refine And.intro (fun β w hS => ?_) ?_
    ·
     refine WL.sub (σ' := [(44, .bool false), (52, .slice ado (((func17 f).ops).length) capo)]) ⟨rfl, rfl, trivial⟩ ?_
     refine WL.lenSlice Tryd.underlying27 rfl rfl rfl ?_
     exact WL.nil (N.cut () ⟨rfl, trivial⟩ (Below.refl _ _))
    refine And.intro (fun β w hS => ?_) ?_
    ·
     refine WL.sub (σ' := [(44, .bool false), (50, .int .i64 x16.at_), (53, .int .i64 (((func17 f).ops).length : Int))]) ⟨rfl, rfl, rfl, trivial⟩ ?_
     refine WL.bin rfl rfl rfl rfl rfl ?_
     refine WL.set 54 (v' := .bool false) rfl (congrArg Value.bool (show (decide ((((func17 f).ops).length : Int) ≤ x16.at_)) = false from decide_eq_false (show ¬ ((((func17 f).ops).length : Int) ≤ x16.at_) from by omega))) ?_
     exact WL.nil (N.cut () ⟨rfl, trivial⟩ (Below.refl _ _))
    refine And.intro (fun β w hS => ?_) ?_
    ·
     refine WL.sub (σ' := [(44, .bool false), (54, .bool false)]) ⟨rfl, rfl, trivial⟩ ?_
     refine WL.pick (v := .bool false) rfl rfl rfl rfl rfl rfl ?_
     exact WL.nil (N.cut () ⟨rfl, trivial⟩ (Below.refl _ _))
    trivial
   clear hS; intro w17 β hS
   refine WL.sub (σ' := [(0, .agg #[.string f.name, .int .i64 f.bind, .int .i64 f.params, .slice adbF f.blocks.length capbF]), (1, .pointer (some ⟨b1, 0, none⟩)), (3, .bool true), (4, .bool (func5 f)), (5, .pointer (some ⟨b9, 0, none⟩)), (6, .slice (some ⟨b12, 0, none⟩) (((func17 f).ops).length) (((func17 f).ops).length)), (7, .int .i64 (i : Int)), (12, .bool true), (13, .agg #[.string f.name, .int .i64 f.bind, .int .i64 f.params, .slice adbF f.blocks.length capbF]), (14, .bool (func5 f)), (15, .bool (func5 f)), (16, .bool false), (17, .bool false), (18, .pointer (some ⟨b1, 3, none⟩)), (19, .slice adbF f.blocks.length capbF), (20, .int .i64 (f.blocks.length : Int)), (21, .bool (decide ((f.blocks.length : Int) = 0))), (22, .bool (decide ((f.blocks.length : Int) = 0))), (24, .agg #[.string f.name, .int .i64 f.bind, .int .i64 f.params, .slice adbF f.blocks.length capbF]), (25, .agg #[.string f.name, .slice ado (((func17 f).ops).length) capo, .slice adr (((func17 f).rels).length) capr]), (26, .pointer (some ⟨b9, 1, none⟩)), (27, .slice ado (((func17 f).ops).length) capo), (28, .int .i64 (((func17 f).ops).length : Int)), (29, .slice (some ⟨b12, 0, none⟩) (((func17 f).ops).length) (((func17 f).ops).length)), (30, .int .i64 (i : Int)), (31, .pointer (some ⟨b9, 2, none⟩)), (32, .slice adr (((func17 f).rels).length) capr), (33, .int .i64 (((func17 f).rels).length : Int)), (34, .bool (decide ((i : Int) < (((func17 f).rels).length : Int)))), (37, .pointer (some ⟨b9, 2, none⟩)), (38, .slice adr (((func17 f).rels).length) capr), (39, .int .i64 (i : Int)), (40, .pointer (some ⟨b16, o16 + i * 3, none⟩)), (41, .pointer (some ⟨b16, o16 + i * 3, none⟩)), (42, .int .i64 x16.at_), (43, .bool false), (44, .bool false), (45, .pointer (some ⟨b9, 2, none⟩)), (46, .slice adr (((func17 f).rels).length) capr), (47, .int .i64 (i : Int)), (48, .pointer (some ⟨b16, o16 + i * 3, none⟩)), (49, .pointer (some ⟨b16, o16 + i * 3, none⟩)), (50, .int .i64 x16.at_), (51, .pointer (some ⟨b9, 1, none⟩)), (52, .slice ado (((func17 f).ops).length) capo), (53, .int .i64 (((func17 f).ops).length : Int)), (54, .bool false), (55, .bool false)]) ⟨rfl, rfl, rfl, rfl, rfl, rfl, rfl, rfl, rfl, rfl, rfl, rfl, rfl, rfl, rfl, rfl, rfl, rfl, rfl, rfl, rfl, rfl, rfl, rfl, rfl, rfl, rfl, rfl, rfl, rfl, rfl, rfl, rfl, rfl, rfl, rfl, rfl, rfl, rfl, rfl, rfl, rfl, rfl, rfl, rfl, rfl, rfl, rfl, trivial⟩ ?_
   refine WL.nil ?_
   refine N.seq ?_
   refine W.condF rfl ?_
   refine W.skip ?_
   refine N.seq ?_
   refine W.region ?_
   refine WL.move rfl rfl rfl ?_
   refine WL.fieldAddr fo_30_2 rfl rfl rfl ?_
   refine WL.load1 (v := .slice adr (((func17 f).rels).length) capr) one_28 rfl rfl rfl (hS.cell 1 rfl rfl) ?_
   refine WL.move rfl rfl rfl ?_
   refine WL.indexAddrE (j := i) Tryd.underlying28 isz_34 rfl rfl rfl rfl hj16 hE16 ?_
   refine WL.fieldAddr fo_34_0 rfl rfl rfl ?_
   refine WL.load1 (v := .int .i64 x16.at_) one_3 rfl rfl rfl (hS.roCells hr16 hc16 0 _ rfl) ?_
   refine WL.set 62 (v' := .int .i64 (nR : Int)) rfl (congrArg _ hnR) ?_
   refine WL.indexAddr (j := nR) Tryd.underlying32 isz_4 rfl rfl rfl rfl (by omega) ?_
   refine WL.storeArr (v := true) 0 rfl rfl rfl rfl siz_4 rfl rfl (by omega) hS ?_
   clear hS; intro w18 hS
   refine WL.nil ?_
   refine N.blk ?_
   refine N.seq ?_
   refine W.region ?_
   refine WL.move rfl rfl rfl ?_
   refine WL.add (c := (i : Int) + 1) rfl rfl rfl rfl (rfl) (by omega) ?_
   refine WL.assign rfl rfl rfl ?_
   refine WL.nil ?_
   exact N.loop (i + 1, us.set nR true) ⟨rfl, rfl, rfl, rfl, rfl, rfl, rfl, rfl, rfl, rfl, rfl, rfl, rfl, rfl, rfl, rfl, rfl, rfl, rfl, rfl, rfl, rfl, rfl, rfl, trivial⟩ ⟨hS, by omega, by simp [hul]⟩ (by first | omega | (simp only; omega))
  have hc15p : ¬ ((i : Int) < (((func17 f).rels).length : Int)) := by simpa using hc15
  refine W.exit ?_
  refine X.seq ?_
  refine X.loop ?_
  refine X.blk ?_
  refine N.seq ?_
  refine W.seq ?_
  refine W.seq ?_
  refine W.region ?_
  refine WL.assign rfl rfl rfl ?_
  refine WL.nil ?_
  refine N.seq ?_
  refine W.block ?_
  refine W.loop (α := Nat) (fun (k : Nat) => [(0, .agg #[.string f.name, .int .i64 f.bind, .int .i64 f.params, .slice adbF f.blocks.length capbF]), (1, .pointer (some ⟨b1, 0, none⟩)), (3, .bool true), (4, .bool (func5 f)), (5, .pointer (some ⟨b9, 0, none⟩)), (6, .slice (some ⟨b12, 0, none⟩) (((func17 f).ops).length) (((func17 f).ops).length)), (7, .int .i64 (i : Int)), (8, .int .i64 (k : Int)), (12, .bool true), (13, .agg #[.string f.name, .int .i64 f.bind, .int .i64 f.params, .slice adbF f.blocks.length capbF]), (14, .bool (func5 f)), (15, .bool (func5 f)), (16, .bool false), (17, .bool false), (18, .pointer (some ⟨b1, 3, none⟩)), (19, .slice adbF f.blocks.length capbF), (20, .int .i64 (f.blocks.length : Int)), (21, .bool (decide ((f.blocks.length : Int) = 0))), (22, .bool (decide ((f.blocks.length : Int) = 0))), (24, .agg #[.string f.name, .int .i64 f.bind, .int .i64 f.params, .slice adbF f.blocks.length capbF]), (25, .agg #[.string f.name, .slice ado (((func17 f).ops).length) capo, .slice adr (((func17 f).rels).length) capr]), (26, .pointer (some ⟨b9, 1, none⟩)), (27, .slice ado (((func17 f).ops).length) capo), (28, .int .i64 (((func17 f).ops).length : Int)), (29, .slice (some ⟨b12, 0, none⟩) (((func17 f).ops).length) (((func17 f).ops).length)), (30, .int .i64 (i : Int)), (31, .pointer (some ⟨b9, 2, none⟩)), (32, .slice adr (((func17 f).rels).length) capr), (33, .int .i64 (((func17 f).rels).length : Int)), (34, .bool (decide ((i : Int) < (((func17 f).rels).length : Int))))]) (fun (k : Nat) u => St w w7 u (roFrom ro w4 w7) [(b12, arrO Value.bool 4 us), (b9, .cells #[.string f.name, .slice ado (((func17 f).ops).length) capo, .slice adr (((func17 f).rels).length) capr] 30 (0, 0)), (b1, .cells #[.string f.name, .int .i64 f.bind, .int .i64 f.params, .slice adbF f.blocks.length capbF] 24 (0, 0))] [] ∧ k ≤ (func17 f).ops.length) (fun (k : Nat) => (func17 f).ops.length - k) 0 ⟨rfl, rfl, rfl, rfl, rfl, rfl, rfl, rfl, rfl, rfl, rfl, rfl, rfl, rfl, rfl, rfl, rfl, rfl, rfl, rfl, rfl, rfl, rfl, rfl, rfl, rfl, rfl, rfl, rfl, rfl, trivial⟩ ⟨hS, Nat.zero_le _⟩ ?_
  clear hS
  rintro k w19 ⟨hS, hkl⟩
  refine W.seq ?_
  refine W.seq ?_
  refine W.region ?_
  refine WL.move rfl rfl rfl ?_
  refine WL.fieldAddr fo_30_1 rfl rfl rfl ?_
  refine WL.load1 (v := .slice ado (((func17 f).ops).length) capo) one_27 rfl rfl rfl (hS.cell 1 rfl rfl) ?_
  refine WL.lenSlice Tryd.underlying27 rfl rfl rfl ?_
  refine WL.bin rfl rfl rfl rfl rfl ?_
  refine WL.nil ?_
  refine N.seq ?_
  refine W.cond rfl (fun hc20 => ?_) (fun hc20 => ?_)
  ·
   have hc20p : (k : Int) < (((func17 f).ops).length : Int) := by simpa using hc20
   refine W.skip ?_
   refine N.seq ?_
   refine W.seq ?_
   refine W.block ?_
   refine W.seq ?_
   refine W.region ?_
   refine WL.fieldAddr fo_30_1 rfl rfl rfl ?_
   refine WL.load1 (v := .slice ado (((func17 f).ops).length) capo) one_27 rfl rfl rfl (hS.cell 1 rfl rfl) ?_
   refine WL.move rfl rfl rfl ?_
   have hj21 : k < (func17 f).ops.length := by omega
   obtain ⟨x21, hx21⟩ : ∃ zz, (func17 f).ops[k]? = some zz := ⟨_, List.getElem?_eq_getElem hj21⟩
   obtain ⟨b21, o21, cs21, hE21, hr21, hl21, hc21, hQ21⟩ := hood k _ hx21
   obtain ⟨rfl, hop21⟩ := hQ21
   refine WL.indexAddrE (j := k) Tryd.underlying27 isz_36 rfl rfl rfl rfl hj21 hE21 ?_
   refine WL.loadN (cs := [.int .i64 x21.kind, .int .i64 x21.rd, .int .i64 x21.a, .int .i64 x21.b, .int .i64 x21.imm]) agg_36 rfl rfl rfl rfl (hS.roCells hr21 hc21) ?_
   refine WL.alloc (tyZero_spec zer_36) rfl rfl hS ?_
   clear hS; intro w23 b22 hb_b22 hS
   refine WL.store (cs := [.int .i64 x21.kind, .int .i64 x21.rd, .int .i64 x21.a, .int .i64 x21.b, .int .i64 x21.imm]) (c' := #[.int .i64 x21.kind, .int .i64 x21.rd, .int .i64 x21.a, .int .i64 x21.b, .int .i64 x21.imm]) (L' := [(b22, .cells #[.int .i64 x21.kind, .int .i64 x21.rd, .int .i64 x21.a, .int .i64 x21.b, .int .i64 x21.imm] 36 (0, 0)), (b12, arrO Value.bool 4 us), (b9, .cells #[.string f.name, .slice ado (((func17 f).ops).length) capo, .slice adr (((func17 f).rels).length) capr] 30 (0, 0)), (b1, .cells #[.string f.name, .int .i64 f.bind, .int .i64 f.params, .slice adbF f.blocks.length capbF] 24 (0, 0))]) 0 rfl rfl rfl rfl siz_36 rfl rfl rfl rfl rfl hS ?_
   clear hS; intro w24 hS
   refine WL.nil ?_
   refine N.seq ?_
   refine W.seq ?_
   refine W.region ?_
   refine WL.loadN (cs := [.int .i64 x21.kind, .int .i64 x21.rd, .int .i64 x21.a, .int .i64 x21.b, .int .i64 x21.imm]) agg_36 rfl rfl rfl rfl (hS.cells 0 (m := 5) rfl rfl) ?_
   refine WL.callF (vs := [.agg #[.int .i64 x21.kind, .int .i64 x21.rd, .int .i64 x21.a, .int .i64 x21.b, .int .i64 x21.imm]]) Tryd.func11 (by kernel_rfl) rfl rfl rfl (may01_ret x21 (func_may hokG hx21) (ro := (roFrom ro w4 w7)) (fun b hb => (hS.snap b hb).1)) ?_
   rintro v w25 ⟨rfl, hbl⟩
   replace hS := hS.grow hbl
   refine WL.assign rfl rfl rfl ?_
   refine WL.nil ?_
   refine N.seq ?_
   refine W.seq ?_
   refine W.seq ?_
   refine W.region ?_
   refine WL.move rfl rfl rfl ?_
   refine WL.not rfl rfl rfl ?_
   refine WL.set 79 (v' := .bool false) rfl rfl ?_
   refine WL.nil ?_
   refine N.seq ?_
   refine W.condF rfl ?_
   refine W.skip ?_
   refine N.seq ?_
   refine W.seq ?_
   refine W.region ?_
   refine WL.fieldAddr fo_36_0 rfl rfl rfl ?_
   refine WL.load1 (v := .int .i64 x21.kind) one_3 rfl rfl rfl (hS.cell 0 rfl rfl) ?_
   refine WL.bin rfl rfl rfl rfl rfl ?_
   refine WL.move rfl rfl rfl ?_
   rcases (Bool.eq_false_or_eq_true (decide (x21.kind = 29))).symm with hg26 | hg26
   ·
    refine WL.set 82 (v' := .bool false) rfl (by rw [hg26]) ?_
    refine WL.set 83 (v' := .bool false) rfl (by rw [hg26]) ?_
    have hg26p : ¬ (x21.kind = 29) := by simpa using hg26
    refine WL.fieldAddr fo_36_0 rfl rfl rfl ?_
    refine WL.load1 (v := .int .i64 x21.kind) one_3 rfl rfl rfl (hS.cell 0 rfl rfl) ?_
    refine WL.bin rfl rfl rfl rfl rfl ?_
    refine WL.pick (v := .bool (decide (x21.kind = 24))) rfl rfl rfl rfl rfl rfl ?_
    refine WL.move rfl rfl rfl ?_
    rcases (Bool.eq_false_or_eq_true (decide (x21.kind = 24))).symm with hg27 | hg27
    ·
     refine WL.set 86 (v' := .bool false) rfl (by rw [hg27]) ?_
     refine WL.set 87 (v' := .bool false) rfl (by rw [hg27]) ?_
     refine WL.set 88 (v' := .bool false) rfl (by rw [hg27]) ?_
     have hg27p : ¬ (x21.kind = 24) := by simpa using hg27
     refine WL.skp rfl rfl ?_
     refine WL.skp rfl rfl ?_
     refine WL.skp rfl rfl ?_
     refine WL.skp rfl rfl ?_
     refine WL.skp rfl rfl ?_
     refine WL.pick (v := .bool false) rfl rfl rfl rfl rfl rfl ?_
     refine WL.nil ?_
     refine N.seq ?_
     refine W.condF rfl ?_
     refine W.skip ?_
     refine N.blk ?_
     refine N.seq ?_
     refine W.region ?_
     refine WL.move rfl rfl rfl ?_
     refine WL.add (c := (k : Int) + 1) rfl rfl rfl rfl (rfl) (by omega) ?_
     refine WL.assign rfl rfl rfl ?_
     refine WL.nil ?_
     have hS := hS.dropN 1
     exact N.loop (k + 1) ⟨rfl, rfl, rfl, rfl, rfl, rfl, rfl, rfl, rfl, rfl, rfl, rfl, rfl, rfl, rfl, rfl, rfl, rfl, rfl, rfl, rfl, rfl, rfl, rfl, rfl, rfl, rfl, rfl, rfl, rfl, trivial⟩ ⟨hS, by omega⟩ (by first | omega | (simp only; omega))
    refine WL.set 86 (v' := .bool true) rfl (by rw [hg27]) ?_
    refine WL.set 87 (v' := .bool true) rfl (by rw [hg27]) ?_
    refine WL.set 88 (v' := .bool true) rfl (by rw [hg27]) ?_
    have hg27p : x21.kind = 24 := by simpa using hg27
    refine WL.move rfl rfl rfl ?_
    refine WL.move rfl rfl rfl ?_
    refine WL.indexAddr (j := k) Tryd.underlying32 isz_4 rfl rfl rfl rfl (by omega) ?_
    obtain ⟨x28, hx28⟩ : ∃ zz, us[k]? = some zz := ⟨_, List.getElem?_eq_getElem (by omega)⟩
    refine WL.load1 (v := .bool x28) one_4 rfl rfl rfl (hS.arr 1 rfl hx28) ?_
    refine WL.not rfl rfl rfl ?_
    refine WL.pick (v := .bool (!x28)) rfl rfl rfl rfl rfl rfl ?_
    refine WL.nil ?_
    refine N.seq ?_
    refine W.cond rfl (fun hc29 => ?_) (fun hc29 => ?_)
    ·
     refine W.seq ?_
     refine W.region ?_
     refine WL.move rfl rfl rfl ?_
     refine WL.fieldAddr fo_36_4 rfl rfl rfl ?_
     refine WL.load1 (v := .int .i64 x21.imm) one_2 rfl rfl rfl (hS.cell 0 rfl rfl) ?_
     have hti := func_to_in hokG hx21 (.inr hg27p)
     have htd : x21.imm.tdiv 4 = x21.imm / 4 := Int.tdiv_eq_ediv_of_dvd (Int.dvd_of_emod_eq_zero hti.1)
     refine WL.quoC rfl rfl rfl rfl (by decide) ?_
     refine WL.set 98 (v' := .int .i64 (x21.imm / 4)) rfl (congrArg _ (by rw [htd, wrap64 (by omega)])) ?_
     refine WL.add (c := (k : Int) + (x21.imm / 4)) rfl rfl rfl rfl (rfl) (by omega) ?_
     refine WL.assign rfl rfl rfl ?_
     refine WL.nil ?_
     refine N.seq ?_
     refine W.seq ?_
     refine W.region ?_
     refine WL.fieldAddr fo_36_4 rfl rfl rfl ?_
     refine WL.load1 (v := .int .i64 x21.imm) one_2 rfl rfl rfl (hS.cell 0 rfl rfl) ?_
     refine WL.remC rfl rfl rfl rfl (by decide) ?_
     refine WL.bin rfl rfl rfl rfl rfl ?_
     refine WL.set 103 (v' := .bool false) rfl (congrArg Value.bool (show (!decide (x21.imm.tmod 4 = 0)) = false from by rw [decide_eq_true (show x21.imm.tmod 4 = 0 from Int.tmod_eq_zero_of_dvd (Int.dvd_of_emod_eq_zero hti.1))]; rfl)) ?_
     refine WL.move rfl rfl rfl ?_
     refine WL.move rfl rfl rfl ?_
     refine WL.bin rfl rfl rfl rfl rfl ?_
     refine WL.set 106 (v' := .bool false) rfl (congrArg Value.bool (show (decide ((k : Int) + (x21.imm / 4) < 0)) = false from decide_eq_false (show ¬ ((k : Int) + (x21.imm / 4) < 0) from by omega))) ?_
     refine WL.pick (v := .bool false) rfl rfl rfl rfl rfl rfl ?_
     refine WL.move rfl rfl rfl ?_
     refine WL.move rfl rfl rfl ?_
     refine WL.fieldAddr fo_30_1 rfl rfl rfl ?_
     refine WL.load1 (v := .slice ado (((func17 f).ops).length) capo) one_27 rfl rfl rfl (hS.cell 2 rfl rfl) ?_
     refine WL.lenSlice Tryd.underlying27 rfl rfl rfl ?_
     refine WL.bin rfl rfl rfl rfl rfl ?_
     refine WL.set 113 (v' := .bool false) rfl (congrArg Value.bool (show (decide ((((func17 f).ops).length : Int) ≤ (k : Int) + (x21.imm / 4))) = false from decide_eq_false (show ¬ ((((func17 f).ops).length : Int) ≤ (k : Int) + (x21.imm / 4)) from by omega))) ?_
     refine WL.pick (v := .bool false) rfl rfl rfl rfl rfl rfl ?_
     refine WL.nil ?_
     refine N.seq ?_
     refine W.condF rfl ?_
     refine W.skip ?_
     refine N.blk ?_
     refine N.seq ?_
     refine W.region ?_
     refine WL.move rfl rfl rfl ?_
     refine WL.add (c := (k : Int) + 1) rfl rfl rfl rfl (rfl) (by omega) ?_
     refine WL.assign rfl rfl rfl ?_
     refine WL.nil ?_
     have hS := hS.dropN 1
     exact N.loop (k + 1) ⟨rfl, rfl, rfl, rfl, rfl, rfl, rfl, rfl, rfl, rfl, rfl, rfl, rfl, rfl, rfl, rfl, rfl, rfl, rfl, rfl, rfl, rfl, rfl, rfl, rfl, rfl, rfl, rfl, rfl, rfl, trivial⟩ ⟨hS, by omega⟩ (by first | omega | (simp only; omega))
    refine W.skip ?_
    refine N.blk ?_
    refine N.seq ?_
    refine W.region ?_
    refine WL.move rfl rfl rfl ?_
    refine WL.add (c := (k : Int) + 1) rfl rfl rfl rfl (rfl) (by omega) ?_
    refine WL.assign rfl rfl rfl ?_
    refine WL.nil ?_
    have hS := hS.dropN 1
    exact N.loop (k + 1) ⟨rfl, rfl, rfl, rfl, rfl, rfl, rfl, rfl, rfl, rfl, rfl, rfl, rfl, rfl, rfl, rfl, rfl, rfl, rfl, rfl, rfl, rfl, rfl, rfl, rfl, rfl, rfl, rfl, rfl, rfl, trivial⟩ ⟨hS, by omega⟩ (by first | omega | (simp only; omega))
   refine WL.set 82 (v' := .bool true) rfl (by rw [hg26]) ?_
   refine WL.set 83 (v' := .bool true) rfl (by rw [hg26]) ?_
   have hg26p : x21.kind = 29 := by simpa using hg26
   refine WL.skp rfl rfl ?_
   refine WL.skp rfl rfl ?_
   refine WL.skp rfl rfl ?_
   refine WL.pick (v := .bool true) rfl rfl rfl rfl rfl rfl ?_
   refine WL.move rfl rfl rfl ?_
   refine WL.move rfl rfl rfl ?_
   refine WL.move rfl rfl rfl ?_
   refine WL.indexAddr (j := k) Tryd.underlying32 isz_4 rfl rfl rfl rfl (by omega) ?_
   obtain ⟨x30, hx30⟩ : ∃ zz, us[k]? = some zz := ⟨_, List.getElem?_eq_getElem (by omega)⟩
   refine WL.load1 (v := .bool x30) one_4 rfl rfl rfl (hS.arr 1 rfl hx30) ?_
   refine WL.not rfl rfl rfl ?_
   refine WL.pick (v := .bool (!x30)) rfl rfl rfl rfl rfl rfl ?_
   refine WL.nil ?_
   refine N.seq ?_
   refine W.cond rfl (fun hc31 => ?_) (fun hc31 => ?_)
   ·
    refine W.seq ?_
    refine W.region ?_
    refine WL.move rfl rfl rfl ?_
    refine WL.fieldAddr fo_36_4 rfl rfl rfl ?_
    refine WL.load1 (v := .int .i64 x21.imm) one_2 rfl rfl rfl (hS.cell 0 rfl rfl) ?_
    have hti := func_to_in hokG hx21 (.inl hg26p)
    have htd : x21.imm.tdiv 4 = x21.imm / 4 := Int.tdiv_eq_ediv_of_dvd (Int.dvd_of_emod_eq_zero hti.1)
    refine WL.quoC rfl rfl rfl rfl (by decide) ?_
    refine WL.set 98 (v' := .int .i64 (x21.imm / 4)) rfl (congrArg _ (by rw [htd, wrap64 (by omega)])) ?_
    refine WL.add (c := (k : Int) + (x21.imm / 4)) rfl rfl rfl rfl (rfl) (by omega) ?_
    refine WL.assign rfl rfl rfl ?_
    refine WL.nil ?_
    refine N.seq ?_
    refine W.seq ?_
    refine W.region ?_
    refine WL.fieldAddr fo_36_4 rfl rfl rfl ?_
    refine WL.load1 (v := .int .i64 x21.imm) one_2 rfl rfl rfl (hS.cell 0 rfl rfl) ?_
    refine WL.remC rfl rfl rfl rfl (by decide) ?_
    refine WL.bin rfl rfl rfl rfl rfl ?_
    refine WL.set 103 (v' := .bool false) rfl (congrArg Value.bool (show (!decide (x21.imm.tmod 4 = 0)) = false from by rw [decide_eq_true (show x21.imm.tmod 4 = 0 from Int.tmod_eq_zero_of_dvd (Int.dvd_of_emod_eq_zero hti.1))]; rfl)) ?_
    refine WL.move rfl rfl rfl ?_
    refine WL.move rfl rfl rfl ?_
    refine WL.bin rfl rfl rfl rfl rfl ?_
    refine WL.set 106 (v' := .bool false) rfl (congrArg Value.bool (show (decide ((k : Int) + (x21.imm / 4) < 0)) = false from decide_eq_false (show ¬ ((k : Int) + (x21.imm / 4) < 0) from by omega))) ?_
    refine WL.pick (v := .bool false) rfl rfl rfl rfl rfl rfl ?_
    refine WL.move rfl rfl rfl ?_
    refine WL.move rfl rfl rfl ?_
    refine WL.fieldAddr fo_30_1 rfl rfl rfl ?_
    refine WL.load1 (v := .slice ado (((func17 f).ops).length) capo) one_27 rfl rfl rfl (hS.cell 2 rfl rfl) ?_
    refine WL.lenSlice Tryd.underlying27 rfl rfl rfl ?_
    refine WL.bin rfl rfl rfl rfl rfl ?_
    refine WL.set 113 (v' := .bool false) rfl (congrArg Value.bool (show (decide ((((func17 f).ops).length : Int) ≤ (k : Int) + (x21.imm / 4))) = false from decide_eq_false (show ¬ ((((func17 f).ops).length : Int) ≤ (k : Int) + (x21.imm / 4)) from by omega))) ?_
    refine WL.pick (v := .bool false) rfl rfl rfl rfl rfl rfl ?_
    refine WL.nil ?_
    refine N.seq ?_
    refine W.condF rfl ?_
    refine W.skip ?_
    refine N.blk ?_
    refine N.seq ?_
    refine W.region ?_
    refine WL.move rfl rfl rfl ?_
    refine WL.add (c := (k : Int) + 1) rfl rfl rfl rfl (rfl) (by omega) ?_
    refine WL.assign rfl rfl rfl ?_
    refine WL.nil ?_
    have hS := hS.dropN 1
    exact N.loop (k + 1) ⟨rfl, rfl, rfl, rfl, rfl, rfl, rfl, rfl, rfl, rfl, rfl, rfl, rfl, rfl, rfl, rfl, rfl, rfl, rfl, rfl, rfl, rfl, rfl, rfl, rfl, rfl, rfl, rfl, rfl, rfl, trivial⟩ ⟨hS, by omega⟩ (by first | omega | (simp only; omega))
   refine W.skip ?_
   refine N.blk ?_
   refine N.seq ?_
   refine W.region ?_
   refine WL.move rfl rfl rfl ?_
   refine WL.add (c := (k : Int) + 1) rfl rfl rfl rfl (rfl) (by omega) ?_
   refine WL.assign rfl rfl rfl ?_
   refine WL.nil ?_
   have hS := hS.dropN 1
   exact N.loop (k + 1) ⟨rfl, rfl, rfl, rfl, rfl, rfl, rfl, rfl, rfl, rfl, rfl, rfl, rfl, rfl, rfl, rfl, rfl, rfl, rfl, rfl, rfl, rfl, rfl, rfl, rfl, rfl, rfl, rfl, rfl, rfl, trivial⟩ ⟨hS, by omega⟩ (by first | omega | (simp only; omega))
  have hc20p : ¬ ((k : Int) < (((func17 f).ops).length : Int)) := by simpa using hc20
  refine W.exit ?_
  refine X.seq ?_
  refine X.loop ?_
  refine X.blk ?_
  refine N.seq ?_
  refine W.seq ?_
  refine W.region ?_
  refine WL.move rfl rfl rfl ?_
  refine WL.move rfl rfl rfl ?_
  refine WL.fieldAddr fo_30_0 rfl rfl rfl ?_
  refine WL.load1 (v := .string f.name) one_9 rfl rfl rfl (hS.cell 1 rfl rfl) ?_
  refine WL.fieldAddr fo_24_0 rfl rfl rfl ?_
  refine WL.load1 (v := .string f.name) one_9 rfl rfl rfl (hS.cell 2 rfl rfl) ?_
  refine WL.eqStr rfl rfl rfl rfl ?_
  refine WL.set 121 (v' := .bool true) rfl (congrArg Value.bool (show (decide (f.name = f.name)) = true from decide_eq_true (show f.name = f.name from rfl))) ?_
  refine WL.pick (v := .bool true) rfl rfl rfl rfl rfl rfl ?_
  refine WL.move rfl rfl rfl ?_
  refine WL.fieldAddr fo_30_1 rfl rfl rfl ?_
  refine WL.load1 (v := .slice ado (((func17 f).ops).length) capo) one_27 rfl rfl rfl (hS.cell 1 rfl rfl) ?_
  refine WL.lenSlice Tryd.underlying27 rfl rfl rfl ?_
  refine WL.bin rfl rfl rfl rfl rfl ?_
  refine WL.set 127 (v' := .bool true) rfl (congrArg Value.bool (show (decide (0 < (((func17 f).ops).length : Int))) = true from decide_eq_true (show 0 < (((func17 f).ops).length : Int) from by have := hff.1; omega))) ?_
  refine WL.pick (v := .bool true) rfl rfl rfl rfl rfl rfl ?_
  refine WL.assign rfl rfl rfl ?_
  refine WL.nil ?_
  refine N.seq ?_
  refine Fin.ret1 rfl (v := .bool true) rfl ?_
  exact ⟨rfl, hS.below⟩
 refine WL.set 16 (v' := .bool true) rfl (by rw [hg5]) ?_
 refine WL.set 17 (v' := .bool true) rfl (by rw [hg5]) ?_
 refine WL.skp rfl rfl ?_
 refine WL.skp rfl rfl ?_
 refine WL.skp rfl rfl ?_
 refine WL.skp rfl rfl ?_
 refine WL.pick (v := .bool true) rfl rfl rfl rfl rfl rfl ?_
 refine WL.nil ?_
 refine N.seq ?_
 refine W.condT rfl ?_
 refine W.seq ?_
 refine W.region ?_
 refine WL.move rfl rfl rfl ?_
 refine WL.assign rfl rfl rfl ?_
 refine WL.nil ?_
 refine N.seq ?_
 refine Fin.ret1 rfl (v := .bool true) rfl ?_
 exact ⟨rfl, hS.below⟩

end Go.Proofs.YtcmmhfknkldmcaaDoor
