/-
  Contracts of layer 13 (trim). No condition beyond those that each theorem states.
-/
import Derived.Test.YtdlcmhkfglckfaaE5
import Derived.Test.YtdlcmhkfglckfaaE9
import Derived.Test.YtdlcmhkfglckfaaU5
namespace Go.Proofs.Ytdlcmhkfglckfaa
open Go.RowKit
theorem fo_56_0 : fOff Try.prog 56 0 0 = true := by kernel_rfl
theorem fo_56_1 : fOff Try.prog 56 1 2 = true := by kernel_rfl
theorem fo_56_2 : fOff Try.prog 56 2 3 = true := by kernel_rfl
theorem fo_56_3 : fOff Try.prog 56 3 4 = true := by kernel_rfl
theorem trimRuns_ret (m : DMod) (cm : List Value) (inp : ByteArray) (fuel deep : Int) {w : World} {ro : Nat → Prop} (hro : ∀ b, ro b → b < w.heap.size) (hx : ModC ro w cm m) (hok : okMod m) : Ret Try.prog 7 #[.agg (cm ++ ([.string inp, .int .i64 fuel, .int .i64 deep] : List Value)).toArray] w fun v w' => v = .bool true ∧ Below w.heap.size w w' := by
 obtain ⟨sf, sg, rfl, hfs, hgs⟩ := id hx
 obtain ⟨adf, capf, rfl, hfsa, hfsb, hfsc, hfsd⟩ := id hfs
 have hfsm : m.funcs.length ≤ 9223372036854775807 := by have h1 := hfsa; have h2 := hfsb; unfold maxLen at h2; omega
 obtain ⟨adg, capg, rfl, hgsa, hgsb, hgsc, hgsd⟩ := id hgs
 have hgsm : m.globs.length ≤ 9223372036854775807 := by have h1 := hgsa; have h2 := hgsb; unfold maxLen at h2; omega
 refine Ret.enter (P := Try.prog) (n := 105) (args := [.agg #[.slice adf m.funcs.length capf, .slice adg m.globs.length capg, .string inp, .int .i64 fuel, .int .i64 deep]]) (σ := [(0, .agg #[.slice adf m.funcs.length capf, .slice adg m.globs.length capg, .string inp, .int .i64 fuel, .int .i64 deep])]) Try.func7 rfl rfl rfl rfl ?_
 have hS := St.start (ro := ro) hro
 have hsub : ∀ b, ro b → ro b ∨ w.heap.size ≤ b := fun _ h => .inl h
 refine W.seq (W.region ?_)
 refine WL.box (v := .agg #[.slice adf m.funcs.length capf, .slice adg m.globs.length capg, .string inp, .int .i64 fuel, .int .i64 deep]) (cs := [.slice adf m.funcs.length capf, .slice adg m.globs.length capg, .string inp, .int .i64 fuel, .int .i64 deep]) rfl rfl rfl rfl hS ?_
 clear hS; intro w2 b1 hb_b1 hS
 refine WL.assign rfl rfl rfl (WL.nil (N.seq (W.seq (W.region (WL.fieldAddr fo_56_0 rfl rfl rfl (WL.loadN (cs := [.slice adf m.funcs.length capf, .slice adg m.globs.length capg]) agg_46 rfl rfl rfl rfl (hS.cells 0 (m := 2) rfl rfl) ?_))))))
 refine WL.alloc (tyZero_spec zer_46) rfl rfl hS ?_
 clear hS; intro w4 b3 hb_b3 hS
 refine WL.store (L' := [(b3, .cells #[.slice adf m.funcs.length capf, .slice adg m.globs.length capg] 46 (0, 0)), (b1, .cells #[.slice adf m.funcs.length capf, .slice adg m.globs.length capg, .string inp, .int .i64 fuel, .int .i64 deep] 56 (0, 0))]) 0 rfl rfl rfl rfl siz_46 rfl rfl rfl rfl rfl hS ?_
 clear hS; intro w5 hS
 refine WL.nil (N.seq (W.seq (W.region (WL.fieldAddr fo_56_1 rfl rfl rfl (WL.load1 (v := .string inp) one_9 rfl rfl rfl (hS.cell 1 rfl rfl) (WL.assign rfl rfl rfl (WL.nil (N.seq (W.seq ?_)))))))))
 refine W.region (WL.fieldAddr fo_56_2 rfl rfl rfl (WL.load1 (v := .int .i64 fuel) one_3 rfl rfl rfl (hS.cell 1 rfl rfl) (WL.assign rfl rfl rfl (WL.nil (N.seq (W.seq (W.region (WL.fieldAddr fo_56_3 rfl rfl rfl (WL.load1 (v := .int .i64 deep) one_3 rfl rfl rfl (hS.cell 1 rfl rfl) ?_)))))))))
 refine WL.assign rfl rfl rfl (WL.nil (N.seq (W.seq (W.region ?_))))
 refine WL.callF (vs := []) Try.func9 (by kernel_rfl) rfl rfl rfl (shown13_ret (ro := ro) (fun b hb => (hS.snap b hb).1)) ?_
 rintro v w6 ⟨rfl, hbl⟩
 replace hS := hS.grow hbl
 refine WL.assign rfl rfl rfl (WL.nil (N.seq (W.seq (W.seq (W.region (WL.loadN (cs := [.slice adf m.funcs.length capf, .slice adg m.globs.length capg]) agg_46 rfl rfl rfl rfl (hS.cells 0 (m := 2) rfl rfl) ?_))))))
 refine WL.callF (vs := [.agg #[.slice adf m.funcs.length capf, .slice adg m.globs.length capg]]) Try.func27 (by kernel_rfl) rfl rfl rfl (whole7_ret m _ (ro := ro) (fun b hb => (hS.snap b hb).1) (ModC.keep hx hS.alike) hok) ?_
 rintro v w7 ⟨rfl, hbl⟩
 replace hS := hS.grow hbl
 refine WL.bin rfl rfl rfl rfl rfl (WL.move rfl rfl rfl ?_)
 rcases (Bool.eq_false_or_eq_true (!decide (whole7 m = 0))).symm with hg8 | hg8
 ·
  refine WL.set 23 (v' := .bool false) rfl (by rw [hg8]) ?_
  refine WL.set 24 (v' := .bool false) rfl (by rw [hg8]) ?_
  have hg8p : whole7 m = 0 := by simpa using hg8
  refine WL.move rfl rfl rfl (WL.bin rfl rfl rfl rfl rfl (WL.pick (v := .bool (decide (fuel < 0))) rfl rfl rfl rfl rfl rfl (WL.move rfl rfl rfl ?_)))
  rcases (Bool.eq_false_or_eq_true (decide (fuel < 0))).symm with hg9 | hg9
  ·
   refine WL.set 26 (v' := .bool false) rfl (by rw [hg9]) ?_
   refine WL.set 27 (v' := .bool false) rfl (by rw [hg9]) ?_
   refine WL.set 28 (v' := .bool false) rfl (by rw [hg9]) ?_
   have hg9p : ¬ (fuel < 0) := by simpa using hg9
   refine WL.move rfl rfl rfl (WL.bin rfl rfl rfl rfl rfl (WL.pick (v := .bool (decide (1000 < fuel))) rfl rfl rfl rfl rfl rfl (WL.move rfl rfl rfl ?_)))
   rcases (Bool.eq_false_or_eq_true (decide (1000 < fuel))).symm with hg10 | hg10
   ·
    refine WL.set 30 (v' := .bool false) rfl (by rw [hg10]) ?_
    refine WL.set 31 (v' := .bool false) rfl (by rw [hg10]) ?_
    refine WL.set 32 (v' := .bool false) rfl (by rw [hg10]) ?_
    have hg10p : ¬ (1000 < fuel) := by simpa using hg10
    refine WL.move rfl rfl rfl (WL.bin rfl rfl rfl rfl rfl (WL.pick (v := .bool (decide (deep < 1))) rfl rfl rfl rfl rfl rfl (WL.move rfl rfl rfl ?_)))
    rcases (Bool.eq_false_or_eq_true (decide (deep < 1))).symm with hg11 | hg11
    ·
     refine WL.set 34 (v' := .bool false) rfl (by rw [hg11]) ?_
     refine WL.set 35 (v' := .bool false) rfl (by rw [hg11]) ?_
     refine WL.set 36 (v' := .bool false) rfl (by rw [hg11]) ?_
     have hg11p : ¬ (deep < 1) := by simpa using hg11
     refine WL.move rfl rfl rfl (WL.bin rfl rfl rfl rfl rfl (WL.pick (v := .bool (decide (20 < deep))) rfl rfl rfl rfl rfl rfl (WL.nil (N.seq ?_))))
     refine W.cond rfl (fun hc12 => ?_) (fun hc12 => ?_)
     ·
      have hc12p : 20 < deep := by simpa using hc12
      refine W.seq (W.region (WL.move rfl rfl rfl (WL.assign rfl rfl rfl (WL.nil (N.seq ?_)))))
      refine Fin.ret1 rfl (v := .bool true) rfl ?_
      exact ⟨rfl, hS.below⟩
     have hc12p : ¬ (20 < deep) := by simpa using hc12
     refine W.skip (N.seq (W.seq ?_))
     have hw0 : whole7 m = 0 := by omega
     have hc0 := (whole7_all hw0).1
     have h5m := (check5_all hc0).2.2.1; have hlm := (check5_all hc0).1
     obtain ⟨T, e, hT⟩ : ∃ T e, run7 m inp fuel deep = (T, e) := ⟨_, _, rfl⟩
     refine W.region (WL.loadN (cs := [.slice adf m.funcs.length capf, .slice adg m.globs.length capg]) agg_46 rfl rfl rfl rfl (hS.cells 0 (m := 2) rfl rfl) (WL.move rfl rfl rfl (WL.move rfl rfl rfl (WL.move rfl rfl rfl ?_))))
     refine WL.callF (vs := [.agg #[.slice adf m.funcs.length capf, .slice adg m.globs.length capg], .string inp, .int .i64 fuel, .int .i64 deep]) Try.func28 (by kernel_rfl) rfl rfl rfl (run7_ret m _ inp fuel deep T e hT (ro := ro) (fun b hb => (hS.snap b hb).1) (ModC.keep hx hS.alike) hok) ?_
     rintro v w13 ⟨rfl, hbl⟩
     replace hS := hS.grow hbl
     refine WL.move rfl rfl rfl (WL.extract (v := .agg #[.bool T.ended, .int .u64 T.code, .string T.out, .int .i64 T.read, .int .i64 T.steps, .int .i64 T.deep]) rfl rfl rfl rfl (WL.extract (v := .int .i64 e) rfl rfl rfl rfl ?_))
     refine WL.alloc (tyZero_spec zer_58) rfl rfl hS ?_
     clear hS; intro w15 b14 hb_b14 hS
     refine WL.store (L' := [(b14, .cells #[.bool T.ended, .int .u64 T.code, .string T.out, .int .i64 T.read, .int .i64 T.steps, .int .i64 T.deep] 58 (0, 0)), (b3, .cells #[.slice adf m.funcs.length capf, .slice adg m.globs.length capg] 46 (0, 0)), (b1, .cells #[.slice adf m.funcs.length capf, .slice adg m.globs.length capg, .string inp, .int .i64 fuel, .int .i64 deep] 56 (0, 0))]) 0 rfl rfl rfl rfl siz_58 rfl rfl rfl rfl rfl hS ?_
     clear hS; intro w16 hS
     refine WL.assign rfl rfl rfl (WL.nil (N.seq (W.seq (W.seq (W.region (WL.move rfl rfl rfl (WL.bin rfl rfl rfl rfl rfl (WL.nil (N.seq ?_)))))))))
     refine W.cond rfl (fun hc17 => ?_) (fun hc17 => ?_)
     ·
      have hc17p : ¬ (e = 0) := by simpa using hc17
      refine W.seq (W.region (WL.move rfl rfl rfl (WL.assign rfl rfl rfl (WL.nil (N.seq ?_)))))
      refine Fin.ret1 rfl (v := .bool true) rfl ?_
      exact ⟨rfl, hS.below⟩
     have hc17p : e = 0 := by simpa using hc17
     refine W.skip (N.seq (W.seq ?_))
     have he0 : e = 0 := by simpa using hc17p
     obtain ⟨T2, hT2, hen, hco, hout, hrd, hst, hdp⟩ := run7_trim (inp := inp) (fuel := fuel) (deep := deep) hw0 (T := T) (by rw [hT, he0])
     refine W.region (WL.loadN (cs := [.slice adf m.funcs.length capf, .slice adg m.globs.length capg]) agg_46 rfl rfl rfl rfl (hS.cells 1 (m := 2) rfl rfl) ?_)
     refine WL.callF (vs := [.agg #[.slice adf m.funcs.length capf, .slice adg m.globs.length capg]]) Try.func17 (by kernel_rfl) rfl rfl rfl (mod13_ret m _ (ro := ro) (fun b hb => (hS.snap b hb).1) (hx.keep hS.alike) h5m (by omega)) ?_
     rintro v w18 ⟨csq, rfl, hF, hbl⟩
     replace hS := hS.readNew hbl
     obtain ⟨sfQ, sgQ, rfl, hfsQ, hgsQ⟩ := id hF
     obtain ⟨adfQ, capfQ, rfl, hfsQa, hfsQb, hfsQc, hfsQd⟩ := id hfsQ
     have hfsQm : ((mod13 m).funcs).length ≤ 9223372036854775807 := by have h1 := hfsQa; have h2 := hfsQb; unfold maxLen at h2; omega
     obtain ⟨adgQ, capgQ, rfl, hgsQa, hgsQb, hgsQc, hgsQd⟩ := id hgsQ
     have hgsQm : ((mod13 m).globs).length ≤ 9223372036854775807 := by have h1 := hgsQa; have h2 := hgsQb; unfold maxLen at h2; omega
     refine WL.move rfl rfl rfl (WL.move rfl rfl rfl (WL.move rfl rfl rfl ?_))
     refine WL.callF (vs := [.agg #[.slice adfQ (((mod13 m).funcs).length) capfQ, .slice adgQ (((mod13 m).globs).length) capgQ], .string inp, .int .i64 fuel, .int .i64 deep]) Try.func28 (by kernel_rfl) rfl rfl rfl (run7_ret (mod13 m) _ inp fuel deep T2 0 hT2 (ro := (roFrom ro w16 w18)) (fun b hb => (hS.snap b hb).1) (ModC.keep hF hS.alike) (okMod_13 hok h5m)) ?_
     rintro v w20 ⟨rfl, hbl⟩
     replace hS := hS.grow hbl
     refine WL.move rfl rfl rfl (WL.extract (v := .agg #[.bool T2.ended, .int .u64 T2.code, .string T2.out, .int .i64 T2.read, .int .i64 T2.steps, .int .i64 T2.deep]) rfl rfl rfl rfl (WL.extract (v := .int .i64 0) rfl rfl rfl rfl ?_))
     refine WL.alloc (tyZero_spec zer_58) rfl rfl hS ?_
     clear hS; intro w22 b21 hb_b21 hS
     refine WL.store (L' := [(b21, .cells #[.bool T2.ended, .int .u64 T2.code, .string T2.out, .int .i64 T2.read, .int .i64 T2.steps, .int .i64 T2.deep] 58 (0, 0)), (b14, .cells #[.bool T.ended, .int .u64 T.code, .string T.out, .int .i64 T.read, .int .i64 T.steps, .int .i64 T.deep] 58 (0, 0)), (b3, .cells #[.slice adf m.funcs.length capf, .slice adg m.globs.length capg] 46 (0, 0)), (b1, .cells #[.slice adf m.funcs.length capf, .slice adg m.globs.length capg, .string inp, .int .i64 fuel, .int .i64 deep] 56 (0, 0))]) 0 rfl rfl rfl rfl siz_58 rfl rfl rfl rfl rfl hS ?_
     clear hS; intro w23 hS
     refine WL.assign rfl rfl rfl (WL.nil (N.seq (W.seq (W.region (WL.move rfl rfl rfl (WL.move rfl rfl rfl (WL.move rfl rfl rfl (WL.bin rfl rfl rfl rfl rfl ?_))))))))
     refine WL.set 64 (v' := .bool true) rfl rfl ?_
     refine WL.pick (v := .bool true) rfl rfl rfl rfl rfl rfl (WL.move rfl rfl rfl (WL.fieldAddr fo_58_0 rfl rfl rfl (WL.load1 (v := .bool T2.ended) one_4 rfl rfl rfl (hS.cell 0 rfl rfl) ?_)))
     refine WL.set 68 (v' := .bool true) rfl (by rw [hen]) ?_
     refine WL.pick (v := .bool true) rfl rfl rfl rfl rfl rfl (WL.move rfl rfl rfl (WL.fieldAddr fo_58_1 rfl rfl rfl (WL.load1 (v := .int .u64 T.code) one_34 rfl rfl rfl (hS.cell 1 rfl rfl) (WL.fieldAddr fo_58_1 rfl rfl rfl (WL.load1 (v := .int .u64 T2.code) one_34 rfl rfl rfl (hS.cell 0 rfl rfl) (WL.bin rfl rfl rfl rfl rfl ?_))))))
     refine WL.set 75 (v' := .bool true) rfl (congrArg Value.bool (show (decide (T.code = T2.code)) = true from decide_eq_true hco.symm)) ?_
     refine WL.pick (v := .bool true) rfl rfl rfl rfl rfl rfl (WL.move rfl rfl rfl (WL.fieldAddr fo_58_2 rfl rfl rfl (WL.load1 (v := .string T.out) one_9 rfl rfl rfl (hS.cell 1 rfl rfl) (WL.fieldAddr fo_58_2 rfl rfl rfl (WL.load1 (v := .string T2.out) one_9 rfl rfl rfl (hS.cell 0 rfl rfl) (WL.eqStr rfl rfl rfl rfl ?_))))))
     refine WL.set 82 (v' := .bool true) rfl (congrArg Value.bool (show (decide (T.out = T2.out)) = true from decide_eq_true hout.symm)) ?_
     refine WL.pick (v := .bool true) rfl rfl rfl rfl rfl rfl (WL.move rfl rfl rfl (WL.fieldAddr fo_58_3 rfl rfl rfl (WL.load1 (v := .int .i64 T.read) one_3 rfl rfl rfl (hS.cell 1 rfl rfl) (WL.fieldAddr fo_58_3 rfl rfl rfl (WL.load1 (v := .int .i64 T2.read) one_3 rfl rfl rfl (hS.cell 0 rfl rfl) (WL.bin rfl rfl rfl rfl rfl ?_))))))
     refine WL.set 89 (v' := .bool true) rfl (congrArg Value.bool (show (decide (T.read = T2.read)) = true from decide_eq_true hrd.symm)) ?_
     refine WL.pick (v := .bool true) rfl rfl rfl rfl rfl rfl (WL.move rfl rfl rfl (WL.fieldAddr fo_58_4 rfl rfl rfl (WL.load1 (v := .int .i64 T2.steps) one_3 rfl rfl rfl (hS.cell 0 rfl rfl) (WL.fieldAddr fo_58_4 rfl rfl rfl (WL.load1 (v := .int .i64 T.steps) one_3 rfl rfl rfl (hS.cell 1 rfl rfl) (WL.bin rfl rfl rfl rfl rfl ?_))))))
     refine WL.set 96 (v' := .bool true) rfl (congrArg Value.bool (show (decide (T2.steps ≤ T.steps)) = true from decide_eq_true hst)) ?_
     refine WL.pick (v := .bool true) rfl rfl rfl rfl rfl rfl (WL.move rfl rfl rfl (WL.fieldAddr fo_58_5 rfl rfl rfl (WL.load1 (v := .int .i64 T.deep) one_3 rfl rfl rfl (hS.cell 1 rfl rfl) (WL.fieldAddr fo_58_5 rfl rfl rfl (WL.load1 (v := .int .i64 T2.deep) one_3 rfl rfl rfl (hS.cell 0 rfl rfl) (WL.bin rfl rfl rfl rfl rfl ?_))))))
     refine WL.set 103 (v' := .bool true) rfl (congrArg Value.bool (show (decide (T.deep = T2.deep)) = true from decide_eq_true hdp.symm)) ?_
     refine WL.pick (v := .bool true) rfl rfl rfl rfl rfl rfl (WL.assign rfl rfl rfl (WL.nil (N.seq ?_)))
     refine Fin.ret1 rfl (v := .bool true) rfl ?_
     exact ⟨rfl, hS.below⟩
    refine WL.set 34 (v' := .bool true) rfl (by rw [hg11]) ?_
    refine WL.set 35 (v' := .bool true) rfl (by rw [hg11]) ?_
    refine WL.set 36 (v' := .bool true) rfl (by rw [hg11]) ?_
    have hg11p : deep < 1 := by simpa using hg11
    refine WL.skp rfl rfl (WL.skp rfl rfl (WL.pick (v := .bool true) rfl rfl rfl rfl rfl rfl (WL.nil (N.seq (W.condT rfl (W.seq (W.region (WL.move rfl rfl rfl (WL.assign rfl rfl rfl ?_)))))))))
    refine WL.nil (N.seq ?_)
    refine Fin.ret1 rfl (v := .bool true) rfl ?_
    exact ⟨rfl, hS.below⟩
   refine WL.set 30 (v' := .bool true) rfl (by rw [hg10]) ?_
   refine WL.set 31 (v' := .bool true) rfl (by rw [hg10]) ?_
   refine WL.set 32 (v' := .bool true) rfl (by rw [hg10]) ?_
   have hg10p : 1000 < fuel := by simpa using hg10
   refine WL.skp rfl rfl (WL.skp rfl rfl (WL.pick (v := .bool true) rfl rfl rfl rfl rfl rfl (WL.move rfl rfl rfl (WL.skp rfl rfl (WL.skp rfl rfl (WL.pick (v := .bool true) rfl rfl rfl rfl rfl rfl (WL.nil (N.seq (W.condT rfl ?_)))))))))
   refine W.seq (W.region (WL.move rfl rfl rfl (WL.assign rfl rfl rfl (WL.nil (N.seq ?_)))))
   refine Fin.ret1 rfl (v := .bool true) rfl ?_
   exact ⟨rfl, hS.below⟩
  refine WL.set 26 (v' := .bool true) rfl (by rw [hg9]) ?_
  refine WL.set 27 (v' := .bool true) rfl (by rw [hg9]) ?_
  refine WL.set 28 (v' := .bool true) rfl (by rw [hg9]) ?_
  have hg9p : fuel < 0 := by simpa using hg9
  refine WL.skp rfl rfl (WL.skp rfl rfl (WL.pick (v := .bool true) rfl rfl rfl rfl rfl rfl (WL.move rfl rfl rfl (WL.skp rfl rfl (WL.skp rfl rfl (WL.pick (v := .bool true) rfl rfl rfl rfl rfl rfl (WL.move rfl rfl rfl (WL.skp rfl rfl (WL.skp rfl rfl ?_)))))))))
  refine WL.pick (v := .bool true) rfl rfl rfl rfl rfl rfl (WL.nil (N.seq (W.condT rfl (W.seq (W.region (WL.move rfl rfl rfl (WL.assign rfl rfl rfl (WL.nil (N.seq ?_)))))))))
  refine Fin.ret1 rfl (v := .bool true) rfl ?_
  exact ⟨rfl, hS.below⟩
 refine WL.set 23 (v' := .bool true) rfl (by rw [hg8]) ?_
 refine WL.set 24 (v' := .bool true) rfl (by rw [hg8]) ?_
 have hg8p : ¬ (whole7 m = 0) := by simpa using hg8
 refine WL.skp rfl rfl (WL.skp rfl rfl (WL.pick (v := .bool true) rfl rfl rfl rfl rfl rfl (WL.move rfl rfl rfl (WL.skp rfl rfl (WL.skp rfl rfl (WL.pick (v := .bool true) rfl rfl rfl rfl rfl rfl (WL.move rfl rfl rfl (WL.skp rfl rfl (WL.skp rfl rfl ?_)))))))))
 refine WL.pick (v := .bool true) rfl rfl rfl rfl rfl rfl (WL.move rfl rfl rfl (WL.skp rfl rfl (WL.skp rfl rfl (WL.pick (v := .bool true) rfl rfl rfl rfl rfl rfl (WL.nil (N.seq (W.condT rfl (W.seq (W.region ?_)))))))))
 refine WL.move rfl rfl rfl (WL.assign rfl rfl rfl (WL.nil (N.seq ?_)))
 refine Fin.ret1 rfl (v := .bool true) rfl ?_
 exact ⟨rfl, hS.below⟩

end Go.Proofs.Ytdlcmhkfglckfaa
