/-
  What a run came to, compared with itself. No condition beyond those that each theorem states.
-/
import Derived.Test.YtokkiaokpfediaaE5
import Derived.Test.YtokkiaokpfediaaA28
import Derived.Test.YtokkiaokpfediaaI2
namespace Go.Proofs.Ytokkiaokpfediaa
open Go.RowKit
theorem eqTr {P : Program} {t : TypeId} {f0 f1 f2 f3 f4 f5 : Field} (hf : (P.fieldsOf t).toList = [f0, f1, f2, f3, f4, f5]) (n0 : f0.name ≠ "_") (n1 : f1.name ≠ "_") (n2 : f2.name ≠ "_") (n3 : f3.name ≠ "_") (n4 : f4.name ≠ "_") (n5 : f5.name ≠ "_")
    (o0 : f0.offset = 0) (o1 : f1.offset = 1) (o2 : f2.offset = 2) (o3 : f3.offset = 3) (o4 : f4.offset = 4) (o5 : f5.offset = 5) (k0 : P.plainKey f0.type = true) (k1 : P.plainKey f1.type = true) (k2 : P.plainKey f2.type = true) (k3 : P.plainKey f3.type = true) (k4 : P.plainKey f4.type = true) (k5 : P.plainKey f5.type = true)
    (u0 : P.underlying f0.type = some .bool) (u1 : P.underlying f1.type = some (.int .u64)) (u2 : P.underlying f2.type = some .string) (u3 : P.underlying f3.type = some (.int .i64)) (u4 : P.underlying f4.type = some (.int .i64)) (u5 : P.underlying f5.type = some (.int .i64)) (x : DTr) (w : World) :
    (Op.eqFields 9999 #[.bool x.ended, .int .u64 x.code, .string x.out, .int .i64 x.read, .int .i64 x.steps, .int .i64 x.deep] #[.bool x.ended, .int .u64 x.code, .string x.out, .int .i64 x.read, .int .i64 x.steps, .int .i64 x.deep] (P.fieldsOf t).toList).run P w = .ok true w := by
  rw [hf]
  have p0 : ∀ a b c e f g : Value, (part f0.type #[a, b, c, e, f, g] 0).run P w = .ok a w := fun _ _ _ _ _ _ => run_part_plain w k0 rfl
  have p1 : ∀ a b c e f g : Value, (part f1.type #[a, b, c, e, f, g] 1).run P w = .ok b w := fun _ _ _ _ _ _ => run_part_plain w k1 rfl
  have p2 : ∀ a b c e f g : Value, (part f2.type #[a, b, c, e, f, g] 2).run P w = .ok c w := fun _ _ _ _ _ _ => run_part_plain w k2 rfl
  have p3 : ∀ a b c e f g : Value, (part f3.type #[a, b, c, e, f, g] 3).run P w = .ok e w := fun _ _ _ _ _ _ => run_part_plain w k3 rfl
  have p4 : ∀ a b c e f g : Value, (part f4.type #[a, b, c, e, f, g] 4).run P w = .ok f w := fun _ _ _ _ _ _ => run_part_plain w k4 rfl
  have p5 : ∀ a b c e f g : Value, (part f5.type #[a, b, c, e, f, g] 5).run P w = .ok g w := fun _ _ _ _ _ _ => run_part_plain w k5 rfl
  have e0 := fun a b => run_equalIn_bool' (P := P) w 9998 _ a b u0
  have e1 := fun a b => run_equalIn_int (P := P) w 9998 _ .u64 _ a b u1
  have e2 := fun a b => run_equalIn_string (P := P) w 9998 _ a b u2
  have e3 := fun a b => run_equalIn_int (P := P) w 9998 _ .i64 _ a b u3
  have e4 := fun a b => run_equalIn_int (P := P) w 9998 _ .i64 _ a b u4
  have e5 := fun a b => run_equalIn_int (P := P) w 9998 _ .i64 _ a b u5
  simp only [Op.eqFields, n0, n1, n2, n3, n4, n5, o0, o1, o2, o3, o4, o5, ne_eq, not_false_eq_true, if_true, Sem.run_bind, p0, p1, p2, p3, p4, p5, Result.andThen_ok, e0, e1, e2, e3, e4, e5, Sem.run_ite, Sem.run_pure, bytes_eq_iff]
  simp
end Go.Proofs.Ytokkiaokpfediaa

namespace Go.Proofs.Ytokkiaokpfediaa
open Go.RowKit

theorem trFields : Try.prog.underlying 51 = some (.struct (Try.prog.fieldsOf 51)) := by rw [Program.fieldsOf, Try.underlying51]
theorem eqTrT (x : DTr) (w : World) : (Op.eqFields 9999 #[.bool x.ended, .int .u64 x.code, .string x.out, .int .i64 x.read, .int .i64 x.steps, .int .i64 x.deep] #[.bool x.ended, .int .u64 x.code, .string x.out, .int .i64 x.read, .int .i64 x.steps, .int .i64 x.deep] (Try.prog.fieldsOf 51).toList).run Try.prog w = .ok true w :=
  eqTr (by rw [Program.fieldsOf, Try.underlying51]) (by decide) (by decide) (by decide) (by decide) (by decide) (by decide) rfl rfl rfl rfl rfl rfl (by simp [Program.plainKey, Try.underlying4]) (by simp [Program.plainKey, Try.underlying22]) (by simp [Program.plainKey, Try.underlying9]) (by simp [Program.plainKey, Try.underlying3]) (by simp [Program.plainKey, Try.underlying3]) (by simp [Program.plainKey, Try.underlying3]) Try.underlying4 Try.underlying22 Try.underlying9 Try.underlying3 Try.underlying3 Try.underlying3 x w

end Go.Proofs.Ytokkiaokpfediaa

namespace Go.Proofs.Ytokkiaokpfediaa
open Go.RowKit
theorem fo_49_0 : fOff Try.prog 49 0 0 = true := by kernel_rfl
theorem fo_49_1 : fOff Try.prog 49 1 2 = true := by kernel_rfl
theorem fo_49_2 : fOff Try.prog 49 2 3 = true := by kernel_rfl
theorem fo_49_3 : fOff Try.prog 49 3 4 = true := by kernel_rfl
theorem foldRuns_ret (m : DMod) (cm : List Value) (inp : ByteArray) (fuel deep : Int) {w : World} {ro : Nat → Prop} (hro : ∀ b, ro b → b < w.heap.size) (hx : ModC ro w cm m) (hok : okMod m) : Ret Try.prog 7 #[.agg (cm ++ ([.string inp, .int .i64 fuel, .int .i64 deep] : List Value)).toArray] w fun v w' => v = .bool true ∧ Below w.heap.size w w' := by
 obtain ⟨sf, sg, rfl, hfs, hgs⟩ := id hx
 obtain ⟨adf, capf, rfl, hfsa, hfsb, hfsc, hfsd⟩ := id hfs
 have hfsm : m.funcs.length ≤ 9223372036854775807 := by have h1 := hfsa; have h2 := hfsb; unfold maxLen at h2; omega
 obtain ⟨adg, capg, rfl, hgsa, hgsb, hgsc, hgsd⟩ := id hgs
 have hgsm : m.globs.length ≤ 9223372036854775807 := by have h1 := hgsa; have h2 := hgsb; unfold maxLen at h2; omega
 refine Ret.enter (P := Try.prog) (n := 69) (args := [.agg #[.slice adf m.funcs.length capf, .slice adg m.globs.length capg, .string inp, .int .i64 fuel, .int .i64 deep]]) (σ := [(0, .agg #[.slice adf m.funcs.length capf, .slice adg m.globs.length capg, .string inp, .int .i64 fuel, .int .i64 deep])]) Try.func7 rfl rfl rfl rfl ?_
 have hS := St.start (ro := ro) hro
 have hsub : ∀ b, ro b → ro b ∨ w.heap.size ≤ b := fun _ h => .inl h
 have halT : Alike ro w ro w := Alike.refl
 refine W.seq (W.region ?_)
 refine WL.box (v := .agg #[.slice adf m.funcs.length capf, .slice adg m.globs.length capg, .string inp, .int .i64 fuel, .int .i64 deep]) (cs := [.slice adf m.funcs.length capf, .slice adg m.globs.length capg, .string inp, .int .i64 fuel, .int .i64 deep]) rfl rfl rfl rfl hS ?_
 clear hS; intro w2 b1 hb_b1 hS
 refine WL.assign rfl rfl rfl (WL.nil (N.seq (W.seq (W.region ?_))))
 refine WL.fieldAddr fo_49_0 rfl rfl rfl ?_
 refine WL.loadN (cs := [.slice adf m.funcs.length capf, .slice adg m.globs.length capg]) agg_44 rfl rfl rfl rfl (hS.cells 0 (m := 2) rfl rfl) ?_
 refine WL.alloc (tyZero_spec zer_44) rfl rfl hS ?_
 clear hS; intro w4 b3 hb_b3 hS
 refine WL.store (cs := [.slice adf m.funcs.length capf, .slice adg m.globs.length capg]) (c' := #[.slice adf m.funcs.length capf, .slice adg m.globs.length capg]) (L' := [(b3, .cells #[.slice adf m.funcs.length capf, .slice adg m.globs.length capg] 44 (0, 0)), (b1, .cells #[.slice adf m.funcs.length capf, .slice adg m.globs.length capg, .string inp, .int .i64 fuel, .int .i64 deep] 49 (0, 0))]) 0 rfl rfl rfl rfl siz_44 rfl rfl rfl rfl rfl hS ?_
 clear hS; intro w5 hS
 refine WL.nil (N.seq (W.seq (W.region ?_)))
 refine WL.fieldAddr fo_49_1 rfl rfl rfl ?_
 refine WL.load1 (v := .string inp) one_9 rfl rfl rfl (hS.cell 1 rfl rfl) ?_
 refine WL.assign rfl rfl rfl (WL.nil (N.seq (W.seq (W.region ?_))))
 refine WL.fieldAddr fo_49_2 rfl rfl rfl ?_
 refine WL.load1 (v := .int .i64 fuel) one_3 rfl rfl rfl (hS.cell 1 rfl rfl) ?_
 refine WL.assign rfl rfl rfl (WL.nil (N.seq (W.seq (W.region ?_))))
 refine WL.fieldAddr fo_49_3 rfl rfl rfl ?_
 refine WL.load1 (v := .int .i64 deep) one_3 rfl rfl rfl (hS.cell 1 rfl rfl) ?_
 refine WL.assign rfl rfl rfl (WL.nil (N.seq (W.seq (W.region ?_))))
 refine WL.callF (vs := []) Try.func8 (by kernel_rfl) rfl rfl rfl (shown_ret (ro := ro) (fun b hb => (hS.snap b hb).1)) ?_
 rintro v w6 ⟨rfl, hbl⟩
 replace hS := hS.grow hbl
 refine WL.assign rfl rfl rfl (WL.nil (N.seq (W.seq (W.seq (W.region ?_)))))
 refine WL.loadN (cs := [.slice adf m.funcs.length capf, .slice adg m.globs.length capg]) agg_44 rfl rfl rfl rfl (hS.cells 0 (m := 2) rfl rfl) ?_
 refine WL.callF (vs := [.agg #[.slice adf m.funcs.length capf, .slice adg m.globs.length capg]]) Try.func17 (by kernel_rfl) rfl rfl rfl (whole7_ret m _ (ro := ro) (fun b hb => (hS.snap b hb).1) (ModC.keep hx hS.alike) hok) ?_
 rintro v w7 ⟨rfl, hbl⟩
 replace hS := hS.grow hbl
 refine WL.bin rfl rfl rfl rfl rfl (WL.move rfl rfl rfl ?_)
 rcases (Bool.eq_false_or_eq_true (!decide (whole7 m = 0))).symm with hg8 | hg8
 ·
  refine WL.set 23 (v' := .bool false) rfl (by rw [hg8]) ?_
  refine WL.set 24 (v' := .bool false) rfl (by rw [hg8]) ?_
  have hg8p : whole7 m = 0 := by simpa using hg8
  refine WL.move rfl rfl rfl (WL.bin rfl rfl rfl rfl rfl ?_)
  refine WL.pick (v := .bool (decide (fuel < 0))) rfl rfl rfl rfl rfl rfl ?_
  refine WL.move rfl rfl rfl ?_
  rcases (Bool.eq_false_or_eq_true (decide (fuel < 0))).symm with hg9 | hg9
  ·
   refine WL.set 26 (v' := .bool false) rfl (by rw [hg9]) ?_
   refine WL.set 27 (v' := .bool false) rfl (by rw [hg9]) ?_
   refine WL.set 28 (v' := .bool false) rfl (by rw [hg9]) ?_
   have hg9p : ¬ (fuel < 0) := by simpa using hg9
   refine WL.move rfl rfl rfl (WL.bin rfl rfl rfl rfl rfl ?_)
   refine WL.pick (v := .bool (decide (1000 < fuel))) rfl rfl rfl rfl rfl rfl ?_
   refine WL.move rfl rfl rfl ?_
   rcases (Bool.eq_false_or_eq_true (decide (1000 < fuel))).symm with hg10 | hg10
   ·
    refine WL.set 30 (v' := .bool false) rfl (by rw [hg10]) ?_
    refine WL.set 31 (v' := .bool false) rfl (by rw [hg10]) ?_
    refine WL.set 32 (v' := .bool false) rfl (by rw [hg10]) ?_
    have hg10p : ¬ (1000 < fuel) := by simpa using hg10
    refine WL.move rfl rfl rfl (WL.bin rfl rfl rfl rfl rfl ?_)
    refine WL.pick (v := .bool (decide (deep < 1))) rfl rfl rfl rfl rfl rfl ?_
    refine WL.move rfl rfl rfl ?_
    rcases (Bool.eq_false_or_eq_true (decide (deep < 1))).symm with hg11 | hg11
    ·
     refine WL.set 34 (v' := .bool false) rfl (by rw [hg11]) ?_
     refine WL.set 35 (v' := .bool false) rfl (by rw [hg11]) ?_
     refine WL.set 36 (v' := .bool false) rfl (by rw [hg11]) ?_
     have hg11p : ¬ (deep < 1) := by simpa using hg11
     refine WL.move rfl rfl rfl (WL.bin rfl rfl rfl rfl rfl ?_)
     refine WL.pick (v := .bool (decide (20 < deep))) rfl rfl rfl rfl rfl rfl ?_
     refine WL.nil (N.seq ?_)
     refine W.cond rfl (fun hc12 => ?_) (fun hc12 => ?_)
     ·
      have hc12p : 20 < deep := by simpa using hc12
      refine W.seq (W.region (WL.move rfl rfl rfl (WL.assign rfl rfl rfl (WL.nil (N.seq ?_)))))
      refine Fin.ret1 rfl (v := .bool true) rfl ?_
      exact ⟨rfl, hS.below⟩
     have hc12p : ¬ (20 < deep) := by simpa using hc12
     refine W.skip (N.seq (W.seq ?_))
     have hw0 : whole7 m = 0 := by omega
     have hc0 := (whole7_all hw0).1
     obtain ⟨T, e, hT⟩ : ∃ T e, run7 m inp fuel deep = (T, e) := ⟨_, _, rfl⟩
     have hT2 : run7 (foldMod m) inp fuel deep = (T, e) := by rw [run7_fold hw0]; exact hT
     refine W.region ?_
     refine WL.loadN (cs := [.slice adf m.funcs.length capf, .slice adg m.globs.length capg]) agg_44 rfl rfl rfl rfl (hS.cells 0 (m := 2) rfl rfl) ?_
     refine WL.move rfl rfl rfl (WL.move rfl rfl rfl (WL.move rfl rfl rfl ?_))
     refine WL.callF (vs := [.agg #[.slice adf m.funcs.length capf, .slice adg m.globs.length capg], .string inp, .int .i64 fuel, .int .i64 deep]) Try.func18 (by kernel_rfl) rfl rfl rfl (run7_ret m _ inp fuel deep T e hT (ro := ro) (fun b hb => (hS.snap b hb).1) (ModC.keep hx hS.alike) hok) ?_
     rintro v w13 ⟨rfl, hbl⟩
     replace hS := hS.grow hbl
     refine WL.move rfl rfl rfl ?_
     refine WL.extract (v := .agg #[.bool T.ended, .int .u64 T.code, .string T.out, .int .i64 T.read, .int .i64 T.steps, .int .i64 T.deep]) rfl rfl rfl rfl ?_
     refine WL.extract (v := .int .i64 e) rfl rfl rfl rfl ?_
     refine WL.alloc (tyZero_spec zer_51) rfl rfl hS ?_
     clear hS; intro w15 b14 hb_b14 hS
     refine WL.store (cs := [.bool T.ended, .int .u64 T.code, .string T.out, .int .i64 T.read, .int .i64 T.steps, .int .i64 T.deep]) (c' := #[.bool T.ended, .int .u64 T.code, .string T.out, .int .i64 T.read, .int .i64 T.steps, .int .i64 T.deep]) (L' := [(b14, .cells #[.bool T.ended, .int .u64 T.code, .string T.out, .int .i64 T.read, .int .i64 T.steps, .int .i64 T.deep] 51 (0, 0)), (b3, .cells #[.slice adf m.funcs.length capf, .slice adg m.globs.length capg] 44 (0, 0)), (b1, .cells #[.slice adf m.funcs.length capf, .slice adg m.globs.length capg, .string inp, .int .i64 fuel, .int .i64 deep] 49 (0, 0))]) 0 rfl rfl rfl rfl siz_51 rfl rfl rfl rfl rfl hS ?_
     clear hS; intro w16 hS
     refine WL.assign rfl rfl rfl (WL.nil (N.seq (W.seq (W.region ?_))))
     refine WL.loadN (cs := [.slice adf m.funcs.length capf, .slice adg m.globs.length capg]) agg_44 rfl rfl rfl rfl (hS.cells 1 (m := 2) rfl rfl) ?_
     refine WL.callF (vs := [.agg #[.slice adf m.funcs.length capf, .slice adg m.globs.length capg]]) Try.func16 (by kernel_rfl) rfl rfl rfl (foldMod_ret m _ (ro := ro) (fun b hb => (hS.snap b hb).1) (ModC.keep hx hS.alike) (okF_of hc0) (by have := (check5_all hc0).1; omega)) ?_
     rintro v w17 ⟨csr, rfl, hM, hbl⟩
     have hal18 := hS.alikeTo hbl (ro' := (roFrom ro w16 w17)) (fun b hb => .inl hb)
     replace hsub : ∀ b, (roFrom ro w16 w17) b → ro b ∨ w.heap.size ≤ b := fun b hb => hb.elim (hsub b) (fun h => .inr (Nat.le_trans hS.below.size h.1))
     replace halT := halT.trans hal18
     replace hx := hx.keep hal18
     replace hfsd : Elems (roFrom ro w16 w17) w17 4 (FuncC (roFrom ro w16 w17) w17) adf m.funcs := hfsd.keep hal18 (fun _ _ h => h.keep hal18)
     replace hfs : SlV (roFrom ro w16 w17) w17 4 (FuncC (roFrom ro w16 w17) w17) (.slice adf m.funcs.length capf) m.funcs := SlV.keep hfs hal18 (fun _ _ h => h.keep hal18)
     replace hgsd : Elems (roFrom ro w16 w17) w17 4 GlobC adg m.globs := hgsd.keep hal18 (fun _ _ h => h)
     replace hgs : SlV (roFrom ro w16 w17) w17 4 GlobC (.slice adg m.globs.length capg) m.globs := SlV.keep hgs hal18 (fun _ _ h => h)
     replace hS := hS.readNew hbl
     obtain ⟨sfr, sgr, rfl, hfsr, hgsr⟩ := id hM
     obtain ⟨adfr, capfr, rfl, hfsra, hfsrb, hfsrc, hfsrd⟩ := id hfsr
     have hfsrm : ((foldMod m).funcs).length ≤ 9223372036854775807 := by have h1 := hfsra; have h2 := hfsrb; unfold maxLen at h2; omega
     obtain ⟨adgr, capgr, rfl, hgsra, hgsrb, hgsrc, hgsrd⟩ := id hgsr
     have hgsrm : ((foldMod m).globs).length ≤ 9223372036854775807 := by have h1 := hgsra; have h2 := hgsrb; unfold maxLen at h2; omega
     refine WL.move rfl rfl rfl (WL.move rfl rfl rfl (WL.move rfl rfl rfl ?_))
     refine WL.callF (vs := [.agg #[.slice adfr (((foldMod m).funcs).length) capfr, .slice adgr (((foldMod m).globs).length) capgr], .string inp, .int .i64 fuel, .int .i64 deep]) Try.func18 (by kernel_rfl) rfl rfl rfl (run7_ret (foldMod m) _ inp fuel deep T e hT2 (ro := (roFrom ro w16 w17)) (fun b hb => (hS.snap b hb).1) (ModC.keep hM hS.alike) (okMod_fold hok)) ?_
     rintro v w19 ⟨rfl, hbl⟩
     replace hS := hS.grow hbl
     refine WL.move rfl rfl rfl ?_
     refine WL.extract (v := .agg #[.bool T.ended, .int .u64 T.code, .string T.out, .int .i64 T.read, .int .i64 T.steps, .int .i64 T.deep]) rfl rfl rfl rfl ?_
     refine WL.extract (v := .int .i64 e) rfl rfl rfl rfl ?_
     refine WL.alloc (tyZero_spec zer_51) rfl rfl hS ?_
     clear hS; intro w21 b20 hb_b20 hS
     refine WL.store (cs := [.bool T.ended, .int .u64 T.code, .string T.out, .int .i64 T.read, .int .i64 T.steps, .int .i64 T.deep]) (c' := #[.bool T.ended, .int .u64 T.code, .string T.out, .int .i64 T.read, .int .i64 T.steps, .int .i64 T.deep]) (L' := [(b20, .cells #[.bool T.ended, .int .u64 T.code, .string T.out, .int .i64 T.read, .int .i64 T.steps, .int .i64 T.deep] 51 (0, 0)), (b14, .cells #[.bool T.ended, .int .u64 T.code, .string T.out, .int .i64 T.read, .int .i64 T.steps, .int .i64 T.deep] 51 (0, 0)), (b3, .cells #[.slice adf m.funcs.length capf, .slice adg m.globs.length capg] 44 (0, 0)), (b1, .cells #[.slice adf m.funcs.length capf, .slice adg m.globs.length capg, .string inp, .int .i64 fuel, .int .i64 deep] 49 (0, 0))]) 0 rfl rfl rfl rfl siz_51 rfl rfl rfl rfl rfl hS ?_
     clear hS; intro w22 hS
     refine WL.assign rfl rfl rfl (WL.nil (N.seq (W.seq (W.region (WL.move rfl rfl rfl (WL.move rfl rfl rfl ?_))))))
     refine WL.loadN (cs := [.bool T.ended, .int .u64 T.code, .string T.out, .int .i64 T.read, .int .i64 T.steps, .int .i64 T.deep]) agg_51 rfl rfl rfl rfl (hS.cells 1 (m := 6) rfl rfl) ?_
     refine WL.loadN (cs := [.bool T.ended, .int .u64 T.code, .string T.out, .int .i64 T.read, .int .i64 T.steps, .int .i64 T.deep]) agg_51 rfl rfl rfl rfl (hS.cells 0 (m := 6) rfl rfl) ?_
     refine WL.eqAggO true trFields Try.stoodInHeld51 Try.eqGuardType51 (eqTrT _) rfl rfl rfl rfl ?_
     refine WL.pick (v := .bool true) rfl rfl rfl rfl rfl rfl (WL.move rfl rfl rfl (WL.move rfl rfl rfl (WL.move rfl rfl rfl (WL.bin rfl rfl rfl rfl rfl ?_))))
     refine WL.set 67 (v' := .bool true) rfl (congrArg Value.bool (show (decide (e = e)) = true from decide_eq_true rfl)) ?_
     refine WL.pick (v := .bool true) rfl rfl rfl rfl rfl rfl (WL.assign rfl rfl rfl (WL.nil (N.seq ?_)))
     refine Fin.ret1 rfl (v := .bool true) rfl ?_
     exact ⟨rfl, hS.below⟩
    refine WL.set 34 (v' := .bool true) rfl (by rw [hg11]) ?_
    refine WL.set 35 (v' := .bool true) rfl (by rw [hg11]) ?_
    refine WL.set 36 (v' := .bool true) rfl (by rw [hg11]) ?_
    have hg11p : deep < 1 := by simpa using hg11
    refine WL.skp rfl rfl (WL.skp rfl rfl (WL.pick (v := .bool true) rfl rfl rfl rfl rfl rfl (WL.nil (N.seq (W.condT rfl (W.seq (W.region (WL.move rfl rfl rfl (WL.assign rfl rfl rfl ?_)))))))))
    refine WL.nil (N.seq ?_)
    refine Fin.ret1 rfl (v := .bool true) rfl ?_
    exact ⟨rfl, hS.below⟩
   refine WL.set 30 (v' := .bool true) rfl (by rw [hg10]) ?_
   refine WL.set 31 (v' := .bool true) rfl (by rw [hg10]) ?_
   refine WL.set 32 (v' := .bool true) rfl (by rw [hg10]) ?_
   have hg10p : 1000 < fuel := by simpa using hg10
   refine WL.skp rfl rfl (WL.skp rfl rfl (WL.pick (v := .bool true) rfl rfl rfl rfl rfl rfl (WL.move rfl rfl rfl (WL.skp rfl rfl (WL.skp rfl rfl (WL.pick (v := .bool true) rfl rfl rfl rfl rfl rfl (WL.nil (N.seq (W.condT rfl ?_)))))))))
   refine W.seq (W.region (WL.move rfl rfl rfl (WL.assign rfl rfl rfl (WL.nil (N.seq ?_)))))
   refine Fin.ret1 rfl (v := .bool true) rfl ?_
   exact ⟨rfl, hS.below⟩
  refine WL.set 26 (v' := .bool true) rfl (by rw [hg9]) ?_
  refine WL.set 27 (v' := .bool true) rfl (by rw [hg9]) ?_
  refine WL.set 28 (v' := .bool true) rfl (by rw [hg9]) ?_
  have hg9p : fuel < 0 := by simpa using hg9
  refine WL.skp rfl rfl (WL.skp rfl rfl (WL.pick (v := .bool true) rfl rfl rfl rfl rfl rfl (WL.move rfl rfl rfl (WL.skp rfl rfl (WL.skp rfl rfl (WL.pick (v := .bool true) rfl rfl rfl rfl rfl rfl (WL.move rfl rfl rfl (WL.skp rfl rfl (WL.skp rfl rfl ?_)))))))))
  refine WL.pick (v := .bool true) rfl rfl rfl rfl rfl rfl (WL.nil (N.seq (W.condT rfl (W.seq (W.region (WL.move rfl rfl rfl (WL.assign rfl rfl rfl (WL.nil (N.seq ?_)))))))))
  refine Fin.ret1 rfl (v := .bool true) rfl ?_
  exact ⟨rfl, hS.below⟩
 refine WL.set 23 (v' := .bool true) rfl (by rw [hg8]) ?_
 refine WL.set 24 (v' := .bool true) rfl (by rw [hg8]) ?_
 have hg8p : ¬ (whole7 m = 0) := by simpa using hg8
 refine WL.skp rfl rfl (WL.skp rfl rfl (WL.pick (v := .bool true) rfl rfl rfl rfl rfl rfl (WL.move rfl rfl rfl (WL.skp rfl rfl (WL.skp rfl rfl (WL.pick (v := .bool true) rfl rfl rfl rfl rfl rfl (WL.move rfl rfl rfl (WL.skp rfl rfl (WL.skp rfl rfl ?_)))))))))
 refine WL.pick (v := .bool true) rfl rfl rfl rfl rfl rfl (WL.move rfl rfl rfl (WL.skp rfl rfl (WL.skp rfl rfl (WL.pick (v := .bool true) rfl rfl rfl rfl rfl rfl (WL.nil (N.seq (W.condT rfl (W.seq (W.region ?_)))))))))
 refine WL.move rfl rfl rfl (WL.assign rfl rfl rfl (WL.nil (N.seq ?_)))
 refine Fin.ret1 rfl (v := .bool true) rfl ?_
 exact ⟨rfl, hS.below⟩

end Go.Proofs.Ytokkiaokpfediaa
