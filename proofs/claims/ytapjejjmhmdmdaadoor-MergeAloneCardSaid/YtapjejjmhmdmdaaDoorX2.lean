/-
  What a run came to, compared with itself. No condition beyond those that each theorem states.
-/
import Derived.Test.YtapjejjmhmdmdaaDoorE5
import Derived.Test.YtapjejjmhmdmdaaDoorA28
import Derived.Test.YtapjejjmhmdmdaaDoorP11
namespace Go.Proofs.YtapjejjmhmdmdaaDoor
open Go.RowKit
theorem eqTr {P : Program} {t : TypeId} {f0 f1 f2 f3 f4 f5 : Field} (hf : (P.fieldsOf t).toList = [f0, f1, f2, f3, f4, f5]) (n0 : f0.name ≠ "_") (n1 : f1.name ≠ "_") (n2 : f2.name ≠ "_") (n3 : f3.name ≠ "_") (n4 : f4.name ≠ "_") (n5 : f5.name ≠ "_")
    (o0 : f0.offset = 0) (o1 : f1.offset = 1) (o2 : f2.offset = 2) (o3 : f3.offset = 3) (o4 : f4.offset = 4) (o5 : f5.offset = 5) (k0 : P.plainKey f0.type = true) (k1 : P.plainKey f1.type = true) (k2 : P.plainKey f2.type = true) (k3 : P.plainKey f3.type = true) (k4 : P.plainKey f4.type = true) (k5 : P.plainKey f5.type = true)
    (u0 : P.underlying f0.type = some .bool) (u1 : P.underlying f1.type = some (.int .u64)) (u2 : P.underlying f2.type = some .string) (u3 : P.underlying f3.type = some (.int .i64)) (u4 : P.underlying f4.type = some (.int .i64)) (u5 : P.underlying f5.type = some (.int .i64)) (x : DTr) (w : World) :
    (Op.eqFields 9999 #[.bool x.ended, .int .u64 x.code, .string x.out, .int .i64 x.read, .int .i64 x.steps, .int .i64 x.deep] #[.bool x.ended, .int .u64 x.code, .string x.out, .int .i64 x.read, .int .i64 x.steps, .int .i64 x.deep] (P.fieldsOf t).toList).run P w = .ok true w := by
  rw [hf]
  have p0 : ∀ a b c e f g : Value, (part f0.type #[a, b, c, e, f, g] 0).run P w = .ok a w := fun _ _ _ _ _ _ => run_part_plain w k0 rfl
  have p1 : ∀ a b c e f g : Value, (part f1.type #[a, b, c, e, f, g] 1).run P w = .ok b w := fun _ _ _ _ _ _ => run_part_plain w k1 rfl
  have p2 : ∀ a b c e f g : Value, (part f2.type #[a, b, c, e, f, g] 2).run P w = .ok c w := fun _ _ _ _ _ _ => run_part_plain w k2 rfl
  have p3 : ∀ a b c e f g : Value, (part f3.type #[a, b, c, e, f, g] 3).run P w = .ok e w := fun _ _ _ _ _ _ => run_part_plain w k3 rfl
  have p4 : ∀ a b c e f g : Value, (part f4.type #[a, b, c, e, f, g] 4).run P w = .ok f w := fun _ _ _ _ _ _ => run_part_plain w k4 rfl
  have p5 : ∀ a b c e f g : Value, (part f5.type #[a, b, c, e, f, g] 5).run P w = .ok g w := fun _ _ _ _ _ _ => run_part_plain w k5 rfl
  have e0 := fun a b => run_equalIn_bool' (P := P) w 9998 _ a b u0
  have e1 := fun a b => run_equalIn_int (P := P) w 9998 _ .u64 _ a b u1
  have e2 := fun a b => run_equalIn_string (P := P) w 9998 _ a b u2
  have e3 := fun a b => run_equalIn_int (P := P) w 9998 _ .i64 _ a b u3
  have e4 := fun a b => run_equalIn_int (P := P) w 9998 _ .i64 _ a b u4
  have e5 := fun a b => run_equalIn_int (P := P) w 9998 _ .i64 _ a b u5
  simp only [Op.eqFields, n0, n1, n2, n3, n4, n5, o0, o1, o2, o3, o4, o5, ne_eq, not_false_eq_true, if_true, Sem.run_bind, p0, p1, p2, p3, p4, p5, Result.andThen_ok, e0, e1, e2, e3, e4, e5, Sem.run_ite, Sem.run_pure, bytes_eq_iff]
  simp
end Go.Proofs.YtapjejjmhmdmdaaDoor

namespace Go.Proofs.YtapjejjmhmdmdaaDoor
open Go.RowKit

theorem trFields : Tryd.prog.underlying 51 = some (.struct (Tryd.prog.fieldsOf 51)) := by rw [Program.fieldsOf, Tryd.underlying51]
set_option maxRecDepth 10000 in
theorem eqTrT (x : DTr) (w : World) : (Op.eqFields 9999 #[.bool x.ended, .int .u64 x.code, .string x.out, .int .i64 x.read, .int .i64 x.steps, .int .i64 x.deep] #[.bool x.ended, .int .u64 x.code, .string x.out, .int .i64 x.read, .int .i64 x.steps, .int .i64 x.deep] (Tryd.prog.fieldsOf 51).toList).run Tryd.prog w = .ok true w :=
  eqTr (by rw [Program.fieldsOf, Tryd.underlying51]) (by decide) (by decide) (by decide) (by decide) (by decide) (by decide) rfl rfl rfl rfl rfl rfl (by simp [Program.plainKey, Tryd.underlying4]) (by simp [Program.plainKey, Tryd.underlying36]) (by simp [Program.plainKey, Tryd.underlying9]) (by simp [Program.plainKey, Tryd.underlying3]) (by simp [Program.plainKey, Tryd.underlying3]) (by simp [Program.plainKey, Tryd.underlying3]) Tryd.underlying4 Tryd.underlying36 Tryd.underlying9 Tryd.underlying3 Tryd.underlying3 Tryd.underlying3 x w

end Go.Proofs.YtapjejjmhmdmdaaDoor

namespace Go.Proofs.YtapjejjmhmdmdaaDoor
open Go.RowKit

set_option maxRecDepth 10000 in
set_option maxHeartbeats 4000000 in
theorem mergeAlone_ret (m : DMod) (cm : List Value) (inp : ByteArray) (fuel : Int) {w : World} {ro : Nat → Prop} (hro : ∀ b, ro b → b < w.heap.size) (hx : ModC ro w cm m) (hok : okMod m) (hpw : PowT ro w) : Ret Tryd.prog 7 #[.agg cm.toArray, .string inp, .int .i64 fuel] w fun v w' => v = .bool true ∧ Below w.heap.size w w' := by
 obtain ⟨sf, sg, rfl, hfs, hgs⟩ := id hx
 obtain ⟨adf, capf, rfl, hfsa, hfsb, hfsc, hfsd⟩ := id hfs
 have hfsm : m.funcs.length ≤ 9223372036854775807 := by have h1 := hfsa; have h2 := hfsb; unfold maxLen at h2; omega
 obtain ⟨adg, capg, rfl, hgsa, hgsb, hgsc, hgsd⟩ := id hgs
 have hgsm : m.globs.length ≤ 9223372036854775807 := by have h1 := hgsa; have h2 := hgsb; unfold maxLen at h2; omega
 refine Ret.enter (P := Tryd.prog) (n := 69) (args := [.agg #[.slice adf m.funcs.length capf, .slice adg m.globs.length capg], .string inp, .int .i64 fuel]) (σ := [(0, .agg #[.slice adf m.funcs.length capf, .slice adg m.globs.length capg]), (1, .string inp), (2, .int .i64 fuel)]) Tryd.func7 rfl rfl rfl rfl ?_
 have hS := St.start (ro := ro) hro
 have hsub : ∀ b, ro b → ro b ∨ w.heap.size ≤ b := fun _ h => .inl h
 refine W.seq (W.region ?_)
 refine WL.box (v := .agg #[.slice adf m.funcs.length capf, .slice adg m.globs.length capg]) (cs := [.slice adf m.funcs.length capf, .slice adg m.globs.length capg]) rfl rfl rfl rfl hS ?_
 clear hS; intro w2 b1 hb_b1 hS
 refine WL.assign rfl rfl rfl (WL.nil (N.seq (W.seq (W.region ?_))))
 refine WL.callF (vs := []) Tryd.func9 (by kernel_rfl) rfl rfl rfl (shown10_ret (ro := ro) (fun b hb => (hS.snap b hb).1) (hpw.keep hS.alike)) ?_
 rintro v w3 ⟨rfl, hbl⟩
 replace hS := hS.grow hbl
 refine WL.assign rfl rfl rfl (WL.nil (N.seq (W.seq (W.seq (W.region (WL.loadN (cs := [.slice adf m.funcs.length capf, .slice adg m.globs.length capg]) agg_32 rfl rfl rfl rfl (hS.cells 0 (m := 2) rfl rfl) ?_))))))
 refine WL.callF (vs := [.agg #[.slice adf m.funcs.length capf, .slice adg m.globs.length capg]]) Tryd.func17 (by kernel_rfl) rfl rfl rfl (whole7_ret m _ (ro := ro) (fun b hb => (hS.snap b hb).1) (ModC.keep hx hS.alike) hok) ?_
 rintro v w4 ⟨rfl, hbl⟩
 replace hS := hS.grow hbl
 refine WL.bin rfl rfl rfl rfl rfl (WL.move rfl rfl rfl ?_)
 rcases (Bool.eq_false_or_eq_true (!decide (whole7 m = 0))).symm with hg5 | hg5
 ·
  refine WL.set 17 (v' := .bool false) rfl (by rw [hg5]) ?_
  refine WL.set 18 (v' := .bool false) rfl (by rw [hg5]) ?_
  have hg5p : whole7 m = 0 := by simpa using hg5
  refine WL.move rfl rfl rfl (WL.bin rfl rfl rfl rfl rfl (WL.pick (v := .bool (decide (fuel < 0))) rfl rfl rfl rfl rfl rfl (WL.move rfl rfl rfl ?_)))
  rcases (Bool.eq_false_or_eq_true (decide (fuel < 0))).symm with hg6 | hg6
  ·
   refine WL.set 20 (v' := .bool false) rfl (by rw [hg6]) ?_
   refine WL.set 21 (v' := .bool false) rfl (by rw [hg6]) ?_
   refine WL.set 22 (v' := .bool false) rfl (by rw [hg6]) ?_
   have hg6p : ¬ (fuel < 0) := by simpa using hg6
   refine WL.move rfl rfl rfl (WL.bin rfl rfl rfl rfl rfl (WL.pick (v := .bool (decide (1000 < fuel))) rfl rfl rfl rfl rfl rfl (WL.nil (N.seq ?_))))
   refine W.cond rfl (fun hc7 => ?_) (fun hc7 => ?_)
   ·
    have hc7p : 1000 < fuel := by simpa using hc7
    refine W.seq (W.region (WL.move rfl rfl rfl (WL.assign rfl rfl rfl (WL.nil (N.seq ?_)))))
    refine Fin.ret1 rfl (v := .bool true) rfl ?_
    exact ⟨rfl, hS.below⟩
   have hc7p : ¬ (1000 < fuel) := by simpa using hc7
   refine W.skip (N.seq (W.seq ?_))
   have hw0 : whole7 m = 0 := by omega
   have hc0 := (whole7_all hw0).1
   have hrt : ∀ x ∈ [m], check5 x = 0 := fun x hx => by rw [List.mem_singleton.1 hx]; exact hc0
   refine W.region (WL.loadN (cs := [.slice adf m.funcs.length capf, .slice adg m.globs.length capg]) agg_32 rfl rfl rfl rfl (hS.cells 0 (m := 2) rfl rfl) ?_)
   refine WL.buildSlice (ps := [(0, .agg #[.slice adf m.funcs.length capf, .slice adg m.globs.length capg])]) (cs := [.slice adf m.funcs.length capf, .slice adg m.globs.length capg]) Tryd.underlying22 (tyZero_spec zer_32) rfl rfl rfl rfl (by kernel_rfl) hS ?_
   clear hS; intro w9 b8 hb_b8 hS
   have hal10 := hS.giveAlike
   replace hx := hx.keep hal10
   replace hpw := hpw.keep hal10
   have hown11 := hS.own _ List.mem_cons_self
   replace hS := hS.give
   have hsl : SlV (fun x => ro x ∨ x = b8) w9 2 (ModC (fun x => ro x ∨ x = b8) w9) (.slice (some ⟨b8, 0, none⟩) 1 1) [m] := slv_blk (cs := [.slice adf m.funcs.length capf, .slice adg m.globs.length capg]) hown11 rfl (chunk1 rfl hx) (.inr rfl) rfl (by unfold maxLen; simp)
   refine WL.callF (vs := [.slice (some ⟨b8, 0, none⟩) 1 1, .slice none 0 0]) Tryd.func14 (by kernel_rfl) rfl rfl rfl (all10_ret [m] [] _ _ (ro := (fun x => ro x ∨ x = b8)) (fun b hb => (hS.snap b hb).1) (SlV.keep hsl hS.alike (fun _ _ q => q.keep hS.alike)) slv_nil (hpw.keep hS.alike) hrt (by simp)) ?_
   rintro v w12 ⟨csm, rfl, hmr, hbl⟩
   have hal13 := hS.alikeTo hbl (ro' := (roFrom (fun x => ro x ∨ x = b8) w9 w12)) (fun b hb => .inl hb)
   replace hx := hx.keep hal13
   replace hS := hS.readNew hbl
   obtain ⟨M, hM0⟩ : ∃ M, M = (merge10 [m] []).1 := ⟨_, rfl⟩
   rw [← hM0] at hmr
   obtain ⟨sfR, sgR, rfl, hfsR, hgsR⟩ := id hmr
   obtain ⟨adfR, capfR, rfl, hfsRa, hfsRb, hfsRc, hfsRd⟩ := id hfsR
   have hfsRm : M.funcs.length ≤ 9223372036854775807 := by have h1 := hfsRa; have h2 := hfsRb; unfold maxLen at h2; omega
   obtain ⟨adgR, capgR, rfl, hgsRa, hgsRb, hgsRc, hgsRd⟩ := id hgsR
   have hgsRm : M.globs.length ≤ 9223372036854775807 := by have h1 := hgsRa; have h2 := hgsRb; unfold maxLen at h2; omega
   refine WL.move rfl rfl rfl (WL.extract (v := .agg #[.slice adfR M.funcs.length capfR, .slice adgR M.globs.length capgR]) rfl rfl rfl rfl (WL.extract (v := .int .i64 ((merge10 [m] []).2)) rfl rfl rfl rfl ?_))
   refine WL.alloc (tyZero_spec zer_32) rfl rfl hS ?_
   clear hS; intro w15 b14 hb_b14 hS
   refine WL.store (L' := [(b14, .cells #[.slice adfR M.funcs.length capfR, .slice adgR M.globs.length capgR] 32 (0, 0)), (b1, .cells #[.slice adf m.funcs.length capf, .slice adg m.globs.length capg] 32 (0, 0))]) 0 rfl rfl rfl rfl siz_32 rfl rfl rfl rfl rfl hS ?_
   clear hS; intro w16 hS
   refine WL.assign rfl rfl rfl (WL.nil (N.seq (W.seq (W.seq (W.region (WL.move rfl rfl rfl (WL.bin rfl rfl rfl rfl rfl (WL.nil (N.seq ?_)))))))))
   refine W.cond rfl (fun hc17 => ?_) (fun hc17 => ?_)
   ·
    have hc17p : ¬ ((merge10 [m] []).2 = 0) := by simpa using hc17
    refine W.seq (W.region (WL.move rfl rfl rfl (WL.move rfl rfl rfl (WL.move rfl rfl rfl (WL.bin rfl rfl rfl rfl rfl (WL.move rfl rfl rfl ?_))))))
    rcases (Bool.eq_false_or_eq_true (decide ((merge10 [m] []).2 = 8))).symm with hg18 | hg18
    ·
     refine WL.set 38 (v' := .bool false) rfl (by rw [hg18]) ?_
     refine WL.set 39 (v' := .bool false) rfl (by rw [hg18]) ?_
     have hg18p : ¬ ((merge10 [m] []).2 = 8) := by simpa using hg18
     refine WL.move rfl rfl rfl (WL.bin rfl rfl rfl rfl rfl (WL.pick (v := .bool (decide ((merge10 [m] []).2 = 11))) rfl rfl rfl rfl rfl rfl (WL.pick (v := .bool (decide ((merge10 [m] []).2 = 11))) rfl rfl rfl rfl rfl rfl (WL.assign rfl rfl rfl (WL.nil (N.seq ?_))))))
     refine Fin.ret1 rfl (v := .bool (decide ((merge10 [m] []).2 = 11))) rfl ?_
     have e11 : (merge10 [m] []).2 = 11 := by rcases alone_code hc0 with h | h | h <;> first | exact h | (exfalso; simp_all; done) | (exfalso; omega)
     exact ⟨by rw [decide_eq_true e11], hS.below⟩
    refine WL.set 38 (v' := .bool true) rfl (by rw [hg18]) ?_
    refine WL.set 39 (v' := .bool true) rfl (by rw [hg18]) ?_
    have hg18p : (merge10 [m] []).2 = 8 := by simpa using hg18
    refine WL.skp rfl rfl (WL.skp rfl rfl (WL.pick (v := .bool true) rfl rfl rfl rfl rfl rfl (WL.pick (v := .bool true) rfl rfl rfl rfl rfl rfl (WL.assign rfl rfl rfl (WL.nil (N.seq ?_))))))
    refine Fin.ret1 rfl (v := .bool true) rfl ?_
    exact ⟨rfl, hS.below⟩
   have hc17p : (merge10 [m] []).2 = 0 := by simpa using hc17
   refine W.skip (N.seq (W.seq ?_))
   have hm0 : (merge10 [m] []).2 = 0 := by simpa using hc17p
   obtain ⟨T, e, hT⟩ : ∃ T e, run7 m inp fuel 20 = (T, e) := ⟨_, _, rfl⟩
   have hT2 : run7 M inp fuel 20 = (T, e) := by rw [hM0, run7_alone hw0 hm0]; exact hT
   have hokM : okMod M := by rw [hM0]; exact (whole10_facts hrt (by simp) hm0).2.1
   refine W.region (WL.loadN (cs := [.slice adf m.funcs.length capf, .slice adg m.globs.length capg]) agg_32 rfl rfl rfl rfl (hS.cells 1 (m := 2) rfl rfl) (WL.move rfl rfl rfl (WL.move rfl rfl rfl ?_)))
   refine WL.callF (vs := [.agg #[.slice adf m.funcs.length capf, .slice adg m.globs.length capg], .string inp, .int .i64 fuel, .int .i64 20]) Tryd.func20 (by kernel_rfl) rfl rfl rfl (run7_ret m _ inp fuel 20 T e hT (ro := (roFrom (fun x => ro x ∨ x = b8) w9 w12)) (fun b hb => (hS.snap b hb).1) (ModC.keep hx hS.alike) hok) ?_
   rintro v w19 ⟨rfl, hbl⟩
   replace hS := hS.grow hbl
   refine WL.move rfl rfl rfl (WL.extract (v := .agg #[.bool T.ended, .int .u64 T.code, .string T.out, .int .i64 T.read, .int .i64 T.steps, .int .i64 T.deep]) rfl rfl rfl rfl (WL.extract (v := .int .i64 e) rfl rfl rfl rfl ?_))
   refine WL.alloc (tyZero_spec zer_51) rfl rfl hS ?_
   clear hS; intro w21 b20 hb_b20 hS
   refine WL.store (L' := [(b20, .cells #[.bool T.ended, .int .u64 T.code, .string T.out, .int .i64 T.read, .int .i64 T.steps, .int .i64 T.deep] 51 (0, 0)), (b14, .cells #[.slice adfR M.funcs.length capfR, .slice adgR M.globs.length capgR] 32 (0, 0)), (b1, .cells #[.slice adf m.funcs.length capf, .slice adg m.globs.length capg] 32 (0, 0))]) 0 rfl rfl rfl rfl siz_51 rfl rfl rfl rfl rfl hS ?_
   clear hS; intro w22 hS
   refine WL.assign rfl rfl rfl (WL.nil (N.seq (W.seq (W.region (WL.loadN (cs := [.slice adfR M.funcs.length capfR, .slice adgR M.globs.length capgR]) agg_32 rfl rfl rfl rfl (hS.cells 1 (m := 2) rfl rfl) (WL.move rfl rfl rfl (WL.move rfl rfl rfl ?_)))))))
   refine WL.callF (vs := [.agg #[.slice adfR M.funcs.length capfR, .slice adgR M.globs.length capgR], .string inp, .int .i64 fuel, .int .i64 20]) Tryd.func20 (by kernel_rfl) rfl rfl rfl (run7_ret M _ inp fuel 20 T e hT2 (ro := (roFrom (fun x => ro x ∨ x = b8) w9 w12)) (fun b hb => (hS.snap b hb).1) (ModC.keep hmr hS.alike) hokM) ?_
   rintro v w23 ⟨rfl, hbl⟩
   replace hS := hS.grow hbl
   refine WL.move rfl rfl rfl (WL.extract (v := .agg #[.bool T.ended, .int .u64 T.code, .string T.out, .int .i64 T.read, .int .i64 T.steps, .int .i64 T.deep]) rfl rfl rfl rfl (WL.extract (v := .int .i64 e) rfl rfl rfl rfl ?_))
   refine WL.alloc (tyZero_spec zer_51) rfl rfl hS ?_
   clear hS; intro w25 b24 hb_b24 hS
   refine WL.store (L' := [(b24, .cells #[.bool T.ended, .int .u64 T.code, .string T.out, .int .i64 T.read, .int .i64 T.steps, .int .i64 T.deep] 51 (0, 0)), (b20, .cells #[.bool T.ended, .int .u64 T.code, .string T.out, .int .i64 T.read, .int .i64 T.steps, .int .i64 T.deep] 51 (0, 0)), (b14, .cells #[.slice adfR M.funcs.length capfR, .slice adgR M.globs.length capgR] 32 (0, 0)), (b1, .cells #[.slice adf m.funcs.length capf, .slice adg m.globs.length capg] 32 (0, 0))]) 0 rfl rfl rfl rfl siz_51 rfl rfl rfl rfl rfl hS ?_
   clear hS; intro w26 hS
   refine WL.assign rfl rfl rfl (WL.nil (N.seq (W.seq (W.region (WL.move rfl rfl rfl (WL.move rfl rfl rfl (WL.loadN (cs := [.bool T.ended, .int .u64 T.code, .string T.out, .int .i64 T.read, .int .i64 T.steps, .int .i64 T.deep]) agg_51 rfl rfl rfl rfl (hS.cells 1 (m := 6) rfl rfl) (WL.loadN (cs := [.bool T.ended, .int .u64 T.code, .string T.out, .int .i64 T.read, .int .i64 T.steps, .int .i64 T.deep]) agg_51 rfl rfl rfl rfl (hS.cells 0 (m := 6) rfl rfl) ?_))))))))
   refine WL.eqAggO true trFields Tryd.stoodInHeld51 Tryd.eqGuardType51 (eqTrT _) rfl rfl rfl rfl ?_
   refine WL.pick (v := .bool true) rfl rfl rfl rfl rfl rfl (WL.move rfl rfl rfl (WL.move rfl rfl rfl (WL.move rfl rfl rfl (WL.bin rfl rfl rfl rfl rfl ?_))))
   refine WL.set 67 (v' := .bool true) rfl (congrArg Value.bool (show (decide (e = e)) = true from decide_eq_true rfl)) ?_
   refine WL.pick (v := .bool true) rfl rfl rfl rfl rfl rfl (WL.assign rfl rfl rfl (WL.nil (N.seq ?_)))
   refine Fin.ret1 rfl (v := .bool true) rfl ?_
   exact ⟨rfl, hS.below⟩
  refine WL.set 20 (v' := .bool true) rfl (by rw [hg6]) ?_
  refine WL.set 21 (v' := .bool true) rfl (by rw [hg6]) ?_
  refine WL.set 22 (v' := .bool true) rfl (by rw [hg6]) ?_
  have hg6p : fuel < 0 := by simpa using hg6
  refine WL.skp rfl rfl (WL.skp rfl rfl (WL.pick (v := .bool true) rfl rfl rfl rfl rfl rfl (WL.nil (N.seq (W.condT rfl (W.seq (W.region (WL.move rfl rfl rfl (WL.assign rfl rfl rfl ?_)))))))))
  refine WL.nil (N.seq ?_)
  refine Fin.ret1 rfl (v := .bool true) rfl ?_
  exact ⟨rfl, hS.below⟩
 refine WL.set 17 (v' := .bool true) rfl (by rw [hg5]) ?_
 refine WL.set 18 (v' := .bool true) rfl (by rw [hg5]) ?_
 have hg5p : ¬ (whole7 m = 0) := by simpa using hg5
 refine WL.skp rfl rfl (WL.skp rfl rfl (WL.pick (v := .bool true) rfl rfl rfl rfl rfl rfl (WL.move rfl rfl rfl (WL.skp rfl rfl (WL.skp rfl rfl (WL.pick (v := .bool true) rfl rfl rfl rfl rfl rfl (WL.nil (N.seq (W.condT rfl ?_)))))))))
 refine W.seq (W.region (WL.move rfl rfl rfl (WL.assign rfl rfl rfl (WL.nil (N.seq ?_)))))
 refine Fin.ret1 rfl (v := .bool true) rfl ?_
 exact ⟨rfl, hS.below⟩

end Go.Proofs.YtapjejjmhmdmdaaDoor
