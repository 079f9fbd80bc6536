/-
  Contracts of layer 13 (trim). No condition beyond those that each theorem states.
-/
import Derived.Test.YtdlcmhkfglckfaaU11
import Derived.Test.YtdlcmhkfglckfaaL3
namespace Go.Proofs.Ytdlcmhkfglckfaa
open Go.RowKit

theorem stays_mod {R : Nat → Prop} {B : Nat} {x : DMod} : Stays fun v u => ∃ cs, v = .agg cs.toArray ∧ ModC (fun b => (R b ∨ B ≤ b) ∧ b < u.heap.size) u cs x := fun _ _ _ ⟨cs, e, h⟩ hb =>
  ⟨cs, e, h.keep fun b hr => ⟨⟨hr.1, Nat.lt_of_lt_of_le hr.2 hb.size⟩, hb.block b hr.2⟩⟩

set_option maxRecDepth 10000 in
set_option maxHeartbeats 4000000 in
theorem trimTwice_ret (m : DMod) (cm : List Value) {w : World} {ro : Nat → Prop} (hro : ∀ b, ro b → b < w.heap.size) (hx : ModC ro w cm m) (hok : okMod m) : Ret Try.prog 8 #[.agg cm.toArray] w fun v w' => v = .bool true ∧ Below w.heap.size w w' := by
 obtain ⟨sfM, sgM, rfl, hfsM, hgsM⟩ := id hx
 obtain ⟨adfM, capfM, rfl, hfsMa, hfsMb, hfsMc, hfsMd⟩ := id hfsM
 have hfsMm : m.funcs.length ≤ 9223372036854775807 := by have h1 := hfsMa; have h2 := hfsMb; unfold maxLen at h2; omega
 obtain ⟨adgM, capgM, rfl, hgsMa, hgsMb, hgsMc, hgsMd⟩ := id hgsM
 have hgsMm : m.globs.length ≤ 9223372036854775807 := by have h1 := hgsMa; have h2 := hgsMb; unfold maxLen at h2; omega
 refine Ret.enter (P := Try.prog) (n := 19) (args := [.agg #[.slice adfM m.funcs.length capfM, .slice adgM m.globs.length capgM]]) (σ := [(0, .agg #[.slice adfM m.funcs.length capfM, .slice adgM m.globs.length capgM])]) Try.func8 rfl rfl rfl rfl ?_
 have hS := St.start (ro := ro) hro
 have hsub : ∀ b, ro b → ro b ∨ w.heap.size ≤ b := fun _ h => .inl h
 have halT : Alike ro w ro w := Alike.refl
 refine W.seq ?_
 refine W.region ?_
 refine WL.box (v := .agg #[.slice adfM m.funcs.length capfM, .slice adgM m.globs.length capgM]) (cs := [.slice adfM m.funcs.length capfM, .slice adgM m.globs.length capgM]) rfl rfl rfl rfl hS ?_
 clear hS; intro w2 b1 hb_b1 hS
 refine WL.assign rfl rfl rfl ?_
 refine WL.nil ?_
 refine N.seq ?_
 refine W.seq ?_
 refine W.region ?_
 refine WL.callF (vs := []) Try.func9 (by kernel_rfl) rfl rfl rfl (shown13_ret (ro := ro) (fun b hb => (hS.snap b hb).1)) ?_
 rintro v w3 ⟨rfl, hbl⟩
 replace hS := hS.grow hbl
 refine WL.assign rfl rfl rfl ?_
 refine WL.nil ?_
 refine N.seq ?_
 refine W.seq ?_
 refine W.seq ?_
 refine W.region ?_
 refine WL.loadN (cs := [.slice adfM m.funcs.length capfM, .slice adgM m.globs.length capgM]) agg_46 rfl rfl rfl rfl (hS.cells 0 (m := 2) rfl rfl) ?_
 refine WL.callF (vs := [.agg #[.slice adfM m.funcs.length capfM, .slice adgM m.globs.length capgM]]) Try.func26 (by kernel_rfl) rfl rfl rfl (check5_ret m _ (ro := ro) (fun b hb => (hS.snap b hb).1) (hx.keep hS.alike) hok) ?_
 rintro v w4 ⟨rfl, hbl⟩
 replace hS := hS.grow hbl
 refine WL.bin rfl rfl rfl rfl rfl ?_
 refine WL.nil ?_
 refine N.seq ?_
 refine W.cond rfl (fun hc5 => ?_) (fun hc5 => ?_)
 ·
  have hc5p : ¬ (check5 m = 0) := by simpa using hc5
  refine W.seq ?_
  refine W.region ?_
  refine WL.move rfl rfl rfl ?_
  refine WL.assign rfl rfl rfl ?_
  refine WL.nil ?_
  refine N.seq ?_
  refine Fin.ret1 rfl (v := .bool true) rfl ?_
  exact ⟨rfl, hS.below⟩
 have hc5p : check5 m = 0 := by simpa using hc5
 refine W.skip ?_
 refine N.seq ?_
 refine W.seq ?_
 refine W.region ?_
 refine WL.loadN (cs := [.slice adfM m.funcs.length capfM, .slice adgM m.globs.length capgM]) agg_46 rfl rfl rfl rfl (hS.cells 0 (m := 2) rfl rfl) ?_
 have hc5 : check5 m = 0 := by simpa using hc5p
 have h5m := (check5_all hc5).2.2.1; have hlm := (check5_all hc5).1
 refine WL.callF (vs := [.agg #[.slice adfM m.funcs.length capfM, .slice adgM m.globs.length capgM]]) Try.func17 (by kernel_rfl) rfl rfl rfl (mod13_ret m _ (ro := ro) (fun b hb => (hS.snap b hb).1) (hx.keep hS.alike) h5m (by omega)) ?_
 rintro v w6 ⟨csq, rfl, hF, hbl⟩
 have hQ5 := func5_mod13 h5m; have hQ2 := mod13_twice h5m; have hQl : (mod13 m).funcs.length ≤ 16 := by simpa [mod13] using hlm
 obtain ⟨Q, hQe⟩ : ∃ z, z = mod13 m := ⟨_, rfl⟩
 rw [← hQe] at hF hQ5 hQ2 hQl
 have hal7 := hS.alikeTo hbl (ro' := (roFrom ro w4 w6)) (fun b hb => .inl hb)
 replace hsub : ∀ b, (roFrom ro w4 w6) b → ro b ∨ w.heap.size ≤ b := fun b hb => hb.elim (hsub b) (fun h => .inr (Nat.le_trans hS.below.size h.1))
 replace halT := halT.trans hal7
 replace hx := hx.keep hal7
 replace hfsMd : Elems (roFrom ro w4 w6) w6 4 (FuncC (roFrom ro w4 w6) w6) adfM m.funcs := hfsMd.keep hal7 (fun _ _ h => h.keep hal7)
 replace hfsM : SlV (roFrom ro w4 w6) w6 4 (FuncC (roFrom ro w4 w6) w6) (.slice adfM m.funcs.length capfM) m.funcs := SlV.keep hfsM hal7 (fun _ _ h => h.keep hal7)
 replace hgsMd : Elems (roFrom ro w4 w6) w6 4 GlobC adgM m.globs := hgsMd.keep hal7 (fun _ _ h => h)
 replace hgsM : SlV (roFrom ro w4 w6) w6 4 GlobC (.slice adgM m.globs.length capgM) m.globs := SlV.keep hgsM hal7 (fun _ _ h => h)
 replace hS := hS.readNew hbl
 obtain ⟨sfQ, sgQ, rfl, hfsQ, hgsQ⟩ := id hF
 obtain ⟨adfQ, capfQ, rfl, hfsQa, hfsQb, hfsQc, hfsQd⟩ := id hfsQ
 have hfsQm : Q.funcs.length ≤ 9223372036854775807 := by have h1 := hfsQa; have h2 := hfsQb; unfold maxLen at h2; omega
 obtain ⟨adgQ, capgQ, rfl, hgsQa, hgsQb, hgsQc, hgsQd⟩ := id hgsQ
 have hgsQm : Q.globs.length ≤ 9223372036854775807 := by have h1 := hgsQa; have h2 := hgsQb; unfold maxLen at h2; omega
 refine WL.alloc (tyZero_spec zer_46) rfl rfl hS ?_
 clear hS; intro w9 b8 hb_b8 hS
 refine WL.store (cs := [.slice adfQ Q.funcs.length capfQ, .slice adgQ Q.globs.length capgQ]) (c' := #[.slice adfQ Q.funcs.length capfQ, .slice adgQ Q.globs.length capgQ]) (L' := [(b8, .cells #[.slice adfQ Q.funcs.length capfQ, .slice adgQ Q.globs.length capgQ] 46 (0, 0)), (b1, .cells #[.slice adfM m.funcs.length capfM, .slice adgM m.globs.length capgM] 46 (0, 0))]) 0 rfl rfl rfl rfl siz_46 rfl rfl rfl rfl rfl hS ?_
 clear hS; intro w10 hS
 refine WL.nil ?_
 refine N.seq ?_
 refine W.seq ?_
 refine W.drawP (by kernel_rfl) 7 [(fun v _ => v = .bool true), (fun v _ => v = .bool true), (fun v _ => v = .agg #[.slice adfQ Q.funcs.length capfQ, .slice adgQ Q.globs.length capgQ]), (fun v u => ∃ cs, v = .agg cs.toArray ∧ ModC (fun b => ((roFrom ro w4 w6) b ∨ w10.heap.size ≤ b) ∧ b < u.heap.size) u cs (mod13 Q)), (fun v _ => v = .agg #[.slice adfQ Q.funcs.length capfQ, .slice adgQ Q.globs.length capgQ]), (fun v _ => v = .bool true), (fun v _ => v = .bool true)] (by kernel_rfl) rfl (by kernel_rfl) [(0, .agg #[.slice adfM m.funcs.length capfM, .slice adgM m.globs.length capgM]), (1, .pointer (some ⟨b1, 0, none⟩)), (2, .bool false), (3, .bool true), (4, .pointer (some ⟨b8, 0, none⟩)), (5, .bool true), (6, .agg #[.slice adfM m.funcs.length capfM, .slice adgM m.globs.length capgM]), (7, .int .i64 (check5 m)), (8, .bool (!decide (check5 m = 0))), (10, .agg #[.slice adfM m.funcs.length capfM, .slice adgM m.globs.length capgM]), (11, .agg #[.slice adfQ Q.funcs.length capfQ, .slice adgQ Q.globs.length capgQ])] ⟨rfl, rfl, rfl, rfl, rfl, rfl, rfl, rfl, rfl, rfl, rfl, trivial⟩ rfl ⟨stays_eq, stays_eq, stays_eq, stays_mod (R := (roFrom ro w4 w6)) (B := w10.heap.size), stays_eq, stays_eq, stays_eq, trivial⟩ ?_ ?_
 ·
  refine And.intro (fun β wd hb hD => ?_) ?_
  ·
   refine WL.sub (σ' := [(3, .bool true)]) ⟨rfl, trivial⟩ ?_
   have hS := hS.grow hb
   refine WL.move rfl rfl rfl ?_
   exact WL.nil (N.cut (.bool true) ⟨rfl, trivial⟩ ⟨(Below.refl _ _), rfl⟩)
  refine And.intro (fun β wd hb hD => ?_) ?_
  ·
   obtain ⟨hp0, _⟩ := hD
   replace hp0 : β 0 = .bool true := hp0
   refine WL.sub (σ' := [(12, .bool true)]) ⟨congrArg some hp0, trivial⟩ ?_
   have hS := hS.grow hb
   refine WL.move rfl rfl rfl ?_
   exact WL.nil (N.cut (.bool true) ⟨rfl, trivial⟩ ⟨(Below.refl _ _), rfl⟩)
  refine And.intro (fun β wd hb hD => ?_) ?_
  ·
   obtain ⟨hp1, _⟩ := hD
   replace hp1 : β 1 = .bool true := hp1
   refine WL.sub (σ' := [(4, .pointer (some ⟨b8, 0, none⟩)), (13, .bool true)]) ⟨rfl, congrArg some hp1, trivial⟩ ?_
   have hS := hS.grow hb
   refine WL.loadN (cs := [.slice adfQ Q.funcs.length capfQ, .slice adgQ Q.globs.length capgQ]) agg_46 rfl rfl rfl rfl (hS.cells 0 (m := 2) rfl rfl) ?_
   exact WL.nil (N.cut (.agg #[.slice adfQ Q.funcs.length capfQ, .slice adgQ Q.globs.length capgQ]) ⟨rfl, trivial⟩ ⟨(Below.refl _ _), rfl⟩)
  refine And.intro (fun β wd hb hD => ?_) ?_
  ·
   obtain ⟨hp2, hp1, _, _⟩ := hD
   replace hp2 : β 2 = .agg #[.slice adfQ Q.funcs.length capfQ, .slice adgQ Q.globs.length capgQ] := hp2
   replace hp1 : β 1 = .bool true := hp1
   refine WL.sub (σ' := [(13, .bool true), (14, .agg #[.slice adfQ Q.funcs.length capfQ, .slice adgQ Q.globs.length capgQ])]) ⟨congrArg some hp1, congrArg some hp2, trivial⟩ ?_
   have hS := hS.grow hb
   refine WL.callF (vs := [.agg #[.slice adfQ Q.funcs.length capfQ, .slice adgQ Q.globs.length capgQ]]) Try.func17 (by kernel_rfl) rfl rfl rfl (mod13_ret Q _ (ro := (roFrom ro w4 w6)) (fun b hb => (hS.snap b hb).1) (hF.keep hS.alike) hQ5 (by omega)) ?_
   rintro v w11 ⟨csz, rfl, hZ, hbl⟩
   replace hS := hS.grow hbl
   exact WL.nil (N.cut (.agg csz.toArray) ⟨rfl, trivial⟩ ⟨hbl, ⟨csz, rfl, hZ.keep (fun b hb2 => ⟨⟨hb2.elim .inl (fun h => .inr (Nat.le_trans hb.size h.1)), hb2.elim (fun h => by first | exact (hS.snap b h).1 | exact Nat.lt_of_lt_of_le (hS.snap b h).1 hbl.size) (·.2)⟩, rfl⟩)⟩⟩)
  refine And.intro (fun β wd hb hD => ?_) ?_
  ·
   obtain ⟨hp1, _⟩ := hD
   replace hp1 : β 1 = .bool true := hp1
   refine WL.sub (σ' := [(4, .pointer (some ⟨b8, 0, none⟩)), (13, .bool true)]) ⟨rfl, congrArg some hp1, trivial⟩ ?_
   have hS := hS.grow hb
   refine WL.loadN (cs := [.slice adfQ Q.funcs.length capfQ, .slice adgQ Q.globs.length capgQ]) agg_46 rfl rfl rfl rfl (hS.cells 0 (m := 2) rfl rfl) ?_
   exact WL.nil (N.cut (.agg #[.slice adfQ Q.funcs.length capfQ, .slice adgQ Q.globs.length capgQ]) ⟨rfl, trivial⟩ ⟨(Below.refl _ _), rfl⟩)
  refine And.intro (fun β wd hb hD => ?_) ?_
  ·
   obtain ⟨hp3, hp4, _, hp1, _⟩ := hD
   replace hp3 : (fun v u => ∃ cs, v = .agg cs.toArray ∧ ModC (fun b => ((roFrom ro w4 w6) b ∨ w10.heap.size ≤ b) ∧ b < u.heap.size) u cs (mod13 Q)) (β 3) wd := hp3
   replace hp4 : β 4 = .agg #[.slice adfQ Q.funcs.length capfQ, .slice adgQ Q.globs.length capgQ] := hp4
   replace hp1 : β 1 = .bool true := hp1
   refine WL.sub (σ' := [(13, .bool true), (15, (β 3)), (16, .agg #[.slice adfQ Q.funcs.length capfQ, .slice adgQ Q.globs.length capgQ])]) ⟨congrArg some hp1, rfl, congrArg some hp4, trivial⟩ ?_
   have hS := hS.grow hb
   generalize β 3 = z3 at hp3 ⊢
   obtain ⟨csy, rfl, hY⟩ := hp3
   refine WL.callF (vs := [.agg csy.toArray, .agg #[.slice adfQ Q.funcs.length capfQ, .slice adgQ Q.globs.length capgQ]]) Try.func16 (by kernel_rfl) rfl rfl rfl (sameMod_ret (mod13 Q) Q _ _ (ro := fun b => b < wd.heap.size) (fun _ h => h) (hY.keep fun b hb2 => ⟨hb2.2, rfl⟩) (hF.keep fun b hb2 => ⟨(hS.snap b hb2).1, (hS.snap b hb2).2⟩)) ?_
   rintro v w12 ⟨rfl, hbl⟩
   replace hS := hS.grow hbl
   refine WL.set 17 (v' := .bool true) rfl (by rw [decide_eq_true hQ2]) ?_
   exact WL.nil (N.cut (.bool true) ⟨rfl, trivial⟩ ⟨hbl, rfl⟩)
  refine And.intro (fun β wd hb hD => ?_) ?_
  ·
   obtain ⟨hp1, hp5, _⟩ := hD
   replace hp1 : β 1 = .bool true := hp1
   replace hp5 : β 5 = .bool true := hp5
   refine WL.sub (σ' := [(13, .bool true), (17, .bool true)]) ⟨congrArg some hp1, congrArg some hp5, trivial⟩ ?_
   have hS := hS.grow hb
   refine WL.pick (v := .bool true) rfl rfl rfl rfl rfl rfl ?_
   exact WL.nil (N.cut (.bool true) ⟨rfl, trivial⟩ ⟨(Below.refl _ _), rfl⟩)
  trivial
 intro β w13 hb hD
 obtain ⟨hp0, hp1, hp2, hp3, hp4, hp5, hp6, _⟩ := hD
 refine WL.sub (σ' := [(0, .agg #[.slice adfM m.funcs.length capfM, .slice adgM m.globs.length capgM]), (1, .pointer (some ⟨b1, 0, none⟩)), (2, .bool false), (3, .bool true), (4, .pointer (some ⟨b8, 0, none⟩)), (5, .bool true), (6, .agg #[.slice adfM m.funcs.length capfM, .slice adgM m.globs.length capgM]), (7, .int .i64 (check5 m)), (8, .bool (!decide (check5 m = 0))), (10, .agg #[.slice adfM m.funcs.length capfM, .slice adgM m.globs.length capgM]), (11, .agg #[.slice adfQ Q.funcs.length capfQ, .slice adgQ Q.globs.length capgQ]), (12, .bool true), (13, .bool true), (14, .agg #[.slice adfQ Q.funcs.length capfQ, .slice adgQ Q.globs.length capgQ]), (15, (β 3)), (16, .agg #[.slice adfQ Q.funcs.length capfQ, .slice adgQ Q.globs.length capgQ]), (17, .bool true), (18, .bool true)]) ⟨rfl, rfl, rfl, rfl, rfl, rfl, rfl, rfl, rfl, rfl, rfl, congrArg some (show β 0 = .bool true from hp0), congrArg some (show β 1 = .bool true from hp1), congrArg some (show β 2 = .agg #[.slice adfQ Q.funcs.length capfQ, .slice adgQ Q.globs.length capgQ] from hp2), rfl, congrArg some (show β 4 = .agg #[.slice adfQ Q.funcs.length capfQ, .slice adgQ Q.globs.length capgQ] from hp4), congrArg some (show β 5 = .bool true from hp5), congrArg some (show β 6 = .bool true from hp6), trivial⟩ ?_
 have hSd := hS
 replace hS := hS.grow hb
 replace hp3 : (fun v u => ∃ cs, v = .agg cs.toArray ∧ ModC (fun b => ((roFrom ro w4 w6) b ∨ w10.heap.size ≤ b) ∧ b < u.heap.size) u cs (mod13 Q)) (β 3) w13 := hp3
 generalize β 3 = z3 at hp3 ⊢
 refine WL.assign rfl rfl rfl ?_
 refine WL.nil ?_
 refine N.seq ?_
 refine Fin.ret1 rfl (v := .bool true) rfl ?_
 exact ⟨rfl, hS.below⟩

end Go.Proofs.Ytdlcmhkfglckfaa
