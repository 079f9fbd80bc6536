/-
  Contracts of layer 13 (trim). No condition beyond those that each theorem states.
-/
import Derived.Test.YtdlcmhkfglckfaaV7
import Derived.Test.YtdlcmhkfglckfaaS1
namespace Go.Proofs.Ytdlcmhkfglckfaa
open Go.RowKit

theorem stays_mod {R : Nat → Prop} {B : Nat} {x : DMod} : Stays fun v u => ∃ cs, v = .agg cs.toArray ∧ ModC (fun b => (R b ∨ B ≤ b) ∧ b < u.heap.size) u cs x := fun _ _ _ ⟨cs, e, h⟩ hb =>
  ⟨cs, e, h.keep fun b hr => ⟨⟨hr.1, Nat.lt_of_lt_of_le hr.2 hb.size⟩, hb.block b hr.2⟩⟩
theorem stays_blockc {R : Nat → Prop} {B : Nat} {x : DBlock} : Stays fun v u => ∃ cs, v = .agg cs.toArray ∧ BlockC (fun b => (R b ∨ B ≤ b) ∧ b < u.heap.size) u cs x := fun _ _ _ ⟨cs, e, h⟩ hb =>
  ⟨cs, e, h.keep fun b hr => ⟨⟨hr.1, Nat.lt_of_lt_of_le hr.2 hb.size⟩, hb.block b hr.2⟩⟩
theorem slv_bools {w w' : World} {g n B : Nat} {us : List Bool} (hB : B ≤ w.heap.size) (hge : w.heap.size ≤ g) (hgo : w'.heap[g]? = some (arrO Value.bool 4 us)) (hn : us.length = n) (hm : us.length ≤ maxLen) :
    SlV (fun b => B ≤ b ∧ b < w'.heap.size) w' 1 BoolC (.slice (some ⟨g, 0, none⟩) n n) us := by
  subst hn
  exact slv_blk hgo (by simp [List.take_of_length_le]) (chunks_bools us) ⟨Nat.le_trans hB hge, (Array.getElem?_eq_some_iff.1 hgo).1⟩ (by simp) hm

set_option maxRecDepth 10000 in
set_option maxHeartbeats 4000000 in
theorem trimMakes_ret (f : DFunc) (m : DMod) (cf cm : List Value) {w : World} {ro : Nat → Prop} (hro : ∀ b, ro b → b < w.heap.size) (hx : FuncC ro w cf f) (hy : ModC ro w cm m) (hokf : okFunc f) (hokm : okMod m) : Ret Try.prog 5 #[.agg cf.toArray, .agg cm.toArray] w fun v w' => v = .bool true ∧ Below w.heap.size w w' := by
 obtain ⟨sbF, rfl, hblF, hnmF, hbdF, hprF⟩ := id hx
 obtain ⟨adbF, capbF, rfl, hbkFa, hbkFb, hbkFc, hbkFd⟩ := id hblF
 have hbkFm : f.blocks.length ≤ 9223372036854775807 := by have h1 := hbkFa; have h2 := hbkFb; unfold maxLen at h2; omega
 obtain ⟨sfM, sgM, rfl, hfsM, hgsM⟩ := id hy
 obtain ⟨adfM, capfM, rfl, hfsMa, hfsMb, hfsMc, hfsMd⟩ := id hfsM
 have hfsMm : m.funcs.length ≤ 9223372036854775807 := by have h1 := hfsMa; have h2 := hfsMb; unfold maxLen at h2; omega
 obtain ⟨adgM, capgM, rfl, hgsMa, hgsMb, hgsMc, hgsMd⟩ := id hgsM
 have hgsMm : m.globs.length ≤ 9223372036854775807 := by have h1 := hgsMa; have h2 := hgsMb; unfold maxLen at h2; omega
 refine Ret.enter (P := Try.prog) (n := 78) (args := [.agg #[.string f.name, .int .i64 f.bind, .int .i64 f.params, .slice adbF f.blocks.length capbF], .agg #[.slice adfM m.funcs.length capfM, .slice adgM m.globs.length capgM]]) (σ := [(0, .agg #[.string f.name, .int .i64 f.bind, .int .i64 f.params, .slice adbF f.blocks.length capbF]), (1, .agg #[.slice adfM m.funcs.length capfM, .slice adgM m.globs.length capgM])]) Try.func5 rfl rfl rfl rfl ?_
 have hS := St.start (ro := ro) hro
 refine W.seq (W.region ?_)
 refine WL.box (v := .agg #[.string f.name, .int .i64 f.bind, .int .i64 f.params, .slice adbF f.blocks.length capbF]) (cs := [.string f.name, .int .i64 f.bind, .int .i64 f.params, .slice adbF f.blocks.length capbF]) rfl rfl rfl rfl hS ?_
 clear hS; intro w2 b1 hb_b1 hS
 refine WL.box (v := .agg #[.slice adfM m.funcs.length capfM, .slice adgM m.globs.length capgM]) (cs := [.slice adfM m.funcs.length capfM, .slice adgM m.globs.length capgM]) rfl rfl rfl rfl hS ?_
 clear hS; intro w4 b3 hb_b3 hS
 refine WL.assign rfl rfl rfl (WL.nil (N.seq (W.seq (W.region ?_))))
 refine WL.callF (vs := []) Try.func9 (by kernel_rfl) rfl rfl rfl (shown13_ret (ro := ro) (fun b hb => (hS.snap b hb).1)) ?_
 rintro v w5 ⟨rfl, hbl⟩
 replace hS := hS.grow hbl
 refine WL.assign rfl rfl rfl (WL.nil (N.seq (W.seq ?_)))
 refine W.drawP (by kernel_rfl) 5 [(fun v _ => v = .agg #[.slice adfM m.funcs.length capfM, .slice adgM m.globs.length capgM]), (fun v u => ∃ cs, v = .agg cs.toArray ∧ ModC (fun b => (ro b ∨ w5.heap.size ≤ b) ∧ b < u.heap.size) u cs (mod13a m)), (fun v _ => v = .agg #[.slice adfM m.funcs.length capfM, .slice adgM m.globs.length capgM]), (fun v u => ∃ cs, v = .agg cs.toArray ∧ ModC (fun b => (ro b ∨ w5.heap.size ≤ b) ∧ b < u.heap.size) u cs (mod13a m)), (fun v _ => v = .bool true)] (by kernel_rfl) rfl (by kernel_rfl) [(2, .pointer (some ⟨b1, 0, none⟩)), (3, .pointer (some ⟨b3, 0, none⟩)), (4, .bool false), (5, .bool true)] ⟨rfl, rfl, rfl, rfl, trivial⟩ rfl ⟨stays_eq, stays_mod (R := ro) (B := w5.heap.size), stays_eq, stays_mod (R := ro) (B := w5.heap.size), stays_eq, trivial⟩ ?_ ?_
 ·
  refine And.intro (fun β wd hb hD => ?_) ?_
  ·
   refine WL.sub (σ' := [(3, .pointer (some ⟨b3, 0, none⟩))]) ⟨rfl, trivial⟩ ?_
   have hS := hS.grow hb
   refine WL.loadN (cs := [.slice adfM m.funcs.length capfM, .slice adgM m.globs.length capgM]) agg_46 rfl rfl rfl rfl (hS.cells 0 (m := 2) rfl rfl) ?_
   exact WL.nil (N.cut (.agg #[.slice adfM m.funcs.length capfM, .slice adgM m.globs.length capgM]) ⟨rfl, trivial⟩ ⟨(Below.refl _ _), rfl⟩)
  refine And.intro (fun β wd hb hD => ?_) ?_
  ·
   obtain ⟨hp0, _⟩ := hD
   replace hp0 : β 0 = .agg #[.slice adfM m.funcs.length capfM, .slice adgM m.globs.length capgM] := hp0
   refine WL.sub (σ' := [(12, .agg #[.slice adfM m.funcs.length capfM, .slice adgM m.globs.length capgM])]) ⟨congrArg some hp0, trivial⟩ ?_
   have hS := hS.grow hb
   refine WL.callF (vs := [.agg #[.slice adfM m.funcs.length capfM, .slice adgM m.globs.length capgM]]) Try.func17 (by kernel_rfl) rfl rfl rfl (tmod13_ret m _ (ro := ro) (fun b hb => (hS.snap b hb).1) (hy.keep hS.alike) hokm) ?_
   rintro v w6 ⟨csq, rfl, hZ, hbl⟩
   replace hS := hS.grow hbl
   exact WL.nil (N.cut (.agg csq.toArray) ⟨rfl, trivial⟩ ⟨hbl, ⟨csq, rfl, hZ.keep (fun b hb2 => ⟨⟨hb2.elim .inl (fun h => .inr (Nat.le_trans hb.size h.1)), hb2.elim (fun h => by first | exact (hS.snap b h).1 | exact Nat.lt_of_lt_of_le (hS.snap b h).1 hbl.size) (·.2)⟩, rfl⟩)⟩⟩)
  refine And.intro (fun β wd hb hD => ?_) ?_
  ·
   refine WL.sub (σ' := [(3, .pointer (some ⟨b3, 0, none⟩))]) ⟨rfl, trivial⟩ ?_
   have hS := hS.grow hb
   refine WL.loadN (cs := [.slice adfM m.funcs.length capfM, .slice adgM m.globs.length capgM]) agg_46 rfl rfl rfl rfl (hS.cells 0 (m := 2) rfl rfl) ?_
   exact WL.nil (N.cut (.agg #[.slice adfM m.funcs.length capfM, .slice adgM m.globs.length capgM]) ⟨rfl, trivial⟩ ⟨(Below.refl _ _), rfl⟩)
  refine And.intro (fun β wd hb hD => ?_) ?_
  ·
   obtain ⟨hp2, _, _⟩ := hD
   replace hp2 : β 2 = .agg #[.slice adfM m.funcs.length capfM, .slice adgM m.globs.length capgM] := hp2
   refine WL.sub (σ' := [(14, .agg #[.slice adfM m.funcs.length capfM, .slice adgM m.globs.length capgM])]) ⟨congrArg some hp2, trivial⟩ ?_
   have hS := hS.grow hb
   refine WL.callF (vs := [.agg #[.slice adfM m.funcs.length capfM, .slice adgM m.globs.length capgM]]) Try.func18 (by kernel_rfl) rfl rfl rfl (rmod13_ret m _ (ro := ro) (fun b hb => (hS.snap b hb).1) (hy.keep hS.alike) hokm) ?_
   rintro v w7 ⟨csq, rfl, hZ, hbl⟩
   replace hS := hS.grow hbl
   exact WL.nil (N.cut (.agg csq.toArray) ⟨rfl, trivial⟩ ⟨hbl, ⟨csq, rfl, hZ.keep (fun b hb2 => ⟨⟨hb2.elim .inl (fun h => .inr (Nat.le_trans hb.size h.1)), hb2.elim (fun h => by first | exact (hS.snap b h).1 | exact Nat.lt_of_lt_of_le (hS.snap b h).1 hbl.size) (·.2)⟩, rfl⟩)⟩⟩)
  refine And.intro (fun β wd hb hD => ?_) ?_
  ·
   obtain ⟨hp1, hp3, _, _⟩ := hD
   replace hp1 : (fun v u => ∃ cs, v = .agg cs.toArray ∧ ModC (fun b => (ro b ∨ w5.heap.size ≤ b) ∧ b < u.heap.size) u cs (mod13a m)) (β 1) wd := hp1
   replace hp3 : (fun v u => ∃ cs, v = .agg cs.toArray ∧ ModC (fun b => (ro b ∨ w5.heap.size ≤ b) ∧ b < u.heap.size) u cs (mod13a m)) (β 3) wd := hp3
   refine WL.sub (σ' := [(13, (β 1)), (15, (β 3))]) ⟨rfl, rfl, trivial⟩ ?_
   have hS := hS.grow hb
   generalize β 1 = z1 at hp1 ⊢
   obtain ⟨cs1, rfl, hY1⟩ := hp1
   generalize β 3 = z3 at hp3 ⊢
   obtain ⟨cs3, rfl, hY3⟩ := hp3
   refine WL.callF (vs := [.agg cs1.toArray, .agg cs3.toArray]) Try.func16 (by kernel_rfl) rfl rfl rfl (ssame_ret (mod13a m) _ _ (ro := fun b => b < wd.heap.size) (fun _ h => h) (hY1.keep (fun b hb2 => ⟨hb2.2, rfl⟩)) (hY3.keep (fun b hb2 => ⟨hb2.2, rfl⟩))) ?_
   rintro v w8 ⟨rfl, hbl⟩
   replace hS := hS.grow hbl
   exact WL.nil (N.cut (.bool true) ⟨rfl, trivial⟩ ⟨hbl, rfl⟩)
  trivial
 intro β w9 hb hD
 obtain ⟨hp0, hp1, hp2, hp3, hp4, _⟩ := hD
 refine WL.sub (σ' := [(2, .pointer (some ⟨b1, 0, none⟩)), (3, .pointer (some ⟨b3, 0, none⟩)), (4, .bool false), (5, .bool true), (12, .agg #[.slice adfM m.funcs.length capfM, .slice adgM m.globs.length capgM]), (13, (β 1)), (14, .agg #[.slice adfM m.funcs.length capfM, .slice adgM m.globs.length capgM]), (15, (β 3)), (16, .bool true)]) ⟨rfl, rfl, rfl, rfl, congrArg some (show β 0 = .agg #[.slice adfM m.funcs.length capfM, .slice adgM m.globs.length capgM] from hp0), rfl, congrArg some (show β 2 = .agg #[.slice adfM m.funcs.length capfM, .slice adgM m.globs.length capgM] from hp2), rfl, congrArg some (show β 4 = .bool true from hp4), trivial⟩ ?_
 have hSd := hS
 replace hS := hS.grow hb
 replace hp1 : (fun v u => ∃ cs, v = .agg cs.toArray ∧ ModC (fun b => (ro b ∨ w5.heap.size ≤ b) ∧ b < u.heap.size) u cs (mod13a m)) (β 1) w9 := hp1
 generalize β 1 = z1 at hp1 ⊢
 replace hp3 : (fun v u => ∃ cs, v = .agg cs.toArray ∧ ModC (fun b => (ro b ∨ w5.heap.size ≤ b) ∧ b < u.heap.size) u cs (mod13a m)) (β 3) w9 := hp3
 generalize β 3 = z3 at hp3 ⊢
 refine WL.assign rfl rfl rfl (WL.nil (N.seq (W.seq (W.region (WL.loadN (cs := [.string f.name, .int .i64 f.bind, .int .i64 f.params, .slice adbF f.blocks.length capbF]) agg_24 rfl rfl rfl rfl (hS.cells 1 (m := 4) rfl rfl) ?_)))))
 refine WL.callF (vs := [.agg #[.string f.name, .int .i64 f.bind, .int .i64 f.params, .slice adbF f.blocks.length capbF]]) Try.func10 (by kernel_rfl) rfl rfl rfl (func5_ret f _ (ro := ro) (fun b hb => (hS.snap b hb).1) (hx.keep hS.alike) hokf) ?_
 rintro v w10 ⟨rfl, hbl⟩
 replace hS := hS.grow hbl
 refine WL.assign rfl rfl rfl (WL.nil (N.seq (W.seq (W.seq (W.region (WL.move rfl rfl rfl (WL.not rfl rfl rfl ?_)))))))
 refine WL.set 20 (v' := .bool false) rfl rfl ?_
 refine WL.nil (N.seq (W.condF rfl (W.skip (N.seq (W.seq (W.seq (W.region (WL.move rfl rfl rfl (WL.not rfl rfl rfl ?_)))))))))
 refine WL.nil (N.seq ?_)
 refine W.cond rfl (fun hc11 => ?_) (fun hc11 => ?_)
 ·
  refine W.seq (W.region (WL.move rfl rfl rfl (WL.assign rfl rfl rfl (WL.nil (N.seq ?_)))))
  refine Fin.ret1 rfl (v := .bool true) rfl ?_
  exact ⟨rfl, hS.below⟩
 have hf5 : func5 f = true := by simpa using hc11
 have hgo := goes13_of5 hf5; have hfl := (func5_all hf5).1
 refine W.skip (N.seq (W.seq (W.seq (W.region (WL.assign rfl rfl rfl (WL.nil (N.seq (W.block ?_))))))))
 refine W.loop (α := Nat) (fun (k : Nat) => [(2, .pointer (some ⟨b1, 0, none⟩)), (5, .bool true), (8, .int .i64 (k : Int))]) (fun (k : Nat) u => St w w u ro [(b3, .cells #[.slice adfM m.funcs.length capfM, .slice adgM m.globs.length capgM] 46 (0, 0)), (b1, .cells #[.string f.name, .int .i64 f.bind, .int .i64 f.params, .slice adbF f.blocks.length capbF] 24 (0, 0))] [] ∧ k ≤ f.blocks.length) (fun (k : Nat) => f.blocks.length - k) 0 ⟨rfl, rfl, rfl, trivial⟩ ⟨hS, Nat.zero_le _⟩ ?_
 clear hS
 rintro k w12 ⟨hS, hk⟩
 refine W.seq (W.seq (W.region (WL.move rfl rfl rfl (WL.fieldAddr fo_24_3 rfl rfl rfl (WL.load1 (v := .slice adbF f.blocks.length capbF) one_22 rfl rfl rfl (hS.cell 1 rfl rfl) (WL.lenSlice Try.underlying22 rfl rfl rfl (WL.bin rfl rfl rfl rfl rfl (WL.nil (N.seq ?_)))))))))
 refine W.cond rfl (fun hc13 => ?_) (fun hc13 => ?_)
 ·
  have hc13p : (k : Int) < (f.blocks.length : Int) := by simpa using hc13
  refine W.skip (N.seq (W.seq (W.block (W.seq ?_))))
  have hj14 : k < f.blocks.length := by omega
  obtain ⟨x14, hx14⟩ : ∃ zz, f.blocks[k]? = some zz := ⟨_, List.getElem?_eq_getElem hj14⟩
  obtain ⟨b14, o14, cs14, hE14, hr14, hl14, hc14, hQ14⟩ := hbkFd k _ hx14
  obtain ⟨si14, tsx14, rfl, hin14, hfin14, hpar14⟩ := id hQ14
  obtain ⟨adi14, capi14, rfl, hin14a, hin14b, hin14c, hin14d⟩ := id hin14
  have hin14m : x14.ins.length ≤ 9223372036854775807 := by have h1 := hin14a; have h2 := hin14b; unfold maxLen at h2; omega
  obtain ⟨sp14, sq14, rfl, ht114, ht214, htk14, hta14, htt14, hte14⟩ := id hfin14
  obtain ⟨adp14, capp14, rfl, htp14a, htp14b, htp14c, htp14d⟩ := id ht114
  have htp14m : x14.fin.args.length ≤ 9223372036854775807 := by have h1 := htp14a; have h2 := htp14b; unfold maxLen at h2; omega
  obtain ⟨adq14, capq14, rfl, htq14a, htq14b, htq14c, htq14d⟩ := id ht214
  have htq14m : x14.fin.elses.length ≤ 9223372036854775807 := by have h1 := htq14a; have h2 := htq14b; unfold maxLen at h2; omega
  refine W.drawP (by kernel_rfl) 13 [(fun v _ => v = .pointer (some ⟨b1, 3, none⟩)), (fun v _ => v = .slice adbF f.blocks.length capbF), (fun v _ => v = .int .i64 (k : Int)), (fun v _ => v = .pointer (some ⟨b14, o14 + k * 8, none⟩)), (fun v _ => v = .agg #[.int .i64 x14.params, .slice adi14 x14.ins.length capi14, .int .i64 x14.fin.kind, .int .i64 x14.fin.a, .int .i64 x14.fin.to, .slice adp14 x14.fin.args.length capp14, .int .i64 x14.fin.els, .slice adq14 x14.fin.elses.length capq14]), (fun v u => ∃ cs, v = .agg cs.toArray ∧ BlockC (fun b => (ro b ∨ w12.heap.size ≤ b) ∧ b < u.heap.size) u cs (block13 x14)), (fun v _ => v = .pointer (some ⟨b1, 3, none⟩)), (fun v _ => v = .slice adbF f.blocks.length capbF), (fun v _ => v = .int .i64 (k : Int)), (fun v _ => v = .pointer (some ⟨b14, o14 + k * 8, none⟩)), (fun v _ => v = .agg #[.int .i64 x14.params, .slice adi14 x14.ins.length capi14, .int .i64 x14.fin.kind, .int .i64 x14.fin.a, .int .i64 x14.fin.to, .slice adp14 x14.fin.args.length capp14, .int .i64 x14.fin.els, .slice adq14 x14.fin.elses.length capq14]), (fun v u => ∃ cs, v = .agg cs.toArray ∧ BlockC (fun b => (ro b ∨ w12.heap.size ≤ b) ∧ b < u.heap.size) u cs (block13 x14)), (fun v _ => v = .bool true)] (by kernel_rfl) rfl (by kernel_rfl) [(2, .pointer (some ⟨b1, 0, none⟩)), (5, .bool true), (8, .int .i64 (k : Int))] ⟨rfl, rfl, rfl, trivial⟩ rfl ⟨stays_eq, stays_eq, stays_eq, stays_eq, stays_eq, stays_blockc (R := ro) (B := w12.heap.size), stays_eq, stays_eq, stays_eq, stays_eq, stays_eq, stays_blockc (R := ro) (B := w12.heap.size), stays_eq, trivial⟩ ?_ ?_
  ·
   refine And.intro (fun β wd hb hD => ?_) ?_
   ·
    refine WL.sub (σ' := [(2, .pointer (some ⟨b1, 0, none⟩))]) ⟨rfl, trivial⟩ ?_
    have hS := hS.grow hb
    refine WL.fieldAddr fo_24_3 rfl rfl rfl ?_
    exact WL.nil (N.cut (.pointer (some ⟨b1, 3, none⟩)) ⟨rfl, trivial⟩ ⟨(Below.refl _ _), rfl⟩)
   refine And.intro (fun β wd hb hD => ?_) ?_
   ·
    obtain ⟨hp0, _⟩ := hD
    replace hp0 : β 0 = .pointer (some ⟨b1, 3, none⟩) := hp0
    refine WL.sub (σ' := [(31, .pointer (some ⟨b1, 3, none⟩))]) ⟨congrArg some hp0, trivial⟩ ?_
    have hS := hS.grow hb
    refine WL.load1 (v := .slice adbF f.blocks.length capbF) one_22 rfl rfl rfl (hS.cell 1 rfl rfl) ?_
    exact WL.nil (N.cut (.slice adbF f.blocks.length capbF) ⟨rfl, trivial⟩ ⟨(Below.refl _ _), rfl⟩)
   refine And.intro (fun β wd hb hD => ?_) ?_
   ·
    refine WL.sub (σ' := [(8, .int .i64 (k : Int))]) ⟨rfl, trivial⟩ ?_
    have hS := hS.grow hb
    refine WL.move rfl rfl rfl ?_
    exact WL.nil (N.cut (.int .i64 (k : Int)) ⟨rfl, trivial⟩ ⟨(Below.refl _ _), rfl⟩)
   refine And.intro (fun β wd hb hD => ?_) ?_
   ·
    obtain ⟨hp1, hp2, _⟩ := hD
    replace hp1 : β 1 = .slice adbF f.blocks.length capbF := hp1
    replace hp2 : β 2 = .int .i64 (k : Int) := hp2
    refine WL.sub (σ' := [(32, .slice adbF f.blocks.length capbF), (33, .int .i64 (k : Int))]) ⟨congrArg some hp1, congrArg some hp2, trivial⟩ ?_
    have hS := hS.grow hb
    refine WL.indexAddrE (j := k) Try.underlying22 isz_32 rfl rfl rfl rfl hj14 hE14 ?_
    exact WL.nil (N.cut (.pointer (some ⟨b14, o14 + k * 8, none⟩)) ⟨rfl, trivial⟩ ⟨(Below.refl _ _), rfl⟩)
   refine And.intro (fun β wd hb hD => ?_) ?_
   ·
    obtain ⟨hp3, _⟩ := hD
    replace hp3 : β 3 = .pointer (some ⟨b14, o14 + k * 8, none⟩) := hp3
    refine WL.sub (σ' := [(34, .pointer (some ⟨b14, o14 + k * 8, none⟩))]) ⟨congrArg some hp3, trivial⟩ ?_
    have hS := hS.grow hb
    refine WL.loadN (cs := [.int .i64 x14.params, .slice adi14 x14.ins.length capi14, .int .i64 x14.fin.kind, .int .i64 x14.fin.a, .int .i64 x14.fin.to, .slice adp14 x14.fin.args.length capp14, .int .i64 x14.fin.els, .slice adq14 x14.fin.elses.length capq14]) agg_32 rfl rfl rfl rfl (hS.roCells hr14 hc14) ?_
    exact WL.nil (N.cut (.agg #[.int .i64 x14.params, .slice adi14 x14.ins.length capi14, .int .i64 x14.fin.kind, .int .i64 x14.fin.a, .int .i64 x14.fin.to, .slice adp14 x14.fin.args.length capp14, .int .i64 x14.fin.els, .slice adq14 x14.fin.elses.length capq14]) ⟨rfl, trivial⟩ ⟨(Below.refl _ _), rfl⟩)
   refine And.intro (fun β wd hb hD => ?_) ?_
   ·
    obtain ⟨hp4, _⟩ := hD
    replace hp4 : β 4 = .agg #[.int .i64 x14.params, .slice adi14 x14.ins.length capi14, .int .i64 x14.fin.kind, .int .i64 x14.fin.a, .int .i64 x14.fin.to, .slice adp14 x14.fin.args.length capp14, .int .i64 x14.fin.els, .slice adq14 x14.fin.elses.length capq14] := hp4
    refine WL.sub (σ' := [(35, .agg #[.int .i64 x14.params, .slice adi14 x14.ins.length capi14, .int .i64 x14.fin.kind, .int .i64 x14.fin.a, .int .i64 x14.fin.to, .slice adp14 x14.fin.args.length capp14, .int .i64 x14.fin.els, .slice adq14 x14.fin.elses.length capq14])]) ⟨congrArg some hp4, trivial⟩ ?_
    have hS := hS.grow hb
    refine WL.callF (vs := [.agg #[.int .i64 x14.params, .slice adi14 x14.ins.length capi14, .int .i64 x14.fin.kind, .int .i64 x14.fin.a, .int .i64 x14.fin.to, .slice adp14 x14.fin.args.length capp14, .int .i64 x14.fin.els, .slice adq14 x14.fin.elses.length capq14]]) Try.func11 (by kernel_rfl) rfl rfl rfl (block13_ret x14 _ (ro := ro) (fun b hb => (hS.snap b hb).1) (hQ14.keep hS.alike) (ok13_of5 hf5 (List.mem_of_getElem? hx14))) ?_
    rintro v w15 ⟨csq, rfl, hZ, hbl⟩
    replace hS := hS.grow hbl
    exact WL.nil (N.cut (.agg csq.toArray) ⟨rfl, trivial⟩ ⟨hbl, ⟨csq, rfl, hZ.keep (fun b hb2 => ⟨⟨hb2.elim .inl (fun h => .inr (Nat.le_trans hb.size h.1)), hb2.elim (fun h => by first | exact (hS.snap b h).1 | exact Nat.lt_of_lt_of_le (hS.snap b h).1 hbl.size) (·.2)⟩, rfl⟩)⟩⟩)
   refine And.intro (fun β wd hb hD => ?_) ?_
   ·
    refine WL.sub (σ' := [(2, .pointer (some ⟨b1, 0, none⟩))]) ⟨rfl, trivial⟩ ?_
    have hS := hS.grow hb
    refine WL.fieldAddr fo_24_3 rfl rfl rfl ?_
    exact WL.nil (N.cut (.pointer (some ⟨b1, 3, none⟩)) ⟨rfl, trivial⟩ ⟨(Below.refl _ _), rfl⟩)
   refine And.intro (fun β wd hb hD => ?_) ?_
   ·
    obtain ⟨hp6, _⟩ := hD
    replace hp6 : β 6 = .pointer (some ⟨b1, 3, none⟩) := hp6
    refine WL.sub (σ' := [(37, .pointer (some ⟨b1, 3, none⟩))]) ⟨congrArg some hp6, trivial⟩ ?_
    have hS := hS.grow hb
    refine WL.load1 (v := .slice adbF f.blocks.length capbF) one_22 rfl rfl rfl (hS.cell 1 rfl rfl) ?_
    exact WL.nil (N.cut (.slice adbF f.blocks.length capbF) ⟨rfl, trivial⟩ ⟨(Below.refl _ _), rfl⟩)
   refine And.intro (fun β wd hb hD => ?_) ?_
   ·
    refine WL.sub (σ' := [(8, .int .i64 (k : Int))]) ⟨rfl, trivial⟩ ?_
    have hS := hS.grow hb
    refine WL.move rfl rfl rfl ?_
    exact WL.nil (N.cut (.int .i64 (k : Int)) ⟨rfl, trivial⟩ ⟨(Below.refl _ _), rfl⟩)
   refine And.intro (fun β wd hb hD => ?_) ?_
   ·
    obtain ⟨hp7, hp8, _⟩ := hD
    replace hp7 : β 7 = .slice adbF f.blocks.length capbF := hp7
    replace hp8 : β 8 = .int .i64 (k : Int) := hp8
    refine WL.sub (σ' := [(38, .slice adbF f.blocks.length capbF), (39, .int .i64 (k : Int))]) ⟨congrArg some hp7, congrArg some hp8, trivial⟩ ?_
    have hS := hS.grow hb
    refine WL.indexAddrE (j := k) Try.underlying22 isz_32 rfl rfl rfl rfl hj14 hE14 ?_
    exact WL.nil (N.cut (.pointer (some ⟨b14, o14 + k * 8, none⟩)) ⟨rfl, trivial⟩ ⟨(Below.refl _ _), rfl⟩)
   refine And.intro (fun β wd hb hD => ?_) ?_
   ·
    obtain ⟨hp9, _⟩ := hD
    replace hp9 : β 9 = .pointer (some ⟨b14, o14 + k * 8, none⟩) := hp9
    refine WL.sub (σ' := [(40, .pointer (some ⟨b14, o14 + k * 8, none⟩))]) ⟨congrArg some hp9, trivial⟩ ?_
    have hS := hS.grow hb
    refine WL.loadN (cs := [.int .i64 x14.params, .slice adi14 x14.ins.length capi14, .int .i64 x14.fin.kind, .int .i64 x14.fin.a, .int .i64 x14.fin.to, .slice adp14 x14.fin.args.length capp14, .int .i64 x14.fin.els, .slice adq14 x14.fin.elses.length capq14]) agg_32 rfl rfl rfl rfl (hS.roCells hr14 hc14) ?_
    exact WL.nil (N.cut (.agg #[.int .i64 x14.params, .slice adi14 x14.ins.length capi14, .int .i64 x14.fin.kind, .int .i64 x14.fin.a, .int .i64 x14.fin.to, .slice adp14 x14.fin.args.length capp14, .int .i64 x14.fin.els, .slice adq14 x14.fin.elses.length capq14]) ⟨rfl, trivial⟩ ⟨(Below.refl _ _), rfl⟩)
   refine And.intro (fun β wd hb hD => ?_) ?_
   ·
    obtain ⟨hp10, _, _⟩ := hD
    replace hp10 : β 10 = .agg #[.int .i64 x14.params, .slice adi14 x14.ins.length capi14, .int .i64 x14.fin.kind, .int .i64 x14.fin.a, .int .i64 x14.fin.to, .slice adp14 x14.fin.args.length capp14, .int .i64 x14.fin.els, .slice adq14 x14.fin.elses.length capq14] := hp10
    refine WL.sub (σ' := [(41, .agg #[.int .i64 x14.params, .slice adi14 x14.ins.length capi14, .int .i64 x14.fin.kind, .int .i64 x14.fin.a, .int .i64 x14.fin.to, .slice adp14 x14.fin.args.length capp14, .int .i64 x14.fin.els, .slice adq14 x14.fin.elses.length capq14])]) ⟨congrArg some hp10, trivial⟩ ?_
    have hS := hS.grow hb
    refine WL.callF (vs := [.agg #[.int .i64 x14.params, .slice adi14 x14.ins.length capi14, .int .i64 x14.fin.kind, .int .i64 x14.fin.a, .int .i64 x14.fin.to, .slice adp14 x14.fin.args.length capp14, .int .i64 x14.fin.els, .slice adq14 x14.fin.elses.length capq14]]) Try.func20 (by kernel_rfl) rfl rfl rfl (rblock13_ret f x14 _ (ro := ro) (fun b hb => (hS.snap b hb).1) (hQ14.keep hS.alike) hf5 (List.mem_of_getElem? hx14)) ?_
    rintro v w16 ⟨csq, rfl, hZ, hbl⟩
    replace hS := hS.grow hbl
    exact WL.nil (N.cut (.agg csq.toArray) ⟨rfl, trivial⟩ ⟨hbl, ⟨csq, rfl, hZ.keep (fun b hb2 => ⟨⟨hb2.elim .inl (fun h => .inr (Nat.le_trans hb.size h.1)), hb2.elim (fun h => by first | exact (hS.snap b h).1 | exact Nat.lt_of_lt_of_le (hS.snap b h).1 hbl.size) (·.2)⟩, rfl⟩)⟩⟩)
   refine And.intro (fun β wd hb hD => ?_) ?_
   ·
    obtain ⟨hp5, hp11, _, _⟩ := hD
    replace hp5 : (fun v u => ∃ cs, v = .agg cs.toArray ∧ BlockC (fun b => (ro b ∨ w12.heap.size ≤ b) ∧ b < u.heap.size) u cs (block13 x14)) (β 5) wd := hp5
    replace hp11 : (fun v u => ∃ cs, v = .agg cs.toArray ∧ BlockC (fun b => (ro b ∨ w12.heap.size ≤ b) ∧ b < u.heap.size) u cs (block13 x14)) (β 11) wd := hp11
    refine WL.sub (σ' := [(36, (β 5)), (42, (β 11))]) ⟨rfl, rfl, trivial⟩ ?_
    have hS := hS.grow hb
    generalize β 5 = z5 at hp5 ⊢
    obtain ⟨cs5, rfl, hY5⟩ := hp5
    generalize β 11 = z11 at hp11 ⊢
    obtain ⟨cs11, rfl, hY11⟩ := hp11
    refine WL.callF (vs := [.agg cs5.toArray, .agg cs11.toArray]) Try.func19 (by kernel_rfl) rfl rfl rfl (ssameBlock_ret (block13 x14) _ rfl _ _ (ro := fun b => b < wd.heap.size) (fun _ h => h) (hY5.keep (fun b hb2 => ⟨hb2.2, rfl⟩)) (hY11.keep (fun b hb2 => ⟨hb2.2, rfl⟩))) ?_
    rintro v w17 ⟨rfl, hbl⟩
    replace hS := hS.grow hbl
    exact WL.nil (N.cut (.bool true) ⟨rfl, trivial⟩ ⟨hbl, rfl⟩)
   trivial
  intro β w18 hb hD
  obtain ⟨hp0, hp1, hp2, hp3, hp4, hp5, hp6, hp7, hp8, hp9, hp10, hp11, hp12, _⟩ := hD
  refine WL.sub (σ' := [(2, .pointer (some ⟨b1, 0, none⟩)), (5, .bool true), (8, .int .i64 (k : Int)), (31, .pointer (some ⟨b1, 3, none⟩)), (32, .slice adbF f.blocks.length capbF), (33, .int .i64 (k : Int)), (34, .pointer (some ⟨b14, o14 + k * 8, none⟩)), (35, .agg #[.int .i64 x14.params, .slice adi14 x14.ins.length capi14, .int .i64 x14.fin.kind, .int .i64 x14.fin.a, .int .i64 x14.fin.to, .slice adp14 x14.fin.args.length capp14, .int .i64 x14.fin.els, .slice adq14 x14.fin.elses.length capq14]), (36, (β 5)), (37, .pointer (some ⟨b1, 3, none⟩)), (38, .slice adbF f.blocks.length capbF), (39, .int .i64 (k : Int)), (40, .pointer (some ⟨b14, o14 + k * 8, none⟩)), (41, .agg #[.int .i64 x14.params, .slice adi14 x14.ins.length capi14, .int .i64 x14.fin.kind, .int .i64 x14.fin.a, .int .i64 x14.fin.to, .slice adp14 x14.fin.args.length capp14, .int .i64 x14.fin.els, .slice adq14 x14.fin.elses.length capq14]), (42, (β 11)), (43, .bool true)]) ⟨rfl, rfl, rfl, congrArg some (show β 0 = .pointer (some ⟨b1, 3, none⟩) from hp0), congrArg some (show β 1 = .slice adbF f.blocks.length capbF from hp1), congrArg some (show β 2 = .int .i64 (k : Int) from hp2), congrArg some (show β 3 = .pointer (some ⟨b14, o14 + k * 8, none⟩) from hp3), congrArg some (show β 4 = .agg #[.int .i64 x14.params, .slice adi14 x14.ins.length capi14, .int .i64 x14.fin.kind, .int .i64 x14.fin.a, .int .i64 x14.fin.to, .slice adp14 x14.fin.args.length capp14, .int .i64 x14.fin.els, .slice adq14 x14.fin.elses.length capq14] from hp4), rfl, congrArg some (show β 6 = .pointer (some ⟨b1, 3, none⟩) from hp6), congrArg some (show β 7 = .slice adbF f.blocks.length capbF from hp7), congrArg some (show β 8 = .int .i64 (k : Int) from hp8), congrArg some (show β 9 = .pointer (some ⟨b14, o14 + k * 8, none⟩) from hp9), congrArg some (show β 10 = .agg #[.int .i64 x14.params, .slice adi14 x14.ins.length capi14, .int .i64 x14.fin.kind, .int .i64 x14.fin.a, .int .i64 x14.fin.to, .slice adp14 x14.fin.args.length capp14, .int .i64 x14.fin.els, .slice adq14 x14.fin.elses.length capq14] from hp10), rfl, congrArg some (show β 12 = .bool true from hp12), trivial⟩ ?_
  have hSd := hS
  replace hS := hS.grow hb
  replace hp5 : (fun v u => ∃ cs, v = .agg cs.toArray ∧ BlockC (fun b => (ro b ∨ w12.heap.size ≤ b) ∧ b < u.heap.size) u cs (block13 x14)) (β 5) w18 := hp5
  generalize β 5 = z5 at hp5 ⊢
  replace hp11 : (fun v u => ∃ cs, v = .agg cs.toArray ∧ BlockC (fun b => (ro b ∨ w12.heap.size ≤ b) ∧ b < u.heap.size) u cs (block13 x14)) (β 11) w18 := hp11
  generalize β 11 = z11 at hp11 ⊢
  refine WL.assign rfl rfl rfl (WL.nil (N.seq (W.seq ?_)))
  refine W.drawP (by kernel_rfl) 13 [(fun v _ => v = .pointer (some ⟨b1, 3, none⟩)), (fun v _ => v = .slice adbF f.blocks.length capbF), (fun v _ => v = .int .i64 (k : Int)), (fun v _ => v = .pointer (some ⟨b14, o14 + k * 8, none⟩)), (fun v _ => v = .agg #[.int .i64 x14.params, .slice adi14 x14.ins.length capi14, .int .i64 x14.fin.kind, .int .i64 x14.fin.a, .int .i64 x14.fin.to, .slice adp14 x14.fin.args.length capp14, .int .i64 x14.fin.els, .slice adq14 x14.fin.elses.length capq14]), (fun v u => SlV (fun b => w18.heap.size ≤ b ∧ b < u.heap.size) u 1 BoolC v (used13 x14)), (fun v _ => v = .pointer (some ⟨b1, 3, none⟩)), (fun v _ => v = .slice adbF f.blocks.length capbF), (fun v _ => v = .int .i64 (k : Int)), (fun v _ => v = .pointer (some ⟨b14, o14 + k * 8, none⟩)), (fun v _ => v = .agg #[.int .i64 x14.params, .slice adi14 x14.ins.length capi14, .int .i64 x14.fin.kind, .int .i64 x14.fin.a, .int .i64 x14.fin.to, .slice adp14 x14.fin.args.length capp14, .int .i64 x14.fin.els, .slice adq14 x14.fin.elses.length capq14]), (fun v u => SlV (fun b => w18.heap.size ≤ b ∧ b < u.heap.size) u 1 BoolC v (used13 x14)), (fun v _ => v = .bool true)] (by kernel_rfl) rfl (by kernel_rfl) [(2, .pointer (some ⟨b1, 0, none⟩)), (5, .bool true), (8, .int .i64 (k : Int)), (9, .bool true)] ⟨rfl, rfl, rfl, rfl, trivial⟩ rfl ⟨stays_eq, stays_eq, stays_eq, stays_eq, stays_eq, stays_new, stays_eq, stays_eq, stays_eq, stays_eq, stays_eq, stays_new, stays_eq, trivial⟩ ?_ ?_
  ·
   refine And.intro (fun β wd hb hD => ?_) ?_
   ·
    refine WL.sub (σ' := [(2, .pointer (some ⟨b1, 0, none⟩))]) ⟨rfl, trivial⟩ ?_
    have hS := hS.grow hb
    refine WL.fieldAddr fo_24_3 rfl rfl rfl ?_
    exact WL.nil (N.cut (.pointer (some ⟨b1, 3, none⟩)) ⟨rfl, trivial⟩ ⟨(Below.refl _ _), rfl⟩)
   refine And.intro (fun β wd hb hD => ?_) ?_
   ·
    obtain ⟨hp0, _⟩ := hD
    replace hp0 : β 0 = .pointer (some ⟨b1, 3, none⟩) := hp0
    refine WL.sub (σ' := [(44, .pointer (some ⟨b1, 3, none⟩))]) ⟨congrArg some hp0, trivial⟩ ?_
    have hS := hS.grow hb
    refine WL.load1 (v := .slice adbF f.blocks.length capbF) one_22 rfl rfl rfl (hS.cell 1 rfl rfl) ?_
    exact WL.nil (N.cut (.slice adbF f.blocks.length capbF) ⟨rfl, trivial⟩ ⟨(Below.refl _ _), rfl⟩)
   refine And.intro (fun β wd hb hD => ?_) ?_
   ·
    refine WL.sub (σ' := [(8, .int .i64 (k : Int))]) ⟨rfl, trivial⟩ ?_
    have hS := hS.grow hb
    refine WL.move rfl rfl rfl ?_
    exact WL.nil (N.cut (.int .i64 (k : Int)) ⟨rfl, trivial⟩ ⟨(Below.refl _ _), rfl⟩)
   refine And.intro (fun β wd hb hD => ?_) ?_
   ·
    obtain ⟨hp1, hp2, _⟩ := hD
    replace hp1 : β 1 = .slice adbF f.blocks.length capbF := hp1
    replace hp2 : β 2 = .int .i64 (k : Int) := hp2
    refine WL.sub (σ' := [(45, .slice adbF f.blocks.length capbF), (46, .int .i64 (k : Int))]) ⟨congrArg some hp1, congrArg some hp2, trivial⟩ ?_
    have hS := hS.grow hb
    refine WL.indexAddrE (j := k) Try.underlying22 isz_32 rfl rfl rfl rfl hj14 hE14 ?_
    exact WL.nil (N.cut (.pointer (some ⟨b14, o14 + k * 8, none⟩)) ⟨rfl, trivial⟩ ⟨(Below.refl _ _), rfl⟩)
   refine And.intro (fun β wd hb hD => ?_) ?_
   ·
    obtain ⟨hp3, _⟩ := hD
    replace hp3 : β 3 = .pointer (some ⟨b14, o14 + k * 8, none⟩) := hp3
    refine WL.sub (σ' := [(47, .pointer (some ⟨b14, o14 + k * 8, none⟩))]) ⟨congrArg some hp3, trivial⟩ ?_
    have hS := hS.grow hb
    refine WL.loadN (cs := [.int .i64 x14.params, .slice adi14 x14.ins.length capi14, .int .i64 x14.fin.kind, .int .i64 x14.fin.a, .int .i64 x14.fin.to, .slice adp14 x14.fin.args.length capp14, .int .i64 x14.fin.els, .slice adq14 x14.fin.elses.length capq14]) agg_32 rfl rfl rfl rfl (hS.roCells hr14 hc14) ?_
    exact WL.nil (N.cut (.agg #[.int .i64 x14.params, .slice adi14 x14.ins.length capi14, .int .i64 x14.fin.kind, .int .i64 x14.fin.a, .int .i64 x14.fin.to, .slice adp14 x14.fin.args.length capp14, .int .i64 x14.fin.els, .slice adq14 x14.fin.elses.length capq14]) ⟨rfl, trivial⟩ ⟨(Below.refl _ _), rfl⟩)
   refine And.intro (fun β wd hb hD => ?_) ?_
   ·
    obtain ⟨hp4, _⟩ := hD
    replace hp4 : β 4 = .agg #[.int .i64 x14.params, .slice adi14 x14.ins.length capi14, .int .i64 x14.fin.kind, .int .i64 x14.fin.a, .int .i64 x14.fin.to, .slice adp14 x14.fin.args.length capp14, .int .i64 x14.fin.els, .slice adq14 x14.fin.elses.length capq14] := hp4
    refine WL.sub (σ' := [(48, .agg #[.int .i64 x14.params, .slice adi14 x14.ins.length capi14, .int .i64 x14.fin.kind, .int .i64 x14.fin.a, .int .i64 x14.fin.to, .slice adp14 x14.fin.args.length capp14, .int .i64 x14.fin.els, .slice adq14 x14.fin.elses.length capq14])]) ⟨congrArg some hp4, trivial⟩ ?_
    have hS := hS.grow hb
    refine WL.callF (vs := [.agg #[.int .i64 x14.params, .slice adi14 x14.ins.length capi14, .int .i64 x14.fin.kind, .int .i64 x14.fin.a, .int .i64 x14.fin.to, .slice adp14 x14.fin.args.length capp14, .int .i64 x14.fin.els, .slice adq14 x14.fin.elses.length capq14]]) Try.func15 (by kernel_rfl) rfl rfl rfl (used_ret x14 _ (ro := ro) (fun b hb => (hS.snap b hb).1) (hQ14.keep hS.alike) (ok13_of5 hf5 (List.mem_of_getElem? hx14))) ?_
    rintro v w19 ⟨hZ, hbl⟩
    replace hS := hS.grow hbl
    exact WL.nil (N.cut v ⟨rfl, trivial⟩ ⟨hbl, newUp hZ hb.size⟩)
   refine And.intro (fun β wd hb hD => ?_) ?_
   ·
    refine WL.sub (σ' := [(2, .pointer (some ⟨b1, 0, none⟩))]) ⟨rfl, trivial⟩ ?_
    have hS := hS.grow hb
    refine WL.fieldAddr fo_24_3 rfl rfl rfl ?_
    exact WL.nil (N.cut (.pointer (some ⟨b1, 3, none⟩)) ⟨rfl, trivial⟩ ⟨(Below.refl _ _), rfl⟩)
   refine And.intro (fun β wd hb hD => ?_) ?_
   ·
    obtain ⟨hp6, _⟩ := hD
    replace hp6 : β 6 = .pointer (some ⟨b1, 3, none⟩) := hp6
    refine WL.sub (σ' := [(50, .pointer (some ⟨b1, 3, none⟩))]) ⟨congrArg some hp6, trivial⟩ ?_
    have hS := hS.grow hb
    refine WL.load1 (v := .slice adbF f.blocks.length capbF) one_22 rfl rfl rfl (hS.cell 1 rfl rfl) ?_
    exact WL.nil (N.cut (.slice adbF f.blocks.length capbF) ⟨rfl, trivial⟩ ⟨(Below.refl _ _), rfl⟩)
   refine And.intro (fun β wd hb hD => ?_) ?_
   ·
    refine WL.sub (σ' := [(8, .int .i64 (k : Int))]) ⟨rfl, trivial⟩ ?_
    have hS := hS.grow hb
    refine WL.move rfl rfl rfl ?_
    exact WL.nil (N.cut (.int .i64 (k : Int)) ⟨rfl, trivial⟩ ⟨(Below.refl _ _), rfl⟩)
   refine And.intro (fun β wd hb hD => ?_) ?_
   ·
    obtain ⟨hp7, hp8, _⟩ := hD
    replace hp7 : β 7 = .slice adbF f.blocks.length capbF := hp7
    replace hp8 : β 8 = .int .i64 (k : Int) := hp8
    refine WL.sub (σ' := [(51, .slice adbF f.blocks.length capbF), (52, .int .i64 (k : Int))]) ⟨congrArg some hp7, congrArg some hp8, trivial⟩ ?_
    have hS := hS.grow hb
    refine WL.indexAddrE (j := k) Try.underlying22 isz_32 rfl rfl rfl rfl hj14 hE14 ?_
    exact WL.nil (N.cut (.pointer (some ⟨b14, o14 + k * 8, none⟩)) ⟨rfl, trivial⟩ ⟨(Below.refl _ _), rfl⟩)
   refine And.intro (fun β wd hb hD => ?_) ?_
   ·
    obtain ⟨hp9, _⟩ := hD
    replace hp9 : β 9 = .pointer (some ⟨b14, o14 + k * 8, none⟩) := hp9
    refine WL.sub (σ' := [(53, .pointer (some ⟨b14, o14 + k * 8, none⟩))]) ⟨congrArg some hp9, trivial⟩ ?_
    have hS := hS.grow hb
    refine WL.loadN (cs := [.int .i64 x14.params, .slice adi14 x14.ins.length capi14, .int .i64 x14.fin.kind, .int .i64 x14.fin.a, .int .i64 x14.fin.to, .slice adp14 x14.fin.args.length capp14, .int .i64 x14.fin.els, .slice adq14 x14.fin.elses.length capq14]) agg_32 rfl rfl rfl rfl (hS.roCells hr14 hc14) ?_
    exact WL.nil (N.cut (.agg #[.int .i64 x14.params, .slice adi14 x14.ins.length capi14, .int .i64 x14.fin.kind, .int .i64 x14.fin.a, .int .i64 x14.fin.to, .slice adp14 x14.fin.args.length capp14, .int .i64 x14.fin.els, .slice adq14 x14.fin.elses.length capq14]) ⟨rfl, trivial⟩ ⟨(Below.refl _ _), rfl⟩)
   refine And.intro (fun β wd hb hD => ?_) ?_
   ·
    obtain ⟨hp10, _, _⟩ := hD
    replace hp10 : β 10 = .agg #[.int .i64 x14.params, .slice adi14 x14.ins.length capi14, .int .i64 x14.fin.kind, .int .i64 x14.fin.a, .int .i64 x14.fin.to, .slice adp14 x14.fin.args.length capp14, .int .i64 x14.fin.els, .slice adq14 x14.fin.elses.length capq14] := hp10
    refine WL.sub (σ' := [(54, .agg #[.int .i64 x14.params, .slice adi14 x14.ins.length capi14, .int .i64 x14.fin.kind, .int .i64 x14.fin.a, .int .i64 x14.fin.to, .slice adp14 x14.fin.args.length capp14, .int .i64 x14.fin.els, .slice adq14 x14.fin.elses.length capq14])]) ⟨congrArg some hp10, trivial⟩ ?_
    have hS := hS.grow hb
    refine WL.callF (vs := [.agg #[.int .i64 x14.params, .slice adi14 x14.ins.length capi14, .int .i64 x14.fin.kind, .int .i64 x14.fin.a, .int .i64 x14.fin.to, .slice adp14 x14.fin.args.length capp14, .int .i64 x14.fin.els, .slice adq14 x14.fin.elses.length capq14]]) Try.func22 (by kernel_rfl) rfl rfl rfl (rused13_ret x14 _ (ro := ro) (fun b hb => (hS.snap b hb).1) (hQ14.keep hS.alike) (ok13_of5 hf5 (List.mem_of_getElem? hx14))) ?_
    rintro v w20 ⟨g13, rfl, hge, hgo13, hbl⟩
    replace hS := hS.grow hbl
    have hZ := slv_bools hb.size hge hgo13 (used13_length x14) (by have h1 := used13_length x14; have h2 := ok13_of5 hf5 (List.mem_of_getElem? hx14); have h3 := h2.n; have h4 := h2.p1; unfold maxLen; omega)
    exact WL.nil (N.cut (.slice (some ⟨g13, 0, none⟩) (x14.params.toNat + x14.ins.length) (x14.params.toNat + x14.ins.length)) ⟨rfl, trivial⟩ ⟨hbl, hZ⟩)
   refine And.intro (fun β wd hb hD => ?_) ?_
   ·
    obtain ⟨hp5, hp11, _, _⟩ := hD
    replace hp5 : (fun v u => SlV (fun b => w18.heap.size ≤ b ∧ b < u.heap.size) u 1 BoolC v (used13 x14)) (β 5) wd := hp5
    replace hp11 : (fun v u => SlV (fun b => w18.heap.size ≤ b ∧ b < u.heap.size) u 1 BoolC v (used13 x14)) (β 11) wd := hp11
    refine WL.sub (σ' := [(49, (β 5)), (55, (β 11))]) ⟨rfl, rfl, trivial⟩ ?_
    have hS := hS.grow hb
    generalize β 5 = z5 at hp5 ⊢
    have hY5 := hp5
    generalize β 11 = z11 at hp11 ⊢
    have hY11 := hp11
    refine WL.callF (vs := [z5, z11]) Try.func21 (by kernel_rfl) rfl rfl rfl (sbools_ret (used13 x14) _ _ (ro := fun b => b < wd.heap.size) (fun _ h => h) (hY5.keep (fun b hb2 => ⟨hb2.2, rfl⟩) (fun _ _ h => h)) (hY11.keep (fun b hb2 => ⟨hb2.2, rfl⟩) (fun _ _ h => h))) ?_
    rintro v w21 ⟨rfl, hbl⟩
    replace hS := hS.grow hbl
    exact WL.nil (N.cut (.bool true) ⟨rfl, trivial⟩ ⟨hbl, rfl⟩)
   trivial
  intro β w22 hb hD
  obtain ⟨hp0, hp1, hp2, hp3, hp4, hp5, hp6, hp7, hp8, hp9, hp10, hp11, hp12, _⟩ := hD
  refine WL.sub (σ' := [(2, .pointer (some ⟨b1, 0, none⟩)), (5, .bool true), (8, .int .i64 (k : Int)), (9, .bool true), (44, .pointer (some ⟨b1, 3, none⟩)), (45, .slice adbF f.blocks.length capbF), (46, .int .i64 (k : Int)), (47, .pointer (some ⟨b14, o14 + k * 8, none⟩)), (48, .agg #[.int .i64 x14.params, .slice adi14 x14.ins.length capi14, .int .i64 x14.fin.kind, .int .i64 x14.fin.a, .int .i64 x14.fin.to, .slice adp14 x14.fin.args.length capp14, .int .i64 x14.fin.els, .slice adq14 x14.fin.elses.length capq14]), (49, (β 5)), (50, .pointer (some ⟨b1, 3, none⟩)), (51, .slice adbF f.blocks.length capbF), (52, .int .i64 (k : Int)), (53, .pointer (some ⟨b14, o14 + k * 8, none⟩)), (54, .agg #[.int .i64 x14.params, .slice adi14 x14.ins.length capi14, .int .i64 x14.fin.kind, .int .i64 x14.fin.a, .int .i64 x14.fin.to, .slice adp14 x14.fin.args.length capp14, .int .i64 x14.fin.els, .slice adq14 x14.fin.elses.length capq14]), (55, (β 11)), (56, .bool true)]) ⟨rfl, rfl, rfl, rfl, congrArg some (show β 0 = .pointer (some ⟨b1, 3, none⟩) from hp0), congrArg some (show β 1 = .slice adbF f.blocks.length capbF from hp1), congrArg some (show β 2 = .int .i64 (k : Int) from hp2), congrArg some (show β 3 = .pointer (some ⟨b14, o14 + k * 8, none⟩) from hp3), congrArg some (show β 4 = .agg #[.int .i64 x14.params, .slice adi14 x14.ins.length capi14, .int .i64 x14.fin.kind, .int .i64 x14.fin.a, .int .i64 x14.fin.to, .slice adp14 x14.fin.args.length capp14, .int .i64 x14.fin.els, .slice adq14 x14.fin.elses.length capq14] from hp4), rfl, congrArg some (show β 6 = .pointer (some ⟨b1, 3, none⟩) from hp6), congrArg some (show β 7 = .slice adbF f.blocks.length capbF from hp7), congrArg some (show β 8 = .int .i64 (k : Int) from hp8), congrArg some (show β 9 = .pointer (some ⟨b14, o14 + k * 8, none⟩) from hp9), congrArg some (show β 10 = .agg #[.int .i64 x14.params, .slice adi14 x14.ins.length capi14, .int .i64 x14.fin.kind, .int .i64 x14.fin.a, .int .i64 x14.fin.to, .slice adp14 x14.fin.args.length capp14, .int .i64 x14.fin.els, .slice adq14 x14.fin.elses.length capq14] from hp10), rfl, congrArg some (show β 12 = .bool true from hp12), trivial⟩ ?_
  have hSd := hS
  replace hS := hS.grow hb
  replace hp5 : (fun v u => SlV (fun b => w18.heap.size ≤ b ∧ b < u.heap.size) u 1 BoolC v (used13 x14)) (β 5) w22 := hp5
  generalize β 5 = z5 at hp5 ⊢
  replace hp11 : (fun v u => SlV (fun b => w18.heap.size ≤ b ∧ b < u.heap.size) u 1 BoolC v (used13 x14)) (β 11) w22 := hp11
  generalize β 11 = z11 at hp11 ⊢
  refine WL.assign rfl rfl rfl (WL.nil (N.seq (W.seq (W.region (WL.move rfl rfl rfl (WL.not rfl rfl rfl ?_))))))
  refine WL.set 58 (v' := .bool false) rfl rfl ?_
  refine WL.move rfl rfl rfl (WL.move rfl rfl rfl (WL.not rfl rfl rfl ?_))
  refine WL.set 61 (v' := .bool false) rfl rfl ?_
  refine WL.pick (v := .bool false) rfl rfl rfl rfl rfl rfl (WL.nil (N.seq (W.condF rfl (W.skip (N.blk (N.seq (W.region (WL.move rfl rfl rfl ?_))))))))
  refine WL.add (c := (k : Int) + 1) rfl rfl rfl rfl (rfl) (by omega) ?_
  refine WL.assign rfl rfl rfl (WL.nil ?_)
  exact N.loop (k + 1) ⟨rfl, rfl, rfl, trivial⟩ ⟨hS, by omega⟩ (by first | omega | (simp only; omega))
 have hc13p : ¬ ((k : Int) < (f.blocks.length : Int)) := by simpa using hc13
 refine W.exit (X.seq (X.loop (X.blk (N.seq (W.seq ?_)))))
 refine W.drawP (by kernel_rfl) 15 [(fun v _ => v = .bool true), (fun v _ => v = .bool true), (fun v _ => v = .agg #[.string f.name, .int .i64 f.bind, .int .i64 f.params, .slice adbF f.blocks.length capbF]), (fun v u => SlV (fun b => w12.heap.size ≤ b ∧ b < u.heap.size) u 1 BoolC v (reached13 f)), (fun v _ => v = .agg #[.string f.name, .int .i64 f.bind, .int .i64 f.params, .slice adbF f.blocks.length capbF]), (fun v u => SlV (fun b => w12.heap.size ≤ b ∧ b < u.heap.size) u 1 BoolC v (reached13 f)), (fun v _ => v = .bool true), (fun v _ => v = .bool true), (fun v _ => v = .bool true), (fun v _ => v = .agg #[.string f.name, .int .i64 f.bind, .int .i64 f.params, .slice adbF f.blocks.length capbF]), (fun v u => ∃ cs, v = .agg cs.toArray ∧ FuncC (fun b => (ro b ∨ w12.heap.size ≤ b) ∧ b < u.heap.size) u cs (func13 f)), (fun v _ => v = .agg #[.string f.name, .int .i64 f.bind, .int .i64 f.params, .slice adbF f.blocks.length capbF]), (fun v u => ∃ cs, v = .agg cs.toArray ∧ FuncC (fun b => (ro b ∨ w12.heap.size ≤ b) ∧ b < u.heap.size) u cs (func13 f)), (fun v _ => v = .bool true), (fun v _ => v = .bool true)] (by kernel_rfl) rfl (by kernel_rfl) [(2, .pointer (some ⟨b1, 0, none⟩)), (5, .bool true)] ⟨rfl, rfl, trivial⟩ rfl ⟨stays_eq, stays_eq, stays_eq, stays_new, stays_eq, stays_new, stays_eq, stays_eq, stays_eq, stays_eq, stays_func (R := ro) (B := w12.heap.size), stays_eq, stays_func (R := ro) (B := w12.heap.size), stays_eq, stays_eq, trivial⟩ ?_ ?_
 ·
  refine And.intro (fun β wd hb hD => ?_) ?_
  ·
   refine WL.sub (σ' := [(5, .bool true)]) ⟨rfl, trivial⟩ ?_
   have hS := hS.grow hb
   refine WL.move rfl rfl rfl ?_
   exact WL.nil (N.cut (.bool true) ⟨rfl, trivial⟩ ⟨(Below.refl _ _), rfl⟩)
  refine And.intro (fun β wd hb hD => ?_) ?_
  ·
   obtain ⟨hp0, _⟩ := hD
   replace hp0 : β 0 = .bool true := hp0
   refine WL.sub (σ' := [(63, .bool true)]) ⟨congrArg some hp0, trivial⟩ ?_
   have hS := hS.grow hb
   refine WL.move rfl rfl rfl ?_
   exact WL.nil (N.cut (.bool true) ⟨rfl, trivial⟩ ⟨(Below.refl _ _), rfl⟩)
  refine And.intro (fun β wd hb hD => ?_) ?_
  ·
   obtain ⟨hp1, _⟩ := hD
   replace hp1 : β 1 = .bool true := hp1
   refine WL.sub (σ' := [(2, .pointer (some ⟨b1, 0, none⟩)), (64, .bool true)]) ⟨rfl, congrArg some hp1, trivial⟩ ?_
   have hS := hS.grow hb
   refine WL.loadN (cs := [.string f.name, .int .i64 f.bind, .int .i64 f.params, .slice adbF f.blocks.length capbF]) agg_24 rfl rfl rfl rfl (hS.cells 1 (m := 4) rfl rfl) ?_
   exact WL.nil (N.cut (.agg #[.string f.name, .int .i64 f.bind, .int .i64 f.params, .slice adbF f.blocks.length capbF]) ⟨rfl, trivial⟩ ⟨(Below.refl _ _), rfl⟩)
  refine And.intro (fun β wd hb hD => ?_) ?_
  ·
   obtain ⟨hp2, hp1, _, _⟩ := hD
   replace hp2 : β 2 = .agg #[.string f.name, .int .i64 f.bind, .int .i64 f.params, .slice adbF f.blocks.length capbF] := hp2
   replace hp1 : β 1 = .bool true := hp1
   refine WL.sub (σ' := [(64, .bool true), (65, .agg #[.string f.name, .int .i64 f.bind, .int .i64 f.params, .slice adbF f.blocks.length capbF])]) ⟨congrArg some hp1, congrArg some hp2, trivial⟩ ?_
   have hS := hS.grow hb
   refine WL.callF (vs := [.agg #[.string f.name, .int .i64 f.bind, .int .i64 f.params, .slice adbF f.blocks.length capbF]]) Try.func14 (by kernel_rfl) rfl rfl rfl (reached_ret f _ (ro := ro) (fun b hb => (hS.snap b hb).1) (hx.keep hS.alike) hgo (by omega)) ?_
   rintro v w23 ⟨hZ, hbl⟩
   replace hS := hS.grow hbl
   exact WL.nil (N.cut v ⟨rfl, trivial⟩ ⟨hbl, newUp hZ hb.size⟩)
  refine And.intro (fun β wd hb hD => ?_) ?_
  ·
   obtain ⟨hp1, _⟩ := hD
   replace hp1 : β 1 = .bool true := hp1
   refine WL.sub (σ' := [(2, .pointer (some ⟨b1, 0, none⟩)), (64, .bool true)]) ⟨rfl, congrArg some hp1, trivial⟩ ?_
   have hS := hS.grow hb
   refine WL.loadN (cs := [.string f.name, .int .i64 f.bind, .int .i64 f.params, .slice adbF f.blocks.length capbF]) agg_24 rfl rfl rfl rfl (hS.cells 1 (m := 4) rfl rfl) ?_
   exact WL.nil (N.cut (.agg #[.string f.name, .int .i64 f.bind, .int .i64 f.params, .slice adbF f.blocks.length capbF]) ⟨rfl, trivial⟩ ⟨(Below.refl _ _), rfl⟩)
  refine And.intro (fun β wd hb hD => ?_) ?_
  ·
   obtain ⟨hp4, _, hp1, _⟩ := hD
   replace hp4 : β 4 = .agg #[.string f.name, .int .i64 f.bind, .int .i64 f.params, .slice adbF f.blocks.length capbF] := hp4
   replace hp1 : β 1 = .bool true := hp1
   refine WL.sub (σ' := [(64, .bool true), (67, .agg #[.string f.name, .int .i64 f.bind, .int .i64 f.params, .slice adbF f.blocks.length capbF])]) ⟨congrArg some hp1, congrArg some hp4, trivial⟩ ?_
   have hS := hS.grow hb
   refine WL.callF (vs := [.agg #[.string f.name, .int .i64 f.bind, .int .i64 f.params, .slice adbF f.blocks.length capbF]]) Try.func23 (by kernel_rfl) rfl rfl rfl (rreached13_ret f _ (ro := ro) (fun b hb => (hS.snap b hb).1) (hx.keep hS.alike) hgo (by omega)) ?_
   rintro v w24 ⟨g13, rfl, hge, hgo13, hbl⟩
   replace hS := hS.grow hbl
   rw [rounds_eq hgo] at hgo13
   have hZ := slv_bools hb.size hge hgo13 (reached13_length f) (by have h1 := reached13_length f; unfold maxLen; omega)
   exact WL.nil (N.cut (.slice (some ⟨g13, 0, none⟩) f.blocks.length f.blocks.length) ⟨rfl, trivial⟩ ⟨hbl, hZ⟩)
  refine And.intro (fun β wd hb hD => ?_) ?_
  ·
   obtain ⟨hp3, hp5, _, hp1, _⟩ := hD
   replace hp3 : (fun v u => SlV (fun b => w12.heap.size ≤ b ∧ b < u.heap.size) u 1 BoolC v (reached13 f)) (β 3) wd := hp3
   replace hp5 : (fun v u => SlV (fun b => w12.heap.size ≤ b ∧ b < u.heap.size) u 1 BoolC v (reached13 f)) (β 5) wd := hp5
   replace hp1 : β 1 = .bool true := hp1
   refine WL.sub (σ' := [(64, .bool true), (66, (β 3)), (68, (β 5))]) ⟨congrArg some hp1, rfl, rfl, trivial⟩ ?_
   have hS := hS.grow hb
   generalize β 3 = z3 at hp3 ⊢
   have hY3 := hp3
   generalize β 5 = z5 at hp5 ⊢
   have hY5 := hp5
   refine WL.callF (vs := [z3, z5]) Try.func21 (by kernel_rfl) rfl rfl rfl (sbools_ret (reached13 f) _ _ (ro := fun b => b < wd.heap.size) (fun _ h => h) (hY3.keep (fun b hb2 => ⟨hb2.2, rfl⟩) (fun _ _ h => h)) (hY5.keep (fun b hb2 => ⟨hb2.2, rfl⟩) (fun _ _ h => h))) ?_
   rintro v w25 ⟨rfl, hbl⟩
   replace hS := hS.grow hbl
   exact WL.nil (N.cut (.bool true) ⟨rfl, trivial⟩ ⟨hbl, rfl⟩)
  refine And.intro (fun β wd hb hD => ?_) ?_
  ·
   obtain ⟨hp1, hp6, _⟩ := hD
   replace hp1 : β 1 = .bool true := hp1
   replace hp6 : β 6 = .bool true := hp6
   refine WL.sub (σ' := [(64, .bool true), (69, .bool true)]) ⟨congrArg some hp1, congrArg some hp6, trivial⟩ ?_
   have hS := hS.grow hb
   refine WL.pick (v := .bool true) rfl rfl rfl rfl rfl rfl ?_
   exact WL.nil (N.cut (.bool true) ⟨rfl, trivial⟩ ⟨(Below.refl _ _), rfl⟩)
  refine And.intro (fun β wd hb hD => ?_) ?_
  ·
   obtain ⟨hp7, _, _⟩ := hD
   replace hp7 : β 7 = .bool true := hp7
   refine WL.sub (σ' := [(70, .bool true)]) ⟨congrArg some hp7, trivial⟩ ?_
   have hS := hS.grow hb
   refine WL.move rfl rfl rfl ?_
   exact WL.nil (N.cut (.bool true) ⟨rfl, trivial⟩ ⟨(Below.refl _ _), rfl⟩)
  refine And.intro (fun β wd hb hD => ?_) ?_
  ·
   obtain ⟨hp8, _⟩ := hD
   replace hp8 : β 8 = .bool true := hp8
   refine WL.sub (σ' := [(2, .pointer (some ⟨b1, 0, none⟩)), (71, .bool true)]) ⟨rfl, congrArg some hp8, trivial⟩ ?_
   have hS := hS.grow hb
   refine WL.loadN (cs := [.string f.name, .int .i64 f.bind, .int .i64 f.params, .slice adbF f.blocks.length capbF]) agg_24 rfl rfl rfl rfl (hS.cells 1 (m := 4) rfl rfl) ?_
   exact WL.nil (N.cut (.agg #[.string f.name, .int .i64 f.bind, .int .i64 f.params, .slice adbF f.blocks.length capbF]) ⟨rfl, trivial⟩ ⟨(Below.refl _ _), rfl⟩)
  refine And.intro (fun β wd hb hD => ?_) ?_
  ·
   obtain ⟨hp9, hp8, _, _⟩ := hD
   replace hp9 : β 9 = .agg #[.string f.name, .int .i64 f.bind, .int .i64 f.params, .slice adbF f.blocks.length capbF] := hp9
   replace hp8 : β 8 = .bool true := hp8
   refine WL.sub (σ' := [(71, .bool true), (72, .agg #[.string f.name, .int .i64 f.bind, .int .i64 f.params, .slice adbF f.blocks.length capbF])]) ⟨congrArg some hp8, congrArg some hp9, trivial⟩ ?_
   have hS := hS.grow hb
   refine WL.callF (vs := [.agg #[.string f.name, .int .i64 f.bind, .int .i64 f.params, .slice adbF f.blocks.length capbF]]) Try.func13 (by kernel_rfl) rfl rfl rfl (func13_ret f _ (ro := ro) (fun b hb => (hS.snap b hb).1) (hx.keep hS.alike) hgo (fun b hb => ok13_of5 hf5 hb) (by omega)) ?_
   rintro v w26 ⟨csq, rfl, hZ, hbl⟩
   replace hS := hS.grow hbl
   exact WL.nil (N.cut (.agg csq.toArray) ⟨rfl, trivial⟩ ⟨hbl, ⟨csq, rfl, hZ.keep (fun b hb2 => ⟨⟨hb2.elim .inl (fun h => .inr (Nat.le_trans hb.size h.1)), hb2.elim (fun h => by first | exact (hS.snap b h).1 | exact Nat.lt_of_lt_of_le (hS.snap b h).1 hbl.size) (·.2)⟩, rfl⟩)⟩⟩)
  refine And.intro (fun β wd hb hD => ?_) ?_
  ·
   obtain ⟨hp8, _⟩ := hD
   replace hp8 : β 8 = .bool true := hp8
   refine WL.sub (σ' := [(2, .pointer (some ⟨b1, 0, none⟩)), (71, .bool true)]) ⟨rfl, congrArg some hp8, trivial⟩ ?_
   have hS := hS.grow hb
   refine WL.loadN (cs := [.string f.name, .int .i64 f.bind, .int .i64 f.params, .slice adbF f.blocks.length capbF]) agg_24 rfl rfl rfl rfl (hS.cells 1 (m := 4) rfl rfl) ?_
   exact WL.nil (N.cut (.agg #[.string f.name, .int .i64 f.bind, .int .i64 f.params, .slice adbF f.blocks.length capbF]) ⟨rfl, trivial⟩ ⟨(Below.refl _ _), rfl⟩)
  refine And.intro (fun β wd hb hD => ?_) ?_
  ·
   obtain ⟨hp11, _, hp8, _⟩ := hD
   replace hp11 : β 11 = .agg #[.string f.name, .int .i64 f.bind, .int .i64 f.params, .slice adbF f.blocks.length capbF] := hp11
   replace hp8 : β 8 = .bool true := hp8
   refine WL.sub (σ' := [(71, .bool true), (74, .agg #[.string f.name, .int .i64 f.bind, .int .i64 f.params, .slice adbF f.blocks.length capbF])]) ⟨congrArg some hp8, congrArg some hp11, trivial⟩ ?_
   have hS := hS.grow hb
   refine WL.callF (vs := [.agg #[.string f.name, .int .i64 f.bind, .int .i64 f.params, .slice adbF f.blocks.length capbF]]) Try.func25 (by kernel_rfl) rfl rfl rfl (rfunc13_ret f _ (ro := ro) (fun b hb => (hS.snap b hb).1) (hx.keep hS.alike) hf5) ?_
   rintro v w27 ⟨csq, rfl, hZ, hbl⟩
   replace hS := hS.grow hbl
   exact WL.nil (N.cut (.agg csq.toArray) ⟨rfl, trivial⟩ ⟨hbl, ⟨csq, rfl, hZ.keep (fun b hb2 => ⟨⟨hb2.elim .inl (fun h => .inr (Nat.le_trans hb.size h.1)), hb2.elim (fun h => by first | exact (hS.snap b h).1 | exact Nat.lt_of_lt_of_le (hS.snap b h).1 hbl.size) (·.2)⟩, rfl⟩)⟩⟩)
  refine And.intro (fun β wd hb hD => ?_) ?_
  ·
   obtain ⟨hp10, hp12, _, hp8, _⟩ := hD
   replace hp10 : (fun v u => ∃ cs, v = .agg cs.toArray ∧ FuncC (fun b => (ro b ∨ w12.heap.size ≤ b) ∧ b < u.heap.size) u cs (func13 f)) (β 10) wd := hp10
   replace hp12 : (fun v u => ∃ cs, v = .agg cs.toArray ∧ FuncC (fun b => (ro b ∨ w12.heap.size ≤ b) ∧ b < u.heap.size) u cs (func13 f)) (β 12) wd := hp12
   replace hp8 : β 8 = .bool true := hp8
   refine WL.sub (σ' := [(71, .bool true), (73, (β 10)), (75, (β 12))]) ⟨congrArg some hp8, rfl, rfl, trivial⟩ ?_
   have hS := hS.grow hb
   generalize β 10 = z10 at hp10 ⊢
   obtain ⟨cs10, rfl, hY10⟩ := hp10
   generalize β 12 = z12 at hp12 ⊢
   obtain ⟨cs12, rfl, hY12⟩ := hp12
   refine WL.callF (vs := [.agg cs10.toArray, .agg cs12.toArray]) Try.func24 (by kernel_rfl) rfl rfl rfl (ssameFunc_ret (func13 f) _ rfl _ _ (ro := fun b => b < wd.heap.size) (fun _ h => h) (hY10.keep (fun b hb2 => ⟨hb2.2, rfl⟩)) (hY12.keep (fun b hb2 => ⟨hb2.2, rfl⟩))) ?_
   rintro v w28 ⟨rfl, hbl⟩
   replace hS := hS.grow hbl
   exact WL.nil (N.cut (.bool true) ⟨rfl, trivial⟩ ⟨hbl, rfl⟩)
  refine And.intro (fun β wd hb hD => ?_) ?_
  ·
   obtain ⟨hp8, hp13, _⟩ := hD
   replace hp8 : β 8 = .bool true := hp8
   replace hp13 : β 13 = .bool true := hp13
   refine WL.sub (σ' := [(71, .bool true), (76, .bool true)]) ⟨congrArg some hp8, congrArg some hp13, trivial⟩ ?_
   have hS := hS.grow hb
   refine WL.pick (v := .bool true) rfl rfl rfl rfl rfl rfl ?_
   exact WL.nil (N.cut (.bool true) ⟨rfl, trivial⟩ ⟨(Below.refl _ _), rfl⟩)
  trivial
 intro β w29 hb hD
 obtain ⟨hp0, hp1, hp2, hp3, hp4, hp5, hp6, hp7, hp8, hp9, hp10, hp11, hp12, hp13, hp14, _⟩ := hD
 refine WL.sub (σ' := [(2, .pointer (some ⟨b1, 0, none⟩)), (5, .bool true), (63, .bool true), (64, .bool true), (65, .agg #[.string f.name, .int .i64 f.bind, .int .i64 f.params, .slice adbF f.blocks.length capbF]), (66, (β 3)), (67, .agg #[.string f.name, .int .i64 f.bind, .int .i64 f.params, .slice adbF f.blocks.length capbF]), (68, (β 5)), (69, .bool true), (70, .bool true), (71, .bool true), (72, .agg #[.string f.name, .int .i64 f.bind, .int .i64 f.params, .slice adbF f.blocks.length capbF]), (73, (β 10)), (74, .agg #[.string f.name, .int .i64 f.bind, .int .i64 f.params, .slice adbF f.blocks.length capbF]), (75, (β 12)), (76, .bool true), (77, .bool true)]) ⟨rfl, rfl, congrArg some (show β 0 = .bool true from hp0), congrArg some (show β 1 = .bool true from hp1), congrArg some (show β 2 = .agg #[.string f.name, .int .i64 f.bind, .int .i64 f.params, .slice adbF f.blocks.length capbF] from hp2), rfl, congrArg some (show β 4 = .agg #[.string f.name, .int .i64 f.bind, .int .i64 f.params, .slice adbF f.blocks.length capbF] from hp4), rfl, congrArg some (show β 6 = .bool true from hp6), congrArg some (show β 7 = .bool true from hp7), congrArg some (show β 8 = .bool true from hp8), congrArg some (show β 9 = .agg #[.string f.name, .int .i64 f.bind, .int .i64 f.params, .slice adbF f.blocks.length capbF] from hp9), rfl, congrArg some (show β 11 = .agg #[.string f.name, .int .i64 f.bind, .int .i64 f.params, .slice adbF f.blocks.length capbF] from hp11), rfl, congrArg some (show β 13 = .bool true from hp13), congrArg some (show β 14 = .bool true from hp14), trivial⟩ ?_
 have hSd := hS
 replace hS := hS.grow hb
 replace hp3 : (fun v u => SlV (fun b => w12.heap.size ≤ b ∧ b < u.heap.size) u 1 BoolC v (reached13 f)) (β 3) w29 := hp3
 generalize β 3 = z3 at hp3 ⊢
 replace hp5 : (fun v u => SlV (fun b => w12.heap.size ≤ b ∧ b < u.heap.size) u 1 BoolC v (reached13 f)) (β 5) w29 := hp5
 generalize β 5 = z5 at hp5 ⊢
 replace hp10 : (fun v u => ∃ cs, v = .agg cs.toArray ∧ FuncC (fun b => (ro b ∨ w12.heap.size ≤ b) ∧ b < u.heap.size) u cs (func13 f)) (β 10) w29 := hp10
 generalize β 10 = z10 at hp10 ⊢
 replace hp12 : (fun v u => ∃ cs, v = .agg cs.toArray ∧ FuncC (fun b => (ro b ∨ w12.heap.size ≤ b) ∧ b < u.heap.size) u cs (func13 f)) (β 12) w29 := hp12
 generalize β 12 = z12 at hp12 ⊢
 refine WL.assign rfl rfl rfl (WL.nil (N.seq ?_))
 refine Fin.ret1 rfl (v := .bool true) rfl ?_
 exact ⟨rfl, hS.below⟩

end Go.Proofs.Ytdlcmhkfglckfaa
