/-
  ir.Func, both ways. No condition beyond those that each theorem states.
-/
import Derived.Test.YtdlcmhkfglckfaaIX2
namespace Go.Proofs.Ytdlcmhkfglckfaa
open Go.RowKit

theorem xgoes_ret (f : DFunc) (cf : List Value) (to : Int) (args : List Int) (va : Value) (n : Int) (bf bn : Nat) {w : World} {ro : Nat → Prop} (hro : ∀ b, ro b → b < w.heap.size) (hx : FuncC ro w cf f) (hbf : ro bf) (hcf : CellsAt w bf 0 cf) (hbn : ro bn) (hcn : CellsAt w bn 0 [.int .i64 n]) (hy : SlV ro w 1 IntC va args) : Ret Try.prog 69 #[.int .i64 to, va, .pointer (some ⟨bf, 0, none⟩), .pointer (some ⟨bn, 0, none⟩)] w fun v w' => v = .bool (goes5 f to args n) ∧ Below w.heap.size w w' := by
 obtain ⟨sb, hcfe, hblx, _, _, _⟩ := id hx
 obtain ⟨adb, capb, rfl, hbka, hbkb, hbkc, hbkd⟩ := id hblx
 have hbkm : f.blocks.length ≤ 9223372036854775807 := by have h1 := hbka; have h2 := hbkb; unfold maxLen at h2; omega
 obtain ⟨ada, capa, rfl, hya, hyb, hyc, hyd⟩ := id hy
 have hym : args.length ≤ 9223372036854775807 := by have h1 := hya; have h2 := hyb; unfold maxLen at h2; omega
 subst hcfe
 refine Ret.enter (P := Try.prog) (n := 32) (args := [.int .i64 to, .slice ada args.length capa, .pointer (some ⟨bf, 0, none⟩), .pointer (some ⟨bn, 0, none⟩)]) (σ := [(0, .int .i64 to), (1, .slice ada args.length capa), (2, .pointer (some ⟨bf, 0, none⟩)), (3, .pointer (some ⟨bn, 0, none⟩))]) Try.func69 rfl rfl rfl rfl ?_
 have hS := St.start (ro := ro) hro
 refine W.seq (W.region (WL.assign rfl rfl rfl (WL.nil (N.seq (W.seq (W.region (WL.move rfl rfl rfl (WL.bin rfl rfl rfl rfl rfl (WL.move rfl rfl rfl ?_)))))))))
 cases hg1 : (decide (0 ≤ to))
 ·
  have hg1p : ¬ (0 ≤ to) := by simpa using hg1
  refine WL.skp rfl rfl (WL.skp rfl rfl (WL.skp rfl rfl (WL.skp rfl rfl (WL.skp rfl rfl (WL.pick (v := .bool false) rfl rfl rfl rfl rfl rfl (WL.move rfl rfl rfl (WL.skp rfl rfl (WL.skp rfl rfl (WL.skp rfl rfl ?_)))))))))
  refine WL.skp rfl rfl (WL.skp rfl rfl (WL.skp rfl rfl (WL.skp rfl rfl (WL.skp rfl rfl (WL.skp rfl rfl (WL.pick (v := .bool false) rfl rfl rfl rfl rfl rfl (WL.move rfl rfl rfl (WL.skp rfl rfl (WL.skp rfl rfl ?_)))))))))
  refine WL.skp rfl rfl (WL.pick (v := .bool false) rfl rfl rfl rfl rfl rfl (WL.assign rfl rfl rfl (WL.nil (N.seq ?_))))
  refine Fin.ret1 rfl (v := .bool false) rfl ?_
  have hbz := hS.below
  clear hS
  refine ⟨?_, hbz⟩
  congr 1
  first | rw [goes5, if_pos (by omega)] | rw [goes5, if_neg (by omega), List.getElem?_eq_none (by omega)]
 have hg1p : 0 ≤ to := by simpa using hg1
 refine WL.move rfl rfl rfl (WL.fieldAddr fo_24_3 rfl rfl rfl (WL.load1 (v := .slice adb f.blocks.length capb) one_22 rfl rfl rfl (hS.roCells hbf hcf 3 _ rfl) (WL.lenSlice Try.underlying22 rfl rfl rfl (WL.bin rfl rfl rfl rfl rfl (WL.pick (v := .bool (decide (to < (f.blocks.length : Int)))) rfl rfl rfl rfl rfl rfl (WL.move rfl rfl rfl ?_))))))
 cases hg2 : (decide (to < (f.blocks.length : Int)))
 ·
  have hg2p : ¬ (to < (f.blocks.length : Int)) := by simpa using hg2
  refine WL.skp rfl rfl (WL.skp rfl rfl (WL.skp rfl rfl (WL.skp rfl rfl (WL.skp rfl rfl (WL.skp rfl rfl (WL.skp rfl rfl (WL.skp rfl rfl (WL.skp rfl rfl (WL.pick (v := .bool false) rfl rfl rfl rfl rfl rfl ?_)))))))))
  refine WL.move rfl rfl rfl (WL.skp rfl rfl (WL.skp rfl rfl (WL.skp rfl rfl (WL.pick (v := .bool false) rfl rfl rfl rfl rfl rfl (WL.assign rfl rfl rfl (WL.nil (N.seq ?_)))))))
  refine Fin.ret1 rfl (v := .bool false) rfl ?_
  have hbz := hS.below
  clear hS
  refine ⟨?_, hbz⟩
  congr 1
  first | rw [goes5, if_pos (by omega)] | rw [goes5, if_neg (by omega), List.getElem?_eq_none (by omega)]
 have hg2p : to < (f.blocks.length : Int) := by simpa using hg2
 refine WL.move rfl rfl rfl (WL.lenSlice Try.underlying28 rfl rfl rfl (WL.fieldAddr fo_24_3 rfl rfl rfl (WL.load1 (v := .slice adb f.blocks.length capb) one_22 rfl rfl rfl (hS.roCells hbf hcf 3 _ rfl) (WL.move rfl rfl rfl ?_))))
 refine WL.set 21 (v' := .int .i64 (to.toNat : Int)) rfl (by congr 1; omega) ?_
 have hj3 : to.toNat < f.blocks.length := by omega
 obtain ⟨x3, hx3⟩ : ∃ zz, f.blocks[to.toNat]? = some zz := ⟨_, List.getElem?_eq_getElem hj3⟩
 obtain ⟨b3, o3, cs3, hE3, hr3, hl3, hc3, hQ3⟩ := hbkd to.toNat _ hx3
 obtain ⟨si3, tsx3, rfl, hin3, hfin3, hpar3⟩ := id hQ3
 obtain ⟨adi3, capi3, rfl, hin3a, hin3b, hin3c, hin3d⟩ := id hin3
 have hin3m : x3.ins.length ≤ 9223372036854775807 := by have h1 := hin3a; have h2 := hin3b; unfold maxLen at h2; omega
 obtain ⟨sp3, sq3, rfl, ht13, ht23, htk3, hta3, htt3, hte3⟩ := id hfin3
 obtain ⟨adp3, capp3, rfl, htp3a, htp3b, htp3c, htp3d⟩ := id ht13
 have htp3m : x3.fin.args.length ≤ 9223372036854775807 := by have h1 := htp3a; have h2 := htp3b; unfold maxLen at h2; omega
 obtain ⟨adq3, capq3, rfl, htq3a, htq3b, htq3c, htq3d⟩ := id ht23
 have htq3m : x3.fin.elses.length ≤ 9223372036854775807 := by have h1 := htq3a; have h2 := htq3b; unfold maxLen at h2; omega
 refine WL.indexAddrE (j := to.toNat) Try.underlying22 isz_32 rfl rfl rfl rfl hj3 hE3 (WL.fieldAddr fo_32_0 rfl rfl rfl (WL.load1 (v := .int .i64 x3.params) one_3 rfl rfl rfl (hS.roCells hr3 hc3 0 _ rfl) (WL.bin rfl rfl rfl rfl rfl (WL.pick (v := .bool (decide ((args.length : Int) = x3.params))) rfl rfl rfl rfl rfl rfl (WL.move rfl rfl rfl ?_)))))
 cases hg4 : (decide ((args.length : Int) = x3.params))
 ·
  have hg4p : ¬ ((args.length : Int) = x3.params) := by simpa using hg4
  refine WL.skp rfl rfl (WL.skp rfl rfl (WL.skp rfl rfl (WL.pick (v := .bool false) rfl rfl rfl rfl rfl rfl (WL.assign rfl rfl rfl (WL.nil (N.seq ?_))))))
  refine Fin.ret1 rfl (v := .bool false) rfl ?_
  have hbz := hS.below
  clear hS
  refine ⟨?_, hbz⟩
  congr 1
  rw [goes5, if_neg (by omega), hx3]
  dsimp only
  rw [if_neg (by omega)]
 have hg4p : (args.length : Int) = x3.params := by simpa using hg4
 refine WL.move rfl rfl rfl (WL.load1 (v := .int .i64 n) one_3 rfl rfl rfl (hS.roCells hbn hcn 0 _ rfl) ?_)
 refine WL.callF (vs := [.slice ada args.length capa, .int .i64 n]) Try.func67 (by kernel_rfl) rfl rfl rfl (xall_ret args _ n (ro := ro) (fun b hb => (hS.snap b hb).1) (SlV.keep hy hS.alike (fun _ _ q => q))) ?_
 rintro v w5 ⟨rfl, hbl⟩
 replace hS := hS.grow hbl
 refine WL.pick (v := .bool (below5 args n)) rfl rfl rfl rfl rfl rfl (WL.assign rfl rfl rfl (WL.nil (N.seq ?_)))
 refine Fin.ret1 rfl (v := .bool (below5 args n)) rfl ?_
 have hbz := hS.below
 clear hS
 refine ⟨?_, hbz⟩
 congr 1
 rw [goes5, if_neg (by omega), hx3]
 dsimp only
 rw [if_pos (by omega)]

set_option maxHeartbeats 2000000 in
theorem xend_ret (f : DFunc) (cf : List Value) (b : DBlock) (cb : List Value) {w : World} {ro : Nat → Prop} (hro : ∀ b, ro b → b < w.heap.size) (hx : FuncC ro w cf f) (hb : BlockC ro w cb b) (hp : 0 ≤ b.params ∧ b.params ≤ 1000) (hl : b.ins.length ≤ 1000) : Ret Try.prog 65 #[.agg cf.toArray, .agg cb.toArray] w fun v w' => v = .bool (term5 f b.fin (b.params + b.ins.length)) ∧ Below w.heap.size w w' := by
 obtain ⟨sbF, rfl, hblF, hnmF, hbdF, hprF⟩ := id hx
 obtain ⟨adbF, capbF, rfl, hbkFa, hbkFb, hbkFc, hbkFd⟩ := id hblF
 have hbkFm : f.blocks.length ≤ 9223372036854775807 := by have h1 := hbkFa; have h2 := hbkFb; unfold maxLen at h2; omega
 obtain ⟨si, tsx, rfl, hin, hfin, hpar⟩ := id hb
 obtain ⟨adi, capi, rfl, hina, hinb, hinc, hind⟩ := id hin
 have hinm : b.ins.length ≤ 9223372036854775807 := by have h1 := hina; have h2 := hinb; unfold maxLen at h2; omega
 obtain ⟨sp, sq, rfl, ht1, ht2, htk, hta, htt, hte⟩ := id hfin
 obtain ⟨adp, capp, rfl, htpa, htpb, htpc, htpd⟩ := id ht1
 have htpm : b.fin.args.length ≤ 9223372036854775807 := by have h1 := htpa; have h2 := htpb; unfold maxLen at h2; omega
 obtain ⟨adq, capq, rfl, htqa, htqb, htqc, htqd⟩ := id ht2
 have htqm : b.fin.elses.length ≤ 9223372036854775807 := by have h1 := htqa; have h2 := htqb; unfold maxLen at h2; omega
 refine Ret.enter (P := Try.prog) (n := 85) (args := [.agg #[.string f.name, .int .i64 f.bind, .int .i64 f.params, .slice adbF f.blocks.length capbF], .agg #[.int .i64 b.params, .slice adi b.ins.length capi, .int .i64 b.fin.kind, .int .i64 b.fin.a, .int .i64 b.fin.to, .slice adp b.fin.args.length capp, .int .i64 b.fin.els, .slice adq b.fin.elses.length capq]]) (σ := [(0, .agg #[.string f.name, .int .i64 f.bind, .int .i64 f.params, .slice adbF f.blocks.length capbF]), (1, .agg #[.int .i64 b.params, .slice adi b.ins.length capi, .int .i64 b.fin.kind, .int .i64 b.fin.a, .int .i64 b.fin.to, .slice adp b.fin.args.length capp, .int .i64 b.fin.els, .slice adq b.fin.elses.length capq])]) Try.func65 rfl rfl rfl rfl ?_
 have hS := St.start (ro := ro) hro
 have hN : ((b.params.toNat + b.ins.length : Nat) : Int) = b.params + b.ins.length := by omega
 refine W.seq (W.region ?_)
 refine WL.box (v := .agg #[.string f.name, .int .i64 f.bind, .int .i64 f.params, .slice adbF f.blocks.length capbF]) (cs := [.string f.name, .int .i64 f.bind, .int .i64 f.params, .slice adbF f.blocks.length capbF]) rfl rfl rfl rfl hS ?_
 clear hS; intro w2 b1 hb_b1 hS
 refine WL.box (v := .agg #[.int .i64 b.params, .slice adi b.ins.length capi, .int .i64 b.fin.kind, .int .i64 b.fin.a, .int .i64 b.fin.to, .slice adp b.fin.args.length capp, .int .i64 b.fin.els, .slice adq b.fin.elses.length capq]) (cs := [.int .i64 b.params, .slice adi b.ins.length capi, .int .i64 b.fin.kind, .int .i64 b.fin.a, .int .i64 b.fin.to, .slice adp b.fin.args.length capp, .int .i64 b.fin.els, .slice adq b.fin.elses.length capq]) rfl rfl rfl rfl hS ?_
 clear hS; intro w4 b3 hb_b3 hS
 refine WL.assign rfl rfl rfl (WL.nil (N.seq (W.seq (W.region (WL.loadN (cs := [.int .i64 b.params, .slice adi b.ins.length capi, .int .i64 b.fin.kind, .int .i64 b.fin.a, .int .i64 b.fin.to, .slice adp b.fin.args.length capp, .int .i64 b.fin.els, .slice adq b.fin.elses.length capq]) agg_32 rfl rfl rfl rfl (hS.cells 0 (m := 8) rfl rfl) ?_)))))
 refine WL.callF (vs := [.agg #[.int .i64 b.params, .slice adi b.ins.length capi, .int .i64 b.fin.kind, .int .i64 b.fin.a, .int .i64 b.fin.to, .slice adp b.fin.args.length capp, .int .i64 b.fin.els, .slice adq b.fin.elses.length capq]]) Try.func35 (by kernel_rfl) rfl rfl rfl (ivalues_ret b _ (ro := ro) (fun b hb => (hS.snap b hb).1) (hb.keep hS.alike) hp hl) ?_
 rintro v w5 ⟨rfl, hbl⟩
 replace hS := hS.grow hbl
 refine WL.alloc (tyZero_spec zer_3) rfl rfl hS ?_
 clear hS; intro w7 b6 hb_b6 hS
 refine WL.store (L' := [(b6, .cells #[.int .i64 ((b.params.toNat + b.ins.length : Nat) : Int)] 3 (0, 0)), (b3, .cells #[.int .i64 b.params, .slice adi b.ins.length capi, .int .i64 b.fin.kind, .int .i64 b.fin.a, .int .i64 b.fin.to, .slice adp b.fin.args.length capp, .int .i64 b.fin.els, .slice adq b.fin.elses.length capq] 32 (0, 0)), (b1, .cells #[.string f.name, .int .i64 f.bind, .int .i64 f.params, .slice adbF f.blocks.length capbF] 24 (0, 0))]) 0 rfl rfl rfl rfl siz_3 rfl rfl rfl rfl rfl hS ?_
 clear hS; intro w8 hS
 refine WL.nil (N.seq (W.seq (W.region ?_)))
 refine WL.makeFunc (vs := #[.pointer (some ⟨b1, 0, none⟩), .pointer (some ⟨b6, 0, none⟩)]) rfl rfl rfl ?_
 refine WL.assign rfl rfl rfl (WL.nil (N.seq (W.seq (W.region (WL.fieldAddr fo_32_2 rfl rfl rfl (WL.loadN (cs := [.int .i64 b.fin.kind, .int .i64 b.fin.a, .int .i64 b.fin.to, .slice adp b.fin.args.length capp, .int .i64 b.fin.els, .slice adq b.fin.elses.length capq]) agg_30 rfl rfl rfl rfl (hS.cells 1 (m := 6) rfl rfl) ?_))))))
 refine WL.alloc (tyZero_spec zer_30) rfl rfl hS ?_
 clear hS; intro w10 b9 hb_b9 hS
 refine WL.store (L' := [(b9, .cells #[.int .i64 b.fin.kind, .int .i64 b.fin.a, .int .i64 b.fin.to, .slice adp b.fin.args.length capp, .int .i64 b.fin.els, .slice adq b.fin.elses.length capq] 30 (0, 0)), (b6, .cells #[.int .i64 ((b.params.toNat + b.ins.length : Nat) : Int)] 3 (0, 0)), (b3, .cells #[.int .i64 b.params, .slice adi b.ins.length capi, .int .i64 b.fin.kind, .int .i64 b.fin.a, .int .i64 b.fin.to, .slice adp b.fin.args.length capp, .int .i64 b.fin.els, .slice adq b.fin.elses.length capq] 32 (0, 0)), (b1, .cells #[.string f.name, .int .i64 f.bind, .int .i64 f.params, .slice adbF f.blocks.length capbF] 24 (0, 0))]) 0 rfl rfl rfl rfl siz_30 rfl rfl rfl rfl rfl hS ?_
 clear hS; intro w11 hS
 refine WL.nil (N.seq ?_)
 refine W.cut (α := Bool) (fun (q8 : Bool) => [(4, .bool false), (5, .pointer (some ⟨b6, 0, none⟩)), (6, .func (.func 69) #[] #[.pointer (some ⟨b1, 0, none⟩), .pointer (some ⟨b6, 0, none⟩)]), (7, .pointer (some ⟨b9, 0, none⟩)), (8, .bool q8)]) (fun (q8 : Bool) u => St w w u ro [(b9, .cells #[.int .i64 b.fin.kind, .int .i64 b.fin.a, .int .i64 b.fin.to, .slice adp b.fin.args.length capp, .int .i64 b.fin.els, .slice adq b.fin.elses.length capq] 30 (0, 0)), (b6, .cells #[.int .i64 ((b.params.toNat + b.ins.length : Nat) : Int)] 3 (0, 0)), (b3, .cells #[.int .i64 b.params, .slice adi b.ins.length capi, .int .i64 b.fin.kind, .int .i64 b.fin.a, .int .i64 b.fin.to, .slice adp b.fin.args.length capp, .int .i64 b.fin.els, .slice adq b.fin.elses.length capq] 32 (0, 0)), (b1, .cells #[.string f.name, .int .i64 f.bind, .int .i64 f.params, .slice adbF f.blocks.length capbF] 24 (0, 0))] [] ∧ q8 = decide (b.fin.els = 0 ∧ b.fin.elses.length = 0)) ?_ ?_
 ·
  refine W.region (WL.fieldAddr fo_30_4 rfl rfl rfl (WL.load1 (v := .int .i64 b.fin.els) one_3 rfl rfl rfl (hS.cell 0 rfl rfl) (WL.bin rfl rfl rfl rfl rfl (WL.move rfl rfl rfl ?_))))
  cases hg12 : (decide (b.fin.els = 0))
  ·
   have hg12p : ¬ (b.fin.els = 0) := by simpa using hg12
   refine WL.skp rfl rfl (WL.skp rfl rfl (WL.skp rfl rfl (WL.skp rfl rfl (WL.pick (v := .bool false) rfl rfl rfl rfl rfl rfl (WL.assign rfl rfl rfl (WL.nil ?_))))))
   exact N.cut false ⟨rfl, rfl, rfl, rfl, rfl, trivial⟩ ⟨hS, (decide_eq_false (by omega)).symm⟩
  have hg12p : b.fin.els = 0 := by simpa using hg12
  refine WL.fieldAddr fo_30_5 rfl rfl rfl (WL.load1 (v := .slice adq b.fin.elses.length capq) one_28 rfl rfl rfl (hS.cell 0 rfl rfl) (WL.lenSlice Try.underlying28 rfl rfl rfl (WL.bin rfl rfl rfl rfl rfl (WL.pick (v := .bool (decide ((b.fin.elses.length : Int) = 0))) rfl rfl rfl rfl rfl rfl (WL.assign rfl rfl rfl (WL.nil ?_))))))
  exact N.cut (decide ((b.fin.elses.length : Int) = 0)) ⟨rfl, rfl, rfl, rfl, rfl, trivial⟩ ⟨hS, decide_eq_decide.2 (by omega)⟩
 clear hS
 rintro q8 w13 ⟨hS, hq8⟩
 refine W.seq (W.seq (W.region (WL.fieldAddr fo_30_0 rfl rfl rfl (WL.load1 (v := .int .i64 b.fin.kind) one_3 rfl rfl rfl (hS.cell 0 rfl rfl) (WL.nil (N.seq (W.block (W.seq (W.region ?_)))))))))
 refine WL.bin rfl rfl rfl rfl rfl (WL.assign rfl rfl rfl (WL.nil (N.seq ?_)))
 refine W.cond rfl (fun hc14 => ?_) (fun hc14 => ?_)
 ·
  have hc14p : b.fin.kind = 1 := by simpa using hc14
  refine W.seq (W.region (WL.fieldAddr fo_30_1 rfl rfl rfl (WL.load1 (v := .int .i64 b.fin.a) one_3 rfl rfl rfl (hS.cell 0 rfl rfl) (WL.bin rfl rfl rfl rfl rfl (WL.move rfl rfl rfl ?_)))))
  cases hg15 : (decide (b.fin.a = 0))
  ·
   have hg15p : ¬ (b.fin.a = 0) := by simpa using hg15
   refine WL.skp rfl rfl (WL.pick (v := .bool false) rfl rfl rfl rfl rfl rfl (WL.move rfl rfl rfl (WL.skp rfl rfl (WL.skp rfl rfl (WL.skp rfl rfl (WL.skp rfl rfl (WL.skp rfl rfl (WL.skp rfl rfl (WL.pick (v := .bool false) rfl rfl rfl rfl rfl rfl ?_)))))))))
   refine WL.assign rfl rfl rfl (WL.nil (N.seq ?_))
   refine Fin.ret1 rfl (v := .bool false) rfl ?_
   have hbz := hS.below
   clear hS
   refine ⟨?_, hbz⟩
   congr 1
   rw [← hN]
   rw [term5, if_pos (by omega)]
   first | (rw [decide_eq_false (show ¬ b.fin.a = 0 by omega)]; simp; done) | (rw [Bool.and_assoc, ← Bool.decide_and, decide_eq_false (show ¬ (b.fin.els = 0 ∧ b.fin.elses.length = 0) by omega)]; simp; done) | (rw [← hu1, decide_eq_true (show b.fin.a = 0 by omega), decide_eq_true (show b.fin.els = 0 by omega), decide_eq_true (show b.fin.elses.length = 0 by omega)]; simp)
  have hg15p : b.fin.a = 0 := by simpa using hg15
  refine WL.move rfl rfl rfl (WL.pick (v := .bool q8) rfl rfl rfl rfl rfl rfl (WL.move rfl rfl rfl ?_))
  cases hg16 : q8
  ·
   have hq8v : ¬ (b.fin.els = 0 ∧ b.fin.elses.length = 0) := of_decide_eq_false (by rw [← hq8]; simpa using hg16)
   refine WL.skp rfl rfl (WL.skp rfl rfl (WL.skp rfl rfl (WL.skp rfl rfl (WL.skp rfl rfl (WL.skp rfl rfl (WL.pick (v := .bool false) rfl rfl rfl rfl rfl rfl (WL.assign rfl rfl rfl (WL.nil (N.seq ?_)))))))))
   refine Fin.ret1 rfl (v := .bool false) rfl ?_
   have hbz := hS.below
   clear hS
   refine ⟨?_, hbz⟩
   congr 1
   rw [← hN]
   rw [term5, if_pos (by omega)]
   first | (rw [decide_eq_false (show ¬ b.fin.a = 0 by omega)]; simp; done) | (rw [Bool.and_assoc, ← Bool.decide_and, decide_eq_false (show ¬ (b.fin.els = 0 ∧ b.fin.elses.length = 0) by omega)]; simp; done) | (rw [← hu1, decide_eq_true (show b.fin.a = 0 by omega), decide_eq_true (show b.fin.els = 0 by omega), decide_eq_true (show b.fin.elses.length = 0 by omega)]; simp)
  have hq8v : (b.fin.els = 0 ∧ b.fin.elses.length = 0) := of_decide_eq_true (by rw [← hq8]; simpa using hg16)
  refine WL.move rfl rfl rfl (WL.fieldAddr fo_30_2 rfl rfl rfl (WL.load1 (v := .int .i64 b.fin.to) one_3 rfl rfl rfl (hS.cell 0 rfl rfl) (WL.fieldAddr fo_30_3 rfl rfl rfl (WL.load1 (v := .slice adp b.fin.args.length capp) one_28 rfl rfl rfl (hS.cell 0 rfl rfl) ?_))))
  refine WL.callV (vs := [.int .i64 b.fin.to, .slice adp b.fin.args.length capp]) (cs := #[.pointer (some ⟨b1, 0, none⟩), .pointer (some ⟨b6, 0, none⟩)]) Try.func69 (by kernel_rfl) rfl rfl rfl rfl (xgoes_ret f _ b.fin.to b.fin.args _ ((b.params.toNat + b.ins.length : Nat) : Int) b1 b6 (ro := fun x => x < w13.heap.size) (fun _ h => h) (hx.keep (fun b hb => hS.snap b hb)) (hS.keys b1 (by simp [keysOf])).2.1 (hS.cells 3 (m := 4) rfl rfl) (hS.keys b6 (by simp [keysOf])).2.1 (hS.cells 1 (m := 1) rfl rfl) (SlV.keep ht1 (fun b hb => hS.snap b hb) (fun _ _ q => q))) ?_
  rintro v w17 ⟨rfl, hbl⟩
  replace hS := hS.grow hbl
  obtain ⟨u1, hu1⟩ : ∃ u, u = goes5 f b.fin.to b.fin.args ((b.params.toNat + b.ins.length : Nat) : Int) := ⟨_, rfl⟩
  rw [← hu1]
  refine WL.pick (v := .bool u1) rfl rfl rfl rfl rfl rfl (WL.assign rfl rfl rfl (WL.nil (N.seq ?_)))
  refine Fin.ret1 rfl (v := .bool u1) rfl ?_
  have hbz := hS.below
  clear hS
  refine ⟨?_, hbz⟩
  congr 1
  rw [← hN]
  rw [term5, if_pos (by omega)]
  first | (rw [decide_eq_false (show ¬ b.fin.a = 0 by omega)]; simp; done) | (rw [Bool.and_assoc, ← Bool.decide_and, decide_eq_false (show ¬ (b.fin.els = 0 ∧ b.fin.elses.length = 0) by omega)]; simp; done) | (rw [← hu1, decide_eq_true (show b.fin.a = 0 by omega), decide_eq_true (show b.fin.els = 0 by omega), decide_eq_true (show b.fin.elses.length = 0 by omega)]; simp)
 have hc14p : ¬ (b.fin.kind = 1) := by simpa using hc14
 refine W.seq (W.region (WL.bin rfl rfl rfl rfl rfl (WL.assign rfl rfl rfl (WL.nil (N.seq ?_)))))
 refine W.cond rfl (fun hc18 => ?_) (fun hc18 => ?_)
 ·
  have hc18p : b.fin.kind = 2 := by simpa using hc18
  refine W.seq (W.region (WL.fieldAddr fo_30_1 rfl rfl rfl (WL.load1 (v := .int .i64 b.fin.a) one_3 rfl rfl rfl (hS.cell 0 rfl rfl) ?_)))
  refine WL.buildSlice (ps := [(0, .int .i64 b.fin.a)]) (cs := [.int .i64 b.fin.a]) Try.underlying28 (tyZero_spec zer_3) rfl rfl rfl rfl (by kernel_rfl) hS ?_
  clear hS; intro w20 b19 hb_b19 hS
  refine WL.load1 (v := .int .i64 ((b.params.toNat + b.ins.length : Nat) : Int)) one_3 rfl rfl rfl (hS.cell 2 rfl rfl) ?_
  have hlit : SlV (fun x => x < w20.heap.size) w20 1 IntC (.slice (some ⟨b19, 0, none⟩) 1 1) [b.fin.a] := slv_blk (hS.own _ List.mem_cons_self) rfl (Chunks.nil.snoc (c := [.int .i64 b.fin.a]) rfl ⟨rfl, hta⟩) (hS.keys b19 (by simp [keysOf])).2.1 rfl (by simp [maxLen])
  refine WL.callF (vs := [.slice (some ⟨b19, 0, none⟩) 1 1, .int .i64 ((b.params.toNat + b.ins.length : Nat) : Int)]) Try.func67 (by kernel_rfl) rfl rfl rfl (xall_ret [b.fin.a] _ _ (ro := fun x => x < w20.heap.size) (fun _ h => h) hlit) ?_
  rintro v w21 ⟨rfl, hbl⟩
  replace hS := hS.grow hbl
  obtain ⟨u0, hu0⟩ : ∃ u, u = below5 [b.fin.a] ((b.params.toNat + b.ins.length : Nat) : Int) := ⟨_, rfl⟩
  rw [← hu0]
  have hal1 : (decide (0 ≤ b.fin.a) && decide (b.fin.a < ((b.params.toNat + b.ins.length : Nat) : Int))) = u0 := by rw [hu0]; simp [below5]
  refine WL.move rfl rfl rfl ?_
  cases hg22 : u0
  ·
   refine WL.skp rfl rfl (WL.skp rfl rfl (WL.skp rfl rfl (WL.skp rfl rfl (WL.skp rfl rfl (WL.skp rfl rfl (WL.pick (v := .bool false) rfl rfl rfl rfl rfl rfl (WL.move rfl rfl rfl (WL.skp rfl rfl (WL.skp rfl rfl ?_)))))))))
   refine WL.skp rfl rfl (WL.skp rfl rfl (WL.skp rfl rfl (WL.skp rfl rfl (WL.pick (v := .bool false) rfl rfl rfl rfl rfl rfl (WL.assign rfl rfl rfl (WL.nil (N.seq ?_)))))))
   refine Fin.ret1 rfl (v := .bool false) rfl ?_
   have hbz := hS.below
   clear hS
   refine ⟨?_, hbz⟩
   congr 1
   rw [← hN]
   rw [term5, if_neg (by omega), if_pos (by omega), hal1]
   first | (rw [show u0 = false by assumption]; simp; done) | (rw [show u0 = true by assumption, ← hu1, show u1 = false by assumption]; simp; done) | (rw [show u0 = true by assumption, ← hu1, show u1 = true by assumption, ← hu2]; simp; done)
  refine WL.move rfl rfl rfl (WL.fieldAddr fo_30_2 rfl rfl rfl (WL.load1 (v := .int .i64 b.fin.to) one_3 rfl rfl rfl (hS.cell 1 rfl rfl) (WL.fieldAddr fo_30_3 rfl rfl rfl (WL.load1 (v := .slice adp b.fin.args.length capp) one_28 rfl rfl rfl (hS.cell 1 rfl rfl) ?_))))
  refine WL.callV (vs := [.int .i64 b.fin.to, .slice adp b.fin.args.length capp]) (cs := #[.pointer (some ⟨b1, 0, none⟩), .pointer (some ⟨b6, 0, none⟩)]) Try.func69 (by kernel_rfl) rfl rfl rfl rfl (xgoes_ret f _ b.fin.to b.fin.args _ ((b.params.toNat + b.ins.length : Nat) : Int) b1 b6 (ro := fun x => x < w21.heap.size) (fun _ h => h) (hx.keep (fun b hb => hS.snap b hb)) (hS.keys b1 (by simp [keysOf])).2.1 (hS.cells 4 (m := 4) rfl rfl) (hS.keys b6 (by simp [keysOf])).2.1 (hS.cells 2 (m := 1) rfl rfl) (SlV.keep ht1 (fun b hb => hS.snap b hb) (fun _ _ q => q))) ?_
  rintro v w23 ⟨rfl, hbl⟩
  replace hS := hS.grow hbl
  obtain ⟨u1, hu1⟩ : ∃ u, u = goes5 f b.fin.to b.fin.args ((b.params.toNat + b.ins.length : Nat) : Int) := ⟨_, rfl⟩
  rw [← hu1]
  refine WL.pick (v := .bool u1) rfl rfl rfl rfl rfl rfl (WL.move rfl rfl rfl ?_)
  cases hg24 : u1
  ·
   refine WL.skp rfl rfl (WL.skp rfl rfl (WL.skp rfl rfl (WL.skp rfl rfl (WL.skp rfl rfl (WL.skp rfl rfl (WL.pick (v := .bool false) rfl rfl rfl rfl rfl rfl (WL.assign rfl rfl rfl (WL.nil (N.seq ?_)))))))))
   refine Fin.ret1 rfl (v := .bool false) rfl ?_
   have hbz := hS.below
   clear hS
   refine ⟨?_, hbz⟩
   congr 1
   rw [← hN]
   rw [term5, if_neg (by omega), if_pos (by omega), hal1]
   first | (rw [show u0 = false by assumption]; simp; done) | (rw [show u0 = true by assumption, ← hu1, show u1 = false by assumption]; simp; done) | (rw [show u0 = true by assumption, ← hu1, show u1 = true by assumption, ← hu2]; simp; done)
  refine WL.move rfl rfl rfl (WL.fieldAddr fo_30_4 rfl rfl rfl (WL.load1 (v := .int .i64 b.fin.els) one_3 rfl rfl rfl (hS.cell 1 rfl rfl) (WL.fieldAddr fo_30_5 rfl rfl rfl (WL.load1 (v := .slice adq b.fin.elses.length capq) one_28 rfl rfl rfl (hS.cell 1 rfl rfl) ?_))))
  refine WL.callV (vs := [.int .i64 b.fin.els, .slice adq b.fin.elses.length capq]) (cs := #[.pointer (some ⟨b1, 0, none⟩), .pointer (some ⟨b6, 0, none⟩)]) Try.func69 (by kernel_rfl) rfl rfl rfl rfl (xgoes_ret f _ b.fin.els b.fin.elses _ ((b.params.toNat + b.ins.length : Nat) : Int) b1 b6 (ro := fun x => x < w23.heap.size) (fun _ h => h) (hx.keep (fun b hb => hS.snap b hb)) (hS.keys b1 (by simp [keysOf])).2.1 (hS.cells 4 (m := 4) rfl rfl) (hS.keys b6 (by simp [keysOf])).2.1 (hS.cells 2 (m := 1) rfl rfl) (SlV.keep ht2 (fun b hb => hS.snap b hb) (fun _ _ q => q))) ?_
  rintro v w25 ⟨rfl, hbl⟩
  replace hS := hS.grow hbl
  obtain ⟨u2, hu2⟩ : ∃ u, u = goes5 f b.fin.els b.fin.elses ((b.params.toNat + b.ins.length : Nat) : Int) := ⟨_, rfl⟩
  rw [← hu2]
  refine WL.pick (v := .bool u2) rfl rfl rfl rfl rfl rfl (WL.assign rfl rfl rfl (WL.nil (N.seq ?_)))
  refine Fin.ret1 rfl (v := .bool u2) rfl ?_
  have hbz := hS.below
  clear hS
  refine ⟨?_, hbz⟩
  congr 1
  rw [← hN]
  rw [term5, if_neg (by omega), if_pos (by omega), hal1]
  first | (rw [show u0 = false by assumption]; simp; done) | (rw [show u0 = true by assumption, ← hu1, show u1 = false by assumption]; simp; done) | (rw [show u0 = true by assumption, ← hu1, show u1 = true by assumption, ← hu2]; simp; done)
 have hc18p : ¬ (b.fin.kind = 2) := by simpa using hc18
 refine W.seq (W.region (WL.bin rfl rfl rfl rfl rfl (WL.assign rfl rfl rfl (WL.nil (N.seq ?_)))))
 refine W.cond rfl (fun hc26 => ?_) (fun hc26 => ?_)
 ·
  have hc26p : b.fin.kind = 3 := by simpa using hc26
  refine W.seq (W.region (WL.fieldAddr fo_30_1 rfl rfl rfl (WL.load1 (v := .int .i64 b.fin.a) one_3 rfl rfl rfl (hS.cell 0 rfl rfl) ?_)))
  refine WL.buildSlice (ps := [(0, .int .i64 b.fin.a)]) (cs := [.int .i64 b.fin.a]) Try.underlying28 (tyZero_spec zer_3) rfl rfl rfl rfl (by kernel_rfl) hS ?_
  clear hS; intro w28 b27 hb_b27 hS
  refine WL.load1 (v := .int .i64 ((b.params.toNat + b.ins.length : Nat) : Int)) one_3 rfl rfl rfl (hS.cell 2 rfl rfl) ?_
  have hlit : SlV (fun x => x < w28.heap.size) w28 1 IntC (.slice (some ⟨b27, 0, none⟩) 1 1) [b.fin.a] := slv_blk (hS.own _ List.mem_cons_self) rfl (Chunks.nil.snoc (c := [.int .i64 b.fin.a]) rfl ⟨rfl, hta⟩) (hS.keys b27 (by simp [keysOf])).2.1 rfl (by simp [maxLen])
  refine WL.callF (vs := [.slice (some ⟨b27, 0, none⟩) 1 1, .int .i64 ((b.params.toNat + b.ins.length : Nat) : Int)]) Try.func67 (by kernel_rfl) rfl rfl rfl (xall_ret [b.fin.a] _ _ (ro := fun x => x < w28.heap.size) (fun _ h => h) hlit) ?_
  rintro v w29 ⟨rfl, hbl⟩
  replace hS := hS.grow hbl
  obtain ⟨u0, hu0⟩ : ∃ u, u = below5 [b.fin.a] ((b.params.toNat + b.ins.length : Nat) : Int) := ⟨_, rfl⟩
  rw [← hu0]
  have hal1 : (decide (0 ≤ b.fin.a) && decide (b.fin.a < ((b.params.toNat + b.ins.length : Nat) : Int))) = u0 := by rw [hu0]; simp [below5]
  refine WL.move rfl rfl rfl ?_
  cases hg30 : u0
  ·
   refine WL.skp rfl rfl (WL.pick (v := .bool false) rfl rfl rfl rfl rfl rfl (WL.move rfl rfl rfl (WL.skp rfl rfl (WL.skp rfl rfl (WL.skp rfl rfl (WL.pick (v := .bool false) rfl rfl rfl rfl rfl rfl (WL.move rfl rfl rfl (WL.skp rfl rfl (WL.skp rfl rfl ?_)))))))))
   refine WL.skp rfl rfl (WL.skp rfl rfl (WL.pick (v := .bool false) rfl rfl rfl rfl rfl rfl (WL.assign rfl rfl rfl (WL.nil (N.seq ?_)))))
   refine Fin.ret1 rfl (v := .bool false) rfl ?_
   have hbz := hS.below
   clear hS
   refine ⟨?_, hbz⟩
   congr 1
   rw [← hN]
   rw [term5, if_neg (by omega), if_neg (by omega), hal1, decide_eq_true (show b.fin.kind = 3 by omega), Bool.true_and, Bool.and_assoc (_ && _), ← Bool.decide_and (p := b.fin.els = 0)]
   first | (rw [show u0 = false by assumption]; simp; done) | (rw [decide_eq_false (show ¬ (b.fin.els = 0 ∧ b.fin.elses.length = 0) by omega)]; simp; done) | (rw [decide_eq_false (show ¬ b.fin.to = 0 by omega)]; simp; done) | (rw [show u0 = true by assumption, decide_eq_true (show b.fin.to = 0 by omega), decide_eq_true (show b.fin.els = 0 ∧ b.fin.elses.length = 0 by omega), Bool.true_and, Bool.true_and, Bool.and_true]; exact decide_eq_decide.2 (by omega))
  refine WL.move rfl rfl rfl (WL.pick (v := .bool q8) rfl rfl rfl rfl rfl rfl (WL.move rfl rfl rfl ?_))
  cases hg31 : q8
  ·
   have hq8v : ¬ (b.fin.els = 0 ∧ b.fin.elses.length = 0) := of_decide_eq_false (by rw [← hq8]; simpa using hg31)
   refine WL.skp rfl rfl (WL.skp rfl rfl (WL.skp rfl rfl (WL.pick (v := .bool false) rfl rfl rfl rfl rfl rfl (WL.move rfl rfl rfl (WL.skp rfl rfl (WL.skp rfl rfl (WL.skp rfl rfl (WL.skp rfl rfl (WL.pick (v := .bool false) rfl rfl rfl rfl rfl rfl ?_)))))))))
   refine WL.assign rfl rfl rfl (WL.nil (N.seq ?_))
   refine Fin.ret1 rfl (v := .bool false) rfl ?_
   have hbz := hS.below
   clear hS
   refine ⟨?_, hbz⟩
   congr 1
   rw [← hN]
   rw [term5, if_neg (by omega), if_neg (by omega), hal1, decide_eq_true (show b.fin.kind = 3 by omega), Bool.true_and, Bool.and_assoc (_ && _), ← Bool.decide_and (p := b.fin.els = 0)]
   first | (rw [show u0 = false by assumption]; simp; done) | (rw [decide_eq_false (show ¬ (b.fin.els = 0 ∧ b.fin.elses.length = 0) by omega)]; simp; done) | (rw [decide_eq_false (show ¬ b.fin.to = 0 by omega)]; simp; done) | (rw [show u0 = true by assumption, decide_eq_true (show b.fin.to = 0 by omega), decide_eq_true (show b.fin.els = 0 ∧ b.fin.elses.length = 0 by omega), Bool.true_and, Bool.true_and, Bool.and_true]; exact decide_eq_decide.2 (by omega))
  have hq8v : (b.fin.els = 0 ∧ b.fin.elses.length = 0) := of_decide_eq_true (by rw [← hq8]; simpa using hg31)
  refine WL.fieldAddr fo_30_2 rfl rfl rfl (WL.load1 (v := .int .i64 b.fin.to) one_3 rfl rfl rfl (hS.cell 1 rfl rfl) (WL.bin rfl rfl rfl rfl rfl (WL.pick (v := .bool (decide (b.fin.to = 0))) rfl rfl rfl rfl rfl rfl (WL.move rfl rfl rfl ?_))))
  cases hg32 : (decide (b.fin.to = 0))
  ·
   have hg32p : ¬ (b.fin.to = 0) := by simpa using hg32
   refine WL.skp rfl rfl (WL.skp rfl rfl (WL.skp rfl rfl (WL.skp rfl rfl (WL.pick (v := .bool false) rfl rfl rfl rfl rfl rfl (WL.assign rfl rfl rfl (WL.nil (N.seq ?_)))))))
   refine Fin.ret1 rfl (v := .bool false) rfl ?_
   have hbz := hS.below
   clear hS
   refine ⟨?_, hbz⟩
   congr 1
   rw [← hN]
   rw [term5, if_neg (by omega), if_neg (by omega), hal1, decide_eq_true (show b.fin.kind = 3 by omega), Bool.true_and, Bool.and_assoc (_ && _), ← Bool.decide_and (p := b.fin.els = 0)]
   first | (rw [show u0 = false by assumption]; simp; done) | (rw [decide_eq_false (show ¬ (b.fin.els = 0 ∧ b.fin.elses.length = 0) by omega)]; simp; done) | (rw [decide_eq_false (show ¬ b.fin.to = 0 by omega)]; simp; done) | (rw [show u0 = true by assumption, decide_eq_true (show b.fin.to = 0 by omega), decide_eq_true (show b.fin.els = 0 ∧ b.fin.elses.length = 0 by omega), Bool.true_and, Bool.true_and, Bool.and_true]; exact decide_eq_decide.2 (by omega))
  have hg32p : b.fin.to = 0 := by simpa using hg32
  refine WL.fieldAddr fo_30_3 rfl rfl rfl (WL.load1 (v := .slice adp b.fin.args.length capp) one_28 rfl rfl rfl (hS.cell 1 rfl rfl) (WL.lenSlice Try.underlying28 rfl rfl rfl (WL.bin rfl rfl rfl rfl rfl (WL.pick (v := .bool (decide ((b.fin.args.length : Int) = 0))) rfl rfl rfl rfl rfl rfl (WL.assign rfl rfl rfl (WL.nil (N.seq ?_)))))))
  refine Fin.ret1 rfl (v := .bool (decide ((b.fin.args.length : Int) = 0))) rfl ?_
  have hbz := hS.below
  clear hS
  refine ⟨?_, hbz⟩
  congr 1
  rw [← hN]
  rw [term5, if_neg (by omega), if_neg (by omega), hal1, decide_eq_true (show b.fin.kind = 3 by omega), Bool.true_and, Bool.and_assoc (_ && _), ← Bool.decide_and (p := b.fin.els = 0)]
  first | (rw [show u0 = false by assumption]; simp; done) | (rw [decide_eq_false (show ¬ (b.fin.els = 0 ∧ b.fin.elses.length = 0) by omega)]; simp; done) | (rw [decide_eq_false (show ¬ b.fin.to = 0 by omega)]; simp; done) | (rw [show u0 = true by assumption, decide_eq_true (show b.fin.to = 0 by omega), decide_eq_true (show b.fin.els = 0 ∧ b.fin.elses.length = 0 by omega), Bool.true_and, Bool.true_and, Bool.and_true]; exact decide_eq_decide.2 (by omega))
 have hc26p : ¬ (b.fin.kind = 3) := by simpa using hc26
 refine W.skip (N.blk (N.seq (W.seq (W.region (WL.assign rfl rfl rfl (WL.nil (N.seq ?_)))))))
 refine Fin.ret1 rfl (v := .bool false) rfl ?_
 have hbz := hS.below
 clear hS
 refine ⟨?_, hbz⟩
 congr 1
 rw [← hN]
 rw [term5, if_neg (by omega), if_neg (by omega), decide_eq_false (show ¬ b.fin.kind = 3 by omega)]
 simp

end Go.Proofs.Ytdlcmhkfglckfaa
