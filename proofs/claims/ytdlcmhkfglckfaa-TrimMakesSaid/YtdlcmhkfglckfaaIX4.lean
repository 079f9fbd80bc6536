/-
  ir.Func, both ways. No condition beyond those that each theorem states.
-/
import Derived.Test.YtdlcmhkfglckfaaIX3
namespace Go.Proofs.Ytdlcmhkfglckfaa
open Go.RowKit

theorem xblock_ret (f : DFunc) (cf : List Value) (b : DBlock) (cb : List Value) {w : World} {ro : Nat → Prop} (hro : ∀ b, ro b → b < w.heap.size) (hx : FuncC ro w cf f) (hb : BlockC ro w cb b) (hok : okBlock b) : Ret Try.prog 57 #[.agg cf.toArray, .agg cb.toArray] w fun v w' => v = .bool (block5 f b) ∧ Below w.heap.size w w' := by
 obtain ⟨sbF, rfl, hblF, hnmF, hbdF, hprF⟩ := id hx
 obtain ⟨adbF, capbF, rfl, hbkFa, hbkFb, hbkFc, hbkFd⟩ := id hblF
 have hbkFm : f.blocks.length ≤ 9223372036854775807 := by have h1 := hbkFa; have h2 := hbkFb; unfold maxLen at h2; omega
 obtain ⟨si, tsx, rfl, hin, hfin, hpar⟩ := id hb
 obtain ⟨adi, capi, rfl, hina, hinb, hinc, hind⟩ := id hin
 have hinm : b.ins.length ≤ 9223372036854775807 := by have h1 := hina; have h2 := hinb; unfold maxLen at h2; omega
 obtain ⟨sp, sq, rfl, ht1, ht2, htk, hta, htt, hte⟩ := id hfin
 obtain ⟨adp, capp, rfl, htpa, htpb, htpc, htpd⟩ := id ht1
 have htpm : b.fin.args.length ≤ 9223372036854775807 := by have h1 := htpa; have h2 := htpb; unfold maxLen at h2; omega
 obtain ⟨adq, capq, rfl, htqa, htqb, htqc, htqd⟩ := id ht2
 have htqm : b.fin.elses.length ≤ 9223372036854775807 := by have h1 := htqa; have h2 := htqb; unfold maxLen at h2; omega
 refine Ret.enter (P := Try.prog) (n := 40) (args := [.agg #[.string f.name, .int .i64 f.bind, .int .i64 f.params, .slice adbF f.blocks.length capbF], .agg #[.int .i64 b.params, .slice adi b.ins.length capi, .int .i64 b.fin.kind, .int .i64 b.fin.a, .int .i64 b.fin.to, .slice adp b.fin.args.length capp, .int .i64 b.fin.els, .slice adq b.fin.elses.length capq]]) (σ := [(0, .agg #[.string f.name, .int .i64 f.bind, .int .i64 f.params, .slice adbF f.blocks.length capbF]), (1, .agg #[.int .i64 b.params, .slice adi b.ins.length capi, .int .i64 b.fin.kind, .int .i64 b.fin.a, .int .i64 b.fin.to, .slice adp b.fin.args.length capp, .int .i64 b.fin.els, .slice adq b.fin.elses.length capq])]) Try.func57 rfl rfl rfl rfl ?_
 have hS := St.start (ro := ro) hro
 refine W.seq (W.region ?_)
 refine WL.box (v := .agg #[.string f.name, .int .i64 f.bind, .int .i64 f.params, .slice adbF f.blocks.length capbF]) (cs := [.string f.name, .int .i64 f.bind, .int .i64 f.params, .slice adbF f.blocks.length capbF]) rfl rfl rfl rfl hS ?_
 clear hS; intro w2 b1 hb_b1 hS
 refine WL.box (v := .agg #[.int .i64 b.params, .slice adi b.ins.length capi, .int .i64 b.fin.kind, .int .i64 b.fin.a, .int .i64 b.fin.to, .slice adp b.fin.args.length capp, .int .i64 b.fin.els, .slice adq b.fin.elses.length capq]) (cs := [.int .i64 b.params, .slice adi b.ins.length capi, .int .i64 b.fin.kind, .int .i64 b.fin.a, .int .i64 b.fin.to, .slice adp b.fin.args.length capp, .int .i64 b.fin.els, .slice adq b.fin.elses.length capq]) rfl rfl rfl rfl hS ?_
 clear hS; intro w4 b3 hb_b3 hS
 refine WL.assign rfl rfl rfl (WL.nil (N.seq (W.seq ?_)))
 refine W.cut (α := Bool) (fun (q20 : Bool) => [(2, .pointer (some ⟨b1, 0, none⟩)), (3, .pointer (some ⟨b3, 0, none⟩)), (4, .bool false), (20, .bool q20)]) (fun (q20 : Bool) u => St w w u ro [(b3, .cells #[.int .i64 b.params, .slice adi b.ins.length capi, .int .i64 b.fin.kind, .int .i64 b.fin.a, .int .i64 b.fin.to, .slice adp b.fin.args.length capp, .int .i64 b.fin.els, .slice adq b.fin.elses.length capq] 32 (0, 0)), (b1, .cells #[.string f.name, .int .i64 f.bind, .int .i64 f.params, .slice adbF f.blocks.length capbF] 24 (0, 0))] [] ∧ q20 = decide (b.params < 0 ∨ 6 < b.params ∨ 32 < b.ins.length)) ?_ ?_
 ·
  refine W.region (WL.fieldAddr fo_32_0 rfl rfl rfl (WL.load1 (v := .int .i64 b.params) one_3 rfl rfl rfl (hS.cell 0 rfl rfl) (WL.bin rfl rfl rfl rfl rfl (WL.move rfl rfl rfl ?_))))
  cases hg5 : (decide (b.params < 0))
  ·
   have hg5p : ¬ (b.params < 0) := by simpa using hg5
   refine WL.fieldAddr fo_32_0 rfl rfl rfl (WL.load1 (v := .int .i64 b.params) one_3 rfl rfl rfl (hS.cell 0 rfl rfl) (WL.bin rfl rfl rfl rfl rfl (WL.pick (v := .bool (decide (6 < b.params))) rfl rfl rfl rfl rfl rfl (WL.move rfl rfl rfl ?_))))
   cases hg6 : (decide (6 < b.params))
   ·
    have hg6p : ¬ (6 < b.params) := by simpa using hg6
    refine WL.fieldAddr fo_32_1 rfl rfl rfl (WL.load1 (v := .slice adi b.ins.length capi) one_27 rfl rfl rfl (hS.cell 0 rfl rfl) (WL.lenSlice Try.underlying27 rfl rfl rfl (WL.bin rfl rfl rfl rfl rfl (WL.pick (v := .bool (decide (32 < (b.ins.length : Int)))) rfl rfl rfl rfl rfl rfl (WL.nil ?_)))))
    exact N.cut (decide (32 < (b.ins.length : Int))) ⟨rfl, rfl, rfl, rfl, trivial⟩ ⟨hS, decide_eq_decide.2 (by omega)⟩
   have hg6p : 6 < b.params := by simpa using hg6
   refine WL.skp rfl rfl (WL.skp rfl rfl (WL.skp rfl rfl (WL.skp rfl rfl (WL.pick (v := .bool true) rfl rfl rfl rfl rfl rfl (WL.nil ?_)))))
   exact N.cut true ⟨rfl, rfl, rfl, rfl, trivial⟩ ⟨hS, (decide_eq_true (by omega)).symm⟩
  have hg5p : b.params < 0 := by simpa using hg5
  refine WL.skp rfl rfl (WL.skp rfl rfl (WL.skp rfl rfl (WL.pick (v := .bool true) rfl rfl rfl rfl rfl rfl (WL.move rfl rfl rfl (WL.skp rfl rfl (WL.skp rfl rfl (WL.skp rfl rfl (WL.skp rfl rfl (WL.pick (v := .bool true) rfl rfl rfl rfl rfl rfl ?_)))))))))
  refine WL.nil ?_
  exact N.cut true ⟨rfl, rfl, rfl, rfl, trivial⟩ ⟨hS, (decide_eq_true (by omega)).symm⟩
 clear hS
 rintro q20 w7 ⟨hS, hq20⟩
 refine W.cond rfl (fun hc8 => ?_) (fun hc8 => ?_)
 ·
  have hq20v : (b.params < 0 ∨ 6 < b.params ∨ 32 < b.ins.length) := of_decide_eq_true (by rw [← hq20]; simpa using hc8)
  refine W.seq (W.region (WL.assign rfl rfl rfl (WL.nil (N.seq ?_))))
  refine Fin.ret1 rfl (v := .bool false) rfl ?_
  have hbz := hS.below
  clear hS
  refine ⟨?_, hbz⟩
  congr 1
  rw [block5, if_pos hq20v]
 have hq20v : ¬ (b.params < 0 ∨ 6 < b.params ∨ 32 < b.ins.length) := of_decide_eq_false (by rw [← hq20]; simpa using hc8)
 refine W.skip (N.seq (W.seq (W.seq (W.region (WL.fieldAddr fo_32_1 rfl rfl rfl (WL.load1 (v := .slice adi b.ins.length capi) one_27 rfl rfl rfl (hS.cell 0 rfl rfl) (WL.lenSlice Try.underlying27 rfl rfl rfl (WL.move rfl rfl rfl (WL.nil ?_)))))))))
 refine N.seq (W.block ?_)
 refine W.loop (α := Nat) (fun (k : Nat) => [(2, .pointer (some ⟨b1, 0, none⟩)), (3, .pointer (some ⟨b3, 0, none⟩)), (22, .slice adi b.ins.length capi), (23, .int .i64 (b.ins.length : Int)), (24, .int .i64 (k : Int))]) (fun (k : Nat) u => St w w u ro [(b3, .cells #[.int .i64 b.params, .slice adi b.ins.length capi, .int .i64 b.fin.kind, .int .i64 b.fin.a, .int .i64 b.fin.to, .slice adp b.fin.args.length capp, .int .i64 b.fin.els, .slice adq b.fin.elses.length capq] 32 (0, 0)), (b1, .cells #[.string f.name, .int .i64 f.bind, .int .i64 f.params, .slice adbF f.blocks.length capbF] 24 (0, 0))] [] ∧ k ≤ b.ins.length ∧ allFrom b.params (b.ins.take k) = true) (fun (k : Nat) => b.ins.length - k) 0 ⟨rfl, rfl, rfl, rfl, rfl, trivial⟩ ⟨hS, Nat.zero_le _, rfl⟩ ?_
 clear hS
 rintro k w9 ⟨hS, hk, htka⟩
 refine W.seq (W.region (WL.bin rfl rfl rfl rfl rfl (WL.nil (N.seq (W.seq ?_)))))
 refine W.cond rfl (fun hc10 => ?_) (fun hc10 => ?_)
 ·
  have hc10p : (k : Int) < (b.ins.length : Int) := by simpa using hc10
  refine W.skip (N.seq (W.seq (W.block (W.seq (W.region (WL.move rfl rfl rfl ?_))))))
  have hj11 : k < b.ins.length := by omega
  obtain ⟨x11, hx11⟩ : ∃ zz, b.ins[k]? = some zz := ⟨_, List.getElem?_eq_getElem hj11⟩
  obtain ⟨b11, o11, cs11, hE11, hr11, hl11, hc11, hQ11⟩ := hind k _ hx11
  have hQk11 := hQ11
  obtain ⟨sv11, rfl, hs11, ho11, ha11, hb11, hk11, hn11⟩ := hQ11
  obtain ⟨ad11, cap11, rfl, hs11a, hs11b, hs11c, hs11d⟩ := id hs11
  have hs11m : x11.args.length ≤ 9223372036854775807 := by have h1 := hs11a; have h2 := hs11b; unfold maxLen at h2; omega
  refine WL.indexAddrE (j := k) Try.underlying27 isz_36 rfl rfl rfl rfl hj11 hE11 (WL.loadN (cs := [.int .i64 x11.op, .int .i64 x11.a, .int .i64 x11.b, .int .u64 x11.k, .string x11.name, .slice ad11 x11.args.length cap11]) agg_36 rfl rfl rfl rfl (hS.roCells hr11 hc11) ?_)
  refine WL.alloc (tyZero_spec zer_36) rfl rfl hS ?_
  clear hS; intro w13 b12 hb_b12 hS
  refine WL.assign rfl rfl rfl ?_
  refine WL.store (L' := [(b12, .cells #[.int .i64 x11.op, .int .i64 x11.a, .int .i64 x11.b, .int .u64 x11.k, .string x11.name, .slice ad11 x11.args.length cap11] 36 (0, 0)), (b3, .cells #[.int .i64 b.params, .slice adi b.ins.length capi, .int .i64 b.fin.kind, .int .i64 b.fin.a, .int .i64 b.fin.to, .slice adp b.fin.args.length capp, .int .i64 b.fin.els, .slice adq b.fin.elses.length capq] 32 (0, 0)), (b1, .cells #[.string f.name, .int .i64 f.bind, .int .i64 f.params, .slice adbF f.blocks.length capbF] 24 (0, 0))]) 0 rfl rfl rfl rfl siz_36 rfl rfl rfl rfl rfl hS ?_
  clear hS; intro w14 hS
  refine WL.nil (N.seq (W.seq (W.region (WL.loadN (cs := [.int .i64 x11.op, .int .i64 x11.a, .int .i64 x11.b, .int .u64 x11.k, .string x11.name, .slice ad11 x11.args.length cap11]) agg_36 rfl rfl rfl rfl (hS.cells 0 (m := 6) rfl rfl) (WL.fieldAddr fo_32_0 rfl rfl rfl (WL.load1 (v := .int .i64 b.params) one_3 rfl rfl rfl (hS.cell 1 rfl rfl) (WL.move rfl rfl rfl ?_)))))))
  refine WL.add (c := b.params + (k : Int)) rfl rfl rfl rfl (rfl) (by omega) ?_
  refine WL.callF (vs := [.agg #[.int .i64 x11.op, .int .i64 x11.a, .int .i64 x11.b, .int .u64 x11.k, .string x11.name, .slice ad11 x11.args.length cap11], .int .i64 (b.params + (k : Int))]) Try.func64 (by kernel_rfl) rfl rfl rfl (xinst_ret x11 _ (b.params + (k : Int)) (ro := ro) (fun b hb => (hS.snap b hb).1) (hQk11.keep hS.alike) (hok.1 x11 (List.mem_of_getElem? hx11))) ?_
  rintro v w15 ⟨rfl, hbl⟩
  replace hS := hS.grow hbl
  refine WL.not rfl rfl rfl (WL.nil (N.seq ?_))
  refine W.cond rfl (fun hc16 => ?_) (fun hc16 => ?_)
  ·
   refine W.seq (W.region (WL.assign rfl rfl rfl (WL.nil (N.seq ?_))))
   refine Fin.ret1 rfl (v := .bool false) rfl ?_
   have hbz := hS.below
   clear hS
   refine ⟨?_, hbz⟩
   congr 1
   have he : allFrom b.params b.ins = false := by
    cases e : allFrom b.params b.ins with
    | false => rfl
    | true => rw [allFrom_at _ _ _ _ e hx11] at hc16; simp at hc16
   rw [block5, if_neg hq20v, if_pos he]
  refine W.skip (N.blk (N.seq (W.region ?_)))
  refine WL.add (c := (k : Int) + 1) rfl rfl rfl rfl (rfl) (by omega) ?_
  refine WL.move rfl rfl rfl (WL.nil ?_)
  have hS := hS.dropN 1
  have htk2 : allFrom b.params (b.ins.take (k + 1)) = true := by rw [take_next hx11, allFrom_snoc, htka, List.length_take, Nat.min_eq_left (by omega)]; simpa using hc16
  exact N.loop (k + 1) ⟨rfl, rfl, rfl, rfl, rfl, trivial⟩ ⟨hS, by omega, htk2⟩ (by first | omega | (simp only; omega))
 have hc10p : ¬ ((k : Int) < (b.ins.length : Int)) := by simpa using hc10
 refine W.exit (X.seq (X.loop (X.blk (N.seq (W.seq (W.region (WL.loadN (cs := [.string f.name, .int .i64 f.bind, .int .i64 f.params, .slice adbF f.blocks.length capbF]) agg_24 rfl rfl rfl rfl (hS.cells 1 (m := 4) rfl rfl) (WL.loadN (cs := [.int .i64 b.params, .slice adi b.ins.length capi, .int .i64 b.fin.kind, .int .i64 b.fin.a, .int .i64 b.fin.to, .slice adp b.fin.args.length capp, .int .i64 b.fin.els, .slice adq b.fin.elses.length capq]) agg_32 rfl rfl rfl rfl (hS.cells 0 (m := 8) rfl rfl) ?_))))))))
 refine WL.callF (vs := [.agg #[.string f.name, .int .i64 f.bind, .int .i64 f.params, .slice adbF f.blocks.length capbF], .agg #[.int .i64 b.params, .slice adi b.ins.length capi, .int .i64 b.fin.kind, .int .i64 b.fin.a, .int .i64 b.fin.to, .slice adp b.fin.args.length capp, .int .i64 b.fin.els, .slice adq b.fin.elses.length capq]]) Try.func65 (by kernel_rfl) rfl rfl rfl (xend_ret f _ b _ (ro := ro) (fun b hb => (hS.snap b hb).1) (hx.keep hS.alike) (hb.keep hS.alike) (by omega) (by omega)) ?_
 rintro v w17 ⟨rfl, hbl⟩
 replace hS := hS.grow hbl
 refine WL.assign rfl rfl rfl (WL.nil (N.seq ?_))
 refine Fin.ret1 rfl (v := .bool (term5 f b.fin (b.params + (b.ins.length : Int)))) rfl ?_
 have hbz := hS.below
 clear hS
 refine ⟨?_, hbz⟩
 congr 1
 have hie : k = b.ins.length := by omega
 rw [hie, List.take_length] at htka
 rw [block5, if_neg hq20v, if_neg (by simp [htka])]

theorem xf1_ret (f : DFunc) (cf : List Value) (bf : Nat) {w : World} {ro : Nat → Prop} (hro : ∀ b, ro b → b < w.heap.size) (hx : FuncC ro w cf f) (hbf : ro bf) (hcf : CellsAt w bf 0 cf) (b : DBlock) (cb : List Value) (hb : BlockC ro w cb b) (hok : okBlock b) : Ret Try.prog 56 #[.agg cb.toArray, .pointer (some ⟨bf, 0, none⟩)] w fun v w' => v = .bool (!block5 f b) ∧ Below w.heap.size w w' := by
 obtain ⟨sb, hcfe, hblx, _, _, _⟩ := id hx
 obtain ⟨adb, capb, rfl, hbka, hbkb, hbkc, hbkd⟩ := id hblx
 have hbkm : f.blocks.length ≤ 9223372036854775807 := by have h1 := hbka; have h2 := hbkb; unfold maxLen at h2; omega
 subst hcfe
 obtain ⟨si, tsx, rfl, hin, hfin, hpar⟩ := id hb
 obtain ⟨adi, capi, rfl, hina, hinb, hinc, hind⟩ := id hin
 have hinm : b.ins.length ≤ 9223372036854775807 := by have h1 := hina; have h2 := hinb; unfold maxLen at h2; omega
 obtain ⟨sp, sq, rfl, ht1, ht2, htk, hta, htt, hte⟩ := id hfin
 obtain ⟨adp, capp, rfl, htpa, htpb, htpc, htpd⟩ := id ht1
 have htpm : b.fin.args.length ≤ 9223372036854775807 := by have h1 := htpa; have h2 := htpb; unfold maxLen at h2; omega
 obtain ⟨adq, capq, rfl, htqa, htqb, htqc, htqd⟩ := id ht2
 have htqm : b.fin.elses.length ≤ 9223372036854775807 := by have h1 := htqa; have h2 := htqb; unfold maxLen at h2; omega
 refine Ret.enter (P := Try.prog) (n := 8) (args := [.agg #[.int .i64 b.params, .slice adi b.ins.length capi, .int .i64 b.fin.kind, .int .i64 b.fin.a, .int .i64 b.fin.to, .slice adp b.fin.args.length capp, .int .i64 b.fin.els, .slice adq b.fin.elses.length capq], .pointer (some ⟨bf, 0, none⟩)]) (σ := [(0, .agg #[.int .i64 b.params, .slice adi b.ins.length capi, .int .i64 b.fin.kind, .int .i64 b.fin.a, .int .i64 b.fin.to, .slice adp b.fin.args.length capp, .int .i64 b.fin.els, .slice adq b.fin.elses.length capq]), (1, .pointer (some ⟨bf, 0, none⟩))]) Try.func56 rfl rfl rfl rfl ?_
 have hS := St.start (ro := ro) hro
 refine W.seq (W.region ?_)
 refine WL.box (v := .agg #[.int .i64 b.params, .slice adi b.ins.length capi, .int .i64 b.fin.kind, .int .i64 b.fin.a, .int .i64 b.fin.to, .slice adp b.fin.args.length capp, .int .i64 b.fin.els, .slice adq b.fin.elses.length capq]) (cs := [.int .i64 b.params, .slice adi b.ins.length capi, .int .i64 b.fin.kind, .int .i64 b.fin.a, .int .i64 b.fin.to, .slice adp b.fin.args.length capp, .int .i64 b.fin.els, .slice adq b.fin.elses.length capq]) rfl rfl rfl rfl hS ?_
 clear hS; intro w2 b1 hb_b1 hS
 refine WL.assign rfl rfl rfl (WL.nil (N.seq (W.seq (W.region (WL.loadN (cs := [.string f.name, .int .i64 f.bind, .int .i64 f.params, .slice adb f.blocks.length capb]) agg_24 rfl rfl rfl rfl (hS.roCells hbf hcf) (WL.loadN (cs := [.int .i64 b.params, .slice adi b.ins.length capi, .int .i64 b.fin.kind, .int .i64 b.fin.a, .int .i64 b.fin.to, .slice adp b.fin.args.length capp, .int .i64 b.fin.els, .slice adq b.fin.elses.length capq]) agg_32 rfl rfl rfl rfl (hS.cells 0 (m := 8) rfl rfl) ?_))))))
 refine WL.callF (vs := [.agg #[.string f.name, .int .i64 f.bind, .int .i64 f.params, .slice adb f.blocks.length capb], .agg #[.int .i64 b.params, .slice adi b.ins.length capi, .int .i64 b.fin.kind, .int .i64 b.fin.a, .int .i64 b.fin.to, .slice adp b.fin.args.length capp, .int .i64 b.fin.els, .slice adq b.fin.elses.length capq]]) Try.func57 (by kernel_rfl) rfl rfl rfl (xblock_ret f _ b _ (ro := ro) (fun b hb => (hS.snap b hb).1) (hx.keep hS.alike) (hb.keep hS.alike) hok) ?_
 rintro v w3 ⟨rfl, hbl⟩
 replace hS := hS.grow hbl
 refine WL.not rfl rfl rfl (WL.assign rfl rfl rfl (WL.nil (N.seq ?_)))
 refine Fin.ret1 rfl (v := .bool (!(block5 f b))) rfl ?_
 exact ⟨rfl, hS.below⟩

theorem xbix_ret (f : DFunc) (adb : Option Addr) (capb : Nat) (bf : Nat) {w : World} {ro : Nat → Prop} (hro : ∀ b, ro b → b < w.heap.size) (hx : FuncC ro w [.string f.name, .int .i64 f.bind, .int .i64 f.params, .slice adb f.blocks.length capb] f) (hbf : ro bf) (hcf : CellsAt w bf 0 [.string f.name, .int .i64 f.bind, .int .i64 f.params, .slice adb f.blocks.length capb]) (hok : okFunc f) : Ret Try.prog 63 #[.slice adb f.blocks.length capb, .func (.func 56) #[] #[.pointer (some ⟨bf, 0, none⟩)]] w fun v w' => ∃ z : Int, v = .int .i64 z ∧ (0 ≤ z ↔ f.blocks.all (block5 f) = false) ∧ Below w.heap.size w w' := by
 have hbkd : Elems ro w 8 (BlockC ro w) adb f.blocks := by obtain ⟨sb, e, hblx, _, _, _⟩ := id hx; cases e; obtain ⟨_, _, e2, _, _, _, h⟩ := hblx; cases e2; exact h
 have hbkm : f.blocks.length ≤ 9223372036854775807 := by obtain ⟨sb, e, hblx, _, _, _⟩ := id hx; cases e; obtain ⟨_, _, e2, h1, h2, _, _⟩ := hblx; cases e2; unfold maxLen at h2; omega
 refine Ret.enter (P := Try.prog) (n := 19) (args := [.slice adb f.blocks.length capb, .func (.func 56) #[] #[.pointer (some ⟨bf, 0, none⟩)]]) (σ := [(0, .slice adb f.blocks.length capb), (1, .func (.func 56) #[] #[.pointer (some ⟨bf, 0, none⟩)])]) Try.func63 rfl rfl rfl rfl ?_
 have hS := St.start (ro := ro) hro
 refine W.seq (W.region (WL.assign rfl rfl rfl (WL.nil (N.seq (W.seq (W.seq (W.region (WL.move rfl rfl rfl (WL.lenSlice Try.underlying22 rfl rfl rfl ?_)))))))))
 refine WL.move rfl rfl rfl (WL.nil (N.seq (W.block ?_)))
 refine W.loop (α := Nat) (fun (k : Nat) => [(0, .slice adb f.blocks.length capb), (1, .func (.func 56) #[] #[.pointer (some ⟨bf, 0, none⟩)]), (7, .int .i64 (f.blocks.length : Int)), (8, .int .i64 (k : Int))]) (fun (k : Nat) u => St w w u ro [] [] ∧ k ≤ f.blocks.length ∧ (f.blocks.take k).all (block5 f) = true) (fun (k : Nat) => f.blocks.length - k) 0 ⟨rfl, rfl, rfl, rfl, trivial⟩ ⟨hS, Nat.zero_le _, by simp⟩ ?_
 clear hS
 rintro k w1 ⟨hS, hk, htk⟩
 refine W.seq (W.region (WL.bin rfl rfl rfl rfl rfl (WL.nil (N.seq (W.seq ?_)))))
 refine W.cond rfl (fun hc2 => ?_) (fun hc2 => ?_)
 ·
  have hc2p : (k : Int) < (f.blocks.length : Int) := by simpa using hc2
  refine W.skip (N.seq (W.seq (W.block (W.seq (W.region (WL.move rfl rfl rfl (WL.assign rfl rfl rfl (WL.nil (N.seq ?_)))))))))
  refine W.seq (W.region (WL.move rfl rfl rfl (WL.move rfl rfl rfl (WL.move rfl rfl rfl ?_))))
  have hj3 : k < f.blocks.length := by omega
  obtain ⟨x3, hx3⟩ : ∃ zz, f.blocks[k]? = some zz := ⟨_, List.getElem?_eq_getElem hj3⟩
  obtain ⟨b3, o3, cs3, hE3, hr3, hl3, hc3, hQ3⟩ := hbkd k _ hx3
  obtain ⟨si3, tsx3, rfl, hin3, hfin3, hpar3⟩ := id hQ3
  obtain ⟨adi3, capi3, rfl, hin3a, hin3b, hin3c, hin3d⟩ := id hin3
  have hin3m : x3.ins.length ≤ 9223372036854775807 := by have h1 := hin3a; have h2 := hin3b; unfold maxLen at h2; omega
  obtain ⟨sp3, sq3, rfl, ht13, ht23, htk3, hta3, htt3, hte3⟩ := id hfin3
  obtain ⟨adp3, capp3, rfl, htp3a, htp3b, htp3c, htp3d⟩ := id ht13
  have htp3m : x3.fin.args.length ≤ 9223372036854775807 := by have h1 := htp3a; have h2 := htp3b; unfold maxLen at h2; omega
  obtain ⟨adq3, capq3, rfl, htq3a, htq3b, htq3c, htq3d⟩ := id ht23
  have htq3m : x3.fin.elses.length ≤ 9223372036854775807 := by have h1 := htq3a; have h2 := htq3b; unfold maxLen at h2; omega
  refine WL.indexAddrE (j := k) Try.underlying22 isz_32 rfl rfl rfl rfl hj3 hE3 (WL.loadN (cs := [.int .i64 x3.params, .slice adi3 x3.ins.length capi3, .int .i64 x3.fin.kind, .int .i64 x3.fin.a, .int .i64 x3.fin.to, .slice adp3 x3.fin.args.length capp3, .int .i64 x3.fin.els, .slice adq3 x3.fin.elses.length capq3]) agg_32 rfl rfl rfl rfl (hS.roCells hr3 hc3) ?_)
  refine WL.callV (vs := [.agg #[.int .i64 x3.params, .slice adi3 x3.ins.length capi3, .int .i64 x3.fin.kind, .int .i64 x3.fin.a, .int .i64 x3.fin.to, .slice adp3 x3.fin.args.length capp3, .int .i64 x3.fin.els, .slice adq3 x3.fin.elses.length capq3]]) (cs := #[.pointer (some ⟨bf, 0, none⟩)]) Try.func56 (by kernel_rfl) rfl rfl rfl rfl (xf1_ret f _ bf (ro := ro) (fun b hb => (hS.snap b hb).1) (hx.keep hS.alike) hbf (hcf.keep (hS.snap _ hbf).2) x3 _ (hQ3.keep hS.alike) (hok.1 _ (List.mem_of_getElem? hx3))) ?_
  rintro v w4 ⟨rfl, hbl⟩
  replace hS := hS.grow hbl
  refine WL.nil (N.seq ?_)
  refine W.cond rfl (fun hc5 => ?_) (fun hc5 => ?_)
  ·
   refine W.seq (W.region (WL.move rfl rfl rfl (WL.assign rfl rfl rfl (WL.nil (N.seq ?_)))))
   refine Fin.ret1 rfl (v := .int .i64 (k : Int)) rfl ?_
   have hn : f.blocks.all (block5 f) = false := by rw [List.all_eq_false]; exact ⟨x3, List.mem_of_getElem? hx3, by simpa using hc5⟩
   exact ⟨_, rfl, by rw [hn]; simp, hS.below⟩
  refine W.skip (N.blk (N.seq (W.region ?_)))
  refine WL.add (c := (k : Int) + 1) rfl rfl rfl rfl (rfl) (by omega) ?_
  refine WL.move rfl rfl rfl (WL.nil ?_)
  have htk2 : (f.blocks.take (k + 1)).all (block5 f) = true := by rw [take_next hx3, List.all_append, htk]; simpa using hc5
  exact N.loop (k + 1) ⟨rfl, rfl, rfl, rfl, trivial⟩ ⟨hS, by omega, htk2⟩ (by first | omega | (simp only; omega))
 have hc2p : ¬ ((k : Int) < (f.blocks.length : Int)) := by simpa using hc2
 refine W.exit (X.seq (X.loop (X.blk (N.seq (W.seq (W.region (WL.assign rfl rfl rfl (WL.nil (N.seq ?_)))))))))
 refine Fin.ret1 rfl (v := .int .i64 (-1)) rfl ?_
 have hke : k = f.blocks.length := by omega
 rw [hke, List.take_length] at htk
 exact ⟨-1, rfl, by rw [htk]; decide, hS.below⟩

theorem xbco_ret (f : DFunc) (adb : Option Addr) (capb : Nat) (bf : Nat) {w : World} {ro : Nat → Prop} (hro : ∀ b, ro b → b < w.heap.size) (hx : FuncC ro w [.string f.name, .int .i64 f.bind, .int .i64 f.params, .slice adb f.blocks.length capb] f) (hbf : ro bf) (hcf : CellsAt w bf 0 [.string f.name, .int .i64 f.bind, .int .i64 f.params, .slice adb f.blocks.length capb]) (hok : okFunc f) : Ret Try.prog 55 #[.slice adb f.blocks.length capb, .func (.func 56) #[] #[.pointer (some ⟨bf, 0, none⟩)]] w fun v w' => v = .bool (!f.blocks.all (block5 f)) ∧ Below w.heap.size w w' := by
 have hbkd : Elems ro w 8 (BlockC ro w) adb f.blocks := by obtain ⟨sb, e, hblx, _, _, _⟩ := id hx; cases e; obtain ⟨_, _, e2, _, _, _, h⟩ := hblx; cases e2; exact h
 have hbkm : f.blocks.length ≤ 9223372036854775807 := by obtain ⟨sb, e, hblx, _, _, _⟩ := id hx; cases e; obtain ⟨_, _, e2, h1, h2, _, _⟩ := hblx; cases e2; unfold maxLen at h2; omega
 refine Ret.enter (P := Try.prog) (n := 9) (args := [.slice adb f.blocks.length capb, .func (.func 56) #[] #[.pointer (some ⟨bf, 0, none⟩)]]) (σ := [(0, .slice adb f.blocks.length capb), (1, .func (.func 56) #[] #[.pointer (some ⟨bf, 0, none⟩)])]) Try.func55 rfl rfl rfl rfl ?_
 have hS := St.start (ro := ro) hro
 refine W.seq (W.region (WL.assign rfl rfl rfl (WL.nil (N.seq (W.seq (W.region (WL.move rfl rfl rfl (WL.move rfl rfl rfl ?_))))))))
 refine WL.callF (vs := [.slice adb f.blocks.length capb, .func (.func 56) #[] #[.pointer (some ⟨bf, 0, none⟩)]]) Try.func63 (by kernel_rfl) rfl rfl rfl (xbix_ret f adb capb bf (ro := ro) (fun b hb => (hS.snap b hb).1) (hx.keep hS.alike) hbf (hcf.keep (hS.snap _ hbf).2) hok) ?_
 rintro v w1 ⟨z, rfl, hz, hbl⟩
 replace hS := hS.grow hbl
 refine WL.bin rfl rfl rfl rfl rfl (WL.assign rfl rfl rfl (WL.nil (N.seq ?_)))
 refine Fin.ret1 rfl (v := .bool (decide (0 ≤ z))) rfl ?_
 have hbz := hS.below
 clear hS
 refine ⟨?_, hbz⟩
 congr 1
 rw [Bool.eq_iff_iff]
 simpa using hz

theorem xfunc_ret (f : DFunc) (cf : List Value) {w : World} {ro : Nat → Prop} (hro : ∀ b, ro b → b < w.heap.size) (hx : FuncC ro w cf f) (hok : okFunc f) : Ret Try.prog 39 #[.agg cf.toArray] w fun v w' => v = .bool (func5 f) ∧ Below w.heap.size w w' := by
 obtain ⟨sbF, rfl, hblF, hnmF, hbdF, hprF⟩ := id hx
 obtain ⟨adbF, capbF, rfl, hbkFa, hbkFb, hbkFc, hbkFd⟩ := id hblF
 have hbkFm : f.blocks.length ≤ 9223372036854775807 := by have h1 := hbkFa; have h2 := hbkFb; unfold maxLen at h2; omega
 refine Ret.enter (P := Try.prog) (n := 55) (args := [.agg #[.string f.name, .int .i64 f.bind, .int .i64 f.params, .slice adbF f.blocks.length capbF]]) (σ := [(0, .agg #[.string f.name, .int .i64 f.bind, .int .i64 f.params, .slice adbF f.blocks.length capbF])]) Try.func39 rfl rfl rfl rfl ?_
 have hS := St.start (ro := ro) hro
 refine W.seq (W.region ?_)
 refine WL.box (v := .agg #[.string f.name, .int .i64 f.bind, .int .i64 f.params, .slice adbF f.blocks.length capbF]) (cs := [.string f.name, .int .i64 f.bind, .int .i64 f.params, .slice adbF f.blocks.length capbF]) rfl rfl rfl rfl hS ?_
 clear hS; intro w2 b1 hb_b1 hS
 refine WL.assign rfl rfl rfl (WL.nil (N.seq (W.seq (W.seq (W.region (WL.fieldAddr fo_24_0 rfl rfl rfl (WL.load1 (v := .string f.name) one_9 rfl rfl rfl (hS.cell 0 rfl rfl) ?_)))))))
 refine WL.callF (vs := [.string f.name]) Try.func54 (by kernel_rfl) rfl rfl rfl (xname_ret f.name hnmF (ro := ro) (fun b hb => (hS.snap b hb).1)) ?_
 rintro v w3 ⟨rfl, hbl⟩
 replace hS := hS.grow hbl
 obtain ⟨un, hun⟩ : ∃ u, u = name5 f.name := ⟨_, rfl⟩
 rw [← hun]
 refine WL.not rfl rfl rfl (WL.move rfl rfl rfl ?_)
 cases hg4 : (!un)
 ·
  refine WL.fieldAddr fo_24_1 rfl rfl rfl (WL.load1 (v := .int .i64 f.bind) one_3 rfl rfl rfl (hS.cell 0 rfl rfl) (WL.bin rfl rfl rfl rfl rfl (WL.pick (v := .bool (decide (f.bind < 1))) rfl rfl rfl rfl rfl rfl (WL.move rfl rfl rfl ?_))))
  cases hg5 : (decide (f.bind < 1))
  ·
   have hg5p : ¬ (f.bind < 1) := by simpa using hg5
   refine WL.fieldAddr fo_24_1 rfl rfl rfl (WL.load1 (v := .int .i64 f.bind) one_3 rfl rfl rfl (hS.cell 0 rfl rfl) (WL.bin rfl rfl rfl rfl rfl (WL.pick (v := .bool (decide (3 < f.bind))) rfl rfl rfl rfl rfl rfl (WL.move rfl rfl rfl ?_))))
   cases hg6 : (decide (3 < f.bind))
   ·
    have hg6p : ¬ (3 < f.bind) := by simpa using hg6
    refine WL.fieldAddr fo_24_2 rfl rfl rfl (WL.load1 (v := .int .i64 f.params) one_3 rfl rfl rfl (hS.cell 0 rfl rfl) (WL.bin rfl rfl rfl rfl rfl (WL.pick (v := .bool (decide (f.params < 0))) rfl rfl rfl rfl rfl rfl (WL.move rfl rfl rfl ?_))))
    cases hg7 : (decide (f.params < 0))
    ·
     have hg7p : ¬ (f.params < 0) := by simpa using hg7
     refine WL.fieldAddr fo_24_2 rfl rfl rfl (WL.load1 (v := .int .i64 f.params) one_3 rfl rfl rfl (hS.cell 0 rfl rfl) (WL.bin rfl rfl rfl rfl rfl (WL.pick (v := .bool (decide (6 < f.params))) rfl rfl rfl rfl rfl rfl (WL.move rfl rfl rfl ?_))))
     cases hg8 : (decide (6 < f.params))
     ·
      have hg8p : ¬ (6 < f.params) := by simpa using hg8
      refine WL.fieldAddr fo_24_3 rfl rfl rfl (WL.load1 (v := .slice adbF f.blocks.length capbF) one_22 rfl rfl rfl (hS.cell 0 rfl rfl) (WL.lenSlice Try.underlying22 rfl rfl rfl (WL.bin rfl rfl rfl rfl rfl (WL.pick (v := .bool (decide (16 < (f.blocks.length : Int)))) rfl rfl rfl rfl rfl rfl (WL.nil (N.seq ?_))))))
      refine W.cond rfl (fun hc9 => ?_) (fun hc9 => ?_)
      ·
       have hc9p : 16 < (f.blocks.length : Int) := by simpa using hc9
       refine W.seq (W.region (WL.assign rfl rfl rfl (WL.nil (N.seq ?_))))
       refine Fin.ret1 rfl (v := .bool false) rfl ?_
       have hbz := hS.below
       clear hS
       refine ⟨?_, hbz⟩
       congr 1
       rw [func5, if_pos (by clear hx hblF; rw [← hun]; first | omega | (simp_all; done) | (rintro (h | h | h | h | h | h) <;> first | omega | (simp_all; done)))]
      have hc9p : ¬ (16 < (f.blocks.length : Int)) := by simpa using hc9
      refine W.skip (N.seq (W.seq (W.seq (W.region (WL.fieldAddr fo_24_3 rfl rfl rfl (WL.load1 (v := .slice adbF f.blocks.length capbF) one_22 rfl rfl rfl (hS.cell 0 rfl rfl) (WL.lenSlice Try.underlying22 rfl rfl rfl (WL.bin rfl rfl rfl rfl rfl (WL.nil ?_)))))))))
      refine N.seq ?_
      refine W.cond rfl (fun hc10 => ?_) (fun hc10 => ?_)
      ·
       have hc10p : (f.blocks.length : Int) = 0 := by simpa using hc10
       refine W.seq (W.region (WL.fieldAddr fo_24_1 rfl rfl rfl (WL.load1 (v := .int .i64 f.bind) one_3 rfl rfl rfl (hS.cell 0 rfl rfl) (WL.bin rfl rfl rfl rfl rfl (WL.assign rfl rfl rfl (WL.nil (N.seq ?_)))))))
       refine Fin.ret1 rfl (v := .bool (!decide (f.bind = 1))) rfl ?_
       have hbz := hS.below
       clear hS
       refine ⟨?_, hbz⟩
       congr 1
       have he : f.blocks = [] := List.eq_nil_of_length_eq_zero (by omega)
       rw [func5, if_neg (by clear hx hblF; rw [← hun]; first | omega | (simp_all; done) | (rintro (h | h | h | h | h | h) <;> first | omega | (simp_all; done))), he]
       clear hx hblF; first | (simp_all; done) | (rw [Bool.eq_iff_iff]; simp only [decide_eq_true_eq, Bool.not_eq_true', decide_eq_false_iff_not]; omega)
      have hc10p : ¬ ((f.blocks.length : Int) = 0) := by simpa using hc10
      refine W.skip (N.seq (W.seq ?_))
      have hj11 : 0 < f.blocks.length := by omega
      obtain ⟨x11, hx11⟩ : ∃ zz, f.blocks[0]? = some zz := ⟨_, List.getElem?_eq_getElem hj11⟩
      obtain ⟨b11, o11, cs11, hE11, hr11, hl11, hc11, hQ11⟩ := hbkFd 0 _ hx11
      obtain ⟨si11, tsx11, rfl, hin11, hfin11, hpar11⟩ := id hQ11
      obtain ⟨adi11, capi11, rfl, hin11a, hin11b, hin11c, hin11d⟩ := id hin11
      have hin11m : x11.ins.length ≤ 9223372036854775807 := by have h1 := hin11a; have h2 := hin11b; unfold maxLen at h2; omega
      obtain ⟨sp11, sq11, rfl, ht111, ht211, htk11, hta11, htt11, hte11⟩ := id hfin11
      obtain ⟨adp11, capp11, rfl, htp11a, htp11b, htp11c, htp11d⟩ := id ht111
      have htp11m : x11.fin.args.length ≤ 9223372036854775807 := by have h1 := htp11a; have h2 := htp11b; unfold maxLen at h2; omega
      obtain ⟨adq11, capq11, rfl, htq11a, htq11b, htq11c, htq11d⟩ := id ht211
      have htq11m : x11.fin.elses.length ≤ 9223372036854775807 := by have h1 := htq11a; have h2 := htq11b; unfold maxLen at h2; omega
      cases hg12 : (decide (x11.params = f.params))
      ·
       have hg12p : ¬ (x11.params = f.params) := by simpa using hg12
       refine W.drawL (by kernel_rfl) 15 ((.q (.pointer (some ⟨b1, 3, none⟩))) :: (.q (.slice adbF f.blocks.length capbF)) :: (.q (.pointer (some ⟨b11, o11 + 0 * 8, none⟩))) :: (.q (.pointer (some ⟨b11, o11 + 0 * 8, none⟩))) :: (.q (.int .i64 x11.params)) :: (.q (.pointer (some ⟨b1, 2, none⟩))) :: (.q (.int .i64 f.params)) :: (.q (.bool false)) :: (.q (.bool false)) :: (.q undef) :: (.q undef) :: (.q undef) :: (.q undef) :: (.q undef) :: (.q (.bool false)) :: []) (by kernel_rfl) (by kernel_rfl) [(1, .pointer (some ⟨b1, 0, none⟩)), (2, .bool false)] ⟨rfl, rfl, trivial⟩ (by kernel_rfl) hS ?_ ?_
       ·
        refine And.intro (fun β w hS => ?_) ?_
        ·
         refine WL.sub (σ' := [(1, .pointer (some ⟨b1, 0, none⟩))]) ⟨rfl, trivial⟩ ?_
         refine WL.fieldAddr fo_24_3 rfl rfl rfl ?_
         exact WL.nil (N.cut () ⟨rfl, trivial⟩ (Below.refl _ _))
        refine And.intro (fun β w hS => ?_) ?_
        ·
         refine WL.sub (σ' := [(40, .pointer (some ⟨b1, 3, none⟩))]) ⟨rfl, trivial⟩ ?_
         refine WL.load1 (v := .slice adbF f.blocks.length capbF) one_22 rfl rfl rfl (hS.cell 0 rfl rfl) ?_
         exact WL.nil (N.cut () ⟨rfl, trivial⟩ (Below.refl _ _))
        refine And.intro (fun β w hS => ?_) ?_
        ·
         refine WL.sub (σ' := [(41, .slice adbF f.blocks.length capbF)]) ⟨rfl, trivial⟩ ?_
         refine WL.indexAddrE (j := 0) Try.underlying22 isz_32 rfl rfl rfl rfl hj11 hE11 ?_
         exact WL.nil (N.cut () ⟨rfl, trivial⟩ (Below.refl _ _))
        refine And.intro (fun β w hS => ?_) ?_
        ·
         refine WL.sub (σ' := [(42, .pointer (some ⟨b11, o11 + 0 * 8, none⟩))]) ⟨rfl, trivial⟩ ?_
         refine WL.fieldAddr fo_32_0 rfl rfl rfl ?_
         exact WL.nil (N.cut () ⟨rfl, trivial⟩ (Below.refl _ _))
        refine And.intro (fun β w hS => ?_) ?_
        ·
         refine WL.sub (σ' := [(43, .pointer (some ⟨b11, o11 + 0 * 8, none⟩))]) ⟨rfl, trivial⟩ ?_
         refine WL.load1 (v := .int .i64 x11.params) one_3 rfl rfl rfl (hS.roCells hr11 hc11 0 _ rfl) ?_
         exact WL.nil (N.cut () ⟨rfl, trivial⟩ (Below.refl _ _))
        refine And.intro (fun β w hS => ?_) ?_
        ·
         refine WL.sub (σ' := [(1, .pointer (some ⟨b1, 0, none⟩))]) ⟨rfl, trivial⟩ ?_
         refine WL.fieldAddr fo_24_2 rfl rfl rfl ?_
         exact WL.nil (N.cut () ⟨rfl, trivial⟩ (Below.refl _ _))
        refine And.intro (fun β w hS => ?_) ?_
        ·
         refine WL.sub (σ' := [(45, .pointer (some ⟨b1, 2, none⟩))]) ⟨rfl, trivial⟩ ?_
         refine WL.load1 (v := .int .i64 f.params) one_3 rfl rfl rfl (hS.cell 0 rfl rfl) ?_
         exact WL.nil (N.cut () ⟨rfl, trivial⟩ (Below.refl _ _))
        refine And.intro (fun β w hS => ?_) ?_
        ·
         refine WL.sub (σ' := [(44, .int .i64 x11.params), (46, .int .i64 f.params)]) ⟨rfl, rfl, trivial⟩ ?_
         refine WL.bin rfl rfl rfl rfl rfl ?_
         refine WL.set 47 (v' := .bool false) rfl (by rw [hg12]) ?_
         exact WL.nil (N.cut () ⟨rfl, trivial⟩ (Below.refl _ _))
        refine And.intro (fun β w hS => ?_) ?_
        ·
         refine WL.sub (σ' := [(47, .bool false)]) ⟨rfl, trivial⟩ ?_
         refine WL.move rfl rfl rfl ?_
         exact WL.nil (N.cut () ⟨rfl, trivial⟩ (Below.refl _ _))
        refine And.intro (fun β w hS => ?_) ?_
        ·
         refine WL.sub (σ' := [(1, .pointer (some ⟨b1, 0, none⟩)), (48, .bool false)]) ⟨rfl, rfl, trivial⟩ ?_
         refine WL.skp rfl rfl ?_
         exact WL.nil (N.cut () ⟨rfl, trivial⟩ (Below.refl _ _))
        refine And.intro (fun β w hS => ?_) ?_
        ·
         refine WL.sub (σ' := [(48, .bool false), (49, undef)]) ⟨rfl, rfl, trivial⟩ ?_
         refine WL.skp rfl rfl ?_
         exact WL.nil (N.cut () ⟨rfl, trivial⟩ (Below.refl _ _))
        refine And.intro (fun β w hS => ?_) ?_
        ·
         refine WL.sub (σ' := [(1, .pointer (some ⟨b1, 0, none⟩)), (48, .bool false)]) ⟨rfl, rfl, trivial⟩ ?_
         refine WL.skp rfl rfl ?_
         exact WL.nil (N.cut () ⟨rfl, trivial⟩ (Below.refl _ _))
        refine And.intro (fun β w hS => ?_) ?_
        ·
         refine WL.sub (σ' := [(48, .bool false), (50, undef), (51, undef)]) ⟨rfl, rfl, rfl, trivial⟩ ?_
         refine WL.skp rfl rfl ?_
         exact WL.nil (N.cut () ⟨rfl, trivial⟩ (Below.refl _ _))
        refine And.intro (fun β w hS => ?_) ?_
        ·
         refine WL.sub (σ' := [(48, .bool false), (52, undef)]) ⟨rfl, rfl, trivial⟩ ?_
         refine WL.skp rfl rfl ?_
         exact WL.nil (N.cut () ⟨rfl, trivial⟩ (Below.refl _ _))
        refine And.intro (fun β w hS => ?_) ?_
        ·
         refine WL.sub (σ' := [(48, .bool false), (53, undef)]) ⟨rfl, rfl, trivial⟩ ?_
         refine WL.pick (v := .bool false) rfl rfl rfl rfl rfl rfl ?_
         exact WL.nil (N.cut () ⟨rfl, trivial⟩ (Below.refl _ _))
        trivial
       clear hS; intro w13 β hS
       refine WL.sub (σ' := [(2, .bool false), (54, .bool false)]) ⟨rfl, rfl, trivial⟩ ?_
       refine WL.assign rfl rfl rfl (WL.nil (N.seq ?_))
       refine Fin.ret1 rfl (v := .bool false) rfl ?_
       have hbz := hS.below
       clear hS
       refine ⟨?_, hbz⟩
       congr 1
       obtain ⟨b0, r0, he⟩ : ∃ b r, f.blocks = b :: r := by
        cases e : f.blocks with
        | nil => rw [e] at hx11; simp at hx11
        | cons b r => exact ⟨b, r, rfl⟩
       have hb0 : b0 = x11 := by rw [he] at hx11; simpa using hx11
       have hf : func5 f = (decide (b0.params = f.params) && f.blocks.all (block5 f)) := by
        rw [func5, if_neg (by clear hx hblF; rw [← hun]; first | omega | (simp_all; done) | (rintro (h | h | h | h | h | h) <;> first | omega | (simp_all; done)))]
        split
        ·
         rename_i e; rw [he] at e; cases e
        rename_i e; rw [he] at e; cases e; rfl
       rw [hf, hb0]
       first | (rw [decide_eq_false (show ¬ x11.params = f.params by omega)]; rfl) | (rw [decide_eq_true (show x11.params = f.params by omega), Bool.true_and]; simp; done)
      have hg12p : x11.params = f.params := by simpa using hg12
      refine W.drawL (by kernel_rfl) 15 ((.q (.pointer (some ⟨b1, 3, none⟩))) :: (.q (.slice adbF f.blocks.length capbF)) :: (.q (.pointer (some ⟨b11, o11 + 0 * 8, none⟩))) :: (.q (.pointer (some ⟨b11, o11 + 0 * 8, none⟩))) :: (.q (.int .i64 x11.params)) :: (.q (.pointer (some ⟨b1, 2, none⟩))) :: (.q (.int .i64 f.params)) :: (.q (.bool true)) :: (.q (.bool true)) :: (.q (.pointer (some ⟨b1, 3, none⟩))) :: (.q (.slice adbF f.blocks.length capbF)) :: (.q (.func (.func 56) #[] #[.pointer (some ⟨b1, 0, none⟩)])) :: (.q (.bool (!f.blocks.all (block5 f)))) :: (.q (.bool (!(!f.blocks.all (block5 f))))) :: (.q (.bool (!(!f.blocks.all (block5 f))))) :: []) (by kernel_rfl) (by kernel_rfl) [(1, .pointer (some ⟨b1, 0, none⟩)), (2, .bool false)] ⟨rfl, rfl, trivial⟩ (by kernel_rfl) hS ?_ ?_
      ·
       refine And.intro (fun β w hS => ?_) ?_
       ·
        refine WL.sub (σ' := [(1, .pointer (some ⟨b1, 0, none⟩))]) ⟨rfl, trivial⟩ ?_
        refine WL.fieldAddr fo_24_3 rfl rfl rfl ?_
        exact WL.nil (N.cut () ⟨rfl, trivial⟩ (Below.refl _ _))
       refine And.intro (fun β w hS => ?_) ?_
       ·
        refine WL.sub (σ' := [(40, .pointer (some ⟨b1, 3, none⟩))]) ⟨rfl, trivial⟩ ?_
        refine WL.load1 (v := .slice adbF f.blocks.length capbF) one_22 rfl rfl rfl (hS.cell 0 rfl rfl) ?_
        exact WL.nil (N.cut () ⟨rfl, trivial⟩ (Below.refl _ _))
       refine And.intro (fun β w hS => ?_) ?_
       ·
        refine WL.sub (σ' := [(41, .slice adbF f.blocks.length capbF)]) ⟨rfl, trivial⟩ ?_
        refine WL.indexAddrE (j := 0) Try.underlying22 isz_32 rfl rfl rfl rfl hj11 hE11 ?_
        exact WL.nil (N.cut () ⟨rfl, trivial⟩ (Below.refl _ _))
       refine And.intro (fun β w hS => ?_) ?_
       ·
        refine WL.sub (σ' := [(42, .pointer (some ⟨b11, o11 + 0 * 8, none⟩))]) ⟨rfl, trivial⟩ ?_
        refine WL.fieldAddr fo_32_0 rfl rfl rfl ?_
        exact WL.nil (N.cut () ⟨rfl, trivial⟩ (Below.refl _ _))
       refine And.intro (fun β w hS => ?_) ?_
       ·
        refine WL.sub (σ' := [(43, .pointer (some ⟨b11, o11 + 0 * 8, none⟩))]) ⟨rfl, trivial⟩ ?_
        refine WL.load1 (v := .int .i64 x11.params) one_3 rfl rfl rfl (hS.roCells hr11 hc11 0 _ rfl) ?_
        exact WL.nil (N.cut () ⟨rfl, trivial⟩ (Below.refl _ _))
       refine And.intro (fun β w hS => ?_) ?_
       ·
        refine WL.sub (σ' := [(1, .pointer (some ⟨b1, 0, none⟩))]) ⟨rfl, trivial⟩ ?_
        refine WL.fieldAddr fo_24_2 rfl rfl rfl ?_
        exact WL.nil (N.cut () ⟨rfl, trivial⟩ (Below.refl _ _))
       refine And.intro (fun β w hS => ?_) ?_
       ·
        refine WL.sub (σ' := [(45, .pointer (some ⟨b1, 2, none⟩))]) ⟨rfl, trivial⟩ ?_
        refine WL.load1 (v := .int .i64 f.params) one_3 rfl rfl rfl (hS.cell 0 rfl rfl) ?_
        exact WL.nil (N.cut () ⟨rfl, trivial⟩ (Below.refl _ _))
       refine And.intro (fun β w hS => ?_) ?_
       ·
        refine WL.sub (σ' := [(44, .int .i64 x11.params), (46, .int .i64 f.params)]) ⟨rfl, rfl, trivial⟩ ?_
        refine WL.bin rfl rfl rfl rfl rfl ?_
        refine WL.set 47 (v' := .bool true) rfl (by rw [hg12]) ?_
        exact WL.nil (N.cut () ⟨rfl, trivial⟩ (Below.refl _ _))
       refine And.intro (fun β w hS => ?_) ?_
       ·
        refine WL.sub (σ' := [(47, .bool true)]) ⟨rfl, trivial⟩ ?_
        refine WL.move rfl rfl rfl ?_
        exact WL.nil (N.cut () ⟨rfl, trivial⟩ (Below.refl _ _))
       refine And.intro (fun β w hS => ?_) ?_
       ·
        refine WL.sub (σ' := [(1, .pointer (some ⟨b1, 0, none⟩)), (48, .bool true)]) ⟨rfl, rfl, trivial⟩ ?_
        refine WL.fieldAddr fo_24_3 rfl rfl rfl ?_
        exact WL.nil (N.cut () ⟨rfl, trivial⟩ (Below.refl _ _))
       refine And.intro (fun β w hS => ?_) ?_
       ·
        refine WL.sub (σ' := [(48, .bool true), (49, .pointer (some ⟨b1, 3, none⟩))]) ⟨rfl, rfl, trivial⟩ ?_
        refine WL.load1 (v := .slice adbF f.blocks.length capbF) one_22 rfl rfl rfl (hS.cell 0 rfl rfl) ?_
        exact WL.nil (N.cut () ⟨rfl, trivial⟩ (Below.refl _ _))
       refine And.intro (fun β w hS => ?_) ?_
       ·
        refine WL.sub (σ' := [(1, .pointer (some ⟨b1, 0, none⟩)), (48, .bool true)]) ⟨rfl, rfl, trivial⟩ ?_
        refine WL.makeFunc (vs := #[.pointer (some ⟨b1, 0, none⟩)]) rfl rfl rfl ?_
        exact WL.nil (N.cut () ⟨rfl, trivial⟩ (Below.refl _ _))
       refine And.intro (fun β w hS => ?_) ?_
       ·
        refine WL.sub (σ' := [(48, .bool true), (50, .slice adbF f.blocks.length capbF), (51, .func (.func 56) #[] #[.pointer (some ⟨b1, 0, none⟩)])]) ⟨rfl, rfl, rfl, trivial⟩ ?_
        refine WL.callF (vs := [.slice adbF f.blocks.length capbF, .func (.func 56) #[] #[.pointer (some ⟨b1, 0, none⟩)]]) Try.func55 (by kernel_rfl) rfl rfl rfl (xbco_ret f adbF capbF b1 (ro := fun x => x < w.heap.size) (fun _ h => h) (hx.keep (fun b hb => hS.snap b hb)) (hS.keys b1 (by simp [keysOf])).2.1 (hS.cells 0 (m := 4) rfl rfl) hok) ?_
        rintro v w14 ⟨rfl, hbl⟩
        replace hS := hS.grow hbl
        exact WL.nil (N.cut () ⟨rfl, trivial⟩ hbl)
       refine And.intro (fun β w hS => ?_) ?_
       ·
        refine WL.sub (σ' := [(48, .bool true), (52, .bool (!f.blocks.all (block5 f)))]) ⟨rfl, rfl, trivial⟩ ?_
        refine WL.not rfl rfl rfl ?_
        exact WL.nil (N.cut () ⟨rfl, trivial⟩ (Below.refl _ _))
       refine And.intro (fun β w hS => ?_) ?_
       ·
        refine WL.sub (σ' := [(48, .bool true), (53, .bool (!(!f.blocks.all (block5 f))))]) ⟨rfl, rfl, trivial⟩ ?_
        refine WL.pick (v := .bool (!(!f.blocks.all (block5 f)))) rfl rfl rfl rfl rfl rfl ?_
        exact WL.nil (N.cut () ⟨rfl, trivial⟩ (Below.refl _ _))
       trivial
      clear hS; intro w15 β hS
      refine WL.sub (σ' := [(2, .bool false), (54, .bool (!(!f.blocks.all (block5 f))))]) ⟨rfl, rfl, trivial⟩ ?_
      refine WL.assign rfl rfl rfl (WL.nil (N.seq ?_))
      refine Fin.ret1 rfl (v := .bool (!(!f.blocks.all (block5 f)))) rfl ?_
      have hbz := hS.below
      clear hS
      refine ⟨?_, hbz⟩
      congr 1
      obtain ⟨b0, r0, he⟩ : ∃ b r, f.blocks = b :: r := by
       cases e : f.blocks with
       | nil => rw [e] at hx11; simp at hx11
       | cons b r => exact ⟨b, r, rfl⟩
      have hb0 : b0 = x11 := by rw [he] at hx11; simpa using hx11
      have hf : func5 f = (decide (b0.params = f.params) && f.blocks.all (block5 f)) := by
       rw [func5, if_neg (by clear hx hblF; rw [← hun]; first | omega | (simp_all; done) | (rintro (h | h | h | h | h | h) <;> first | omega | (simp_all; done)))]
       split
       ·
        rename_i e; rw [he] at e; cases e
       rename_i e; rw [he] at e; cases e; rfl
      rw [hf, hb0]
      first | (rw [decide_eq_false (show ¬ x11.params = f.params by omega)]; rfl) | (rw [decide_eq_true (show x11.params = f.params by omega), Bool.true_and]; simp; done)
     have hg8p : 6 < f.params := by simpa using hg8
     refine WL.skp rfl rfl (WL.skp rfl rfl (WL.skp rfl rfl (WL.skp rfl rfl (WL.pick (v := .bool true) rfl rfl rfl rfl rfl rfl (WL.nil (N.seq (W.condT rfl (W.seq (W.region ?_)))))))))
     refine WL.assign rfl rfl rfl (WL.nil (N.seq ?_))
     refine Fin.ret1 rfl (v := .bool false) rfl ?_
     have hbz := hS.below
     clear hS
     refine ⟨?_, hbz⟩
     congr 1
     rw [func5, if_pos (by clear hx hblF; rw [← hun]; first | omega | (simp_all; done) | (rintro (h | h | h | h | h | h) <;> first | omega | (simp_all; done)))]
    have hg7p : f.params < 0 := by simpa using hg7
    refine WL.skp rfl rfl (WL.skp rfl rfl (WL.skp rfl rfl (WL.pick (v := .bool true) rfl rfl rfl rfl rfl rfl (WL.move rfl rfl rfl (WL.skp rfl rfl (WL.skp rfl rfl (WL.skp rfl rfl (WL.skp rfl rfl (WL.pick (v := .bool true) rfl rfl rfl rfl rfl rfl ?_)))))))))
    refine WL.nil (N.seq (W.condT rfl (W.seq (W.region (WL.assign rfl rfl rfl (WL.nil (N.seq ?_)))))))
    refine Fin.ret1 rfl (v := .bool false) rfl ?_
    have hbz := hS.below
    clear hS
    refine ⟨?_, hbz⟩
    congr 1
    rw [func5, if_pos (by clear hx hblF; rw [← hun]; first | omega | (simp_all; done) | (rintro (h | h | h | h | h | h) <;> first | omega | (simp_all; done)))]
   have hg6p : 3 < f.bind := by simpa using hg6
   refine WL.skp rfl rfl (WL.skp rfl rfl (WL.skp rfl rfl (WL.pick (v := .bool true) rfl rfl rfl rfl rfl rfl (WL.move rfl rfl rfl (WL.skp rfl rfl (WL.skp rfl rfl (WL.skp rfl rfl (WL.pick (v := .bool true) rfl rfl rfl rfl rfl rfl (WL.move rfl rfl rfl ?_)))))))))
   refine WL.skp rfl rfl (WL.skp rfl rfl (WL.skp rfl rfl (WL.skp rfl rfl (WL.pick (v := .bool true) rfl rfl rfl rfl rfl rfl (WL.nil (N.seq (W.condT rfl (W.seq (W.region ?_)))))))))
   refine WL.assign rfl rfl rfl (WL.nil (N.seq ?_))
   refine Fin.ret1 rfl (v := .bool false) rfl ?_
   have hbz := hS.below
   clear hS
   refine ⟨?_, hbz⟩
   congr 1
   rw [func5, if_pos (by clear hx hblF; rw [← hun]; first | omega | (simp_all; done) | (rintro (h | h | h | h | h | h) <;> first | omega | (simp_all; done)))]
  have hg5p : f.bind < 1 := by simpa using hg5
  refine WL.skp rfl rfl (WL.skp rfl rfl (WL.skp rfl rfl (WL.pick (v := .bool true) rfl rfl rfl rfl rfl rfl (WL.move rfl rfl rfl (WL.skp rfl rfl (WL.skp rfl rfl (WL.skp rfl rfl (WL.pick (v := .bool true) rfl rfl rfl rfl rfl rfl (WL.move rfl rfl rfl ?_)))))))))
  refine WL.skp rfl rfl (WL.skp rfl rfl (WL.skp rfl rfl (WL.pick (v := .bool true) rfl rfl rfl rfl rfl rfl (WL.move rfl rfl rfl (WL.skp rfl rfl (WL.skp rfl rfl (WL.skp rfl rfl (WL.skp rfl rfl (WL.pick (v := .bool true) rfl rfl rfl rfl rfl rfl ?_)))))))))
  refine WL.nil (N.seq (W.condT rfl (W.seq (W.region (WL.assign rfl rfl rfl (WL.nil (N.seq ?_)))))))
  refine Fin.ret1 rfl (v := .bool false) rfl ?_
  have hbz := hS.below
  clear hS
  refine ⟨?_, hbz⟩
  congr 1
  rw [func5, if_pos (by clear hx hblF; rw [← hun]; first | omega | (simp_all; done) | (rintro (h | h | h | h | h | h) <;> first | omega | (simp_all; done)))]
 refine WL.skp rfl rfl (WL.skp rfl rfl (WL.skp rfl rfl (WL.pick (v := .bool true) rfl rfl rfl rfl rfl rfl (WL.move rfl rfl rfl (WL.skp rfl rfl (WL.skp rfl rfl (WL.skp rfl rfl (WL.pick (v := .bool true) rfl rfl rfl rfl rfl rfl (WL.move rfl rfl rfl ?_)))))))))
 refine WL.skp rfl rfl (WL.skp rfl rfl (WL.skp rfl rfl (WL.pick (v := .bool true) rfl rfl rfl rfl rfl rfl (WL.move rfl rfl rfl (WL.skp rfl rfl (WL.skp rfl rfl (WL.skp rfl rfl (WL.pick (v := .bool true) rfl rfl rfl rfl rfl rfl (WL.move rfl rfl rfl ?_)))))))))
 refine WL.skp rfl rfl (WL.skp rfl rfl (WL.skp rfl rfl (WL.skp rfl rfl (WL.pick (v := .bool true) rfl rfl rfl rfl rfl rfl (WL.nil (N.seq (W.condT rfl (W.seq (W.region ?_)))))))))
 refine WL.assign rfl rfl rfl (WL.nil (N.seq ?_))
 refine Fin.ret1 rfl (v := .bool false) rfl ?_
 have hbz := hS.below
 clear hS
 refine ⟨?_, hbz⟩
 congr 1
 rw [func5, if_pos (by clear hx hblF; rw [← hun]; first | omega | (simp_all; done) | (rintro (h | h | h | h | h | h) <;> first | omega | (simp_all; done)))]

end Go.Proofs.Ytdlcmhkfglckfaa
