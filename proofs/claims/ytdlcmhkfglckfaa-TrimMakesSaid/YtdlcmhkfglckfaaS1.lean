/-
  marlineref05.Same on two readings of the same data. No condition beyond those that each theorem states.
-/
import Derived.Test.YtdlcmhkfglckfaaV7
import Derived.Test.YtdlcmhkfglckfaaA16
namespace Go.Proofs.Ytdlcmhkfglckfaa
open Go.RowKit

theorem sints_ret (xs : List Int) (vx vy : Value) {w : World} {ro : Nat → Prop} (hro : ∀ b, ro b → b < w.heap.size) (hx : IntsV ro w vx xs) (hy : IntsV ro w vy xs) : Ret Try.prog 40 #[vx, vy] w fun v w' => v = .bool true ∧ Below w.heap.size w w' := by
 obtain ⟨ad, cap, rfl, haa, hab, hac, had⟩ := id hx
 have ham : xs.length ≤ 9223372036854775807 := by have h1 := haa; have h2 := hab; unfold maxLen at h2; omega
 obtain ⟨bd, cbp, rfl, hba, hbb, hbc, hbd⟩ := id hy
 have hbm : xs.length ≤ 9223372036854775807 := by have h1 := hba; have h2 := hbb; unfold maxLen at h2; omega
 refine Ret.enter (P := Try.prog) (n := 26) (args := [.slice ad xs.length cap, .slice bd xs.length cbp]) (σ := [(0, .slice ad xs.length cap), (1, .slice bd xs.length cbp)]) Try.func40 rfl rfl rfl rfl ?_
 have hS := St.start (ro := ro) hro
 refine W.seq (W.region (WL.assign rfl rfl rfl (WL.nil (N.seq (W.seq (W.seq (W.region (WL.move rfl rfl rfl (WL.lenSlice Try.underlying28 rfl rfl rfl ?_)))))))))
 refine WL.move rfl rfl rfl (WL.lenSlice Try.underlying28 rfl rfl rfl (WL.bin rfl rfl rfl rfl rfl ?_))
 refine WL.set 10 (v' := .bool false) rfl (by simp) ?_
 refine WL.nil (N.seq (W.condF rfl (W.skip (N.seq (W.seq (W.seq (W.region (WL.assign rfl rfl rfl (WL.nil ?_)))))))))
 refine N.seq (W.block ?_)
 refine W.loop (α := Nat) (fun (k : Nat) => [(0, .slice ad xs.length cap), (1, .slice bd xs.length cbp), (5, .int .i64 (k : Int))]) (fun (k : Nat) u => St w w u ro [] [] ∧ k ≤ xs.length) (fun (k : Nat) => xs.length - k) 0 ⟨rfl, rfl, rfl, trivial⟩ ⟨hS, Nat.zero_le _⟩ ?_
 clear hS
 rintro k w1 ⟨hS, hk⟩
 refine W.seq (W.seq (W.region (WL.move rfl rfl rfl (WL.move rfl rfl rfl (WL.lenSlice Try.underlying28 rfl rfl rfl (WL.bin rfl rfl rfl rfl rfl (WL.nil (N.seq ?_))))))))
 refine W.cond rfl (fun hc2 => ?_) (fun hc2 => ?_)
 ·
  have hc2p : (k : Int) < (xs.length : Int) := by simpa using hc2
  refine W.skip (N.seq (W.seq (W.block (W.seq ?_))))
  have hj3 : k < xs.length := by omega
  obtain ⟨x3, hx3⟩ : ∃ zz, xs[k]? = some zz := ⟨_, List.getElem?_eq_getElem hj3⟩
  obtain ⟨b3, o3, cs3, hE3, hr3, hl3, hc3, hQ3⟩ := had k _ hx3
  obtain ⟨rfl, hi3⟩ := hQ3
  have hj4 : k < xs.length := by omega
  obtain ⟨x4, hx4⟩ : ∃ zz, xs[k]? = some zz := ⟨_, List.getElem?_eq_getElem hj4⟩
  obtain ⟨b4, o4, cs4, hE4, hr4, hl4, hc4, hQ4⟩ := hbd k _ hx4
  obtain ⟨rfl, hi4⟩ := hQ4
  refine W.drawL (by kernel_rfl) 9 ((.q (.slice ad xs.length cap)) :: (.q (.int .i64 (k : Int))) :: (.q (.pointer (some ⟨b3, o3 + k * 1, none⟩))) :: (.q (.int .i64 x3)) :: (.q (.slice bd xs.length cbp)) :: (.q (.int .i64 (k : Int))) :: (.q (.pointer (some ⟨b4, o4 + k * 1, none⟩))) :: (.q (.int .i64 x4)) :: (.q (.bool false)) :: []) (by kernel_rfl) (by kernel_rfl) [(0, .slice ad xs.length cap), (1, .slice bd xs.length cbp), (5, .int .i64 (k : Int))] ⟨rfl, rfl, rfl, trivial⟩ (by kernel_rfl) hS ?_ ?_
  ·
   refine And.intro (fun β w hS => ?_) ?_
   ·
    refine WL.sub (σ' := [(0, .slice ad xs.length cap)]) ⟨rfl, trivial⟩ ?_
    refine WL.move rfl rfl rfl ?_
    exact WL.nil (N.cut () ⟨rfl, trivial⟩ (Below.refl _ _))
   refine And.intro (fun β w hS => ?_) ?_
   ·
    refine WL.sub (σ' := [(5, .int .i64 (k : Int))]) ⟨rfl, trivial⟩ ?_
    refine WL.move rfl rfl rfl ?_
    exact WL.nil (N.cut () ⟨rfl, trivial⟩ (Below.refl _ _))
   refine And.intro (fun β w hS => ?_) ?_
   ·
    refine WL.sub (σ' := [(17, .slice ad xs.length cap), (18, .int .i64 (k : Int))]) ⟨rfl, rfl, trivial⟩ ?_
    refine WL.indexAddrE (j := k) Try.underlying28 isz_3 rfl rfl rfl rfl hj3 hE3 ?_
    exact WL.nil (N.cut () ⟨rfl, trivial⟩ (Below.refl _ _))
   refine And.intro (fun β w hS => ?_) ?_
   ·
    refine WL.sub (σ' := [(19, .pointer (some ⟨b3, o3 + k * 1, none⟩))]) ⟨rfl, trivial⟩ ?_
    refine WL.load1 (v := .int .i64 x3) one_3 rfl rfl rfl (hS.roCells hr3 hc3 0 _ rfl) ?_
    exact WL.nil (N.cut () ⟨rfl, trivial⟩ (Below.refl _ _))
   refine And.intro (fun β w hS => ?_) ?_
   ·
    refine WL.sub (σ' := [(1, .slice bd xs.length cbp)]) ⟨rfl, trivial⟩ ?_
    refine WL.move rfl rfl rfl ?_
    exact WL.nil (N.cut () ⟨rfl, trivial⟩ (Below.refl _ _))
   refine And.intro (fun β w hS => ?_) ?_
   ·
    refine WL.sub (σ' := [(5, .int .i64 (k : Int))]) ⟨rfl, trivial⟩ ?_
    refine WL.move rfl rfl rfl ?_
    exact WL.nil (N.cut () ⟨rfl, trivial⟩ (Below.refl _ _))
   refine And.intro (fun β w hS => ?_) ?_
   ·
    refine WL.sub (σ' := [(21, .slice bd xs.length cbp), (22, .int .i64 (k : Int))]) ⟨rfl, rfl, trivial⟩ ?_
    refine WL.indexAddrE (j := k) Try.underlying28 isz_3 rfl rfl rfl rfl hj4 hE4 ?_
    exact WL.nil (N.cut () ⟨rfl, trivial⟩ (Below.refl _ _))
   refine And.intro (fun β w hS => ?_) ?_
   ·
    refine WL.sub (σ' := [(23, .pointer (some ⟨b4, o4 + k * 1, none⟩))]) ⟨rfl, trivial⟩ ?_
    refine WL.load1 (v := .int .i64 x4) one_3 rfl rfl rfl (hS.roCells hr4 hc4 0 _ rfl) ?_
    exact WL.nil (N.cut () ⟨rfl, trivial⟩ (Below.refl _ _))
   refine And.intro (fun β w hS => ?_) ?_
   ·
    refine WL.sub (σ' := [(20, .int .i64 x3), (24, .int .i64 x4)]) ⟨rfl, rfl, trivial⟩ ?_
    refine WL.bin rfl rfl rfl rfl rfl ?_
    refine WL.set 25 (v' := .bool false) rfl (by rw [Option.some.inj (hx3.symm.trans hx4)]; simp) ?_
    exact WL.nil (N.cut () ⟨rfl, trivial⟩ (Below.refl _ _))
   trivial
  clear hS; intro w5 β hS
  refine WL.sub (σ' := [(0, .slice ad xs.length cap), (1, .slice bd xs.length cbp), (5, .int .i64 (k : Int)), (25, .bool false)]) ⟨rfl, rfl, rfl, rfl, trivial⟩ ?_
  refine WL.nil (N.seq (W.condF rfl (W.skip (N.blk (N.seq (W.region (WL.move rfl rfl rfl ?_)))))))
  refine WL.add (c := (k : Int) + 1) rfl rfl rfl rfl (rfl) (by omega) ?_
  refine WL.assign rfl rfl rfl (WL.nil ?_)
  exact N.loop (k + 1) ⟨rfl, rfl, rfl, trivial⟩ ⟨hS, by omega⟩ (by first | omega | (simp only; omega))
 have hc2p : ¬ ((k : Int) < (xs.length : Int)) := by simpa using hc2
 refine W.exit (X.seq (X.loop (X.blk (N.seq (W.seq (W.region (WL.assign rfl rfl rfl (WL.nil (N.seq ?_)))))))))
 refine Fin.ret1 rfl (v := .bool true) rfl ?_
 exact ⟨rfl, hS.below⟩

theorem ssameInst_ret (x y : DInst) (e : x = y) (cx cy : List Value) {w : World} {ro : Nat → Prop} (hro : ∀ b, ro b → b < w.heap.size) (hx : InstC ro w cx x) (hy : InstC ro w cy y) : Ret Try.prog 41 #[.agg cx.toArray, .agg cy.toArray] w fun v w' => v = .bool true ∧ Below w.heap.size w w' := by
 subst e
 have hQx := hx
 have hQy := hy
 obtain ⟨sx, rfl, hsx, hox, hax, hbx, hkx, hnx⟩ := id hx
 obtain ⟨adx, capx, rfl, hsxa, hsxb, hsxc, hsxd⟩ := id hsx
 have hsxm : x.args.length ≤ 9223372036854775807 := by have h1 := hsxa; have h2 := hsxb; unfold maxLen at h2; omega
 obtain ⟨sy, rfl, hsy, hoy, hay, hby, hky, hny⟩ := id hy
 obtain ⟨ady, capy, rfl, hsya, hsyb, hsyc, hsyd⟩ := id hsy
 have hsym : x.args.length ≤ 9223372036854775807 := by have h1 := hsya; have h2 := hsyb; unfold maxLen at h2; omega
 refine Ret.enter (P := Try.prog) (n := 47) (args := [.agg #[.int .i64 x.op, .int .i64 x.a, .int .i64 x.b, .int .u64 x.k, .string x.name, .slice adx x.args.length capx], .agg #[.int .i64 x.op, .int .i64 x.a, .int .i64 x.b, .int .u64 x.k, .string x.name, .slice ady x.args.length capy]]) (σ := [(0, .agg #[.int .i64 x.op, .int .i64 x.a, .int .i64 x.b, .int .u64 x.k, .string x.name, .slice adx x.args.length capx]), (1, .agg #[.int .i64 x.op, .int .i64 x.a, .int .i64 x.b, .int .u64 x.k, .string x.name, .slice ady x.args.length capy])]) Try.func41 rfl rfl rfl rfl ?_
 have hS := St.start (ro := ro) hro
 refine W.seq (W.region ?_)
 refine WL.box (v := .agg #[.int .i64 x.op, .int .i64 x.a, .int .i64 x.b, .int .u64 x.k, .string x.name, .slice adx x.args.length capx]) (cs := [.int .i64 x.op, .int .i64 x.a, .int .i64 x.b, .int .u64 x.k, .string x.name, .slice adx x.args.length capx]) rfl rfl rfl rfl hS ?_
 clear hS; intro w2 b1 hb_b1 hS
 refine WL.box (v := .agg #[.int .i64 x.op, .int .i64 x.a, .int .i64 x.b, .int .u64 x.k, .string x.name, .slice ady x.args.length capy]) (cs := [.int .i64 x.op, .int .i64 x.a, .int .i64 x.b, .int .u64 x.k, .string x.name, .slice ady x.args.length capy]) rfl rfl rfl rfl hS ?_
 clear hS; intro w4 b3 hb_b3 hS
 refine WL.assign rfl rfl rfl (WL.nil (N.seq (W.seq (W.region (WL.fieldAddr fo_36_5 rfl rfl rfl (WL.load1 (v := .slice adx x.args.length capx) one_28 rfl rfl rfl (hS.cell 1 rfl rfl) (WL.fieldAddr fo_36_5 rfl rfl rfl (WL.load1 (v := .slice ady x.args.length capy) one_28 rfl rfl rfl (hS.cell 0 rfl rfl) ?_))))))))
 refine WL.callF (vs := [.slice adx x.args.length capx, .slice ady x.args.length capy]) Try.func40 (by kernel_rfl) rfl rfl rfl (sints_ret x.args _ _ (ro := ro) (fun b hb => (hS.snap b hb).1) (hsx.keep hS.alike) (hsy.keep hS.alike)) ?_
 rintro v w5 ⟨rfl, hbl⟩
 replace hS := hS.grow hbl
 refine WL.assign rfl rfl rfl (WL.nil (N.seq (W.seq (W.region (WL.move rfl rfl rfl (WL.move rfl rfl rfl (WL.fieldAddr fo_36_0 rfl rfl rfl (WL.load1 (v := .int .i64 x.op) one_3 rfl rfl rfl (hS.cell 1 rfl rfl) (WL.fieldAddr fo_36_0 rfl rfl rfl ?_)))))))))
 refine WL.load1 (v := .int .i64 x.op) one_3 rfl rfl rfl (hS.cell 0 rfl rfl) (WL.bin rfl rfl rfl rfl rfl ?_)
 refine WL.set 17 (v' := .bool true) rfl (congrArg Value.bool (show (decide (x.op = x.op)) = true from decide_eq_true rfl)) ?_
 refine WL.pick (v := .bool true) rfl rfl rfl rfl rfl rfl (WL.move rfl rfl rfl (WL.fieldAddr fo_36_1 rfl rfl rfl (WL.load1 (v := .int .i64 x.a) one_3 rfl rfl rfl (hS.cell 1 rfl rfl) (WL.fieldAddr fo_36_1 rfl rfl rfl (WL.load1 (v := .int .i64 x.a) one_3 rfl rfl rfl (hS.cell 0 rfl rfl) (WL.bin rfl rfl rfl rfl rfl ?_))))))
 refine WL.set 24 (v' := .bool true) rfl (congrArg Value.bool (show (decide (x.a = x.a)) = true from decide_eq_true rfl)) ?_
 refine WL.pick (v := .bool true) rfl rfl rfl rfl rfl rfl (WL.move rfl rfl rfl (WL.fieldAddr fo_36_2 rfl rfl rfl (WL.load1 (v := .int .i64 x.b) one_3 rfl rfl rfl (hS.cell 1 rfl rfl) (WL.fieldAddr fo_36_2 rfl rfl rfl (WL.load1 (v := .int .i64 x.b) one_3 rfl rfl rfl (hS.cell 0 rfl rfl) (WL.bin rfl rfl rfl rfl rfl ?_))))))
 refine WL.set 31 (v' := .bool true) rfl (congrArg Value.bool (show (decide (x.b = x.b)) = true from decide_eq_true rfl)) ?_
 refine WL.pick (v := .bool true) rfl rfl rfl rfl rfl rfl (WL.move rfl rfl rfl (WL.fieldAddr fo_36_3 rfl rfl rfl (WL.load1 (v := .int .u64 x.k) one_34 rfl rfl rfl (hS.cell 1 rfl rfl) (WL.fieldAddr fo_36_3 rfl rfl rfl (WL.load1 (v := .int .u64 x.k) one_34 rfl rfl rfl (hS.cell 0 rfl rfl) (WL.bin rfl rfl rfl rfl rfl ?_))))))
 refine WL.set 38 (v' := .bool true) rfl (congrArg Value.bool (show (decide (x.k = x.k)) = true from decide_eq_true rfl)) ?_
 refine WL.pick (v := .bool true) rfl rfl rfl rfl rfl rfl (WL.move rfl rfl rfl (WL.fieldAddr fo_36_4 rfl rfl rfl (WL.load1 (v := .string x.name) one_9 rfl rfl rfl (hS.cell 1 rfl rfl) (WL.fieldAddr fo_36_4 rfl rfl rfl (WL.load1 (v := .string x.name) one_9 rfl rfl rfl (hS.cell 0 rfl rfl) (WL.eqStr rfl rfl rfl rfl ?_))))))
 refine WL.set 45 (v' := .bool true) rfl (congrArg Value.bool (show (decide (x.name = x.name)) = true from decide_eq_true rfl)) ?_
 refine WL.pick (v := .bool true) rfl rfl rfl rfl rfl rfl (WL.assign rfl rfl rfl (WL.nil (N.seq ?_)))
 refine Fin.ret1 rfl (v := .bool true) rfl ?_
 exact ⟨rfl, hS.below⟩

theorem ssameBlock_ret (x y : DBlock) (e : x = y) (cx cy : List Value) {w : World} {ro : Nat → Prop} (hro : ∀ b, ro b → b < w.heap.size) (hx : BlockC ro w cx x) (hy : BlockC ro w cy y) : Ret Try.prog 19 #[.agg cx.toArray, .agg cy.toArray] w fun v w' => v = .bool true ∧ Below w.heap.size w w' := by
 subst e
 obtain ⟨six, tsxx, rfl, hinx, hfinx, hparx⟩ := id hx
 obtain ⟨adix, capix, rfl, hinxa, hinxb, hinxc, hinxd⟩ := id hinx
 have hinxm : x.ins.length ≤ 9223372036854775807 := by have h1 := hinxa; have h2 := hinxb; unfold maxLen at h2; omega
 obtain ⟨spx, sqx, rfl, ht1x, ht2x, htkx, htax, httx, htex⟩ := id hfinx
 obtain ⟨adpx, cappx, rfl, htpxa, htpxb, htpxc, htpxd⟩ := id ht1x
 have htpxm : x.fin.args.length ≤ 9223372036854775807 := by have h1 := htpxa; have h2 := htpxb; unfold maxLen at h2; omega
 obtain ⟨adqx, capqx, rfl, htqxa, htqxb, htqxc, htqxd⟩ := id ht2x
 have htqxm : x.fin.elses.length ≤ 9223372036854775807 := by have h1 := htqxa; have h2 := htqxb; unfold maxLen at h2; omega
 obtain ⟨siy, tsxy, rfl, hiny, hfiny, hpary⟩ := id hy
 obtain ⟨adiy, capiy, rfl, hinya, hinyb, hinyc, hinyd⟩ := id hiny
 have hinym : x.ins.length ≤ 9223372036854775807 := by have h1 := hinya; have h2 := hinyb; unfold maxLen at h2; omega
 obtain ⟨spy, sqy, rfl, ht1y, ht2y, htky, htay, htty, htey⟩ := id hfiny
 obtain ⟨adpy, cappy, rfl, htpya, htpyb, htpyc, htpyd⟩ := id ht1y
 have htpym : x.fin.args.length ≤ 9223372036854775807 := by have h1 := htpya; have h2 := htpyb; unfold maxLen at h2; omega
 obtain ⟨adqy, capqy, rfl, htqya, htqyb, htqyc, htqyd⟩ := id ht2y
 have htqym : x.fin.elses.length ≤ 9223372036854775807 := by have h1 := htqya; have h2 := htqyb; unfold maxLen at h2; omega
 refine Ret.enter (P := Try.prog) (n := 98) (args := [.agg #[.int .i64 x.params, .slice adix x.ins.length capix, .int .i64 x.fin.kind, .int .i64 x.fin.a, .int .i64 x.fin.to, .slice adpx x.fin.args.length cappx, .int .i64 x.fin.els, .slice adqx x.fin.elses.length capqx], .agg #[.int .i64 x.params, .slice adiy x.ins.length capiy, .int .i64 x.fin.kind, .int .i64 x.fin.a, .int .i64 x.fin.to, .slice adpy x.fin.args.length cappy, .int .i64 x.fin.els, .slice adqy x.fin.elses.length capqy]]) (σ := [(0, .agg #[.int .i64 x.params, .slice adix x.ins.length capix, .int .i64 x.fin.kind, .int .i64 x.fin.a, .int .i64 x.fin.to, .slice adpx x.fin.args.length cappx, .int .i64 x.fin.els, .slice adqx x.fin.elses.length capqx]), (1, .agg #[.int .i64 x.params, .slice adiy x.ins.length capiy, .int .i64 x.fin.kind, .int .i64 x.fin.a, .int .i64 x.fin.to, .slice adpy x.fin.args.length cappy, .int .i64 x.fin.els, .slice adqy x.fin.elses.length capqy])]) Try.func19 rfl rfl rfl rfl ?_
 have hS := St.start (ro := ro) hro
 refine W.seq (W.region ?_)
 refine WL.box (v := .agg #[.int .i64 x.params, .slice adix x.ins.length capix, .int .i64 x.fin.kind, .int .i64 x.fin.a, .int .i64 x.fin.to, .slice adpx x.fin.args.length cappx, .int .i64 x.fin.els, .slice adqx x.fin.elses.length capqx]) (cs := [.int .i64 x.params, .slice adix x.ins.length capix, .int .i64 x.fin.kind, .int .i64 x.fin.a, .int .i64 x.fin.to, .slice adpx x.fin.args.length cappx, .int .i64 x.fin.els, .slice adqx x.fin.elses.length capqx]) rfl rfl rfl rfl hS ?_
 clear hS; intro w2 b1 hb_b1 hS
 refine WL.box (v := .agg #[.int .i64 x.params, .slice adiy x.ins.length capiy, .int .i64 x.fin.kind, .int .i64 x.fin.a, .int .i64 x.fin.to, .slice adpy x.fin.args.length cappy, .int .i64 x.fin.els, .slice adqy x.fin.elses.length capqy]) (cs := [.int .i64 x.params, .slice adiy x.ins.length capiy, .int .i64 x.fin.kind, .int .i64 x.fin.a, .int .i64 x.fin.to, .slice adpy x.fin.args.length cappy, .int .i64 x.fin.els, .slice adqy x.fin.elses.length capqy]) rfl rfl rfl rfl hS ?_
 clear hS; intro w4 b3 hb_b3 hS
 refine WL.assign rfl rfl rfl (WL.nil (N.seq (W.seq (W.region (WL.fieldAddr fo_32_2 rfl rfl rfl (WL.fieldAddr fo_30_3 rfl rfl rfl (WL.load1 (v := .slice adpx x.fin.args.length cappx) one_28 rfl rfl rfl (hS.cell 1 rfl rfl) (WL.fieldAddr fo_32_2 rfl rfl rfl (WL.fieldAddr fo_30_3 rfl rfl rfl ?_)))))))))
 refine WL.load1 (v := .slice adpy x.fin.args.length cappy) one_28 rfl rfl rfl (hS.cell 0 rfl rfl) ?_
 refine WL.callF (vs := [.slice adpx x.fin.args.length cappx, .slice adpy x.fin.args.length cappy]) Try.func40 (by kernel_rfl) rfl rfl rfl (sints_ret x.fin.args _ _ (ro := ro) (fun b hb => (hS.snap b hb).1) (ht1x.keep hS.alike) (ht1y.keep hS.alike)) ?_
 rintro v w5 ⟨rfl, hbl⟩
 replace hS := hS.grow hbl
 refine WL.move rfl rfl rfl (WL.fieldAddr fo_32_2 rfl rfl rfl (WL.fieldAddr fo_30_5 rfl rfl rfl (WL.load1 (v := .slice adqx x.fin.elses.length capqx) one_28 rfl rfl rfl (hS.cell 1 rfl rfl) (WL.fieldAddr fo_32_2 rfl rfl rfl (WL.fieldAddr fo_30_5 rfl rfl rfl (WL.load1 (v := .slice adqy x.fin.elses.length capqy) one_28 rfl rfl rfl (hS.cell 0 rfl rfl) ?_))))))
 refine WL.callF (vs := [.slice adqx x.fin.elses.length capqx, .slice adqy x.fin.elses.length capqy]) Try.func40 (by kernel_rfl) rfl rfl rfl (sints_ret x.fin.elses _ _ (ro := ro) (fun b hb => (hS.snap b hb).1) (ht2x.keep hS.alike) (ht2y.keep hS.alike)) ?_
 rintro v w6 ⟨rfl, hbl⟩
 replace hS := hS.grow hbl
 refine WL.pick (v := .bool true) rfl rfl rfl rfl rfl rfl (WL.assign rfl rfl rfl (WL.nil (N.seq (W.seq (W.seq (W.region (WL.move rfl rfl rfl (WL.not rfl rfl rfl ?_))))))))
 refine WL.set 25 (v' := .bool false) rfl rfl ?_
 refine WL.move rfl rfl rfl (WL.fieldAddr fo_32_0 rfl rfl rfl (WL.load1 (v := .int .i64 x.params) one_3 rfl rfl rfl (hS.cell 1 rfl rfl) (WL.fieldAddr fo_32_0 rfl rfl rfl (WL.load1 (v := .int .i64 x.params) one_3 rfl rfl rfl (hS.cell 0 rfl rfl) (WL.bin rfl rfl rfl rfl rfl ?_)))))
 refine WL.set 31 (v' := .bool false) rfl (by simp) ?_
 refine WL.pick (v := .bool false) rfl rfl rfl rfl rfl rfl (WL.move rfl rfl rfl (WL.fieldAddr fo_32_1 rfl rfl rfl (WL.load1 (v := .slice adix x.ins.length capix) one_27 rfl rfl rfl (hS.cell 1 rfl rfl) (WL.lenSlice Try.underlying27 rfl rfl rfl (WL.fieldAddr fo_32_1 rfl rfl rfl (WL.load1 (v := .slice adiy x.ins.length capiy) one_27 rfl rfl rfl (hS.cell 0 rfl rfl) (WL.lenSlice Try.underlying27 rfl rfl rfl (WL.bin rfl rfl rfl rfl rfl ?_))))))))
 refine WL.set 40 (v' := .bool false) rfl (by simp) ?_
 refine WL.pick (v := .bool false) rfl rfl rfl rfl rfl rfl (WL.move rfl rfl rfl (WL.fieldAddr fo_32_2 rfl rfl rfl (WL.fieldAddr fo_30_0 rfl rfl rfl (WL.load1 (v := .int .i64 x.fin.kind) one_3 rfl rfl rfl (hS.cell 1 rfl rfl) (WL.fieldAddr fo_32_2 rfl rfl rfl (WL.fieldAddr fo_30_0 rfl rfl rfl (WL.load1 (v := .int .i64 x.fin.kind) one_3 rfl rfl rfl (hS.cell 0 rfl rfl) (WL.bin rfl rfl rfl rfl rfl ?_))))))))
 refine WL.set 49 (v' := .bool false) rfl (by simp) ?_
 refine WL.pick (v := .bool false) rfl rfl rfl rfl rfl rfl (WL.move rfl rfl rfl (WL.fieldAddr fo_32_2 rfl rfl rfl (WL.fieldAddr fo_30_1 rfl rfl rfl (WL.load1 (v := .int .i64 x.fin.a) one_3 rfl rfl rfl (hS.cell 1 rfl rfl) (WL.fieldAddr fo_32_2 rfl rfl rfl (WL.fieldAddr fo_30_1 rfl rfl rfl (WL.load1 (v := .int .i64 x.fin.a) one_3 rfl rfl rfl (hS.cell 0 rfl rfl) (WL.bin rfl rfl rfl rfl rfl ?_))))))))
 refine WL.set 58 (v' := .bool false) rfl (by simp) ?_
 refine WL.pick (v := .bool false) rfl rfl rfl rfl rfl rfl (WL.move rfl rfl rfl (WL.fieldAddr fo_32_2 rfl rfl rfl (WL.fieldAddr fo_30_2 rfl rfl rfl (WL.load1 (v := .int .i64 x.fin.to) one_3 rfl rfl rfl (hS.cell 1 rfl rfl) (WL.fieldAddr fo_32_2 rfl rfl rfl (WL.fieldAddr fo_30_2 rfl rfl rfl (WL.load1 (v := .int .i64 x.fin.to) one_3 rfl rfl rfl (hS.cell 0 rfl rfl) (WL.bin rfl rfl rfl rfl rfl ?_))))))))
 refine WL.set 67 (v' := .bool false) rfl (by simp) ?_
 refine WL.pick (v := .bool false) rfl rfl rfl rfl rfl rfl (WL.move rfl rfl rfl (WL.fieldAddr fo_32_2 rfl rfl rfl (WL.fieldAddr fo_30_4 rfl rfl rfl (WL.load1 (v := .int .i64 x.fin.els) one_3 rfl rfl rfl (hS.cell 1 rfl rfl) (WL.fieldAddr fo_32_2 rfl rfl rfl (WL.fieldAddr fo_30_4 rfl rfl rfl (WL.load1 (v := .int .i64 x.fin.els) one_3 rfl rfl rfl (hS.cell 0 rfl rfl) (WL.bin rfl rfl rfl rfl rfl ?_))))))))
 refine WL.set 76 (v' := .bool false) rfl (by simp) ?_
 refine WL.pick (v := .bool false) rfl rfl rfl rfl rfl rfl (WL.nil (N.seq (W.condF rfl (W.skip (N.seq (W.seq (W.seq (W.region (WL.assign rfl rfl rfl ?_)))))))))
 refine WL.nil (N.seq (W.block ?_))
 refine W.loop (α := Nat) (fun (k : Nat) => [(2, .pointer (some ⟨b1, 0, none⟩)), (3, .pointer (some ⟨b3, 0, none⟩)), (6, .int .i64 (k : Int))]) (fun (k : Nat) u => St w w u ro [(b3, .cells #[.int .i64 x.params, .slice adiy x.ins.length capiy, .int .i64 x.fin.kind, .int .i64 x.fin.a, .int .i64 x.fin.to, .slice adpy x.fin.args.length cappy, .int .i64 x.fin.els, .slice adqy x.fin.elses.length capqy] 32 (0, 0)), (b1, .cells #[.int .i64 x.params, .slice adix x.ins.length capix, .int .i64 x.fin.kind, .int .i64 x.fin.a, .int .i64 x.fin.to, .slice adpx x.fin.args.length cappx, .int .i64 x.fin.els, .slice adqx x.fin.elses.length capqx] 32 (0, 0))] [] ∧ k ≤ x.ins.length) (fun (k : Nat) => x.ins.length - k) 0 ⟨rfl, rfl, rfl, trivial⟩ ⟨hS, Nat.zero_le _⟩ ?_
 clear hS
 rintro k w7 ⟨hS, hk⟩
 refine W.seq (W.seq (W.region (WL.move rfl rfl rfl (WL.fieldAddr fo_32_1 rfl rfl rfl (WL.load1 (v := .slice adix x.ins.length capix) one_27 rfl rfl rfl (hS.cell 1 rfl rfl) (WL.lenSlice Try.underlying27 rfl rfl rfl (WL.bin rfl rfl rfl rfl rfl (WL.nil (N.seq ?_)))))))))
 refine W.cond rfl (fun hc8 => ?_) (fun hc8 => ?_)
 ·
  have hc8p : (k : Int) < (x.ins.length : Int) := by simpa using hc8
  refine W.skip (N.seq (W.seq (W.block (W.seq ?_))))
  have hj9 : k < x.ins.length := by omega
  obtain ⟨x9, hx9⟩ : ∃ zz, x.ins[k]? = some zz := ⟨_, List.getElem?_eq_getElem hj9⟩
  obtain ⟨b9, o9, cs9, hE9, hr9, hl9, hc9, hQ9⟩ := hinxd k _ hx9
  have hQk9 := hQ9
  obtain ⟨sv9, rfl, hs9, ho9, ha9, hb9, hk9, hn9⟩ := hQ9
  obtain ⟨ad9, cap9, rfl, hs9a, hs9b, hs9c, hs9d⟩ := id hs9
  have hs9m : x9.args.length ≤ 9223372036854775807 := by have h1 := hs9a; have h2 := hs9b; unfold maxLen at h2; omega
  have hj10 : k < x.ins.length := by omega
  obtain ⟨x10, hx10⟩ : ∃ zz, x.ins[k]? = some zz := ⟨_, List.getElem?_eq_getElem hj10⟩
  obtain ⟨b10, o10, cs10, hE10, hr10, hl10, hc10, hQ10⟩ := hinyd k _ hx10
  have hQk10 := hQ10
  obtain ⟨sv10, rfl, hs10, ho10, ha10, hb10, hk10, hn10⟩ := hQ10
  obtain ⟨ad10, cap10, rfl, hs10a, hs10b, hs10c, hs10d⟩ := id hs10
  have hs10m : x10.args.length ≤ 9223372036854775807 := by have h1 := hs10a; have h2 := hs10b; unfold maxLen at h2; omega
  refine W.drawL (by kernel_rfl) 11 ((.q (.pointer (some ⟨b1, 1, none⟩))) :: (.q (.slice adix x.ins.length capix)) :: (.q (.int .i64 (k : Int))) :: (.q (.pointer (some ⟨b9, o9 + k * 6, none⟩))) :: (.q (.agg #[.int .i64 x9.op, .int .i64 x9.a, .int .i64 x9.b, .int .u64 x9.k, .string x9.name, .slice ad9 x9.args.length cap9])) :: (.q (.pointer (some ⟨b3, 1, none⟩))) :: (.q (.slice adiy x.ins.length capiy)) :: (.q (.int .i64 (k : Int))) :: (.q (.pointer (some ⟨b10, o10 + k * 6, none⟩))) :: (.q (.agg #[.int .i64 x10.op, .int .i64 x10.a, .int .i64 x10.b, .int .u64 x10.k, .string x10.name, .slice ad10 x10.args.length cap10])) :: (.q (.bool true)) :: []) (by kernel_rfl) (by kernel_rfl) [(2, .pointer (some ⟨b1, 0, none⟩)), (3, .pointer (some ⟨b3, 0, none⟩)), (6, .int .i64 (k : Int))] ⟨rfl, rfl, rfl, trivial⟩ (by kernel_rfl) hS ?_ ?_
  ·
   refine And.intro (fun β w hS => ?_) ?_
   ·
    refine WL.sub (σ' := [(2, .pointer (some ⟨b1, 0, none⟩))]) ⟨rfl, trivial⟩ ?_
    refine WL.fieldAddr fo_32_1 rfl rfl rfl ?_
    exact WL.nil (N.cut () ⟨rfl, trivial⟩ (Below.refl _ _))
   refine And.intro (fun β w hS => ?_) ?_
   ·
    refine WL.sub (σ' := [(85, .pointer (some ⟨b1, 1, none⟩))]) ⟨rfl, trivial⟩ ?_
    refine WL.load1 (v := .slice adix x.ins.length capix) one_27 rfl rfl rfl (hS.cell 1 rfl rfl) ?_
    exact WL.nil (N.cut () ⟨rfl, trivial⟩ (Below.refl _ _))
   refine And.intro (fun β w hS => ?_) ?_
   ·
    refine WL.sub (σ' := [(6, .int .i64 (k : Int))]) ⟨rfl, trivial⟩ ?_
    refine WL.move rfl rfl rfl ?_
    exact WL.nil (N.cut () ⟨rfl, trivial⟩ (Below.refl _ _))
   refine And.intro (fun β w hS => ?_) ?_
   ·
    refine WL.sub (σ' := [(86, .slice adix x.ins.length capix), (87, .int .i64 (k : Int))]) ⟨rfl, rfl, trivial⟩ ?_
    refine WL.indexAddrE (j := k) Try.underlying27 isz_36 rfl rfl rfl rfl hj9 hE9 ?_
    exact WL.nil (N.cut () ⟨rfl, trivial⟩ (Below.refl _ _))
   refine And.intro (fun β w hS => ?_) ?_
   ·
    refine WL.sub (σ' := [(88, .pointer (some ⟨b9, o9 + k * 6, none⟩))]) ⟨rfl, trivial⟩ ?_
    refine WL.loadN (cs := [.int .i64 x9.op, .int .i64 x9.a, .int .i64 x9.b, .int .u64 x9.k, .string x9.name, .slice ad9 x9.args.length cap9]) agg_36 rfl rfl rfl rfl (hS.roCells hr9 hc9) ?_
    exact WL.nil (N.cut () ⟨rfl, trivial⟩ (Below.refl _ _))
   refine And.intro (fun β w hS => ?_) ?_
   ·
    refine WL.sub (σ' := [(3, .pointer (some ⟨b3, 0, none⟩))]) ⟨rfl, trivial⟩ ?_
    refine WL.fieldAddr fo_32_1 rfl rfl rfl ?_
    exact WL.nil (N.cut () ⟨rfl, trivial⟩ (Below.refl _ _))
   refine And.intro (fun β w hS => ?_) ?_
   ·
    refine WL.sub (σ' := [(90, .pointer (some ⟨b3, 1, none⟩))]) ⟨rfl, trivial⟩ ?_
    refine WL.load1 (v := .slice adiy x.ins.length capiy) one_27 rfl rfl rfl (hS.cell 0 rfl rfl) ?_
    exact WL.nil (N.cut () ⟨rfl, trivial⟩ (Below.refl _ _))
   refine And.intro (fun β w hS => ?_) ?_
   ·
    refine WL.sub (σ' := [(6, .int .i64 (k : Int))]) ⟨rfl, trivial⟩ ?_
    refine WL.move rfl rfl rfl ?_
    exact WL.nil (N.cut () ⟨rfl, trivial⟩ (Below.refl _ _))
   refine And.intro (fun β w hS => ?_) ?_
   ·
    refine WL.sub (σ' := [(91, .slice adiy x.ins.length capiy), (92, .int .i64 (k : Int))]) ⟨rfl, rfl, trivial⟩ ?_
    refine WL.indexAddrE (j := k) Try.underlying27 isz_36 rfl rfl rfl rfl hj10 hE10 ?_
    exact WL.nil (N.cut () ⟨rfl, trivial⟩ (Below.refl _ _))
   refine And.intro (fun β w hS => ?_) ?_
   ·
    refine WL.sub (σ' := [(93, .pointer (some ⟨b10, o10 + k * 6, none⟩))]) ⟨rfl, trivial⟩ ?_
    refine WL.loadN (cs := [.int .i64 x10.op, .int .i64 x10.a, .int .i64 x10.b, .int .u64 x10.k, .string x10.name, .slice ad10 x10.args.length cap10]) agg_36 rfl rfl rfl rfl (hS.roCells hr10 hc10) ?_
    exact WL.nil (N.cut () ⟨rfl, trivial⟩ (Below.refl _ _))
   refine And.intro (fun β w hS => ?_) ?_
   ·
    refine WL.sub (σ' := [(89, .agg #[.int .i64 x9.op, .int .i64 x9.a, .int .i64 x9.b, .int .u64 x9.k, .string x9.name, .slice ad9 x9.args.length cap9]), (94, .agg #[.int .i64 x10.op, .int .i64 x10.a, .int .i64 x10.b, .int .u64 x10.k, .string x10.name, .slice ad10 x10.args.length cap10])]) ⟨rfl, rfl, trivial⟩ ?_
    refine WL.callF (vs := [.agg #[.int .i64 x9.op, .int .i64 x9.a, .int .i64 x9.b, .int .u64 x9.k, .string x9.name, .slice ad9 x9.args.length cap9], .agg #[.int .i64 x10.op, .int .i64 x10.a, .int .i64 x10.b, .int .u64 x10.k, .string x10.name, .slice ad10 x10.args.length cap10]]) Try.func41 (by kernel_rfl) rfl rfl rfl (ssameInst_ret x9 x10 (Option.some.inj (hx9.symm.trans hx10)) _ _ (ro := ro) (fun b hb => (hS.snap b hb).1) (InstC.keep hQk9 hS.alike) (InstC.keep hQk10 hS.alike)) ?_
    rintro v w12 ⟨rfl, hbl⟩
    replace hS := hS.grow hbl
    exact WL.nil (N.cut () ⟨rfl, trivial⟩ hbl)
   trivial
  clear hS; intro w13 β hS
  refine WL.sub (σ' := [(2, .pointer (some ⟨b1, 0, none⟩)), (3, .pointer (some ⟨b3, 0, none⟩)), (6, .int .i64 (k : Int)), (95, .bool true)]) ⟨rfl, rfl, rfl, rfl, trivial⟩ ?_
  refine WL.assign rfl rfl rfl (WL.nil (N.seq (W.seq (W.region (WL.move rfl rfl rfl (WL.not rfl rfl rfl ?_))))))
  refine WL.set 97 (v' := .bool false) rfl rfl ?_
  refine WL.nil (N.seq (W.condF rfl (W.skip (N.blk (N.seq (W.region (WL.move rfl rfl rfl ?_)))))))
  refine WL.add (c := (k : Int) + 1) rfl rfl rfl rfl (rfl) (by omega) ?_
  refine WL.assign rfl rfl rfl (WL.nil ?_)
  exact N.loop (k + 1) ⟨rfl, rfl, rfl, trivial⟩ ⟨hS, by omega⟩ (by first | omega | (simp only; omega))
 have hc8p : ¬ ((k : Int) < (x.ins.length : Int)) := by simpa using hc8
 refine W.exit (X.seq (X.loop (X.blk (N.seq (W.seq (W.region (WL.assign rfl rfl rfl (WL.nil (N.seq ?_)))))))))
 refine Fin.ret1 rfl (v := .bool true) rfl ?_
 exact ⟨rfl, hS.below⟩

theorem ssameFunc_ret (x y : DFunc) (e : x = y) (cx cy : List Value) {w : World} {ro : Nat → Prop} (hro : ∀ b, ro b → b < w.heap.size) (hx : FuncC ro w cx x) (hy : FuncC ro w cy y) : Ret Try.prog 24 #[.agg cx.toArray, .agg cy.toArray] w fun v w' => v = .bool true ∧ Below w.heap.size w w' := by
 subst e
 obtain ⟨sbx, rfl, hblx, hnmx, hbdx, hprx⟩ := id hx
 obtain ⟨adbx, capbx, rfl, hbkxa, hbkxb, hbkxc, hbkxd⟩ := id hblx
 have hbkxm : x.blocks.length ≤ 9223372036854775807 := by have h1 := hbkxa; have h2 := hbkxb; unfold maxLen at h2; omega
 obtain ⟨sby, rfl, hbly, hnmy, hbdy, hpry⟩ := id hy
 obtain ⟨adby, capby, rfl, hbkya, hbkyb, hbkyc, hbkyd⟩ := id hbly
 have hbkym : x.blocks.length ≤ 9223372036854775807 := by have h1 := hbkya; have h2 := hbkyb; unfold maxLen at h2; omega
 refine Ret.enter (P := Try.prog) (n := 55) (args := [.agg #[.string x.name, .int .i64 x.bind, .int .i64 x.params, .slice adbx x.blocks.length capbx], .agg #[.string x.name, .int .i64 x.bind, .int .i64 x.params, .slice adby x.blocks.length capby]]) (σ := [(0, .agg #[.string x.name, .int .i64 x.bind, .int .i64 x.params, .slice adbx x.blocks.length capbx]), (1, .agg #[.string x.name, .int .i64 x.bind, .int .i64 x.params, .slice adby x.blocks.length capby])]) Try.func24 rfl rfl rfl rfl ?_
 have hS := St.start (ro := ro) hro
 refine W.seq (W.region ?_)
 refine WL.box (v := .agg #[.string x.name, .int .i64 x.bind, .int .i64 x.params, .slice adbx x.blocks.length capbx]) (cs := [.string x.name, .int .i64 x.bind, .int .i64 x.params, .slice adbx x.blocks.length capbx]) rfl rfl rfl rfl hS ?_
 clear hS; intro w2 b1 hb_b1 hS
 refine WL.box (v := .agg #[.string x.name, .int .i64 x.bind, .int .i64 x.params, .slice adby x.blocks.length capby]) (cs := [.string x.name, .int .i64 x.bind, .int .i64 x.params, .slice adby x.blocks.length capby]) rfl rfl rfl rfl hS ?_
 clear hS; intro w4 b3 hb_b3 hS
 refine WL.assign rfl rfl rfl (WL.nil (N.seq (W.seq (W.seq (W.region (WL.fieldAddr fo_24_0 rfl rfl rfl (WL.load1 (v := .string x.name) one_9 rfl rfl rfl (hS.cell 1 rfl rfl) (WL.fieldAddr fo_24_0 rfl rfl rfl (WL.load1 (v := .string x.name) one_9 rfl rfl rfl (hS.cell 0 rfl rfl) ?_)))))))))
 refine WL.neStr rfl rfl rfl rfl ?_
 refine WL.set 11 (v' := .bool false) rfl (by simp) ?_
 refine WL.move rfl rfl rfl (WL.fieldAddr fo_24_1 rfl rfl rfl (WL.load1 (v := .int .i64 x.bind) one_3 rfl rfl rfl (hS.cell 1 rfl rfl) (WL.fieldAddr fo_24_1 rfl rfl rfl (WL.load1 (v := .int .i64 x.bind) one_3 rfl rfl rfl (hS.cell 0 rfl rfl) (WL.bin rfl rfl rfl rfl rfl ?_)))))
 refine WL.set 17 (v' := .bool false) rfl (by simp) ?_
 refine WL.pick (v := .bool false) rfl rfl rfl rfl rfl rfl (WL.move rfl rfl rfl (WL.fieldAddr fo_24_2 rfl rfl rfl (WL.load1 (v := .int .i64 x.params) one_3 rfl rfl rfl (hS.cell 1 rfl rfl) (WL.fieldAddr fo_24_2 rfl rfl rfl (WL.load1 (v := .int .i64 x.params) one_3 rfl rfl rfl (hS.cell 0 rfl rfl) (WL.bin rfl rfl rfl rfl rfl ?_))))))
 refine WL.set 24 (v' := .bool false) rfl (by simp) ?_
 refine WL.pick (v := .bool false) rfl rfl rfl rfl rfl rfl (WL.move rfl rfl rfl (WL.fieldAddr fo_24_3 rfl rfl rfl (WL.load1 (v := .slice adbx x.blocks.length capbx) one_22 rfl rfl rfl (hS.cell 1 rfl rfl) (WL.lenSlice Try.underlying22 rfl rfl rfl (WL.fieldAddr fo_24_3 rfl rfl rfl (WL.load1 (v := .slice adby x.blocks.length capby) one_22 rfl rfl rfl (hS.cell 0 rfl rfl) (WL.lenSlice Try.underlying22 rfl rfl rfl (WL.bin rfl rfl rfl rfl rfl ?_))))))))
 refine WL.set 33 (v' := .bool false) rfl (by simp) ?_
 refine WL.pick (v := .bool false) rfl rfl rfl rfl rfl rfl (WL.nil (N.seq (W.condF rfl (W.skip (N.seq (W.seq (W.seq (W.region (WL.assign rfl rfl rfl ?_)))))))))
 refine WL.nil (N.seq (W.block ?_))
 refine W.loop (α := Nat) (fun (k : Nat) => [(2, .pointer (some ⟨b1, 0, none⟩)), (3, .pointer (some ⟨b3, 0, none⟩)), (5, .int .i64 (k : Int))]) (fun (k : Nat) u => St w w u ro [(b3, .cells #[.string x.name, .int .i64 x.bind, .int .i64 x.params, .slice adby x.blocks.length capby] 24 (0, 0)), (b1, .cells #[.string x.name, .int .i64 x.bind, .int .i64 x.params, .slice adbx x.blocks.length capbx] 24 (0, 0))] [] ∧ k ≤ x.blocks.length) (fun (k : Nat) => x.blocks.length - k) 0 ⟨rfl, rfl, rfl, trivial⟩ ⟨hS, Nat.zero_le _⟩ ?_
 clear hS
 rintro k w5 ⟨hS, hk⟩
 refine W.seq (W.seq (W.region (WL.move rfl rfl rfl (WL.fieldAddr fo_24_3 rfl rfl rfl (WL.load1 (v := .slice adbx x.blocks.length capbx) one_22 rfl rfl rfl (hS.cell 1 rfl rfl) (WL.lenSlice Try.underlying22 rfl rfl rfl (WL.bin rfl rfl rfl rfl rfl (WL.nil (N.seq ?_)))))))))
 refine W.cond rfl (fun hc6 => ?_) (fun hc6 => ?_)
 ·
  have hc6p : (k : Int) < (x.blocks.length : Int) := by simpa using hc6
  refine W.skip (N.seq (W.seq (W.block (W.seq ?_))))
  have hj7 : k < x.blocks.length := by omega
  obtain ⟨x7, hx7⟩ : ∃ zz, x.blocks[k]? = some zz := ⟨_, List.getElem?_eq_getElem hj7⟩
  obtain ⟨b7, o7, cs7, hE7, hr7, hl7, hc7, hQ7⟩ := hbkxd k _ hx7
  obtain ⟨si7, tsx7, rfl, hin7, hfin7, hpar7⟩ := id hQ7
  obtain ⟨adi7, capi7, rfl, hin7a, hin7b, hin7c, hin7d⟩ := id hin7
  have hin7m : x7.ins.length ≤ 9223372036854775807 := by have h1 := hin7a; have h2 := hin7b; unfold maxLen at h2; omega
  obtain ⟨sp7, sq7, rfl, ht17, ht27, htk7, hta7, htt7, hte7⟩ := id hfin7
  obtain ⟨adp7, capp7, rfl, htp7a, htp7b, htp7c, htp7d⟩ := id ht17
  have htp7m : x7.fin.args.length ≤ 9223372036854775807 := by have h1 := htp7a; have h2 := htp7b; unfold maxLen at h2; omega
  obtain ⟨adq7, capq7, rfl, htq7a, htq7b, htq7c, htq7d⟩ := id ht27
  have htq7m : x7.fin.elses.length ≤ 9223372036854775807 := by have h1 := htq7a; have h2 := htq7b; unfold maxLen at h2; omega
  have hj8 : k < x.blocks.length := by omega
  obtain ⟨x8, hx8⟩ : ∃ zz, x.blocks[k]? = some zz := ⟨_, List.getElem?_eq_getElem hj8⟩
  obtain ⟨b8, o8, cs8, hE8, hr8, hl8, hc8, hQ8⟩ := hbkyd k _ hx8
  obtain ⟨si8, tsx8, rfl, hin8, hfin8, hpar8⟩ := id hQ8
  obtain ⟨adi8, capi8, rfl, hin8a, hin8b, hin8c, hin8d⟩ := id hin8
  have hin8m : x8.ins.length ≤ 9223372036854775807 := by have h1 := hin8a; have h2 := hin8b; unfold maxLen at h2; omega
  obtain ⟨sp8, sq8, rfl, ht18, ht28, htk8, hta8, htt8, hte8⟩ := id hfin8
  obtain ⟨adp8, capp8, rfl, htp8a, htp8b, htp8c, htp8d⟩ := id ht18
  have htp8m : x8.fin.args.length ≤ 9223372036854775807 := by have h1 := htp8a; have h2 := htp8b; unfold maxLen at h2; omega
  obtain ⟨adq8, capq8, rfl, htq8a, htq8b, htq8c, htq8d⟩ := id ht28
  have htq8m : x8.fin.elses.length ≤ 9223372036854775807 := by have h1 := htq8a; have h2 := htq8b; unfold maxLen at h2; omega
  refine W.drawL (by kernel_rfl) 11 ((.q (.pointer (some ⟨b1, 3, none⟩))) :: (.q (.slice adbx x.blocks.length capbx)) :: (.q (.int .i64 (k : Int))) :: (.q (.pointer (some ⟨b7, o7 + k * 8, none⟩))) :: (.q (.agg #[.int .i64 x7.params, .slice adi7 x7.ins.length capi7, .int .i64 x7.fin.kind, .int .i64 x7.fin.a, .int .i64 x7.fin.to, .slice adp7 x7.fin.args.length capp7, .int .i64 x7.fin.els, .slice adq7 x7.fin.elses.length capq7])) :: (.q (.pointer (some ⟨b3, 3, none⟩))) :: (.q (.slice adby x.blocks.length capby)) :: (.q (.int .i64 (k : Int))) :: (.q (.pointer (some ⟨b8, o8 + k * 8, none⟩))) :: (.q (.agg #[.int .i64 x8.params, .slice adi8 x8.ins.length capi8, .int .i64 x8.fin.kind, .int .i64 x8.fin.a, .int .i64 x8.fin.to, .slice adp8 x8.fin.args.length capp8, .int .i64 x8.fin.els, .slice adq8 x8.fin.elses.length capq8])) :: (.q (.bool true)) :: []) (by kernel_rfl) (by kernel_rfl) [(2, .pointer (some ⟨b1, 0, none⟩)), (3, .pointer (some ⟨b3, 0, none⟩)), (5, .int .i64 (k : Int))] ⟨rfl, rfl, rfl, trivial⟩ (by kernel_rfl) hS ?_ ?_
  ·
   refine And.intro (fun β w hS => ?_) ?_
   ·
    refine WL.sub (σ' := [(2, .pointer (some ⟨b1, 0, none⟩))]) ⟨rfl, trivial⟩ ?_
    refine WL.fieldAddr fo_24_3 rfl rfl rfl ?_
    exact WL.nil (N.cut () ⟨rfl, trivial⟩ (Below.refl _ _))
   refine And.intro (fun β w hS => ?_) ?_
   ·
    refine WL.sub (σ' := [(42, .pointer (some ⟨b1, 3, none⟩))]) ⟨rfl, trivial⟩ ?_
    refine WL.load1 (v := .slice adbx x.blocks.length capbx) one_22 rfl rfl rfl (hS.cell 1 rfl rfl) ?_
    exact WL.nil (N.cut () ⟨rfl, trivial⟩ (Below.refl _ _))
   refine And.intro (fun β w hS => ?_) ?_
   ·
    refine WL.sub (σ' := [(5, .int .i64 (k : Int))]) ⟨rfl, trivial⟩ ?_
    refine WL.move rfl rfl rfl ?_
    exact WL.nil (N.cut () ⟨rfl, trivial⟩ (Below.refl _ _))
   refine And.intro (fun β w hS => ?_) ?_
   ·
    refine WL.sub (σ' := [(43, .slice adbx x.blocks.length capbx), (44, .int .i64 (k : Int))]) ⟨rfl, rfl, trivial⟩ ?_
    refine WL.indexAddrE (j := k) Try.underlying22 isz_32 rfl rfl rfl rfl hj7 hE7 ?_
    exact WL.nil (N.cut () ⟨rfl, trivial⟩ (Below.refl _ _))
   refine And.intro (fun β w hS => ?_) ?_
   ·
    refine WL.sub (σ' := [(45, .pointer (some ⟨b7, o7 + k * 8, none⟩))]) ⟨rfl, trivial⟩ ?_
    refine WL.loadN (cs := [.int .i64 x7.params, .slice adi7 x7.ins.length capi7, .int .i64 x7.fin.kind, .int .i64 x7.fin.a, .int .i64 x7.fin.to, .slice adp7 x7.fin.args.length capp7, .int .i64 x7.fin.els, .slice adq7 x7.fin.elses.length capq7]) agg_32 rfl rfl rfl rfl (hS.roCells hr7 hc7) ?_
    exact WL.nil (N.cut () ⟨rfl, trivial⟩ (Below.refl _ _))
   refine And.intro (fun β w hS => ?_) ?_
   ·
    refine WL.sub (σ' := [(3, .pointer (some ⟨b3, 0, none⟩))]) ⟨rfl, trivial⟩ ?_
    refine WL.fieldAddr fo_24_3 rfl rfl rfl ?_
    exact WL.nil (N.cut () ⟨rfl, trivial⟩ (Below.refl _ _))
   refine And.intro (fun β w hS => ?_) ?_
   ·
    refine WL.sub (σ' := [(47, .pointer (some ⟨b3, 3, none⟩))]) ⟨rfl, trivial⟩ ?_
    refine WL.load1 (v := .slice adby x.blocks.length capby) one_22 rfl rfl rfl (hS.cell 0 rfl rfl) ?_
    exact WL.nil (N.cut () ⟨rfl, trivial⟩ (Below.refl _ _))
   refine And.intro (fun β w hS => ?_) ?_
   ·
    refine WL.sub (σ' := [(5, .int .i64 (k : Int))]) ⟨rfl, trivial⟩ ?_
    refine WL.move rfl rfl rfl ?_
    exact WL.nil (N.cut () ⟨rfl, trivial⟩ (Below.refl _ _))
   refine And.intro (fun β w hS => ?_) ?_
   ·
    refine WL.sub (σ' := [(48, .slice adby x.blocks.length capby), (49, .int .i64 (k : Int))]) ⟨rfl, rfl, trivial⟩ ?_
    refine WL.indexAddrE (j := k) Try.underlying22 isz_32 rfl rfl rfl rfl hj8 hE8 ?_
    exact WL.nil (N.cut () ⟨rfl, trivial⟩ (Below.refl _ _))
   refine And.intro (fun β w hS => ?_) ?_
   ·
    refine WL.sub (σ' := [(50, .pointer (some ⟨b8, o8 + k * 8, none⟩))]) ⟨rfl, trivial⟩ ?_
    refine WL.loadN (cs := [.int .i64 x8.params, .slice adi8 x8.ins.length capi8, .int .i64 x8.fin.kind, .int .i64 x8.fin.a, .int .i64 x8.fin.to, .slice adp8 x8.fin.args.length capp8, .int .i64 x8.fin.els, .slice adq8 x8.fin.elses.length capq8]) agg_32 rfl rfl rfl rfl (hS.roCells hr8 hc8) ?_
    exact WL.nil (N.cut () ⟨rfl, trivial⟩ (Below.refl _ _))
   refine And.intro (fun β w hS => ?_) ?_
   ·
    refine WL.sub (σ' := [(46, .agg #[.int .i64 x7.params, .slice adi7 x7.ins.length capi7, .int .i64 x7.fin.kind, .int .i64 x7.fin.a, .int .i64 x7.fin.to, .slice adp7 x7.fin.args.length capp7, .int .i64 x7.fin.els, .slice adq7 x7.fin.elses.length capq7]), (51, .agg #[.int .i64 x8.params, .slice adi8 x8.ins.length capi8, .int .i64 x8.fin.kind, .int .i64 x8.fin.a, .int .i64 x8.fin.to, .slice adp8 x8.fin.args.length capp8, .int .i64 x8.fin.els, .slice adq8 x8.fin.elses.length capq8])]) ⟨rfl, rfl, trivial⟩ ?_
    refine WL.callF (vs := [.agg #[.int .i64 x7.params, .slice adi7 x7.ins.length capi7, .int .i64 x7.fin.kind, .int .i64 x7.fin.a, .int .i64 x7.fin.to, .slice adp7 x7.fin.args.length capp7, .int .i64 x7.fin.els, .slice adq7 x7.fin.elses.length capq7], .agg #[.int .i64 x8.params, .slice adi8 x8.ins.length capi8, .int .i64 x8.fin.kind, .int .i64 x8.fin.a, .int .i64 x8.fin.to, .slice adp8 x8.fin.args.length capp8, .int .i64 x8.fin.els, .slice adq8 x8.fin.elses.length capq8]]) Try.func19 (by kernel_rfl) rfl rfl rfl (ssameBlock_ret x7 x8 (Option.some.inj (hx7.symm.trans hx8)) _ _ (ro := ro) (fun b hb => (hS.snap b hb).1) (BlockC.keep hQ7 hS.alike) (BlockC.keep hQ8 hS.alike)) ?_
    rintro v w10 ⟨rfl, hbl⟩
    replace hS := hS.grow hbl
    exact WL.nil (N.cut () ⟨rfl, trivial⟩ hbl)
   trivial
  clear hS; intro w11 β hS
  refine WL.sub (σ' := [(2, .pointer (some ⟨b1, 0, none⟩)), (3, .pointer (some ⟨b3, 0, none⟩)), (5, .int .i64 (k : Int)), (52, .bool true)]) ⟨rfl, rfl, rfl, rfl, trivial⟩ ?_
  refine WL.assign rfl rfl rfl (WL.nil (N.seq (W.seq (W.region (WL.move rfl rfl rfl (WL.not rfl rfl rfl ?_))))))
  refine WL.set 54 (v' := .bool false) rfl rfl ?_
  refine WL.nil (N.seq (W.condF rfl (W.skip (N.blk (N.seq (W.region (WL.move rfl rfl rfl ?_)))))))
  refine WL.add (c := (k : Int) + 1) rfl rfl rfl rfl (rfl) (by omega) ?_
  refine WL.assign rfl rfl rfl (WL.nil ?_)
  exact N.loop (k + 1) ⟨rfl, rfl, rfl, trivial⟩ ⟨hS, by omega⟩ (by first | omega | (simp only; omega))
 have hc6p : ¬ ((k : Int) < (x.blocks.length : Int)) := by simpa using hc6
 refine W.exit (X.seq (X.loop (X.blk (N.seq (W.seq (W.region (WL.assign rfl rfl rfl (WL.nil (N.seq ?_)))))))))
 refine Fin.ret1 rfl (v := .bool true) rfl ?_
 exact ⟨rfl, hS.below⟩

theorem sglobFields : Try.prog.underlying 71 = some (.struct (Try.prog.fieldsOf 71)) := by rw [Program.fieldsOf, Try.underlying71]
set_option maxRecDepth 20000 in
theorem seqGlobT (x y : DGlob) (w : World) : (Op.eqFields 9999 #[.string x.name, .int .i64 x.bind, .bool x.here, .int .u64 x.init] #[.string y.name, .int .i64 y.bind, .bool y.here, .int .u64 y.init] (Try.prog.fieldsOf 71).toList).run Try.prog w = .ok (decide (x = y)) w :=
  eqGlob (by rw [Program.fieldsOf, Try.underlying71]) (by decide) (by decide) (by decide) (by decide) rfl rfl rfl rfl (by simp [Program.plainKey, Try.underlying9]) (by simp [Program.plainKey, Try.underlying3]) (by simp [Program.plainKey, Try.underlying4]) (by simp [Program.plainKey, Try.underlying34]) Try.underlying9 Try.underlying3 Try.underlying4 Try.underlying34 x y w

theorem ssame_ret (x : DMod) (cx cy : List Value) {w : World} {ro : Nat → Prop} (hro : ∀ b, ro b → b < w.heap.size) (hx : ModC ro w cx x) (hy : ModC ro w cy x) : Ret Try.prog 16 #[.agg cx.toArray, .agg cy.toArray] w fun v w' => v = .bool true ∧ Below w.heap.size w w' := by
 obtain ⟨sfx, sgx, rfl, hfsx, hgsx⟩ := id hx
 obtain ⟨adfx, capfx, rfl, hfsxa, hfsxb, hfsxc, hfsxd⟩ := id hfsx
 have hfsxm : x.funcs.length ≤ 9223372036854775807 := by have h1 := hfsxa; have h2 := hfsxb; unfold maxLen at h2; omega
 obtain ⟨adgx, capgx, rfl, hgsxa, hgsxb, hgsxc, hgsxd⟩ := id hgsx
 have hgsxm : x.globs.length ≤ 9223372036854775807 := by have h1 := hgsxa; have h2 := hgsxb; unfold maxLen at h2; omega
 obtain ⟨sfy, sgy, rfl, hfsy, hgsy⟩ := id hy
 obtain ⟨adfy, capfy, rfl, hfsya, hfsyb, hfsyc, hfsyd⟩ := id hfsy
 have hfsym : x.funcs.length ≤ 9223372036854775807 := by have h1 := hfsya; have h2 := hfsyb; unfold maxLen at h2; omega
 obtain ⟨adgy, capgy, rfl, hgsya, hgsyb, hgsyc, hgsyd⟩ := id hgsy
 have hgsym : x.globs.length ≤ 9223372036854775807 := by have h1 := hgsya; have h2 := hgsyb; unfold maxLen at h2; omega
 refine Ret.enter (P := Try.prog) (n := 62) (args := [.agg #[.slice adfx x.funcs.length capfx, .slice adgx x.globs.length capgx], .agg #[.slice adfy x.funcs.length capfy, .slice adgy x.globs.length capgy]]) (σ := [(0, .agg #[.slice adfx x.funcs.length capfx, .slice adgx x.globs.length capgx]), (1, .agg #[.slice adfy x.funcs.length capfy, .slice adgy x.globs.length capgy])]) Try.func16 rfl rfl rfl rfl ?_
 have hS := St.start (ro := ro) hro
 refine W.seq (W.region ?_)
 refine WL.box (v := .agg #[.slice adfx x.funcs.length capfx, .slice adgx x.globs.length capgx]) (cs := [.slice adfx x.funcs.length capfx, .slice adgx x.globs.length capgx]) rfl rfl rfl rfl hS ?_
 clear hS; intro w2 b1 hb_b1 hS
 refine WL.box (v := .agg #[.slice adfy x.funcs.length capfy, .slice adgy x.globs.length capgy]) (cs := [.slice adfy x.funcs.length capfy, .slice adgy x.globs.length capgy]) rfl rfl rfl rfl hS ?_
 clear hS; intro w4 b3 hb_b3 hS
 refine WL.assign rfl rfl rfl (WL.nil (N.seq (W.seq (W.seq (W.region (WL.fieldAddr fo_46_0 rfl rfl rfl (WL.load1 (v := .slice adfx x.funcs.length capfx) one_43 rfl rfl rfl (hS.cell 1 rfl rfl) (WL.lenSlice Try.underlying43 rfl rfl rfl (WL.fieldAddr fo_46_0 rfl rfl rfl ?_)))))))))
 refine WL.load1 (v := .slice adfy x.funcs.length capfy) one_43 rfl rfl rfl (hS.cell 0 rfl rfl) (WL.lenSlice Try.underlying43 rfl rfl rfl (WL.bin rfl rfl rfl rfl rfl ?_))
 refine WL.set 14 (v' := .bool false) rfl (by simp) ?_
 refine WL.move rfl rfl rfl (WL.fieldAddr fo_46_1 rfl rfl rfl (WL.load1 (v := .slice adgx x.globs.length capgx) one_44 rfl rfl rfl (hS.cell 1 rfl rfl) (WL.lenSlice Try.underlying44 rfl rfl rfl (WL.fieldAddr fo_46_1 rfl rfl rfl (WL.load1 (v := .slice adgy x.globs.length capgy) one_44 rfl rfl rfl (hS.cell 0 rfl rfl) (WL.lenSlice Try.underlying44 rfl rfl rfl (WL.bin rfl rfl rfl rfl rfl ?_)))))))
 refine WL.set 22 (v' := .bool false) rfl (by simp) ?_
 refine WL.pick (v := .bool false) rfl rfl rfl rfl rfl rfl (WL.nil (N.seq (W.condF rfl (W.skip (N.seq (W.seq (W.seq (W.region (WL.assign rfl rfl rfl ?_)))))))))
 refine WL.nil (N.seq (W.block ?_))
 refine W.loop (α := Nat) (fun (k : Nat) => [(2, .pointer (some ⟨b1, 0, none⟩)), (3, .pointer (some ⟨b3, 0, none⟩)), (5, .int .i64 (k : Int))]) (fun (k : Nat) u => St w w u ro [(b3, .cells #[.slice adfy x.funcs.length capfy, .slice adgy x.globs.length capgy] 46 (0, 0)), (b1, .cells #[.slice adfx x.funcs.length capfx, .slice adgx x.globs.length capgx] 46 (0, 0))] [] ∧ k ≤ x.funcs.length) (fun (k : Nat) => x.funcs.length - k) 0 ⟨rfl, rfl, rfl, trivial⟩ ⟨hS, Nat.zero_le _⟩ ?_
 clear hS
 rintro k w5 ⟨hS, hk⟩
 refine W.seq (W.seq (W.region (WL.move rfl rfl rfl (WL.fieldAddr fo_46_0 rfl rfl rfl (WL.load1 (v := .slice adfx x.funcs.length capfx) one_43 rfl rfl rfl (hS.cell 1 rfl rfl) (WL.lenSlice Try.underlying43 rfl rfl rfl (WL.bin rfl rfl rfl rfl rfl (WL.nil (N.seq ?_)))))))))
 refine W.cond rfl (fun hc6 => ?_) (fun hc6 => ?_)
 ·
  have hc6p : (k : Int) < (x.funcs.length : Int) := by simpa using hc6
  refine W.skip (N.seq (W.seq (W.block (W.seq ?_))))
  have hj7 : k < x.funcs.length := by omega
  obtain ⟨x7, hx7⟩ : ∃ zz, x.funcs[k]? = some zz := ⟨_, List.getElem?_eq_getElem hj7⟩
  obtain ⟨b7, o7, cs7, hE7, hr7, hl7, hc7, hQ7⟩ := hfsxd k _ hx7
  obtain ⟨sb7, rfl, hbl7, hnm7, hbd7, hpr7⟩ := id hQ7
  obtain ⟨adb7, capb7, rfl, hbk7a, hbk7b, hbk7c, hbk7d⟩ := id hbl7
  have hbk7m : x7.blocks.length ≤ 9223372036854775807 := by have h1 := hbk7a; have h2 := hbk7b; unfold maxLen at h2; omega
  have hj8 : k < x.funcs.length := by omega
  obtain ⟨x8, hx8⟩ : ∃ zz, x.funcs[k]? = some zz := ⟨_, List.getElem?_eq_getElem hj8⟩
  obtain ⟨b8, o8, cs8, hE8, hr8, hl8, hc8, hQ8⟩ := hfsyd k _ hx8
  obtain ⟨sb8, rfl, hbl8, hnm8, hbd8, hpr8⟩ := id hQ8
  obtain ⟨adb8, capb8, rfl, hbk8a, hbk8b, hbk8c, hbk8d⟩ := id hbl8
  have hbk8m : x8.blocks.length ≤ 9223372036854775807 := by have h1 := hbk8a; have h2 := hbk8b; unfold maxLen at h2; omega
  refine W.drawL (by kernel_rfl) 11 ((.q (.pointer (some ⟨b1, 0, none⟩))) :: (.q (.slice adfx x.funcs.length capfx)) :: (.q (.int .i64 (k : Int))) :: (.q (.pointer (some ⟨b7, o7 + k * 4, none⟩))) :: (.q (.agg #[.string x7.name, .int .i64 x7.bind, .int .i64 x7.params, .slice adb7 x7.blocks.length capb7])) :: (.q (.pointer (some ⟨b3, 0, none⟩))) :: (.q (.slice adfy x.funcs.length capfy)) :: (.q (.int .i64 (k : Int))) :: (.q (.pointer (some ⟨b8, o8 + k * 4, none⟩))) :: (.q (.agg #[.string x8.name, .int .i64 x8.bind, .int .i64 x8.params, .slice adb8 x8.blocks.length capb8])) :: (.q (.bool true)) :: []) (by kernel_rfl) (by kernel_rfl) [(2, .pointer (some ⟨b1, 0, none⟩)), (3, .pointer (some ⟨b3, 0, none⟩)), (5, .int .i64 (k : Int))] ⟨rfl, rfl, rfl, trivial⟩ (by kernel_rfl) hS ?_ ?_
  ·
   refine And.intro (fun β w hS => ?_) ?_
   ·
    refine WL.sub (σ' := [(2, .pointer (some ⟨b1, 0, none⟩))]) ⟨rfl, trivial⟩ ?_
    refine WL.fieldAddr fo_46_0 rfl rfl rfl ?_
    exact WL.nil (N.cut () ⟨rfl, trivial⟩ (Below.refl _ _))
   refine And.intro (fun β w hS => ?_) ?_
   ·
    refine WL.sub (σ' := [(31, .pointer (some ⟨b1, 0, none⟩))]) ⟨rfl, trivial⟩ ?_
    refine WL.load1 (v := .slice adfx x.funcs.length capfx) one_43 rfl rfl rfl (hS.cell 1 rfl rfl) ?_
    exact WL.nil (N.cut () ⟨rfl, trivial⟩ (Below.refl _ _))
   refine And.intro (fun β w hS => ?_) ?_
   ·
    refine WL.sub (σ' := [(5, .int .i64 (k : Int))]) ⟨rfl, trivial⟩ ?_
    refine WL.move rfl rfl rfl ?_
    exact WL.nil (N.cut () ⟨rfl, trivial⟩ (Below.refl _ _))
   refine And.intro (fun β w hS => ?_) ?_
   ·
    refine WL.sub (σ' := [(32, .slice adfx x.funcs.length capfx), (33, .int .i64 (k : Int))]) ⟨rfl, rfl, trivial⟩ ?_
    refine WL.indexAddrE (j := k) Try.underlying43 isz_24 rfl rfl rfl rfl hj7 hE7 ?_
    exact WL.nil (N.cut () ⟨rfl, trivial⟩ (Below.refl _ _))
   refine And.intro (fun β w hS => ?_) ?_
   ·
    refine WL.sub (σ' := [(34, .pointer (some ⟨b7, o7 + k * 4, none⟩))]) ⟨rfl, trivial⟩ ?_
    refine WL.loadN (cs := [.string x7.name, .int .i64 x7.bind, .int .i64 x7.params, .slice adb7 x7.blocks.length capb7]) agg_24 rfl rfl rfl rfl (hS.roCells hr7 hc7) ?_
    exact WL.nil (N.cut () ⟨rfl, trivial⟩ (Below.refl _ _))
   refine And.intro (fun β w hS => ?_) ?_
   ·
    refine WL.sub (σ' := [(3, .pointer (some ⟨b3, 0, none⟩))]) ⟨rfl, trivial⟩ ?_
    refine WL.fieldAddr fo_46_0 rfl rfl rfl ?_
    exact WL.nil (N.cut () ⟨rfl, trivial⟩ (Below.refl _ _))
   refine And.intro (fun β w hS => ?_) ?_
   ·
    refine WL.sub (σ' := [(36, .pointer (some ⟨b3, 0, none⟩))]) ⟨rfl, trivial⟩ ?_
    refine WL.load1 (v := .slice adfy x.funcs.length capfy) one_43 rfl rfl rfl (hS.cell 0 rfl rfl) ?_
    exact WL.nil (N.cut () ⟨rfl, trivial⟩ (Below.refl _ _))
   refine And.intro (fun β w hS => ?_) ?_
   ·
    refine WL.sub (σ' := [(5, .int .i64 (k : Int))]) ⟨rfl, trivial⟩ ?_
    refine WL.move rfl rfl rfl ?_
    exact WL.nil (N.cut () ⟨rfl, trivial⟩ (Below.refl _ _))
   refine And.intro (fun β w hS => ?_) ?_
   ·
    refine WL.sub (σ' := [(37, .slice adfy x.funcs.length capfy), (38, .int .i64 (k : Int))]) ⟨rfl, rfl, trivial⟩ ?_
    refine WL.indexAddrE (j := k) Try.underlying43 isz_24 rfl rfl rfl rfl hj8 hE8 ?_
    exact WL.nil (N.cut () ⟨rfl, trivial⟩ (Below.refl _ _))
   refine And.intro (fun β w hS => ?_) ?_
   ·
    refine WL.sub (σ' := [(39, .pointer (some ⟨b8, o8 + k * 4, none⟩))]) ⟨rfl, trivial⟩ ?_
    refine WL.loadN (cs := [.string x8.name, .int .i64 x8.bind, .int .i64 x8.params, .slice adb8 x8.blocks.length capb8]) agg_24 rfl rfl rfl rfl (hS.roCells hr8 hc8) ?_
    exact WL.nil (N.cut () ⟨rfl, trivial⟩ (Below.refl _ _))
   refine And.intro (fun β w hS => ?_) ?_
   ·
    refine WL.sub (σ' := [(35, .agg #[.string x7.name, .int .i64 x7.bind, .int .i64 x7.params, .slice adb7 x7.blocks.length capb7]), (40, .agg #[.string x8.name, .int .i64 x8.bind, .int .i64 x8.params, .slice adb8 x8.blocks.length capb8])]) ⟨rfl, rfl, trivial⟩ ?_
    refine WL.callF (vs := [.agg #[.string x7.name, .int .i64 x7.bind, .int .i64 x7.params, .slice adb7 x7.blocks.length capb7], .agg #[.string x8.name, .int .i64 x8.bind, .int .i64 x8.params, .slice adb8 x8.blocks.length capb8]]) Try.func24 (by kernel_rfl) rfl rfl rfl (ssameFunc_ret x7 x8 (Option.some.inj (hx7.symm.trans hx8)) _ _ (ro := ro) (fun b hb => (hS.snap b hb).1) (FuncC.keep hQ7 hS.alike) (FuncC.keep hQ8 hS.alike)) ?_
    rintro v w10 ⟨rfl, hbl⟩
    replace hS := hS.grow hbl
    exact WL.nil (N.cut () ⟨rfl, trivial⟩ hbl)
   trivial
  clear hS; intro w11 β hS
  refine WL.sub (σ' := [(2, .pointer (some ⟨b1, 0, none⟩)), (3, .pointer (some ⟨b3, 0, none⟩)), (5, .int .i64 (k : Int)), (41, .bool true)]) ⟨rfl, rfl, rfl, rfl, trivial⟩ ?_
  refine WL.assign rfl rfl rfl (WL.nil (N.seq (W.seq (W.region (WL.move rfl rfl rfl (WL.not rfl rfl rfl ?_))))))
  refine WL.set 43 (v' := .bool false) rfl rfl ?_
  refine WL.nil (N.seq (W.condF rfl (W.skip (N.blk (N.seq (W.region (WL.move rfl rfl rfl ?_)))))))
  refine WL.add (c := (k : Int) + 1) rfl rfl rfl rfl (rfl) (by omega) ?_
  refine WL.assign rfl rfl rfl (WL.nil ?_)
  exact N.loop (k + 1) ⟨rfl, rfl, rfl, trivial⟩ ⟨hS, by omega⟩ (by first | omega | (simp only; omega))
 have hc6p : ¬ ((k : Int) < (x.funcs.length : Int)) := by simpa using hc6
 refine W.exit (X.seq (X.loop (X.blk (N.seq (W.seq (W.seq (W.region (WL.assign rfl rfl rfl (WL.nil ?_)))))))))
 refine N.seq (W.block ?_)
 refine W.loop (α := Nat) (fun (i : Nat) => [(2, .pointer (some ⟨b1, 0, none⟩)), (3, .pointer (some ⟨b3, 0, none⟩)), (7, .int .i64 (i : Int))]) (fun (i : Nat) u => St w w u ro [(b3, .cells #[.slice adfy x.funcs.length capfy, .slice adgy x.globs.length capgy] 46 (0, 0)), (b1, .cells #[.slice adfx x.funcs.length capfx, .slice adgx x.globs.length capgx] 46 (0, 0))] [] ∧ i ≤ x.globs.length) (fun (i : Nat) => x.globs.length - i) 0 ⟨rfl, rfl, rfl, trivial⟩ ⟨hS, Nat.zero_le _⟩ ?_
 clear hS
 rintro i w12 ⟨hS, hi⟩
 refine W.seq (W.seq (W.region (WL.move rfl rfl rfl (WL.fieldAddr fo_46_1 rfl rfl rfl (WL.load1 (v := .slice adgx x.globs.length capgx) one_44 rfl rfl rfl (hS.cell 1 rfl rfl) (WL.lenSlice Try.underlying44 rfl rfl rfl (WL.bin rfl rfl rfl rfl rfl (WL.nil (N.seq ?_)))))))))
 refine W.cond rfl (fun hc13 => ?_) (fun hc13 => ?_)
 ·
  have hc13p : (i : Int) < (x.globs.length : Int) := by simpa using hc13
  refine W.skip (N.seq (W.seq (W.block (W.seq ?_))))
  have hj14 : i < x.globs.length := by omega
  obtain ⟨x14, hx14⟩ : ∃ zz, x.globs[i]? = some zz := ⟨_, List.getElem?_eq_getElem hj14⟩
  obtain ⟨b14, o14, cs14, hE14, hr14, hl14, hc14, hQ14⟩ := hgsxd i _ hx14
  obtain ⟨rfl, hgn14, hgb14, hgi14⟩ := hQ14
  have hj15 : i < x.globs.length := by omega
  obtain ⟨x15, hx15⟩ : ∃ zz, x.globs[i]? = some zz := ⟨_, List.getElem?_eq_getElem hj15⟩
  obtain ⟨b15, o15, cs15, hE15, hr15, hl15, hc15, hQ15⟩ := hgsyd i _ hx15
  obtain ⟨rfl, hgn15, hgb15, hgi15⟩ := hQ15
  refine W.drawL (by kernel_rfl) 11 ((.q (.pointer (some ⟨b1, 1, none⟩))) :: (.q (.slice adgx x.globs.length capgx)) :: (.q (.int .i64 (i : Int))) :: (.q (.pointer (some ⟨b14, o14 + i * 4, none⟩))) :: (.q (.agg #[.string x14.name, .int .i64 x14.bind, .bool x14.here, .int .u64 x14.init])) :: (.q (.pointer (some ⟨b3, 1, none⟩))) :: (.q (.slice adgy x.globs.length capgy)) :: (.q (.int .i64 (i : Int))) :: (.q (.pointer (some ⟨b15, o15 + i * 4, none⟩))) :: (.q (.agg #[.string x15.name, .int .i64 x15.bind, .bool x15.here, .int .u64 x15.init])) :: (.q (.bool false)) :: []) (by kernel_rfl) (by kernel_rfl) [(2, .pointer (some ⟨b1, 0, none⟩)), (3, .pointer (some ⟨b3, 0, none⟩)), (7, .int .i64 (i : Int))] ⟨rfl, rfl, rfl, trivial⟩ (by kernel_rfl) hS ?_ ?_
  ·
   refine And.intro (fun β w hS => ?_) ?_
   ·
    refine WL.sub (σ' := [(2, .pointer (some ⟨b1, 0, none⟩))]) ⟨rfl, trivial⟩ ?_
    refine WL.fieldAddr fo_46_1 rfl rfl rfl ?_
    exact WL.nil (N.cut () ⟨rfl, trivial⟩ (Below.refl _ _))
   refine And.intro (fun β w hS => ?_) ?_
   ·
    refine WL.sub (σ' := [(51, .pointer (some ⟨b1, 1, none⟩))]) ⟨rfl, trivial⟩ ?_
    refine WL.load1 (v := .slice adgx x.globs.length capgx) one_44 rfl rfl rfl (hS.cell 1 rfl rfl) ?_
    exact WL.nil (N.cut () ⟨rfl, trivial⟩ (Below.refl _ _))
   refine And.intro (fun β w hS => ?_) ?_
   ·
    refine WL.sub (σ' := [(7, .int .i64 (i : Int))]) ⟨rfl, trivial⟩ ?_
    refine WL.move rfl rfl rfl ?_
    exact WL.nil (N.cut () ⟨rfl, trivial⟩ (Below.refl _ _))
   refine And.intro (fun β w hS => ?_) ?_
   ·
    refine WL.sub (σ' := [(52, .slice adgx x.globs.length capgx), (53, .int .i64 (i : Int))]) ⟨rfl, rfl, trivial⟩ ?_
    refine WL.indexAddrE (j := i) Try.underlying44 isz_71 rfl rfl rfl rfl hj14 hE14 ?_
    exact WL.nil (N.cut () ⟨rfl, trivial⟩ (Below.refl _ _))
   refine And.intro (fun β w hS => ?_) ?_
   ·
    refine WL.sub (σ' := [(54, .pointer (some ⟨b14, o14 + i * 4, none⟩))]) ⟨rfl, trivial⟩ ?_
    refine WL.loadN (cs := [.string x14.name, .int .i64 x14.bind, .bool x14.here, .int .u64 x14.init]) agg_71 rfl rfl rfl rfl (hS.roCells hr14 hc14) ?_
    exact WL.nil (N.cut () ⟨rfl, trivial⟩ (Below.refl _ _))
   refine And.intro (fun β w hS => ?_) ?_
   ·
    refine WL.sub (σ' := [(3, .pointer (some ⟨b3, 0, none⟩))]) ⟨rfl, trivial⟩ ?_
    refine WL.fieldAddr fo_46_1 rfl rfl rfl ?_
    exact WL.nil (N.cut () ⟨rfl, trivial⟩ (Below.refl _ _))
   refine And.intro (fun β w hS => ?_) ?_
   ·
    refine WL.sub (σ' := [(56, .pointer (some ⟨b3, 1, none⟩))]) ⟨rfl, trivial⟩ ?_
    refine WL.load1 (v := .slice adgy x.globs.length capgy) one_44 rfl rfl rfl (hS.cell 0 rfl rfl) ?_
    exact WL.nil (N.cut () ⟨rfl, trivial⟩ (Below.refl _ _))
   refine And.intro (fun β w hS => ?_) ?_
   ·
    refine WL.sub (σ' := [(7, .int .i64 (i : Int))]) ⟨rfl, trivial⟩ ?_
    refine WL.move rfl rfl rfl ?_
    exact WL.nil (N.cut () ⟨rfl, trivial⟩ (Below.refl _ _))
   refine And.intro (fun β w hS => ?_) ?_
   ·
    refine WL.sub (σ' := [(57, .slice adgy x.globs.length capgy), (58, .int .i64 (i : Int))]) ⟨rfl, rfl, trivial⟩ ?_
    refine WL.indexAddrE (j := i) Try.underlying44 isz_71 rfl rfl rfl rfl hj15 hE15 ?_
    exact WL.nil (N.cut () ⟨rfl, trivial⟩ (Below.refl _ _))
   refine And.intro (fun β w hS => ?_) ?_
   ·
    refine WL.sub (σ' := [(59, .pointer (some ⟨b15, o15 + i * 4, none⟩))]) ⟨rfl, trivial⟩ ?_
    refine WL.loadN (cs := [.string x15.name, .int .i64 x15.bind, .bool x15.here, .int .u64 x15.init]) agg_71 rfl rfl rfl rfl (hS.roCells hr15 hc15) ?_
    exact WL.nil (N.cut () ⟨rfl, trivial⟩ (Below.refl _ _))
   refine And.intro (fun β w hS => ?_) ?_
   ·
    refine WL.sub (σ' := [(55, .agg #[.string x14.name, .int .i64 x14.bind, .bool x14.here, .int .u64 x14.init]), (60, .agg #[.string x15.name, .int .i64 x15.bind, .bool x15.here, .int .u64 x15.init])]) ⟨rfl, rfl, trivial⟩ ?_
    refine WL.neAgg (decide (x14 = x15)) sglobFields Try.stoodInHeld71 Try.eqGuardType71 (seqGlobT x14 x15) rfl rfl rfl rfl ?_
    refine WL.set 61 (v' := .bool false) rfl (by rw [Option.some.inj (hx14.symm.trans hx15)]; simp) ?_
    exact WL.nil (N.cut () ⟨rfl, trivial⟩ (Below.refl _ _))
   trivial
  clear hS; intro w16 β hS
  refine WL.sub (σ' := [(2, .pointer (some ⟨b1, 0, none⟩)), (3, .pointer (some ⟨b3, 0, none⟩)), (7, .int .i64 (i : Int)), (61, .bool false)]) ⟨rfl, rfl, rfl, rfl, trivial⟩ ?_
  refine WL.nil (N.seq (W.condF rfl (W.skip (N.blk (N.seq (W.region (WL.move rfl rfl rfl ?_)))))))
  refine WL.add (c := (i : Int) + 1) rfl rfl rfl rfl (rfl) (by omega) ?_
  refine WL.assign rfl rfl rfl (WL.nil ?_)
  exact N.loop (i + 1) ⟨rfl, rfl, rfl, trivial⟩ ⟨hS, by omega⟩ (by first | omega | (simp only; omega))
 have hc13p : ¬ ((i : Int) < (x.globs.length : Int)) := by simpa using hc13
 refine W.exit (X.seq (X.loop (X.blk (N.seq (W.seq (W.region (WL.assign rfl rfl rfl (WL.nil (N.seq ?_)))))))))
 refine Fin.ret1 rfl (v := .bool true) rfl ?_
 exact ⟨rfl, hS.below⟩

theorem sbools_ret (xs : List Bool) (vx vy : Value) {w : World} {ro : Nat → Prop} (hro : ∀ b, ro b → b < w.heap.size) (hx : SlV ro w 1 BoolC vx xs) (hy : SlV ro w 1 BoolC vy xs) : Ret Try.prog 21 #[vx, vy] w fun v w' => v = .bool true ∧ Below w.heap.size w w' := by
 obtain ⟨ad, cap, rfl, haa, hab, hac, had⟩ := id hx
 have ham : xs.length ≤ 9223372036854775807 := by have h1 := haa; have h2 := hab; unfold maxLen at h2; omega
 obtain ⟨bd, cbp, rfl, hba, hbb, hbc, hbd⟩ := id hy
 have hbm : xs.length ≤ 9223372036854775807 := by have h1 := hba; have h2 := hbb; unfold maxLen at h2; omega
 refine Ret.enter (P := Try.prog) (n := 26) (args := [.slice ad xs.length cap, .slice bd xs.length cbp]) (σ := [(0, .slice ad xs.length cap), (1, .slice bd xs.length cbp)]) Try.func21 rfl rfl rfl rfl ?_
 have hS := St.start (ro := ro) hro
 refine W.seq (W.region (WL.assign rfl rfl rfl (WL.nil (N.seq (W.seq (W.seq (W.region (WL.move rfl rfl rfl (WL.lenSlice Try.underlying40 rfl rfl rfl ?_)))))))))
 refine WL.move rfl rfl rfl (WL.lenSlice Try.underlying40 rfl rfl rfl (WL.bin rfl rfl rfl rfl rfl ?_))
 refine WL.set 10 (v' := .bool false) rfl (by simp) ?_
 refine WL.nil (N.seq (W.condF rfl (W.skip (N.seq (W.seq (W.seq (W.region (WL.assign rfl rfl rfl (WL.nil ?_)))))))))
 refine N.seq (W.block ?_)
 refine W.loop (α := Nat) (fun (k : Nat) => [(0, .slice ad xs.length cap), (1, .slice bd xs.length cbp), (5, .int .i64 (k : Int))]) (fun (k : Nat) u => St w w u ro [] [] ∧ k ≤ xs.length) (fun (k : Nat) => xs.length - k) 0 ⟨rfl, rfl, rfl, trivial⟩ ⟨hS, Nat.zero_le _⟩ ?_
 clear hS
 rintro k w1 ⟨hS, hk⟩
 refine W.seq (W.seq (W.region (WL.move rfl rfl rfl (WL.move rfl rfl rfl (WL.lenSlice Try.underlying40 rfl rfl rfl (WL.bin rfl rfl rfl rfl rfl (WL.nil (N.seq ?_))))))))
 refine W.cond rfl (fun hc2 => ?_) (fun hc2 => ?_)
 ·
  have hc2p : (k : Int) < (xs.length : Int) := by simpa using hc2
  refine W.skip (N.seq (W.seq (W.block (W.seq ?_))))
  have hj3 : k < xs.length := by omega
  obtain ⟨x3, hx3⟩ : ∃ zz, xs[k]? = some zz := ⟨_, List.getElem?_eq_getElem hj3⟩
  obtain ⟨b3, o3, cs3, hE3, hr3, hl3, hc3, hQ3⟩ := had k _ hx3
  cases hQ3
  have hj4 : k < xs.length := by omega
  obtain ⟨x4, hx4⟩ : ∃ zz, xs[k]? = some zz := ⟨_, List.getElem?_eq_getElem hj4⟩
  obtain ⟨b4, o4, cs4, hE4, hr4, hl4, hc4, hQ4⟩ := hbd k _ hx4
  cases hQ4
  refine W.drawL (by kernel_rfl) 9 ((.q (.slice ad xs.length cap)) :: (.q (.int .i64 (k : Int))) :: (.q (.pointer (some ⟨b3, o3 + k * 1, none⟩))) :: (.q (.bool x3)) :: (.q (.slice bd xs.length cbp)) :: (.q (.int .i64 (k : Int))) :: (.q (.pointer (some ⟨b4, o4 + k * 1, none⟩))) :: (.q (.bool x4)) :: (.q (.bool false)) :: []) (by kernel_rfl) (by kernel_rfl) [(0, .slice ad xs.length cap), (1, .slice bd xs.length cbp), (5, .int .i64 (k : Int))] ⟨rfl, rfl, rfl, trivial⟩ (by kernel_rfl) hS ?_ ?_
  ·
   refine And.intro (fun β w hS => ?_) ?_
   ·
    refine WL.sub (σ' := [(0, .slice ad xs.length cap)]) ⟨rfl, trivial⟩ ?_
    refine WL.move rfl rfl rfl ?_
    exact WL.nil (N.cut () ⟨rfl, trivial⟩ (Below.refl _ _))
   refine And.intro (fun β w hS => ?_) ?_
   ·
    refine WL.sub (σ' := [(5, .int .i64 (k : Int))]) ⟨rfl, trivial⟩ ?_
    refine WL.move rfl rfl rfl ?_
    exact WL.nil (N.cut () ⟨rfl, trivial⟩ (Below.refl _ _))
   refine And.intro (fun β w hS => ?_) ?_
   ·
    refine WL.sub (σ' := [(17, .slice ad xs.length cap), (18, .int .i64 (k : Int))]) ⟨rfl, rfl, trivial⟩ ?_
    refine WL.indexAddrE (j := k) Try.underlying40 isz_4 rfl rfl rfl rfl hj3 hE3 ?_
    exact WL.nil (N.cut () ⟨rfl, trivial⟩ (Below.refl _ _))
   refine And.intro (fun β w hS => ?_) ?_
   ·
    refine WL.sub (σ' := [(19, .pointer (some ⟨b3, o3 + k * 1, none⟩))]) ⟨rfl, trivial⟩ ?_
    refine WL.load1 (v := .bool x3) one_4 rfl rfl rfl (hS.roCells hr3 hc3 0 _ rfl) ?_
    exact WL.nil (N.cut () ⟨rfl, trivial⟩ (Below.refl _ _))
   refine And.intro (fun β w hS => ?_) ?_
   ·
    refine WL.sub (σ' := [(1, .slice bd xs.length cbp)]) ⟨rfl, trivial⟩ ?_
    refine WL.move rfl rfl rfl ?_
    exact WL.nil (N.cut () ⟨rfl, trivial⟩ (Below.refl _ _))
   refine And.intro (fun β w hS => ?_) ?_
   ·
    refine WL.sub (σ' := [(5, .int .i64 (k : Int))]) ⟨rfl, trivial⟩ ?_
    refine WL.move rfl rfl rfl ?_
    exact WL.nil (N.cut () ⟨rfl, trivial⟩ (Below.refl _ _))
   refine And.intro (fun β w hS => ?_) ?_
   ·
    refine WL.sub (σ' := [(21, .slice bd xs.length cbp), (22, .int .i64 (k : Int))]) ⟨rfl, rfl, trivial⟩ ?_
    refine WL.indexAddrE (j := k) Try.underlying40 isz_4 rfl rfl rfl rfl hj4 hE4 ?_
    exact WL.nil (N.cut () ⟨rfl, trivial⟩ (Below.refl _ _))
   refine And.intro (fun β w hS => ?_) ?_
   ·
    refine WL.sub (σ' := [(23, .pointer (some ⟨b4, o4 + k * 1, none⟩))]) ⟨rfl, trivial⟩ ?_
    refine WL.load1 (v := .bool x4) one_4 rfl rfl rfl (hS.roCells hr4 hc4 0 _ rfl) ?_
    exact WL.nil (N.cut () ⟨rfl, trivial⟩ (Below.refl _ _))
   refine And.intro (fun β w hS => ?_) ?_
   ·
    refine WL.sub (σ' := [(20, .bool x3), (24, .bool x4)]) ⟨rfl, rfl, trivial⟩ ?_
    refine WL.neBool Try.underlying4 rfl rfl rfl rfl ?_
    refine WL.set 25 (v' := .bool false) rfl (by rw [Option.some.inj (hx3.symm.trans hx4)]; simp) ?_
    exact WL.nil (N.cut () ⟨rfl, trivial⟩ (Below.refl _ _))
   trivial
  clear hS; intro w5 β hS
  refine WL.sub (σ' := [(0, .slice ad xs.length cap), (1, .slice bd xs.length cbp), (5, .int .i64 (k : Int)), (25, .bool false)]) ⟨rfl, rfl, rfl, rfl, trivial⟩ ?_
  refine WL.nil (N.seq (W.condF rfl (W.skip (N.blk (N.seq (W.region (WL.move rfl rfl rfl ?_)))))))
  refine WL.add (c := (k : Int) + 1) rfl rfl rfl rfl (rfl) (by omega) ?_
  refine WL.assign rfl rfl rfl (WL.nil ?_)
  exact N.loop (k + 1) ⟨rfl, rfl, rfl, trivial⟩ ⟨hS, by omega⟩ (by first | omega | (simp only; omega))
 have hc2p : ¬ ((k : Int) < (xs.length : Int)) := by simpa using hc2
 refine W.exit (X.seq (X.loop (X.blk (N.seq (W.seq (W.region (WL.assign rfl rfl rfl (WL.nil (N.seq ?_)))))))))
 refine Fin.ret1 rfl (v := .bool true) rfl ?_
 exact ⟨rfl, hS.below⟩

end Go.Proofs.Ytdlcmhkfglckfaa
