/-
  Contracts of the document's runs (marlineref07). No condition beyond those that each theorem states.
-/
import Derived.Test.YtdlcmhkfglckfaaE2
namespace Go.Proofs.Ytdlcmhkfglckfaa
open Go.RowKit
theorem fo_58_2 : fOff Try.prog 58 2 2 = true := by kernel_rfl
theorem fo_58_3 : fOff Try.prog 58 3 3 = true := by kernel_rfl
theorem fo_84_1 : fOff Try.prog 84 1 6 = true := by kernel_rfl
theorem one_82 : tyOne Try.prog 82 = true := by kernel_rfl
theorem siz_34 : tySize Try.prog 34 1 = true := by kernel_rfl
theorem siz_82 : tySize Try.prog 82 1 = true := by kernel_rfl
theorem siz_9 : tySize Try.prog 9 1 = true := by kernel_rfl
theorem zer_5 : tyZero Try.prog 5 = some [.int .u8 0] := by kernel_rfl
set_option maxRecDepth 10000 in
set_option maxHeartbeats 4000000 in
theorem gives7_ret (m : DMod) (cm : List Value) (Y Y' : DW) (gv : Value) (inp : ByteArray) (x : DInst) (cx : List Value) (vals : List Int) (vv : Value) (k fuel : Int) (hY : gives7 m Y inp x vals = (Y', k)) {w : World} {ro : Nat → Prop} (hro : ∀ b, ro b → b < w.heap.size) (hm : ModC ro w cm m) (hg : SlV ro w 1 U64C gv Y.globs) (hx : InstC ro w cx x) (hv : SlV ro w 1 U64C vv vals) (hI : Inv7 m fuel 1 Y) (hfu : fuel ≤ 100000) (h5 : inst5 x vals.length = true) (ho : x.op ≠ 14) (hgl : x.op = 12 ∨ x.op = 13 → 0 ≤ (find5 (gnames m) x.name) ∧ (find5 (gnames m) x.name).toNat < m.globs.length) (hng : Y.globs.length ≤ 1000000) : Ret Try.prog 61 #[.agg cm.toArray, .agg #[.bool Y.t.ended, .int .u64 Y.t.code, .string Y.t.out, .int .i64 Y.t.read, .int .i64 Y.t.steps, .int .i64 Y.t.deep, gv, .int .i64 Y.bad], .string inp, .agg cx.toArray, vv] w fun v w' => ∃ gv', v = .tuple #[.agg #[.bool Y'.t.ended, .int .u64 Y'.t.code, .string Y'.t.out, .int .i64 Y'.t.read, .int .i64 Y'.t.steps, .int .i64 Y'.t.deep, gv', .int .i64 Y'.bad], .int .u64 k] ∧ SlV (roFrom ro w w') w' 1 U64C gv' Y'.globs ∧ inU k ∧ Below w.heap.size w w' := by
 obtain ⟨sf, sg, rfl, hfs, hgs⟩ := id hm
 obtain ⟨adf, capf, rfl, hfsa, hfsb, hfsc, hfsd⟩ := id hfs
 have hfsm : m.funcs.length ≤ 9223372036854775807 := by have h1 := hfsa; have h2 := hfsb; unfold maxLen at h2; omega
 obtain ⟨adg, capg, rfl, hgsa, hgsb, hgsc, hgsd⟩ := id hgs
 have hgsm : m.globs.length ≤ 9223372036854775807 := by have h1 := hgsa; have h2 := hgsb; unfold maxLen at h2; omega
 obtain ⟨ga, gc, rfl, hga, hgb, hgc, hgd⟩ := id hg
 have hgm : Y.globs.length ≤ 9223372036854775807 := by have h1 := hga; have h2 := hgb; unfold maxLen at h2; omega
 obtain ⟨sx, rfl, hsx, hox, hax, hbx, hkx, hnx⟩ := id hx
 obtain ⟨adx, capx, rfl, hsxa, hsxb, hsxc, hsxd⟩ := id hsx
 have hsxm : x.args.length ≤ 9223372036854775807 := by have h1 := hsxa; have h2 := hsxb; unfold maxLen at h2; omega
 obtain ⟨ads, caps, rfl, hva, hvb, hvc, hvd⟩ := id hv
 have hvm : vals.length ≤ 9223372036854775807 := by have h1 := hva; have h2 := hvb; unfold maxLen at h2; omega
 obtain ⟨hI1, hI2, hI3, hI4, hI5, hI6⟩ := hI
 obtain ⟨hua, hub, _⟩ := inst5_uses h5
 obtain ⟨_, _, ho1, ho2⟩ := inst5_all h5
 refine Ret.enter (P := Try.prog) (n := 109) (args := [.agg #[.slice adf m.funcs.length capf, .slice adg m.globs.length capg], .agg #[.bool Y.t.ended, .int .u64 Y.t.code, .string Y.t.out, .int .i64 Y.t.read, .int .i64 Y.t.steps, .int .i64 Y.t.deep, .slice ga Y.globs.length gc, .int .i64 Y.bad], .string inp, .agg #[.int .i64 x.op, .int .i64 x.a, .int .i64 x.b, .int .u64 x.k, .string x.name, .slice adx x.args.length capx], .slice ads vals.length caps]) (σ := [(0, .agg #[.slice adf m.funcs.length capf, .slice adg m.globs.length capg]), (1, .agg #[.bool Y.t.ended, .int .u64 Y.t.code, .string Y.t.out, .int .i64 Y.t.read, .int .i64 Y.t.steps, .int .i64 Y.t.deep, .slice ga Y.globs.length gc, .int .i64 Y.bad]), (2, .string inp), (3, .agg #[.int .i64 x.op, .int .i64 x.a, .int .i64 x.b, .int .u64 x.k, .string x.name, .slice adx x.args.length capx]), (4, .slice ads vals.length caps)]) Try.func61 rfl rfl rfl rfl ?_
 have hS := St.start (ro := ro) hro
 refine W.seq (W.region ?_)
 refine WL.box (v := .agg #[.slice adf m.funcs.length capf, .slice adg m.globs.length capg]) (cs := [.slice adf m.funcs.length capf, .slice adg m.globs.length capg]) rfl rfl rfl rfl hS ?_
 clear hS; intro w2 b1 hb_b1 hS
 refine WL.box (v := .agg #[.bool Y.t.ended, .int .u64 Y.t.code, .string Y.t.out, .int .i64 Y.t.read, .int .i64 Y.t.steps, .int .i64 Y.t.deep, .slice ga Y.globs.length gc, .int .i64 Y.bad]) (cs := [.bool Y.t.ended, .int .u64 Y.t.code, .string Y.t.out, .int .i64 Y.t.read, .int .i64 Y.t.steps, .int .i64 Y.t.deep, .slice ga Y.globs.length gc, .int .i64 Y.bad]) rfl rfl rfl rfl hS ?_
 clear hS; intro w4 b3 hb_b3 hS
 refine WL.box (v := .agg #[.int .i64 x.op, .int .i64 x.a, .int .i64 x.b, .int .u64 x.k, .string x.name, .slice adx x.args.length capx]) (cs := [.int .i64 x.op, .int .i64 x.a, .int .i64 x.b, .int .u64 x.k, .string x.name, .slice adx x.args.length capx]) rfl rfl rfl rfl hS ?_
 clear hS; intro w6 b5 hb_b5 hS
 refine WL.alloc (tyZero_spec zer_84) rfl rfl hS ?_
 clear hS; intro w8 b7 hb_b7 hS
 refine WL.assign rfl rfl rfl (WL.nil (N.seq (W.seq (W.seq (W.region (WL.fieldAddr fo_36_0 rfl rfl rfl (WL.load1 (v := .int .i64 x.op) one_3 rfl rfl rfl (hS.cell 1 rfl rfl) (WL.bin rfl rfl rfl rfl rfl (WL.nil ?_)))))))))
 refine N.seq ?_
 refine W.cond rfl (fun hc9 => ?_) (fun hc9 => ?_)
 ·
  have hc9p : x.op = 1 := by simpa using hc9
  refine W.seq ?_
  refine W.drawS (L' := [(b7, .cells #[.bool Y.t.ended, .int .u64 Y.t.code, .string Y.t.out, .int .i64 Y.t.read, .int .i64 Y.t.steps, .int .i64 Y.t.deep, .slice ga Y.globs.length gc, .int .i64 Y.bad] 84 (0, 0)), (b5, .cells #[.int .i64 x.op, .int .i64 x.a, .int .i64 x.b, .int .u64 x.k, .string x.name, .slice adx x.args.length capx] 36 (0, 0)), (b3, .cells #[.bool Y.t.ended, .int .u64 Y.t.code, .string Y.t.out, .int .i64 Y.t.read, .int .i64 Y.t.steps, .int .i64 Y.t.deep, .slice ga Y.globs.length gc, .int .i64 Y.bad] 84 (0, 0)), (b1, .cells #[.slice adf m.funcs.length capf, .slice adg m.globs.length capg] 46 (0, 0))]) (by kernel_rfl) 4 3 [(.agg #[.bool Y.t.ended, .int .u64 Y.t.code, .string Y.t.out, .int .i64 Y.t.read, .int .i64 Y.t.steps, .int .i64 Y.t.deep, .slice ga Y.globs.length gc, .int .i64 Y.bad], true), (.pointer (some ⟨b5, 3, none⟩), false), (.int .u64 x.k, false), (undef, false)] (by kernel_rfl) rfl (by kernel_rfl) rfl rfl [(2, .string inp), (4, .slice ads vals.length caps), (5, .pointer (some ⟨b1, 0, none⟩)), (6, .pointer (some ⟨b3, 0, none⟩)), (8, .pointer (some ⟨b5, 0, none⟩)), (10, .pointer (some ⟨b7, 0, none⟩)), (11, .int .u64 0)] ⟨rfl, rfl, rfl, rfl, rfl, rfl, rfl, trivial⟩ rfl hS ?_ ?_
  ·
   refine And.intro (fun C hC wd hCw => ?_) ?_
   ·
    rcases hC with rfl | hC
    ·
     refine WL.sub (σ' := [(6, .pointer (some ⟨b3, 0, none⟩))]) ⟨rfl, trivial⟩ ?_
     replace hS := hCw
     refine WL.loadN (cs := [.bool Y.t.ended, .int .u64 Y.t.code, .string Y.t.out, .int .i64 Y.t.read, .int .i64 Y.t.steps, .int .i64 Y.t.deep, .slice ga Y.globs.length gc, .int .i64 Y.bad]) agg_84 rfl rfl rfl rfl (hS.cells 2 (m := 8) rfl rfl) ?_
     exact WL.nil (N.cut () ⟨rfl, trivial⟩ (Below.refl _ _))
    exact False.elim hC
   refine And.intro (fun C hC wd hCw => ?_) ?_
   ·
    rcases hC with rfl | hC
    ·
     refine WL.sub (σ' := [(8, .pointer (some ⟨b5, 0, none⟩))]) ⟨rfl, trivial⟩ ?_
     replace hS := hCw
     refine WL.fieldAddr fo_36_3 rfl rfl rfl ?_
     exact WL.nil (N.cut () ⟨rfl, trivial⟩ (Below.refl _ _))
    cases hC
    refine WL.sub (σ' := [(8, .pointer (some ⟨b5, 0, none⟩))]) ⟨rfl, trivial⟩ ?_
    replace hS := hCw
    refine WL.fieldAddr fo_36_3 rfl rfl rfl ?_
    exact WL.nil (N.cut () ⟨rfl, trivial⟩ (Below.refl _ _))
   refine And.intro (fun C hC wd hCw => ?_) ?_
   ·
    rcases hC with rfl | hC
    ·
     refine WL.sub (σ' := [(17, .pointer (some ⟨b5, 3, none⟩))]) ⟨rfl, trivial⟩ ?_
     replace hS := hCw
     refine WL.load1 (v := .int .u64 x.k) one_34 rfl rfl rfl (hS.cell 1 rfl rfl) ?_
     exact WL.nil (N.cut () ⟨rfl, trivial⟩ (Below.refl _ _))
    cases hC
    refine WL.sub (σ' := [(17, .pointer (some ⟨b5, 3, none⟩))]) ⟨rfl, trivial⟩ ?_
    replace hS := hCw
    refine WL.load1 (v := .int .u64 x.k) one_34 rfl rfl rfl (hS.cell 1 rfl rfl) ?_
    exact WL.nil (N.cut () ⟨rfl, trivial⟩ (Below.refl _ _))
   refine And.intro (fun wd hCw => ?_) ?_
   ·
    refine WL.sub (σ' := [(10, .pointer (some ⟨b7, 0, none⟩)), (16, .agg #[.bool Y.t.ended, .int .u64 Y.t.code, .string Y.t.out, .int .i64 Y.t.read, .int .i64 Y.t.steps, .int .i64 Y.t.deep, .slice ga Y.globs.length gc, .int .i64 Y.bad])]) ⟨rfl, rfl, trivial⟩ ?_
    replace hS := hCw
    refine WL.store (L' := [(b7, .cells #[.bool Y.t.ended, .int .u64 Y.t.code, .string Y.t.out, .int .i64 Y.t.read, .int .i64 Y.t.steps, .int .i64 Y.t.deep, .slice ga Y.globs.length gc, .int .i64 Y.bad] 84 (0, 0)), (b5, .cells #[.int .i64 x.op, .int .i64 x.a, .int .i64 x.b, .int .u64 x.k, .string x.name, .slice adx x.args.length capx] 36 (0, 0)), (b3, .cells #[.bool Y.t.ended, .int .u64 Y.t.code, .string Y.t.out, .int .i64 Y.t.read, .int .i64 Y.t.steps, .int .i64 Y.t.deep, .slice ga Y.globs.length gc, .int .i64 Y.bad] 84 (0, 0)), (b1, .cells #[.slice adf m.funcs.length capf, .slice adg m.globs.length capg] 46 (0, 0))]) 0 rfl rfl rfl rfl siz_84 rfl rfl rfl rfl rfl hS ?_
    clear hS; intro w11 hS
    exact WL.nil (N.cut () trivial hS)
   trivial
  clear hS; intro w12 hS
  refine WL.sub (σ' := [(2, .string inp), (4, .slice ads vals.length caps), (5, .pointer (some ⟨b1, 0, none⟩)), (6, .pointer (some ⟨b3, 0, none⟩)), (8, .pointer (some ⟨b5, 0, none⟩)), (10, .pointer (some ⟨b7, 0, none⟩)), (11, .int .u64 0), (18, .int .u64 x.k)]) ⟨rfl, rfl, rfl, rfl, rfl, rfl, rfl, rfl, trivial⟩ ?_
  refine WL.assign rfl rfl rfl (WL.nil (N.seq ?_))
  refine Fin.retCT rfl (v := .agg #[.bool Y.t.ended, .int .u64 Y.t.code, .string Y.t.out, .int .i64 Y.t.read, .int .i64 Y.t.steps, .int .i64 Y.t.deep, .slice ga Y.globs.length gc, .int .i64 Y.bad]) (v' := .int .u64 x.k) rfl (tyAgg_run agg_84 (cs := [.bool Y.t.ended, .int .u64 Y.t.code, .string Y.t.out, .int .i64 Y.t.read, .int .i64 Y.t.steps, .int .i64 Y.t.deep, .slice ga Y.globs.length gc, .int .i64 Y.bad]) rfl (hS.cells 0 (m := 8) rfl rfl)) rfl ?_
  have hal : Alike ro w (roFrom ro w w12) w12 := fun b hb => ⟨.inl hb, hS.below.block b (hro b hb)⟩
  have e : gives7 m Y inp x vals = (Y, x.k) := by rw [gives7, if_pos (by omega)]
  obtain ⟨rfl, rfl⟩ := Prod.mk.inj (e.symm.trans hY)
  exact ⟨.slice ga Y.globs.length gc, rfl, SlV.keep hg hal (fun _ _ q => q), hkx, hS.below⟩
 have hc9p : ¬ (x.op = 1) := by simpa using hc9
 refine W.skip (N.seq (W.seq (W.seq (W.region (WL.fieldAddr fo_36_0 rfl rfl rfl (WL.load1 (v := .int .i64 x.op) one_3 rfl rfl rfl (hS.cell 1 rfl rfl) (WL.bin rfl rfl rfl rfl rfl (WL.nil (N.seq ?_)))))))))
 refine W.cond rfl (fun hc13 => ?_) (fun hc13 => ?_)
 ·
  have hc13p : x.op = 12 := by simpa using hc13
  refine W.seq ?_
  obtain ⟨hz0, hz1⟩ := hgl (by omega)
  rw [← hI1] at hz1
  have hj14 : (find5 (gnames m) x.name).toNat < Y.globs.length := hz1
  obtain ⟨x14, hx14⟩ : ∃ zz, Y.globs[(find5 (gnames m) x.name).toNat]? = some zz := ⟨_, List.getElem?_eq_getElem hj14⟩
  obtain ⟨b14, o14, cs14, hE14, hr14, hl14, hc14, hQ14⟩ := hgd ((find5 (gnames m) x.name).toNat) _ hx14
  obtain ⟨rfl, hu14⟩ := hQ14
  refine W.drawS (L' := [(b7, .cells #[.bool Y.t.ended, .int .u64 Y.t.code, .string Y.t.out, .int .i64 Y.t.read, .int .i64 Y.t.steps, .int .i64 Y.t.deep, .slice ga Y.globs.length gc, .int .i64 Y.bad] 84 (0, 0)), (b5, .cells #[.int .i64 x.op, .int .i64 x.a, .int .i64 x.b, .int .u64 x.k, .string x.name, .slice adx x.args.length capx] 36 (0, 0)), (b3, .cells #[.bool Y.t.ended, .int .u64 Y.t.code, .string Y.t.out, .int .i64 Y.t.read, .int .i64 Y.t.steps, .int .i64 Y.t.deep, .slice ga Y.globs.length gc, .int .i64 Y.bad] 84 (0, 0)), (b1, .cells #[.slice adf m.funcs.length capf, .slice adg m.globs.length capg] 46 (0, 0))]) (by kernel_rfl) 10 9 [(.agg #[.bool Y.t.ended, .int .u64 Y.t.code, .string Y.t.out, .int .i64 Y.t.read, .int .i64 Y.t.steps, .int .i64 Y.t.deep, .slice ga Y.globs.length gc, .int .i64 Y.bad], true), (.pointer (some ⟨b3, 6, none⟩), false), (.slice ga Y.globs.length gc, false), (.agg #[.slice adf m.funcs.length capf, .slice adg m.globs.length capg], false), (.pointer (some ⟨b5, 4, none⟩), false), (.string x.name, false), (.int .i64 (find5 (gnames m) x.name), true), (.pointer (some ⟨b14, o14 + ((find5 (gnames m) x.name).toNat) * 1, none⟩), false), (.int .u64 x14, false), (undef, false)] (by kernel_rfl) rfl (by kernel_rfl) rfl rfl [(2, .string inp), (4, .slice ads vals.length caps), (5, .pointer (some ⟨b1, 0, none⟩)), (6, .pointer (some ⟨b3, 0, none⟩)), (8, .pointer (some ⟨b5, 0, none⟩)), (10, .pointer (some ⟨b7, 0, none⟩)), (11, .int .u64 0)] ⟨rfl, rfl, rfl, rfl, rfl, rfl, rfl, trivial⟩ rfl hS ?_ ?_
  ·
   refine And.intro (fun C hC wd hCw => ?_) ?_
   ·
    rcases hC with rfl | hC
    ·
     refine WL.sub (σ' := [(6, .pointer (some ⟨b3, 0, none⟩))]) ⟨rfl, trivial⟩ ?_
     replace hS := hCw
     refine WL.loadN (cs := [.bool Y.t.ended, .int .u64 Y.t.code, .string Y.t.out, .int .i64 Y.t.read, .int .i64 Y.t.steps, .int .i64 Y.t.deep, .slice ga Y.globs.length gc, .int .i64 Y.bad]) agg_84 rfl rfl rfl rfl (hS.cells 2 (m := 8) rfl rfl) ?_
     exact WL.nil (N.cut () ⟨rfl, trivial⟩ (Below.refl _ _))
    exact False.elim hC
   refine And.intro (fun C hC wd hCw => ?_) ?_
   ·
    rcases hC with rfl | hC
    ·
     refine WL.sub (σ' := [(6, .pointer (some ⟨b3, 0, none⟩))]) ⟨rfl, trivial⟩ ?_
     replace hS := hCw
     refine WL.fieldAddr fo_84_1 rfl rfl rfl ?_
     exact WL.nil (N.cut () ⟨rfl, trivial⟩ (Below.refl _ _))
    cases hC
    refine WL.sub (σ' := [(6, .pointer (some ⟨b3, 0, none⟩))]) ⟨rfl, trivial⟩ ?_
    replace hS := hCw
    refine WL.fieldAddr fo_84_1 rfl rfl rfl ?_
    exact WL.nil (N.cut () ⟨rfl, trivial⟩ (Below.refl _ _))
   refine And.intro (fun C hC wd hCw => ?_) ?_
   ·
    rcases hC with rfl | hC
    ·
     refine WL.sub (σ' := [(23, .pointer (some ⟨b3, 6, none⟩))]) ⟨rfl, trivial⟩ ?_
     replace hS := hCw
     refine WL.load1 (v := .slice ga Y.globs.length gc) one_82 rfl rfl rfl (hS.cell 2 rfl rfl) ?_
     exact WL.nil (N.cut () ⟨rfl, trivial⟩ (Below.refl _ _))
    cases hC
    refine WL.sub (σ' := [(23, .pointer (some ⟨b3, 6, none⟩))]) ⟨rfl, trivial⟩ ?_
    replace hS := hCw
    refine WL.load1 (v := .slice ga Y.globs.length gc) one_82 rfl rfl rfl (hS.cell 2 rfl rfl) ?_
    exact WL.nil (N.cut () ⟨rfl, trivial⟩ (Below.refl _ _))
   refine And.intro (fun C hC wd hCw => ?_) ?_
   ·
    rcases hC with rfl | hC
    ·
     refine WL.sub (σ' := [(5, .pointer (some ⟨b1, 0, none⟩))]) ⟨rfl, trivial⟩ ?_
     replace hS := hCw
     refine WL.loadN (cs := [.slice adf m.funcs.length capf, .slice adg m.globs.length capg]) agg_46 rfl rfl rfl rfl (hS.cells 3 (m := 2) rfl rfl) ?_
     exact WL.nil (N.cut () ⟨rfl, trivial⟩ (Below.refl _ _))
    cases hC
    refine WL.sub (σ' := [(5, .pointer (some ⟨b1, 0, none⟩))]) ⟨rfl, trivial⟩ ?_
    replace hS := hCw
    refine WL.loadN (cs := [.slice adf m.funcs.length capf, .slice adg m.globs.length capg]) agg_46 rfl rfl rfl rfl (hS.cells 3 (m := 2) rfl rfl) ?_
    exact WL.nil (N.cut () ⟨rfl, trivial⟩ (Below.refl _ _))
   refine And.intro (fun C hC wd hCw => ?_) ?_
   ·
    rcases hC with rfl | hC
    ·
     refine WL.sub (σ' := [(8, .pointer (some ⟨b5, 0, none⟩))]) ⟨rfl, trivial⟩ ?_
     replace hS := hCw
     refine WL.fieldAddr fo_36_4 rfl rfl rfl ?_
     exact WL.nil (N.cut () ⟨rfl, trivial⟩ (Below.refl _ _))
    cases hC
    refine WL.sub (σ' := [(8, .pointer (some ⟨b5, 0, none⟩))]) ⟨rfl, trivial⟩ ?_
    replace hS := hCw
    refine WL.fieldAddr fo_36_4 rfl rfl rfl ?_
    exact WL.nil (N.cut () ⟨rfl, trivial⟩ (Below.refl _ _))
   refine And.intro (fun C hC wd hCw => ?_) ?_
   ·
    rcases hC with rfl | hC
    ·
     refine WL.sub (σ' := [(26, .pointer (some ⟨b5, 4, none⟩))]) ⟨rfl, trivial⟩ ?_
     replace hS := hCw
     refine WL.load1 (v := .string x.name) one_9 rfl rfl rfl (hS.cell 1 rfl rfl) ?_
     exact WL.nil (N.cut () ⟨rfl, trivial⟩ (Below.refl _ _))
    cases hC
    refine WL.sub (σ' := [(26, .pointer (some ⟨b5, 4, none⟩))]) ⟨rfl, trivial⟩ ?_
    replace hS := hCw
    refine WL.load1 (v := .string x.name) one_9 rfl rfl rfl (hS.cell 1 rfl rfl) ?_
    exact WL.nil (N.cut () ⟨rfl, trivial⟩ (Below.refl _ _))
   refine And.intro (fun C hC wd hCw => ?_) ?_
   ·
    rcases hC with rfl | hC
    ·
     refine WL.sub (σ' := [(25, .agg #[.slice adf m.funcs.length capf, .slice adg m.globs.length capg]), (27, .string x.name)]) ⟨rfl, rfl, trivial⟩ ?_
     replace hS := hCw
     refine WL.callF (vs := [.agg #[.slice adf m.funcs.length capf, .slice adg m.globs.length capg], .string x.name]) Try.func48 (by kernel_rfl) rfl rfl rfl (findgnames_ret m _ x.name (ro := ro) (fun b hb => (hS.snap b hb).1) (ModC.keep hm hS.alike)) ?_
     rintro v w17 ⟨rfl, hbl⟩
     replace hS := hS.grow hbl
     exact WL.nil (N.cut () ⟨rfl, trivial⟩ hbl)
    exact False.elim hC
   refine And.intro (fun C hC wd hCw => ?_) ?_
   ·
    rcases hC with rfl | hC
    ·
     refine WL.sub (σ' := [(24, .slice ga Y.globs.length gc), (28, .int .i64 (find5 (gnames m) x.name))]) ⟨rfl, rfl, trivial⟩ ?_
     replace hS := hCw
     refine WL.set 28 (v' := .int .i64 (((find5 (gnames m) x.name).toNat : Nat) : Int)) rfl (by rw [Int.toNat_of_nonneg hz0]) ?_
     refine WL.indexAddrE (j := (find5 (gnames m) x.name).toNat) Try.underlying82 isz_34 rfl rfl rfl rfl hj14 hE14 ?_
     exact WL.nil (N.cut () ⟨rfl, trivial⟩ (Below.refl _ _))
    cases hC
    refine WL.sub (σ' := [(24, .slice ga Y.globs.length gc), (28, .int .i64 (find5 (gnames m) x.name))]) ⟨rfl, rfl, trivial⟩ ?_
    replace hS := hCw
    refine WL.set 28 (v' := .int .i64 (((find5 (gnames m) x.name).toNat : Nat) : Int)) rfl (by rw [Int.toNat_of_nonneg hz0]) ?_
    refine WL.indexAddrE (j := (find5 (gnames m) x.name).toNat) Try.underlying82 isz_34 rfl rfl rfl rfl hj14 hE14 ?_
    exact WL.nil (N.cut () ⟨rfl, trivial⟩ (Below.refl _ _))
   refine And.intro (fun C hC wd hCw => ?_) ?_
   ·
    rcases hC with rfl | hC
    ·
     refine WL.sub (σ' := [(29, .pointer (some ⟨b14, o14 + ((find5 (gnames m) x.name).toNat) * 1, none⟩))]) ⟨rfl, trivial⟩ ?_
     replace hS := hCw
     refine WL.load1 (v := .int .u64 x14) one_34 rfl rfl rfl (hS.roCells hr14 hc14 0 _ rfl) ?_
     exact WL.nil (N.cut () ⟨rfl, trivial⟩ (Below.refl _ _))
    cases hC
    refine WL.sub (σ' := [(29, .pointer (some ⟨b14, o14 + ((find5 (gnames m) x.name).toNat) * 1, none⟩))]) ⟨rfl, trivial⟩ ?_
    replace hS := hCw
    refine WL.load1 (v := .int .u64 x14) one_34 rfl rfl rfl (hS.roCells hr14 hc14 0 _ rfl) ?_
    exact WL.nil (N.cut () ⟨rfl, trivial⟩ (Below.refl _ _))
   refine And.intro (fun wd hCw => ?_) ?_
   ·
    refine WL.sub (σ' := [(10, .pointer (some ⟨b7, 0, none⟩)), (22, .agg #[.bool Y.t.ended, .int .u64 Y.t.code, .string Y.t.out, .int .i64 Y.t.read, .int .i64 Y.t.steps, .int .i64 Y.t.deep, .slice ga Y.globs.length gc, .int .i64 Y.bad])]) ⟨rfl, rfl, trivial⟩ ?_
    replace hS := hCw
    refine WL.store (L' := [(b7, .cells #[.bool Y.t.ended, .int .u64 Y.t.code, .string Y.t.out, .int .i64 Y.t.read, .int .i64 Y.t.steps, .int .i64 Y.t.deep, .slice ga Y.globs.length gc, .int .i64 Y.bad] 84 (0, 0)), (b5, .cells #[.int .i64 x.op, .int .i64 x.a, .int .i64 x.b, .int .u64 x.k, .string x.name, .slice adx x.args.length capx] 36 (0, 0)), (b3, .cells #[.bool Y.t.ended, .int .u64 Y.t.code, .string Y.t.out, .int .i64 Y.t.read, .int .i64 Y.t.steps, .int .i64 Y.t.deep, .slice ga Y.globs.length gc, .int .i64 Y.bad] 84 (0, 0)), (b1, .cells #[.slice adf m.funcs.length capf, .slice adg m.globs.length capg] 46 (0, 0))]) 0 rfl rfl rfl rfl siz_84 rfl rfl rfl rfl rfl hS ?_
    clear hS; intro w18 hS
    exact WL.nil (N.cut () trivial hS)
   trivial
  clear hS; intro w19 hS
  refine WL.sub (σ' := [(2, .string inp), (4, .slice ads vals.length caps), (5, .pointer (some ⟨b1, 0, none⟩)), (6, .pointer (some ⟨b3, 0, none⟩)), (8, .pointer (some ⟨b5, 0, none⟩)), (10, .pointer (some ⟨b7, 0, none⟩)), (11, .int .u64 0), (30, .int .u64 x14)]) ⟨rfl, rfl, rfl, rfl, rfl, rfl, rfl, rfl, trivial⟩ ?_
  refine WL.assign rfl rfl rfl (WL.nil (N.seq ?_))
  refine Fin.retCT rfl (v := .agg #[.bool Y.t.ended, .int .u64 Y.t.code, .string Y.t.out, .int .i64 Y.t.read, .int .i64 Y.t.steps, .int .i64 Y.t.deep, .slice ga Y.globs.length gc, .int .i64 Y.bad]) (v' := .int .u64 x14) rfl (tyAgg_run agg_84 (cs := [.bool Y.t.ended, .int .u64 Y.t.code, .string Y.t.out, .int .i64 Y.t.read, .int .i64 Y.t.steps, .int .i64 Y.t.deep, .slice ga Y.globs.length gc, .int .i64 Y.bad]) rfl (hS.cells 0 (m := 8) rfl rfl)) rfl ?_
  have hal : Alike ro w (roFrom ro w w19) w19 := fun b hb => ⟨.inl hb, hS.below.block b (hro b hb)⟩
  have e : gives7 m Y inp x vals = (Y, x14) := by rw [gives7, if_neg (by omega), if_pos (by omega), List.getD_eq_getElem?_getD, hx14]; rfl
  obtain ⟨rfl, rfl⟩ := Prod.mk.inj (e.symm.trans hY)
  exact ⟨.slice ga Y.globs.length gc, rfl, SlV.keep hg hal (fun _ _ q => q), hu14, hS.below⟩
 have hc13p : ¬ (x.op = 12) := by simpa using hc13
 refine W.skip (N.seq (W.seq (W.seq (W.region (WL.fieldAddr fo_36_0 rfl rfl rfl (WL.load1 (v := .int .i64 x.op) one_3 rfl rfl rfl (hS.cell 1 rfl rfl) (WL.bin rfl rfl rfl rfl rfl (WL.nil (N.seq ?_)))))))))
 refine W.cond rfl (fun hc20 => ?_) (fun hc20 => ?_)
 ·
  have hc20p : x.op = 13 := by simpa using hc20
  refine W.seq (W.region ?_)
  refine WL.buildSlice0 Try.underlying82 isz_34 rfl rfl hS ?_
  clear hS; intro w22 b21 hS
  refine WL.fieldAddr fo_84_1 rfl rfl rfl (WL.load1 (v := .slice ga Y.globs.length gc) one_82 rfl rfl rfl (hS.cell 2 rfl rfl) ?_)
  obtain ⟨news, hch, hnw, hsp⟩ := elems_news hgd
  refine WL.appendRo (r := ⟨.slice (some ⟨b21, 0, none⟩) 0 0, 34, 1, 0, []⟩) (news := news) 8 Try.underlying82 (tyZero_spec zer_34) byt_34 rfl rfl rfl rfl rfl hch.1 (fun e => ⟨by have := hgc e; omega, hgc e⟩) ?_ hsp (chunks_all hch (by decide) (fun c x h => by rw [h.1]; intro u hu; simp at hu; subst hu; rfl)) rfl rfl hS (by unfold maxLen; simp only; omega) (by simp only; omega) ?_
  ·
   intro b off e
   by_cases hn0 : news = []
   ·
    subst hn0; intro j v hj; simp at hj
   exact hS.roCells ((hnw b off e).2 hn0) (hnw b off e).1
  clear hS; intro w23 v24 hS hnn
  simp only [Nat.zero_add, List.nil_append] at hS
  have hrow : w23.ownsRow w.heap.size 34 1 v24 Y.globs.length _ := hS.rows _ List.mem_cons_self
  obtain ⟨adr, capr, rfl, hr1, hr2, hr3⟩ := row_shape hrow
  clear hrow
  obtain ⟨hz0, hz1⟩ := hgl (by omega)
  rw [← hI1] at hz1
  obtain ⟨gr, rfl⟩ : ∃ g, adr = some ⟨g, 0, none⟩ := row_some (hS.rows _ List.mem_cons_self) (by omega)
  refine WL.assign rfl rfl rfl (WL.nil (N.seq (W.seq ?_)))
  have hza := hua (by omega)
  have hj25 : x.a.toNat < vals.length := by omega
  obtain ⟨x25, hx25⟩ : ∃ zz, vals[x.a.toNat]? = some zz := ⟨_, List.getElem?_eq_getElem hj25⟩
  obtain ⟨b25, o25, cs25, hE25, hr25, hl25, hc25, hQ25⟩ := hvd x.a.toNat _ hx25
  obtain ⟨rfl, hu25⟩ := hQ25
  refine W.drawL (by kernel_rfl) 11 ((.q (.slice (some ⟨gr, 0, none⟩) Y.globs.length capr)) :: (.q (.agg #[.slice adf m.funcs.length capf, .slice adg m.globs.length capg])) :: (.q (.pointer (some ⟨b5, 4, none⟩))) :: (.q (.string x.name)) :: (.q (.int .i64 (find5 (gnames m) x.name))) :: (.q (.slice ads vals.length caps)) :: (.q (.pointer (some ⟨b5, 1, none⟩))) :: (.q (.int .i64 x.a)) :: (.q (.pointer (some ⟨b25, o25 + x.a.toNat * 1, none⟩))) :: (.q (.int .u64 x25)) :: (.q (.pointer (some ⟨gr, 0 + ((find5 (gnames m) x.name).toNat) * 1, none⟩))) :: []) (by kernel_rfl) (by kernel_rfl) [(2, .string inp), (4, .slice ads vals.length caps), (5, .pointer (some ⟨b1, 0, none⟩)), (6, .pointer (some ⟨b3, 0, none⟩)), (8, .pointer (some ⟨b5, 0, none⟩)), (10, .pointer (some ⟨b7, 0, none⟩)), (11, .int .u64 0), (12, .slice (some ⟨gr, 0, none⟩) Y.globs.length capr)] ⟨rfl, rfl, rfl, rfl, rfl, rfl, rfl, rfl, trivial⟩ (by kernel_rfl) hS ?_ ?_
  ·
   refine And.intro (fun β w hS => ?_) ?_
   ·
    refine WL.sub (σ' := [(12, .slice (some ⟨gr, 0, none⟩) Y.globs.length capr)]) ⟨rfl, trivial⟩ ?_
    refine WL.move rfl rfl rfl ?_
    exact WL.nil (N.cut () ⟨rfl, trivial⟩ (Below.refl _ _))
   refine And.intro (fun β w hS => ?_) ?_
   ·
    refine WL.sub (σ' := [(5, .pointer (some ⟨b1, 0, none⟩))]) ⟨rfl, trivial⟩ ?_
    refine WL.loadN (cs := [.slice adf m.funcs.length capf, .slice adg m.globs.length capg]) agg_46 rfl rfl rfl rfl (hS.cells 3 (m := 2) rfl rfl) ?_
    exact WL.nil (N.cut () ⟨rfl, trivial⟩ (Below.refl _ _))
   refine And.intro (fun β w hS => ?_) ?_
   ·
    refine WL.sub (σ' := [(8, .pointer (some ⟨b5, 0, none⟩))]) ⟨rfl, trivial⟩ ?_
    refine WL.fieldAddr fo_36_4 rfl rfl rfl ?_
    exact WL.nil (N.cut () ⟨rfl, trivial⟩ (Below.refl _ _))
   refine And.intro (fun β w hS => ?_) ?_
   ·
    refine WL.sub (σ' := [(40, .pointer (some ⟨b5, 4, none⟩))]) ⟨rfl, trivial⟩ ?_
    refine WL.load1 (v := .string x.name) one_9 rfl rfl rfl (hS.cell 1 rfl rfl) ?_
    exact WL.nil (N.cut () ⟨rfl, trivial⟩ (Below.refl _ _))
   refine And.intro (fun β w hS => ?_) ?_
   ·
    refine WL.sub (σ' := [(39, .agg #[.slice adf m.funcs.length capf, .slice adg m.globs.length capg]), (41, .string x.name)]) ⟨rfl, rfl, trivial⟩ ?_
    refine WL.callF (vs := [.agg #[.slice adf m.funcs.length capf, .slice adg m.globs.length capg], .string x.name]) Try.func48 (by kernel_rfl) rfl rfl rfl (findgnames_ret m _ x.name (ro := ro) (fun b hb => (hS.snap b hb).1) (ModC.keep hm hS.alike)) ?_
    rintro v w27 ⟨rfl, hbl⟩
    replace hS := hS.grow hbl
    exact WL.nil (N.cut () ⟨rfl, trivial⟩ hbl)
   refine And.intro (fun β w hS => ?_) ?_
   ·
    refine WL.sub (σ' := [(4, .slice ads vals.length caps)]) ⟨rfl, trivial⟩ ?_
    refine WL.move rfl rfl rfl ?_
    exact WL.nil (N.cut () ⟨rfl, trivial⟩ (Below.refl _ _))
   refine And.intro (fun β w hS => ?_) ?_
   ·
    refine WL.sub (σ' := [(8, .pointer (some ⟨b5, 0, none⟩))]) ⟨rfl, trivial⟩ ?_
    refine WL.fieldAddr fo_36_1 rfl rfl rfl ?_
    exact WL.nil (N.cut () ⟨rfl, trivial⟩ (Below.refl _ _))
   refine And.intro (fun β w hS => ?_) ?_
   ·
    refine WL.sub (σ' := [(44, .pointer (some ⟨b5, 1, none⟩))]) ⟨rfl, trivial⟩ ?_
    refine WL.load1 (v := .int .i64 x.a) one_3 rfl rfl rfl (hS.cell 1 rfl rfl) ?_
    exact WL.nil (N.cut () ⟨rfl, trivial⟩ (Below.refl _ _))
   refine And.intro (fun β w hS => ?_) ?_
   ·
    refine WL.sub (σ' := [(43, .slice ads vals.length caps), (45, .int .i64 x.a)]) ⟨rfl, rfl, trivial⟩ ?_
    refine WL.set 45 (v' := .int .i64 (x.a.toNat : Int)) rfl (by rw [Int.toNat_of_nonneg hza.1]) ?_
    refine WL.indexAddrE (j := x.a.toNat) Try.underlying82 isz_34 rfl rfl rfl rfl hj25 hE25 ?_
    exact WL.nil (N.cut () ⟨rfl, trivial⟩ (Below.refl _ _))
   refine And.intro (fun β w hS => ?_) ?_
   ·
    refine WL.sub (σ' := [(46, .pointer (some ⟨b25, o25 + x.a.toNat * 1, none⟩))]) ⟨rfl, trivial⟩ ?_
    refine WL.load1 (v := .int .u64 x25) one_34 rfl rfl rfl (hS.roCells hr25 hc25 0 _ rfl) ?_
    exact WL.nil (N.cut () ⟨rfl, trivial⟩ (Below.refl _ _))
   refine And.intro (fun β w hS => ?_) ?_
   ·
    refine WL.sub (σ' := [(38, .slice (some ⟨gr, 0, none⟩) Y.globs.length capr), (42, .int .i64 (find5 (gnames m) x.name))]) ⟨rfl, rfl, trivial⟩ ?_
    refine WL.set 42 (v' := .int .i64 (((find5 (gnames m) x.name).toNat : Nat) : Int)) rfl (by rw [Int.toNat_of_nonneg hz0]) ?_
    refine WL.indexAddr (j := (find5 (gnames m) x.name).toNat) Try.underlying82 isz_34 rfl rfl rfl rfl (hz1) ?_
    exact WL.nil (N.cut () ⟨rfl, trivial⟩ (Below.refl _ _))
   trivial
  clear hS; intro w28 β hS
  refine WL.sub (σ' := [(2, .string inp), (4, .slice ads vals.length caps), (6, .pointer (some ⟨b3, 0, none⟩)), (8, .pointer (some ⟨b5, 0, none⟩)), (10, .pointer (some ⟨b7, 0, none⟩)), (11, .int .u64 0), (12, .slice (some ⟨gr, 0, none⟩) Y.globs.length capr), (47, .int .u64 x25), (48, .pointer (some ⟨gr, 0 + ((find5 (gnames m) x.name).toNat) * 1, none⟩))]) ⟨rfl, rfl, rfl, rfl, rfl, rfl, rfl, rfl, rfl, trivial⟩ ?_
  refine WL.storeRow (cs := [.int .u64 x25]) rfl rfl rfl rfl siz_34 rfl hS (by simp only [List.length_cons, List.length_nil]; omega) ?_
  clear hS; intro w29 hS
  have hset : Chunks 1 U64C (news.take (0 + (find5 (gnames m) x.name).toNat * 1) ++ ([.int .u64 x25] : List Value) ++ news.drop (0 + (find5 (gnames m) x.name).toNat * 1 + 1)) (Y.globs.set (find5 (gnames m) x.name).toNat x25) := by have h1 := hch.setAt (i := (find5 (gnames m) x.name).toNat) hz1 (c := [.int .u64 x25]) rfl ⟨rfl, hu25⟩; rwa [show (find5 (gnames m) x.name).toNat * 1 = 0 + (find5 (gnames m) x.name).toNat * 1 from (Nat.zero_add _).symm] at h1
  refine WL.nil (N.seq (W.seq (W.region (WL.move rfl rfl rfl (WL.fieldAddr fo_84_1 rfl rfl rfl ?_)))))
  refine WL.store (L' := [(b7, .cells #[.bool false, .int .u64 0, .string ⟨#[]⟩, .int .i64 0, .int .i64 0, .int .i64 0, .slice none 0 0, .int .i64 0] 84 (0, 0)), (b5, .cells #[.int .i64 x.op, .int .i64 x.a, .int .i64 x.b, .int .u64 x.k, .string x.name, .slice adx x.args.length capx] 36 (0, 0)), (b3, .cells #[.bool Y.t.ended, .int .u64 Y.t.code, .string Y.t.out, .int .i64 Y.t.read, .int .i64 Y.t.steps, .int .i64 Y.t.deep, .slice (some ⟨gr, 0, none⟩) Y.globs.length capr, .int .i64 Y.bad] 84 (0, 0)), (b1, .cells #[.slice adf m.funcs.length capf, .slice adg m.globs.length capg] 46 (0, 0))]) 2 rfl rfl rfl rfl siz_82 rfl rfl rfl rfl rfl hS ?_
  clear hS; intro w30 hS
  refine WL.nil (N.seq (W.seq (W.region (WL.loadN (cs := [.bool Y.t.ended, .int .u64 Y.t.code, .string Y.t.out, .int .i64 Y.t.read, .int .i64 Y.t.steps, .int .i64 Y.t.deep, .slice (some ⟨gr, 0, none⟩) Y.globs.length capr, .int .i64 Y.bad]) agg_84 rfl rfl rfl rfl (hS.cells 2 (m := 8) rfl rfl) ?_))))
  refine WL.store (L' := [(b7, .cells #[.bool Y.t.ended, .int .u64 Y.t.code, .string Y.t.out, .int .i64 Y.t.read, .int .i64 Y.t.steps, .int .i64 Y.t.deep, .slice (some ⟨gr, 0, none⟩) Y.globs.length capr, .int .i64 Y.bad] 84 (0, 0)), (b5, .cells #[.int .i64 x.op, .int .i64 x.a, .int .i64 x.b, .int .u64 x.k, .string x.name, .slice adx x.args.length capx] 36 (0, 0)), (b3, .cells #[.bool Y.t.ended, .int .u64 Y.t.code, .string Y.t.out, .int .i64 Y.t.read, .int .i64 Y.t.steps, .int .i64 Y.t.deep, .slice (some ⟨gr, 0, none⟩) Y.globs.length capr, .int .i64 Y.bad] 84 (0, 0)), (b1, .cells #[.slice adf m.funcs.length capf, .slice adg m.globs.length capg] 46 (0, 0))]) 0 rfl rfl rfl rfl siz_84 rfl rfl rfl rfl rfl hS ?_
  clear hS; intro w31 hS
  refine WL.assign rfl rfl rfl (WL.nil (N.seq ?_))
  refine Fin.retCT rfl (v := .agg #[.bool Y.t.ended, .int .u64 Y.t.code, .string Y.t.out, .int .i64 Y.t.read, .int .i64 Y.t.steps, .int .i64 Y.t.deep, .slice (some ⟨gr, 0, none⟩) Y.globs.length capr, .int .i64 Y.bad]) (v' := .int .u64 0) rfl (tyAgg_run agg_84 (cs := [.bool Y.t.ended, .int .u64 Y.t.code, .string Y.t.out, .int .i64 Y.t.read, .int .i64 Y.t.steps, .int .i64 Y.t.deep, .slice (some ⟨gr, 0, none⟩) Y.globs.length capr, .int .i64 Y.bad]) rfl (hS.cells 0 (m := 8) rfl rfl)) rfl ?_
  have hal : Alike ro w (roFrom ro w w31) w31 := fun b hb => ⟨.inl hb, hS.below.block b (hro b hb)⟩
  have e : gives7 m Y inp x vals = ({ Y with globs := Y.globs.set (find5 (gnames m) x.name).toNat x25 }, 0) := by rw [gives7, if_neg (by omega), if_neg (by omega), if_pos (by omega), List.getD_eq_getElem?_getD, hx25]; rfl
  obtain ⟨rfl, rfl⟩ := Prod.mk.inj (e.symm.trans hY)
  exact ⟨.slice (some ⟨gr, 0, none⟩) Y.globs.length capr, rfl, row_slv (hS.rows _ List.mem_cons_self) hset (by simp) (fun b hb => .inr ((hS.keys b (by simp only [keysOf, List.mem_append, List.mem_filterMap]; exact .inr ⟨_, List.mem_cons_self, hb⟩)).imp id (·.1))), ⟨by decide, by decide⟩, hS.below⟩
 have hc20p : ¬ (x.op = 13) := by simpa using hc20
 refine W.skip (N.seq (W.seq (W.seq (W.region (WL.fieldAddr fo_36_0 rfl rfl rfl (WL.load1 (v := .int .i64 x.op) one_3 rfl rfl rfl (hS.cell 1 rfl rfl) (WL.bin rfl rfl rfl rfl rfl (WL.nil (N.seq ?_)))))))))
 refine W.cond rfl (fun hc32 => ?_) (fun hc32 => ?_)
 ·
  have hc32p : x.op = 15 := by simpa using hc32
  refine W.seq (W.seq (W.region (WL.fieldAddr fo_84_0 rfl rfl rfl (WL.fieldAddr fo_58_3 rfl rfl rfl (WL.load1 (v := .int .i64 Y.t.read) one_3 rfl rfl rfl (hS.cell 2 rfl rfl) (WL.move rfl rfl rfl (WL.lenStr Try.underlying9 rfl rfl rfl (WL.bin rfl rfl rfl rfl rfl (WL.nil ?_)))))))))
  refine N.seq ?_
  refine W.cond rfl (fun hc33 => ?_) (fun hc33 => ?_)
  ·
   have hc33p : (inp.size : Int) ≤ Y.t.read := by simpa using hc33
   refine W.seq (W.region (WL.loadN (cs := [.bool Y.t.ended, .int .u64 Y.t.code, .string Y.t.out, .int .i64 Y.t.read, .int .i64 Y.t.steps, .int .i64 Y.t.deep, .slice ga Y.globs.length gc, .int .i64 Y.bad]) agg_84 rfl rfl rfl rfl (hS.cells 2 (m := 8) rfl rfl) ?_))
   refine WL.store (L' := [(b7, .cells #[.bool Y.t.ended, .int .u64 Y.t.code, .string Y.t.out, .int .i64 Y.t.read, .int .i64 Y.t.steps, .int .i64 Y.t.deep, .slice ga Y.globs.length gc, .int .i64 Y.bad] 84 (0, 0)), (b5, .cells #[.int .i64 x.op, .int .i64 x.a, .int .i64 x.b, .int .u64 x.k, .string x.name, .slice adx x.args.length capx] 36 (0, 0)), (b3, .cells #[.bool Y.t.ended, .int .u64 Y.t.code, .string Y.t.out, .int .i64 Y.t.read, .int .i64 Y.t.steps, .int .i64 Y.t.deep, .slice ga Y.globs.length gc, .int .i64 Y.bad] 84 (0, 0)), (b1, .cells #[.slice adf m.funcs.length capf, .slice adg m.globs.length capg] 46 (0, 0))]) 0 rfl rfl rfl rfl siz_84 rfl rfl rfl rfl rfl hS ?_
   clear hS; intro w34 hS
   refine WL.assign rfl rfl rfl (WL.nil (N.seq ?_))
   refine Fin.retCT rfl (v := .agg #[.bool Y.t.ended, .int .u64 Y.t.code, .string Y.t.out, .int .i64 Y.t.read, .int .i64 Y.t.steps, .int .i64 Y.t.deep, .slice ga Y.globs.length gc, .int .i64 Y.bad]) (v' := .int .u64 256) rfl (tyAgg_run agg_84 (cs := [.bool Y.t.ended, .int .u64 Y.t.code, .string Y.t.out, .int .i64 Y.t.read, .int .i64 Y.t.steps, .int .i64 Y.t.deep, .slice ga Y.globs.length gc, .int .i64 Y.bad]) rfl (hS.cells 0 (m := 8) rfl rfl)) rfl ?_
   have hal : Alike ro w (roFrom ro w w34) w34 := fun b hb => ⟨.inl hb, hS.below.block b (hro b hb)⟩
   have e : gives7 m Y inp x vals = (Y, 256) := by rw [gives7, if_neg (by omega), if_neg (by omega), if_neg (by omega), if_pos (by omega), if_pos (by omega)]
   obtain ⟨rfl, rfl⟩ := Prod.mk.inj (e.symm.trans hY)
   exact ⟨.slice ga Y.globs.length gc, rfl, SlV.keep hg hal (fun _ _ q => q), ⟨by decide, by decide⟩, hS.below⟩
  have hc33p : ¬ ((inp.size : Int) ≤ Y.t.read) := by simpa using hc33
  refine W.skip (N.seq (W.seq (W.region (WL.fieldAddr fo_84_0 rfl rfl rfl (WL.fieldAddr fo_58_3 rfl rfl rfl (WL.load1 (v := .int .i64 Y.t.read) one_3 rfl rfl rfl (hS.cell 2 rfl rfl) ?_))))))
  refine WL.add (c := Y.t.read + 1) rfl rfl rfl rfl (rfl) (by omega) ?_
  refine WL.fieldAddr fo_84_0 rfl rfl rfl (WL.fieldAddr fo_58_3 rfl rfl rfl ?_)
  refine WL.store (L' := [(b7, .cells #[.bool false, .int .u64 0, .string ⟨#[]⟩, .int .i64 0, .int .i64 0, .int .i64 0, .slice none 0 0, .int .i64 0] 84 (0, 0)), (b5, .cells #[.int .i64 x.op, .int .i64 x.a, .int .i64 x.b, .int .u64 x.k, .string x.name, .slice adx x.args.length capx] 36 (0, 0)), (b3, .cells #[.bool Y.t.ended, .int .u64 Y.t.code, .string Y.t.out, .int .i64 (Y.t.read + 1), .int .i64 Y.t.steps, .int .i64 Y.t.deep, .slice ga Y.globs.length gc, .int .i64 Y.bad] 84 (0, 0)), (b1, .cells #[.slice adf m.funcs.length capf, .slice adg m.globs.length capg] 46 (0, 0))]) 2 rfl rfl rfl rfl siz_3 rfl rfl rfl rfl rfl hS ?_
  clear hS; intro w35 hS
  refine WL.nil (N.seq (W.seq ?_))
  refine W.drawS (L' := [(b7, .cells #[.bool Y.t.ended, .int .u64 Y.t.code, .string Y.t.out, .int .i64 (Y.t.read + 1), .int .i64 Y.t.steps, .int .i64 Y.t.deep, .slice ga Y.globs.length gc, .int .i64 Y.bad] 84 (0, 0)), (b5, .cells #[.int .i64 x.op, .int .i64 x.a, .int .i64 x.b, .int .u64 x.k, .string x.name, .slice adx x.args.length capx] 36 (0, 0)), (b3, .cells #[.bool Y.t.ended, .int .u64 Y.t.code, .string Y.t.out, .int .i64 (Y.t.read + 1), .int .i64 Y.t.steps, .int .i64 Y.t.deep, .slice ga Y.globs.length gc, .int .i64 Y.bad] 84 (0, 0)), (b1, .cells #[.slice adf m.funcs.length capf, .slice adg m.globs.length capg] 46 (0, 0))]) (by kernel_rfl) 9 8 [(.agg #[.bool Y.t.ended, .int .u64 Y.t.code, .string Y.t.out, .int .i64 (Y.t.read + 1), .int .i64 Y.t.steps, .int .i64 Y.t.deep, .slice ga Y.globs.length gc, .int .i64 Y.bad], true), (.string inp, false), (.pointer (some ⟨b3, 0, none⟩), false), (.pointer (some ⟨b3, 3, none⟩), false), (.int .i64 (Y.t.read + 1), false), (.int .i64 Y.t.read, false), (.int .u8 (byteAt inp Y.t.read), false), (.int .u64 (byteAt inp Y.t.read), false), (undef, false)] (by kernel_rfl) rfl (by kernel_rfl) rfl rfl [(2, .string inp), (4, .slice ads vals.length caps), (6, .pointer (some ⟨b3, 0, none⟩)), (8, .pointer (some ⟨b5, 0, none⟩)), (10, .pointer (some ⟨b7, 0, none⟩)), (11, .int .u64 0)] ⟨rfl, rfl, rfl, rfl, rfl, rfl, trivial⟩ rfl hS ?_ ?_
  ·
   refine And.intro (fun C hC wd hCw => ?_) ?_
   ·
    rcases hC with rfl | hC
    ·
     refine WL.sub (σ' := [(6, .pointer (some ⟨b3, 0, none⟩))]) ⟨rfl, trivial⟩ ?_
     replace hS := hCw
     refine WL.loadN (cs := [.bool Y.t.ended, .int .u64 Y.t.code, .string Y.t.out, .int .i64 (Y.t.read + 1), .int .i64 Y.t.steps, .int .i64 Y.t.deep, .slice ga Y.globs.length gc, .int .i64 Y.bad]) agg_84 rfl rfl rfl rfl (hS.cells 2 (m := 8) rfl rfl) ?_
     exact WL.nil (N.cut () ⟨rfl, trivial⟩ (Below.refl _ _))
    exact False.elim hC
   refine And.intro (fun C hC wd hCw => ?_) ?_
   ·
    rcases hC with rfl | hC
    ·
     refine WL.sub (σ' := [(2, .string inp)]) ⟨rfl, trivial⟩ ?_
     replace hS := hCw
     refine WL.move rfl rfl rfl ?_
     exact WL.nil (N.cut () ⟨rfl, trivial⟩ (Below.refl _ _))
    cases hC
    refine WL.sub (σ' := [(2, .string inp)]) ⟨rfl, trivial⟩ ?_
    replace hS := hCw
    refine WL.move rfl rfl rfl ?_
    exact WL.nil (N.cut () ⟨rfl, trivial⟩ (Below.refl _ _))
   refine And.intro (fun C hC wd hCw => ?_) ?_
   ·
    rcases hC with rfl | hC
    ·
     refine WL.sub (σ' := [(6, .pointer (some ⟨b3, 0, none⟩))]) ⟨rfl, trivial⟩ ?_
     replace hS := hCw
     refine WL.fieldAddr fo_84_0 rfl rfl rfl ?_
     exact WL.nil (N.cut () ⟨rfl, trivial⟩ (Below.refl _ _))
    cases hC
    refine WL.sub (σ' := [(6, .pointer (some ⟨b3, 0, none⟩))]) ⟨rfl, trivial⟩ ?_
    replace hS := hCw
    refine WL.fieldAddr fo_84_0 rfl rfl rfl ?_
    exact WL.nil (N.cut () ⟨rfl, trivial⟩ (Below.refl _ _))
   refine And.intro (fun C hC wd hCw => ?_) ?_
   ·
    rcases hC with rfl | hC
    ·
     refine WL.sub (σ' := [(70, .pointer (some ⟨b3, 0, none⟩))]) ⟨rfl, trivial⟩ ?_
     replace hS := hCw
     refine WL.fieldAddr fo_58_3 rfl rfl rfl ?_
     exact WL.nil (N.cut () ⟨rfl, trivial⟩ (Below.refl _ _))
    cases hC
    refine WL.sub (σ' := [(70, .pointer (some ⟨b3, 0, none⟩))]) ⟨rfl, trivial⟩ ?_
    replace hS := hCw
    refine WL.fieldAddr fo_58_3 rfl rfl rfl ?_
    exact WL.nil (N.cut () ⟨rfl, trivial⟩ (Below.refl _ _))
   refine And.intro (fun C hC wd hCw => ?_) ?_
   ·
    rcases hC with rfl | hC
    ·
     refine WL.sub (σ' := [(71, .pointer (some ⟨b3, 3, none⟩))]) ⟨rfl, trivial⟩ ?_
     replace hS := hCw
     refine WL.load1 (v := .int .i64 (Y.t.read + 1)) one_3 rfl rfl rfl (hS.cell 2 rfl rfl) ?_
     exact WL.nil (N.cut () ⟨rfl, trivial⟩ (Below.refl _ _))
    cases hC
    refine WL.sub (σ' := [(71, .pointer (some ⟨b3, 3, none⟩))]) ⟨rfl, trivial⟩ ?_
    replace hS := hCw
    refine WL.load1 (v := .int .i64 (Y.t.read + 1)) one_3 rfl rfl rfl (hS.cell 2 rfl rfl) ?_
    exact WL.nil (N.cut () ⟨rfl, trivial⟩ (Below.refl _ _))
   refine And.intro (fun C hC wd hCw => ?_) ?_
   ·
    rcases hC with rfl | hC
    ·
     refine WL.sub (σ' := [(72, .int .i64 (Y.t.read + 1))]) ⟨rfl, trivial⟩ ?_
     replace hS := hCw
     refine WL.sub_ (c := Y.t.read) rfl rfl rfl rfl (by omega) (by omega) ?_
     exact WL.nil (N.cut () ⟨rfl, trivial⟩ (Below.refl _ _))
    cases hC
    refine WL.sub (σ' := [(72, .int .i64 (Y.t.read + 1))]) ⟨rfl, trivial⟩ ?_
    replace hS := hCw
    refine WL.sub_ (c := Y.t.read) rfl rfl rfl rfl (by omega) (by omega) ?_
    exact WL.nil (N.cut () ⟨rfl, trivial⟩ (Below.refl _ _))
   refine And.intro (fun C hC wd hCw => ?_) ?_
   ·
    rcases hC with rfl | hC
    ·
     refine WL.sub (σ' := [(69, .string inp), (73, .int .i64 Y.t.read)]) ⟨rfl, rfl, trivial⟩ ?_
     replace hS := hCw
     refine WL.indexStr (v := byteAt inp Y.t.read) Try.underlying9 rfl rfl rfl rfl (by omega) (by omega) (byteAt_get (by omega) (by omega)) ?_
     exact WL.nil (N.cut () ⟨rfl, trivial⟩ (Below.refl _ _))
    cases hC
    refine WL.sub (σ' := [(69, .string inp), (73, .int .i64 Y.t.read)]) ⟨rfl, rfl, trivial⟩ ?_
    replace hS := hCw
    refine WL.indexStr (v := byteAt inp Y.t.read) Try.underlying9 rfl rfl rfl rfl (by omega) (by omega) (byteAt_get (by omega) (by omega)) ?_
    exact WL.nil (N.cut () ⟨rfl, trivial⟩ (Below.refl _ _))
   refine And.intro (fun C hC wd hCw => ?_) ?_
   ·
    rcases hC with rfl | hC
    ·
     refine WL.sub (σ' := [(74, .int .u8 (byteAt inp Y.t.read))]) ⟨rfl, trivial⟩ ?_
     replace hS := hCw
     refine WL.convInt (by rw [Try.underlying5]; rfl) Try.underlying34 rfl rfl rfl ?_
     refine WL.set 75 (v' := .int .u64 (byteAt inp Y.t.read)) rfl (congrArg _ (wrapU_id (byteAt_in _ _))) ?_
     exact WL.nil (N.cut () ⟨rfl, trivial⟩ (Below.refl _ _))
    cases hC
    refine WL.sub (σ' := [(74, .int .u8 (byteAt inp Y.t.read))]) ⟨rfl, trivial⟩ ?_
    replace hS := hCw
    refine WL.convInt (by rw [Try.underlying5]; rfl) Try.underlying34 rfl rfl rfl ?_
    refine WL.set 75 (v' := .int .u64 (byteAt inp Y.t.read)) rfl (congrArg _ (wrapU_id (byteAt_in _ _))) ?_
    exact WL.nil (N.cut () ⟨rfl, trivial⟩ (Below.refl _ _))
   refine And.intro (fun wd hCw => ?_) ?_
   ·
    refine WL.sub (σ' := [(10, .pointer (some ⟨b7, 0, none⟩)), (68, .agg #[.bool Y.t.ended, .int .u64 Y.t.code, .string Y.t.out, .int .i64 (Y.t.read + 1), .int .i64 Y.t.steps, .int .i64 Y.t.deep, .slice ga Y.globs.length gc, .int .i64 Y.bad])]) ⟨rfl, rfl, trivial⟩ ?_
    replace hS := hCw
    refine WL.store (L' := [(b7, .cells #[.bool Y.t.ended, .int .u64 Y.t.code, .string Y.t.out, .int .i64 (Y.t.read + 1), .int .i64 Y.t.steps, .int .i64 Y.t.deep, .slice ga Y.globs.length gc, .int .i64 Y.bad] 84 (0, 0)), (b5, .cells #[.int .i64 x.op, .int .i64 x.a, .int .i64 x.b, .int .u64 x.k, .string x.name, .slice adx x.args.length capx] 36 (0, 0)), (b3, .cells #[.bool Y.t.ended, .int .u64 Y.t.code, .string Y.t.out, .int .i64 (Y.t.read + 1), .int .i64 Y.t.steps, .int .i64 Y.t.deep, .slice ga Y.globs.length gc, .int .i64 Y.bad] 84 (0, 0)), (b1, .cells #[.slice adf m.funcs.length capf, .slice adg m.globs.length capg] 46 (0, 0))]) 0 rfl rfl rfl rfl siz_84 rfl rfl rfl rfl rfl hS ?_
    clear hS; intro w37 hS
    exact WL.nil (N.cut () trivial hS)
   trivial
  clear hS; intro w38 hS
  refine WL.sub (σ' := [(4, .slice ads vals.length caps), (6, .pointer (some ⟨b3, 0, none⟩)), (8, .pointer (some ⟨b5, 0, none⟩)), (10, .pointer (some ⟨b7, 0, none⟩)), (11, .int .u64 0), (75, .int .u64 (byteAt inp Y.t.read))]) ⟨rfl, rfl, rfl, rfl, rfl, rfl, trivial⟩ ?_
  refine WL.assign rfl rfl rfl (WL.nil (N.seq ?_))
  refine Fin.retCT rfl (v := .agg #[.bool Y.t.ended, .int .u64 Y.t.code, .string Y.t.out, .int .i64 (Y.t.read + 1), .int .i64 Y.t.steps, .int .i64 Y.t.deep, .slice ga Y.globs.length gc, .int .i64 Y.bad]) (v' := .int .u64 (byteAt inp Y.t.read)) rfl (tyAgg_run agg_84 (cs := [.bool Y.t.ended, .int .u64 Y.t.code, .string Y.t.out, .int .i64 (Y.t.read + 1), .int .i64 Y.t.steps, .int .i64 Y.t.deep, .slice ga Y.globs.length gc, .int .i64 Y.bad]) rfl (hS.cells 0 (m := 8) rfl rfl)) rfl ?_
  have hal : Alike ro w (roFrom ro w w38) w38 := fun b hb => ⟨.inl hb, hS.below.block b (hro b hb)⟩
  have e : gives7 m Y inp x vals = ({ Y with t := { Y.t with read := Y.t.read + 1 } }, byteAt inp Y.t.read) := by rw [gives7, if_neg (by omega), if_neg (by omega), if_neg (by omega), if_pos (by omega), if_neg (by omega)]
  obtain ⟨rfl, rfl⟩ := Prod.mk.inj (e.symm.trans hY)
  exact ⟨.slice ga Y.globs.length gc, rfl, SlV.keep hg hal (fun _ _ q => q), byteAt_in _ _, hS.below⟩
 have hc32p : ¬ (x.op = 15) := by simpa using hc32
 refine W.skip (N.seq (W.seq (W.seq (W.region (WL.fieldAddr fo_36_0 rfl rfl rfl (WL.load1 (v := .int .i64 x.op) one_3 rfl rfl rfl (hS.cell 1 rfl rfl) (WL.bin rfl rfl rfl rfl rfl (WL.nil (N.seq ?_)))))))))
 refine W.cond rfl (fun hc39 => ?_) (fun hc39 => ?_)
 ·
  have hc39p : x.op = 16 := by simpa using hc39
  refine W.seq ?_
  have hza := hua (by omega)
  have hj40 : x.a.toNat < vals.length := by omega
  obtain ⟨x40, hx40⟩ : ∃ zz, vals[x.a.toNat]? = some zz := ⟨_, List.getElem?_eq_getElem hj40⟩
  obtain ⟨b40, o40, cs40, hE40, hr40, hl40, hc40, hQ40⟩ := hvd x.a.toNat _ hx40
  obtain ⟨rfl, hu40⟩ := hQ40
  refine W.drawA0 (S := fun u => True) (by kernel_rfl) (fun w41 hbd => ?_)
  replace hS := hS.grow hbd
  refine WA.conv (fuel' := 15 + 1) (listed' := #[false, false, false, false, false, false, false, false, false, false, false, false, false, false, false, false]) (by kernel_rfl) (by kernel_rfl) (WA.phaseI [(0, (fun v _ => v = .pointer (some ⟨b3, 0, none⟩))), (1, (fun v _ => v = .pointer (some ⟨b3, 2, none⟩))), (2, (fun v _ => v = .string Y.t.out)), (3, (fun v _ => v = .slice ads vals.length caps)), (4, (fun v _ => v = .pointer (some ⟨b5, 1, none⟩))), (5, (fun v _ => v = .int .i64 x.a)), (6, (fun v _ => v = .pointer (some ⟨b40, o40 + x.a.toNat * 1, none⟩))), (7, (fun v _ => v = .int .u64 x40)), (8, (fun v _ => v = .int .u64 (x40.tmod 256))), (9, (fun v _ => v = .int .u8 ((byte8 x40).toNat : Int))), (10, (fun v u => ∃ b, v = .slice (some ⟨b, 0, none⟩) 1 1 ∧ u.heap[b]? = some (.cells [.int .u8 ((byte8 x40).toNat : Int)].toArray 5 (0, 0)))), (11, (fun v _ => v = .string (⟨#[(byte8 x40)]⟩ : ByteArray))), (12, (fun v _ => v = .string (Y.t.out ++ (⟨#[(byte8 x40)]⟩ : ByteArray)))), (13, (fun v _ => v = .pointer (some ⟨b3, 0, none⟩))), (14, (fun v _ => v = .pointer (some ⟨b3, 2, none⟩)))] (by kernel_rfl) [(4, .slice ads vals.length caps), (6, .pointer (some ⟨b3, 0, none⟩)), (8, .pointer (some ⟨b5, 0, none⟩)), (10, .pointer (some ⟨b7, 0, none⟩)), (11, .int .u64 0)] ⟨rfl, rfl, rfl, rfl, rfl, trivial⟩ (by kernel_rfl) ⟨stays_eq, stays_eq, stays_eq, stays_eq, stays_eq, stays_eq, stays_eq, stays_eq, stays_eq, stays_eq, (fun v u u2 h hb => h.elim fun b h => ⟨b, h.1, (hb.block b (Array.getElem?_eq_some_iff.1 h.2).1).trans h.2⟩), stays_eq, stays_eq, stays_eq, stays_eq, trivial⟩ ?_ (fun _ _ => trivial) ?_)
  ·
   refine ⟨fun β wd hb hD => ⟨_, rfl, ?_⟩, ?_⟩
   ·
    refine WL.sub (σ' := [(6, .pointer (some ⟨b3, 0, none⟩))]) ⟨rfl, trivial⟩ ?_
    have hS := hS.grow hb
    refine WL.fieldAddr fo_84_0 rfl rfl rfl ?_
    exact WL.nil (N.cut (.pointer (some ⟨b3, 0, none⟩)) ⟨rfl, trivial⟩ ⟨(Below.refl _ _), rfl⟩)
   refine ⟨fun β wd hb hD => ⟨_, rfl, ?_⟩, ?_⟩
   ·
    obtain ⟨hp0, _⟩ := hD
    replace hp0 : β 0 = .pointer (some ⟨b3, 0, none⟩) := hp0
    refine WL.sub (σ' := [(79, .pointer (some ⟨b3, 0, none⟩))]) ⟨congrArg some hp0, trivial⟩ ?_
    have hS := hS.grow hb
    refine WL.fieldAddr fo_58_2 rfl rfl rfl ?_
    exact WL.nil (N.cut (.pointer (some ⟨b3, 2, none⟩)) ⟨rfl, trivial⟩ ⟨(Below.refl _ _), rfl⟩)
   refine ⟨fun β wd hb hD => ⟨_, rfl, ?_⟩, ?_⟩
   ·
    obtain ⟨hp1, _⟩ := hD
    replace hp1 : β 1 = .pointer (some ⟨b3, 2, none⟩) := hp1
    refine WL.sub (σ' := [(80, .pointer (some ⟨b3, 2, none⟩))]) ⟨congrArg some hp1, trivial⟩ ?_
    have hS := hS.grow hb
    refine WL.load1 (v := .string Y.t.out) one_9 rfl rfl rfl (hS.cell 2 rfl rfl) ?_
    exact WL.nil (N.cut (.string Y.t.out) ⟨rfl, trivial⟩ ⟨(Below.refl _ _), rfl⟩)
   refine ⟨fun β wd hb hD => ⟨_, rfl, ?_⟩, ?_⟩
   ·
    refine WL.sub (σ' := [(4, .slice ads vals.length caps)]) ⟨rfl, trivial⟩ ?_
    have hS := hS.grow hb
    refine WL.move rfl rfl rfl ?_
    exact WL.nil (N.cut (.slice ads vals.length caps) ⟨rfl, trivial⟩ ⟨(Below.refl _ _), rfl⟩)
   refine ⟨fun β wd hb hD => ⟨_, rfl, ?_⟩, ?_⟩
   ·
    refine WL.sub (σ' := [(8, .pointer (some ⟨b5, 0, none⟩))]) ⟨rfl, trivial⟩ ?_
    have hS := hS.grow hb
    refine WL.fieldAddr fo_36_1 rfl rfl rfl ?_
    exact WL.nil (N.cut (.pointer (some ⟨b5, 1, none⟩)) ⟨rfl, trivial⟩ ⟨(Below.refl _ _), rfl⟩)
   refine ⟨fun β wd hb hD => ⟨_, rfl, ?_⟩, ?_⟩
   ·
    obtain ⟨hp4, _⟩ := hD
    replace hp4 : β 4 = .pointer (some ⟨b5, 1, none⟩) := hp4
    refine WL.sub (σ' := [(83, .pointer (some ⟨b5, 1, none⟩))]) ⟨congrArg some hp4, trivial⟩ ?_
    have hS := hS.grow hb
    refine WL.load1 (v := .int .i64 x.a) one_3 rfl rfl rfl (hS.cell 1 rfl rfl) ?_
    exact WL.nil (N.cut (.int .i64 x.a) ⟨rfl, trivial⟩ ⟨(Below.refl _ _), rfl⟩)
   refine ⟨fun β wd hb hD => ⟨_, rfl, ?_⟩, ?_⟩
   ·
    obtain ⟨hp3, hp5, _⟩ := hD
    replace hp3 : β 3 = .slice ads vals.length caps := hp3
    replace hp5 : β 5 = .int .i64 x.a := hp5
    refine WL.sub (σ' := [(82, .slice ads vals.length caps), (84, .int .i64 x.a)]) ⟨congrArg some hp3, congrArg some hp5, trivial⟩ ?_
    have hS := hS.grow hb
    refine WL.set 84 (v' := .int .i64 (x.a.toNat : Int)) rfl (by rw [Int.toNat_of_nonneg hza.1]) ?_
    refine WL.indexAddrE (j := x.a.toNat) Try.underlying82 isz_34 rfl rfl rfl rfl hj40 hE40 ?_
    exact WL.nil (N.cut (.pointer (some ⟨b40, o40 + x.a.toNat * 1, none⟩)) ⟨rfl, trivial⟩ ⟨(Below.refl _ _), rfl⟩)
   refine ⟨fun β wd hb hD => ⟨_, rfl, ?_⟩, ?_⟩
   ·
    obtain ⟨hp6, _⟩ := hD
    replace hp6 : β 6 = .pointer (some ⟨b40, o40 + x.a.toNat * 1, none⟩) := hp6
    refine WL.sub (σ' := [(85, .pointer (some ⟨b40, o40 + x.a.toNat * 1, none⟩))]) ⟨congrArg some hp6, trivial⟩ ?_
    have hS := hS.grow hb
    refine WL.load1 (v := .int .u64 x40) one_34 rfl rfl rfl (hS.roCells hr40 hc40 0 _ rfl) ?_
    exact WL.nil (N.cut (.int .u64 x40) ⟨rfl, trivial⟩ ⟨(Below.refl _ _), rfl⟩)
   refine ⟨fun β wd hb hD => ⟨_, rfl, ?_⟩, ?_⟩
   ·
    obtain ⟨hp7, _⟩ := hD
    replace hp7 : β 7 = .int .u64 x40 := hp7
    refine WL.sub (σ' := [(86, .int .u64 x40)]) ⟨congrArg some hp7, trivial⟩ ?_
    have hS := hS.grow hb
    refine WL.remC rfl rfl rfl rfl (by decide) ?_
    exact WL.nil (N.cut (.int .u64 (x40.tmod 256)) ⟨rfl, trivial⟩ ⟨(Below.refl _ _), rfl⟩)
   refine ⟨fun β wd hb hD => ⟨_, rfl, ?_⟩, ?_⟩
   ·
    obtain ⟨hp8, _⟩ := hD
    replace hp8 : β 8 = .int .u64 (x40.tmod 256) := hp8
    refine WL.sub (σ' := [(87, .int .u64 (x40.tmod 256))]) ⟨congrArg some hp8, trivial⟩ ?_
    have hS := hS.grow hb
    refine WL.convInt (by rw [Try.underlying34]; rfl) Try.underlying5 rfl rfl rfl ?_
    refine WL.set 88 (v' := .int .u8 ((byte8 x40).toNat : Int)) rfl (congrArg _ (byte8_int hu40.1)) ?_
    exact WL.nil (N.cut (.int .u8 ((byte8 x40).toNat : Int)) ⟨rfl, trivial⟩ ⟨(Below.refl _ _), rfl⟩)
   refine ⟨fun β wd hb hD => ⟨_, rfl, ?_⟩, ?_⟩
   ·
    obtain ⟨hp9, _⟩ := hD
    replace hp9 : β 9 = .int .u8 ((byte8 x40).toNat : Int) := hp9
    refine WL.sub (σ' := [(88, .int .u8 ((byte8 x40).toNat : Int))]) ⟨congrArg some hp9, trivial⟩ ?_
    have hS := hS.grow hb
    have hX := St.start (w := wd) (ro := fun z => z < wd.heap.size) (fun _ h => h)
    refine WL.buildSlice (ps := [(0, .int .u8 ((byte8 x40).toNat : Int))]) (cs := [.int .u8 ((byte8 x40).toNat : Int)]) Try.underlying97 (tyZero_spec zer_5) rfl rfl rfl rfl (by kernel_rfl) hX ?_
    clear hX; intro w43 b42 hb_b42 hX
    exact WL.nil (N.cut (.slice (some ⟨b42, 0, none⟩) 1 1) ⟨rfl, trivial⟩ ⟨hX.below, ⟨_, rfl, hX.own _ List.mem_cons_self⟩⟩)
   refine ⟨fun β wd hb hD => ⟨_, rfl, ?_⟩, ?_⟩
   ·
    obtain ⟨hp10, _⟩ := hD
    replace hp10 : (fun v u => ∃ b, v = .slice (some ⟨b, 0, none⟩) 1 1 ∧ u.heap[b]? = some (.cells [.int .u8 ((byte8 x40).toNat : Int)].toArray 5 (0, 0))) (β 10) wd := hp10
    refine WL.sub (σ' := [(89, (β 10))]) ⟨rfl, trivial⟩ ?_
    have hS := hS.grow hb
    generalize β 10 = z10 at hp10 ⊢
    obtain ⟨bq, rfl, hbq⟩ := hp10
    refine WL.strByte Try.underlying97 Try.underlying5 Try.underlying9 rfl rfl rfl (cellsAt_block hbq) ?_
    exact WL.nil (N.cut (.string (⟨#[(byte8 x40)]⟩ : ByteArray)) ⟨rfl, trivial⟩ ⟨(Below.refl _ _), rfl⟩)
   refine ⟨fun β wd hb hD => ⟨_, rfl, ?_⟩, ?_⟩
   ·
    obtain ⟨hp2, hp11, _⟩ := hD
    replace hp2 : β 2 = .string Y.t.out := hp2
    replace hp11 : β 11 = .string (⟨#[(byte8 x40)]⟩ : ByteArray) := hp11
    refine WL.sub (σ' := [(81, .string Y.t.out), (90, .string (⟨#[(byte8 x40)]⟩ : ByteArray))]) ⟨congrArg some hp2, congrArg some hp11, trivial⟩ ?_
    have hS := hS.grow hb
    refine WL.addStr rfl rfl rfl rfl (by show Y.t.out.size + 1 ≤ _; omega) ?_
    exact WL.nil (N.cut (.string (Y.t.out ++ (⟨#[(byte8 x40)]⟩ : ByteArray))) ⟨rfl, trivial⟩ ⟨(Below.refl _ _), rfl⟩)
   refine ⟨fun β wd hb hD => ⟨_, rfl, ?_⟩, ?_⟩
   ·
    refine WL.sub (σ' := [(6, .pointer (some ⟨b3, 0, none⟩))]) ⟨rfl, trivial⟩ ?_
    have hS := hS.grow hb
    refine WL.fieldAddr fo_84_0 rfl rfl rfl ?_
    exact WL.nil (N.cut (.pointer (some ⟨b3, 0, none⟩)) ⟨rfl, trivial⟩ ⟨(Below.refl _ _), rfl⟩)
   refine ⟨fun β wd hb hD => ⟨_, rfl, ?_⟩, ?_⟩
   ·
    obtain ⟨hp13, _, _, _, _, _, _, _, _, _, _, _, _, _, _⟩ := hD
    replace hp13 : β 13 = .pointer (some ⟨b3, 0, none⟩) := hp13
    refine WL.sub (σ' := [(92, .pointer (some ⟨b3, 0, none⟩))]) ⟨congrArg some hp13, trivial⟩ ?_
    have hS := hS.grow hb
    refine WL.fieldAddr fo_58_2 rfl rfl rfl ?_
    exact WL.nil (N.cut (.pointer (some ⟨b3, 2, none⟩)) ⟨rfl, trivial⟩ ⟨(Below.refl _ _), rfl⟩)
   trivial
  intro β w44 hb hD
  obtain ⟨hp0, hp1, hp2, hp3, hp4, hp5, hp6, hp7, hp8, hp9, hp10, hp11, hp12, hp13, hp14, _⟩ := hD
  refine WA.sub (σ' := [(4, .slice ads vals.length caps), (6, .pointer (some ⟨b3, 0, none⟩)), (8, .pointer (some ⟨b5, 0, none⟩)), (10, .pointer (some ⟨b7, 0, none⟩)), (11, .int .u64 0), (91, .string (Y.t.out ++ (⟨#[(byte8 x40)]⟩ : ByteArray))), (93, .pointer (some ⟨b3, 2, none⟩))]) ⟨rfl, rfl, rfl, rfl, rfl, congrArg some (show β 12 = .string (Y.t.out ++ (⟨#[(byte8 x40)]⟩ : ByteArray)) from hp12), congrArg some (show β 14 = .pointer (some ⟨b3, 2, none⟩) from hp14), trivial⟩ ?_
  have hSd := hS
  replace hS := hS.grow hb
  replace hp10 : (fun v u => ∃ b, v = .slice (some ⟨b, 0, none⟩) 1 1 ∧ u.heap[b]? = some (.cells [.int .u8 ((byte8 x40).toNat : Int)].toArray 5 (0, 0))) (β 10) w44 := hp10
  generalize β 10 = z10 at hp10 ⊢
  refine WA.conv (fuel' := 0 + 1) (listed' := #[true, true, true, true, true, true, true, true, true, true, true, true, true, true, true, false]) (by kernel_rfl) (by kernel_rfl) (WA.stepS 15 (by kernel_rfl) rfl ?_)
  refine WL.store (L' := [(b7, .cells #[.bool false, .int .u64 0, .string ⟨#[]⟩, .int .i64 0, .int .i64 0, .int .i64 0, .slice none 0 0, .int .i64 0] 84 (0, 0)), (b5, .cells #[.int .i64 x.op, .int .i64 x.a, .int .i64 x.b, .int .u64 x.k, .string x.name, .slice adx x.args.length capx] 36 (0, 0)), (b3, .cells #[.bool Y.t.ended, .int .u64 Y.t.code, .string (Y.t.out ++ (⟨#[(byte8 x40)]⟩ : ByteArray)), .int .i64 Y.t.read, .int .i64 Y.t.steps, .int .i64 Y.t.deep, .slice ga Y.globs.length gc, .int .i64 Y.bad] 84 (0, 0)), (b1, .cells #[.slice adf m.funcs.length capf, .slice adg m.globs.length capg] 46 (0, 0))]) 2 rfl rfl rfl rfl siz_9 rfl rfl rfl rfl rfl hS ?_
  clear hS; intro w45 hS
  refine WL.nil (N.restS trivial ?_)
  refine WA.doneN (by kernel_rfl) ?_
  refine N.seq (W.seq (W.region (WL.loadN (cs := [.bool Y.t.ended, .int .u64 Y.t.code, .string (Y.t.out ++ (⟨#[(byte8 x40)]⟩ : ByteArray)), .int .i64 Y.t.read, .int .i64 Y.t.steps, .int .i64 Y.t.deep, .slice ga Y.globs.length gc, .int .i64 Y.bad]) agg_84 rfl rfl rfl rfl (hS.cells 2 (m := 8) rfl rfl) ?_)))
  refine WL.store (L' := [(b7, .cells #[.bool Y.t.ended, .int .u64 Y.t.code, .string (Y.t.out ++ (⟨#[(byte8 x40)]⟩ : ByteArray)), .int .i64 Y.t.read, .int .i64 Y.t.steps, .int .i64 Y.t.deep, .slice ga Y.globs.length gc, .int .i64 Y.bad] 84 (0, 0)), (b5, .cells #[.int .i64 x.op, .int .i64 x.a, .int .i64 x.b, .int .u64 x.k, .string x.name, .slice adx x.args.length capx] 36 (0, 0)), (b3, .cells #[.bool Y.t.ended, .int .u64 Y.t.code, .string (Y.t.out ++ (⟨#[(byte8 x40)]⟩ : ByteArray)), .int .i64 Y.t.read, .int .i64 Y.t.steps, .int .i64 Y.t.deep, .slice ga Y.globs.length gc, .int .i64 Y.bad] 84 (0, 0)), (b1, .cells #[.slice adf m.funcs.length capf, .slice adg m.globs.length capg] 46 (0, 0))]) 0 rfl rfl rfl rfl siz_84 rfl rfl rfl rfl rfl hS ?_
  clear hS; intro w46 hS
  refine WL.assign rfl rfl rfl (WL.nil (N.seq ?_))
  refine Fin.retCT rfl (v := .agg #[.bool Y.t.ended, .int .u64 Y.t.code, .string (Y.t.out ++ (⟨#[(byte8 x40)]⟩ : ByteArray)), .int .i64 Y.t.read, .int .i64 Y.t.steps, .int .i64 Y.t.deep, .slice ga Y.globs.length gc, .int .i64 Y.bad]) (v' := .int .u64 0) rfl (tyAgg_run agg_84 (cs := [.bool Y.t.ended, .int .u64 Y.t.code, .string (Y.t.out ++ (⟨#[(byte8 x40)]⟩ : ByteArray)), .int .i64 Y.t.read, .int .i64 Y.t.steps, .int .i64 Y.t.deep, .slice ga Y.globs.length gc, .int .i64 Y.bad]) rfl (hS.cells 0 (m := 8) rfl rfl)) rfl ?_
  have hal : Alike ro w (roFrom ro w w46) w46 := fun b hb => ⟨.inl hb, hS.below.block b (hro b hb)⟩
  have e : gives7 m Y inp x vals = ({ Y with t := { Y.t with out := Y.t.out ++ ⟨#[(byte8 x40)]⟩ } }, 0) := by rw [gives7, if_neg (by omega), if_neg (by omega), if_neg (by omega), if_neg (by omega), if_pos (by omega), List.getD_eq_getElem?_getD, hx40]; rfl
  obtain ⟨rfl, rfl⟩ := Prod.mk.inj (e.symm.trans hY)
  exact ⟨.slice ga Y.globs.length gc, rfl, SlV.keep hg hal (fun _ _ q => q), ⟨by decide, by decide⟩, hS.below⟩
 have hc39p : ¬ (x.op = 16) := by simpa using hc39
 refine W.skip (N.seq (W.seq ?_))
 have hza := hua (by omega)
 have hzb := hub (by omega)
 have hj47 : x.a.toNat < vals.length := by omega
 obtain ⟨x47, hx47⟩ : ∃ zz, vals[x.a.toNat]? = some zz := ⟨_, List.getElem?_eq_getElem hj47⟩
 obtain ⟨b47, o47, cs47, hE47, hr47, hl47, hc47, hQ47⟩ := hvd x.a.toNat _ hx47
 obtain ⟨rfl, hu47⟩ := hQ47
 have hj48 : x.b.toNat < vals.length := by omega
 obtain ⟨x48, hx48⟩ : ∃ zz, vals[x.b.toNat]? = some zz := ⟨_, List.getElem?_eq_getElem hj48⟩
 obtain ⟨b48, o48, cs48, hE48, hr48, hl48, hc48, hQ48⟩ := hvd x.b.toNat _ hx48
 obtain ⟨rfl, hu48⟩ := hQ48
 refine W.drawS (L' := [(b7, .cells #[.bool Y.t.ended, .int .u64 Y.t.code, .string Y.t.out, .int .i64 Y.t.read, .int .i64 Y.t.steps, .int .i64 Y.t.deep, .slice ga Y.globs.length gc, .int .i64 Y.bad] 84 (0, 0)), (b5, .cells #[.int .i64 x.op, .int .i64 x.a, .int .i64 x.b, .int .u64 x.k, .string x.name, .slice adx x.args.length capx] 36 (0, 0)), (b3, .cells #[.bool Y.t.ended, .int .u64 Y.t.code, .string Y.t.out, .int .i64 Y.t.read, .int .i64 Y.t.steps, .int .i64 Y.t.deep, .slice ga Y.globs.length gc, .int .i64 Y.bad] 84 (0, 0)), (b1, .cells #[.slice adf m.funcs.length capf, .slice adg m.globs.length capg] 46 (0, 0))]) (by kernel_rfl) 15 14 [(.agg #[.bool Y.t.ended, .int .u64 Y.t.code, .string Y.t.out, .int .i64 Y.t.read, .int .i64 Y.t.steps, .int .i64 Y.t.deep, .slice ga Y.globs.length gc, .int .i64 Y.bad], true), (.pointer (some ⟨b5, 0, none⟩), false), (.int .i64 x.op, false), (.slice ads vals.length caps, false), (.pointer (some ⟨b5, 1, none⟩), false), (.int .i64 x.a, false), (.pointer (some ⟨b47, o47 + x.a.toNat * 1, none⟩), false), (.int .u64 x47, false), (.slice ads vals.length caps, false), (.pointer (some ⟨b5, 2, none⟩), false), (.int .i64 x.b, false), (.pointer (some ⟨b48, o48 + x.b.toNat * 1, none⟩), false), (.int .u64 x48, false), (.int .u64 (reckI x.op x47 x48), true), (undef, false)] (by kernel_rfl) rfl (by kernel_rfl) rfl rfl [(4, .slice ads vals.length caps), (6, .pointer (some ⟨b3, 0, none⟩)), (8, .pointer (some ⟨b5, 0, none⟩)), (10, .pointer (some ⟨b7, 0, none⟩)), (11, .int .u64 0)] ⟨rfl, rfl, rfl, rfl, rfl, trivial⟩ rfl hS ?_ ?_
 ·
  refine And.intro (fun C hC wd hCw => ?_) ?_
  ·
   rcases hC with rfl | hC
   ·
    refine WL.sub (σ' := [(6, .pointer (some ⟨b3, 0, none⟩))]) ⟨rfl, trivial⟩ ?_
    replace hS := hCw
    refine WL.loadN (cs := [.bool Y.t.ended, .int .u64 Y.t.code, .string Y.t.out, .int .i64 Y.t.read, .int .i64 Y.t.steps, .int .i64 Y.t.deep, .slice ga Y.globs.length gc, .int .i64 Y.bad]) agg_84 rfl rfl rfl rfl (hS.cells 2 (m := 8) rfl rfl) ?_
    exact WL.nil (N.cut () ⟨rfl, trivial⟩ (Below.refl _ _))
   exact False.elim hC
  refine And.intro (fun C hC wd hCw => ?_) ?_
  ·
   rcases hC with rfl | hC
   ·
    refine WL.sub (σ' := [(8, .pointer (some ⟨b5, 0, none⟩))]) ⟨rfl, trivial⟩ ?_
    replace hS := hCw
    refine WL.fieldAddr fo_36_0 rfl rfl rfl ?_
    exact WL.nil (N.cut () ⟨rfl, trivial⟩ (Below.refl _ _))
   cases hC
   refine WL.sub (σ' := [(8, .pointer (some ⟨b5, 0, none⟩))]) ⟨rfl, trivial⟩ ?_
   replace hS := hCw
   refine WL.fieldAddr fo_36_0 rfl rfl rfl ?_
   exact WL.nil (N.cut () ⟨rfl, trivial⟩ (Below.refl _ _))
  refine And.intro (fun C hC wd hCw => ?_) ?_
  ·
   rcases hC with rfl | hC
   ·
    refine WL.sub (σ' := [(96, .pointer (some ⟨b5, 0, none⟩))]) ⟨rfl, trivial⟩ ?_
    replace hS := hCw
    refine WL.load1 (v := .int .i64 x.op) one_3 rfl rfl rfl (hS.cell 1 rfl rfl) ?_
    exact WL.nil (N.cut () ⟨rfl, trivial⟩ (Below.refl _ _))
   cases hC
   refine WL.sub (σ' := [(96, .pointer (some ⟨b5, 0, none⟩))]) ⟨rfl, trivial⟩ ?_
   replace hS := hCw
   refine WL.load1 (v := .int .i64 x.op) one_3 rfl rfl rfl (hS.cell 1 rfl rfl) ?_
   exact WL.nil (N.cut () ⟨rfl, trivial⟩ (Below.refl _ _))
  refine And.intro (fun C hC wd hCw => ?_) ?_
  ·
   rcases hC with rfl | hC
   ·
    refine WL.sub (σ' := [(4, .slice ads vals.length caps)]) ⟨rfl, trivial⟩ ?_
    replace hS := hCw
    refine WL.move rfl rfl rfl ?_
    exact WL.nil (N.cut () ⟨rfl, trivial⟩ (Below.refl _ _))
   cases hC
   refine WL.sub (σ' := [(4, .slice ads vals.length caps)]) ⟨rfl, trivial⟩ ?_
   replace hS := hCw
   refine WL.move rfl rfl rfl ?_
   exact WL.nil (N.cut () ⟨rfl, trivial⟩ (Below.refl _ _))
  refine And.intro (fun C hC wd hCw => ?_) ?_
  ·
   rcases hC with rfl | hC
   ·
    refine WL.sub (σ' := [(8, .pointer (some ⟨b5, 0, none⟩))]) ⟨rfl, trivial⟩ ?_
    replace hS := hCw
    refine WL.fieldAddr fo_36_1 rfl rfl rfl ?_
    exact WL.nil (N.cut () ⟨rfl, trivial⟩ (Below.refl _ _))
   cases hC
   refine WL.sub (σ' := [(8, .pointer (some ⟨b5, 0, none⟩))]) ⟨rfl, trivial⟩ ?_
   replace hS := hCw
   refine WL.fieldAddr fo_36_1 rfl rfl rfl ?_
   exact WL.nil (N.cut () ⟨rfl, trivial⟩ (Below.refl _ _))
  refine And.intro (fun C hC wd hCw => ?_) ?_
  ·
   rcases hC with rfl | hC
   ·
    refine WL.sub (σ' := [(99, .pointer (some ⟨b5, 1, none⟩))]) ⟨rfl, trivial⟩ ?_
    replace hS := hCw
    refine WL.load1 (v := .int .i64 x.a) one_3 rfl rfl rfl (hS.cell 1 rfl rfl) ?_
    exact WL.nil (N.cut () ⟨rfl, trivial⟩ (Below.refl _ _))
   cases hC
   refine WL.sub (σ' := [(99, .pointer (some ⟨b5, 1, none⟩))]) ⟨rfl, trivial⟩ ?_
   replace hS := hCw
   refine WL.load1 (v := .int .i64 x.a) one_3 rfl rfl rfl (hS.cell 1 rfl rfl) ?_
   exact WL.nil (N.cut () ⟨rfl, trivial⟩ (Below.refl _ _))
  refine And.intro (fun C hC wd hCw => ?_) ?_
  ·
   rcases hC with rfl | hC
   ·
    refine WL.sub (σ' := [(98, .slice ads vals.length caps), (100, .int .i64 x.a)]) ⟨rfl, rfl, trivial⟩ ?_
    replace hS := hCw
    refine WL.set 100 (v' := .int .i64 (x.a.toNat : Int)) rfl (by rw [Int.toNat_of_nonneg hza.1]) ?_
    refine WL.indexAddrE (j := x.a.toNat) Try.underlying82 isz_34 rfl rfl rfl rfl hj47 hE47 ?_
    exact WL.nil (N.cut () ⟨rfl, trivial⟩ (Below.refl _ _))
   cases hC
   refine WL.sub (σ' := [(98, .slice ads vals.length caps), (100, .int .i64 x.a)]) ⟨rfl, rfl, trivial⟩ ?_
   replace hS := hCw
   refine WL.set 100 (v' := .int .i64 (x.a.toNat : Int)) rfl (by rw [Int.toNat_of_nonneg hza.1]) ?_
   refine WL.indexAddrE (j := x.a.toNat) Try.underlying82 isz_34 rfl rfl rfl rfl hj47 hE47 ?_
   exact WL.nil (N.cut () ⟨rfl, trivial⟩ (Below.refl _ _))
  refine And.intro (fun C hC wd hCw => ?_) ?_
  ·
   rcases hC with rfl | hC
   ·
    refine WL.sub (σ' := [(101, .pointer (some ⟨b47, o47 + x.a.toNat * 1, none⟩))]) ⟨rfl, trivial⟩ ?_
    replace hS := hCw
    refine WL.load1 (v := .int .u64 x47) one_34 rfl rfl rfl (hS.roCells hr47 hc47 0 _ rfl) ?_
    exact WL.nil (N.cut () ⟨rfl, trivial⟩ (Below.refl _ _))
   cases hC
   refine WL.sub (σ' := [(101, .pointer (some ⟨b47, o47 + x.a.toNat * 1, none⟩))]) ⟨rfl, trivial⟩ ?_
   replace hS := hCw
   refine WL.load1 (v := .int .u64 x47) one_34 rfl rfl rfl (hS.roCells hr47 hc47 0 _ rfl) ?_
   exact WL.nil (N.cut () ⟨rfl, trivial⟩ (Below.refl _ _))
  refine And.intro (fun C hC wd hCw => ?_) ?_
  ·
   rcases hC with rfl | hC
   ·
    refine WL.sub (σ' := [(4, .slice ads vals.length caps)]) ⟨rfl, trivial⟩ ?_
    replace hS := hCw
    refine WL.move rfl rfl rfl ?_
    exact WL.nil (N.cut () ⟨rfl, trivial⟩ (Below.refl _ _))
   cases hC
   refine WL.sub (σ' := [(4, .slice ads vals.length caps)]) ⟨rfl, trivial⟩ ?_
   replace hS := hCw
   refine WL.move rfl rfl rfl ?_
   exact WL.nil (N.cut () ⟨rfl, trivial⟩ (Below.refl _ _))
  refine And.intro (fun C hC wd hCw => ?_) ?_
  ·
   rcases hC with rfl | hC
   ·
    refine WL.sub (σ' := [(8, .pointer (some ⟨b5, 0, none⟩))]) ⟨rfl, trivial⟩ ?_
    replace hS := hCw
    refine WL.fieldAddr fo_36_2 rfl rfl rfl ?_
    exact WL.nil (N.cut () ⟨rfl, trivial⟩ (Below.refl _ _))
   cases hC
   refine WL.sub (σ' := [(8, .pointer (some ⟨b5, 0, none⟩))]) ⟨rfl, trivial⟩ ?_
   replace hS := hCw
   refine WL.fieldAddr fo_36_2 rfl rfl rfl ?_
   exact WL.nil (N.cut () ⟨rfl, trivial⟩ (Below.refl _ _))
  refine And.intro (fun C hC wd hCw => ?_) ?_
  ·
   rcases hC with rfl | hC
   ·
    refine WL.sub (σ' := [(104, .pointer (some ⟨b5, 2, none⟩))]) ⟨rfl, trivial⟩ ?_
    replace hS := hCw
    refine WL.load1 (v := .int .i64 x.b) one_3 rfl rfl rfl (hS.cell 1 rfl rfl) ?_
    exact WL.nil (N.cut () ⟨rfl, trivial⟩ (Below.refl _ _))
   cases hC
   refine WL.sub (σ' := [(104, .pointer (some ⟨b5, 2, none⟩))]) ⟨rfl, trivial⟩ ?_
   replace hS := hCw
   refine WL.load1 (v := .int .i64 x.b) one_3 rfl rfl rfl (hS.cell 1 rfl rfl) ?_
   exact WL.nil (N.cut () ⟨rfl, trivial⟩ (Below.refl _ _))
  refine And.intro (fun C hC wd hCw => ?_) ?_
  ·
   rcases hC with rfl | hC
   ·
    refine WL.sub (σ' := [(103, .slice ads vals.length caps), (105, .int .i64 x.b)]) ⟨rfl, rfl, trivial⟩ ?_
    replace hS := hCw
    refine WL.set 105 (v' := .int .i64 (x.b.toNat : Int)) rfl (by rw [Int.toNat_of_nonneg hzb.1]) ?_
    refine WL.indexAddrE (j := x.b.toNat) Try.underlying82 isz_34 rfl rfl rfl rfl hj48 hE48 ?_
    exact WL.nil (N.cut () ⟨rfl, trivial⟩ (Below.refl _ _))
   cases hC
   refine WL.sub (σ' := [(103, .slice ads vals.length caps), (105, .int .i64 x.b)]) ⟨rfl, rfl, trivial⟩ ?_
   replace hS := hCw
   refine WL.set 105 (v' := .int .i64 (x.b.toNat : Int)) rfl (by rw [Int.toNat_of_nonneg hzb.1]) ?_
   refine WL.indexAddrE (j := x.b.toNat) Try.underlying82 isz_34 rfl rfl rfl rfl hj48 hE48 ?_
   exact WL.nil (N.cut () ⟨rfl, trivial⟩ (Below.refl _ _))
  refine And.intro (fun C hC wd hCw => ?_) ?_
  ·
   rcases hC with rfl | hC
   ·
    refine WL.sub (σ' := [(106, .pointer (some ⟨b48, o48 + x.b.toNat * 1, none⟩))]) ⟨rfl, trivial⟩ ?_
    replace hS := hCw
    refine WL.load1 (v := .int .u64 x48) one_34 rfl rfl rfl (hS.roCells hr48 hc48 0 _ rfl) ?_
    exact WL.nil (N.cut () ⟨rfl, trivial⟩ (Below.refl _ _))
   cases hC
   refine WL.sub (σ' := [(106, .pointer (some ⟨b48, o48 + x.b.toNat * 1, none⟩))]) ⟨rfl, trivial⟩ ?_
   replace hS := hCw
   refine WL.load1 (v := .int .u64 x48) one_34 rfl rfl rfl (hS.roCells hr48 hc48 0 _ rfl) ?_
   exact WL.nil (N.cut () ⟨rfl, trivial⟩ (Below.refl _ _))
  refine And.intro (fun C hC wd hCw => ?_) ?_
  ·
   rcases hC with rfl | hC
   ·
    refine WL.sub (σ' := [(97, .int .i64 x.op), (102, .int .u64 x47), (107, .int .u64 x48)]) ⟨rfl, rfl, rfl, trivial⟩ ?_
    replace hS := hCw
    refine WL.callF (vs := [.int .i64 x.op, .int .u64 x47, .int .u64 x48]) Try.func66 (by kernel_rfl) rfl rfl rfl (rreckon_ret x.op x47 x48 hu47 hu48 (ro := ro) (fun b hb => (hS.snap b hb).1)) ?_
    rintro v w51 ⟨rfl, hbl⟩
    replace hS := hS.grow hbl
    exact WL.nil (N.cut () ⟨rfl, trivial⟩ hbl)
   exact False.elim hC
  refine And.intro (fun wd hCw => ?_) ?_
  ·
   refine WL.sub (σ' := [(10, .pointer (some ⟨b7, 0, none⟩)), (95, .agg #[.bool Y.t.ended, .int .u64 Y.t.code, .string Y.t.out, .int .i64 Y.t.read, .int .i64 Y.t.steps, .int .i64 Y.t.deep, .slice ga Y.globs.length gc, .int .i64 Y.bad])]) ⟨rfl, rfl, trivial⟩ ?_
   replace hS := hCw
   refine WL.store (L' := [(b7, .cells #[.bool Y.t.ended, .int .u64 Y.t.code, .string Y.t.out, .int .i64 Y.t.read, .int .i64 Y.t.steps, .int .i64 Y.t.deep, .slice ga Y.globs.length gc, .int .i64 Y.bad] 84 (0, 0)), (b5, .cells #[.int .i64 x.op, .int .i64 x.a, .int .i64 x.b, .int .u64 x.k, .string x.name, .slice adx x.args.length capx] 36 (0, 0)), (b3, .cells #[.bool Y.t.ended, .int .u64 Y.t.code, .string Y.t.out, .int .i64 Y.t.read, .int .i64 Y.t.steps, .int .i64 Y.t.deep, .slice ga Y.globs.length gc, .int .i64 Y.bad] 84 (0, 0)), (b1, .cells #[.slice adf m.funcs.length capf, .slice adg m.globs.length capg] 46 (0, 0))]) 0 rfl rfl rfl rfl siz_84 rfl rfl rfl rfl rfl hS ?_
   clear hS; intro w52 hS
   exact WL.nil (N.cut () trivial hS)
  trivial
 clear hS; intro w53 hS
 refine WL.sub (σ' := [(10, .pointer (some ⟨b7, 0, none⟩)), (11, .int .u64 0), (108, .int .u64 (reckI x.op x47 x48))]) ⟨rfl, rfl, rfl, trivial⟩ ?_
 refine WL.assign rfl rfl rfl (WL.nil (N.seq ?_))
 refine Fin.retCT rfl (v := .agg #[.bool Y.t.ended, .int .u64 Y.t.code, .string Y.t.out, .int .i64 Y.t.read, .int .i64 Y.t.steps, .int .i64 Y.t.deep, .slice ga Y.globs.length gc, .int .i64 Y.bad]) (v' := .int .u64 (reckI x.op x47 x48)) rfl (tyAgg_run agg_84 (cs := [.bool Y.t.ended, .int .u64 Y.t.code, .string Y.t.out, .int .i64 Y.t.read, .int .i64 Y.t.steps, .int .i64 Y.t.deep, .slice ga Y.globs.length gc, .int .i64 Y.bad]) rfl (hS.cells 0 (m := 8) rfl rfl)) rfl ?_
 have hal : Alike ro w (roFrom ro w w53) w53 := fun b hb => ⟨.inl hb, hS.below.block b (hro b hb)⟩
 have e : gives7 m Y inp x vals = (Y, reckI x.op x47 x48) := by rw [gives7, if_neg (by omega), if_neg (by omega), if_neg (by omega), if_neg (by omega), if_neg (by omega), List.getD_eq_getElem?_getD, hx47, List.getD_eq_getElem?_getD, hx48]; rfl
 obtain ⟨rfl, rfl⟩ := Prod.mk.inj (e.symm.trans hY)
 exact ⟨.slice ga Y.globs.length gc, rfl, SlV.keep hg hal (fun _ _ q => q), reckI_in _ _ _ hu47, hS.below⟩

end Go.Proofs.Ytdlcmhkfglckfaa
