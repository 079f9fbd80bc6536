/-
  Contracts of the document's runs (marlineref07). No condition beyond those that each theorem states.
-/
import Derived.Test.YtdlcmhkfglckfaaE3
namespace Go.Proofs.Ytdlcmhkfglckfaa
open Go.RowKit
theorem fo_58_5 : fOff Try.prog 58 5 5 = true := by kernel_rfl
def CallOk (m : DMod) (inp : ByteArray) (fuel deep : Int) (d : Nat) : Prop := ∀ (cm : List Value) (n : Int) (Y : DW) (gv : Value) (s : ByteArray) (args : List Int) (va : Value) {w : World} {ro : Nat → Prop} (_ : ∀ b, ro b → b < w.heap.size) (_ : ModC ro w cm m) (_ : SlV ro w 1 U64C gv Y.globs) (_ : SlV ro w 1 U64C va args) (_ : Inv7 m fuel 0 Y) (_ : Y.bad = 0) (_ : 1 ≤ n ∧ n + d = deep) (_ : ∃ f, m.funcs[(find5 (fnames m) s).toNat]? = some f ∧ 0 ≤ find5 (fnames m) s ∧ f.blocks ≠ [] ∧ f.params = (args.length : Int)) (Y' : DW) (k : Int) (_ : call7 m inp fuel deep d Y s args = (Y', k)),
  Ret Try.prog 50 #[.agg cm.toArray, .agg #[.bool Y.t.ended, .int .u64 Y.t.code, .string Y.t.out, .int .i64 Y.t.read, .int .i64 Y.t.steps, .int .i64 Y.t.deep, gv, .int .i64 Y.bad], .string inp, .string s, va, .int .i64 n, .int .i64 fuel, .int .i64 deep] w fun v w' => ∃ gv', v = .tuple #[.agg #[.bool Y'.t.ended, .int .u64 Y'.t.code, .string Y'.t.out, .int .i64 Y'.t.read, .int .i64 Y'.t.steps, .int .i64 Y'.t.deep, gv', .int .i64 Y'.bad], .int .u64 k] ∧ SlV (roFrom ro w w') w' 1 U64C gv' Y'.globs ∧ inU k ∧ Below w.heap.size w w'

set_option maxRecDepth 20000 in
set_option maxHeartbeats 8000000 in
theorem call_step {m : DMod} {inp : ByteArray} {fuel deep : Int} (hwh : whole7 m = 0) (hfu : 0 ≤ fuel ∧ fuel ≤ 100000) (hdp : 1 ≤ deep ∧ deep ≤ 64) (d : Nat) (ih : ∀ d', d = d' + 1 → CallOk m inp fuel deep d') : CallOk m inp fuel deep d := by
 intro cm n Y gv s args va w ro hro hm hg ha hI hb hn hfe Y' k hY
 obtain ⟨f, hf, hf0, hfb, hfp⟩ := hfe
 obtain ⟨hn1, hnd⟩ := hn
 obtain ⟨sf, sg, rfl, hfs, hgs⟩ := id hm
 obtain ⟨adf, capf, rfl, hfsa, hfsb, hfsc, hfsd⟩ := id hfs
 have hfsm : m.funcs.length ≤ 9223372036854775807 := by have h1 := hfsa; have h2 := hfsb; unfold maxLen at h2; omega
 obtain ⟨adg, capg, rfl, hgsa, hgsb, hgsc, hgsd⟩ := id hgs
 have hgsm : m.globs.length ≤ 9223372036854775807 := by have h1 := hgsa; have h2 := hgsb; unfold maxLen at h2; omega
 obtain ⟨ga, gc, rfl, hga, hgb, hgc, hgd⟩ := id hg
 have hgm : Y.globs.length ≤ 9223372036854775807 := by have h1 := hga; have h2 := hgb; unfold maxLen at h2; omega
 have hck := (whole7_all hwh).1
 obtain ⟨_, hgl16, hff, _⟩ := check5_all hck
 have hfm := List.mem_of_getElem? hf
 have hf5 := hff f hfm
 have hfa := func5_all hf5
 obtain ⟨cal, hcal⟩ : ∃ c, c = calOf m inp fuel deep d := ⟨_, rfl⟩
 have hci : CalInv m fuel cal := by rw [hcal]; exact calOf_inv d
 have hR : blocks7 m inp fuel cal f (fuel - Y.t.steps).toNat.succ (deep7 Y n) 0 args = (Y', k) := by rw [hcal, ← hY, call7_eq hf, show deep - (d : Int) = n by omega]
 refine Ret.enter (P := Try.prog) (n := 156) (args := [.agg #[.slice adf m.funcs.length capf, .slice adg m.globs.length capg], .agg #[.bool Y.t.ended, .int .u64 Y.t.code, .string Y.t.out, .int .i64 Y.t.read, .int .i64 Y.t.steps, .int .i64 Y.t.deep, .slice ga Y.globs.length gc, .int .i64 Y.bad], .string inp, .string s, va, .int .i64 n, .int .i64 fuel, .int .i64 deep]) (σ := [(0, .agg #[.slice adf m.funcs.length capf, .slice adg m.globs.length capg]), (1, .agg #[.bool Y.t.ended, .int .u64 Y.t.code, .string Y.t.out, .int .i64 Y.t.read, .int .i64 Y.t.steps, .int .i64 Y.t.deep, .slice ga Y.globs.length gc, .int .i64 Y.bad]), (2, .string inp), (3, .string s), (4, va), (5, .int .i64 n), (6, .int .i64 fuel), (7, .int .i64 deep)]) Try.func50 rfl rfl rfl rfl ?_
 have hS := St.start (ro := ro) hro
 have hsub : ∀ b, ro b → ro b ∨ w.heap.size ≤ b := fun _ h => .inl h
 refine W.seq (W.region ?_)
 refine WL.box (v := .agg #[.slice adf m.funcs.length capf, .slice adg m.globs.length capg]) (cs := [.slice adf m.funcs.length capf, .slice adg m.globs.length capg]) rfl rfl rfl rfl hS ?_
 clear hS; intro w2 b1 hb_b1 hS
 refine WL.box (v := .agg #[.bool Y.t.ended, .int .u64 Y.t.code, .string Y.t.out, .int .i64 Y.t.read, .int .i64 Y.t.steps, .int .i64 Y.t.deep, .slice ga Y.globs.length gc, .int .i64 Y.bad]) (cs := [.bool Y.t.ended, .int .u64 Y.t.code, .string Y.t.out, .int .i64 Y.t.read, .int .i64 Y.t.steps, .int .i64 Y.t.deep, .slice ga Y.globs.length gc, .int .i64 Y.bad]) rfl rfl rfl rfl hS ?_
 clear hS; intro w4 b3 hb_b3 hS
 refine WL.alloc (tyZero_spec zer_84) rfl rfl hS ?_
 clear hS; intro w6 b5 hb_b5 hS
 refine WL.assign rfl rfl rfl (WL.nil (N.seq ?_))
 refine W.cut (α := DW) (fun (Y1 : DW) => [(2, .string inp), (3, .string s), (4, va), (5, .int .i64 n), (6, .int .i64 fuel), (7, .int .i64 deep), (8, .pointer (some ⟨b1, 0, none⟩)), (9, .pointer (some ⟨b3, 0, none⟩)), (16, .pointer (some ⟨b5, 0, none⟩)), (17, .int .u64 0)]) (fun (Y1 : DW) u => St w w u ro [(b5, .cells #[.bool false, .int .u64 0, .string ⟨#[]⟩, .int .i64 0, .int .i64 0, .int .i64 0, .slice none 0 0, .int .i64 0] 84 (0, 0)), (b3, .cells #[.bool Y1.t.ended, .int .u64 Y1.t.code, .string Y1.t.out, .int .i64 Y1.t.read, .int .i64 Y1.t.steps, .int .i64 Y1.t.deep, .slice ga Y.globs.length gc, .int .i64 Y1.bad] 84 (0, 0)), (b1, .cells #[.slice adf m.funcs.length capf, .slice adg m.globs.length capg] 46 (0, 0))] [] ∧ Y1 = deep7 Y n) ?_ ?_
 ·
  refine W.seq (W.region (WL.move rfl rfl rfl (WL.fieldAddr fo_84_0 rfl rfl rfl (WL.fieldAddr fo_58_5 rfl rfl rfl (WL.load1 (v := .int .i64 Y.t.deep) one_3 rfl rfl rfl (hS.cell 1 rfl rfl) (WL.bin rfl rfl rfl rfl rfl (WL.nil (N.seq ?_))))))))
  refine W.cond rfl (fun hc7 => ?_) (fun hc7 => ?_)
  ·
   have hc7p : Y.t.deep < n := by simpa using hc7
   refine W.region (WL.move rfl rfl rfl (WL.fieldAddr fo_84_0 rfl rfl rfl (WL.fieldAddr fo_58_5 rfl rfl rfl ?_)))
   refine WL.store (L' := [(b5, .cells #[.bool false, .int .u64 0, .string ⟨#[]⟩, .int .i64 0, .int .i64 0, .int .i64 0, .slice none 0 0, .int .i64 0] 84 (0, 0)), (b3, .cells #[.bool Y.t.ended, .int .u64 Y.t.code, .string Y.t.out, .int .i64 Y.t.read, .int .i64 Y.t.steps, .int .i64 n, .slice ga Y.globs.length gc, .int .i64 Y.bad] 84 (0, 0)), (b1, .cells #[.slice adf m.funcs.length capf, .slice adg m.globs.length capg] 46 (0, 0))]) 1 rfl rfl rfl rfl siz_3 rfl rfl rfl rfl rfl hS ?_
   clear hS; intro w8 hS
   refine WL.nil ?_
   exact N.cut ({ Y with t := { Y.t with deep := n } }) ⟨rfl, rfl, rfl, rfl, rfl, rfl, rfl, rfl, rfl, rfl, trivial⟩ ⟨hS, by rw [deep7, if_pos hc7p]⟩
  have hc7p : ¬ (Y.t.deep < n) := by simpa using hc7
  refine W.skip ?_
  exact N.cut Y ⟨rfl, rfl, rfl, rfl, rfl, rfl, rfl, rfl, rfl, rfl, trivial⟩ ⟨hS, by rw [deep7, if_neg hc7p]⟩
 clear hS
 rintro Y1 w9 ⟨hS, hY1⟩
 have hI1 : Inv7 m fuel 0 Y1 := by rw [hY1]; exact hI.deep n
 have hb1 : Y1.bad = 0 := by rw [hY1, deep7_bad]; exact hb
 have hs1 : Y1.t.steps = Y.t.steps := by rw [hY1, deep7_steps]
 have hg1 : SlV ro w 1 U64C (.slice ga Y.globs.length gc) Y1.globs := by rw [hY1, deep7_globs]; exact hg
 rw [← hY1] at hR
 refine W.seq ?_
 have hj10 : (find5 (fnames m) s).toNat < m.funcs.length := (List.getElem?_eq_some_iff.1 hf).1
 have hx10 := hf
 obtain ⟨b10, o10, cs10, hE10, hr10, hl10, hc10, hQ10⟩ := hfsd ((find5 (fnames m) s).toNat) _ hf
 obtain ⟨sb10, rfl, hbl10, hnm10, hbd10, hpr10⟩ := id hQ10
 obtain ⟨adb10, capb10, rfl, hbk10a, hbk10b, hbk10c, hbk10d⟩ := id hbl10
 have hbk10m : f.blocks.length ≤ 9223372036854775807 := by have h1 := hbk10a; have h2 := hbk10b; unfold maxLen at h2; omega
 refine W.drawL (by kernel_rfl) 8 ((.q (.pointer (some ⟨b1, 0, none⟩))) :: (.q (.slice adf m.funcs.length capf)) :: (.q (.agg #[.slice adf m.funcs.length capf, .slice adg m.globs.length capg])) :: (.q (.string s)) :: (.q (.int .i64 (find5 (fnames m) s))) :: (.q (.pointer (some ⟨b10, o10 + ((find5 (fnames m) s).toNat) * 4, none⟩))) :: (.q (.agg #[.string f.name, .int .i64 f.bind, .int .i64 f.params, .slice adb10 f.blocks.length capb10])) :: (.a 24 [.string ⟨#[]⟩, .int .i64 0, .int .i64 0, .slice none 0 0]) :: []) (by kernel_rfl) (by kernel_rfl) [(2, .string inp), (3, .string s), (4, va), (5, .int .i64 n), (6, .int .i64 fuel), (7, .int .i64 deep), (8, .pointer (some ⟨b1, 0, none⟩)), (9, .pointer (some ⟨b3, 0, none⟩)), (16, .pointer (some ⟨b5, 0, none⟩)), (17, .int .u64 0)] ⟨rfl, rfl, rfl, rfl, rfl, rfl, rfl, rfl, rfl, rfl, trivial⟩ (by kernel_rfl) hS ?_ ?_
 ·
  refine And.intro (fun β w hS => ?_) ?_
  ·
   refine WL.sub (σ' := [(8, .pointer (some ⟨b1, 0, none⟩))]) ⟨rfl, trivial⟩ ?_
   refine WL.fieldAddr fo_46_0 rfl rfl rfl ?_
   exact WL.nil (N.cut () ⟨rfl, trivial⟩ (Below.refl _ _))
  refine And.intro (fun β w hS => ?_) ?_
  ·
   refine WL.sub (σ' := [(33, .pointer (some ⟨b1, 0, none⟩))]) ⟨rfl, trivial⟩ ?_
   refine WL.load1 (v := .slice adf m.funcs.length capf) one_43 rfl rfl rfl (hS.cell 2 rfl rfl) ?_
   exact WL.nil (N.cut () ⟨rfl, trivial⟩ (Below.refl _ _))
  refine And.intro (fun β w hS => ?_) ?_
  ·
   refine WL.sub (σ' := [(8, .pointer (some ⟨b1, 0, none⟩))]) ⟨rfl, trivial⟩ ?_
   refine WL.loadN (cs := [.slice adf m.funcs.length capf, .slice adg m.globs.length capg]) agg_46 rfl rfl rfl rfl (hS.cells 2 (m := 2) rfl rfl) ?_
   exact WL.nil (N.cut () ⟨rfl, trivial⟩ (Below.refl _ _))
  refine And.intro (fun β w hS => ?_) ?_
  ·
   refine WL.sub (σ' := [(3, .string s)]) ⟨rfl, trivial⟩ ?_
   refine WL.move rfl rfl rfl ?_
   exact WL.nil (N.cut () ⟨rfl, trivial⟩ (Below.refl _ _))
  refine And.intro (fun β w hS => ?_) ?_
  ·
   refine WL.sub (σ' := [(35, .agg #[.slice adf m.funcs.length capf, .slice adg m.globs.length capg]), (36, .string s)]) ⟨rfl, rfl, trivial⟩ ?_
   refine WL.callF (vs := [.agg #[.slice adf m.funcs.length capf, .slice adg m.globs.length capg], .string s]) Try.func47 (by kernel_rfl) rfl rfl rfl (findfnames_ret m _ s (ro := ro) (fun b hb => (hS.snap b hb).1) (ModC.keep hm hS.alike)) ?_
   rintro v w12 ⟨rfl, hbl⟩
   replace hS := hS.grow hbl
   exact WL.nil (N.cut () ⟨rfl, trivial⟩ hbl)
  refine And.intro (fun β w hS => ?_) ?_
  ·
   refine WL.sub (σ' := [(34, .slice adf m.funcs.length capf), (37, .int .i64 (find5 (fnames m) s))]) ⟨rfl, rfl, trivial⟩ ?_
   refine WL.set 37 (v' := .int .i64 (((find5 (fnames m) s).toNat : Nat) : Int)) rfl (by rw [Int.toNat_of_nonneg hf0]) ?_
   refine WL.indexAddrE (j := (find5 (fnames m) s).toNat) Try.underlying43 isz_24 rfl rfl rfl rfl hj10 hE10 ?_
   exact WL.nil (N.cut () ⟨rfl, trivial⟩ (Below.refl _ _))
  refine And.intro (fun β w hS => ?_) ?_
  ·
   refine WL.sub (σ' := [(38, .pointer (some ⟨b10, o10 + ((find5 (fnames m) s).toNat) * 4, none⟩))]) ⟨rfl, trivial⟩ ?_
   refine WL.loadN (cs := [.string f.name, .int .i64 f.bind, .int .i64 f.params, .slice adb10 f.blocks.length capb10]) agg_24 rfl rfl rfl rfl (hS.roCells hr10 hc10) ?_
   exact WL.nil (N.cut () ⟨rfl, trivial⟩ (Below.refl _ _))
  refine And.intro ⟨rfl, rfl, tyZero_spec zer_24⟩ ?_
  trivial
 clear hS; intro w13 β hS
 obtain ⟨b14, hb14⟩ : ∃ x, β 7 = x := ⟨_, rfl⟩
 replace hS : St w w w13 ro [(b14, .cells #[.string ⟨#[]⟩, .int .i64 0, .int .i64 0, .slice none 0 0] 24 (0, 0)), (b5, .cells #[.bool false, .int .u64 0, .string ⟨#[]⟩, .int .i64 0, .int .i64 0, .int .i64 0, .slice none 0 0, .int .i64 0] 84 (0, 0)), (b3, .cells #[.bool Y1.t.ended, .int .u64 Y1.t.code, .string Y1.t.out, .int .i64 Y1.t.read, .int .i64 Y1.t.steps, .int .i64 Y1.t.deep, .slice ga Y.globs.length gc, .int .i64 Y1.bad] 84 (0, 0)), (b1, .cells #[.slice adf m.funcs.length capf, .slice adg m.globs.length capg] 46 (0, 0))] [] := by rw [← hb14]; exact hS
 refine WL.sub (σ' := [(2, .string inp), (4, va), (5, .int .i64 n), (6, .int .i64 fuel), (7, .int .i64 deep), (8, .pointer (some ⟨b1, 0, none⟩)), (9, .pointer (some ⟨b3, 0, none⟩)), (16, .pointer (some ⟨b5, 0, none⟩)), (17, .int .u64 0), (18, .pointer (some ⟨b14, 0, none⟩)), (39, .agg #[.string f.name, .int .i64 f.bind, .int .i64 f.params, .slice adb10 f.blocks.length capb10])]) ⟨rfl, rfl, rfl, rfl, rfl, rfl, rfl, rfl, rfl, by rw [← hb14]; rfl, rfl, trivial⟩ ?_
 refine WL.store (L' := [(b14, .cells #[.string f.name, .int .i64 f.bind, .int .i64 f.params, .slice adb10 f.blocks.length capb10] 24 (0, 0)), (b5, .cells #[.bool false, .int .u64 0, .string ⟨#[]⟩, .int .i64 0, .int .i64 0, .int .i64 0, .slice none 0 0, .int .i64 0] 84 (0, 0)), (b3, .cells #[.bool Y1.t.ended, .int .u64 Y1.t.code, .string Y1.t.out, .int .i64 Y1.t.read, .int .i64 Y1.t.steps, .int .i64 Y1.t.deep, .slice ga Y.globs.length gc, .int .i64 Y1.bad] 84 (0, 0)), (b1, .cells #[.slice adf m.funcs.length capf, .slice adg m.globs.length capg] 46 (0, 0))]) 0 rfl rfl rfl rfl siz_24 rfl rfl rfl rfl rfl hS ?_
 clear hS; intro w15 hS
 refine WL.nil (N.seq (W.seq (W.region (WL.assign rfl rfl rfl (WL.nil (N.seq (W.seq (W.region (WL.move rfl rfl rfl ?_)))))))))
 refine WL.assign rfl rfl rfl (WL.nil (N.seq (W.block ?_)))
 have hab : (0 : Int) ≤ 0 ∧ (0 : Int).toNat < f.blocks.length := ⟨Int.le_refl _, by show 0 < _; exact List.length_pos_iff.2 hfb⟩
 have hpar0 : ∀ b, f.blocks[(0 : Int).toNat]? = some b → (args.length : Int) = b.params := fun b hb => by rw [entry5 hf5 hb, hfp]
 refine W.loop (α := Int × Value × List Int × DW × Value × Nat × (Nat → Prop) × World) (fun ⟨a, vv, vals, Y2, g2, gg, R2, ws2⟩ => [(2, .string inp), (5, .int .i64 n), (6, .int .i64 fuel), (7, .int .i64 deep), (8, .pointer (some ⟨b1, 0, none⟩)), (9, .pointer (some ⟨b3, 0, none⟩)), (16, .pointer (some ⟨b5, 0, none⟩)), (18, .pointer (some ⟨b14, 0, none⟩)), (19, .int .i64 a), (20, vv)]) (fun ⟨a, vv, vals, Y2, g2, gg, R2, ws2⟩ u => St w ws2 u R2 [(b14, .cells #[.string f.name, .int .i64 f.bind, .int .i64 f.params, .slice adb10 f.blocks.length capb10] 24 (0, 0)), (b5, .cells #[.bool false, .int .u64 0, .string ⟨#[]⟩, .int .i64 0, .int .i64 0, .int .i64 0, .slice none 0 0, .int .i64 0] 84 (0, 0)), (b3, .cells #[.bool Y2.t.ended, .int .u64 Y2.t.code, .string Y2.t.out, .int .i64 Y2.t.read, .int .i64 Y2.t.steps, .int .i64 Y2.t.deep, g2, .int .i64 Y2.bad] 84 (0, 0)), (b1, .cells #[.slice adf m.funcs.length capf, .slice adg m.globs.length capg] 46 (0, 0))] [] ∧ (0 ≤ a ∧ a.toNat < f.blocks.length) ∧ (∀ b, f.blocks[a.toNat]? = some b → (vals.length : Int) = b.params) ∧ Inv7 m fuel 0 Y2 ∧ Y2.bad = 0 ∧ (fuel - Y2.t.steps).toNat < gg ∧ blocks7 m inp fuel cal f gg Y2 a vals = (Y', k) ∧ SlV R2 ws2 1 U64C vv vals ∧ SlV R2 ws2 1 U64C g2 Y2.globs ∧ Alike ro w R2 ws2 ∧ (∀ b, R2 b → ro b ∨ w.heap.size ≤ b)) (fun ⟨a, vv, vals, Y2, g2, gg, R2, ws2⟩ => gg) (0, va, args, Y1, .slice ga Y.globs.length gc, (fuel - Y.t.steps).toNat.succ, ro, w) ⟨rfl, rfl, rfl, rfl, rfl, rfl, rfl, rfl, rfl, rfl, trivial⟩ ⟨hS, hab, hpar0, hI1, hb1, by rw [hs1]; exact Nat.lt_succ_self _, hR, ha, hg1, Alike.refl, hsub⟩ ?_
 clear hS
 rintro ⟨a, vv, vals, Y2, g2, gg, R2, ws2⟩ w16 ⟨hS, ⟨ha0, ha1⟩, hpar, hI2, hb2, hgg, hR2, hvv, hg2, halL0, hsub⟩
 replace hm := hm.keep halL0
 replace hbk10d := hbk10d.keep halL0 (fun _ _ h => h.keep halL0)
 obtain ⟨ga2, gc2, rfl, hg2a, hg2b, hg2c, hg2d⟩ := id hg2
 have hg2m : Y2.globs.length ≤ 9223372036854775807 := by have h1 := hg2a; have h2 := hg2b; unfold maxLen at h2; omega
 refine W.block (W.seq (W.region (WL.fieldAddr fo_24_3 rfl rfl rfl (WL.load1 (v := .slice adb10 f.blocks.length capb10) one_22 rfl rfl rfl (hS.cell 0 rfl rfl) (WL.move rfl rfl rfl ?_)))))
 refine WL.set 43 (v' := .int .i64 (a.toNat : Int)) rfl (by rw [Int.toNat_of_nonneg ha0]) ?_
 have hj17 : a.toNat < f.blocks.length := ha1
 obtain ⟨x17, hx17⟩ : ∃ zz, f.blocks[a.toNat]? = some zz := ⟨_, List.getElem?_eq_getElem hj17⟩
 obtain ⟨b17, o17, cs17, hE17, hr17, hl17, hc17, hQ17⟩ := hbk10d a.toNat _ hx17
 obtain ⟨si17, tsx17, rfl, hin17, hfin17, hpar17⟩ := id hQ17
 obtain ⟨adi17, capi17, rfl, hin17a, hin17b, hin17c, hin17d⟩ := id hin17
 have hin17m : x17.ins.length ≤ 9223372036854775807 := by have h1 := hin17a; have h2 := hin17b; unfold maxLen at h2; omega
 obtain ⟨sp17, sq17, rfl, ht117, ht217, htk17, hta17, htt17, hte17⟩ := id hfin17
 obtain ⟨adp17, capp17, rfl, htp17a, htp17b, htp17c, htp17d⟩ := id ht117
 have htp17m : x17.fin.args.length ≤ 9223372036854775807 := by have h1 := htp17a; have h2 := htp17b; unfold maxLen at h2; omega
 obtain ⟨adq17, capq17, rfl, htq17a, htq17b, htq17c, htq17d⟩ := id ht217
 have htq17m : x17.fin.elses.length ≤ 9223372036854775807 := by have h1 := htq17a; have h2 := htq17b; unfold maxLen at h2; omega
 refine WL.indexAddrE (j := a.toNat) Try.underlying22 isz_32 rfl rfl rfl rfl hj17 hE17 (WL.loadN (cs := [.int .i64 x17.params, .slice adi17 x17.ins.length capi17, .int .i64 x17.fin.kind, .int .i64 x17.fin.a, .int .i64 x17.fin.to, .slice adp17 x17.fin.args.length capp17, .int .i64 x17.fin.els, .slice adq17 x17.fin.elses.length capq17]) agg_32 rfl rfl rfl rfl (hS.roCells hr17 hc17) ?_)
 refine WL.alloc (tyZero_spec zer_32) rfl rfl hS ?_
 clear hS; intro w19 b18 hb_b18 hS
 refine WL.store (L' := [(b18, .cells #[.int .i64 x17.params, .slice adi17 x17.ins.length capi17, .int .i64 x17.fin.kind, .int .i64 x17.fin.a, .int .i64 x17.fin.to, .slice adp17 x17.fin.args.length capp17, .int .i64 x17.fin.els, .slice adq17 x17.fin.elses.length capq17] 32 (0, 0)), (b14, .cells #[.string f.name, .int .i64 f.bind, .int .i64 f.params, .slice adb10 f.blocks.length capb10] 24 (0, 0)), (b5, .cells #[.bool false, .int .u64 0, .string ⟨#[]⟩, .int .i64 0, .int .i64 0, .int .i64 0, .slice none 0 0, .int .i64 0] 84 (0, 0)), (b3, .cells #[.bool Y2.t.ended, .int .u64 Y2.t.code, .string Y2.t.out, .int .i64 Y2.t.read, .int .i64 Y2.t.steps, .int .i64 Y2.t.deep, .slice ga2 Y2.globs.length gc2, .int .i64 Y2.bad] 84 (0, 0)), (b1, .cells #[.slice adf m.funcs.length capf, .slice adg m.globs.length capg] 46 (0, 0))]) 0 rfl rfl rfl rfl siz_32 rfl rfl rfl rfl rfl hS ?_
 clear hS; intro w20 hS
 refine WL.nil (N.seq (W.seq (W.seq (W.region (WL.assign rfl rfl rfl (WL.nil (N.seq (W.block ?_))))))))
 have hbk := hx17
 have hbm := List.mem_of_getElem? hbk
 have hb5 := hfa.2 _ hbm
 obtain ⟨hp0, hp6, hi32⟩ := block5_all hb5
 obtain ⟨hall, hterm⟩ := block5_more hb5
 obtain ⟨hT1, hT2, hT3, hT4, hT5, hT6, hT7, hT8, hT9⟩ := term5_all hterm hf5
 have hvp := hpar _ hbk
 obtain ⟨BD, hBD⟩ : ∃ z, body7 m inp fuel cal Y2 vals x17.ins = z := ⟨_, rfl⟩
 refine W.loop (α := Nat × Value × List Int × DW × Value × (Nat → Prop) × World) (fun ⟨j, v2, vals2, Y3, g3, R3, ws3⟩ => [(2, .string inp), (5, .int .i64 n), (6, .int .i64 fuel), (7, .int .i64 deep), (8, .pointer (some ⟨b1, 0, none⟩)), (9, .pointer (some ⟨b3, 0, none⟩)), (16, .pointer (some ⟨b5, 0, none⟩)), (18, .pointer (some ⟨b14, 0, none⟩)), (19, .int .i64 a), (20, v2), (21, .pointer (some ⟨b18, 0, none⟩)), (22, .int .i64 (j : Int))]) (fun ⟨j, v2, vals2, Y3, g3, R3, ws3⟩ u => St w ws3 u R3 [(b18, .cells #[.int .i64 x17.params, .slice adi17 x17.ins.length capi17, .int .i64 x17.fin.kind, .int .i64 x17.fin.a, .int .i64 x17.fin.to, .slice adp17 x17.fin.args.length capp17, .int .i64 x17.fin.els, .slice adq17 x17.fin.elses.length capq17] 32 (0, 0)), (b14, .cells #[.string f.name, .int .i64 f.bind, .int .i64 f.params, .slice adb10 f.blocks.length capb10] 24 (0, 0)), (b5, .cells #[.bool false, .int .u64 0, .string ⟨#[]⟩, .int .i64 0, .int .i64 0, .int .i64 0, .slice none 0 0, .int .i64 0] 84 (0, 0)), (b3, .cells #[.bool Y3.t.ended, .int .u64 Y3.t.code, .string Y3.t.out, .int .i64 Y3.t.read, .int .i64 Y3.t.steps, .int .i64 Y3.t.deep, g3, .int .i64 Y3.bad] 84 (0, 0)), (b1, .cells #[.slice adf m.funcs.length capf, .slice adg m.globs.length capg] 46 (0, 0))] [] ∧ j ≤ x17.ins.length ∧ (vals2.length : Int) = x17.params + j ∧ Inv7 m fuel 0 Y3 ∧ Y3.bad = 0 ∧ Y2.t.steps ≤ Y3.t.steps ∧ body7 m inp fuel cal Y3 vals2 (x17.ins.drop j) = BD ∧ SlV R3 ws3 1 U64C v2 vals2 ∧ SlV R3 ws3 1 U64C g3 Y3.globs ∧ Alike R2 ws2 R3 ws3 ∧ (∀ b, R3 b → ro b ∨ w.heap.size ≤ b)) (fun ⟨j, v2, vals2, Y3, g3, R3, ws3⟩ => x17.ins.length - j) (0, vv, vals, Y2, .slice ga2 Y2.globs.length gc2, R2, ws2) ⟨rfl, rfl, rfl, rfl, rfl, rfl, rfl, rfl, rfl, rfl, rfl, rfl, trivial⟩ ⟨hS, Nat.zero_le _, by rw [hvp]; simp, hI2, hb2, Int.le_refl _, hBD, hvv, hg2, Alike.refl, hsub⟩ ?_
 clear hS
 rintro ⟨j, v2, vals2, Y3, g3, R3, ws3⟩ w21 ⟨hS, hj, hvl, hI3, hb3, hs3, hB3, hv2, hg3, halL1, hsub⟩
 replace halL0 := halL0.trans halL1
 replace hm := hm.keep halL1
 replace hin17d := hin17d.keep halL1 (fun _ _ h => h.keep halL1)
 replace ht117 := SlV.keep ht117 halL1 (fun _ _ h => h)
 replace ht217 := SlV.keep ht217 halL1 (fun _ _ h => h)
 obtain ⟨ga3, gc3, rfl, hg3a, hg3b, hg3c, hg3d⟩ := id hg3
 have hg3m : Y3.globs.length ≤ 9223372036854775807 := by have h1 := hg3a; have h2 := hg3b; unfold maxLen at h2; omega
 obtain ⟨ads, caps, rfl, hv2a, hv2b, hv2c, hv2d⟩ := id hv2
 have hv2m : vals2.length ≤ 9223372036854775807 := by have h1 := hv2a; have h2 := hv2b; unfold maxLen at h2; omega
 refine W.seq (W.seq (W.region (WL.move rfl rfl rfl (WL.fieldAddr fo_32_1 rfl rfl rfl (WL.load1 (v := .slice adi17 x17.ins.length capi17) one_27 rfl rfl rfl (hS.cell 0 rfl rfl) (WL.lenSlice Try.underlying27 rfl rfl rfl (WL.bin rfl rfl rfl rfl rfl (WL.nil (N.seq ?_)))))))))
 refine W.cond rfl (fun hc22 => ?_) (fun hc22 => ?_)
 ·
  have hc22p : (j : Int) < (x17.ins.length : Int) := by simpa using hc22
  refine W.skip (N.seq (W.seq (W.block (W.seq (W.region (WL.fieldAddr fo_32_1 rfl rfl rfl (WL.load1 (v := .slice adi17 x17.ins.length capi17) one_27 rfl rfl rfl (hS.cell 0 rfl rfl) (WL.move rfl rfl rfl ?_))))))))
  have hj23 : j < x17.ins.length := by omega
  obtain ⟨x23, hx23⟩ : ∃ zz, x17.ins[j]? = some zz := ⟨_, List.getElem?_eq_getElem hj23⟩
  obtain ⟨b23, o23, cs23, hE23, hr23, hl23, hc23, hQ23⟩ := hin17d j _ hx23
  have hQk23 := hQ23
  obtain ⟨sv23, rfl, hs23, ho23, ha23, hb23, hk23, hn23⟩ := hQ23
  obtain ⟨ad23, cap23, rfl, hs23a, hs23b, hs23c, hs23d⟩ := id hs23
  have hs23m : x23.args.length ≤ 9223372036854775807 := by have h1 := hs23a; have h2 := hs23b; unfold maxLen at h2; omega
  refine WL.indexAddrE (j := j) Try.underlying27 isz_36 rfl rfl rfl rfl hj23 hE23 (WL.loadN (cs := [.int .i64 x23.op, .int .i64 x23.a, .int .i64 x23.b, .int .u64 x23.k, .string x23.name, .slice ad23 x23.args.length cap23]) agg_36 rfl rfl rfl rfl (hS.roCells hr23 hc23) ?_)
  refine WL.alloc (tyZero_spec zer_36) rfl rfl hS ?_
  clear hS; intro w25 b24 hb_b24 hS
  refine WL.store (L' := [(b24, .cells #[.int .i64 x23.op, .int .i64 x23.a, .int .i64 x23.b, .int .u64 x23.k, .string x23.name, .slice ad23 x23.args.length cap23] 36 (0, 0)), (b18, .cells #[.int .i64 x17.params, .slice adi17 x17.ins.length capi17, .int .i64 x17.fin.kind, .int .i64 x17.fin.a, .int .i64 x17.fin.to, .slice adp17 x17.fin.args.length capp17, .int .i64 x17.fin.els, .slice adq17 x17.fin.elses.length capq17] 32 (0, 0)), (b14, .cells #[.string f.name, .int .i64 f.bind, .int .i64 f.params, .slice adb10 f.blocks.length capb10] 24 (0, 0)), (b5, .cells #[.bool false, .int .u64 0, .string ⟨#[]⟩, .int .i64 0, .int .i64 0, .int .i64 0, .slice none 0 0, .int .i64 0] 84 (0, 0)), (b3, .cells #[.bool Y3.t.ended, .int .u64 Y3.t.code, .string Y3.t.out, .int .i64 Y3.t.read, .int .i64 Y3.t.steps, .int .i64 Y3.t.deep, .slice ga3 Y3.globs.length gc3, .int .i64 Y3.bad] 84 (0, 0)), (b1, .cells #[.slice adf m.funcs.length capf, .slice adg m.globs.length capg] 46 (0, 0))]) 0 rfl rfl rfl rfl siz_36 rfl rfl rfl rfl rfl hS ?_
  clear hS; intro w26 hS
  refine WL.nil (N.seq (W.seq (W.region (WL.loadN (cs := [.bool Y3.t.ended, .int .u64 Y3.t.code, .string Y3.t.out, .int .i64 Y3.t.read, .int .i64 Y3.t.steps, .int .i64 Y3.t.deep, .slice ga3 Y3.globs.length gc3, .int .i64 Y3.bad]) agg_84 rfl rfl rfl rfl (hS.cells 4 (m := 8) rfl rfl) (WL.move rfl rfl rfl ?_)))))
  obtain ⟨Y4, hY4⟩ : ∃ z, step7 Y3 fuel = z := ⟨_, rfl⟩
  refine WL.callF (vs := [.agg #[.bool Y3.t.ended, .int .u64 Y3.t.code, .string Y3.t.out, .int .i64 Y3.t.read, .int .i64 Y3.t.steps, .int .i64 Y3.t.deep, .slice ga3 Y3.globs.length gc3, .int .i64 Y3.bad], .int .i64 fuel]) Try.func59 (by kernel_rfl) rfl rfl rfl (step7_ret Y3 Y4 ga3 Y3.globs.length gc3 fuel hY4 (ro := R3) (fun b hb => (hS.snap b hb).1) ⟨hI3.s0, by have := hI3.sf; omega⟩) ?_
  rintro v w27 ⟨rfl, hbl⟩
  replace hS := hS.grow hbl
  refine WL.store (L' := [(b24, .cells #[.int .i64 x23.op, .int .i64 x23.a, .int .i64 x23.b, .int .u64 x23.k, .string x23.name, .slice ad23 x23.args.length cap23] 36 (0, 0)), (b18, .cells #[.int .i64 x17.params, .slice adi17 x17.ins.length capi17, .int .i64 x17.fin.kind, .int .i64 x17.fin.a, .int .i64 x17.fin.to, .slice adp17 x17.fin.args.length capp17, .int .i64 x17.fin.els, .slice adq17 x17.fin.elses.length capq17] 32 (0, 0)), (b14, .cells #[.string f.name, .int .i64 f.bind, .int .i64 f.params, .slice adb10 f.blocks.length capb10] 24 (0, 0)), (b5, .cells #[.bool false, .int .u64 0, .string ⟨#[]⟩, .int .i64 0, .int .i64 0, .int .i64 0, .slice none 0 0, .int .i64 0] 84 (0, 0)), (b3, .cells #[.bool Y4.t.ended, .int .u64 Y4.t.code, .string Y4.t.out, .int .i64 Y4.t.read, .int .i64 Y4.t.steps, .int .i64 Y4.t.deep, .slice ga3 Y3.globs.length gc3, .int .i64 Y4.bad] 84 (0, 0)), (b1, .cells #[.slice adf m.funcs.length capf, .slice adg m.globs.length capg] 46 (0, 0))]) 4 rfl rfl rfl rfl siz_84 rfl rfl rfl rfl rfl hS ?_
  clear hS; intro w28 hS
  refine WL.nil (N.seq (W.seq (W.seq (W.region (WL.fieldAddr fo_84_2 rfl rfl rfl (WL.load1 (v := .int .i64 Y4.bad) one_3 rfl rfl rfl (hS.cell 4 rfl rfl) (WL.bin rfl rfl rfl rfl rfl (WL.nil (N.seq ?_)))))))))
  refine W.cond rfl (fun hc29 => ?_) (fun hc29 => ?_)
  ·
   have hc29p : ¬ (Y4.bad = 0) := by simpa using hc29
   refine W.seq (W.region (WL.loadN (cs := [.bool Y4.t.ended, .int .u64 Y4.t.code, .string Y4.t.out, .int .i64 Y4.t.read, .int .i64 Y4.t.steps, .int .i64 Y4.t.deep, .slice ga3 Y3.globs.length gc3, .int .i64 Y4.bad]) agg_84 rfl rfl rfl rfl (hS.cells 4 (m := 8) rfl rfl) ?_))
   refine WL.store (L' := [(b24, .cells #[.int .i64 x23.op, .int .i64 x23.a, .int .i64 x23.b, .int .u64 x23.k, .string x23.name, .slice ad23 x23.args.length cap23] 36 (0, 0)), (b18, .cells #[.int .i64 x17.params, .slice adi17 x17.ins.length capi17, .int .i64 x17.fin.kind, .int .i64 x17.fin.a, .int .i64 x17.fin.to, .slice adp17 x17.fin.args.length capp17, .int .i64 x17.fin.els, .slice adq17 x17.fin.elses.length capq17] 32 (0, 0)), (b14, .cells #[.string f.name, .int .i64 f.bind, .int .i64 f.params, .slice adb10 f.blocks.length capb10] 24 (0, 0)), (b5, .cells #[.bool Y4.t.ended, .int .u64 Y4.t.code, .string Y4.t.out, .int .i64 Y4.t.read, .int .i64 Y4.t.steps, .int .i64 Y4.t.deep, .slice ga3 Y3.globs.length gc3, .int .i64 Y4.bad] 84 (0, 0)), (b3, .cells #[.bool Y4.t.ended, .int .u64 Y4.t.code, .string Y4.t.out, .int .i64 Y4.t.read, .int .i64 Y4.t.steps, .int .i64 Y4.t.deep, .slice ga3 Y3.globs.length gc3, .int .i64 Y4.bad] 84 (0, 0)), (b1, .cells #[.slice adf m.funcs.length capf, .slice adg m.globs.length capg] 46 (0, 0))]) 3 rfl rfl rfl rfl siz_84 rfl rfl rfl rfl rfl hS ?_
   clear hS; intro w30 hS
   refine WL.assign rfl rfl rfl (WL.nil (N.seq ?_))
   refine Fin.retCT rfl (v := .agg #[.bool Y4.t.ended, .int .u64 Y4.t.code, .string Y4.t.out, .int .i64 Y4.t.read, .int .i64 Y4.t.steps, .int .i64 Y4.t.deep, .slice ga3 Y3.globs.length gc3, .int .i64 Y4.bad]) (v' := .int .u64 0) rfl (tyAgg_run agg_84 (cs := [.bool Y4.t.ended, .int .u64 Y4.t.code, .string Y4.t.out, .int .i64 Y4.t.read, .int .i64 Y4.t.steps, .int .i64 Y4.t.deep, .slice ga3 Y3.globs.length gc3, .int .i64 Y4.bad]) rfl (hS.cells 3 (m := 8) rfl rfl)) rfl ?_
   have hfin : Alike R3 ws3 (roFrom ro w w30) w30 := fun b hb => ⟨(hsub b hb).elim .inl (fun h => .inr ⟨h, (hS.snap b hb).1⟩), (hS.snap b hb).2⟩
   have hne : Y4.bad ≠ 0 := by simpa using hc29p
   have e := blocks7_bad (g := gg) (a := a) hbk (by omega) (hBD.trans (hB3.symm.trans (body7_stop hx23 hY4 hne))) hne
   obtain ⟨rfl, rfl⟩ := Prod.mk.inj (e.symm.trans hR2)
   exact ⟨.slice ga3 Y3.globs.length gc3, rfl, SlV.keep (show SlV R3 ws3 1 U64C (.slice ga3 Y3.globs.length gc3) Y4.globs by rw [← hY4, step7_globs]; exact hg3) hfin (fun _ _ q => q), ⟨by decide, by decide⟩, hS.below⟩
  have hc29p : Y4.bad = 0 := by simpa using hc29
  refine W.skip (N.seq (W.seq (W.region (WL.assign rfl rfl rfl (WL.nil (N.seq (W.seq (W.seq ?_))))))))
  have hb4 : Y4.bad = 0 := by simpa using hc29p
  have hI4 : Inv7 m fuel 1 Y4 := hY4 ▸ hI3.step1 (by rw [hY4]; exact hb4)
  have hs4 : Y4.t.steps = Y3.t.steps + 1 := by have h := step7_steps (W := Y3) (fuel := fuel) (by rw [hY4]; exact hb4); rwa [hY4] at h
  have hg4 : SlV R3 ws3 1 U64C (.slice ga3 Y3.globs.length gc3) Y4.globs := by rw [← hY4, step7_globs]; exact hg3
  have hxm := List.mem_of_getElem? hx23
  have h5 := allFrom_at _ _ j _ hall hx23
  rw [← hvl] at h5
  refine W.region (WL.fieldAddr fo_36_0 rfl rfl rfl (WL.load1 (v := .int .i64 x23.op) one_3 rfl rfl rfl (hS.cell 0 rfl rfl) (WL.bin rfl rfl rfl rfl rfl (WL.nil (N.seq ?_)))))
  refine W.cond rfl (fun hc31 => ?_) (fun hc31 => ?_)
  ·
   have hc31p : x23.op = 14 := by simpa using hc31
   refine W.seq (W.seq (W.region (WL.move rfl rfl rfl (WL.move rfl rfl rfl (WL.bin rfl rfl rfl rfl rfl (WL.nil (N.seq ?_)))))))
   refine W.cond rfl (fun hc32 => ?_) (fun hc32 => ?_)
   ·
    have hc32p : n = deep := by simpa using hc32
    refine W.seq (W.region (WL.fieldAddr fo_84_2 rfl rfl rfl ?_))
    refine WL.store (L' := [(b24, .cells #[.int .i64 x23.op, .int .i64 x23.a, .int .i64 x23.b, .int .u64 x23.k, .string x23.name, .slice ad23 x23.args.length cap23] 36 (0, 0)), (b18, .cells #[.int .i64 x17.params, .slice adi17 x17.ins.length capi17, .int .i64 x17.fin.kind, .int .i64 x17.fin.a, .int .i64 x17.fin.to, .slice adp17 x17.fin.args.length capp17, .int .i64 x17.fin.els, .slice adq17 x17.fin.elses.length capq17] 32 (0, 0)), (b14, .cells #[.string f.name, .int .i64 f.bind, .int .i64 f.params, .slice adb10 f.blocks.length capb10] 24 (0, 0)), (b5, .cells #[.bool false, .int .u64 0, .string ⟨#[]⟩, .int .i64 0, .int .i64 0, .int .i64 0, .slice none 0 0, .int .i64 0] 84 (0, 0)), (b3, .cells #[.bool Y4.t.ended, .int .u64 Y4.t.code, .string Y4.t.out, .int .i64 Y4.t.read, .int .i64 Y4.t.steps, .int .i64 Y4.t.deep, .slice ga3 Y3.globs.length gc3, .int .i64 13] 84 (0, 0)), (b1, .cells #[.slice adf m.funcs.length capf, .slice adg m.globs.length capg] 46 (0, 0))]) 4 rfl rfl rfl rfl siz_3 rfl rfl rfl rfl rfl hS ?_
    clear hS; intro w33 hS
    refine WL.nil (N.seq (W.seq (W.region (WL.loadN (cs := [.bool Y4.t.ended, .int .u64 Y4.t.code, .string Y4.t.out, .int .i64 Y4.t.read, .int .i64 Y4.t.steps, .int .i64 Y4.t.deep, .slice ga3 Y3.globs.length gc3, .int .i64 13]) agg_84 rfl rfl rfl rfl (hS.cells 4 (m := 8) rfl rfl) ?_))))
    refine WL.store (L' := [(b24, .cells #[.int .i64 x23.op, .int .i64 x23.a, .int .i64 x23.b, .int .u64 x23.k, .string x23.name, .slice ad23 x23.args.length cap23] 36 (0, 0)), (b18, .cells #[.int .i64 x17.params, .slice adi17 x17.ins.length capi17, .int .i64 x17.fin.kind, .int .i64 x17.fin.a, .int .i64 x17.fin.to, .slice adp17 x17.fin.args.length capp17, .int .i64 x17.fin.els, .slice adq17 x17.fin.elses.length capq17] 32 (0, 0)), (b14, .cells #[.string f.name, .int .i64 f.bind, .int .i64 f.params, .slice adb10 f.blocks.length capb10] 24 (0, 0)), (b5, .cells #[.bool Y4.t.ended, .int .u64 Y4.t.code, .string Y4.t.out, .int .i64 Y4.t.read, .int .i64 Y4.t.steps, .int .i64 Y4.t.deep, .slice ga3 Y3.globs.length gc3, .int .i64 13] 84 (0, 0)), (b3, .cells #[.bool Y4.t.ended, .int .u64 Y4.t.code, .string Y4.t.out, .int .i64 Y4.t.read, .int .i64 Y4.t.steps, .int .i64 Y4.t.deep, .slice ga3 Y3.globs.length gc3, .int .i64 13] 84 (0, 0)), (b1, .cells #[.slice adf m.funcs.length capf, .slice adg m.globs.length capg] 46 (0, 0))]) 3 rfl rfl rfl rfl siz_84 rfl rfl rfl rfl rfl hS ?_
    clear hS; intro w34 hS
    refine WL.assign rfl rfl rfl (WL.nil (N.seq ?_))
    refine Fin.retCT rfl (v := .agg #[.bool Y4.t.ended, .int .u64 Y4.t.code, .string Y4.t.out, .int .i64 Y4.t.read, .int .i64 Y4.t.steps, .int .i64 Y4.t.deep, .slice ga3 Y3.globs.length gc3, .int .i64 13]) (v' := .int .u64 0) rfl (tyAgg_run agg_84 (cs := [.bool Y4.t.ended, .int .u64 Y4.t.code, .string Y4.t.out, .int .i64 Y4.t.read, .int .i64 Y4.t.steps, .int .i64 Y4.t.deep, .slice ga3 Y3.globs.length gc3, .int .i64 13]) rfl (hS.cells 3 (m := 8) rfl rfl)) rfl ?_
    have hfin : Alike R3 ws3 (roFrom ro w w34) w34 := fun b hb => ⟨(hsub b hb).elim .inl (fun h => .inr ⟨h, (hS.snap b hb).1⟩), (hS.snap b hb).2⟩
    have hd0 : d = 0 := by omega
    have hi : ins7 m inp cal Y4 vals2 x23 = ({ Y4 with bad := 13 }, 0) := by unfold ins7; rw [if_pos (by omega), hcal, hd0]; rfl
    have e := blocks7_bad (g := gg) (a := a) hbk (by omega) (hBD.trans (hB3.symm.trans (body7_bad hx23 hY4 hb4 hi (by simp)))) (by simp)
    obtain ⟨rfl, rfl⟩ := Prod.mk.inj (e.symm.trans hR2)
    exact ⟨.slice ga3 Y3.globs.length gc3, rfl, SlV.keep hg4 hfin (fun _ _ q => q), ⟨by decide, by decide⟩, hS.below⟩
   have hc32p : ¬ (n = deep) := by simpa using hc32
   refine W.skip (N.seq (W.seq ?_))
   obtain ⟨d', hd'⟩ : ∃ d', d = d' + 1 := ⟨d - 1, by omega⟩
   have hcal2 : cal = some (call7 m inp fuel deep d') := by rw [hcal, hd']; rfl
   obtain ⟨Y5, k5, hc5⟩ : ∃ Y k, call7 m inp fuel deep d' Y4 x23.name (pick7 vals2 x23.args) = (Y, k) := ⟨_, _, rfl⟩
   have hi : ins7 m inp cal Y4 vals2 x23 = (Y5, k5) := by unfold ins7; rw [if_pos (by omega), hcal2]; exact hc5
   have hI5 : Inv7 m fuel 0 Y5 := by have h := (ins7_inv (inp := inp) hci (vals := vals2) (x := x23) hI4).1; rw [hi] at h; exact h
   have hs5 : Y4.t.steps ≤ Y5.t.steps := by have h := (ins7_inv (inp := inp) hci (vals := vals2) (x := x23) hI4).2; rw [hi] at h; exact h
   have hpi := (inst5_uses h5).2.2 (by omega)
   have hxl6 := (inst5_all h5).1
   have hce := whole7_call hwh hfm hbm hxm (by omega)
   rw [show (x23.args.length : Int) = ((pick7 vals2 x23.args).length : Int) by simp [pick7]] at hce
   refine W.drawA0 (S := fun u => CellsAt u b1 (0) [.slice adf m.funcs.length capf, .slice adg m.globs.length capg] ∧ CellsAt u b24 (4) [.string x23.name] ∧ CellsAt u b24 (5) [.slice ad23 x23.args.length cap23]) (by kernel_rfl) (fun w35 hbd => ?_)
   replace hS := hS.grow hbd
   refine WA.conv (fuel' := 18 + 1) (listed' := #[false, false, false, false, false, false, false, false, false, false, false, false, false, false, false, false, false, false, false]) (by kernel_rfl) (by kernel_rfl) (WA.take 0 (v := .agg #[.slice adf m.funcs.length capf, .slice adg m.globs.length capg]) rfl rfl (by kernel_rfl) (by kernel_rfl) (by kernel_rfl) (fin_no_panic _) rfl (exec_loadN agg_46 rfl rfl (fun u hs => hs.1)) ⟨(hS.cells 5 (m := 2) rfl rfl), (hS.cells 0 (off := 4) (m := 1) rfl rfl), (hS.cells 0 (off := 5) (m := 1) rfl rfl)⟩ ?_)
   refine WA.conv (fuel' := 17 + 1) (listed' := #[true, false, false, false, false, false, false, false, false, false, false, false, false, false, false, false, false, false, false]) (by kernel_rfl) (by kernel_rfl) (WA.take 2 (v := .string inp) rfl rfl (by kernel_rfl) (by kernel_rfl) (by kernel_rfl) (fin_no_panic _) rfl (exec_move rfl) ⟨(hS.cells 5 (m := 2) rfl rfl), (hS.cells 0 (off := 4) (m := 1) rfl rfl), (hS.cells 0 (off := 5) (m := 1) rfl rfl)⟩ ?_)
   refine WA.conv (fuel' := 16 + 1) (listed' := #[true, false, true, false, false, false, false, false, false, false, false, false, false, false, false, false, false, false, false]) (by kernel_rfl) (by kernel_rfl) (WA.take 3 (v := .pointer (some ⟨b24, 4, none⟩)) rfl rfl (by kernel_rfl) (by kernel_rfl) (by kernel_rfl) (fin_no_panic _) rfl (exec_fieldAddr fo_36_4 rfl) ⟨(hS.cells 5 (m := 2) rfl rfl), (hS.cells 0 (off := 4) (m := 1) rfl rfl), (hS.cells 0 (off := 5) (m := 1) rfl rfl)⟩ ?_)
   refine WA.conv (fuel' := 15 + 1) (listed' := #[true, false, true, true, false, false, false, false, false, false, false, false, false, false, false, false, false, false, false]) (by kernel_rfl) (by kernel_rfl) (WA.take 4 (v := .string x23.name) rfl rfl (by kernel_rfl) (by kernel_rfl) (by kernel_rfl) (fin_no_panic _) rfl (exec_load1 one_9 rfl (fun u hs => hs.2.1 0 _ rfl)) ⟨(hS.cells 5 (m := 2) rfl rfl), (hS.cells 0 (off := 4) (m := 1) rfl rfl), (hS.cells 0 (off := 5) (m := 1) rfl rfl)⟩ ?_)
   refine WA.conv (fuel' := 14 + 1) (listed' := #[true, false, true, true, true, false, false, false, false, false, false, false, false, false, false, false, false, false, false]) (by kernel_rfl) (by kernel_rfl) (WA.take 5 (v := .slice ads vals2.length caps) rfl rfl (by kernel_rfl) (by kernel_rfl) (by kernel_rfl) (fin_no_panic _) rfl (exec_move rfl) ⟨(hS.cells 5 (m := 2) rfl rfl), (hS.cells 0 (off := 4) (m := 1) rfl rfl), (hS.cells 0 (off := 5) (m := 1) rfl rfl)⟩ ?_)
   refine WA.conv (fuel' := 13 + 1) (listed' := #[true, false, true, true, true, true, false, false, false, false, false, false, false, false, false, false, false, false, false]) (by kernel_rfl) (by kernel_rfl) (WA.take 6 (v := .pointer (some ⟨b24, 5, none⟩)) rfl rfl (by kernel_rfl) (by kernel_rfl) (by kernel_rfl) (fin_no_panic _) rfl (exec_fieldAddr fo_36_5 rfl) ⟨(hS.cells 5 (m := 2) rfl rfl), (hS.cells 0 (off := 4) (m := 1) rfl rfl), (hS.cells 0 (off := 5) (m := 1) rfl rfl)⟩ ?_)
   refine WA.conv (fuel' := 12 + 1) (listed' := #[true, false, true, true, true, true, true, false, false, false, false, false, false, false, false, false, false, false, false]) (by kernel_rfl) (by kernel_rfl) (WA.take 7 (v := .slice ad23 x23.args.length cap23) rfl rfl (by kernel_rfl) (by kernel_rfl) (by kernel_rfl) (fin_no_panic _) rfl (exec_load1 one_28 rfl (fun u hs => hs.2.2 0 _ rfl)) ⟨(hS.cells 5 (m := 2) rfl rfl), (hS.cells 0 (off := 4) (m := 1) rfl rfl), (hS.cells 0 (off := 5) (m := 1) rfl rfl)⟩ ?_)
   refine WA.conv (fuel' := 11 + 1) (listed' := #[true, false, true, true, true, true, true, true, false, false, false, false, false, false, false, false, false, false, false]) (by kernel_rfl) (by kernel_rfl) (WA.take 9 (v := .int .i64 n) rfl rfl (by kernel_rfl) (by kernel_rfl) (by kernel_rfl) (fin_no_panic _) rfl (exec_move rfl) ⟨(hS.cells 5 (m := 2) rfl rfl), (hS.cells 0 (off := 4) (m := 1) rfl rfl), (hS.cells 0 (off := 5) (m := 1) rfl rfl)⟩ ?_)
   refine WA.conv (fuel' := 10 + 1) (listed' := #[true, false, true, true, true, true, true, true, false, true, false, false, false, false, false, false, false, false, false]) (by kernel_rfl) (by kernel_rfl) (WA.take 10 (v := .int .i64 (n + 1)) rfl rfl (by kernel_rfl) (by kernel_rfl) (by kernel_rfl) (fin_no_panic _) rfl (exec_add rfl rfl rfl (by omega)) ⟨(hS.cells 5 (m := 2) rfl rfl), (hS.cells 0 (off := 4) (m := 1) rfl rfl), (hS.cells 0 (off := 5) (m := 1) rfl rfl)⟩ ?_)
   refine WA.conv (fuel' := 9 + 1) (listed' := #[true, false, true, true, true, true, true, true, false, true, true, false, false, false, false, false, false, false, false]) (by kernel_rfl) (by kernel_rfl) (WA.take 11 (v := .int .i64 fuel) rfl rfl (by kernel_rfl) (by kernel_rfl) (by kernel_rfl) (fin_no_panic _) rfl (exec_move rfl) ⟨(hS.cells 5 (m := 2) rfl rfl), (hS.cells 0 (off := 4) (m := 1) rfl rfl), (hS.cells 0 (off := 5) (m := 1) rfl rfl)⟩ ?_)
   refine WA.conv (fuel' := 8 + 1) (listed' := #[true, false, true, true, true, true, true, true, false, true, true, true, false, false, false, false, false, false, false]) (by kernel_rfl) (by kernel_rfl) (WA.take 12 (v := .int .i64 deep) rfl rfl (by kernel_rfl) (by kernel_rfl) (by kernel_rfl) (fin_no_panic _) rfl (exec_move rfl) ⟨(hS.cells 5 (m := 2) rfl rfl), (hS.cells 0 (off := 4) (m := 1) rfl rfl), (hS.cells 0 (off := 5) (m := 1) rfl rfl)⟩ ?_)
   refine WA.conv (fuel' := 2 + 6) (listed' := #[true, false, true, true, true, true, true, true, false, true, true, true, true, false, false, false, false, false, false]) (by kernel_rfl) (by kernel_rfl) (WA.phaseI [(1, (fun v _ => v = .agg #[.bool Y4.t.ended, .int .u64 Y4.t.code, .string Y4.t.out, .int .i64 Y4.t.read, .int .i64 Y4.t.steps, .int .i64 Y4.t.deep, .slice ga3 Y3.globs.length gc3, .int .i64 Y4.bad])), (8, (fun v u => SlV (fun b => w35.heap.size ≤ b ∧ b < u.heap.size) u 1 U64C v (pick7 vals2 x23.args)))] (by kernel_rfl) [(2, .string inp), (5, .int .i64 n), (6, .int .i64 fuel), (7, .int .i64 deep), (8, .pointer (some ⟨b1, 0, none⟩)), (9, .pointer (some ⟨b3, 0, none⟩)), (16, .pointer (some ⟨b5, 0, none⟩)), (18, .pointer (some ⟨b14, 0, none⟩)), (19, .int .i64 a), (20, .slice ads vals2.length caps), (21, .pointer (some ⟨b18, 0, none⟩)), (22, .int .i64 (j : Int)), (24, .int .u64 0), (74, .agg #[.slice adf m.funcs.length capf, .slice adg m.globs.length capg]), (76, .string inp), (78, .string x23.name), (79, .slice ads vals2.length caps), (81, .slice ad23 x23.args.length cap23), (84, .int .i64 (n + 1)), (85, .int .i64 fuel), (86, .int .i64 deep)] ⟨rfl, rfl, rfl, rfl, rfl, rfl, rfl, rfl, rfl, rfl, rfl, rfl, rfl, rfl, rfl, rfl, rfl, rfl, rfl, rfl, rfl, trivial⟩ (by kernel_rfl) ⟨stays_eq, stays_new, trivial⟩ ?_ (fun u hbu => by have hS := hS.grow hbu; exact ⟨(hS.cells 5 (m := 2) rfl rfl), (hS.cells 0 (off := 4) (m := 1) rfl rfl), (hS.cells 0 (off := 5) (m := 1) rfl rfl)⟩) ?_)
   ·
    refine ⟨fun β wd hb hD => ⟨_, rfl, ?_⟩, ?_⟩
    ·
     refine WL.sub (σ' := [(9, .pointer (some ⟨b3, 0, none⟩))]) ⟨rfl, trivial⟩ ?_
     have hS := hS.grow hb
     refine WL.loadN (cs := [.bool Y4.t.ended, .int .u64 Y4.t.code, .string Y4.t.out, .int .i64 Y4.t.read, .int .i64 Y4.t.steps, .int .i64 Y4.t.deep, .slice ga3 Y3.globs.length gc3, .int .i64 Y4.bad]) agg_84 rfl rfl rfl rfl (hS.cells 4 (m := 8) rfl rfl) ?_
     exact WL.nil (N.cut (.agg #[.bool Y4.t.ended, .int .u64 Y4.t.code, .string Y4.t.out, .int .i64 Y4.t.read, .int .i64 Y4.t.steps, .int .i64 Y4.t.deep, .slice ga3 Y3.globs.length gc3, .int .i64 Y4.bad]) ⟨rfl, trivial⟩ ⟨(Below.refl _ _), rfl⟩)
    refine ⟨fun β wd hb hD => ⟨_, rfl, ?_⟩, ?_⟩
    ·
     refine WL.sub (σ' := [(79, .slice ads vals2.length caps), (81, .slice ad23 x23.args.length cap23)]) ⟨rfl, rfl, trivial⟩ ?_
     have hS := hS.grow hb
     refine WL.callF (vs := [.slice ads vals2.length caps, .slice ad23 x23.args.length cap23]) Try.func60 (by kernel_rfl) rfl rfl rfl (pick7_ret vals2 x23.args _ _ (ro := R3) (fun b hb => (hS.snap b hb).1) (SlV.keep hv2 hS.alike (fun _ _ q => q)) (SlV.keep hs23 hS.alike (fun _ _ q => q)) hpi (by omega)) ?_
     rintro v w36 ⟨hv, hbl⟩
     replace hS := hS.grow hbl
     exact WL.nil (N.cut v ⟨rfl, trivial⟩ ⟨hbl, newUp hv hb.size⟩)
    trivial
   intro β w37 hb hD
   obtain ⟨hp1, hp8, _⟩ := hD
   refine WA.sub (σ' := [(2, .string inp), (5, .int .i64 n), (6, .int .i64 fuel), (7, .int .i64 deep), (8, .pointer (some ⟨b1, 0, none⟩)), (9, .pointer (some ⟨b3, 0, none⟩)), (16, .pointer (some ⟨b5, 0, none⟩)), (18, .pointer (some ⟨b14, 0, none⟩)), (19, .int .i64 a), (20, .slice ads vals2.length caps), (21, .pointer (some ⟨b18, 0, none⟩)), (22, .int .i64 (j : Int)), (24, .int .u64 0), (74, .agg #[.slice adf m.funcs.length capf, .slice adg m.globs.length capg]), (75, .agg #[.bool Y4.t.ended, .int .u64 Y4.t.code, .string Y4.t.out, .int .i64 Y4.t.read, .int .i64 Y4.t.steps, .int .i64 Y4.t.deep, .slice ga3 Y3.globs.length gc3, .int .i64 Y4.bad]), (76, .string inp), (78, .string x23.name), (82, (β 8)), (84, .int .i64 (n + 1)), (85, .int .i64 fuel), (86, .int .i64 deep)]) ⟨rfl, rfl, rfl, rfl, rfl, rfl, rfl, rfl, rfl, rfl, rfl, rfl, rfl, rfl, congrArg some (show β 1 = .agg #[.bool Y4.t.ended, .int .u64 Y4.t.code, .string Y4.t.out, .int .i64 Y4.t.read, .int .i64 Y4.t.steps, .int .i64 Y4.t.deep, .slice ga3 Y3.globs.length gc3, .int .i64 Y4.bad] from hp1), rfl, rfl, rfl, rfl, rfl, rfl, trivial⟩ ?_
   have hSd := hS
   replace hS := hS.grow hb
   replace hp8 : (fun v u => SlV (fun b => w35.heap.size ≤ b ∧ b < u.heap.size) u 1 U64C v (pick7 vals2 x23.args)) (β 8) w37 := hp8
   generalize β 8 = z8 at hp8 ⊢
   have hal38 := hSd.alikeTo hb (ro' := (roFrom R3 w35 w37)) (fun b hb => .inl hb)
   replace hsub : ∀ b, (roFrom R3 w35 w37) b → ro b ∨ w.heap.size ≤ b := fun b hb => hb.elim (hsub b) (fun h => .inr (Nat.le_trans hSd.below.size h.1))
   replace halL0 := halL0.trans hal38
   replace halL1 := halL1.trans hal38
   replace hm := hm.keep hal38
   replace ht117 := SlV.keep ht117 hal38 (fun _ _ h => h)
   replace ht217 := SlV.keep ht217 hal38 (fun _ _ h => h)
   replace hg3 := SlV.keep hg3 hal38 (fun _ _ h => h)
   replace hv2d := hv2d.keep hal38 (fun _ _ h => h)
   replace hv2 := SlV.keep hv2 hal38 (fun _ _ h => h)
   replace hQk23 := hQk23.keep hal38
   replace hg4 := SlV.keep hg4 hal38 (fun _ _ h => h)
   replace hS := hSd.readNew hb
   replace hp8 := SlV.keep hp8 (ro' := (roFrom R3 w35 w37)) (w' := w37) (Q' := U64C) (fun x hx => ⟨.inr hx, rfl⟩) (fun _ _ h => h)
   refine WA.conv (fuel' := 5 + 1) (listed' := #[true, true, true, true, true, true, true, true, true, true, true, true, true, false, false, false, false, false, false]) (by kernel_rfl) (by kernel_rfl) (WA.stepS 13 (by kernel_rfl) rfl ?_)
   refine WL.callF (vs := [.agg #[.slice adf m.funcs.length capf, .slice adg m.globs.length capg], .agg #[.bool Y4.t.ended, .int .u64 Y4.t.code, .string Y4.t.out, .int .i64 Y4.t.read, .int .i64 Y4.t.steps, .int .i64 Y4.t.deep, .slice ga3 Y3.globs.length gc3, .int .i64 Y4.bad], .string inp, .string x23.name, z8, .int .i64 (n + 1), .int .i64 fuel, .int .i64 deep]) Try.func50 (by kernel_rfl) rfl rfl rfl (ih d' hd' _ (n + 1) Y4 _ x23.name (pick7 vals2 x23.args) z8 (ro := (roFrom R3 w35 w37)) (fun b hb => (hS.snap b hb).1) (ModC.keep hm hS.alike) (SlV.keep hg4 hS.alike (fun _ _ q => q)) (SlV.keep hp8 hS.alike (fun _ _ q => q)) hI4.less hb4 ⟨by omega, by omega⟩ hce Y5 k5 hc5) ?_
   rintro v w39 ⟨g5, rfl, hg5, hk5, hbl⟩
   have hal40 := hS.alikeTo hbl (ro' := (roFrom (roFrom R3 w35 w37) w37 w39)) (fun b hb => .inl hb)
   replace hsub : ∀ b, (roFrom (roFrom R3 w35 w37) w37 w39) b → ro b ∨ w.heap.size ≤ b := fun b hb => hb.elim (hsub b) (fun h => .inr (Nat.le_trans hS.below.size h.1))
   replace halL0 := halL0.trans hal40
   replace halL1 := halL1.trans hal40
   replace hm := hm.keep hal40
   replace ht117 := SlV.keep ht117 hal40 (fun _ _ h => h)
   replace ht217 := SlV.keep ht217 hal40 (fun _ _ h => h)
   replace hg3 := SlV.keep hg3 hal40 (fun _ _ h => h)
   replace hv2d := hv2d.keep hal40 (fun _ _ h => h)
   replace hv2 := SlV.keep hv2 hal40 (fun _ _ h => h)
   replace hQk23 := hQk23.keep hal40
   replace hg4 := SlV.keep hg4 hal40 (fun _ _ h => h)
   replace hS := hS.readNew hbl
   obtain ⟨ga5, gc5, rfl, hg5a, hg5b, hg5c, hg5d⟩ := id hg5
   have hg5m : Y5.globs.length ≤ 9223372036854775807 := by have h1 := hg5a; have h2 := hg5b; unfold maxLen at h2; omega
   refine WL.nil (N.restS ⟨(hS.cells 5 (m := 2) rfl rfl), (hS.cells 0 (off := 4) (m := 1) rfl rfl), (hS.cells 0 (off := 5) (m := 1) rfl rfl)⟩ ?_)
   refine WA.conv (fuel' := 4 + 1) (listed' := #[true, true, true, true, true, true, true, true, true, true, true, true, true, true, false, false, false, false, false]) (by kernel_rfl) (by kernel_rfl) (WA.stepS 14 (by kernel_rfl) rfl ?_)
   refine WL.move rfl rfl rfl ?_
   refine WL.nil (N.restS ⟨(hS.cells 5 (m := 2) rfl rfl), (hS.cells 0 (off := 4) (m := 1) rfl rfl), (hS.cells 0 (off := 5) (m := 1) rfl rfl)⟩ ?_)
   refine WA.conv (fuel' := 3 + 1) (listed' := #[true, true, true, true, true, true, true, true, true, true, true, true, true, true, true, false, false, false, false]) (by kernel_rfl) (by kernel_rfl) (WA.take 16 (v := .int .u64 k5) rfl rfl (by kernel_rfl) (by kernel_rfl) (by kernel_rfl) (fin_no_panic _) rfl (exec_extract rfl rfl) ⟨(hS.cells 5 (m := 2) rfl rfl), (hS.cells 0 (off := 4) (m := 1) rfl rfl), (hS.cells 0 (off := 5) (m := 1) rfl rfl)⟩ ?_)
   refine WA.conv (fuel' := 2 + 1) (listed' := #[true, true, true, true, true, true, true, true, true, true, true, true, true, true, true, false, true, false, false]) (by kernel_rfl) (by kernel_rfl) (WA.stepS 15 (by kernel_rfl) rfl ?_)
   refine WL.extract (v := .agg #[.bool Y5.t.ended, .int .u64 Y5.t.code, .string Y5.t.out, .int .i64 Y5.t.read, .int .i64 Y5.t.steps, .int .i64 Y5.t.deep, .slice ga5 Y5.globs.length gc5, .int .i64 Y5.bad]) rfl rfl rfl rfl ?_
   refine WL.nil (N.restS ⟨(hS.cells 5 (m := 2) rfl rfl), (hS.cells 0 (off := 4) (m := 1) rfl rfl), (hS.cells 0 (off := 5) (m := 1) rfl rfl)⟩ ?_)
   refine WA.conv (fuel' := 1 + 1) (listed' := #[true, true, true, true, true, true, true, true, true, true, true, true, true, true, true, true, true, false, false]) (by kernel_rfl) (by kernel_rfl) (WA.stepS 17 (by kernel_rfl) rfl ?_)
   refine WL.store (L' := [(b24, .cells #[.int .i64 x23.op, .int .i64 x23.a, .int .i64 x23.b, .int .u64 x23.k, .string x23.name, .slice ad23 x23.args.length cap23] 36 (0, 0)), (b18, .cells #[.int .i64 x17.params, .slice adi17 x17.ins.length capi17, .int .i64 x17.fin.kind, .int .i64 x17.fin.a, .int .i64 x17.fin.to, .slice adp17 x17.fin.args.length capp17, .int .i64 x17.fin.els, .slice adq17 x17.fin.elses.length capq17] 32 (0, 0)), (b14, .cells #[.string f.name, .int .i64 f.bind, .int .i64 f.params, .slice adb10 f.blocks.length capb10] 24 (0, 0)), (b5, .cells #[.bool false, .int .u64 0, .string ⟨#[]⟩, .int .i64 0, .int .i64 0, .int .i64 0, .slice none 0 0, .int .i64 0] 84 (0, 0)), (b3, .cells #[.bool Y5.t.ended, .int .u64 Y5.t.code, .string Y5.t.out, .int .i64 Y5.t.read, .int .i64 Y5.t.steps, .int .i64 Y5.t.deep, .slice ga5 Y5.globs.length gc5, .int .i64 Y5.bad] 84 (0, 0)), (b1, .cells #[.slice adf m.funcs.length capf, .slice adg m.globs.length capg] 46 (0, 0))]) 4 rfl rfl rfl rfl siz_84 rfl rfl rfl rfl rfl hS ?_
   clear hS; intro w41 hS
   refine WL.nil (N.restS ⟨(hS.cells 5 (m := 2) rfl rfl), (hS.cells 0 (off := 4) (m := 1) rfl rfl), (hS.cells 0 (off := 5) (m := 1) rfl rfl)⟩ ?_)
   refine WA.conv (fuel' := 0 + 1) (listed' := #[true, true, true, true, true, true, true, true, true, true, true, true, true, true, true, true, true, true, false]) (by kernel_rfl) (by kernel_rfl) (WA.stepS 18 (by kernel_rfl) rfl ?_)
   refine WL.assign rfl rfl rfl ?_
   refine WL.nil (N.restS ⟨(hS.cells 5 (m := 2) rfl rfl), (hS.cells 0 (off := 4) (m := 1) rfl rfl), (hS.cells 0 (off := 5) (m := 1) rfl rfl)⟩ ?_)
   refine WA.doneN (by kernel_rfl) ?_
   refine N.seq (W.seq (W.region (WL.fieldAddr fo_84_2 rfl rfl rfl (WL.load1 (v := .int .i64 Y5.bad) one_3 rfl rfl rfl (hS.cell 4 rfl rfl) (WL.bin rfl rfl rfl rfl rfl (WL.nil (N.seq ?_)))))))
   refine W.cond rfl (fun hc42 => ?_) (fun hc42 => ?_)
   ·
    have hc42p : ¬ (Y5.bad = 0) := by simpa using hc42
    refine W.seq (W.region (WL.loadN (cs := [.bool Y5.t.ended, .int .u64 Y5.t.code, .string Y5.t.out, .int .i64 Y5.t.read, .int .i64 Y5.t.steps, .int .i64 Y5.t.deep, .slice ga5 Y5.globs.length gc5, .int .i64 Y5.bad]) agg_84 rfl rfl rfl rfl (hS.cells 4 (m := 8) rfl rfl) ?_))
    refine WL.store (L' := [(b24, .cells #[.int .i64 x23.op, .int .i64 x23.a, .int .i64 x23.b, .int .u64 x23.k, .string x23.name, .slice ad23 x23.args.length cap23] 36 (0, 0)), (b18, .cells #[.int .i64 x17.params, .slice adi17 x17.ins.length capi17, .int .i64 x17.fin.kind, .int .i64 x17.fin.a, .int .i64 x17.fin.to, .slice adp17 x17.fin.args.length capp17, .int .i64 x17.fin.els, .slice adq17 x17.fin.elses.length capq17] 32 (0, 0)), (b14, .cells #[.string f.name, .int .i64 f.bind, .int .i64 f.params, .slice adb10 f.blocks.length capb10] 24 (0, 0)), (b5, .cells #[.bool Y5.t.ended, .int .u64 Y5.t.code, .string Y5.t.out, .int .i64 Y5.t.read, .int .i64 Y5.t.steps, .int .i64 Y5.t.deep, .slice ga5 Y5.globs.length gc5, .int .i64 Y5.bad] 84 (0, 0)), (b3, .cells #[.bool Y5.t.ended, .int .u64 Y5.t.code, .string Y5.t.out, .int .i64 Y5.t.read, .int .i64 Y5.t.steps, .int .i64 Y5.t.deep, .slice ga5 Y5.globs.length gc5, .int .i64 Y5.bad] 84 (0, 0)), (b1, .cells #[.slice adf m.funcs.length capf, .slice adg m.globs.length capg] 46 (0, 0))]) 3 rfl rfl rfl rfl siz_84 rfl rfl rfl rfl rfl hS ?_
    clear hS; intro w43 hS
    refine WL.assign rfl rfl rfl (WL.nil (N.seq ?_))
    refine Fin.retCT rfl (v := .agg #[.bool Y5.t.ended, .int .u64 Y5.t.code, .string Y5.t.out, .int .i64 Y5.t.read, .int .i64 Y5.t.steps, .int .i64 Y5.t.deep, .slice ga5 Y5.globs.length gc5, .int .i64 Y5.bad]) (v' := .int .u64 0) rfl (tyAgg_run agg_84 (cs := [.bool Y5.t.ended, .int .u64 Y5.t.code, .string Y5.t.out, .int .i64 Y5.t.read, .int .i64 Y5.t.steps, .int .i64 Y5.t.deep, .slice ga5 Y5.globs.length gc5, .int .i64 Y5.bad]) rfl (hS.cells 3 (m := 8) rfl rfl)) rfl ?_
    have hfin : Alike (roFrom (roFrom R3 w35 w37) w37 w39) w39 (roFrom ro w w43) w43 := fun b hb => ⟨(hsub b hb).elim .inl (fun h => .inr ⟨h, (hS.snap b hb).1⟩), (hS.snap b hb).2⟩
    have hne : Y5.bad ≠ 0 := by simpa using hc42p
    have e := blocks7_bad (g := gg) (a := a) hbk (by omega) (hBD.trans (hB3.symm.trans (body7_bad hx23 hY4 hb4 hi hne))) hne
    obtain ⟨rfl, rfl⟩ := Prod.mk.inj (e.symm.trans hR2)
    exact ⟨.slice ga5 Y5.globs.length gc5, rfl, SlV.keep hg5 hfin (fun _ _ q => q), ⟨by decide, by decide⟩, hS.below⟩
   have hc42p : Y5.bad = 0 := by simpa using hc42
   refine W.skip (N.seq (W.region ?_))
   have hb5z : Y5.bad = 0 := by simpa using hc42p
   refine WL.buildSlice0 Try.underlying82 isz_34 rfl rfl hS ?_
   clear hS; intro w45 b44 hS
   refine WL.move rfl rfl rfl ?_
   obtain ⟨news, hch, hnw, hsp⟩ := elems_news hv2d
   refine WL.appendRo (r := ⟨.slice (some ⟨b44, 0, none⟩) 0 0, 34, 1, 0, []⟩) (news := news) 8 Try.underlying82 (tyZero_spec zer_34) byt_34 rfl rfl rfl rfl rfl hch.1 (fun e => ⟨by have := hv2c e; omega, hv2c e⟩) ?_ hsp (chunks_all hch (by decide) (fun c x h => by rw [h.1]; intro u hu; simp at hu; subst hu; rfl)) rfl rfl hS (by unfold maxLen; simp only; omega) (by simp only; omega) ?_
   ·
    intro b off e
    by_cases hn0 : news = []
    ·
     subst hn0; intro j v hj; simp at hj
    exact hS.roCells ((hnw b off e).2 hn0) (hnw b off e).1
   clear hS; intro w46 v47 hS hnn
   simp only [Nat.zero_add, List.nil_append] at hS
   have hrow : w46.ownsRow w.heap.size 34 1 v47 vals2.length _ := hS.rows _ List.mem_cons_self
   obtain ⟨adr, capr, rfl, hr1, hr2, hr3⟩ := row_shape hrow
   clear hrow
   refine WL.move rfl rfl rfl ?_
   refine WL.buildSlice (ps := [(0, .int .u64 k5)]) (cs := [.int .u64 k5]) Try.underlying82 (tyZero_spec zer_34) rfl rfl rfl rfl (by kernel_rfl) hS ?_
   clear hS; intro w49 b48 hb_b48 hS
   refine WL.append (r := ⟨.slice adr vals2.length capr, 34, 1, vals2.length, news⟩) (cs := [.int .u64 k5]) 8 Try.underlying82 (tyZero_spec zer_34) byt_34 rfl rfl rfl rfl rfl rfl rfl rfl rfl hS (by unfold maxLen; simp only; omega) (by simp only; omega) ?_
   clear hS; intro w50 v51 hn_v51 hS
   have hrow : w50.ownsRow w.heap.size 34 1 v51 (vals2.length + 1) _ := hS.rows _ List.mem_cons_self
   obtain ⟨av51, cv51, rfl, hc1_v51, hc2_v51, hc3_v51⟩ := row_shape hrow
   clear hrow
   refine WL.assign rfl rfl rfl (WL.nil (N.blk (N.seq (W.region (WL.move rfl rfl rfl ?_)))))
   refine WL.add (c := (j : Int) + 1) rfl rfl rfl rfl (rfl) (by omega) ?_
   refine WL.assign rfl rfl rfl (WL.nil ?_)
   have hS := hS.dropN 1
   have hal52 := hS.giveRowAlike
   replace hsub : ∀ b, (fun x => (roFrom (roFrom R3 w35 w37) w37 w39) x ∨ (.slice av51 (vals2.length + 1) cv51 : Value).ownBlock = some x) b → ro b ∨ w.heap.size ≤ b := fun b hb => hb.elim (hsub b) (fun h => .inr (hS.giveRowLe b h))
   replace halL0 := halL0.trans hal52
   replace halL1 := halL1.trans hal52
   replace hm := hm.keep hal52
   replace ht117 := SlV.keep ht117 hal52 (fun _ _ h => h)
   replace ht217 := SlV.keep ht217 hal52 (fun _ _ h => h)
   replace hg3 := SlV.keep hg3 hal52 (fun _ _ h => h)
   replace hv2d := hv2d.keep hal52 (fun _ _ h => h)
   replace hv2 := SlV.keep hv2 hal52 (fun _ _ h => h)
   replace hQk23 := hQk23.keep hal52
   replace hg4 := SlV.keep hg4 hal52 (fun _ _ h => h)
   replace hg5d := hg5d.keep hal52 (fun _ _ h => h)
   replace hg5 := SlV.keep hg5 hal52 (fun _ _ h => h)
   have hrow53 := hS.rows _ List.mem_cons_self
   replace hS := hS.giveRow
   have hv6 : SlV (fun x => (roFrom (roFrom R3 w35 w37) w37 w39) x ∨ (.slice av51 (vals2.length + 1) cv51 : Value).ownBlock = some x) w50 1 U64C (.slice av51 (vals2.length + 1) cv51) (vals2 ++ [k5]) := row_slv hrow53 (hch.snoc rfl ⟨rfl, hk5⟩) (by simp) (fun b hb => .inr hb)
   have hB6 := (body7_go hx23 hY4 hb4 hi hb5z).symm.trans hB3
   exact N.loop (j + 1, .slice av51 (vals2.length + 1) cv51, vals2 ++ [k5], Y5, .slice ga5 Y5.globs.length gc5, (fun x => (roFrom (roFrom R3 w35 w37) w37 w39) x ∨ (.slice av51 (vals2.length + 1) cv51 : Value).ownBlock = some x), w50) ⟨rfl, rfl, rfl, rfl, rfl, rfl, rfl, rfl, rfl, rfl, rfl, rfl, trivial⟩ ⟨hS, by omega, by rw [List.length_append, List.length_singleton]; omega, hI5, hb5z, by omega, hB6, hv6, hg5, halL1, hsub⟩ (by first | omega | (simp only; omega))
  have hc31p : ¬ (x23.op = 14) := by simpa using hc31
  obtain ⟨Y5, k5, hc5⟩ : ∃ Y k, gives7 m Y4 inp x23 vals2 = (Y, k) := ⟨_, _, rfl⟩
  have hi : ins7 m inp cal Y4 vals2 x23 = (Y5, k5) := by unfold ins7; rw [if_neg (by omega)]; exact hc5
  have hI5 : Inv7 m fuel 0 Y5 := by have h := (ins7_inv (inp := inp) hci (vals := vals2) (x := x23) hI4).1; rw [hi] at h; exact h
  have hs5 : Y4.t.steps ≤ Y5.t.steps := by have h := (ins7_inv (inp := inp) hci (vals := vals2) (x := x23) hI4).2; rw [hi] at h; exact h
  have hb5z : Y5.bad = 0 := by have h := (gives7_inv (inp := inp) (x := x23) (vals := vals2) hI4).2.1; rw [hc5] at h; exact h.trans hb4
  refine W.region (WL.loadN (cs := [.slice adf m.funcs.length capf, .slice adg m.globs.length capg]) agg_46 rfl rfl rfl rfl (hS.cells 5 (m := 2) rfl rfl) (WL.loadN (cs := [.bool Y4.t.ended, .int .u64 Y4.t.code, .string Y4.t.out, .int .i64 Y4.t.read, .int .i64 Y4.t.steps, .int .i64 Y4.t.deep, .slice ga3 Y3.globs.length gc3, .int .i64 Y4.bad]) agg_84 rfl rfl rfl rfl (hS.cells 4 (m := 8) rfl rfl) (WL.move rfl rfl rfl (WL.loadN (cs := [.int .i64 x23.op, .int .i64 x23.a, .int .i64 x23.b, .int .u64 x23.k, .string x23.name, .slice ad23 x23.args.length cap23]) agg_36 rfl rfl rfl rfl (hS.cells 0 (m := 6) rfl rfl) (WL.move rfl rfl rfl ?_)))))
  refine WL.callF (vs := [.agg #[.slice adf m.funcs.length capf, .slice adg m.globs.length capg], .agg #[.bool Y4.t.ended, .int .u64 Y4.t.code, .string Y4.t.out, .int .i64 Y4.t.read, .int .i64 Y4.t.steps, .int .i64 Y4.t.deep, .slice ga3 Y3.globs.length gc3, .int .i64 Y4.bad], .string inp, .agg #[.int .i64 x23.op, .int .i64 x23.a, .int .i64 x23.b, .int .u64 x23.k, .string x23.name, .slice ad23 x23.args.length cap23], .slice ads vals2.length caps]) Try.func61 (by kernel_rfl) rfl rfl rfl (gives7_ret m _ Y4 Y5 _ inp x23 _ vals2 _ k5 fuel hc5 (ro := R3) (fun b hb => (hS.snap b hb).1) (ModC.keep hm hS.alike) (SlV.keep hg4 hS.alike (fun _ _ q => q)) (InstC.keep hQk23 hS.alike) (SlV.keep hv2 hS.alike (fun _ _ q => q)) hI4 (by omega) h5 (by omega) (fun h => whole7_glob hwh hfm hbm hxm h) (by rw [hI4.gl]; omega)) ?_
  rintro v w54 ⟨g5, rfl, hg5, hk5, hbl⟩
  have hal55 := hS.alikeTo hbl (ro' := (roFrom R3 w28 w54)) (fun b hb => .inl hb)
  replace hsub : ∀ b, (roFrom R3 w28 w54) b → ro b ∨ w.heap.size ≤ b := fun b hb => hb.elim (hsub b) (fun h => .inr (Nat.le_trans hS.below.size h.1))
  replace halL0 := halL0.trans hal55
  replace halL1 := halL1.trans hal55
  replace ht117 := SlV.keep ht117 hal55 (fun _ _ h => h)
  replace ht217 := SlV.keep ht217 hal55 (fun _ _ h => h)
  replace hg3 := SlV.keep hg3 hal55 (fun _ _ h => h)
  replace hv2d := hv2d.keep hal55 (fun _ _ h => h)
  replace hv2 := SlV.keep hv2 hal55 (fun _ _ h => h)
  replace hS := hS.readNew hbl
  obtain ⟨ga5, gc5, rfl, hg5a, hg5b, hg5c, hg5d⟩ := id hg5
  have hg5m : Y5.globs.length ≤ 9223372036854775807 := by have h1 := hg5a; have h2 := hg5b; unfold maxLen at h2; omega
  refine WL.move rfl rfl rfl (WL.extract (v := .agg #[.bool Y5.t.ended, .int .u64 Y5.t.code, .string Y5.t.out, .int .i64 Y5.t.read, .int .i64 Y5.t.steps, .int .i64 Y5.t.deep, .slice ga5 Y5.globs.length gc5, .int .i64 Y5.bad]) rfl rfl rfl rfl (WL.extract (v := .int .u64 k5) rfl rfl rfl rfl ?_))
  refine WL.store (L' := [(b24, .cells #[.int .i64 x23.op, .int .i64 x23.a, .int .i64 x23.b, .int .u64 x23.k, .string x23.name, .slice ad23 x23.args.length cap23] 36 (0, 0)), (b18, .cells #[.int .i64 x17.params, .slice adi17 x17.ins.length capi17, .int .i64 x17.fin.kind, .int .i64 x17.fin.a, .int .i64 x17.fin.to, .slice adp17 x17.fin.args.length capp17, .int .i64 x17.fin.els, .slice adq17 x17.fin.elses.length capq17] 32 (0, 0)), (b14, .cells #[.string f.name, .int .i64 f.bind, .int .i64 f.params, .slice adb10 f.blocks.length capb10] 24 (0, 0)), (b5, .cells #[.bool false, .int .u64 0, .string ⟨#[]⟩, .int .i64 0, .int .i64 0, .int .i64 0, .slice none 0 0, .int .i64 0] 84 (0, 0)), (b3, .cells #[.bool Y5.t.ended, .int .u64 Y5.t.code, .string Y5.t.out, .int .i64 Y5.t.read, .int .i64 Y5.t.steps, .int .i64 Y5.t.deep, .slice ga5 Y5.globs.length gc5, .int .i64 Y5.bad] 84 (0, 0)), (b1, .cells #[.slice adf m.funcs.length capf, .slice adg m.globs.length capg] 46 (0, 0))]) 4 rfl rfl rfl rfl siz_84 rfl rfl rfl rfl rfl hS ?_
  clear hS; intro w56 hS
  refine WL.assign rfl rfl rfl (WL.nil (N.seq (W.region ?_)))
  refine WL.buildSlice0 Try.underlying82 isz_34 rfl rfl hS ?_
  clear hS; intro w58 b57 hS
  refine WL.move rfl rfl rfl ?_
  obtain ⟨news, hch, hnw, hsp⟩ := elems_news hv2d
  refine WL.appendRo (r := ⟨.slice (some ⟨b57, 0, none⟩) 0 0, 34, 1, 0, []⟩) (news := news) 8 Try.underlying82 (tyZero_spec zer_34) byt_34 rfl rfl rfl rfl rfl hch.1 (fun e => ⟨by have := hv2c e; omega, hv2c e⟩) ?_ hsp (chunks_all hch (by decide) (fun c x h => by rw [h.1]; intro u hu; simp at hu; subst hu; rfl)) rfl rfl hS (by unfold maxLen; simp only; omega) (by simp only; omega) ?_
  ·
   intro b off e
   by_cases hn0 : news = []
   ·
    subst hn0; intro j v hj; simp at hj
   exact hS.roCells ((hnw b off e).2 hn0) (hnw b off e).1
  clear hS; intro w59 v60 hS hnn
  simp only [Nat.zero_add, List.nil_append] at hS
  have hrow : w59.ownsRow w.heap.size 34 1 v60 vals2.length _ := hS.rows _ List.mem_cons_self
  obtain ⟨adr, capr, rfl, hr1, hr2, hr3⟩ := row_shape hrow
  clear hrow
  refine WL.move rfl rfl rfl ?_
  refine WL.buildSlice (ps := [(0, .int .u64 k5)]) (cs := [.int .u64 k5]) Try.underlying82 (tyZero_spec zer_34) rfl rfl rfl rfl (by kernel_rfl) hS ?_
  clear hS; intro w62 b61 hb_b61 hS
  refine WL.append (r := ⟨.slice adr vals2.length capr, 34, 1, vals2.length, news⟩) (cs := [.int .u64 k5]) 8 Try.underlying82 (tyZero_spec zer_34) byt_34 rfl rfl rfl rfl rfl rfl rfl rfl rfl hS (by unfold maxLen; simp only; omega) (by simp only; omega) ?_
  clear hS; intro w63 v64 hn_v64 hS
  have hrow : w63.ownsRow w.heap.size 34 1 v64 (vals2.length + 1) _ := hS.rows _ List.mem_cons_self
  obtain ⟨av64, cv64, rfl, hc1_v64, hc2_v64, hc3_v64⟩ := row_shape hrow
  clear hrow
  refine WL.assign rfl rfl rfl (WL.nil (N.blk (N.seq (W.region (WL.move rfl rfl rfl ?_)))))
  refine WL.add (c := (j : Int) + 1) rfl rfl rfl rfl (rfl) (by omega) ?_
  refine WL.assign rfl rfl rfl (WL.nil ?_)
  have hS := hS.dropN 1
  have hal65 := hS.giveRowAlike
  replace hsub : ∀ b, (fun x => (roFrom R3 w28 w54) x ∨ (.slice av64 (vals2.length + 1) cv64 : Value).ownBlock = some x) b → ro b ∨ w.heap.size ≤ b := fun b hb => hb.elim (hsub b) (fun h => .inr (hS.giveRowLe b h))
  replace halL0 := halL0.trans hal65
  replace halL1 := halL1.trans hal65
  replace ht117 := SlV.keep ht117 hal65 (fun _ _ h => h)
  replace ht217 := SlV.keep ht217 hal65 (fun _ _ h => h)
  replace hg3 := SlV.keep hg3 hal65 (fun _ _ h => h)
  replace hv2d := hv2d.keep hal65 (fun _ _ h => h)
  replace hv2 := SlV.keep hv2 hal65 (fun _ _ h => h)
  replace hg5 := SlV.keep hg5 hal65 (fun _ _ h => h)
  have hrow66 := hS.rows _ List.mem_cons_self
  replace hS := hS.giveRow
  have hv6 : SlV (fun x => (roFrom R3 w28 w54) x ∨ (.slice av64 (vals2.length + 1) cv64 : Value).ownBlock = some x) w63 1 U64C (.slice av64 (vals2.length + 1) cv64) (vals2 ++ [k5]) := row_slv hrow66 (hch.snoc rfl ⟨rfl, hk5⟩) (by simp) (fun b hb => .inr hb)
  have hB6 := (body7_go hx23 hY4 hb4 hi hb5z).symm.trans hB3
  exact N.loop (j + 1, .slice av64 (vals2.length + 1) cv64, vals2 ++ [k5], Y5, .slice ga5 Y5.globs.length gc5, (fun x => (roFrom R3 w28 w54) x ∨ (.slice av64 (vals2.length + 1) cv64 : Value).ownBlock = some x), w63) ⟨rfl, rfl, rfl, rfl, rfl, rfl, rfl, rfl, rfl, rfl, rfl, rfl, trivial⟩ ⟨hS, by omega, by rw [List.length_append, List.length_singleton]; omega, hI5, hb5z, by omega, hB6, hv6, hg5, halL1, hsub⟩ (by first | omega | (simp only; omega))
 have hc22p : ¬ ((j : Int) < (x17.ins.length : Int)) := by simpa using hc22
 refine W.exit (X.seq (X.loop (X.blk (N.seq (W.seq ?_)))))
 have hBe : BD = (Y3, vals2) := by rw [← hB3]; exact body7_end (by omega)
 have hjl : j = x17.ins.length := by omega
 refine W.region (WL.loadN (cs := [.bool Y3.t.ended, .int .u64 Y3.t.code, .string Y3.t.out, .int .i64 Y3.t.read, .int .i64 Y3.t.steps, .int .i64 Y3.t.deep, .slice ga3 Y3.globs.length gc3, .int .i64 Y3.bad]) agg_84 rfl rfl rfl rfl (hS.cells 3 (m := 8) rfl rfl) (WL.move rfl rfl rfl ?_))
 obtain ⟨Y6, hY6⟩ : ∃ z, step7 Y3 fuel = z := ⟨_, rfl⟩
 refine WL.callF (vs := [.agg #[.bool Y3.t.ended, .int .u64 Y3.t.code, .string Y3.t.out, .int .i64 Y3.t.read, .int .i64 Y3.t.steps, .int .i64 Y3.t.deep, .slice ga3 Y3.globs.length gc3, .int .i64 Y3.bad], .int .i64 fuel]) Try.func59 (by kernel_rfl) rfl rfl rfl (step7_ret Y3 Y6 ga3 Y3.globs.length gc3 fuel hY6 (ro := R3) (fun b hb => (hS.snap b hb).1) ⟨hI3.s0, by have := hI3.sf; omega⟩) ?_
 rintro v w67 ⟨rfl, hbl⟩
 replace hS := hS.grow hbl
 refine WL.store (L' := [(b18, .cells #[.int .i64 x17.params, .slice adi17 x17.ins.length capi17, .int .i64 x17.fin.kind, .int .i64 x17.fin.a, .int .i64 x17.fin.to, .slice adp17 x17.fin.args.length capp17, .int .i64 x17.fin.els, .slice adq17 x17.fin.elses.length capq17] 32 (0, 0)), (b14, .cells #[.string f.name, .int .i64 f.bind, .int .i64 f.params, .slice adb10 f.blocks.length capb10] 24 (0, 0)), (b5, .cells #[.bool false, .int .u64 0, .string ⟨#[]⟩, .int .i64 0, .int .i64 0, .int .i64 0, .slice none 0 0, .int .i64 0] 84 (0, 0)), (b3, .cells #[.bool Y6.t.ended, .int .u64 Y6.t.code, .string Y6.t.out, .int .i64 Y6.t.read, .int .i64 Y6.t.steps, .int .i64 Y6.t.deep, .slice ga3 Y3.globs.length gc3, .int .i64 Y6.bad] 84 (0, 0)), (b1, .cells #[.slice adf m.funcs.length capf, .slice adg m.globs.length capg] 46 (0, 0))]) 3 rfl rfl rfl rfl siz_84 rfl rfl rfl rfl rfl hS ?_
 clear hS; intro w68 hS
 refine WL.nil (N.seq (W.seq (W.seq (W.region (WL.fieldAddr fo_84_2 rfl rfl rfl (WL.load1 (v := .int .i64 Y6.bad) one_3 rfl rfl rfl (hS.cell 3 rfl rfl) (WL.bin rfl rfl rfl rfl rfl (WL.nil (N.seq ?_)))))))))
 refine W.cond rfl (fun hc69 => ?_) (fun hc69 => ?_)
 ·
  have hc69p : ¬ (Y6.bad = 0) := by simpa using hc69
  refine W.seq (W.region (WL.loadN (cs := [.bool Y6.t.ended, .int .u64 Y6.t.code, .string Y6.t.out, .int .i64 Y6.t.read, .int .i64 Y6.t.steps, .int .i64 Y6.t.deep, .slice ga3 Y3.globs.length gc3, .int .i64 Y6.bad]) agg_84 rfl rfl rfl rfl (hS.cells 3 (m := 8) rfl rfl) ?_))
  refine WL.store (L' := [(b18, .cells #[.int .i64 x17.params, .slice adi17 x17.ins.length capi17, .int .i64 x17.fin.kind, .int .i64 x17.fin.a, .int .i64 x17.fin.to, .slice adp17 x17.fin.args.length capp17, .int .i64 x17.fin.els, .slice adq17 x17.fin.elses.length capq17] 32 (0, 0)), (b14, .cells #[.string f.name, .int .i64 f.bind, .int .i64 f.params, .slice adb10 f.blocks.length capb10] 24 (0, 0)), (b5, .cells #[.bool Y6.t.ended, .int .u64 Y6.t.code, .string Y6.t.out, .int .i64 Y6.t.read, .int .i64 Y6.t.steps, .int .i64 Y6.t.deep, .slice ga3 Y3.globs.length gc3, .int .i64 Y6.bad] 84 (0, 0)), (b3, .cells #[.bool Y6.t.ended, .int .u64 Y6.t.code, .string Y6.t.out, .int .i64 Y6.t.read, .int .i64 Y6.t.steps, .int .i64 Y6.t.deep, .slice ga3 Y3.globs.length gc3, .int .i64 Y6.bad] 84 (0, 0)), (b1, .cells #[.slice adf m.funcs.length capf, .slice adg m.globs.length capg] 46 (0, 0))]) 2 rfl rfl rfl rfl siz_84 rfl rfl rfl rfl rfl hS ?_
  clear hS; intro w70 hS
  refine WL.assign rfl rfl rfl (WL.nil (N.seq ?_))
  refine Fin.retCT rfl (v := .agg #[.bool Y6.t.ended, .int .u64 Y6.t.code, .string Y6.t.out, .int .i64 Y6.t.read, .int .i64 Y6.t.steps, .int .i64 Y6.t.deep, .slice ga3 Y3.globs.length gc3, .int .i64 Y6.bad]) (v' := .int .u64 0) rfl (tyAgg_run agg_84 (cs := [.bool Y6.t.ended, .int .u64 Y6.t.code, .string Y6.t.out, .int .i64 Y6.t.read, .int .i64 Y6.t.steps, .int .i64 Y6.t.deep, .slice ga3 Y3.globs.length gc3, .int .i64 Y6.bad]) rfl (hS.cells 2 (m := 8) rfl rfl)) rfl ?_
  have hfin : Alike R3 ws3 (roFrom ro w w70) w70 := fun b hb => ⟨(hsub b hb).elim .inl (fun h => .inr ⟨h, (hS.snap b hb).1⟩), (hS.snap b hb).2⟩
  have hne : Y6.bad ≠ 0 := by simpa using hc69p
  have e := blocks7_stop (g := gg) (a := a) hbk (by omega) (hBD.trans hBe) hb3 hY6 hne
  obtain ⟨rfl, rfl⟩ := Prod.mk.inj (e.symm.trans hR2)
  exact ⟨.slice ga3 Y3.globs.length gc3, rfl, SlV.keep (show SlV R3 ws3 1 U64C (.slice ga3 Y3.globs.length gc3) Y6.globs by rw [← hY6, step7_globs]; exact hg3) hfin (fun _ _ q => q), ⟨by decide, by decide⟩, hS.below⟩
 have hc69p : Y6.bad = 0 := by simpa using hc69
 refine W.skip (N.seq (W.seq (W.seq ?_)))
 have hb6 : Y6.bad = 0 := by simpa using hc69p
 refine W.region (WL.fieldAddr fo_32_2 rfl rfl rfl (WL.fieldAddr fo_30_0 rfl rfl rfl (WL.load1 (v := .int .i64 x17.fin.kind) one_3 rfl rfl rfl (hS.cell 0 rfl rfl) (WL.bin rfl rfl rfl rfl rfl (WL.nil (N.seq ?_))))))
 refine W.cond rfl (fun hc71 => ?_) (fun hc71 => ?_)
 ·
  have hc71p : x17.fin.kind = 3 := by simpa using hc71
  refine W.seq ?_
  have hta := hT7 (by omega)
  have hj72 : x17.fin.a.toNat < vals2.length := by omega
  obtain ⟨x72, hx72⟩ : ∃ zz, vals2[x17.fin.a.toNat]? = some zz := ⟨_, List.getElem?_eq_getElem hj72⟩
  obtain ⟨b72, o72, cs72, hE72, hr72, hl72, hc72, hQ72⟩ := hv2d x17.fin.a.toNat _ hx72
  obtain ⟨rfl, hu72⟩ := hQ72
  refine W.drawS (L' := [(b18, .cells #[.int .i64 x17.params, .slice adi17 x17.ins.length capi17, .int .i64 x17.fin.kind, .int .i64 x17.fin.a, .int .i64 x17.fin.to, .slice adp17 x17.fin.args.length capp17, .int .i64 x17.fin.els, .slice adq17 x17.fin.elses.length capq17] 32 (0, 0)), (b14, .cells #[.string f.name, .int .i64 f.bind, .int .i64 f.params, .slice adb10 f.blocks.length capb10] 24 (0, 0)), (b5, .cells #[.bool Y6.t.ended, .int .u64 Y6.t.code, .string Y6.t.out, .int .i64 Y6.t.read, .int .i64 Y6.t.steps, .int .i64 Y6.t.deep, .slice ga3 Y3.globs.length gc3, .int .i64 Y6.bad] 84 (0, 0)), (b3, .cells #[.bool Y6.t.ended, .int .u64 Y6.t.code, .string Y6.t.out, .int .i64 Y6.t.read, .int .i64 Y6.t.steps, .int .i64 Y6.t.deep, .slice ga3 Y3.globs.length gc3, .int .i64 Y6.bad] 84 (0, 0)), (b1, .cells #[.slice adf m.funcs.length capf, .slice adg m.globs.length capg] 46 (0, 0))]) (by kernel_rfl) 8 7 [(.agg #[.bool Y6.t.ended, .int .u64 Y6.t.code, .string Y6.t.out, .int .i64 Y6.t.read, .int .i64 Y6.t.steps, .int .i64 Y6.t.deep, .slice ga3 Y3.globs.length gc3, .int .i64 Y6.bad], true), (.slice ads vals2.length caps, false), (.pointer (some ⟨b18, 2, none⟩), false), (.pointer (some ⟨b18, 3, none⟩), false), (.int .i64 x17.fin.a, false), (.pointer (some ⟨b72, o72 + x17.fin.a.toNat * 1, none⟩), false), (.int .u64 x72, false), (undef, false)] (by kernel_rfl) rfl (by kernel_rfl) rfl rfl [(2, .string inp), (5, .int .i64 n), (6, .int .i64 fuel), (7, .int .i64 deep), (8, .pointer (some ⟨b1, 0, none⟩)), (9, .pointer (some ⟨b3, 0, none⟩)), (16, .pointer (some ⟨b5, 0, none⟩)), (18, .pointer (some ⟨b14, 0, none⟩)), (19, .int .i64 a), (20, .slice ads vals2.length caps), (21, .pointer (some ⟨b18, 0, none⟩))] ⟨rfl, rfl, rfl, rfl, rfl, rfl, rfl, rfl, rfl, rfl, rfl, trivial⟩ rfl hS ?_ ?_
  ·
   refine And.intro (fun C hC wd hCw => ?_) ?_
   ·
    rcases hC with rfl | hC
    ·
     refine WL.sub (σ' := [(9, .pointer (some ⟨b3, 0, none⟩))]) ⟨rfl, trivial⟩ ?_
     replace hS := hCw
     refine WL.loadN (cs := [.bool Y6.t.ended, .int .u64 Y6.t.code, .string Y6.t.out, .int .i64 Y6.t.read, .int .i64 Y6.t.steps, .int .i64 Y6.t.deep, .slice ga3 Y3.globs.length gc3, .int .i64 Y6.bad]) agg_84 rfl rfl rfl rfl (hS.cells 3 (m := 8) rfl rfl) ?_
     exact WL.nil (N.cut () ⟨rfl, trivial⟩ (Below.refl _ _))
    exact False.elim hC
   refine And.intro (fun C hC wd hCw => ?_) ?_
   ·
    rcases hC with rfl | hC
    ·
     refine WL.sub (σ' := [(20, .slice ads vals2.length caps)]) ⟨rfl, trivial⟩ ?_
     replace hS := hCw
     refine WL.move rfl rfl rfl ?_
     exact WL.nil (N.cut () ⟨rfl, trivial⟩ (Below.refl _ _))
    cases hC
    refine WL.sub (σ' := [(20, .slice ads vals2.length caps)]) ⟨rfl, trivial⟩ ?_
    replace hS := hCw
    refine WL.move rfl rfl rfl ?_
    exact WL.nil (N.cut () ⟨rfl, trivial⟩ (Below.refl _ _))
   refine And.intro (fun C hC wd hCw => ?_) ?_
   ·
    rcases hC with rfl | hC
    ·
     refine WL.sub (σ' := [(21, .pointer (some ⟨b18, 0, none⟩))]) ⟨rfl, trivial⟩ ?_
     replace hS := hCw
     refine WL.fieldAddr fo_32_2 rfl rfl rfl ?_
     exact WL.nil (N.cut () ⟨rfl, trivial⟩ (Below.refl _ _))
    cases hC
    refine WL.sub (σ' := [(21, .pointer (some ⟨b18, 0, none⟩))]) ⟨rfl, trivial⟩ ?_
    replace hS := hCw
    refine WL.fieldAddr fo_32_2 rfl rfl rfl ?_
    exact WL.nil (N.cut () ⟨rfl, trivial⟩ (Below.refl _ _))
   refine And.intro (fun C hC wd hCw => ?_) ?_
   ·
    rcases hC with rfl | hC
    ·
     refine WL.sub (σ' := [(122, .pointer (some ⟨b18, 2, none⟩))]) ⟨rfl, trivial⟩ ?_
     replace hS := hCw
     refine WL.fieldAddr fo_30_1 rfl rfl rfl ?_
     exact WL.nil (N.cut () ⟨rfl, trivial⟩ (Below.refl _ _))
    cases hC
    refine WL.sub (σ' := [(122, .pointer (some ⟨b18, 2, none⟩))]) ⟨rfl, trivial⟩ ?_
    replace hS := hCw
    refine WL.fieldAddr fo_30_1 rfl rfl rfl ?_
    exact WL.nil (N.cut () ⟨rfl, trivial⟩ (Below.refl _ _))
   refine And.intro (fun C hC wd hCw => ?_) ?_
   ·
    rcases hC with rfl | hC
    ·
     refine WL.sub (σ' := [(123, .pointer (some ⟨b18, 3, none⟩))]) ⟨rfl, trivial⟩ ?_
     replace hS := hCw
     refine WL.load1 (v := .int .i64 x17.fin.a) one_3 rfl rfl rfl (hS.cell 0 rfl rfl) ?_
     exact WL.nil (N.cut () ⟨rfl, trivial⟩ (Below.refl _ _))
    cases hC
    refine WL.sub (σ' := [(123, .pointer (some ⟨b18, 3, none⟩))]) ⟨rfl, trivial⟩ ?_
    replace hS := hCw
    refine WL.load1 (v := .int .i64 x17.fin.a) one_3 rfl rfl rfl (hS.cell 0 rfl rfl) ?_
    exact WL.nil (N.cut () ⟨rfl, trivial⟩ (Below.refl _ _))
   refine And.intro (fun C hC wd hCw => ?_) ?_
   ·
    rcases hC with rfl | hC
    ·
     refine WL.sub (σ' := [(121, .slice ads vals2.length caps), (124, .int .i64 x17.fin.a)]) ⟨rfl, rfl, trivial⟩ ?_
     replace hS := hCw
     refine WL.set 124 (v' := .int .i64 (x17.fin.a.toNat : Int)) rfl (by rw [Int.toNat_of_nonneg hta.1]) ?_
     refine WL.indexAddrE (j := x17.fin.a.toNat) Try.underlying82 isz_34 rfl rfl rfl rfl hj72 hE72 ?_
     exact WL.nil (N.cut () ⟨rfl, trivial⟩ (Below.refl _ _))
    cases hC
    refine WL.sub (σ' := [(121, .slice ads vals2.length caps), (124, .int .i64 x17.fin.a)]) ⟨rfl, rfl, trivial⟩ ?_
    replace hS := hCw
    refine WL.set 124 (v' := .int .i64 (x17.fin.a.toNat : Int)) rfl (by rw [Int.toNat_of_nonneg hta.1]) ?_
    refine WL.indexAddrE (j := x17.fin.a.toNat) Try.underlying82 isz_34 rfl rfl rfl rfl hj72 hE72 ?_
    exact WL.nil (N.cut () ⟨rfl, trivial⟩ (Below.refl _ _))
   refine And.intro (fun C hC wd hCw => ?_) ?_
   ·
    rcases hC with rfl | hC
    ·
     refine WL.sub (σ' := [(125, .pointer (some ⟨b72, o72 + x17.fin.a.toNat * 1, none⟩))]) ⟨rfl, trivial⟩ ?_
     replace hS := hCw
     refine WL.load1 (v := .int .u64 x72) one_34 rfl rfl rfl (hS.roCells hr72 hc72 0 _ rfl) ?_
     exact WL.nil (N.cut () ⟨rfl, trivial⟩ (Below.refl _ _))
    cases hC
    refine WL.sub (σ' := [(125, .pointer (some ⟨b72, o72 + x17.fin.a.toNat * 1, none⟩))]) ⟨rfl, trivial⟩ ?_
    replace hS := hCw
    refine WL.load1 (v := .int .u64 x72) one_34 rfl rfl rfl (hS.roCells hr72 hc72 0 _ rfl) ?_
    exact WL.nil (N.cut () ⟨rfl, trivial⟩ (Below.refl _ _))
   refine And.intro (fun wd hCw => ?_) ?_
   ·
    refine WL.sub (σ' := [(16, .pointer (some ⟨b5, 0, none⟩)), (120, .agg #[.bool Y6.t.ended, .int .u64 Y6.t.code, .string Y6.t.out, .int .i64 Y6.t.read, .int .i64 Y6.t.steps, .int .i64 Y6.t.deep, .slice ga3 Y3.globs.length gc3, .int .i64 Y6.bad])]) ⟨rfl, rfl, trivial⟩ ?_
    replace hS := hCw
    refine WL.store (L' := [(b18, .cells #[.int .i64 x17.params, .slice adi17 x17.ins.length capi17, .int .i64 x17.fin.kind, .int .i64 x17.fin.a, .int .i64 x17.fin.to, .slice adp17 x17.fin.args.length capp17, .int .i64 x17.fin.els, .slice adq17 x17.fin.elses.length capq17] 32 (0, 0)), (b14, .cells #[.string f.name, .int .i64 f.bind, .int .i64 f.params, .slice adb10 f.blocks.length capb10] 24 (0, 0)), (b5, .cells #[.bool Y6.t.ended, .int .u64 Y6.t.code, .string Y6.t.out, .int .i64 Y6.t.read, .int .i64 Y6.t.steps, .int .i64 Y6.t.deep, .slice ga3 Y3.globs.length gc3, .int .i64 Y6.bad] 84 (0, 0)), (b3, .cells #[.bool Y6.t.ended, .int .u64 Y6.t.code, .string Y6.t.out, .int .i64 Y6.t.read, .int .i64 Y6.t.steps, .int .i64 Y6.t.deep, .slice ga3 Y3.globs.length gc3, .int .i64 Y6.bad] 84 (0, 0)), (b1, .cells #[.slice adf m.funcs.length capf, .slice adg m.globs.length capg] 46 (0, 0))]) 2 rfl rfl rfl rfl siz_84 rfl rfl rfl rfl rfl hS ?_
    clear hS; intro w74 hS
    exact WL.nil (N.cut () trivial hS)
   trivial
  clear hS; intro w75 hS
  refine WL.sub (σ' := [(2, .string inp), (5, .int .i64 n), (6, .int .i64 fuel), (7, .int .i64 deep), (8, .pointer (some ⟨b1, 0, none⟩)), (9, .pointer (some ⟨b3, 0, none⟩)), (16, .pointer (some ⟨b5, 0, none⟩)), (18, .pointer (some ⟨b14, 0, none⟩)), (19, .int .i64 a), (20, .slice ads vals2.length caps), (21, .pointer (some ⟨b18, 0, none⟩)), (126, .int .u64 x72)]) ⟨rfl, rfl, rfl, rfl, rfl, rfl, rfl, rfl, rfl, rfl, rfl, rfl, trivial⟩ ?_
  refine WL.assign rfl rfl rfl (WL.nil (N.seq ?_))
  refine Fin.retCT rfl (v := .agg #[.bool Y6.t.ended, .int .u64 Y6.t.code, .string Y6.t.out, .int .i64 Y6.t.read, .int .i64 Y6.t.steps, .int .i64 Y6.t.deep, .slice ga3 Y3.globs.length gc3, .int .i64 Y6.bad]) (v' := .int .u64 x72) rfl (tyAgg_run agg_84 (cs := [.bool Y6.t.ended, .int .u64 Y6.t.code, .string Y6.t.out, .int .i64 Y6.t.read, .int .i64 Y6.t.steps, .int .i64 Y6.t.deep, .slice ga3 Y3.globs.length gc3, .int .i64 Y6.bad]) rfl (hS.cells 2 (m := 8) rfl rfl)) rfl ?_
  have hfin : Alike R3 ws3 (roFrom ro w w75) w75 := fun b hb => ⟨(hsub b hb).elim .inl (fun h => .inr ⟨h, (hS.snap b hb).1⟩), (hS.snap b hb).2⟩
  have e := blocks7_ret (g := gg) (a := a) hbk (by omega) (hBD.trans hBe) hb3 hY6 hb6 (by omega)
  rw [List.getD_eq_getElem?_getD, hx72, Option.getD_some] at e
  obtain ⟨rfl, rfl⟩ := Prod.mk.inj (e.symm.trans hR2)
  exact ⟨.slice ga3 Y3.globs.length gc3, rfl, SlV.keep (show SlV R3 ws3 1 U64C (.slice ga3 Y3.globs.length gc3) Y6.globs by rw [← hY6, step7_globs]; exact hg3) hfin (fun _ _ q => q), hu72, hS.below⟩
 have hc71p : ¬ (x17.fin.kind = 3) := by simpa using hc71
 refine W.skip (N.seq (W.seq ?_))
 by_cases hk2 : x17.fin.kind = 2
 ·
  have hk2d : decide (x17.fin.kind = 2) = true := decide_eq_true hk2
  have hta := hT7 (by omega)
  have hj76 : x17.fin.a.toNat < vals2.length := by omega
  obtain ⟨x76, hx76⟩ : ∃ zz, vals2[x17.fin.a.toNat]? = some zz := ⟨_, List.getElem?_eq_getElem hj76⟩
  obtain ⟨b76, o76, cs76, hE76, hr76, hl76, hc76, hQ76⟩ := hv2d x17.fin.a.toNat _ hx76
  obtain ⟨rfl, hu76⟩ := hQ76
  have hgx : vals2.getD x17.fin.a.toNat 0 = x76 := by rw [List.getD_eq_getElem?_getD, hx76]; rfl
  refine W.region (WL.fieldAddr fo_32_2 rfl rfl rfl (WL.fieldAddr fo_30_0 rfl rfl rfl (WL.load1 (v := .int .i64 x17.fin.kind) one_3 rfl rfl rfl (hS.cell 0 rfl rfl) (WL.bin rfl rfl rfl rfl rfl ?_))))
  refine WL.set 130 (v' := .bool true) rfl (by rw [hk2d]) ?_
  refine WL.move rfl rfl rfl (WL.move rfl rfl rfl (WL.fieldAddr fo_32_2 rfl rfl rfl (WL.fieldAddr fo_30_1 rfl rfl rfl (WL.load1 (v := .int .i64 x17.fin.a) one_3 rfl rfl rfl (hS.cell 0 rfl rfl) ?_))))
  refine WL.set 135 (v' := .int .i64 (x17.fin.a.toNat : Int)) rfl (by rw [Int.toNat_of_nonneg hta.1]) ?_
  refine WL.indexAddrE (j := x17.fin.a.toNat) Try.underlying82 isz_34 rfl rfl rfl rfl hj76 hE76 (WL.load1 (v := .int .u64 x76) one_34 rfl rfl rfl (hS.roCells hr76 hc76 0 _ rfl) (WL.bin rfl rfl rfl rfl rfl (WL.pick (v := .bool (decide (x76 = 0))) rfl rfl rfl rfl rfl rfl (WL.nil (N.seq ?_)))))
  refine W.cond rfl (fun hc77 => ?_) (fun hc77 => ?_)
  ·
   have hc77p : x76 = 0 := by simpa using hc77
   refine W.seq (W.region (WL.fieldAddr fo_32_2 rfl rfl rfl (WL.fieldAddr fo_30_4 rfl rfl rfl (WL.load1 (v := .int .i64 x17.fin.els) one_3 rfl rfl rfl (hS.cell 0 rfl rfl) (WL.assign rfl rfl rfl (WL.nil (N.seq (W.region (WL.move rfl rfl rfl ?_)))))))))
   refine WL.fieldAddr fo_32_2 rfl rfl rfl (WL.fieldAddr fo_30_5 rfl rfl rfl (WL.load1 (v := .slice adq17 x17.fin.elses.length capq17) one_28 rfl rfl rfl (hS.cell 0 rfl rfl) ?_))
   have hgv : vals2.getD x17.fin.a.toNat 0 = 0 := by rw [hgx]; exact hc77p
   refine WL.callF (vs := [.slice ads vals2.length caps, .slice adq17 x17.fin.elses.length capq17]) Try.func60 (by kernel_rfl) rfl rfl rfl (pick7_ret vals2 x17.fin.elses _ _ (ro := R3) (fun b hb => (hS.snap b hb).1) (SlV.keep hv2 hS.alike (fun _ _ q => q)) (SlV.keep ht217 hS.alike (fun _ _ q => q)) (fun v hv => by have := hT4 v hv; omega) (by omega)) ?_
   rintro v w78 ⟨hv7, hbl⟩
   have hal79 := hS.alikeTo hbl (ro' := (roFrom R3 w68 w78)) (fun b hb => .inl hb)
   replace hsub : ∀ b, (roFrom R3 w68 w78) b → ro b ∨ w.heap.size ≤ b := fun b hb => hb.elim (hsub b) (fun h => .inr (Nat.le_trans hS.below.size h.1))
   replace halL0 := halL0.trans hal79
   replace ht117 := SlV.keep ht117 hal79 (fun _ _ h => h)
   replace hg3 := SlV.keep hg3 hal79 (fun _ _ h => h)
   replace hv2 := SlV.keep hv2 hal79 (fun _ _ h => h)
   replace hS := hS.readNew hbl
   replace hv7 := SlV.keep hv7 (ro' := (roFrom R3 w68 w78)) (w' := w78) (Q' := U64C) (fun x hx => ⟨.inr hx, rfl⟩) (fun _ _ h => h)
   refine WL.assign rfl rfl rfl (WL.nil (N.blk ?_))
   have hS := hS.dropN 1
   have hk3 : ¬ x17.fin.kind = 3 := by omega
   have hnx : next7 x17.fin vals2 = (x17.fin.els, pick7 vals2 x17.fin.elses) := by rw [next7, if_pos ⟨by omega, hgv⟩]
   have hR3 := (blocks7_go (g := gg) (a := a) hbk (by omega) (hBD.trans hBe) hb3 hY6 hb6 hk3).symm.trans hR2
   rw [hnx] at hR3
   have hI6 : Inv7 m fuel 0 Y6 := hY6 ▸ hI3.step0
   have hs6 : Y6.t.steps = Y3.t.steps + 1 := by have h := step7_steps (W := Y3) (fuel := fuel) (by rw [hY6]; exact hb6); rwa [hY6] at h
   have hsf6 := hI6.sf
   have hpl : (pick7 vals2 x17.fin.elses).length = x17.fin.elses.length := by simp [pick7]
   have hg6 : SlV (roFrom R3 w68 w78) w78 1 U64C (.slice ga3 Y3.globs.length gc3) Y6.globs := by rw [← hY6, step7_globs]; exact hg3
   have hto := (hT9 (by omega))
   have hnp := (next5 hterm hk3).2 (by omega)
   exact N.loop (x17.fin.els, v, pick7 vals2 x17.fin.elses, Y6, .slice ga3 Y3.globs.length gc3, gg - 1, (roFrom R3 w68 w78), w78) ⟨rfl, rfl, rfl, rfl, rfl, rfl, rfl, rfl, rfl, rfl, trivial⟩ ⟨hS, ⟨hto.1, by omega⟩, fun b hb => by rw [hpl]; exact hnp b hb, hI6, hb6, by omega, hR3, hv7, hg6, halL0, hsub⟩ (by first | omega | (simp only; omega))
  have hc77p : ¬ (x76 = 0) := by simpa using hc77
  refine W.seq (W.region (WL.fieldAddr fo_32_2 rfl rfl rfl (WL.fieldAddr fo_30_2 rfl rfl rfl (WL.load1 (v := .int .i64 x17.fin.to) one_3 rfl rfl rfl (hS.cell 0 rfl rfl) (WL.assign rfl rfl rfl (WL.nil (N.seq (W.region (WL.move rfl rfl rfl ?_)))))))))
  refine WL.fieldAddr fo_32_2 rfl rfl rfl (WL.fieldAddr fo_30_3 rfl rfl rfl (WL.load1 (v := .slice adp17 x17.fin.args.length capp17) one_28 rfl rfl rfl (hS.cell 0 rfl rfl) ?_))
  have hnk : ¬ (x17.fin.kind = 2 ∧ vals2.getD x17.fin.a.toNat 0 = 0) := fun h => hc77p (by rw [← hgx]; exact h.2)
  refine WL.callF (vs := [.slice ads vals2.length caps, .slice adp17 x17.fin.args.length capp17]) Try.func60 (by kernel_rfl) rfl rfl rfl (pick7_ret vals2 x17.fin.args _ _ (ro := R3) (fun b hb => (hS.snap b hb).1) (SlV.keep hv2 hS.alike (fun _ _ q => q)) (SlV.keep ht117 hS.alike (fun _ _ q => q)) (fun v hv => by have := hT3 v hv; omega) (by omega)) ?_
  rintro v w80 ⟨hv7, hbl⟩
  have hal81 := hS.alikeTo hbl (ro' := (roFrom R3 w68 w80)) (fun b hb => .inl hb)
  replace hsub : ∀ b, (roFrom R3 w68 w80) b → ro b ∨ w.heap.size ≤ b := fun b hb => hb.elim (hsub b) (fun h => .inr (Nat.le_trans hS.below.size h.1))
  replace halL0 := halL0.trans hal81
  replace ht117 := SlV.keep ht117 hal81 (fun _ _ h => h)
  replace hg3 := SlV.keep hg3 hal81 (fun _ _ h => h)
  replace hv2 := SlV.keep hv2 hal81 (fun _ _ h => h)
  replace hS := hS.readNew hbl
  replace hv7 := SlV.keep hv7 (ro' := (roFrom R3 w68 w80)) (w' := w80) (Q' := U64C) (fun x hx => ⟨.inr hx, rfl⟩) (fun _ _ h => h)
  refine WL.assign rfl rfl rfl (WL.nil (N.blk ?_))
  have hS := hS.dropN 1
  have hk3 : ¬ x17.fin.kind = 3 := by omega
  have hnx : next7 x17.fin vals2 = (x17.fin.to, pick7 vals2 x17.fin.args) := by rw [next7, if_neg hnk]
  have hR3 := (blocks7_go (g := gg) (a := a) hbk (by omega) (hBD.trans hBe) hb3 hY6 hb6 hk3).symm.trans hR2
  rw [hnx] at hR3
  have hI6 : Inv7 m fuel 0 Y6 := hY6 ▸ hI3.step0
  have hs6 : Y6.t.steps = Y3.t.steps + 1 := by have h := step7_steps (W := Y3) (fuel := fuel) (by rw [hY6]; exact hb6); rwa [hY6] at h
  have hsf6 := hI6.sf
  have hpl : (pick7 vals2 x17.fin.args).length = x17.fin.args.length := by simp [pick7]
  have hg6 : SlV (roFrom R3 w68 w80) w80 1 U64C (.slice ga3 Y3.globs.length gc3) Y6.globs := by rw [← hY6, step7_globs]; exact hg3
  have hto := (hT8 (by omega))
  have hnp := (next5 hterm hk3).1
  exact N.loop (x17.fin.to, v, pick7 vals2 x17.fin.args, Y6, .slice ga3 Y3.globs.length gc3, gg - 1, (roFrom R3 w68 w80), w80) ⟨rfl, rfl, rfl, rfl, rfl, rfl, rfl, rfl, rfl, rfl, trivial⟩ ⟨hS, ⟨hto.1, by omega⟩, fun b hb => by rw [hpl]; exact hnp b hb, hI6, hb6, by omega, hR3, hv7, hg6, halL0, hsub⟩ (by first | omega | (simp only; omega))
 have hk2d : decide (x17.fin.kind = 2) = false := decide_eq_false hk2
 have hnk : ¬ (x17.fin.kind = 2 ∧ vals2.getD x17.fin.a.toNat 0 = 0) := fun h => hk2 h.1
 refine W.region (WL.fieldAddr fo_32_2 rfl rfl rfl (WL.fieldAddr fo_30_0 rfl rfl rfl (WL.load1 (v := .int .i64 x17.fin.kind) one_3 rfl rfl rfl (hS.cell 0 rfl rfl) (WL.bin rfl rfl rfl rfl rfl ?_))))
 refine WL.set 130 (v' := .bool false) rfl (by rw [hk2d]) ?_
 refine WL.move rfl rfl rfl (WL.skp rfl rfl (WL.skp rfl rfl (WL.skp rfl rfl (WL.skp rfl rfl (WL.skp rfl rfl (WL.skp rfl rfl (WL.skp rfl rfl (WL.pick (v := .bool false) rfl rfl rfl rfl rfl rfl (WL.nil ?_)))))))))
 refine N.seq (W.condF rfl (W.seq (W.region (WL.fieldAddr fo_32_2 rfl rfl rfl (WL.fieldAddr fo_30_2 rfl rfl rfl (WL.load1 (v := .int .i64 x17.fin.to) one_3 rfl rfl rfl (hS.cell 0 rfl rfl) (WL.assign rfl rfl rfl (WL.nil (N.seq ?_)))))))))
 refine W.region (WL.move rfl rfl rfl (WL.fieldAddr fo_32_2 rfl rfl rfl (WL.fieldAddr fo_30_3 rfl rfl rfl (WL.load1 (v := .slice adp17 x17.fin.args.length capp17) one_28 rfl rfl rfl (hS.cell 0 rfl rfl) ?_))))
 refine WL.callF (vs := [.slice ads vals2.length caps, .slice adp17 x17.fin.args.length capp17]) Try.func60 (by kernel_rfl) rfl rfl rfl (pick7_ret vals2 x17.fin.args _ _ (ro := R3) (fun b hb => (hS.snap b hb).1) (SlV.keep hv2 hS.alike (fun _ _ q => q)) (SlV.keep ht117 hS.alike (fun _ _ q => q)) (fun v hv => by have := hT3 v hv; omega) (by omega)) ?_
 rintro v w82 ⟨hv7, hbl⟩
 have hal83 := hS.alikeTo hbl (ro' := (roFrom R3 w68 w82)) (fun b hb => .inl hb)
 replace hsub : ∀ b, (roFrom R3 w68 w82) b → ro b ∨ w.heap.size ≤ b := fun b hb => hb.elim (hsub b) (fun h => .inr (Nat.le_trans hS.below.size h.1))
 replace halL0 := halL0.trans hal83
 replace hg3 := SlV.keep hg3 hal83 (fun _ _ h => h)
 replace hS := hS.readNew hbl
 replace hv7 := SlV.keep hv7 (ro' := (roFrom R3 w68 w82)) (w' := w82) (Q' := U64C) (fun x hx => ⟨.inr hx, rfl⟩) (fun _ _ h => h)
 refine WL.assign rfl rfl rfl (WL.nil (N.blk ?_))
 have hS := hS.dropN 1
 have hk3 : ¬ x17.fin.kind = 3 := by omega
 have hnx : next7 x17.fin vals2 = (x17.fin.to, pick7 vals2 x17.fin.args) := by rw [next7, if_neg hnk]
 have hR3 := (blocks7_go (g := gg) (a := a) hbk (by omega) (hBD.trans hBe) hb3 hY6 hb6 hk3).symm.trans hR2
 rw [hnx] at hR3
 have hI6 : Inv7 m fuel 0 Y6 := hY6 ▸ hI3.step0
 have hs6 : Y6.t.steps = Y3.t.steps + 1 := by have h := step7_steps (W := Y3) (fuel := fuel) (by rw [hY6]; exact hb6); rwa [hY6] at h
 have hsf6 := hI6.sf
 have hpl : (pick7 vals2 x17.fin.args).length = x17.fin.args.length := by simp [pick7]
 have hg6 : SlV (roFrom R3 w68 w82) w82 1 U64C (.slice ga3 Y3.globs.length gc3) Y6.globs := by rw [← hY6, step7_globs]; exact hg3
 have hto := (hT8 (by omega))
 have hnp := (next5 hterm hk3).1
 exact N.loop (x17.fin.to, v, pick7 vals2 x17.fin.args, Y6, .slice ga3 Y3.globs.length gc3, gg - 1, (roFrom R3 w68 w82), w82) ⟨rfl, rfl, rfl, rfl, rfl, rfl, rfl, rfl, rfl, rfl, trivial⟩ ⟨hS, ⟨hto.1, by omega⟩, fun b hb => by rw [hpl]; exact hnp b hb, hI6, hb6, by omega, hR3, hv7, hg6, halL0, hsub⟩ (by first | omega | (simp only; omega))

theorem call7_ret {m : DMod} {inp : ByteArray} {fuel deep : Int} (hwh : whole7 m = 0) (hfu : 0 ≤ fuel ∧ fuel ≤ 100000) (hdp : 1 ≤ deep ∧ deep ≤ 64) : ∀ d : Nat, CallOk m inp fuel deep d
  | 0 => call_step hwh hfu hdp 0 fun d' h => by omega
  | d + 1 => call_step hwh hfu hdp (d + 1) fun d' h => by obtain rfl : d = d' := by omega
                                                          exact call7_ret hwh hfu hdp d

end Go.Proofs.Ytdlcmhkfglckfaa
