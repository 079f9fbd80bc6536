/-
  Contracts of layer 13 (trim). No condition beyond those that each theorem states.
-/
import Derived.Test.YtdlcmhkfglckfaaU10
import Derived.Test.YtdlcmhkfglckfaaL4
namespace Go.Proofs.Ytdlcmhkfglckfaa
open Go.RowKit

set_option maxRecDepth 10000 in
set_option maxHeartbeats 4000000 in
theorem trimRight_ret (m : DMod) (cm : List Value) {w : World} {ro : Nat → Prop} (hro : ∀ b, ro b → b < w.heap.size) (hx : ModC ro w cm m) (hok : okMod m) : Ret Try.prog 6 #[.agg cm.toArray] w fun v w' => v = .bool true ∧ Below w.heap.size w w' := by
 obtain ⟨sfM, sgM, rfl, hfsM, hgsM⟩ := id hx
 obtain ⟨adfM, capfM, rfl, hfsMa, hfsMb, hfsMc, hfsMd⟩ := id hfsM
 have hfsMm : m.funcs.length ≤ 9223372036854775807 := by have h1 := hfsMa; have h2 := hfsMb; unfold maxLen at h2; omega
 obtain ⟨adgM, capgM, rfl, hgsMa, hgsMb, hgsMc, hgsMd⟩ := id hgsM
 have hgsMm : m.globs.length ≤ 9223372036854775807 := by have h1 := hgsMa; have h2 := hgsMb; unfold maxLen at h2; omega
 refine Ret.enter (P := Try.prog) (n := 75) (args := [.agg #[.slice adfM m.funcs.length capfM, .slice adgM m.globs.length capgM]]) (σ := [(0, .agg #[.slice adfM m.funcs.length capfM, .slice adgM m.globs.length capgM])]) Try.func6 rfl rfl rfl rfl ?_
 have hS := St.start (ro := ro) hro
 have hsub : ∀ b, ro b → ro b ∨ w.heap.size ≤ b := fun _ h => .inl h
 have halT : Alike ro w ro w := Alike.refl
 refine W.seq ?_
 refine W.region ?_
 refine WL.box (v := .agg #[.slice adfM m.funcs.length capfM, .slice adgM m.globs.length capgM]) (cs := [.slice adfM m.funcs.length capfM, .slice adgM m.globs.length capgM]) rfl rfl rfl rfl hS ?_
 clear hS; intro w2 b1 hb_b1 hS
 refine WL.assign rfl rfl rfl ?_
 refine WL.nil ?_
 refine N.seq ?_
 refine W.seq ?_
 refine W.region ?_
 refine WL.callF (vs := []) Try.func9 (by kernel_rfl) rfl rfl rfl (shown13_ret (ro := ro) (fun b hb => (hS.snap b hb).1)) ?_
 rintro v w3 ⟨rfl, hbl⟩
 replace hS := hS.grow hbl
 refine WL.assign rfl rfl rfl ?_
 refine WL.nil ?_
 refine N.seq ?_
 refine W.seq ?_
 refine W.seq ?_
 refine W.region ?_
 refine WL.loadN (cs := [.slice adfM m.funcs.length capfM, .slice adgM m.globs.length capgM]) agg_46 rfl rfl rfl rfl (hS.cells 0 (m := 2) rfl rfl) ?_
 refine WL.callF (vs := [.agg #[.slice adfM m.funcs.length capfM, .slice adgM m.globs.length capgM]]) Try.func26 (by kernel_rfl) rfl rfl rfl (check5_ret m _ (ro := ro) (fun b hb => (hS.snap b hb).1) (hx.keep hS.alike) hok) ?_
 rintro v w4 ⟨rfl, hbl⟩
 replace hS := hS.grow hbl
 refine WL.bin rfl rfl rfl rfl rfl ?_
 refine WL.nil ?_
 refine N.seq ?_
 refine W.cond rfl (fun hc5 => ?_) (fun hc5 => ?_)
 ·
  have hc5p : ¬ (check5 m = 0) := by simpa using hc5
  refine W.seq ?_
  refine W.region ?_
  refine WL.move rfl rfl rfl ?_
  refine WL.assign rfl rfl rfl ?_
  refine WL.nil ?_
  refine N.seq ?_
  refine Fin.ret1 rfl (v := .bool true) rfl ?_
  exact ⟨rfl, hS.below⟩
 have hc5p : check5 m = 0 := by simpa using hc5
 refine W.skip ?_
 refine N.seq ?_
 refine W.seq ?_
 refine W.region ?_
 refine WL.loadN (cs := [.slice adfM m.funcs.length capfM, .slice adgM m.globs.length capgM]) agg_46 rfl rfl rfl rfl (hS.cells 0 (m := 2) rfl rfl) ?_
 have hc5 : check5 m = 0 := by simpa using hc5p
 have h5m := (check5_all hc5).2.2.1; have hlm := (check5_all hc5).1
 refine WL.callF (vs := [.agg #[.slice adfM m.funcs.length capfM, .slice adgM m.globs.length capgM]]) Try.func17 (by kernel_rfl) rfl rfl rfl (mod13_ret m _ (ro := ro) (fun b hb => (hS.snap b hb).1) (hx.keep hS.alike) h5m (by omega)) ?_
 rintro v w6 ⟨csq, rfl, hF, hbl⟩
 have hQ5 := func5_mod13 h5m; have hQ2 := mod13_twice h5m; have hQl : (mod13 m).funcs.length ≤ 16 := by simpa [mod13] using hlm
 have hQc := check5_13 hc5; have hQb := blocks_mod13 h5m; have hQo := okMod_13 hok h5m; have hQw : whole7 m = 0 → whole7 (mod13 m) = 0 := whole7_13; have hQn : (mod13 m).funcs.length = m.funcs.length := by simp [mod13]
 obtain ⟨Q, hQe⟩ : ∃ z, z = mod13 m := ⟨_, rfl⟩
 rw [← hQe] at hF hQ5 hQ2 hQl hQc hQb hQo hQw hQn
 have hal7 := hS.alikeTo hbl (ro' := (roFrom ro w4 w6)) (fun b hb => .inl hb)
 replace hsub : ∀ b, (roFrom ro w4 w6) b → ro b ∨ w.heap.size ≤ b := fun b hb => hb.elim (hsub b) (fun h => .inr (Nat.le_trans hS.below.size h.1))
 replace halT := halT.trans hal7
 replace hx := hx.keep hal7
 replace hfsMd : Elems (roFrom ro w4 w6) w6 4 (FuncC (roFrom ro w4 w6) w6) adfM m.funcs := hfsMd.keep hal7 (fun _ _ h => h.keep hal7)
 replace hfsM : SlV (roFrom ro w4 w6) w6 4 (FuncC (roFrom ro w4 w6) w6) (.slice adfM m.funcs.length capfM) m.funcs := SlV.keep hfsM hal7 (fun _ _ h => h.keep hal7)
 replace hgsMd : Elems (roFrom ro w4 w6) w6 4 GlobC adgM m.globs := hgsMd.keep hal7 (fun _ _ h => h)
 replace hgsM : SlV (roFrom ro w4 w6) w6 4 GlobC (.slice adgM m.globs.length capgM) m.globs := SlV.keep hgsM hal7 (fun _ _ h => h)
 replace hS := hS.readNew hbl
 obtain ⟨sfQ, sgQ, rfl, hfsQ, hgsQ⟩ := id hF
 obtain ⟨adfQ, capfQ, rfl, hfsQa, hfsQb, hfsQc, hfsQd⟩ := id hfsQ
 have hfsQm : Q.funcs.length ≤ 9223372036854775807 := by have h1 := hfsQa; have h2 := hfsQb; unfold maxLen at h2; omega
 obtain ⟨adgQ, capgQ, rfl, hgsQa, hgsQb, hgsQc, hgsQd⟩ := id hgsQ
 have hgsQm : Q.globs.length ≤ 9223372036854775807 := by have h1 := hgsQa; have h2 := hgsQb; unfold maxLen at h2; omega
 refine WL.alloc (tyZero_spec zer_46) rfl rfl hS ?_
 clear hS; intro w9 b8 hb_b8 hS
 refine WL.store (cs := [.slice adfQ Q.funcs.length capfQ, .slice adgQ Q.globs.length capgQ]) (c' := #[.slice adfQ Q.funcs.length capfQ, .slice adgQ Q.globs.length capgQ]) (L' := [(b8, .cells #[.slice adfQ Q.funcs.length capfQ, .slice adgQ Q.globs.length capgQ] 46 (0, 0)), (b1, .cells #[.slice adfM m.funcs.length capfM, .slice adgM m.globs.length capgM] 46 (0, 0))]) 0 rfl rfl rfl rfl siz_46 rfl rfl rfl rfl rfl hS ?_
 clear hS; intro w10 hS
 refine WL.nil ?_
 refine N.seq ?_
 refine W.seq ?_
 refine W.seq ?_
 refine W.region ?_
 refine WL.loadN (cs := [.slice adfQ Q.funcs.length capfQ, .slice adgQ Q.globs.length capgQ]) agg_46 rfl rfl rfl rfl (hS.cells 0 (m := 2) rfl rfl) ?_
 refine WL.callF (vs := [.agg #[.slice adfQ Q.funcs.length capfQ, .slice adgQ Q.globs.length capgQ]]) Try.func26 (by kernel_rfl) rfl rfl rfl (check5_ret Q _ (ro := (roFrom ro w4 w6)) (fun b hb => (hS.snap b hb).1) (hF.keep hS.alike) hQo) ?_
 rintro v w11 ⟨hv, hbl⟩
 replace hS := hS.grow hbl
 rw [hQc] at hv; subst hv
 refine WL.bin rfl rfl rfl rfl rfl ?_
 refine WL.set 15 (v' := .bool false) rfl rfl ?_
 refine WL.move rfl rfl rfl ?_
 refine WL.loadN (cs := [.slice adfM m.funcs.length capfM, .slice adgM m.globs.length capgM]) agg_46 rfl rfl rfl rfl (hS.cells 1 (m := 2) rfl rfl) ?_
 refine WL.callF (vs := [.agg #[.slice adfM m.funcs.length capfM, .slice adgM m.globs.length capgM]]) Try.func27 (by kernel_rfl) rfl rfl rfl (whole7_ret m _ (ro := (roFrom ro w4 w6)) (fun b hb => (hS.snap b hb).1) (hx.keep hS.alike) hok) ?_
 rintro v w12 ⟨rfl, hbl⟩
 replace hS := hS.grow hbl
 obtain ⟨zw, hzw⟩ : ∃ z, z = whole7 m := ⟨_, rfl⟩
 rw [← hzw]
 refine WL.bin rfl rfl rfl rfl rfl ?_
 refine WL.move rfl rfl rfl ?_
 cases hg13 : (decide (zw = 0))
 ·
  have hg13p : ¬ (zw = 0) := by simpa using hg13
  refine WL.skp rfl rfl ?_
  refine WL.skp rfl rfl ?_
  refine WL.skp rfl rfl ?_
  refine WL.pick (v := .bool false) rfl rfl rfl rfl rfl rfl ?_
  refine WL.pick (v := .bool false) rfl rfl rfl rfl rfl rfl ?_
  refine WL.nil ?_
  refine N.seq ?_
  refine W.condF rfl ?_
  refine W.skip ?_
  refine N.seq ?_
  refine W.seq ?_
  refine W.seq ?_
  refine W.region ?_
  refine WL.fieldAddr fo_46_0 rfl rfl rfl ?_
  refine WL.load1 (v := .slice adfQ Q.funcs.length capfQ) one_43 rfl rfl rfl (hS.cell 0 rfl rfl) ?_
  refine WL.lenSlice Try.underlying43 rfl rfl rfl ?_
  refine WL.fieldAddr fo_46_0 rfl rfl rfl ?_
  refine WL.load1 (v := .slice adfM m.funcs.length capfM) one_43 rfl rfl rfl (hS.cell 1 rfl rfl) ?_
  refine WL.lenSlice Try.underlying43 rfl rfl rfl ?_
  refine WL.bin rfl rfl rfl rfl rfl ?_
  refine WL.set 32 (v' := .bool false) rfl (by rw [decide_eq_true (by omega)]; rfl) ?_
  refine WL.nil ?_
  refine N.seq ?_
  refine W.condF rfl ?_
  refine W.skip ?_
  refine N.seq ?_
  refine W.seq ?_
  refine W.seq ?_
  refine W.region ?_
  refine WL.assign rfl rfl rfl ?_
  refine WL.nil ?_
  refine N.seq ?_
  refine W.block ?_
  refine W.loop (α := Nat) (fun (k : Nat) => [(0, .agg #[.slice adfM m.funcs.length capfM, .slice adgM m.globs.length capgM]), (1, .pointer (some ⟨b1, 0, none⟩)), (3, .bool true), (4, .pointer (some ⟨b8, 0, none⟩)), (5, .int .i64 (k : Int)), (6, .bool true), (7, .agg #[.slice adfM m.funcs.length capfM, .slice adgM m.globs.length capgM]), (8, .int .i64 (check5 m)), (9, .bool (!decide (check5 m = 0))), (11, .agg #[.slice adfM m.funcs.length capfM, .slice adgM m.globs.length capgM]), (12, .agg #[.slice adfQ Q.funcs.length capfQ, .slice adgQ Q.globs.length capgQ]), (13, .agg #[.slice adfQ Q.funcs.length capfQ, .slice adgQ Q.globs.length capgQ]), (14, .int .i64 0), (15, .bool false), (16, .bool false), (17, .agg #[.slice adfM m.funcs.length capfM, .slice adgM m.globs.length capgM]), (18, .int .i64 zw), (19, .bool false), (20, .bool false), (21, undef), (22, undef), (23, undef), (24, .bool false), (25, .bool false), (26, .pointer (some ⟨b8, 0, none⟩)), (27, .slice adfQ Q.funcs.length capfQ), (28, .int .i64 (Q.funcs.length : Int)), (29, .pointer (some ⟨b1, 0, none⟩)), (30, .slice adfM m.funcs.length capfM), (31, .int .i64 (m.funcs.length : Int)), (32, .bool false)]) (fun (k : Nat) u => St w w6 u (roFrom ro w4 w6) [(b8, .cells #[.slice adfQ Q.funcs.length capfQ, .slice adgQ Q.globs.length capgQ] 46 (0, 0)), (b1, .cells #[.slice adfM m.funcs.length capfM, .slice adgM m.globs.length capgM] 46 (0, 0))] [] ∧ k ≤ m.funcs.length) (fun (k : Nat) => m.funcs.length - k) 0 ⟨rfl, rfl, rfl, rfl, rfl, rfl, rfl, rfl, rfl, rfl, rfl, rfl, rfl, rfl, rfl, rfl, rfl, rfl, rfl, rfl, rfl, rfl, rfl, rfl, rfl, rfl, rfl, rfl, rfl, rfl, rfl, trivial⟩ ⟨hS, Nat.zero_le _⟩ ?_
  clear hS
  rintro k w14 ⟨hS, hk⟩
  refine W.seq ?_
  refine W.seq ?_
  refine W.region ?_
  refine WL.move rfl rfl rfl ?_
  refine WL.fieldAddr fo_46_0 rfl rfl rfl ?_
  refine WL.load1 (v := .slice adfM m.funcs.length capfM) one_43 rfl rfl rfl (hS.cell 1 rfl rfl) ?_
  refine WL.lenSlice Try.underlying43 rfl rfl rfl ?_
  refine WL.bin rfl rfl rfl rfl rfl ?_
  refine WL.nil ?_
  refine N.seq ?_
  refine W.cond rfl (fun hc15 => ?_) (fun hc15 => ?_)
  ·
   have hc15p : (k : Int) < (m.funcs.length : Int) := by simpa using hc15
   refine W.skip ?_
   refine N.seq ?_
   refine W.seq ?_
   refine W.block ?_
   refine W.seq ?_
   have hj16 : k < Q.funcs.length := by omega
   obtain ⟨x16, hx16⟩ : ∃ zz, Q.funcs[k]? = some zz := ⟨_, List.getElem?_eq_getElem hj16⟩
   obtain ⟨b16, o16, cs16, hE16, hr16, hl16, hc16, hQ16⟩ := hfsQd k _ hx16
   obtain ⟨sb16, rfl, hbl16, hnm16, hbd16, hpr16⟩ := id hQ16
   obtain ⟨adb16, capb16, rfl, hbk16a, hbk16b, hbk16c, hbk16d⟩ := id hbl16
   have hbk16m : x16.blocks.length ≤ 9223372036854775807 := by have h1 := hbk16a; have h2 := hbk16b; unfold maxLen at h2; omega
   have hj17 : k < m.funcs.length := by omega
   obtain ⟨x17, hx17⟩ : ∃ zz, m.funcs[k]? = some zz := ⟨_, List.getElem?_eq_getElem hj17⟩
   obtain ⟨b17, o17, cs17, hE17, hr17, hl17, hc17, hQ17⟩ := hfsMd k _ hx17
   obtain ⟨sb17, rfl, hbl17, hnm17, hbd17, hpr17⟩ := id hQ17
   obtain ⟨adb17, capb17, rfl, hbk17a, hbk17b, hbk17c, hbk17d⟩ := id hbl17
   have hbk17m : x17.blocks.length ≤ 9223372036854775807 := by have h1 := hbk17a; have h2 := hbk17b; unfold maxLen at h2; omega
   refine W.drawL (by kernel_rfl) 34 [.q (.pointer (some ⟨b8, 0, none⟩)), .q (.slice adfQ Q.funcs.length capfQ), .q (.int .i64 (k : Int)), .q (.pointer (some ⟨b16, o16 + k * 4, none⟩)), .q (.pointer (some ⟨b16, o16 + k * 4 + 3, none⟩)), .q (.slice adb16 x16.blocks.length capb16), .q (.int .i64 (x16.blocks.length : Int)), .q (.pointer (some ⟨b1, 0, none⟩)), .q (.slice adfM m.funcs.length capfM), .q (.int .i64 (k : Int)), .q (.pointer (some ⟨b17, o17 + k * 4, none⟩)), .q (.pointer (some ⟨b17, o17 + k * 4 + 3, none⟩)), .q (.slice adb17 x17.blocks.length capb17), .q (.int .i64 (x17.blocks.length : Int)), .q (.bool false), .q (.bool false), .q (.pointer (some ⟨b8, 0, none⟩)), .q (.slice adfQ Q.funcs.length capfQ), .q (.int .i64 (k : Int)), .q (.pointer (some ⟨b16, o16 + k * 4, none⟩)), .q (.pointer (some ⟨b16, o16 + k * 4 + 3, none⟩)), .q (.slice adb16 x16.blocks.length capb16), .q (.int .i64 (x16.blocks.length : Int)), .q (.bool (decide ((x16.blocks.length : Int) = 0))), .q (.pointer (some ⟨b1, 0, none⟩)), .q (.slice adfM m.funcs.length capfM), .q (.int .i64 (k : Int)), .q (.pointer (some ⟨b17, o17 + k * 4, none⟩)), .q (.pointer (some ⟨b17, o17 + k * 4 + 3, none⟩)), .q (.slice adb17 x17.blocks.length capb17), .q (.int .i64 (x17.blocks.length : Int)), .q (.bool (decide ((x17.blocks.length : Int) = 0))), .q (.bool false), .q (.bool false)] (by kernel_rfl) rfl [(0, .agg #[.slice adfM m.funcs.length capfM, .slice adgM m.globs.length capgM]), (1, .pointer (some ⟨b1, 0, none⟩)), (3, .bool true), (4, .pointer (some ⟨b8, 0, none⟩)), (5, .int .i64 (k : Int)), (6, .bool true), (7, .agg #[.slice adfM m.funcs.length capfM, .slice adgM m.globs.length capgM]), (8, .int .i64 (check5 m)), (9, .bool (!decide (check5 m = 0))), (11, .agg #[.slice adfM m.funcs.length capfM, .slice adgM m.globs.length capgM]), (12, .agg #[.slice adfQ Q.funcs.length capfQ, .slice adgQ Q.globs.length capgQ]), (13, .agg #[.slice adfQ Q.funcs.length capfQ, .slice adgQ Q.globs.length capgQ]), (14, .int .i64 0), (15, .bool false), (16, .bool false), (17, .agg #[.slice adfM m.funcs.length capfM, .slice adgM m.globs.length capgM]), (18, .int .i64 zw), (19, .bool false), (20, .bool false), (21, undef), (22, undef), (23, undef), (24, .bool false), (25, .bool false), (26, .pointer (some ⟨b8, 0, none⟩)), (27, .slice adfQ Q.funcs.length capfQ), (28, .int .i64 (Q.funcs.length : Int)), (29, .pointer (some ⟨b1, 0, none⟩)), (30, .slice adfM m.funcs.length capfM), (31, .int .i64 (m.funcs.length : Int)), (32, .bool false), (33, .int .i64 (k : Int)), (34, .pointer (some ⟨b1, 0, none⟩)), (35, .slice adfM m.funcs.length capfM), (36, .int .i64 (m.funcs.length : Int)), (37, .bool (decide ((k : Int) < (m.funcs.length : Int))))] ⟨rfl, rfl, rfl, rfl, rfl, rfl, rfl, rfl, rfl, rfl, rfl, rfl, rfl, rfl, rfl, rfl, rfl, rfl, rfl, rfl, rfl, rfl, rfl, rfl, rfl, rfl, rfl, rfl, rfl, rfl, rfl, rfl, rfl, rfl, rfl, rfl, trivial⟩ rfl hS ?_ ?_
   ·
    refine And.intro (fun β w hS => ?_) ?_
    ·
     refine WL.sub (σ' := [(4, .pointer (some ⟨b8, 0, none⟩))]) ⟨rfl, trivial⟩ ?_
     refine WL.fieldAddr fo_46_0 rfl rfl rfl ?_
     exact WL.nil (N.cut () ⟨rfl, trivial⟩ (Below.refl _ _))
    refine And.intro (fun β w hS => ?_) ?_
    ·
     refine WL.sub (σ' := [(40, .pointer (some ⟨b8, 0, none⟩))]) ⟨rfl, trivial⟩ ?_
     refine WL.load1 (v := .slice adfQ Q.funcs.length capfQ) one_43 rfl rfl rfl (hS.cell 0 rfl rfl) ?_
     exact WL.nil (N.cut () ⟨rfl, trivial⟩ (Below.refl _ _))
    refine And.intro (fun β w hS => ?_) ?_
    ·
     refine WL.sub (σ' := [(5, .int .i64 (k : Int))]) ⟨rfl, trivial⟩ ?_
     refine WL.move rfl rfl rfl ?_
     exact WL.nil (N.cut () ⟨rfl, trivial⟩ (Below.refl _ _))
    refine And.intro (fun β w hS => ?_) ?_
    ·
     refine WL.sub (σ' := [(41, .slice adfQ Q.funcs.length capfQ), (42, .int .i64 (k : Int))]) ⟨rfl, rfl, trivial⟩ ?_
     refine WL.indexAddrE (j := k) Try.underlying43 isz_24 rfl rfl rfl rfl hj16 hE16 ?_
     exact WL.nil (N.cut () ⟨rfl, trivial⟩ (Below.refl _ _))
    refine And.intro (fun β w hS => ?_) ?_
    ·
     refine WL.sub (σ' := [(43, .pointer (some ⟨b16, o16 + k * 4, none⟩))]) ⟨rfl, trivial⟩ ?_
     refine WL.fieldAddr fo_24_3 rfl rfl rfl ?_
     exact WL.nil (N.cut () ⟨rfl, trivial⟩ (Below.refl _ _))
    refine And.intro (fun β w hS => ?_) ?_
    ·
     refine WL.sub (σ' := [(44, .pointer (some ⟨b16, o16 + k * 4 + 3, none⟩))]) ⟨rfl, trivial⟩ ?_
     refine WL.load1 (v := .slice adb16 x16.blocks.length capb16) one_22 rfl rfl rfl (hS.roCells hr16 hc16 3 _ rfl) ?_
     exact WL.nil (N.cut () ⟨rfl, trivial⟩ (Below.refl _ _))
    refine And.intro (fun β w hS => ?_) ?_
    ·
     refine WL.sub (σ' := [(45, .slice adb16 x16.blocks.length capb16)]) ⟨rfl, trivial⟩ ?_
     refine WL.lenSlice Try.underlying22 rfl rfl rfl ?_
     exact WL.nil (N.cut () ⟨rfl, trivial⟩ (Below.refl _ _))
    refine And.intro (fun β w hS => ?_) ?_
    ·
     refine WL.sub (σ' := [(1, .pointer (some ⟨b1, 0, none⟩))]) ⟨rfl, trivial⟩ ?_
     refine WL.fieldAddr fo_46_0 rfl rfl rfl ?_
     exact WL.nil (N.cut () ⟨rfl, trivial⟩ (Below.refl _ _))
    refine And.intro (fun β w hS => ?_) ?_
    ·
     refine WL.sub (σ' := [(47, .pointer (some ⟨b1, 0, none⟩))]) ⟨rfl, trivial⟩ ?_
     refine WL.load1 (v := .slice adfM m.funcs.length capfM) one_43 rfl rfl rfl (hS.cell 1 rfl rfl) ?_
     exact WL.nil (N.cut () ⟨rfl, trivial⟩ (Below.refl _ _))
    refine And.intro (fun β w hS => ?_) ?_
    ·
     refine WL.sub (σ' := [(5, .int .i64 (k : Int))]) ⟨rfl, trivial⟩ ?_
     refine WL.move rfl rfl rfl ?_
     exact WL.nil (N.cut () ⟨rfl, trivial⟩ (Below.refl _ _))
    refine And.intro (fun β w hS => ?_) ?_
    ·
     refine WL.sub (σ' := [(48, .slice adfM m.funcs.length capfM), (49, .int .i64 (k : Int))]) ⟨rfl, rfl, trivial⟩ ?_
     refine WL.indexAddrE (j := k) Try.underlying43 isz_24 rfl rfl rfl rfl hj17 hE17 ?_
     exact WL.nil (N.cut () ⟨rfl, trivial⟩ (Below.refl _ _))
    refine And.intro (fun β w hS => ?_) ?_
    ·
     refine WL.sub (σ' := [(50, .pointer (some ⟨b17, o17 + k * 4, none⟩))]) ⟨rfl, trivial⟩ ?_
     refine WL.fieldAddr fo_24_3 rfl rfl rfl ?_
     exact WL.nil (N.cut () ⟨rfl, trivial⟩ (Below.refl _ _))
    refine And.intro (fun β w hS => ?_) ?_
    ·
     refine WL.sub (σ' := [(51, .pointer (some ⟨b17, o17 + k * 4 + 3, none⟩))]) ⟨rfl, trivial⟩ ?_
     refine WL.load1 (v := .slice adb17 x17.blocks.length capb17) one_22 rfl rfl rfl (hS.roCells hr17 hc17 3 _ rfl) ?_
     exact WL.nil (N.cut () ⟨rfl, trivial⟩ (Below.refl _ _))
    refine And.intro (fun β w hS => ?_) ?_
    ·
     refine WL.sub (σ' := [(52, .slice adb17 x17.blocks.length capb17)]) ⟨rfl, trivial⟩ ?_
     refine WL.lenSlice Try.underlying22 rfl rfl rfl ?_
     exact WL.nil (N.cut () ⟨rfl, trivial⟩ (Below.refl _ _))
    refine And.intro (fun β w hS => ?_) ?_
    ·
     refine WL.sub (σ' := [(46, .int .i64 (x16.blocks.length : Int)), (53, .int .i64 (x17.blocks.length : Int))]) ⟨rfl, rfl, trivial⟩ ?_
     refine WL.bin rfl rfl rfl rfl rfl ?_
     refine WL.set 54 (v' := .bool false) rfl (congrArg Value.bool (show (decide ((x17.blocks.length : Int) < (x16.blocks.length : Int))) = false from decide_eq_false (by have := hQb _ _ _ hx16 hx17; omega))) ?_
     exact WL.nil (N.cut () ⟨rfl, trivial⟩ (Below.refl _ _))
    refine And.intro (fun β w hS => ?_) ?_
    ·
     refine WL.sub (σ' := [(54, .bool false)]) ⟨rfl, trivial⟩ ?_
     refine WL.move rfl rfl rfl ?_
     exact WL.nil (N.cut () ⟨rfl, trivial⟩ (Below.refl _ _))
    refine And.intro (fun β w hS => ?_) ?_
    ·
     refine WL.sub (σ' := [(4, .pointer (some ⟨b8, 0, none⟩)), (55, .bool false)]) ⟨rfl, rfl, trivial⟩ ?_
     refine WL.fieldAddr fo_46_0 rfl rfl rfl ?_
     exact WL.nil (N.cut () ⟨rfl, trivial⟩ (Below.refl _ _))
    refine And.intro (fun β w hS => ?_) ?_
    ·
     refine WL.sub (σ' := [(55, .bool false), (56, .pointer (some ⟨b8, 0, none⟩))]) ⟨rfl, rfl, trivial⟩ ?_
     refine WL.load1 (v := .slice adfQ Q.funcs.length capfQ) one_43 rfl rfl rfl (hS.cell 0 rfl rfl) ?_
     exact WL.nil (N.cut () ⟨rfl, trivial⟩ (Below.refl _ _))
    refine And.intro (fun β w hS => ?_) ?_
    ·
     refine WL.sub (σ' := [(5, .int .i64 (k : Int)), (55, .bool false)]) ⟨rfl, rfl, trivial⟩ ?_
     refine WL.move rfl rfl rfl ?_
     exact WL.nil (N.cut () ⟨rfl, trivial⟩ (Below.refl _ _))
    refine And.intro (fun β w hS => ?_) ?_
    ·
     refine WL.sub (σ' := [(55, .bool false), (57, .slice adfQ Q.funcs.length capfQ), (58, .int .i64 (k : Int))]) ⟨rfl, rfl, rfl, trivial⟩ ?_
     refine WL.indexAddrE (j := k) Try.underlying43 isz_24 rfl rfl rfl rfl hj16 hE16 ?_
     exact WL.nil (N.cut () ⟨rfl, trivial⟩ (Below.refl _ _))
    refine And.intro (fun β w hS => ?_) ?_
    ·
     refine WL.sub (σ' := [(55, .bool false), (59, .pointer (some ⟨b16, o16 + k * 4, none⟩))]) ⟨rfl, rfl, trivial⟩ ?_
     refine WL.fieldAddr fo_24_3 rfl rfl rfl ?_
     exact WL.nil (N.cut () ⟨rfl, trivial⟩ (Below.refl _ _))
    refine And.intro (fun β w hS => ?_) ?_
    ·
     refine WL.sub (σ' := [(55, .bool false), (60, .pointer (some ⟨b16, o16 + k * 4 + 3, none⟩))]) ⟨rfl, rfl, trivial⟩ ?_
     refine WL.load1 (v := .slice adb16 x16.blocks.length capb16) one_22 rfl rfl rfl (hS.roCells hr16 hc16 3 _ rfl) ?_
     exact WL.nil (N.cut () ⟨rfl, trivial⟩ (Below.refl _ _))
    refine And.intro (fun β w hS => ?_) ?_
    ·
     refine WL.sub (σ' := [(55, .bool false), (61, .slice adb16 x16.blocks.length capb16)]) ⟨rfl, rfl, trivial⟩ ?_
     refine WL.lenSlice Try.underlying22 rfl rfl rfl ?_
     exact WL.nil (N.cut () ⟨rfl, trivial⟩ (Below.refl _ _))
    refine And.intro (fun β w hS => ?_) ?_
    ·
     refine WL.sub (σ' := [(55, .bool false), (62, .int .i64 (x16.blocks.length : Int))]) ⟨rfl, rfl, trivial⟩ ?_
     refine WL.bin rfl rfl rfl rfl rfl ?_
     exact WL.nil (N.cut () ⟨rfl, trivial⟩ (Below.refl _ _))
    refine And.intro (fun β w hS => ?_) ?_
    ·
     refine WL.sub (σ' := [(1, .pointer (some ⟨b1, 0, none⟩)), (55, .bool false)]) ⟨rfl, rfl, trivial⟩ ?_
     refine WL.fieldAddr fo_46_0 rfl rfl rfl ?_
     exact WL.nil (N.cut () ⟨rfl, trivial⟩ (Below.refl _ _))
    refine And.intro (fun β w hS => ?_) ?_
    ·
     refine WL.sub (σ' := [(55, .bool false), (64, .pointer (some ⟨b1, 0, none⟩))]) ⟨rfl, rfl, trivial⟩ ?_
     refine WL.load1 (v := .slice adfM m.funcs.length capfM) one_43 rfl rfl rfl (hS.cell 1 rfl rfl) ?_
     exact WL.nil (N.cut () ⟨rfl, trivial⟩ (Below.refl _ _))
    refine And.intro (fun β w hS => ?_) ?_
    ·
     refine WL.sub (σ' := [(5, .int .i64 (k : Int)), (55, .bool false)]) ⟨rfl, rfl, trivial⟩ ?_
     refine WL.move rfl rfl rfl ?_
     exact WL.nil (N.cut () ⟨rfl, trivial⟩ (Below.refl _ _))
    refine And.intro (fun β w hS => ?_) ?_
    ·
     refine WL.sub (σ' := [(55, .bool false), (65, .slice adfM m.funcs.length capfM), (66, .int .i64 (k : Int))]) ⟨rfl, rfl, rfl, trivial⟩ ?_
     refine WL.indexAddrE (j := k) Try.underlying43 isz_24 rfl rfl rfl rfl hj17 hE17 ?_
     exact WL.nil (N.cut () ⟨rfl, trivial⟩ (Below.refl _ _))
    refine And.intro (fun β w hS => ?_) ?_
    ·
     refine WL.sub (σ' := [(55, .bool false), (67, .pointer (some ⟨b17, o17 + k * 4, none⟩))]) ⟨rfl, rfl, trivial⟩ ?_
     refine WL.fieldAddr fo_24_3 rfl rfl rfl ?_
     exact WL.nil (N.cut () ⟨rfl, trivial⟩ (Below.refl _ _))
    refine And.intro (fun β w hS => ?_) ?_
    ·
     refine WL.sub (σ' := [(55, .bool false), (68, .pointer (some ⟨b17, o17 + k * 4 + 3, none⟩))]) ⟨rfl, rfl, trivial⟩ ?_
     refine WL.load1 (v := .slice adb17 x17.blocks.length capb17) one_22 rfl rfl rfl (hS.roCells hr17 hc17 3 _ rfl) ?_
     exact WL.nil (N.cut () ⟨rfl, trivial⟩ (Below.refl _ _))
    refine And.intro (fun β w hS => ?_) ?_
    ·
     refine WL.sub (σ' := [(55, .bool false), (69, .slice adb17 x17.blocks.length capb17)]) ⟨rfl, rfl, trivial⟩ ?_
     refine WL.lenSlice Try.underlying22 rfl rfl rfl ?_
     exact WL.nil (N.cut () ⟨rfl, trivial⟩ (Below.refl _ _))
    refine And.intro (fun β w hS => ?_) ?_
    ·
     refine WL.sub (σ' := [(55, .bool false), (70, .int .i64 (x17.blocks.length : Int))]) ⟨rfl, rfl, trivial⟩ ?_
     refine WL.bin rfl rfl rfl rfl rfl ?_
     exact WL.nil (N.cut () ⟨rfl, trivial⟩ (Below.refl _ _))
    refine And.intro (fun β w hS => ?_) ?_
    ·
     refine WL.sub (σ' := [(55, .bool false), (63, .bool (decide ((x16.blocks.length : Int) = 0))), (71, .bool (decide ((x17.blocks.length : Int) = 0)))]) ⟨rfl, rfl, rfl, trivial⟩ ?_
     refine WL.neBool Try.underlying4 rfl rfl rfl rfl ?_
     refine WL.set 72 (v' := .bool false) rfl (by have h1 := (hQb _ _ _ hx16 hx17).2; exact congrArg Value.bool (by rw [bne_eq_false_iff_eq, Bool.eq_iff_iff, decide_eq_true_eq, decide_eq_true_eq]; omega)) ?_
     exact WL.nil (N.cut () ⟨rfl, trivial⟩ (Below.refl _ _))
    refine And.intro (fun β w hS => ?_) ?_
    ·
     refine WL.sub (σ' := [(55, .bool false), (72, .bool false)]) ⟨rfl, rfl, trivial⟩ ?_
     refine WL.pick (v := .bool false) rfl rfl rfl rfl rfl rfl ?_
     exact WL.nil (N.cut () ⟨rfl, trivial⟩ (Below.refl _ _))
    trivial
   clear hS; intro w18 β hS
   refine WL.sub (σ' := [(0, .agg #[.slice adfM m.funcs.length capfM, .slice adgM m.globs.length capgM]), (1, .pointer (some ⟨b1, 0, none⟩)), (3, .bool true), (4, .pointer (some ⟨b8, 0, none⟩)), (5, .int .i64 (k : Int)), (6, .bool true), (7, .agg #[.slice adfM m.funcs.length capfM, .slice adgM m.globs.length capgM]), (8, .int .i64 (check5 m)), (9, .bool (!decide (check5 m = 0))), (11, .agg #[.slice adfM m.funcs.length capfM, .slice adgM m.globs.length capgM]), (12, .agg #[.slice adfQ Q.funcs.length capfQ, .slice adgQ Q.globs.length capgQ]), (13, .agg #[.slice adfQ Q.funcs.length capfQ, .slice adgQ Q.globs.length capgQ]), (14, .int .i64 0), (15, .bool false), (16, .bool false), (17, .agg #[.slice adfM m.funcs.length capfM, .slice adgM m.globs.length capgM]), (18, .int .i64 zw), (19, .bool false), (20, .bool false), (21, undef), (22, undef), (23, undef), (24, .bool false), (25, .bool false), (26, .pointer (some ⟨b8, 0, none⟩)), (27, .slice adfQ Q.funcs.length capfQ), (28, .int .i64 (Q.funcs.length : Int)), (29, .pointer (some ⟨b1, 0, none⟩)), (30, .slice adfM m.funcs.length capfM), (31, .int .i64 (m.funcs.length : Int)), (32, .bool false), (33, .int .i64 (k : Int)), (34, .pointer (some ⟨b1, 0, none⟩)), (35, .slice adfM m.funcs.length capfM), (36, .int .i64 (m.funcs.length : Int)), (37, .bool (decide ((k : Int) < (m.funcs.length : Int)))), (40, .pointer (some ⟨b8, 0, none⟩)), (41, .slice adfQ Q.funcs.length capfQ), (42, .int .i64 (k : Int)), (43, .pointer (some ⟨b16, o16 + k * 4, none⟩)), (44, .pointer (some ⟨b16, o16 + k * 4 + 3, none⟩)), (45, .slice adb16 x16.blocks.length capb16), (46, .int .i64 (x16.blocks.length : Int)), (47, .pointer (some ⟨b1, 0, none⟩)), (48, .slice adfM m.funcs.length capfM), (49, .int .i64 (k : Int)), (50, .pointer (some ⟨b17, o17 + k * 4, none⟩)), (51, .pointer (some ⟨b17, o17 + k * 4 + 3, none⟩)), (52, .slice adb17 x17.blocks.length capb17), (53, .int .i64 (x17.blocks.length : Int)), (54, .bool false), (55, .bool false), (56, .pointer (some ⟨b8, 0, none⟩)), (57, .slice adfQ Q.funcs.length capfQ), (58, .int .i64 (k : Int)), (59, .pointer (some ⟨b16, o16 + k * 4, none⟩)), (60, .pointer (some ⟨b16, o16 + k * 4 + 3, none⟩)), (61, .slice adb16 x16.blocks.length capb16), (62, .int .i64 (x16.blocks.length : Int)), (63, .bool (decide ((x16.blocks.length : Int) = 0))), (64, .pointer (some ⟨b1, 0, none⟩)), (65, .slice adfM m.funcs.length capfM), (66, .int .i64 (k : Int)), (67, .pointer (some ⟨b17, o17 + k * 4, none⟩)), (68, .pointer (some ⟨b17, o17 + k * 4 + 3, none⟩)), (69, .slice adb17 x17.blocks.length capb17), (70, .int .i64 (x17.blocks.length : Int)), (71, .bool (decide ((x17.blocks.length : Int) = 0))), (72, .bool false), (73, .bool false)]) ⟨rfl, rfl, rfl, rfl, rfl, rfl, rfl, rfl, rfl, rfl, rfl, rfl, rfl, rfl, rfl, rfl, rfl, rfl, rfl, rfl, rfl, rfl, rfl, rfl, rfl, rfl, rfl, rfl, rfl, rfl, rfl, rfl, rfl, rfl, rfl, rfl, rfl, rfl, rfl, rfl, rfl, rfl, rfl, rfl, rfl, rfl, rfl, rfl, rfl, rfl, rfl, rfl, rfl, rfl, rfl, rfl, rfl, rfl, rfl, rfl, rfl, rfl, rfl, rfl, rfl, rfl, rfl, rfl, rfl, rfl, trivial⟩ ?_
   refine WL.nil ?_
   refine N.seq ?_
   refine W.condF rfl ?_
   refine W.skip ?_
   refine N.blk ?_
   refine N.seq ?_
   refine W.region ?_
   refine WL.move rfl rfl rfl ?_
   refine WL.add (c := (k : Int) + 1) rfl rfl rfl rfl (rfl) (by omega) ?_
   refine WL.assign rfl rfl rfl ?_
   refine WL.nil ?_
   exact N.loop (k + 1) ⟨rfl, rfl, rfl, rfl, rfl, rfl, rfl, rfl, rfl, rfl, rfl, rfl, rfl, rfl, rfl, rfl, rfl, rfl, rfl, rfl, rfl, rfl, rfl, rfl, rfl, rfl, rfl, rfl, rfl, rfl, rfl, trivial⟩ ⟨hS, by omega⟩ (by first | omega | (simp only; omega))
  have hc15p : ¬ ((k : Int) < (m.funcs.length : Int)) := by simpa using hc15
  refine W.exit ?_
  refine X.seq ?_
  refine X.loop ?_
  refine X.blk ?_
  refine N.seq ?_
  refine W.seq ?_
  refine W.region ?_
  refine WL.move rfl rfl rfl ?_
  refine WL.assign rfl rfl rfl ?_
  refine WL.nil ?_
  refine N.seq ?_
  refine Fin.ret1 rfl (v := .bool true) rfl ?_
  exact ⟨rfl, hS.below⟩
 have hg13p : zw = 0 := by simpa using hg13
 refine WL.loadN (cs := [.slice adfQ Q.funcs.length capfQ, .slice adgQ Q.globs.length capgQ]) agg_46 rfl rfl rfl rfl (hS.cells 0 (m := 2) rfl rfl) ?_
 refine WL.callF (vs := [.agg #[.slice adfQ Q.funcs.length capfQ, .slice adgQ Q.globs.length capgQ]]) Try.func27 (by kernel_rfl) rfl rfl rfl (whole7_ret Q _ (ro := (roFrom ro w4 w6)) (fun b hb => (hS.snap b hb).1) (hF.keep hS.alike) hQo) ?_
 rintro v w19 ⟨hv, hbl⟩
 replace hS := hS.grow hbl
 rw [hQw (by omega)] at hv; subst hv
 refine WL.bin rfl rfl rfl rfl rfl ?_
 refine WL.set 23 (v' := .bool false) rfl rfl ?_
 refine WL.pick (v := .bool false) rfl rfl rfl rfl rfl rfl ?_
 refine WL.pick (v := .bool false) rfl rfl rfl rfl rfl rfl ?_
 refine WL.nil ?_
 refine N.seq ?_
 refine W.condF rfl ?_
 refine W.skip ?_
 refine N.seq ?_
 refine W.seq ?_
 refine W.seq ?_
 refine W.region ?_
 refine WL.fieldAddr fo_46_0 rfl rfl rfl ?_
 refine WL.load1 (v := .slice adfQ Q.funcs.length capfQ) one_43 rfl rfl rfl (hS.cell 0 rfl rfl) ?_
 refine WL.lenSlice Try.underlying43 rfl rfl rfl ?_
 refine WL.fieldAddr fo_46_0 rfl rfl rfl ?_
 refine WL.load1 (v := .slice adfM m.funcs.length capfM) one_43 rfl rfl rfl (hS.cell 1 rfl rfl) ?_
 refine WL.lenSlice Try.underlying43 rfl rfl rfl ?_
 refine WL.bin rfl rfl rfl rfl rfl ?_
 refine WL.set 32 (v' := .bool false) rfl (by rw [decide_eq_true (by omega)]; rfl) ?_
 refine WL.nil ?_
 refine N.seq ?_
 refine W.condF rfl ?_
 refine W.skip ?_
 refine N.seq ?_
 refine W.seq ?_
 refine W.seq ?_
 refine W.region ?_
 refine WL.assign rfl rfl rfl ?_
 refine WL.nil ?_
 refine N.seq ?_
 refine W.block ?_
 refine W.loop (α := Nat) (fun (k : Nat) => [(0, .agg #[.slice adfM m.funcs.length capfM, .slice adgM m.globs.length capgM]), (1, .pointer (some ⟨b1, 0, none⟩)), (3, .bool true), (4, .pointer (some ⟨b8, 0, none⟩)), (5, .int .i64 (k : Int)), (6, .bool true), (7, .agg #[.slice adfM m.funcs.length capfM, .slice adgM m.globs.length capgM]), (8, .int .i64 (check5 m)), (9, .bool (!decide (check5 m = 0))), (11, .agg #[.slice adfM m.funcs.length capfM, .slice adgM m.globs.length capgM]), (12, .agg #[.slice adfQ Q.funcs.length capfQ, .slice adgQ Q.globs.length capgQ]), (13, .agg #[.slice adfQ Q.funcs.length capfQ, .slice adgQ Q.globs.length capgQ]), (14, .int .i64 0), (15, .bool false), (16, .bool false), (17, .agg #[.slice adfM m.funcs.length capfM, .slice adgM m.globs.length capgM]), (18, .int .i64 zw), (19, .bool true), (20, .bool true), (21, .agg #[.slice adfQ Q.funcs.length capfQ, .slice adgQ Q.globs.length capgQ]), (22, .int .i64 0), (23, .bool false), (24, .bool false), (25, .bool false), (26, .pointer (some ⟨b8, 0, none⟩)), (27, .slice adfQ Q.funcs.length capfQ), (28, .int .i64 (Q.funcs.length : Int)), (29, .pointer (some ⟨b1, 0, none⟩)), (30, .slice adfM m.funcs.length capfM), (31, .int .i64 (m.funcs.length : Int)), (32, .bool false)]) (fun (k : Nat) u => St w w6 u (roFrom ro w4 w6) [(b8, .cells #[.slice adfQ Q.funcs.length capfQ, .slice adgQ Q.globs.length capgQ] 46 (0, 0)), (b1, .cells #[.slice adfM m.funcs.length capfM, .slice adgM m.globs.length capgM] 46 (0, 0))] [] ∧ k ≤ m.funcs.length) (fun (k : Nat) => m.funcs.length - k) 0 ⟨rfl, rfl, rfl, rfl, rfl, rfl, rfl, rfl, rfl, rfl, rfl, rfl, rfl, rfl, rfl, rfl, rfl, rfl, rfl, rfl, rfl, rfl, rfl, rfl, rfl, rfl, rfl, rfl, rfl, rfl, rfl, trivial⟩ ⟨hS, Nat.zero_le _⟩ ?_
 clear hS
 rintro k w20 ⟨hS, hk⟩
 refine W.seq ?_
 refine W.seq ?_
 refine W.region ?_
 refine WL.move rfl rfl rfl ?_
 refine WL.fieldAddr fo_46_0 rfl rfl rfl ?_
 refine WL.load1 (v := .slice adfM m.funcs.length capfM) one_43 rfl rfl rfl (hS.cell 1 rfl rfl) ?_
 refine WL.lenSlice Try.underlying43 rfl rfl rfl ?_
 refine WL.bin rfl rfl rfl rfl rfl ?_
 refine WL.nil ?_
 refine N.seq ?_
 refine W.cond rfl (fun hc21 => ?_) (fun hc21 => ?_)
 ·
  have hc21p : (k : Int) < (m.funcs.length : Int) := by simpa using hc21
  refine W.skip ?_
  refine N.seq ?_
  refine W.seq ?_
  refine W.block ?_
  refine W.seq ?_
  have hj22 : k < Q.funcs.length := by omega
  obtain ⟨x22, hx22⟩ : ∃ zz, Q.funcs[k]? = some zz := ⟨_, List.getElem?_eq_getElem hj22⟩
  obtain ⟨b22, o22, cs22, hE22, hr22, hl22, hc22, hQ22⟩ := hfsQd k _ hx22
  obtain ⟨sb22, rfl, hbl22, hnm22, hbd22, hpr22⟩ := id hQ22
  obtain ⟨adb22, capb22, rfl, hbk22a, hbk22b, hbk22c, hbk22d⟩ := id hbl22
  have hbk22m : x22.blocks.length ≤ 9223372036854775807 := by have h1 := hbk22a; have h2 := hbk22b; unfold maxLen at h2; omega
  have hj23 : k < m.funcs.length := by omega
  obtain ⟨x23, hx23⟩ : ∃ zz, m.funcs[k]? = some zz := ⟨_, List.getElem?_eq_getElem hj23⟩
  obtain ⟨b23, o23, cs23, hE23, hr23, hl23, hc23, hQ23⟩ := hfsMd k _ hx23
  obtain ⟨sb23, rfl, hbl23, hnm23, hbd23, hpr23⟩ := id hQ23
  obtain ⟨adb23, capb23, rfl, hbk23a, hbk23b, hbk23c, hbk23d⟩ := id hbl23
  have hbk23m : x23.blocks.length ≤ 9223372036854775807 := by have h1 := hbk23a; have h2 := hbk23b; unfold maxLen at h2; omega
  refine W.drawL (by kernel_rfl) 34 [.q (.pointer (some ⟨b8, 0, none⟩)), .q (.slice adfQ Q.funcs.length capfQ), .q (.int .i64 (k : Int)), .q (.pointer (some ⟨b22, o22 + k * 4, none⟩)), .q (.pointer (some ⟨b22, o22 + k * 4 + 3, none⟩)), .q (.slice adb22 x22.blocks.length capb22), .q (.int .i64 (x22.blocks.length : Int)), .q (.pointer (some ⟨b1, 0, none⟩)), .q (.slice adfM m.funcs.length capfM), .q (.int .i64 (k : Int)), .q (.pointer (some ⟨b23, o23 + k * 4, none⟩)), .q (.pointer (some ⟨b23, o23 + k * 4 + 3, none⟩)), .q (.slice adb23 x23.blocks.length capb23), .q (.int .i64 (x23.blocks.length : Int)), .q (.bool false), .q (.bool false), .q (.pointer (some ⟨b8, 0, none⟩)), .q (.slice adfQ Q.funcs.length capfQ), .q (.int .i64 (k : Int)), .q (.pointer (some ⟨b22, o22 + k * 4, none⟩)), .q (.pointer (some ⟨b22, o22 + k * 4 + 3, none⟩)), .q (.slice adb22 x22.blocks.length capb22), .q (.int .i64 (x22.blocks.length : Int)), .q (.bool (decide ((x22.blocks.length : Int) = 0))), .q (.pointer (some ⟨b1, 0, none⟩)), .q (.slice adfM m.funcs.length capfM), .q (.int .i64 (k : Int)), .q (.pointer (some ⟨b23, o23 + k * 4, none⟩)), .q (.pointer (some ⟨b23, o23 + k * 4 + 3, none⟩)), .q (.slice adb23 x23.blocks.length capb23), .q (.int .i64 (x23.blocks.length : Int)), .q (.bool (decide ((x23.blocks.length : Int) = 0))), .q (.bool false), .q (.bool false)] (by kernel_rfl) rfl [(0, .agg #[.slice adfM m.funcs.length capfM, .slice adgM m.globs.length capgM]), (1, .pointer (some ⟨b1, 0, none⟩)), (3, .bool true), (4, .pointer (some ⟨b8, 0, none⟩)), (5, .int .i64 (k : Int)), (6, .bool true), (7, .agg #[.slice adfM m.funcs.length capfM, .slice adgM m.globs.length capgM]), (8, .int .i64 (check5 m)), (9, .bool (!decide (check5 m = 0))), (11, .agg #[.slice adfM m.funcs.length capfM, .slice adgM m.globs.length capgM]), (12, .agg #[.slice adfQ Q.funcs.length capfQ, .slice adgQ Q.globs.length capgQ]), (13, .agg #[.slice adfQ Q.funcs.length capfQ, .slice adgQ Q.globs.length capgQ]), (14, .int .i64 0), (15, .bool false), (16, .bool false), (17, .agg #[.slice adfM m.funcs.length capfM, .slice adgM m.globs.length capgM]), (18, .int .i64 zw), (19, .bool true), (20, .bool true), (21, .agg #[.slice adfQ Q.funcs.length capfQ, .slice adgQ Q.globs.length capgQ]), (22, .int .i64 0), (23, .bool false), (24, .bool false), (25, .bool false), (26, .pointer (some ⟨b8, 0, none⟩)), (27, .slice adfQ Q.funcs.length capfQ), (28, .int .i64 (Q.funcs.length : Int)), (29, .pointer (some ⟨b1, 0, none⟩)), (30, .slice adfM m.funcs.length capfM), (31, .int .i64 (m.funcs.length : Int)), (32, .bool false), (33, .int .i64 (k : Int)), (34, .pointer (some ⟨b1, 0, none⟩)), (35, .slice adfM m.funcs.length capfM), (36, .int .i64 (m.funcs.length : Int)), (37, .bool (decide ((k : Int) < (m.funcs.length : Int))))] ⟨rfl, rfl, rfl, rfl, rfl, rfl, rfl, rfl, rfl, rfl, rfl, rfl, rfl, rfl, rfl, rfl, rfl, rfl, rfl, rfl, rfl, rfl, rfl, rfl, rfl, rfl, rfl, rfl, rfl, rfl, rfl, rfl, rfl, rfl, rfl, rfl, trivial⟩ rfl hS ?_ ?_
  ·
   refine And.intro (fun β w hS => ?_) ?_
   ·
    refine WL.sub (σ' := [(4, .pointer (some ⟨b8, 0, none⟩))]) ⟨rfl, trivial⟩ ?_
    refine WL.fieldAddr fo_46_0 rfl rfl rfl ?_
    exact WL.nil (N.cut () ⟨rfl, trivial⟩ (Below.refl _ _))
   refine And.intro (fun β w hS => ?_) ?_
   ·
    refine WL.sub (σ' := [(40, .pointer (some ⟨b8, 0, none⟩))]) ⟨rfl, trivial⟩ ?_
    refine WL.load1 (v := .slice adfQ Q.funcs.length capfQ) one_43 rfl rfl rfl (hS.cell 0 rfl rfl) ?_
    exact WL.nil (N.cut () ⟨rfl, trivial⟩ (Below.refl _ _))
   refine And.intro (fun β w hS => ?_) ?_
   ·
    refine WL.sub (σ' := [(5, .int .i64 (k : Int))]) ⟨rfl, trivial⟩ ?_
    refine WL.move rfl rfl rfl ?_
    exact WL.nil (N.cut () ⟨rfl, trivial⟩ (Below.refl _ _))
   refine And.intro (fun β w hS => ?_) ?_
   ·
    refine WL.sub (σ' := [(41, .slice adfQ Q.funcs.length capfQ), (42, .int .i64 (k : Int))]) ⟨rfl, rfl, trivial⟩ ?_
    refine WL.indexAddrE (j := k) Try.underlying43 isz_24 rfl rfl rfl rfl hj22 hE22 ?_
    exact WL.nil (N.cut () ⟨rfl, trivial⟩ (Below.refl _ _))
   refine And.intro (fun β w hS => ?_) ?_
   ·
    refine WL.sub (σ' := [(43, .pointer (some ⟨b22, o22 + k * 4, none⟩))]) ⟨rfl, trivial⟩ ?_
    refine WL.fieldAddr fo_24_3 rfl rfl rfl ?_
    exact WL.nil (N.cut () ⟨rfl, trivial⟩ (Below.refl _ _))
   refine And.intro (fun β w hS => ?_) ?_
   ·
    refine WL.sub (σ' := [(44, .pointer (some ⟨b22, o22 + k * 4 + 3, none⟩))]) ⟨rfl, trivial⟩ ?_
    refine WL.load1 (v := .slice adb22 x22.blocks.length capb22) one_22 rfl rfl rfl (hS.roCells hr22 hc22 3 _ rfl) ?_
    exact WL.nil (N.cut () ⟨rfl, trivial⟩ (Below.refl _ _))
   refine And.intro (fun β w hS => ?_) ?_
   ·
    refine WL.sub (σ' := [(45, .slice adb22 x22.blocks.length capb22)]) ⟨rfl, trivial⟩ ?_
    refine WL.lenSlice Try.underlying22 rfl rfl rfl ?_
    exact WL.nil (N.cut () ⟨rfl, trivial⟩ (Below.refl _ _))
   refine And.intro (fun β w hS => ?_) ?_
   ·
    refine WL.sub (σ' := [(1, .pointer (some ⟨b1, 0, none⟩))]) ⟨rfl, trivial⟩ ?_
    refine WL.fieldAddr fo_46_0 rfl rfl rfl ?_
    exact WL.nil (N.cut () ⟨rfl, trivial⟩ (Below.refl _ _))
   refine And.intro (fun β w hS => ?_) ?_
   ·
    refine WL.sub (σ' := [(47, .pointer (some ⟨b1, 0, none⟩))]) ⟨rfl, trivial⟩ ?_
    refine WL.load1 (v := .slice adfM m.funcs.length capfM) one_43 rfl rfl rfl (hS.cell 1 rfl rfl) ?_
    exact WL.nil (N.cut () ⟨rfl, trivial⟩ (Below.refl _ _))
   refine And.intro (fun β w hS => ?_) ?_
   ·
    refine WL.sub (σ' := [(5, .int .i64 (k : Int))]) ⟨rfl, trivial⟩ ?_
    refine WL.move rfl rfl rfl ?_
    exact WL.nil (N.cut () ⟨rfl, trivial⟩ (Below.refl _ _))
   refine And.intro (fun β w hS => ?_) ?_
   ·
    refine WL.sub (σ' := [(48, .slice adfM m.funcs.length capfM), (49, .int .i64 (k : Int))]) ⟨rfl, rfl, trivial⟩ ?_
    refine WL.indexAddrE (j := k) Try.underlying43 isz_24 rfl rfl rfl rfl hj23 hE23 ?_
    exact WL.nil (N.cut () ⟨rfl, trivial⟩ (Below.refl _ _))
   refine And.intro (fun β w hS => ?_) ?_
   ·
    refine WL.sub (σ' := [(50, .pointer (some ⟨b23, o23 + k * 4, none⟩))]) ⟨rfl, trivial⟩ ?_
    refine WL.fieldAddr fo_24_3 rfl rfl rfl ?_
    exact WL.nil (N.cut () ⟨rfl, trivial⟩ (Below.refl _ _))
   refine And.intro (fun β w hS => ?_) ?_
   ·
    refine WL.sub (σ' := [(51, .pointer (some ⟨b23, o23 + k * 4 + 3, none⟩))]) ⟨rfl, trivial⟩ ?_
    refine WL.load1 (v := .slice adb23 x23.blocks.length capb23) one_22 rfl rfl rfl (hS.roCells hr23 hc23 3 _ rfl) ?_
    exact WL.nil (N.cut () ⟨rfl, trivial⟩ (Below.refl _ _))
   refine And.intro (fun β w hS => ?_) ?_
   ·
    refine WL.sub (σ' := [(52, .slice adb23 x23.blocks.length capb23)]) ⟨rfl, trivial⟩ ?_
    refine WL.lenSlice Try.underlying22 rfl rfl rfl ?_
    exact WL.nil (N.cut () ⟨rfl, trivial⟩ (Below.refl _ _))
   refine And.intro (fun β w hS => ?_) ?_
   ·
    refine WL.sub (σ' := [(46, .int .i64 (x22.blocks.length : Int)), (53, .int .i64 (x23.blocks.length : Int))]) ⟨rfl, rfl, trivial⟩ ?_
    refine WL.bin rfl rfl rfl rfl rfl ?_
    refine WL.set 54 (v' := .bool false) rfl (congrArg Value.bool (show (decide ((x23.blocks.length : Int) < (x22.blocks.length : Int))) = false from decide_eq_false (by have := hQb _ _ _ hx22 hx23; omega))) ?_
    exact WL.nil (N.cut () ⟨rfl, trivial⟩ (Below.refl _ _))
   refine And.intro (fun β w hS => ?_) ?_
   ·
    refine WL.sub (σ' := [(54, .bool false)]) ⟨rfl, trivial⟩ ?_
    refine WL.move rfl rfl rfl ?_
    exact WL.nil (N.cut () ⟨rfl, trivial⟩ (Below.refl _ _))
   refine And.intro (fun β w hS => ?_) ?_
   ·
    refine WL.sub (σ' := [(4, .pointer (some ⟨b8, 0, none⟩)), (55, .bool false)]) ⟨rfl, rfl, trivial⟩ ?_
    refine WL.fieldAddr fo_46_0 rfl rfl rfl ?_
    exact WL.nil (N.cut () ⟨rfl, trivial⟩ (Below.refl _ _))
   refine And.intro (fun β w hS => ?_) ?_
   ·
    refine WL.sub (σ' := [(55, .bool false), (56, .pointer (some ⟨b8, 0, none⟩))]) ⟨rfl, rfl, trivial⟩ ?_
    refine WL.load1 (v := .slice adfQ Q.funcs.length capfQ) one_43 rfl rfl rfl (hS.cell 0 rfl rfl) ?_
    exact WL.nil (N.cut () ⟨rfl, trivial⟩ (Below.refl _ _))
   refine And.intro (fun β w hS => ?_) ?_
   ·
    refine WL.sub (σ' := [(5, .int .i64 (k : Int)), (55, .bool false)]) ⟨rfl, rfl, trivial⟩ ?_
    refine WL.move rfl rfl rfl ?_
    exact WL.nil (N.cut () ⟨rfl, trivial⟩ (Below.refl _ _))
   refine And.intro (fun β w hS => ?_) ?_
   ·
    refine WL.sub (σ' := [(55, .bool false), (57, .slice adfQ Q.funcs.length capfQ), (58, .int .i64 (k : Int))]) ⟨rfl, rfl, rfl, trivial⟩ ?_
    refine WL.indexAddrE (j := k) Try.underlying43 isz_24 rfl rfl rfl rfl hj22 hE22 ?_
    exact WL.nil (N.cut () ⟨rfl, trivial⟩ (Below.refl _ _))
   refine And.intro (fun β w hS => ?_) ?_
   ·
    refine WL.sub (σ' := [(55, .bool false), (59, .pointer (some ⟨b22, o22 + k * 4, none⟩))]) ⟨rfl, rfl, trivial⟩ ?_
    refine WL.fieldAddr fo_24_3 rfl rfl rfl ?_
    exact WL.nil (N.cut () ⟨rfl, trivial⟩ (Below.refl _ _))
   refine And.intro (fun β w hS => ?_) ?_
   ·
    refine WL.sub (σ' := [(55, .bool false), (60, .pointer (some ⟨b22, o22 + k * 4 + 3, none⟩))]) ⟨rfl, rfl, trivial⟩ ?_
    refine WL.load1 (v := .slice adb22 x22.blocks.length capb22) one_22 rfl rfl rfl (hS.roCells hr22 hc22 3 _ rfl) ?_
    exact WL.nil (N.cut () ⟨rfl, trivial⟩ (Below.refl _ _))
   refine And.intro (fun β w hS => ?_) ?_
   ·
    refine WL.sub (σ' := [(55, .bool false), (61, .slice adb22 x22.blocks.length capb22)]) ⟨rfl, rfl, trivial⟩ ?_
    refine WL.lenSlice Try.underlying22 rfl rfl rfl ?_
    exact WL.nil (N.cut () ⟨rfl, trivial⟩ (Below.refl _ _))
   refine And.intro (fun β w hS => ?_) ?_
   ·
    refine WL.sub (σ' := [(55, .bool false), (62, .int .i64 (x22.blocks.length : Int))]) ⟨rfl, rfl, trivial⟩ ?_
    refine WL.bin rfl rfl rfl rfl rfl ?_
    exact WL.nil (N.cut () ⟨rfl, trivial⟩ (Below.refl _ _))
   refine And.intro (fun β w hS => ?_) ?_
   ·
    refine WL.sub (σ' := [(1, .pointer (some ⟨b1, 0, none⟩)), (55, .bool false)]) ⟨rfl, rfl, trivial⟩ ?_
    refine WL.fieldAddr fo_46_0 rfl rfl rfl ?_
    exact WL.nil (N.cut () ⟨rfl, trivial⟩ (Below.refl _ _))
   refine And.intro (fun β w hS => ?_) ?_
   ·
    refine WL.sub (σ' := [(55, .bool false), (64, .pointer (some ⟨b1, 0, none⟩))]) ⟨rfl, rfl, trivial⟩ ?_
    refine WL.load1 (v := .slice adfM m.funcs.length capfM) one_43 rfl rfl rfl (hS.cell 1 rfl rfl) ?_
    exact WL.nil (N.cut () ⟨rfl, trivial⟩ (Below.refl _ _))
   refine And.intro (fun β w hS => ?_) ?_
   ·
    refine WL.sub (σ' := [(5, .int .i64 (k : Int)), (55, .bool false)]) ⟨rfl, rfl, trivial⟩ ?_
    refine WL.move rfl rfl rfl ?_
    exact WL.nil (N.cut () ⟨rfl, trivial⟩ (Below.refl _ _))
   refine And.intro (fun β w hS => ?_) ?_
   ·
    refine WL.sub (σ' := [(55, .bool false), (65, .slice adfM m.funcs.length capfM), (66, .int .i64 (k : Int))]) ⟨rfl, rfl, rfl, trivial⟩ ?_
    refine WL.indexAddrE (j := k) Try.underlying43 isz_24 rfl rfl rfl rfl hj23 hE23 ?_
    exact WL.nil (N.cut () ⟨rfl, trivial⟩ (Below.refl _ _))
   refine And.intro (fun β w hS => ?_) ?_
   ·
    refine WL.sub (σ' := [(55, .bool false), (67, .pointer (some ⟨b23, o23 + k * 4, none⟩))]) ⟨rfl, rfl, trivial⟩ ?_
    refine WL.fieldAddr fo_24_3 rfl rfl rfl ?_
    exact WL.nil (N.cut () ⟨rfl, trivial⟩ (Below.refl _ _))
   refine And.intro (fun β w hS => ?_) ?_
   ·
    refine WL.sub (σ' := [(55, .bool false), (68, .pointer (some ⟨b23, o23 + k * 4 + 3, none⟩))]) ⟨rfl, rfl, trivial⟩ ?_
    refine WL.load1 (v := .slice adb23 x23.blocks.length capb23) one_22 rfl rfl rfl (hS.roCells hr23 hc23 3 _ rfl) ?_
    exact WL.nil (N.cut () ⟨rfl, trivial⟩ (Below.refl _ _))
   refine And.intro (fun β w hS => ?_) ?_
   ·
    refine WL.sub (σ' := [(55, .bool false), (69, .slice adb23 x23.blocks.length capb23)]) ⟨rfl, rfl, trivial⟩ ?_
    refine WL.lenSlice Try.underlying22 rfl rfl rfl ?_
    exact WL.nil (N.cut () ⟨rfl, trivial⟩ (Below.refl _ _))
   refine And.intro (fun β w hS => ?_) ?_
   ·
    refine WL.sub (σ' := [(55, .bool false), (70, .int .i64 (x23.blocks.length : Int))]) ⟨rfl, rfl, trivial⟩ ?_
    refine WL.bin rfl rfl rfl rfl rfl ?_
    exact WL.nil (N.cut () ⟨rfl, trivial⟩ (Below.refl _ _))
   refine And.intro (fun β w hS => ?_) ?_
   ·
    refine WL.sub (σ' := [(55, .bool false), (63, .bool (decide ((x22.blocks.length : Int) = 0))), (71, .bool (decide ((x23.blocks.length : Int) = 0)))]) ⟨rfl, rfl, rfl, trivial⟩ ?_
    refine WL.neBool Try.underlying4 rfl rfl rfl rfl ?_
    refine WL.set 72 (v' := .bool false) rfl (by have h1 := (hQb _ _ _ hx22 hx23).2; exact congrArg Value.bool (by rw [bne_eq_false_iff_eq, Bool.eq_iff_iff, decide_eq_true_eq, decide_eq_true_eq]; omega)) ?_
    exact WL.nil (N.cut () ⟨rfl, trivial⟩ (Below.refl _ _))
   refine And.intro (fun β w hS => ?_) ?_
   ·
    refine WL.sub (σ' := [(55, .bool false), (72, .bool false)]) ⟨rfl, rfl, trivial⟩ ?_
    refine WL.pick (v := .bool false) rfl rfl rfl rfl rfl rfl ?_
    exact WL.nil (N.cut () ⟨rfl, trivial⟩ (Below.refl _ _))
   trivial
  clear hS; intro w24 β hS
  refine WL.sub (σ' := [(0, .agg #[.slice adfM m.funcs.length capfM, .slice adgM m.globs.length capgM]), (1, .pointer (some ⟨b1, 0, none⟩)), (3, .bool true), (4, .pointer (some ⟨b8, 0, none⟩)), (5, .int .i64 (k : Int)), (6, .bool true), (7, .agg #[.slice adfM m.funcs.length capfM, .slice adgM m.globs.length capgM]), (8, .int .i64 (check5 m)), (9, .bool (!decide (check5 m = 0))), (11, .agg #[.slice adfM m.funcs.length capfM, .slice adgM m.globs.length capgM]), (12, .agg #[.slice adfQ Q.funcs.length capfQ, .slice adgQ Q.globs.length capgQ]), (13, .agg #[.slice adfQ Q.funcs.length capfQ, .slice adgQ Q.globs.length capgQ]), (14, .int .i64 0), (15, .bool false), (16, .bool false), (17, .agg #[.slice adfM m.funcs.length capfM, .slice adgM m.globs.length capgM]), (18, .int .i64 zw), (19, .bool true), (20, .bool true), (21, .agg #[.slice adfQ Q.funcs.length capfQ, .slice adgQ Q.globs.length capgQ]), (22, .int .i64 0), (23, .bool false), (24, .bool false), (25, .bool false), (26, .pointer (some ⟨b8, 0, none⟩)), (27, .slice adfQ Q.funcs.length capfQ), (28, .int .i64 (Q.funcs.length : Int)), (29, .pointer (some ⟨b1, 0, none⟩)), (30, .slice adfM m.funcs.length capfM), (31, .int .i64 (m.funcs.length : Int)), (32, .bool false), (33, .int .i64 (k : Int)), (34, .pointer (some ⟨b1, 0, none⟩)), (35, .slice adfM m.funcs.length capfM), (36, .int .i64 (m.funcs.length : Int)), (37, .bool (decide ((k : Int) < (m.funcs.length : Int)))), (40, .pointer (some ⟨b8, 0, none⟩)), (41, .slice adfQ Q.funcs.length capfQ), (42, .int .i64 (k : Int)), (43, .pointer (some ⟨b22, o22 + k * 4, none⟩)), (44, .pointer (some ⟨b22, o22 + k * 4 + 3, none⟩)), (45, .slice adb22 x22.blocks.length capb22), (46, .int .i64 (x22.blocks.length : Int)), (47, .pointer (some ⟨b1, 0, none⟩)), (48, .slice adfM m.funcs.length capfM), (49, .int .i64 (k : Int)), (50, .pointer (some ⟨b23, o23 + k * 4, none⟩)), (51, .pointer (some ⟨b23, o23 + k * 4 + 3, none⟩)), (52, .slice adb23 x23.blocks.length capb23), (53, .int .i64 (x23.blocks.length : Int)), (54, .bool false), (55, .bool false), (56, .pointer (some ⟨b8, 0, none⟩)), (57, .slice adfQ Q.funcs.length capfQ), (58, .int .i64 (k : Int)), (59, .pointer (some ⟨b22, o22 + k * 4, none⟩)), (60, .pointer (some ⟨b22, o22 + k * 4 + 3, none⟩)), (61, .slice adb22 x22.blocks.length capb22), (62, .int .i64 (x22.blocks.length : Int)), (63, .bool (decide ((x22.blocks.length : Int) = 0))), (64, .pointer (some ⟨b1, 0, none⟩)), (65, .slice adfM m.funcs.length capfM), (66, .int .i64 (k : Int)), (67, .pointer (some ⟨b23, o23 + k * 4, none⟩)), (68, .pointer (some ⟨b23, o23 + k * 4 + 3, none⟩)), (69, .slice adb23 x23.blocks.length capb23), (70, .int .i64 (x23.blocks.length : Int)), (71, .bool (decide ((x23.blocks.length : Int) = 0))), (72, .bool false), (73, .bool false)]) ⟨rfl, rfl, rfl, rfl, rfl, rfl, rfl, rfl, rfl, rfl, rfl, rfl, rfl, rfl, rfl, rfl, rfl, rfl, rfl, rfl, rfl, rfl, rfl, rfl, rfl, rfl, rfl, rfl, rfl, rfl, rfl, rfl, rfl, rfl, rfl, rfl, rfl, rfl, rfl, rfl, rfl, rfl, rfl, rfl, rfl, rfl, rfl, rfl, rfl, rfl, rfl, rfl, rfl, rfl, rfl, rfl, rfl, rfl, rfl, rfl, rfl, rfl, rfl, rfl, rfl, rfl, rfl, rfl, rfl, rfl, trivial⟩ ?_
  refine WL.nil ?_
  refine N.seq ?_
  refine W.condF rfl ?_
  refine W.skip ?_
  refine N.blk ?_
  refine N.seq ?_
  refine W.region ?_
  refine WL.move rfl rfl rfl ?_
  refine WL.add (c := (k : Int) + 1) rfl rfl rfl rfl (rfl) (by omega) ?_
  refine WL.assign rfl rfl rfl ?_
  refine WL.nil ?_
  exact N.loop (k + 1) ⟨rfl, rfl, rfl, rfl, rfl, rfl, rfl, rfl, rfl, rfl, rfl, rfl, rfl, rfl, rfl, rfl, rfl, rfl, rfl, rfl, rfl, rfl, rfl, rfl, rfl, rfl, rfl, rfl, rfl, rfl, rfl, trivial⟩ ⟨hS, by omega⟩ (by first | omega | (simp only; omega))
 have hc21p : ¬ ((k : Int) < (m.funcs.length : Int)) := by simpa using hc21
 refine W.exit ?_
 refine X.seq ?_
 refine X.loop ?_
 refine X.blk ?_
 refine N.seq ?_
 refine W.seq ?_
 refine W.region ?_
 refine WL.move rfl rfl rfl ?_
 refine WL.assign rfl rfl rfl ?_
 refine WL.nil ?_
 refine N.seq ?_
 refine Fin.ret1 rfl (v := .bool true) rfl ?_
 exact ⟨rfl, hS.below⟩

end Go.Proofs.Ytdlcmhkfglckfaa
