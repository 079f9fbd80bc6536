/-
  Contracts of layer 17 (gen). No condition beyond those that each theorem states.
-/
import Derived.Test.YtcmmhfknkldmcaaM4
namespace Go.Proofs.Ytcmmhfknkldmcaa
open Go.RowKit

set_option maxRecDepth 10000 in
set_option maxHeartbeats 4000000 in
theorem genLitsN_ret (r : Int) (k0 : Nat) (f : DFunc) (cf : List Value) (hri : inI r) (hk0 : k0 < 18446744073709551616) {w : World} {ro : Nat → Prop} (hro : ∀ b, ro b → b < w.heap.size) (hx : FuncC ro w cf f) (hok : okFunc f) : Ret Try.prog 4 #[.int .i64 r, .int .u64 (k0 : Int), .agg cf.toArray] w fun v w' => v = .bool true ∧ Below w.heap.size w w' := by
 obtain ⟨sbF, rfl, hblF, hnmF, hbdF, hprF⟩ := id hx
 obtain ⟨adbF, capbF, rfl, hbkFa, hbkFb, hbkFc, hbkFd⟩ := id hblF
 have hbkFm : f.blocks.length ≤ 9223372036854775807 := by have h1 := hbkFa; have h2 := hbkFb; unfold maxLen at h2; omega
 refine Ret.enter (P := Try.prog) (n := 43) (args := [.int .i64 r, .int .u64 (k0 : Int), .agg #[.string f.name, .int .i64 f.bind, .int .i64 f.params, .slice adbF f.blocks.length capbF]]) (σ := [(0, .int .i64 r), (1, .int .u64 (k0 : Int)), (2, .agg #[.string f.name, .int .i64 f.bind, .int .i64 f.params, .slice adbF f.blocks.length capbF])]) Try.func4 rfl rfl rfl rfl ?_
 have hS := St.start (ro := ro) hro
 have hsub : ∀ b, ro b → ro b ∨ w.heap.size ≤ b := fun _ h => .inl h
 have halT : Alike ro w ro w := Alike.refl
 refine W.seq ?_
 refine W.region ?_
 refine WL.box (v := .agg #[.string f.name, .int .i64 f.bind, .int .i64 f.params, .slice adbF f.blocks.length capbF]) (cs := [.string f.name, .int .i64 f.bind, .int .i64 f.params, .slice adbF f.blocks.length capbF]) rfl rfl rfl rfl hS ?_
 clear hS; intro w2 b1 hb_b1 hS
 refine WL.assign rfl rfl rfl ?_
 refine WL.nil ?_
 refine N.seq ?_
 refine W.seq ?_
 refine W.region ?_
 refine WL.callF (vs := []) Try.func5 (by kernel_rfl) rfl rfl rfl (shown17_ret (ro := ro) (fun b hb => (hS.snap b hb).1)) ?_
 rintro v w3 ⟨rfl, hbl⟩
 replace hS := hS.grow hbl
 refine WL.assign rfl rfl rfl ?_
 refine WL.nil ?_
 refine N.seq ?_
 refine W.seq ?_
 refine W.region ?_
 refine WL.loadN (cs := [.string f.name, .int .i64 f.bind, .int .i64 f.params, .slice adbF f.blocks.length capbF]) agg_39 rfl rfl rfl rfl (hS.cells 0 (m := 4) rfl rfl) ?_
 refine WL.callF (vs := [.agg #[.string f.name, .int .i64 f.bind, .int .i64 f.params, .slice adbF f.blocks.length capbF]]) Try.func11 (by kernel_rfl) rfl rfl rfl (func5_ret f _ (ro := ro) (fun b hb => (hS.snap b hb).1) (hx.keep hS.alike) hok) ?_
 rintro v w4 ⟨rfl, hbl⟩
 replace hS := hS.grow hbl
 refine WL.assign rfl rfl rfl ?_
 refine WL.nil ?_
 refine N.seq ?_
 refine W.seq ?_
 refine W.region ?_
 refine WL.move rfl rfl rfl ?_
 refine WL.bin rfl rfl rfl rfl rfl ?_
 refine WL.move rfl rfl rfl ?_
 rcases (Bool.eq_false_or_eq_true (decide (r < 0))).symm with hg5 | hg5
 ·
  refine WL.set 14 (v' := .bool false) rfl (by rw [hg5]) ?_
  refine WL.set 15 (v' := .bool false) rfl (by rw [hg5]) ?_
  have hg5p : ¬ (r < 0) := by simpa using hg5
  refine WL.move rfl rfl rfl ?_
  refine WL.bin rfl rfl rfl rfl rfl ?_
  refine WL.pick (v := .bool (decide (31 < r))) rfl rfl rfl rfl rfl rfl ?_
  refine WL.move rfl rfl rfl ?_
  rcases (Bool.eq_false_or_eq_true (decide (31 < r))).symm with hg6 | hg6
  ·
   refine WL.set 17 (v' := .bool false) rfl (by rw [hg6]) ?_
   refine WL.set 18 (v' := .bool false) rfl (by rw [hg6]) ?_
   refine WL.set 19 (v' := .bool false) rfl (by rw [hg6]) ?_
   have hg6p : ¬ (31 < r) := by simpa using hg6
   refine WL.move rfl rfl rfl ?_
   refine WL.move rfl rfl rfl ?_
   refine WL.callF (vs := [.int .i64 r, .int .u64 (k0 : Int)]) Try.func6 (by kernel_rfl) rfl rfl rfl (lit_ret r k0 hri hk0 (ro := ro) (fun b hb => (hS.snap b hb).1)) ?_
   rintro vl w7 ⟨hlv, hbl⟩
   have hal8 := hS.alikeTo hbl (ro' := (roFrom ro w4 w7)) (fun b hb => .inl hb)
   replace hsub : ∀ b, (roFrom ro w4 w7) b → ro b ∨ w.heap.size ≤ b := fun b hb => hb.elim (hsub b) (fun h => .inr (Nat.le_trans hS.below.size h.1))
   replace halT := halT.trans hal8
   replace hx := hx.keep hal8
   replace hbkFd : Elems (roFrom ro w4 w7) w7 8 (BlockC (roFrom ro w4 w7) w7) adbF f.blocks := hbkFd.keep hal8 (fun _ _ h => h.keep hal8)
   replace hblF : SlV (roFrom ro w4 w7) w7 8 (BlockC (roFrom ro w4 w7) w7) (.slice adbF f.blocks.length capbF) f.blocks := SlV.keep hblF hal8 (fun _ _ h => h.keep hal8)
   replace hS := hS.readNew hbl
   replace hlv := SlV.keep hlv (ro' := (roFrom ro w4 w7)) (w' := w7) (Q' := OpC) (fun x hx => ⟨.inr hx, rfl⟩) (fun _ _ h => h)
   obtain ⟨adl, capadl, rfl, hlva, hlvb, hlvc, hlvd⟩ := id hlv
   have hlvm : (lit r k0).length ≤ 9223372036854775807 := by have h1 := hlva; have h2 := hlvb; unfold maxLen at h2; omega
   refine WL.move rfl rfl rfl ?_
   refine WL.move rfl rfl rfl ?_
   refine WL.callF (vs := [.int .i64 r, .int .u64 (k0 : Int)]) Try.func13 (by kernel_rfl) rfl rfl rfl (rlit_ret r k0 hri hk0 (ro := (roFrom ro w4 w7)) (fun b hb => (hS.snap b hb).1)) ?_
   rintro vr w9 ⟨cr, how, hcr, hkr, hbl⟩
   have hal10 := hS.alikeTo hbl (ro' := (roFrom (roFrom ro w4 w7) w7 w9)) (fun b hb => .inl hb)
   replace hsub : ∀ b, (roFrom (roFrom ro w4 w7) w7 w9) b → ro b ∨ w.heap.size ≤ b := fun b hb => hb.elim (hsub b) (fun h => .inr (Nat.le_trans hS.below.size h.1))
   replace halT := halT.trans hal10
   replace hx := hx.keep hal10
   replace hbkFd : Elems (roFrom (roFrom ro w4 w7) w7 w9) w9 8 (BlockC (roFrom (roFrom ro w4 w7) w7 w9) w9) adbF f.blocks := hbkFd.keep hal10 (fun _ _ h => h.keep hal10)
   replace hblF : SlV (roFrom (roFrom ro w4 w7) w7 w9) w9 8 (BlockC (roFrom (roFrom ro w4 w7) w7 w9) w9) (.slice adbF f.blocks.length capbF) f.blocks := SlV.keep hblF hal10 (fun _ _ h => h.keep hal10)
   replace hlvd : Elems (roFrom (roFrom ro w4 w7) w7 w9) w9 5 OpC adl (lit r k0) := hlvd.keep hal10 (fun _ _ h => h)
   replace hlv : SlV (roFrom (roFrom ro w4 w7) w7 w9) w9 5 OpC (.slice adl ((lit r k0).length) capadl) (lit r k0) := SlV.keep hlv hal10 (fun _ _ h => h)
   replace hS := hS.readNew hbl
   have hrv : SlV (roFrom (roFrom ro w4 w7) w7 w9) w9 5 OpC vr (lit r k0) := row_slv how hcr rfl (fun b hb => .inr (hkr b hb))
   obtain ⟨adr, capr, rfl, hrva, hrvb, hrvc, hrvd⟩ := id hrv
   have hrvm : (lit r k0).length ≤ 9223372036854775807 := by have h1 := hrva; have h2 := hrvb; unfold maxLen at h2; omega
   refine WL.callF (vs := [.slice adl ((lit r k0).length) capadl, .slice adr ((lit r k0).length) capr]) Try.func12 (by kernel_rfl) rfl rfl rfl ((by have h := same01_ret (lit r k0) (lit r k0) _ _ (ro := (roFrom (roFrom ro w4 w7) w7 w9)) (w := w9) (fun b hb => (hS.snap b hb).1) (SlV.keep hlv hS.alike (fun _ _ q => q)) (SlV.keep hrv hS.alike (fun _ _ q => q)); rw [show decide (lit r k0 = lit r k0) = true from decide_eq_true rfl] at h; exact h)) ?_
   rintro v w11 ⟨rfl, hbl⟩
   replace hS := hS.grow hbl
   refine WL.pick (v := .bool true) rfl rfl rfl rfl rfl rfl ?_
   refine WL.assign rfl rfl rfl ?_
   refine WL.nil ?_
   refine N.seq ?_
   refine W.seq ?_
   rcases (Bool.eq_false_or_eq_true (!(func5 f))).symm with hg12 | hg12
   ·
    refine W.drawL (by kernel_rfl) 15 ((.q (.bool true)) :: (.q (.bool true)) :: (.q (.bool true)) :: (.q (.bool true)) :: (.q (.bool true)) :: (.q (.bool (func5 f))) :: (.q (.bool false)) :: (.q (.bool false)) :: (.q (.agg #[.string f.name, .int .i64 f.bind, .int .i64 f.params, .slice adbF f.blocks.length capbF])) :: (.q (.int .i64 (frame17 f))) :: (.q (.agg #[.string f.name, .int .i64 f.bind, .int .i64 f.params, .slice adbF f.blocks.length capbF])) :: (.q (.int .i64 (frame17 f))) :: (.q (.bool (decide (frame17 f = frame17 f)))) :: (.q (.bool (decide (frame17 f = frame17 f)))) :: (.q (.bool (decide (frame17 f = frame17 f)))) :: []) (by kernel_rfl) (by kernel_rfl) [(0, .int .i64 r), (1, .int .u64 (k0 : Int)), (2, .agg #[.string f.name, .int .i64 f.bind, .int .i64 f.params, .slice adbF f.blocks.length capbF]), (5, .pointer (some ⟨b1, 0, none⟩)), (6, .bool false), (7, .bool true), (8, .bool (func5 f)), (9, .bool true), (10, .bool true), (11, .agg #[.string f.name, .int .i64 f.bind, .int .i64 f.params, .slice adbF f.blocks.length capbF]), (12, .bool (func5 f)), (13, .int .i64 r), (14, .bool false), (15, .bool false), (16, .int .i64 r), (17, .bool false), (18, .bool false), (19, .bool false), (20, .int .i64 r), (21, .int .u64 (k0 : Int)), (22, .slice adl ((lit r k0).length) capadl), (23, .int .i64 r), (24, .int .u64 (k0 : Int)), (25, .slice adr ((lit r k0).length) capr), (26, .bool true), (27, .bool true)] ⟨rfl, rfl, rfl, rfl, rfl, rfl, rfl, rfl, rfl, rfl, rfl, rfl, rfl, rfl, rfl, rfl, rfl, rfl, rfl, rfl, rfl, rfl, rfl, rfl, rfl, rfl, trivial⟩ (by kernel_rfl) hS ?_ ?_
    ·
     refine And.intro (fun β w hS => ?_) ?_
     ·
      refine WL.sub (σ' := [(7, .bool true)]) ⟨rfl, trivial⟩ ?_
      refine WL.move rfl rfl rfl ?_
      exact WL.nil (N.cut () ⟨rfl, trivial⟩ (Below.refl _ _))
     refine And.intro (fun β w hS => ?_) ?_
     ·
      refine WL.sub (σ' := [(28, .bool true)]) ⟨rfl, trivial⟩ ?_
      refine WL.move rfl rfl rfl ?_
      exact WL.nil (N.cut () ⟨rfl, trivial⟩ (Below.refl _ _))
     refine And.intro (fun β w hS => ?_) ?_
     ·
      refine WL.sub (σ' := [(9, .bool true), (29, .bool true)]) ⟨rfl, rfl, trivial⟩ ?_
      refine WL.move rfl rfl rfl ?_
      exact WL.nil (N.cut () ⟨rfl, trivial⟩ (Below.refl _ _))
     refine And.intro (fun β w hS => ?_) ?_
     ·
      refine WL.sub (σ' := [(29, .bool true), (30, .bool true)]) ⟨rfl, rfl, trivial⟩ ?_
      refine WL.pick (v := .bool true) rfl rfl rfl rfl rfl rfl ?_
      exact WL.nil (N.cut () ⟨rfl, trivial⟩ (Below.refl _ _))
     refine And.intro (fun β w hS => ?_) ?_
     ·
      refine WL.sub (σ' := [(31, .bool true)]) ⟨rfl, trivial⟩ ?_
      refine WL.move rfl rfl rfl ?_
      exact WL.nil (N.cut () ⟨rfl, trivial⟩ (Below.refl _ _))
     refine And.intro (fun β w hS => ?_) ?_
     ·
      refine WL.sub (σ' := [(8, .bool (func5 f)), (32, .bool true)]) ⟨rfl, rfl, trivial⟩ ?_
      refine WL.move rfl rfl rfl ?_
      exact WL.nil (N.cut () ⟨rfl, trivial⟩ (Below.refl _ _))
     refine And.intro (fun β w hS => ?_) ?_
     ·
      refine WL.sub (σ' := [(32, .bool true), (33, .bool (func5 f))]) ⟨rfl, rfl, trivial⟩ ?_
      refine WL.not rfl rfl rfl ?_
      refine WL.set 34 (v' := .bool false) rfl (by rw [hg12]) ?_
      exact WL.nil (N.cut () ⟨rfl, trivial⟩ (Below.refl _ _))
     refine And.intro (fun β w hS => ?_) ?_
     ·
      refine WL.sub (σ' := [(32, .bool true), (34, .bool false)]) ⟨rfl, rfl, trivial⟩ ?_
      refine WL.move rfl rfl rfl ?_
      exact WL.nil (N.cut () ⟨rfl, trivial⟩ (Below.refl _ _))
     refine And.intro (fun β w hS => ?_) ?_
     ·
      refine WL.sub (σ' := [(5, .pointer (some ⟨b1, 0, none⟩)), (35, .bool false)]) ⟨rfl, rfl, trivial⟩ ?_
      refine WL.loadN (cs := [.string f.name, .int .i64 f.bind, .int .i64 f.params, .slice adbF f.blocks.length capbF]) agg_39 rfl rfl rfl rfl (hS.cells 0 (m := 4) rfl rfl) ?_
      exact WL.nil (N.cut () ⟨rfl, trivial⟩ (Below.refl _ _))
     refine And.intro (fun β w hS => ?_) ?_
     ·
      refine WL.sub (σ' := [(35, .bool false), (36, .agg #[.string f.name, .int .i64 f.bind, .int .i64 f.params, .slice adbF f.blocks.length capbF])]) ⟨rfl, rfl, trivial⟩ ?_
      refine WL.callF (vs := [.agg #[.string f.name, .int .i64 f.bind, .int .i64 f.params, .slice adbF f.blocks.length capbF]]) Try.func14 (by kernel_rfl) rfl rfl rfl (frame_ret f _ (ro := (roFrom (roFrom ro w4 w7) w7 w9)) (fun b hb => (hS.snap b hb).1) (hx.keep hS.alike) (okg_of5 (by simpa using hg12))) ?_
      rintro v w15 ⟨rfl, hbl⟩
      replace hS := hS.grow hbl
      exact WL.nil (N.cut () ⟨rfl, trivial⟩ hbl)
     refine And.intro (fun β w hS => ?_) ?_
     ·
      refine WL.sub (σ' := [(5, .pointer (some ⟨b1, 0, none⟩)), (35, .bool false)]) ⟨rfl, rfl, trivial⟩ ?_
      refine WL.loadN (cs := [.string f.name, .int .i64 f.bind, .int .i64 f.params, .slice adbF f.blocks.length capbF]) agg_39 rfl rfl rfl rfl (hS.cells 0 (m := 4) rfl rfl) ?_
      exact WL.nil (N.cut () ⟨rfl, trivial⟩ (Below.refl _ _))
     refine And.intro (fun β w hS => ?_) ?_
     ·
      refine WL.sub (σ' := [(35, .bool false), (38, .agg #[.string f.name, .int .i64 f.bind, .int .i64 f.params, .slice adbF f.blocks.length capbF])]) ⟨rfl, rfl, trivial⟩ ?_
      refine WL.callF (vs := [.agg #[.string f.name, .int .i64 f.bind, .int .i64 f.params, .slice adbF f.blocks.length capbF]]) Try.func15 (by kernel_rfl) rfl rfl rfl (rframe17_ret f _ (ro := (roFrom (roFrom ro w4 w7) w7 w9)) (fun b hb => (hS.snap b hb).1) (hx.keep hS.alike) (okg_of5 (by simpa using hg12))) ?_
      rintro v w16 ⟨rfl, hbl⟩
      replace hS := hS.grow hbl
      exact WL.nil (N.cut () ⟨rfl, trivial⟩ hbl)
     refine And.intro (fun β w hS => ?_) ?_
     ·
      refine WL.sub (σ' := [(35, .bool false), (37, .int .i64 (frame17 f)), (39, .int .i64 (frame17 f))]) ⟨rfl, rfl, rfl, trivial⟩ ?_
      refine WL.bin rfl rfl rfl rfl rfl ?_
      exact WL.nil (N.cut () ⟨rfl, trivial⟩ (Below.refl _ _))
     refine And.intro (fun β w hS => ?_) ?_
     ·
      refine WL.sub (σ' := [(32, .bool true), (35, .bool false), (40, .bool (decide (frame17 f = frame17 f)))]) ⟨rfl, rfl, rfl, trivial⟩ ?_
      refine WL.pick (v := .bool (decide (frame17 f = frame17 f))) rfl rfl rfl rfl rfl rfl ?_
      exact WL.nil (N.cut () ⟨rfl, trivial⟩ (Below.refl _ _))
     refine And.intro (fun β w hS => ?_) ?_
     ·
      refine WL.sub (σ' := [(32, .bool true), (41, .bool (decide (frame17 f = frame17 f)))]) ⟨rfl, rfl, trivial⟩ ?_
      refine WL.pick (v := .bool (decide (frame17 f = frame17 f))) rfl rfl rfl rfl rfl rfl ?_
      exact WL.nil (N.cut () ⟨rfl, trivial⟩ (Below.refl _ _))
     trivial
    clear hS; intro w17 β hS
    refine WL.sub (σ' := [(0, .int .i64 r), (1, .int .u64 (k0 : Int)), (2, .agg #[.string f.name, .int .i64 f.bind, .int .i64 f.params, .slice adbF f.blocks.length capbF]), (5, .pointer (some ⟨b1, 0, none⟩)), (6, .bool false), (7, .bool true), (8, .bool (func5 f)), (9, .bool true), (10, .bool true), (11, .agg #[.string f.name, .int .i64 f.bind, .int .i64 f.params, .slice adbF f.blocks.length capbF]), (12, .bool (func5 f)), (13, .int .i64 r), (14, .bool false), (15, .bool false), (16, .int .i64 r), (17, .bool false), (18, .bool false), (19, .bool false), (20, .int .i64 r), (21, .int .u64 (k0 : Int)), (22, .slice adl ((lit r k0).length) capadl), (23, .int .i64 r), (24, .int .u64 (k0 : Int)), (25, .slice adr ((lit r k0).length) capr), (26, .bool true), (27, .bool true), (28, .bool true), (29, .bool true), (30, .bool true), (31, .bool true), (32, .bool true), (33, .bool (func5 f)), (34, .bool false), (35, .bool false), (36, .agg #[.string f.name, .int .i64 f.bind, .int .i64 f.params, .slice adbF f.blocks.length capbF]), (37, .int .i64 (frame17 f)), (38, .agg #[.string f.name, .int .i64 f.bind, .int .i64 f.params, .slice adbF f.blocks.length capbF]), (39, .int .i64 (frame17 f)), (40, .bool (decide (frame17 f = frame17 f))), (41, .bool (decide (frame17 f = frame17 f))), (42, .bool (decide (frame17 f = frame17 f)))]) ⟨rfl, rfl, rfl, rfl, rfl, rfl, rfl, rfl, rfl, rfl, rfl, rfl, rfl, rfl, rfl, rfl, rfl, rfl, rfl, rfl, rfl, rfl, rfl, rfl, rfl, rfl, rfl, rfl, rfl, rfl, rfl, rfl, rfl, rfl, rfl, rfl, rfl, rfl, rfl, rfl, rfl, trivial⟩ ?_
    refine WL.assign rfl rfl rfl ?_
    refine WL.nil ?_
    refine N.seq ?_
    refine Fin.ret1 rfl (v := .bool (decide (frame17 f = frame17 f))) rfl ?_
    first | exact ⟨rfl, hS.below⟩ | exact ⟨by rw [decide_eq_true rfl], hS.below⟩
   refine W.drawL (by kernel_rfl) 15 ((.q (.bool true)) :: (.q (.bool true)) :: (.q (.bool true)) :: (.q (.bool true)) :: (.q (.bool true)) :: (.q (.bool (func5 f))) :: (.q (.bool true)) :: (.q (.bool true)) :: (.q undef) :: (.q undef) :: (.q undef) :: (.q undef) :: (.q undef) :: (.q (.bool true)) :: (.q (.bool true)) :: []) (by kernel_rfl) (by kernel_rfl) [(0, .int .i64 r), (1, .int .u64 (k0 : Int)), (2, .agg #[.string f.name, .int .i64 f.bind, .int .i64 f.params, .slice adbF f.blocks.length capbF]), (5, .pointer (some ⟨b1, 0, none⟩)), (6, .bool false), (7, .bool true), (8, .bool (func5 f)), (9, .bool true), (10, .bool true), (11, .agg #[.string f.name, .int .i64 f.bind, .int .i64 f.params, .slice adbF f.blocks.length capbF]), (12, .bool (func5 f)), (13, .int .i64 r), (14, .bool false), (15, .bool false), (16, .int .i64 r), (17, .bool false), (18, .bool false), (19, .bool false), (20, .int .i64 r), (21, .int .u64 (k0 : Int)), (22, .slice adl ((lit r k0).length) capadl), (23, .int .i64 r), (24, .int .u64 (k0 : Int)), (25, .slice adr ((lit r k0).length) capr), (26, .bool true), (27, .bool true)] ⟨rfl, rfl, rfl, rfl, rfl, rfl, rfl, rfl, rfl, rfl, rfl, rfl, rfl, rfl, rfl, rfl, rfl, rfl, rfl, rfl, rfl, rfl, rfl, rfl, rfl, rfl, trivial⟩ (by kernel_rfl) hS ?_ ?_
   ·
    refine And.intro (fun β w hS => ?_) ?_
    ·
     refine WL.sub (σ' := [(7, .bool true)]) ⟨rfl, trivial⟩ ?_
     refine WL.move rfl rfl rfl ?_
     exact WL.nil (N.cut () ⟨rfl, trivial⟩ (Below.refl _ _))
    refine And.intro (fun β w hS => ?_) ?_
    ·
     refine WL.sub (σ' := [(28, .bool true)]) ⟨rfl, trivial⟩ ?_
     refine WL.move rfl rfl rfl ?_
     exact WL.nil (N.cut () ⟨rfl, trivial⟩ (Below.refl _ _))
    refine And.intro (fun β w hS => ?_) ?_
    ·
     refine WL.sub (σ' := [(9, .bool true), (29, .bool true)]) ⟨rfl, rfl, trivial⟩ ?_
     refine WL.move rfl rfl rfl ?_
     exact WL.nil (N.cut () ⟨rfl, trivial⟩ (Below.refl _ _))
    refine And.intro (fun β w hS => ?_) ?_
    ·
     refine WL.sub (σ' := [(29, .bool true), (30, .bool true)]) ⟨rfl, rfl, trivial⟩ ?_
     refine WL.pick (v := .bool true) rfl rfl rfl rfl rfl rfl ?_
     exact WL.nil (N.cut () ⟨rfl, trivial⟩ (Below.refl _ _))
    refine And.intro (fun β w hS => ?_) ?_
    ·
     refine WL.sub (σ' := [(31, .bool true)]) ⟨rfl, trivial⟩ ?_
     refine WL.move rfl rfl rfl ?_
     exact WL.nil (N.cut () ⟨rfl, trivial⟩ (Below.refl _ _))
    refine And.intro (fun β w hS => ?_) ?_
    ·
     refine WL.sub (σ' := [(8, .bool (func5 f)), (32, .bool true)]) ⟨rfl, rfl, trivial⟩ ?_
     refine WL.move rfl rfl rfl ?_
     exact WL.nil (N.cut () ⟨rfl, trivial⟩ (Below.refl _ _))
    refine And.intro (fun β w hS => ?_) ?_
    ·
     refine WL.sub (σ' := [(32, .bool true), (33, .bool (func5 f))]) ⟨rfl, rfl, trivial⟩ ?_
     refine WL.not rfl rfl rfl ?_
     refine WL.set 34 (v' := .bool true) rfl (by rw [hg12]) ?_
     exact WL.nil (N.cut () ⟨rfl, trivial⟩ (Below.refl _ _))
    refine And.intro (fun β w hS => ?_) ?_
    ·
     refine WL.sub (σ' := [(32, .bool true), (34, .bool true)]) ⟨rfl, rfl, trivial⟩ ?_
     refine WL.move rfl rfl rfl ?_
     exact WL.nil (N.cut () ⟨rfl, trivial⟩ (Below.refl _ _))
    refine And.intro (fun β w hS => ?_) ?_
    ·
     refine WL.sub (σ' := [(5, .pointer (some ⟨b1, 0, none⟩)), (35, .bool true)]) ⟨rfl, rfl, trivial⟩ ?_
     refine WL.skp rfl rfl ?_
     exact WL.nil (N.cut () ⟨rfl, trivial⟩ (Below.refl _ _))
    refine And.intro (fun β w hS => ?_) ?_
    ·
     refine WL.sub (σ' := [(35, .bool true), (36, undef)]) ⟨rfl, rfl, trivial⟩ ?_
     refine WL.skp rfl rfl ?_
     exact WL.nil (N.cut () ⟨rfl, trivial⟩ (Below.refl _ _))
    refine And.intro (fun β w hS => ?_) ?_
    ·
     refine WL.sub (σ' := [(5, .pointer (some ⟨b1, 0, none⟩)), (35, .bool true)]) ⟨rfl, rfl, trivial⟩ ?_
     refine WL.skp rfl rfl ?_
     exact WL.nil (N.cut () ⟨rfl, trivial⟩ (Below.refl _ _))
    refine And.intro (fun β w hS => ?_) ?_
    ·
     refine WL.sub (σ' := [(35, .bool true), (38, undef)]) ⟨rfl, rfl, trivial⟩ ?_
     refine WL.skp rfl rfl ?_
     exact WL.nil (N.cut () ⟨rfl, trivial⟩ (Below.refl _ _))
    refine And.intro (fun β w hS => ?_) ?_
    ·
     refine WL.sub (σ' := [(35, .bool true), (37, undef), (39, undef)]) ⟨rfl, rfl, rfl, trivial⟩ ?_
     refine WL.skp rfl rfl ?_
     exact WL.nil (N.cut () ⟨rfl, trivial⟩ (Below.refl _ _))
    refine And.intro (fun β w hS => ?_) ?_
    ·
     refine WL.sub (σ' := [(32, .bool true), (35, .bool true), (40, undef)]) ⟨rfl, rfl, rfl, trivial⟩ ?_
     refine WL.pick (v := .bool true) rfl rfl rfl rfl rfl rfl ?_
     exact WL.nil (N.cut () ⟨rfl, trivial⟩ (Below.refl _ _))
    refine And.intro (fun β w hS => ?_) ?_
    ·
     refine WL.sub (σ' := [(32, .bool true), (41, .bool true)]) ⟨rfl, rfl, trivial⟩ ?_
     refine WL.pick (v := .bool true) rfl rfl rfl rfl rfl rfl ?_
     exact WL.nil (N.cut () ⟨rfl, trivial⟩ (Below.refl _ _))
    trivial
   clear hS; intro w18 β hS
   refine WL.sub (σ' := [(0, .int .i64 r), (1, .int .u64 (k0 : Int)), (2, .agg #[.string f.name, .int .i64 f.bind, .int .i64 f.params, .slice adbF f.blocks.length capbF]), (5, .pointer (some ⟨b1, 0, none⟩)), (6, .bool false), (7, .bool true), (8, .bool (func5 f)), (9, .bool true), (10, .bool true), (11, .agg #[.string f.name, .int .i64 f.bind, .int .i64 f.params, .slice adbF f.blocks.length capbF]), (12, .bool (func5 f)), (13, .int .i64 r), (14, .bool false), (15, .bool false), (16, .int .i64 r), (17, .bool false), (18, .bool false), (19, .bool false), (20, .int .i64 r), (21, .int .u64 (k0 : Int)), (22, .slice adl ((lit r k0).length) capadl), (23, .int .i64 r), (24, .int .u64 (k0 : Int)), (25, .slice adr ((lit r k0).length) capr), (26, .bool true), (27, .bool true), (28, .bool true), (29, .bool true), (30, .bool true), (31, .bool true), (32, .bool true), (33, .bool (func5 f)), (34, .bool true), (35, .bool true), (36, undef), (37, undef), (38, undef), (39, undef), (40, undef), (41, .bool true), (42, .bool true)]) ⟨rfl, rfl, rfl, rfl, rfl, rfl, rfl, rfl, rfl, rfl, rfl, rfl, rfl, rfl, rfl, rfl, rfl, rfl, rfl, rfl, rfl, rfl, rfl, rfl, rfl, rfl, rfl, rfl, rfl, rfl, rfl, rfl, rfl, rfl, rfl, rfl, rfl, rfl, rfl, rfl, rfl, trivial⟩ ?_
   refine WL.assign rfl rfl rfl ?_
   refine WL.nil ?_
   refine N.seq ?_
   refine Fin.ret1 rfl (v := .bool true) rfl ?_
   first | exact ⟨rfl, hS.below⟩ | exact ⟨by rw [decide_eq_true rfl], hS.below⟩
  refine WL.set 17 (v' := .bool true) rfl (by rw [hg6]) ?_
  refine WL.set 18 (v' := .bool true) rfl (by rw [hg6]) ?_
  refine WL.set 19 (v' := .bool true) rfl (by rw [hg6]) ?_
  have hg6p : 31 < r := by simpa using hg6
  refine WL.skp rfl rfl ?_
  refine WL.skp rfl rfl ?_
  refine WL.skp rfl rfl ?_
  refine WL.skp rfl rfl ?_
  refine WL.skp rfl rfl ?_
  refine WL.skp rfl rfl ?_
  refine WL.skp rfl rfl ?_
  refine WL.pick (v := .bool true) rfl rfl rfl rfl rfl rfl ?_
  refine WL.assign rfl rfl rfl ?_
  refine WL.nil ?_
  refine N.seq ?_
  refine W.seq ?_
  rcases (Bool.eq_false_or_eq_true (!(func5 f))).symm with hg19 | hg19
  ·
   refine W.drawL (by kernel_rfl) 15 ((.q (.bool true)) :: (.q (.bool true)) :: (.q (.bool true)) :: (.q (.bool true)) :: (.q (.bool true)) :: (.q (.bool (func5 f))) :: (.q (.bool false)) :: (.q (.bool false)) :: (.q (.agg #[.string f.name, .int .i64 f.bind, .int .i64 f.params, .slice adbF f.blocks.length capbF])) :: (.q (.int .i64 (frame17 f))) :: (.q (.agg #[.string f.name, .int .i64 f.bind, .int .i64 f.params, .slice adbF f.blocks.length capbF])) :: (.q (.int .i64 (frame17 f))) :: (.q (.bool (decide (frame17 f = frame17 f)))) :: (.q (.bool (decide (frame17 f = frame17 f)))) :: (.q (.bool (decide (frame17 f = frame17 f)))) :: []) (by kernel_rfl) (by kernel_rfl) [(0, .int .i64 r), (1, .int .u64 (k0 : Int)), (2, .agg #[.string f.name, .int .i64 f.bind, .int .i64 f.params, .slice adbF f.blocks.length capbF]), (5, .pointer (some ⟨b1, 0, none⟩)), (6, .bool false), (7, .bool true), (8, .bool (func5 f)), (9, .bool true), (10, .bool true), (11, .agg #[.string f.name, .int .i64 f.bind, .int .i64 f.params, .slice adbF f.blocks.length capbF]), (12, .bool (func5 f)), (13, .int .i64 r), (14, .bool false), (15, .bool false), (16, .int .i64 r), (17, .bool true), (18, .bool true), (19, .bool true), (20, undef), (21, undef), (22, undef), (23, undef), (24, undef), (25, undef), (26, undef), (27, .bool true)] ⟨rfl, rfl, rfl, rfl, rfl, rfl, rfl, rfl, rfl, rfl, rfl, rfl, rfl, rfl, rfl, rfl, rfl, rfl, rfl, rfl, rfl, rfl, rfl, rfl, rfl, rfl, trivial⟩ (by kernel_rfl) hS ?_ ?_
   ·
    refine And.intro (fun β w hS => ?_) ?_
    ·
     refine WL.sub (σ' := [(7, .bool true)]) ⟨rfl, trivial⟩ ?_
     refine WL.move rfl rfl rfl ?_
     exact WL.nil (N.cut () ⟨rfl, trivial⟩ (Below.refl _ _))
    refine And.intro (fun β w hS => ?_) ?_
    ·
     refine WL.sub (σ' := [(28, .bool true)]) ⟨rfl, trivial⟩ ?_
     refine WL.move rfl rfl rfl ?_
     exact WL.nil (N.cut () ⟨rfl, trivial⟩ (Below.refl _ _))
    refine And.intro (fun β w hS => ?_) ?_
    ·
     refine WL.sub (σ' := [(9, .bool true), (29, .bool true)]) ⟨rfl, rfl, trivial⟩ ?_
     refine WL.move rfl rfl rfl ?_
     exact WL.nil (N.cut () ⟨rfl, trivial⟩ (Below.refl _ _))
    refine And.intro (fun β w hS => ?_) ?_
    ·
     refine WL.sub (σ' := [(29, .bool true), (30, .bool true)]) ⟨rfl, rfl, trivial⟩ ?_
     refine WL.pick (v := .bool true) rfl rfl rfl rfl rfl rfl ?_
     exact WL.nil (N.cut () ⟨rfl, trivial⟩ (Below.refl _ _))
    refine And.intro (fun β w hS => ?_) ?_
    ·
     refine WL.sub (σ' := [(31, .bool true)]) ⟨rfl, trivial⟩ ?_
     refine WL.move rfl rfl rfl ?_
     exact WL.nil (N.cut () ⟨rfl, trivial⟩ (Below.refl _ _))
    refine And.intro (fun β w hS => ?_) ?_
    ·
     refine WL.sub (σ' := [(8, .bool (func5 f)), (32, .bool true)]) ⟨rfl, rfl, trivial⟩ ?_
     refine WL.move rfl rfl rfl ?_
     exact WL.nil (N.cut () ⟨rfl, trivial⟩ (Below.refl _ _))
    refine And.intro (fun β w hS => ?_) ?_
    ·
     refine WL.sub (σ' := [(32, .bool true), (33, .bool (func5 f))]) ⟨rfl, rfl, trivial⟩ ?_
     refine WL.not rfl rfl rfl ?_
     refine WL.set 34 (v' := .bool false) rfl (by rw [hg19]) ?_
     exact WL.nil (N.cut () ⟨rfl, trivial⟩ (Below.refl _ _))
    refine And.intro (fun β w hS => ?_) ?_
    ·
     refine WL.sub (σ' := [(32, .bool true), (34, .bool false)]) ⟨rfl, rfl, trivial⟩ ?_
     refine WL.move rfl rfl rfl ?_
     exact WL.nil (N.cut () ⟨rfl, trivial⟩ (Below.refl _ _))
    refine And.intro (fun β w hS => ?_) ?_
    ·
     refine WL.sub (σ' := [(5, .pointer (some ⟨b1, 0, none⟩)), (35, .bool false)]) ⟨rfl, rfl, trivial⟩ ?_
     refine WL.loadN (cs := [.string f.name, .int .i64 f.bind, .int .i64 f.params, .slice adbF f.blocks.length capbF]) agg_39 rfl rfl rfl rfl (hS.cells 0 (m := 4) rfl rfl) ?_
     exact WL.nil (N.cut () ⟨rfl, trivial⟩ (Below.refl _ _))
    refine And.intro (fun β w hS => ?_) ?_
    ·
     refine WL.sub (σ' := [(35, .bool false), (36, .agg #[.string f.name, .int .i64 f.bind, .int .i64 f.params, .slice adbF f.blocks.length capbF])]) ⟨rfl, rfl, trivial⟩ ?_
     refine WL.callF (vs := [.agg #[.string f.name, .int .i64 f.bind, .int .i64 f.params, .slice adbF f.blocks.length capbF]]) Try.func14 (by kernel_rfl) rfl rfl rfl (frame_ret f _ (ro := ro) (fun b hb => (hS.snap b hb).1) (hx.keep hS.alike) (okg_of5 (by simpa using hg19))) ?_
     rintro v w22 ⟨rfl, hbl⟩
     replace hS := hS.grow hbl
     exact WL.nil (N.cut () ⟨rfl, trivial⟩ hbl)
    refine And.intro (fun β w hS => ?_) ?_
    ·
     refine WL.sub (σ' := [(5, .pointer (some ⟨b1, 0, none⟩)), (35, .bool false)]) ⟨rfl, rfl, trivial⟩ ?_
     refine WL.loadN (cs := [.string f.name, .int .i64 f.bind, .int .i64 f.params, .slice adbF f.blocks.length capbF]) agg_39 rfl rfl rfl rfl (hS.cells 0 (m := 4) rfl rfl) ?_
     exact WL.nil (N.cut () ⟨rfl, trivial⟩ (Below.refl _ _))
    refine And.intro (fun β w hS => ?_) ?_
    ·
     refine WL.sub (σ' := [(35, .bool false), (38, .agg #[.string f.name, .int .i64 f.bind, .int .i64 f.params, .slice adbF f.blocks.length capbF])]) ⟨rfl, rfl, trivial⟩ ?_
     refine WL.callF (vs := [.agg #[.string f.name, .int .i64 f.bind, .int .i64 f.params, .slice adbF f.blocks.length capbF]]) Try.func15 (by kernel_rfl) rfl rfl rfl (rframe17_ret f _ (ro := ro) (fun b hb => (hS.snap b hb).1) (hx.keep hS.alike) (okg_of5 (by simpa using hg19))) ?_
     rintro v w23 ⟨rfl, hbl⟩
     replace hS := hS.grow hbl
     exact WL.nil (N.cut () ⟨rfl, trivial⟩ hbl)
    refine And.intro (fun β w hS => ?_) ?_
    ·
     refine WL.sub (σ' := [(35, .bool false), (37, .int .i64 (frame17 f)), (39, .int .i64 (frame17 f))]) ⟨rfl, rfl, rfl, trivial⟩ ?_
     refine WL.bin rfl rfl rfl rfl rfl ?_
     exact WL.nil (N.cut () ⟨rfl, trivial⟩ (Below.refl _ _))
    refine And.intro (fun β w hS => ?_) ?_
    ·
     refine WL.sub (σ' := [(32, .bool true), (35, .bool false), (40, .bool (decide (frame17 f = frame17 f)))]) ⟨rfl, rfl, rfl, trivial⟩ ?_
     refine WL.pick (v := .bool (decide (frame17 f = frame17 f))) rfl rfl rfl rfl rfl rfl ?_
     exact WL.nil (N.cut () ⟨rfl, trivial⟩ (Below.refl _ _))
    refine And.intro (fun β w hS => ?_) ?_
    ·
     refine WL.sub (σ' := [(32, .bool true), (41, .bool (decide (frame17 f = frame17 f)))]) ⟨rfl, rfl, trivial⟩ ?_
     refine WL.pick (v := .bool (decide (frame17 f = frame17 f))) rfl rfl rfl rfl rfl rfl ?_
     exact WL.nil (N.cut () ⟨rfl, trivial⟩ (Below.refl _ _))
    trivial
   clear hS; intro w24 β hS
   refine WL.sub (σ' := [(0, .int .i64 r), (1, .int .u64 (k0 : Int)), (2, .agg #[.string f.name, .int .i64 f.bind, .int .i64 f.params, .slice adbF f.blocks.length capbF]), (5, .pointer (some ⟨b1, 0, none⟩)), (6, .bool false), (7, .bool true), (8, .bool (func5 f)), (9, .bool true), (10, .bool true), (11, .agg #[.string f.name, .int .i64 f.bind, .int .i64 f.params, .slice adbF f.blocks.length capbF]), (12, .bool (func5 f)), (13, .int .i64 r), (14, .bool false), (15, .bool false), (16, .int .i64 r), (17, .bool true), (18, .bool true), (19, .bool true), (20, undef), (21, undef), (22, undef), (23, undef), (24, undef), (25, undef), (26, undef), (27, .bool true), (28, .bool true), (29, .bool true), (30, .bool true), (31, .bool true), (32, .bool true), (33, .bool (func5 f)), (34, .bool false), (35, .bool false), (36, .agg #[.string f.name, .int .i64 f.bind, .int .i64 f.params, .slice adbF f.blocks.length capbF]), (37, .int .i64 (frame17 f)), (38, .agg #[.string f.name, .int .i64 f.bind, .int .i64 f.params, .slice adbF f.blocks.length capbF]), (39, .int .i64 (frame17 f)), (40, .bool (decide (frame17 f = frame17 f))), (41, .bool (decide (frame17 f = frame17 f))), (42, .bool (decide (frame17 f = frame17 f)))]) ⟨rfl, rfl, rfl, rfl, rfl, rfl, rfl, rfl, rfl, rfl, rfl, rfl, rfl, rfl, rfl, rfl, rfl, rfl, rfl, rfl, rfl, rfl, rfl, rfl, rfl, rfl, rfl, rfl, rfl, rfl, rfl, rfl, rfl, rfl, rfl, rfl, rfl, rfl, rfl, rfl, rfl, trivial⟩ ?_
   refine WL.assign rfl rfl rfl ?_
   refine WL.nil ?_
   refine N.seq ?_
   refine Fin.ret1 rfl (v := .bool (decide (frame17 f = frame17 f))) rfl ?_
   first | exact ⟨rfl, hS.below⟩ | exact ⟨by rw [decide_eq_true rfl], hS.below⟩
  refine W.drawL (by kernel_rfl) 15 ((.q (.bool true)) :: (.q (.bool true)) :: (.q (.bool true)) :: (.q (.bool true)) :: (.q (.bool true)) :: (.q (.bool (func5 f))) :: (.q (.bool true)) :: (.q (.bool true)) :: (.q undef) :: (.q undef) :: (.q undef) :: (.q undef) :: (.q undef) :: (.q (.bool true)) :: (.q (.bool true)) :: []) (by kernel_rfl) (by kernel_rfl) [(0, .int .i64 r), (1, .int .u64 (k0 : Int)), (2, .agg #[.string f.name, .int .i64 f.bind, .int .i64 f.params, .slice adbF f.blocks.length capbF]), (5, .pointer (some ⟨b1, 0, none⟩)), (6, .bool false), (7, .bool true), (8, .bool (func5 f)), (9, .bool true), (10, .bool true), (11, .agg #[.string f.name, .int .i64 f.bind, .int .i64 f.params, .slice adbF f.blocks.length capbF]), (12, .bool (func5 f)), (13, .int .i64 r), (14, .bool false), (15, .bool false), (16, .int .i64 r), (17, .bool true), (18, .bool true), (19, .bool true), (20, undef), (21, undef), (22, undef), (23, undef), (24, undef), (25, undef), (26, undef), (27, .bool true)] ⟨rfl, rfl, rfl, rfl, rfl, rfl, rfl, rfl, rfl, rfl, rfl, rfl, rfl, rfl, rfl, rfl, rfl, rfl, rfl, rfl, rfl, rfl, rfl, rfl, rfl, rfl, trivial⟩ (by kernel_rfl) hS ?_ ?_
  ·
   refine And.intro (fun β w hS => ?_) ?_
   ·
    refine WL.sub (σ' := [(7, .bool true)]) ⟨rfl, trivial⟩ ?_
    refine WL.move rfl rfl rfl ?_
    exact WL.nil (N.cut () ⟨rfl, trivial⟩ (Below.refl _ _))
   refine And.intro (fun β w hS => ?_) ?_
   ·
    refine WL.sub (σ' := [(28, .bool true)]) ⟨rfl, trivial⟩ ?_
    refine WL.move rfl rfl rfl ?_
    exact WL.nil (N.cut () ⟨rfl, trivial⟩ (Below.refl _ _))
   refine And.intro (fun β w hS => ?_) ?_
   ·
    refine WL.sub (σ' := [(9, .bool true), (29, .bool true)]) ⟨rfl, rfl, trivial⟩ ?_
    refine WL.move rfl rfl rfl ?_
    exact WL.nil (N.cut () ⟨rfl, trivial⟩ (Below.refl _ _))
   refine And.intro (fun β w hS => ?_) ?_
   ·
    refine WL.sub (σ' := [(29, .bool true), (30, .bool true)]) ⟨rfl, rfl, trivial⟩ ?_
    refine WL.pick (v := .bool true) rfl rfl rfl rfl rfl rfl ?_
    exact WL.nil (N.cut () ⟨rfl, trivial⟩ (Below.refl _ _))
   refine And.intro (fun β w hS => ?_) ?_
   ·
    refine WL.sub (σ' := [(31, .bool true)]) ⟨rfl, trivial⟩ ?_
    refine WL.move rfl rfl rfl ?_
    exact WL.nil (N.cut () ⟨rfl, trivial⟩ (Below.refl _ _))
   refine And.intro (fun β w hS => ?_) ?_
   ·
    refine WL.sub (σ' := [(8, .bool (func5 f)), (32, .bool true)]) ⟨rfl, rfl, trivial⟩ ?_
    refine WL.move rfl rfl rfl ?_
    exact WL.nil (N.cut () ⟨rfl, trivial⟩ (Below.refl _ _))
   refine And.intro (fun β w hS => ?_) ?_
   ·
    refine WL.sub (σ' := [(32, .bool true), (33, .bool (func5 f))]) ⟨rfl, rfl, trivial⟩ ?_
    refine WL.not rfl rfl rfl ?_
    refine WL.set 34 (v' := .bool true) rfl (by rw [hg19]) ?_
    exact WL.nil (N.cut () ⟨rfl, trivial⟩ (Below.refl _ _))
   refine And.intro (fun β w hS => ?_) ?_
   ·
    refine WL.sub (σ' := [(32, .bool true), (34, .bool true)]) ⟨rfl, rfl, trivial⟩ ?_
    refine WL.move rfl rfl rfl ?_
    exact WL.nil (N.cut () ⟨rfl, trivial⟩ (Below.refl _ _))
   refine And.intro (fun β w hS => ?_) ?_
   ·
    refine WL.sub (σ' := [(5, .pointer (some ⟨b1, 0, none⟩)), (35, .bool true)]) ⟨rfl, rfl, trivial⟩ ?_
    refine WL.skp rfl rfl ?_
    exact WL.nil (N.cut () ⟨rfl, trivial⟩ (Below.refl _ _))
   refine And.intro (fun β w hS => ?_) ?_
   ·
    refine WL.sub (σ' := [(35, .bool true), (36, undef)]) ⟨rfl, rfl, trivial⟩ ?_
    refine WL.skp rfl rfl ?_
    exact WL.nil (N.cut () ⟨rfl, trivial⟩ (Below.refl _ _))
   refine And.intro (fun β w hS => ?_) ?_
   ·
    refine WL.sub (σ' := [(5, .pointer (some ⟨b1, 0, none⟩)), (35, .bool true)]) ⟨rfl, rfl, trivial⟩ ?_
    refine WL.skp rfl rfl ?_
    exact WL.nil (N.cut () ⟨rfl, trivial⟩ (Below.refl _ _))
   refine And.intro (fun β w hS => ?_) ?_
   ·
    refine WL.sub (σ' := [(35, .bool true), (38, undef)]) ⟨rfl, rfl, trivial⟩ ?_
    refine WL.skp rfl rfl ?_
    exact WL.nil (N.cut () ⟨rfl, trivial⟩ (Below.refl _ _))
   refine And.intro (fun β w hS => ?_) ?_
   ·
    refine WL.sub (σ' := [(35, .bool true), (37, undef), (39, undef)]) ⟨rfl, rfl, rfl, trivial⟩ ?_
    refine WL.skp rfl rfl ?_
    exact WL.nil (N.cut () ⟨rfl, trivial⟩ (Below.refl _ _))
   refine And.intro (fun β w hS => ?_) ?_
   ·
    refine WL.sub (σ' := [(32, .bool true), (35, .bool true), (40, undef)]) ⟨rfl, rfl, rfl, trivial⟩ ?_
    refine WL.pick (v := .bool true) rfl rfl rfl rfl rfl rfl ?_
    exact WL.nil (N.cut () ⟨rfl, trivial⟩ (Below.refl _ _))
   refine And.intro (fun β w hS => ?_) ?_
   ·
    refine WL.sub (σ' := [(32, .bool true), (41, .bool true)]) ⟨rfl, rfl, trivial⟩ ?_
    refine WL.pick (v := .bool true) rfl rfl rfl rfl rfl rfl ?_
    exact WL.nil (N.cut () ⟨rfl, trivial⟩ (Below.refl _ _))
   trivial
  clear hS; intro w25 β hS
  refine WL.sub (σ' := [(0, .int .i64 r), (1, .int .u64 (k0 : Int)), (2, .agg #[.string f.name, .int .i64 f.bind, .int .i64 f.params, .slice adbF f.blocks.length capbF]), (5, .pointer (some ⟨b1, 0, none⟩)), (6, .bool false), (7, .bool true), (8, .bool (func5 f)), (9, .bool true), (10, .bool true), (11, .agg #[.string f.name, .int .i64 f.bind, .int .i64 f.params, .slice adbF f.blocks.length capbF]), (12, .bool (func5 f)), (13, .int .i64 r), (14, .bool false), (15, .bool false), (16, .int .i64 r), (17, .bool true), (18, .bool true), (19, .bool true), (20, undef), (21, undef), (22, undef), (23, undef), (24, undef), (25, undef), (26, undef), (27, .bool true), (28, .bool true), (29, .bool true), (30, .bool true), (31, .bool true), (32, .bool true), (33, .bool (func5 f)), (34, .bool true), (35, .bool true), (36, undef), (37, undef), (38, undef), (39, undef), (40, undef), (41, .bool true), (42, .bool true)]) ⟨rfl, rfl, rfl, rfl, rfl, rfl, rfl, rfl, rfl, rfl, rfl, rfl, rfl, rfl, rfl, rfl, rfl, rfl, rfl, rfl, rfl, rfl, rfl, rfl, rfl, rfl, rfl, rfl, rfl, rfl, rfl, rfl, rfl, rfl, rfl, rfl, rfl, rfl, rfl, rfl, rfl, trivial⟩ ?_
  refine WL.assign rfl rfl rfl ?_
  refine WL.nil ?_
  refine N.seq ?_
  refine Fin.ret1 rfl (v := .bool true) rfl ?_
  first | exact ⟨rfl, hS.below⟩ | exact ⟨by rw [decide_eq_true rfl], hS.below⟩
 refine WL.set 14 (v' := .bool true) rfl (by rw [hg5]) ?_
 refine WL.set 15 (v' := .bool true) rfl (by rw [hg5]) ?_
 have hg5p : r < 0 := by simpa using hg5
 refine WL.skp rfl rfl ?_
 refine WL.skp rfl rfl ?_
 refine WL.pick (v := .bool true) rfl rfl rfl rfl rfl rfl ?_
 refine WL.move rfl rfl rfl ?_
 refine WL.skp rfl rfl ?_
 refine WL.skp rfl rfl ?_
 refine WL.skp rfl rfl ?_
 refine WL.skp rfl rfl ?_
 refine WL.skp rfl rfl ?_
 refine WL.skp rfl rfl ?_
 refine WL.skp rfl rfl ?_
 refine WL.pick (v := .bool true) rfl rfl rfl rfl rfl rfl ?_
 refine WL.assign rfl rfl rfl ?_
 refine WL.nil ?_
 refine N.seq ?_
 refine W.seq ?_
 rcases (Bool.eq_false_or_eq_true (!(func5 f))).symm with hg26 | hg26
 ·
  refine W.drawL (by kernel_rfl) 15 ((.q (.bool true)) :: (.q (.bool true)) :: (.q (.bool true)) :: (.q (.bool true)) :: (.q (.bool true)) :: (.q (.bool (func5 f))) :: (.q (.bool false)) :: (.q (.bool false)) :: (.q (.agg #[.string f.name, .int .i64 f.bind, .int .i64 f.params, .slice adbF f.blocks.length capbF])) :: (.q (.int .i64 (frame17 f))) :: (.q (.agg #[.string f.name, .int .i64 f.bind, .int .i64 f.params, .slice adbF f.blocks.length capbF])) :: (.q (.int .i64 (frame17 f))) :: (.q (.bool (decide (frame17 f = frame17 f)))) :: (.q (.bool (decide (frame17 f = frame17 f)))) :: (.q (.bool (decide (frame17 f = frame17 f)))) :: []) (by kernel_rfl) (by kernel_rfl) [(0, .int .i64 r), (1, .int .u64 (k0 : Int)), (2, .agg #[.string f.name, .int .i64 f.bind, .int .i64 f.params, .slice adbF f.blocks.length capbF]), (5, .pointer (some ⟨b1, 0, none⟩)), (6, .bool false), (7, .bool true), (8, .bool (func5 f)), (9, .bool true), (10, .bool true), (11, .agg #[.string f.name, .int .i64 f.bind, .int .i64 f.params, .slice adbF f.blocks.length capbF]), (12, .bool (func5 f)), (13, .int .i64 r), (14, .bool true), (15, .bool true), (16, undef), (17, undef), (18, .bool true), (19, .bool true), (20, undef), (21, undef), (22, undef), (23, undef), (24, undef), (25, undef), (26, undef), (27, .bool true)] ⟨rfl, rfl, rfl, rfl, rfl, rfl, rfl, rfl, rfl, rfl, rfl, rfl, rfl, rfl, rfl, rfl, rfl, rfl, rfl, rfl, rfl, rfl, rfl, rfl, rfl, rfl, trivial⟩ (by kernel_rfl) hS ?_ ?_
  ·
   refine And.intro (fun β w hS => ?_) ?_
   ·
    refine WL.sub (σ' := [(7, .bool true)]) ⟨rfl, trivial⟩ ?_
    refine WL.move rfl rfl rfl ?_
    exact WL.nil (N.cut () ⟨rfl, trivial⟩ (Below.refl _ _))
   refine And.intro (fun β w hS => ?_) ?_
   ·
    refine WL.sub (σ' := [(28, .bool true)]) ⟨rfl, trivial⟩ ?_
    refine WL.move rfl rfl rfl ?_
    exact WL.nil (N.cut () ⟨rfl, trivial⟩ (Below.refl _ _))
   refine And.intro (fun β w hS => ?_) ?_
   ·
    refine WL.sub (σ' := [(9, .bool true), (29, .bool true)]) ⟨rfl, rfl, trivial⟩ ?_
    refine WL.move rfl rfl rfl ?_
    exact WL.nil (N.cut () ⟨rfl, trivial⟩ (Below.refl _ _))
   refine And.intro (fun β w hS => ?_) ?_
   ·
    refine WL.sub (σ' := [(29, .bool true), (30, .bool true)]) ⟨rfl, rfl, trivial⟩ ?_
    refine WL.pick (v := .bool true) rfl rfl rfl rfl rfl rfl ?_
    exact WL.nil (N.cut () ⟨rfl, trivial⟩ (Below.refl _ _))
   refine And.intro (fun β w hS => ?_) ?_
   ·
    refine WL.sub (σ' := [(31, .bool true)]) ⟨rfl, trivial⟩ ?_
    refine WL.move rfl rfl rfl ?_
    exact WL.nil (N.cut () ⟨rfl, trivial⟩ (Below.refl _ _))
   refine And.intro (fun β w hS => ?_) ?_
   ·
    refine WL.sub (σ' := [(8, .bool (func5 f)), (32, .bool true)]) ⟨rfl, rfl, trivial⟩ ?_
    refine WL.move rfl rfl rfl ?_
    exact WL.nil (N.cut () ⟨rfl, trivial⟩ (Below.refl _ _))
   refine And.intro (fun β w hS => ?_) ?_
   ·
    refine WL.sub (σ' := [(32, .bool true), (33, .bool (func5 f))]) ⟨rfl, rfl, trivial⟩ ?_
    refine WL.not rfl rfl rfl ?_
    refine WL.set 34 (v' := .bool false) rfl (by rw [hg26]) ?_
    exact WL.nil (N.cut () ⟨rfl, trivial⟩ (Below.refl _ _))
   refine And.intro (fun β w hS => ?_) ?_
   ·
    refine WL.sub (σ' := [(32, .bool true), (34, .bool false)]) ⟨rfl, rfl, trivial⟩ ?_
    refine WL.move rfl rfl rfl ?_
    exact WL.nil (N.cut () ⟨rfl, trivial⟩ (Below.refl _ _))
   refine And.intro (fun β w hS => ?_) ?_
   ·
    refine WL.sub (σ' := [(5, .pointer (some ⟨b1, 0, none⟩)), (35, .bool false)]) ⟨rfl, rfl, trivial⟩ ?_
    refine WL.loadN (cs := [.string f.name, .int .i64 f.bind, .int .i64 f.params, .slice adbF f.blocks.length capbF]) agg_39 rfl rfl rfl rfl (hS.cells 0 (m := 4) rfl rfl) ?_
    exact WL.nil (N.cut () ⟨rfl, trivial⟩ (Below.refl _ _))
   refine And.intro (fun β w hS => ?_) ?_
   ·
    refine WL.sub (σ' := [(35, .bool false), (36, .agg #[.string f.name, .int .i64 f.bind, .int .i64 f.params, .slice adbF f.blocks.length capbF])]) ⟨rfl, rfl, trivial⟩ ?_
    refine WL.callF (vs := [.agg #[.string f.name, .int .i64 f.bind, .int .i64 f.params, .slice adbF f.blocks.length capbF]]) Try.func14 (by kernel_rfl) rfl rfl rfl (frame_ret f _ (ro := ro) (fun b hb => (hS.snap b hb).1) (hx.keep hS.alike) (okg_of5 (by simpa using hg26))) ?_
    rintro v w29 ⟨rfl, hbl⟩
    replace hS := hS.grow hbl
    exact WL.nil (N.cut () ⟨rfl, trivial⟩ hbl)
   refine And.intro (fun β w hS => ?_) ?_
   ·
    refine WL.sub (σ' := [(5, .pointer (some ⟨b1, 0, none⟩)), (35, .bool false)]) ⟨rfl, rfl, trivial⟩ ?_
    refine WL.loadN (cs := [.string f.name, .int .i64 f.bind, .int .i64 f.params, .slice adbF f.blocks.length capbF]) agg_39 rfl rfl rfl rfl (hS.cells 0 (m := 4) rfl rfl) ?_
    exact WL.nil (N.cut () ⟨rfl, trivial⟩ (Below.refl _ _))
   refine And.intro (fun β w hS => ?_) ?_
   ·
    refine WL.sub (σ' := [(35, .bool false), (38, .agg #[.string f.name, .int .i64 f.bind, .int .i64 f.params, .slice adbF f.blocks.length capbF])]) ⟨rfl, rfl, trivial⟩ ?_
    refine WL.callF (vs := [.agg #[.string f.name, .int .i64 f.bind, .int .i64 f.params, .slice adbF f.blocks.length capbF]]) Try.func15 (by kernel_rfl) rfl rfl rfl (rframe17_ret f _ (ro := ro) (fun b hb => (hS.snap b hb).1) (hx.keep hS.alike) (okg_of5 (by simpa using hg26))) ?_
    rintro v w30 ⟨rfl, hbl⟩
    replace hS := hS.grow hbl
    exact WL.nil (N.cut () ⟨rfl, trivial⟩ hbl)
   refine And.intro (fun β w hS => ?_) ?_
   ·
    refine WL.sub (σ' := [(35, .bool false), (37, .int .i64 (frame17 f)), (39, .int .i64 (frame17 f))]) ⟨rfl, rfl, rfl, trivial⟩ ?_
    refine WL.bin rfl rfl rfl rfl rfl ?_
    exact WL.nil (N.cut () ⟨rfl, trivial⟩ (Below.refl _ _))
   refine And.intro (fun β w hS => ?_) ?_
   ·
    refine WL.sub (σ' := [(32, .bool true), (35, .bool false), (40, .bool (decide (frame17 f = frame17 f)))]) ⟨rfl, rfl, rfl, trivial⟩ ?_
    refine WL.pick (v := .bool (decide (frame17 f = frame17 f))) rfl rfl rfl rfl rfl rfl ?_
    exact WL.nil (N.cut () ⟨rfl, trivial⟩ (Below.refl _ _))
   refine And.intro (fun β w hS => ?_) ?_
   ·
    refine WL.sub (σ' := [(32, .bool true), (41, .bool (decide (frame17 f = frame17 f)))]) ⟨rfl, rfl, trivial⟩ ?_
    refine WL.pick (v := .bool (decide (frame17 f = frame17 f))) rfl rfl rfl rfl rfl rfl ?_
    exact WL.nil (N.cut () ⟨rfl, trivial⟩ (Below.refl _ _))
   trivial
  clear hS; intro w31 β hS
  refine WL.sub (σ' := [(0, .int .i64 r), (1, .int .u64 (k0 : Int)), (2, .agg #[.string f.name, .int .i64 f.bind, .int .i64 f.params, .slice adbF f.blocks.length capbF]), (5, .pointer (some ⟨b1, 0, none⟩)), (6, .bool false), (7, .bool true), (8, .bool (func5 f)), (9, .bool true), (10, .bool true), (11, .agg #[.string f.name, .int .i64 f.bind, .int .i64 f.params, .slice adbF f.blocks.length capbF]), (12, .bool (func5 f)), (13, .int .i64 r), (14, .bool true), (15, .bool true), (16, undef), (17, undef), (18, .bool true), (19, .bool true), (20, undef), (21, undef), (22, undef), (23, undef), (24, undef), (25, undef), (26, undef), (27, .bool true), (28, .bool true), (29, .bool true), (30, .bool true), (31, .bool true), (32, .bool true), (33, .bool (func5 f)), (34, .bool false), (35, .bool false), (36, .agg #[.string f.name, .int .i64 f.bind, .int .i64 f.params, .slice adbF f.blocks.length capbF]), (37, .int .i64 (frame17 f)), (38, .agg #[.string f.name, .int .i64 f.bind, .int .i64 f.params, .slice adbF f.blocks.length capbF]), (39, .int .i64 (frame17 f)), (40, .bool (decide (frame17 f = frame17 f))), (41, .bool (decide (frame17 f = frame17 f))), (42, .bool (decide (frame17 f = frame17 f)))]) ⟨rfl, rfl, rfl, rfl, rfl, rfl, rfl, rfl, rfl, rfl, rfl, rfl, rfl, rfl, rfl, rfl, rfl, rfl, rfl, rfl, rfl, rfl, rfl, rfl, rfl, rfl, rfl, rfl, rfl, rfl, rfl, rfl, rfl, rfl, rfl, rfl, rfl, rfl, rfl, rfl, rfl, trivial⟩ ?_
  refine WL.assign rfl rfl rfl ?_
  refine WL.nil ?_
  refine N.seq ?_
  refine Fin.ret1 rfl (v := .bool (decide (frame17 f = frame17 f))) rfl ?_
  first | exact ⟨rfl, hS.below⟩ | exact ⟨by rw [decide_eq_true rfl], hS.below⟩
 refine W.drawL (by kernel_rfl) 15 ((.q (.bool true)) :: (.q (.bool true)) :: (.q (.bool true)) :: (.q (.bool true)) :: (.q (.bool true)) :: (.q (.bool (func5 f))) :: (.q (.bool true)) :: (.q (.bool true)) :: (.q undef) :: (.q undef) :: (.q undef) :: (.q undef) :: (.q undef) :: (.q (.bool true)) :: (.q (.bool true)) :: []) (by kernel_rfl) (by kernel_rfl) [(0, .int .i64 r), (1, .int .u64 (k0 : Int)), (2, .agg #[.string f.name, .int .i64 f.bind, .int .i64 f.params, .slice adbF f.blocks.length capbF]), (5, .pointer (some ⟨b1, 0, none⟩)), (6, .bool false), (7, .bool true), (8, .bool (func5 f)), (9, .bool true), (10, .bool true), (11, .agg #[.string f.name, .int .i64 f.bind, .int .i64 f.params, .slice adbF f.blocks.length capbF]), (12, .bool (func5 f)), (13, .int .i64 r), (14, .bool true), (15, .bool true), (16, undef), (17, undef), (18, .bool true), (19, .bool true), (20, undef), (21, undef), (22, undef), (23, undef), (24, undef), (25, undef), (26, undef), (27, .bool true)] ⟨rfl, rfl, rfl, rfl, rfl, rfl, rfl, rfl, rfl, rfl, rfl, rfl, rfl, rfl, rfl, rfl, rfl, rfl, rfl, rfl, rfl, rfl, rfl, rfl, rfl, rfl, trivial⟩ (by kernel_rfl) hS ?_ ?_
 ·
  refine And.intro (fun β w hS => ?_) ?_
  ·
   refine WL.sub (σ' := [(7, .bool true)]) ⟨rfl, trivial⟩ ?_
   refine WL.move rfl rfl rfl ?_
   exact WL.nil (N.cut () ⟨rfl, trivial⟩ (Below.refl _ _))
  refine And.intro (fun β w hS => ?_) ?_
  ·
   refine WL.sub (σ' := [(28, .bool true)]) ⟨rfl, trivial⟩ ?_
   refine WL.move rfl rfl rfl ?_
   exact WL.nil (N.cut () ⟨rfl, trivial⟩ (Below.refl _ _))
  refine And.intro (fun β w hS => ?_) ?_
  ·
   refine WL.sub (σ' := [(9, .bool true), (29, .bool true)]) ⟨rfl, rfl, trivial⟩ ?_
   refine WL.move rfl rfl rfl ?_
   exact WL.nil (N.cut () ⟨rfl, trivial⟩ (Below.refl _ _))
  refine And.intro (fun β w hS => ?_) ?_
  ·
   refine WL.sub (σ' := [(29, .bool true), (30, .bool true)]) ⟨rfl, rfl, trivial⟩ ?_
   refine WL.pick (v := .bool true) rfl rfl rfl rfl rfl rfl ?_
   exact WL.nil (N.cut () ⟨rfl, trivial⟩ (Below.refl _ _))
  refine And.intro (fun β w hS => ?_) ?_
  ·
   refine WL.sub (σ' := [(31, .bool true)]) ⟨rfl, trivial⟩ ?_
   refine WL.move rfl rfl rfl ?_
   exact WL.nil (N.cut () ⟨rfl, trivial⟩ (Below.refl _ _))
  refine And.intro (fun β w hS => ?_) ?_
  ·
   refine WL.sub (σ' := [(8, .bool (func5 f)), (32, .bool true)]) ⟨rfl, rfl, trivial⟩ ?_
   refine WL.move rfl rfl rfl ?_
   exact WL.nil (N.cut () ⟨rfl, trivial⟩ (Below.refl _ _))
  refine And.intro (fun β w hS => ?_) ?_
  ·
   refine WL.sub (σ' := [(32, .bool true), (33, .bool (func5 f))]) ⟨rfl, rfl, trivial⟩ ?_
   refine WL.not rfl rfl rfl ?_
   refine WL.set 34 (v' := .bool true) rfl (by rw [hg26]) ?_
   exact WL.nil (N.cut () ⟨rfl, trivial⟩ (Below.refl _ _))
  refine And.intro (fun β w hS => ?_) ?_
  ·
   refine WL.sub (σ' := [(32, .bool true), (34, .bool true)]) ⟨rfl, rfl, trivial⟩ ?_
   refine WL.move rfl rfl rfl ?_
   exact WL.nil (N.cut () ⟨rfl, trivial⟩ (Below.refl _ _))
  refine And.intro (fun β w hS => ?_) ?_
  ·
   refine WL.sub (σ' := [(5, .pointer (some ⟨b1, 0, none⟩)), (35, .bool true)]) ⟨rfl, rfl, trivial⟩ ?_
   refine WL.skp rfl rfl ?_
   exact WL.nil (N.cut () ⟨rfl, trivial⟩ (Below.refl _ _))
  refine And.intro (fun β w hS => ?_) ?_
  ·
   refine WL.sub (σ' := [(35, .bool true), (36, undef)]) ⟨rfl, rfl, trivial⟩ ?_
   refine WL.skp rfl rfl ?_
   exact WL.nil (N.cut () ⟨rfl, trivial⟩ (Below.refl _ _))
  refine And.intro (fun β w hS => ?_) ?_
  ·
   refine WL.sub (σ' := [(5, .pointer (some ⟨b1, 0, none⟩)), (35, .bool true)]) ⟨rfl, rfl, trivial⟩ ?_
   refine WL.skp rfl rfl ?_
   exact WL.nil (N.cut () ⟨rfl, trivial⟩ (Below.refl _ _))
  refine And.intro (fun β w hS => ?_) ?_
  ·
   refine WL.sub (σ' := [(35, .bool true), (38, undef)]) ⟨rfl, rfl, trivial⟩ ?_
   refine WL.skp rfl rfl ?_
   exact WL.nil (N.cut () ⟨rfl, trivial⟩ (Below.refl _ _))
  refine And.intro (fun β w hS => ?_) ?_
  ·
   refine WL.sub (σ' := [(35, .bool true), (37, undef), (39, undef)]) ⟨rfl, rfl, rfl, trivial⟩ ?_
   refine WL.skp rfl rfl ?_
   exact WL.nil (N.cut () ⟨rfl, trivial⟩ (Below.refl _ _))
  refine And.intro (fun β w hS => ?_) ?_
  ·
   refine WL.sub (σ' := [(32, .bool true), (35, .bool true), (40, undef)]) ⟨rfl, rfl, rfl, trivial⟩ ?_
   refine WL.pick (v := .bool true) rfl rfl rfl rfl rfl rfl ?_
   exact WL.nil (N.cut () ⟨rfl, trivial⟩ (Below.refl _ _))
  refine And.intro (fun β w hS => ?_) ?_
  ·
   refine WL.sub (σ' := [(32, .bool true), (41, .bool true)]) ⟨rfl, rfl, trivial⟩ ?_
   refine WL.pick (v := .bool true) rfl rfl rfl rfl rfl rfl ?_
   exact WL.nil (N.cut () ⟨rfl, trivial⟩ (Below.refl _ _))
  trivial
 clear hS; intro w32 β hS
 refine WL.sub (σ' := [(0, .int .i64 r), (1, .int .u64 (k0 : Int)), (2, .agg #[.string f.name, .int .i64 f.bind, .int .i64 f.params, .slice adbF f.blocks.length capbF]), (5, .pointer (some ⟨b1, 0, none⟩)), (6, .bool false), (7, .bool true), (8, .bool (func5 f)), (9, .bool true), (10, .bool true), (11, .agg #[.string f.name, .int .i64 f.bind, .int .i64 f.params, .slice adbF f.blocks.length capbF]), (12, .bool (func5 f)), (13, .int .i64 r), (14, .bool true), (15, .bool true), (16, undef), (17, undef), (18, .bool true), (19, .bool true), (20, undef), (21, undef), (22, undef), (23, undef), (24, undef), (25, undef), (26, undef), (27, .bool true), (28, .bool true), (29, .bool true), (30, .bool true), (31, .bool true), (32, .bool true), (33, .bool (func5 f)), (34, .bool true), (35, .bool true), (36, undef), (37, undef), (38, undef), (39, undef), (40, undef), (41, .bool true), (42, .bool true)]) ⟨rfl, rfl, rfl, rfl, rfl, rfl, rfl, rfl, rfl, rfl, rfl, rfl, rfl, rfl, rfl, rfl, rfl, rfl, rfl, rfl, rfl, rfl, rfl, rfl, rfl, rfl, rfl, rfl, rfl, rfl, rfl, rfl, rfl, rfl, rfl, rfl, rfl, rfl, rfl, rfl, rfl, trivial⟩ ?_
 refine WL.assign rfl rfl rfl ?_
 refine WL.nil ?_
 refine N.seq ?_
 refine Fin.ret1 rfl (v := .bool true) rfl ?_
 first | exact ⟨rfl, hS.below⟩ | exact ⟨by rw [decide_eq_true rfl], hS.below⟩

theorem genLits_ret (r k : Int) (f : DFunc) (cf : List Value) (hri : inI r) (hku : inU k) {w : World} {ro : Nat → Prop} (hro : ∀ b, ro b → b < w.heap.size) (hx : FuncC ro w cf f) (hok : okFunc f) : Ret Try.prog 4 #[.int .i64 r, .int .u64 k, .agg cf.toArray] w fun v w' => v = .bool true ∧ Below w.heap.size w w' := by
  obtain ⟨k0, rfl⟩ : ∃ k0 : Nat, k = (k0 : Int) := ⟨k.toNat, by unfold inU at hku; omega⟩
  exact genLitsN_ret r k0 f cf hri (by unfold inU at hku; omega) hro hx hok

end Go.Proofs.Ytcmmhfknkldmcaa
