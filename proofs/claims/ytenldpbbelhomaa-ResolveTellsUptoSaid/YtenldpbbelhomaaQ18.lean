/-
  Contracts of layer 9 (resolve). No condition beyond those that each theorem states.
-/
import Derived.Test.YtenldpbbelhomaaQ17
namespace Go.Proofs.Ytenldpbbelhomaa
open Go.RowKit

set_option maxRecDepth 10000 in
set_option maxHeartbeats 4000000 in
theorem resolveTells_ret (ms : List DMod) (t : ByteArray) (vx : Value) {w : World} {ro : Nat → Prop} (hro : ∀ b, ro b → b < w.heap.size) (hx : SlV ro w 2 (ModC ro w) vx ms) (hmx : (items9 ms).length ≤ 1048576) : Ret Try.prog 8 #[vx, .string t] w fun v w' => v = .bool true ∧ Below w.heap.size w w' := by
 have hxo := hx
 obtain ⟨adl, capl, rfl, hla, hlb, hlc, hld⟩ := hxo
 have hlm : ms.length ≤ 9223372036854775807 := slv_len hx
 refine Ret.enter (P := Try.prog) (n := 82) (args := [.slice adl ms.length capl, .string t]) (σ := [(0, .slice adl ms.length capl), (1, .string t)]) Try.func8 rfl rfl rfl rfl ?_
 have hS := St.start (ro := ro) hro
 have hsub : ∀ b, ro b → ro b ∨ w.heap.size ≤ b := fun _ h => .inl h
 have halT : Alike ro w ro w := Alike.refl
 refine W.seq ?_
 refine W.region ?_
 refine WL.assign rfl rfl rfl ?_
 refine WL.nil ?_
 refine N.seq ?_
 refine W.seq ?_
 refine W.region ?_
 refine WL.callF (vs := []) Try.func9 (by kernel_rfl) rfl rfl rfl (shown_ret) ?_
 rintro v w1 ⟨rfl, hbl⟩
 replace hS := hS.grow hbl
 refine WL.assign rfl rfl rfl ?_
 refine WL.nil ?_
 refine N.seq ?_
 refine W.seq ?_
 refine W.region ?_
 refine WL.move rfl rfl rfl ?_
 refine WL.callF (vs := [.slice adl ms.length capl]) Try.func10 (by kernel_rfl) rfl rfl rfl (all_ret ms _ (ro := ro) (fun b hb => (hS.snap b hb).1) (SlV.keep hx hS.alike (fun _ _ q => q.keep hS.alike)) hmx (items_ok hx)) ?_
 rintro v w2 ⟨sv, rfl, hdv, hbl⟩
 have hal3 := hS.alikeTo hbl (ro' := (roFrom ro w1 w2)) (fun b hb => .inl hb)
 replace hsub : ∀ b, (roFrom ro w1 w2) b → ro b ∨ w.heap.size ≤ b := fun b hb => hb.elim (hsub b) (fun h => .inr (Nat.le_trans hS.below.size h.1))
 replace halT := halT.trans hal3
 replace hld : Elems (roFrom ro w1 w2) w2 2 (ModC (roFrom ro w1 w2) w2) adl ms := hld.keep hal3 (fun _ _ h => h.keep hal3)
 replace hx : SlV (roFrom ro w1 w2) w2 2 (ModC (roFrom ro w1 w2) w2) (.slice adl ms.length capl) ms := SlV.keep hx hal3 (fun _ _ h => h.keep hal3)
 replace hS := hS.readNew hbl
 obtain ⟨ds, hds⟩ : ∃ ds, ds = (all9 (items9 ms)).1 := ⟨_, rfl⟩
 rw [← hds] at hdv
 obtain ⟨add, capd, rfl, hda, hdb, hdc, hdd⟩ := id hdv
 have hdm : ds.length ≤ 9223372036854775807 := by have h1 := hda; have h2 := hdb; unfold maxLen at h2; omega
 refine WL.move rfl rfl rfl ?_
 refine WL.extract (v := .slice add ds.length capd) rfl rfl rfl rfl ?_
 refine WL.extract (v := .int .i64 ((all9 (items9 ms)).2)) rfl rfl rfl rfl ?_
 refine WL.assign rfl rfl rfl ?_
 refine WL.assign rfl rfl rfl ?_
 refine WL.nil ?_
 refine N.seq ?_
 refine W.seq ?_
 refine W.region ?_
 refine WL.move rfl rfl rfl ?_
 refine WL.callF (vs := [.slice adl ms.length capl]) Try.func18 (by kernel_rfl) rfl rfl rfl (rall_ret ms _ (ro := (roFrom ro w1 w2)) (fun b hb => (hS.snap b hb).1) (SlV.keep hx hS.alike (fun _ _ q => q.keep hS.alike)) hmx) ?_
 rintro v w4 ⟨sv2, rfl, hdv2, hbl⟩
 have hal5 := hS.alikeTo hbl (ro' := (roFrom (roFrom ro w1 w2) w2 w4)) (fun b hb => .inl hb)
 replace hsub : ∀ b, (roFrom (roFrom ro w1 w2) w2 w4) b → ro b ∨ w.heap.size ≤ b := fun b hb => hb.elim (hsub b) (fun h => .inr (Nat.le_trans hS.below.size h.1))
 replace halT := halT.trans hal5
 replace hld : Elems (roFrom (roFrom ro w1 w2) w2 w4) w4 2 (ModC (roFrom (roFrom ro w1 w2) w2 w4) w4) adl ms := hld.keep hal5 (fun _ _ h => h.keep hal5)
 replace hx : SlV (roFrom (roFrom ro w1 w2) w2 w4) w4 2 (ModC (roFrom (roFrom ro w1 w2) w2 w4) w4) (.slice adl ms.length capl) ms := SlV.keep hx hal5 (fun _ _ h => h.keep hal5)
 replace hdd : Elems (roFrom (roFrom ro w1 w2) w2 w4) w4 5 DefC add ds := hdd.keep hal5 (fun _ _ h => h)
 replace hdv : SlV (roFrom (roFrom ro w1 w2) w2 w4) w4 5 DefC (.slice add ds.length capd) ds := SlV.keep hdv hal5 (fun _ _ h => h)
 replace hS := hS.readNew hbl
 obtain ⟨ds2, hds2⟩ : ∃ ds, ds = (all9 (items9 ms)).1 := ⟨_, rfl⟩
 rw [← hds2] at hdv2
 obtain ⟨add2, capd2, rfl, hd2a, hd2b, hd2c, hd2d⟩ := id hdv2
 have hd2m : ds2.length ≤ 9223372036854775807 := by have h1 := hd2a; have h2 := hd2b; unfold maxLen at h2; omega
 refine WL.move rfl rfl rfl ?_
 refine WL.extract (v := .slice add2 ds2.length capd2) rfl rfl rfl rfl ?_
 refine WL.extract (v := .int .i64 ((all9 (items9 ms)).2)) rfl rfl rfl rfl ?_
 refine WL.assign rfl rfl rfl ?_
 refine WL.assign rfl rfl rfl ?_
 refine WL.nil ?_
 refine N.seq ?_
 refine W.seq ?_
 refine W.region ?_
 refine WL.move rfl rfl rfl ?_
 refine WL.move rfl rfl rfl ?_
 refine WL.callF (vs := [.slice add ds.length capd, .slice add2 ds2.length capd2]) Try.func17 (by kernel_rfl) rfl rfl rfl (sameDefs_ret ds ds2 _ _ (ro := (roFrom (roFrom ro w1 w2) w2 w4)) (fun b hb => (hS.snap b hb).1) (SlV.keep hdv hS.alike (fun _ _ q => q)) (SlV.keep hdv2 hS.alike (fun _ _ q => q))) ?_
 rintro v w6 ⟨rfl, hbl⟩
 replace hS := hS.grow hbl
 refine WL.set 28 (v' := .bool true) rfl (by rw [hds, hds2, decide_eq_true rfl]) ?_
 refine WL.move rfl rfl rfl ?_
 refine WL.move rfl rfl rfl ?_
 refine WL.callF (vs := [.slice adl ms.length capl]) Try.func16 (by kernel_rfl) rfl rfl rfl (names_ret ms _ (ro := (roFrom (roFrom ro w1 w2) w2 w4)) (fun b hb => (hS.snap b hb).1) (SlV.keep hx hS.alike (fun _ _ q => q.keep hS.alike)) hmx (fun x hx0 => (items_ok hx x hx0).1)) ?_
 rintro vn w7 ⟨hnv, hbl⟩
 have hal8 := hS.alikeTo hbl (ro' := (roFrom (roFrom (roFrom ro w1 w2) w2 w4) w6 w7)) (fun b hb => .inl hb)
 replace hsub : ∀ b, (roFrom (roFrom (roFrom ro w1 w2) w2 w4) w6 w7) b → ro b ∨ w.heap.size ≤ b := fun b hb => hb.elim (hsub b) (fun h => .inr (Nat.le_trans hS.below.size h.1))
 replace halT := halT.trans hal8
 replace hld : Elems (roFrom (roFrom (roFrom ro w1 w2) w2 w4) w6 w7) w7 2 (ModC (roFrom (roFrom (roFrom ro w1 w2) w2 w4) w6 w7) w7) adl ms := hld.keep hal8 (fun _ _ h => h.keep hal8)
 replace hx : SlV (roFrom (roFrom (roFrom ro w1 w2) w2 w4) w6 w7) w7 2 (ModC (roFrom (roFrom (roFrom ro w1 w2) w2 w4) w6 w7) w7) (.slice adl ms.length capl) ms := SlV.keep hx hal8 (fun _ _ h => h.keep hal8)
 replace hdd : Elems (roFrom (roFrom (roFrom ro w1 w2) w2 w4) w6 w7) w7 5 DefC add ds := hdd.keep hal8 (fun _ _ h => h)
 replace hdv : SlV (roFrom (roFrom (roFrom ro w1 w2) w2 w4) w6 w7) w7 5 DefC (.slice add ds.length capd) ds := SlV.keep hdv hal8 (fun _ _ h => h)
 replace hd2d : Elems (roFrom (roFrom (roFrom ro w1 w2) w2 w4) w6 w7) w7 5 DefC add2 ds2 := hd2d.keep hal8 (fun _ _ h => h)
 replace hdv2 : SlV (roFrom (roFrom (roFrom ro w1 w2) w2 w4) w6 w7) w7 5 DefC (.slice add2 ds2.length capd2) ds2 := SlV.keep hdv2 hal8 (fun _ _ h => h)
 replace hS := hS.readNew hbl
 replace hnv := SlV.keep hnv (ro' := (roFrom (roFrom (roFrom ro w1 w2) w2 w4) w6 w7)) (w' := w7) (Q' := StrC) (fun x hx => ⟨.inr hx, rfl⟩) (fun _ _ h => h)
 obtain ⟨ns, hns⟩ : ∃ ns, ns = nms9 (items9 ms) := ⟨_, rfl⟩
 rw [← hns] at hnv
 obtain ⟨adn, capn, rfl, hna, hnb, hnc, hnd⟩ := id hnv
 have hnm : ns.length ≤ 9223372036854775807 := by have h1 := hna; have h2 := hnb; unfold maxLen at h2; omega
 refine WL.move rfl rfl rfl ?_
 refine WL.callF (vs := [.slice adl ms.length capl]) Try.func20 (by kernel_rfl) rfl rfl rfl (rNames_ret ms _ (ro := (roFrom (roFrom (roFrom ro w1 w2) w2 w4) w6 w7)) (fun b hb => (hS.snap b hb).1) (SlV.keep hx hS.alike (fun _ _ q => q.keep hS.alike)) hmx) ?_
 rintro vn2 w9 ⟨hnv2, hbl⟩
 have hal10 := hS.alikeTo hbl (ro' := (roFrom (roFrom (roFrom (roFrom ro w1 w2) w2 w4) w6 w7) w7 w9)) (fun b hb => .inl hb)
 replace hsub : ∀ b, (roFrom (roFrom (roFrom (roFrom ro w1 w2) w2 w4) w6 w7) w7 w9) b → ro b ∨ w.heap.size ≤ b := fun b hb => hb.elim (hsub b) (fun h => .inr (Nat.le_trans hS.below.size h.1))
 replace halT := halT.trans hal10
 replace hld : Elems (roFrom (roFrom (roFrom (roFrom ro w1 w2) w2 w4) w6 w7) w7 w9) w9 2 (ModC (roFrom (roFrom (roFrom (roFrom ro w1 w2) w2 w4) w6 w7) w7 w9) w9) adl ms := hld.keep hal10 (fun _ _ h => h.keep hal10)
 replace hx : SlV (roFrom (roFrom (roFrom (roFrom ro w1 w2) w2 w4) w6 w7) w7 w9) w9 2 (ModC (roFrom (roFrom (roFrom (roFrom ro w1 w2) w2 w4) w6 w7) w7 w9) w9) (.slice adl ms.length capl) ms := SlV.keep hx hal10 (fun _ _ h => h.keep hal10)
 replace hdd : Elems (roFrom (roFrom (roFrom (roFrom ro w1 w2) w2 w4) w6 w7) w7 w9) w9 5 DefC add ds := hdd.keep hal10 (fun _ _ h => h)
 replace hdv : SlV (roFrom (roFrom (roFrom (roFrom ro w1 w2) w2 w4) w6 w7) w7 w9) w9 5 DefC (.slice add ds.length capd) ds := SlV.keep hdv hal10 (fun _ _ h => h)
 replace hd2d : Elems (roFrom (roFrom (roFrom (roFrom ro w1 w2) w2 w4) w6 w7) w7 w9) w9 5 DefC add2 ds2 := hd2d.keep hal10 (fun _ _ h => h)
 replace hdv2 : SlV (roFrom (roFrom (roFrom (roFrom ro w1 w2) w2 w4) w6 w7) w7 w9) w9 5 DefC (.slice add2 ds2.length capd2) ds2 := SlV.keep hdv2 hal10 (fun _ _ h => h)
 replace hnd : Elems (roFrom (roFrom (roFrom (roFrom ro w1 w2) w2 w4) w6 w7) w7 w9) w9 1 StrC adn ns := hnd.keep hal10 (fun _ _ h => h)
 replace hnv : SlV (roFrom (roFrom (roFrom (roFrom ro w1 w2) w2 w4) w6 w7) w7 w9) w9 1 StrC (.slice adn ns.length capn) ns := SlV.keep hnv hal10 (fun _ _ h => h)
 replace hS := hS.readNew hbl
 rw [← hns] at hnv2
 replace hnv2 := SlV.keep hnv2 (ro' := (roFrom (roFrom (roFrom (roFrom ro w1 w2) w2 w4) w6 w7) w7 w9)) (w' := w9) (Q' := StrC) (fun x hx => ⟨.inr hx, rfl⟩) (fun _ _ h => h)
 refine WL.callF (vs := [.slice adn ns.length capn, vn2]) Try.func19 (by kernel_rfl) rfl rfl rfl (strings_ret ns ns _ _ (ro := (roFrom (roFrom (roFrom (roFrom ro w1 w2) w2 w4) w6 w7) w7 w9)) (fun b hb => (hS.snap b hb).1) (SlV.keep hnv hS.alike (fun _ _ q => q)) (SlV.keep hnv2 hS.alike (fun _ _ q => q))) ?_
 rintro v w11 ⟨rfl, hbl⟩
 replace hS := hS.grow hbl
 refine WL.set 34 (v' := .bool true) rfl (by rw [decide_eq_true rfl]) ?_
 refine WL.pick (v := .bool true) rfl rfl rfl rfl rfl rfl ?_
 refine WL.assign rfl rfl rfl ?_
 refine WL.nil ?_
 refine N.seq ?_
 refine W.seq ?_
 refine W.region ?_
 refine WL.move rfl rfl rfl ?_
 refine WL.move rfl rfl rfl ?_
 refine WL.callF (vs := [.slice add2 ds2.length capd2, .string t]) Try.func21 (by kernel_rfl) rfl rfl rfl (rfind_ret ds2 t _ (ro := (roFrom (roFrom (roFrom (roFrom ro w1 w2) w2 w4) w6 w7) w7 w9)) (fun b hb => (hS.snap b hb).1) (SlV.keep hdv2 hS.alike (fun _ _ q => q))) ?_
 rintro v w12 ⟨rfl, hbl⟩
 replace hS := hS.grow hbl
 refine WL.move rfl rfl rfl ?_
 refine WL.extract (v := .agg #[.string ((fnd9 ds2 t).1.name), .int .i64 ((fnd9 ds2 t).1.mod), .bool ((fnd9 ds2 t).1.fn), .bool ((fnd9 ds2 t).1.weak), .bool ((fnd9 ds2 t).1.here)]) rfl rfl rfl rfl ?_
 refine WL.extract (v := .bool ((fnd9 ds2 t).2)) rfl rfl rfl rfl ?_
 refine WL.alloc (tyZero_spec zer_29) rfl rfl hS ?_
 clear hS; intro w14 b13 hb_b13 hS
 refine WL.store (cs := [.string ((fnd9 ds2 t).1.name), .int .i64 ((fnd9 ds2 t).1.mod), .bool ((fnd9 ds2 t).1.fn), .bool ((fnd9 ds2 t).1.weak), .bool ((fnd9 ds2 t).1.here)]) (c' := #[.string ((fnd9 ds2 t).1.name), .int .i64 ((fnd9 ds2 t).1.mod), .bool ((fnd9 ds2 t).1.fn), .bool ((fnd9 ds2 t).1.weak), .bool ((fnd9 ds2 t).1.here)]) (L' := [(b13, .cells #[.string ((fnd9 ds2 t).1.name), .int .i64 ((fnd9 ds2 t).1.mod), .bool ((fnd9 ds2 t).1.fn), .bool ((fnd9 ds2 t).1.weak), .bool ((fnd9 ds2 t).1.here)] 29 (0, 0))]) 0 rfl rfl rfl rfl siz_29 rfl rfl rfl rfl rfl hS ?_
 clear hS; intro w15 hS
 refine WL.assign rfl rfl rfl ?_
 refine WL.nil ?_
 refine N.seq ?_
 refine W.seq ?_
 refine W.region ?_
 refine WL.move rfl rfl rfl ?_
 refine WL.move rfl rfl rfl ?_
 refine WL.callF (vs := [.slice add2 ds2.length capd2, .string t]) Try.func11 (by kernel_rfl) rfl rfl rfl (find9_ret ds2 t _ (ro := (roFrom (roFrom (roFrom (roFrom ro w1 w2) w2 w4) w6 w7) w7 w9)) (fun b hb => (hS.snap b hb).1) (SlV.keep hdv2 hS.alike (fun _ _ q => q))) ?_
 rintro v w16 ⟨rfl, hbl⟩
 replace hS := hS.grow hbl
 refine WL.assign rfl rfl rfl ?_
 refine WL.nil ?_
 refine N.seq ?_
 refine W.seq ?_
 rcases ixI_cases (isName t) ds2 with ⟨hix, _⟩ | ⟨j, d, hix, hjd, _, _⟩
 ·
  have hfd := fnd9_no (l := ds2) (t := t) (by omega)
  refine W.set 12 (v' := .bool false) rfl (by rw [hfd]) ?_
  refine W.set 13 (v' := .int .i64 (-1)) rfl (by rw [hix]) ?_
  replace hS : St w w9 w16 (roFrom (roFrom (roFrom (roFrom ro w1 w2) w2 w4) w6 w7) w7 w9) [(b13, .cells #[.string def0.name, .int .i64 def0.mod, .bool def0.fn, .bool def0.weak, .bool def0.here] 29 (0, 0))] [] := by have h := hS; rw [hfd] at h; exact h
  refine W.drawL (by kernel_rfl) 25 ((.q (.bool false)) :: (.q (.int .i64 (-1))) :: (.q (.bool false)) :: (.q (.bool true)) :: (.q (.bool true)) :: (.q (.bool false)) :: (.q (.bool false)) :: (.q undef) :: (.q undef) :: (.q undef) :: (.q undef) :: (.q undef) :: (.q undef) :: (.q undef) :: (.q (.bool false)) :: (.q (.bool false)) :: (.q (.bool false)) :: (.q (.bool true)) :: (.q (.bool true)) :: (.q (.agg #[.string def0.name, .int .i64 def0.mod, .bool def0.fn, .bool def0.weak, .bool def0.here])) :: (.q (.agg #[.string ⟨#[]⟩, .int .i64 0, .bool false, .bool false, .bool false])) :: (.q (.bool true)) :: (.q (.bool true)) :: (.q (.bool true)) :: (.q (.bool true)) :: []) (by kernel_rfl) (by kernel_rfl) [(0, .slice adl ms.length capl), (1, .string t), (4, .bool false), (5, .bool true), (6, .slice add ds.length capd), (7, .int .i64 ((all9 (items9 ms)).2)), (8, .slice add2 ds2.length capd2), (9, .int .i64 ((all9 (items9 ms)).2)), (10, .bool true), (11, .pointer (some ⟨b13, 0, none⟩)), (12, .bool false), (13, .int .i64 (-1)), (15, .bool true), (16, .tuple #[.slice add ds.length capd, .int .i64 ((all9 (items9 ms)).2)]), (17, .slice adl ms.length capl), (18, .tuple #[.slice add ds.length capd, .int .i64 ((all9 (items9 ms)).2)]), (19, .slice add ds.length capd), (20, .int .i64 ((all9 (items9 ms)).2)), (21, .tuple #[.slice add2 ds2.length capd2, .int .i64 ((all9 (items9 ms)).2)]), (22, .slice adl ms.length capl), (23, .tuple #[.slice add2 ds2.length capd2, .int .i64 ((all9 (items9 ms)).2)]), (24, .slice add2 ds2.length capd2), (25, .int .i64 ((all9 (items9 ms)).2)), (26, .slice add ds.length capd), (27, .slice add2 ds2.length capd2), (28, .bool true), (29, .bool true), (30, .slice adl ms.length capl), (31, .slice adn ns.length capn), (32, .slice adl ms.length capl), (33, vn2), (34, .bool true), (35, .bool true), (36, .tuple #[.agg #[.string ((fnd9 ds2 t).1.name), .int .i64 ((fnd9 ds2 t).1.mod), .bool ((fnd9 ds2 t).1.fn), .bool ((fnd9 ds2 t).1.weak), .bool ((fnd9 ds2 t).1.here)], .bool ((fnd9 ds2 t).2)]), (37, .slice add2 ds2.length capd2), (38, .string t), (39, .tuple #[.agg #[.string ((fnd9 ds2 t).1.name), .int .i64 ((fnd9 ds2 t).1.mod), .bool ((fnd9 ds2 t).1.fn), .bool ((fnd9 ds2 t).1.weak), .bool ((fnd9 ds2 t).1.here)], .bool ((fnd9 ds2 t).2)]), (40, .agg #[.string ((fnd9 ds2 t).1.name), .int .i64 ((fnd9 ds2 t).1.mod), .bool ((fnd9 ds2 t).1.fn), .bool ((fnd9 ds2 t).1.weak), .bool ((fnd9 ds2 t).1.here)]), (41, .bool ((fnd9 ds2 t).2)), (42, .slice add2 ds2.length capd2), (43, .string t), (44, .int .i64 (ixI (isName t) ds2))] ⟨rfl, rfl, rfl, rfl, rfl, rfl, rfl, rfl, rfl, rfl, rfl, rfl, rfl, rfl, rfl, rfl, rfl, rfl, rfl, rfl, rfl, rfl, rfl, rfl, rfl, rfl, rfl, rfl, rfl, rfl, rfl, rfl, rfl, rfl, rfl, rfl, rfl, rfl, rfl, rfl, rfl, rfl, trivial⟩ (by kernel_rfl) hS ?_ ?_
  ·
   refine And.intro (fun β w hS => ?_) ?_
   ·
    refine WL.sub (σ' := [(12, .bool false)]) ⟨rfl, trivial⟩ ?_
    refine WL.move rfl rfl rfl ?_
    exact WL.nil (N.cut () ⟨rfl, trivial⟩ (Below.refl _ _))
   refine And.intro (fun β w hS => ?_) ?_
   ·
    refine WL.sub (σ' := [(13, .int .i64 (-1))]) ⟨rfl, trivial⟩ ?_
    refine WL.move rfl rfl rfl ?_
    exact WL.nil (N.cut () ⟨rfl, trivial⟩ (Below.refl _ _))
   refine And.intro (fun β w hS => ?_) ?_
   ·
    refine WL.sub (σ' := [(46, .int .i64 (-1))]) ⟨rfl, trivial⟩ ?_
    refine WL.bin rfl rfl rfl rfl rfl ?_
    refine WL.set 47 (v' := .bool false) rfl rfl ?_
    exact WL.nil (N.cut () ⟨rfl, trivial⟩ (Below.refl _ _))
   refine And.intro (fun β w hS => ?_) ?_
   ·
    refine WL.sub (σ' := [(45, .bool false), (47, .bool false)]) ⟨rfl, rfl, trivial⟩ ?_
    refine WL.eqBool Try.underlying4 rfl rfl rfl rfl ?_
    refine WL.set 48 (v' := .bool true) rfl rfl ?_
    exact WL.nil (N.cut () ⟨rfl, trivial⟩ (Below.refl _ _))
   refine And.intro (fun β w hS => ?_) ?_
   ·
    refine WL.sub (σ' := [(48, .bool true)]) ⟨rfl, trivial⟩ ?_
    refine WL.move rfl rfl rfl ?_
    exact WL.nil (N.cut () ⟨rfl, trivial⟩ (Below.refl _ _))
   refine And.intro (fun β w hS => ?_) ?_
   ·
    refine WL.sub (σ' := [(12, .bool false), (49, .bool true)]) ⟨rfl, rfl, trivial⟩ ?_
    refine WL.move rfl rfl rfl ?_
    exact WL.nil (N.cut () ⟨rfl, trivial⟩ (Below.refl _ _))
   refine And.intro (fun β w hS => ?_) ?_
   ·
    refine WL.sub (σ' := [(49, .bool true), (50, .bool false)]) ⟨rfl, rfl, trivial⟩ ?_
    refine WL.move rfl rfl rfl ?_
    exact WL.nil (N.cut () ⟨rfl, trivial⟩ (Below.refl _ _))
   refine And.intro (fun β w hS => ?_) ?_
   ·
    refine WL.sub (σ' := [(11, .pointer (some ⟨b13, 0, none⟩)), (51, .bool false)]) ⟨rfl, rfl, trivial⟩ ?_
    refine WL.skp rfl rfl ?_
    exact WL.nil (N.cut () ⟨rfl, trivial⟩ (Below.refl _ _))
   refine And.intro (fun β w hS => ?_) ?_
   ·
    refine WL.sub (σ' := [(8, .slice add2 ds2.length capd2), (51, .bool false)]) ⟨rfl, rfl, trivial⟩ ?_
    refine WL.skp rfl rfl ?_
    exact WL.nil (N.cut () ⟨rfl, trivial⟩ (Below.refl _ _))
   refine And.intro (fun β w hS => ?_) ?_
   ·
    refine WL.sub (σ' := [(13, .int .i64 (-1)), (51, .bool false)]) ⟨rfl, rfl, trivial⟩ ?_
    refine WL.skp rfl rfl ?_
    exact WL.nil (N.cut () ⟨rfl, trivial⟩ (Below.refl _ _))
   refine And.intro (fun β w hS => ?_) ?_
   ·
    refine WL.sub (σ' := [(51, .bool false), (54, undef)]) ⟨rfl, rfl, trivial⟩ ?_
    refine WL.skp rfl rfl ?_
    exact WL.nil (N.cut () ⟨rfl, trivial⟩ (Below.refl _ _))
   refine And.intro (fun β w hS => ?_) ?_
   ·
    refine WL.sub (σ' := [(51, .bool false), (53, undef), (55, undef)]) ⟨rfl, rfl, rfl, trivial⟩ ?_
    refine WL.skp rfl rfl ?_
    exact WL.nil (N.cut () ⟨rfl, trivial⟩ (Below.refl _ _))
   refine And.intro (fun β w hS => ?_) ?_
   ·
    refine WL.sub (σ' := [(51, .bool false), (56, undef)]) ⟨rfl, rfl, trivial⟩ ?_
    refine WL.skp rfl rfl ?_
    exact WL.nil (N.cut () ⟨rfl, trivial⟩ (Below.refl _ _))
   refine And.intro (fun β w hS => ?_) ?_
   ·
    refine WL.sub (σ' := [(51, .bool false), (52, undef), (57, undef)]) ⟨rfl, rfl, rfl, trivial⟩ ?_
    refine WL.skp rfl rfl ?_
    exact WL.nil (N.cut () ⟨rfl, trivial⟩ (Below.refl _ _))
   refine And.intro (fun β w hS => ?_) ?_
   ·
    refine WL.sub (σ' := [(49, .bool true), (51, .bool false), (58, undef)]) ⟨rfl, rfl, rfl, trivial⟩ ?_
    refine WL.pick (v := .bool false) rfl rfl rfl rfl rfl rfl ?_
    exact WL.nil (N.cut () ⟨rfl, trivial⟩ (Below.refl _ _))
   refine And.intro (fun β w hS => ?_) ?_
   ·
    refine WL.sub (σ' := [(49, .bool true), (59, .bool false)]) ⟨rfl, rfl, trivial⟩ ?_
    refine WL.move rfl rfl rfl ?_
    exact WL.nil (N.cut () ⟨rfl, trivial⟩ (Below.refl _ _))
   refine And.intro (fun β w hS => ?_) ?_
   ·
    refine WL.sub (σ' := [(12, .bool false), (60, .bool false)]) ⟨rfl, rfl, trivial⟩ ?_
    refine WL.move rfl rfl rfl ?_
    exact WL.nil (N.cut () ⟨rfl, trivial⟩ (Below.refl _ _))
   refine And.intro (fun β w hS => ?_) ?_
   ·
    refine WL.sub (σ' := [(60, .bool false), (61, .bool false)]) ⟨rfl, rfl, trivial⟩ ?_
    refine WL.not rfl rfl rfl ?_
    refine WL.set 62 (v' := .bool true) rfl rfl ?_
    exact WL.nil (N.cut () ⟨rfl, trivial⟩ (Below.refl _ _))
   refine And.intro (fun β w hS => ?_) ?_
   ·
    refine WL.sub (σ' := [(60, .bool false), (62, .bool true)]) ⟨rfl, rfl, trivial⟩ ?_
    refine WL.move rfl rfl rfl ?_
    exact WL.nil (N.cut () ⟨rfl, trivial⟩ (Below.refl _ _))
   refine And.intro (fun β w hS => ?_) ?_
   ·
    refine WL.sub (σ' := [(11, .pointer (some ⟨b13, 0, none⟩)), (63, .bool true)]) ⟨rfl, rfl, trivial⟩ ?_
    refine WL.loadN (cs := [.string def0.name, .int .i64 def0.mod, .bool def0.fn, .bool def0.weak, .bool def0.here]) agg_29 rfl rfl rfl rfl (hS.cells 0 (m := 5) rfl rfl) ?_
    exact WL.nil (N.cut () ⟨rfl, trivial⟩ (Below.refl _ _))
   refine And.intro (fun β w hS => ?_) ?_
   ·
    refine WL.sub (σ' := [(63, .bool true)]) ⟨rfl, trivial⟩ ?_
    refine WL.build (ps := []) (cs := [.string ⟨#[]⟩, .int .i64 0, .bool false, .bool false, .bool false]) rfl rfl rfl (by kernel_rfl) ?_
    exact WL.nil (N.cut () ⟨rfl, trivial⟩ (Below.refl _ _))
   refine And.intro (fun β w hS => ?_) ?_
   ·
    refine WL.sub (σ' := [(63, .bool true), (64, .agg #[.string def0.name, .int .i64 def0.mod, .bool def0.fn, .bool def0.weak, .bool def0.here]), (65, .agg #[.string ⟨#[]⟩, .int .i64 0, .bool false, .bool false, .bool false])]) ⟨rfl, rfl, rfl, trivial⟩ ?_
    refine WL.eqAgg (decide (def0 = def0)) defFields Try.stoodInHeld29 Try.eqGuardType29 (eqDefT def0 def0) rfl rfl rfl rfl ?_
    refine WL.set 66 (v' := .bool true) rfl (by rw [decide_eq_true rfl]) ?_
    exact WL.nil (N.cut () ⟨rfl, trivial⟩ (Below.refl _ _))
   refine And.intro (fun β w hS => ?_) ?_
   ·
    refine WL.sub (σ' := [(60, .bool false), (63, .bool true), (66, .bool true)]) ⟨rfl, rfl, rfl, trivial⟩ ?_
    refine WL.pick (v := .bool true) rfl rfl rfl rfl rfl rfl ?_
    exact WL.nil (N.cut () ⟨rfl, trivial⟩ (Below.refl _ _))
   refine And.intro (fun β w hS => ?_) ?_
   ·
    refine WL.sub (σ' := [(49, .bool true), (60, .bool false), (67, .bool true)]) ⟨rfl, rfl, rfl, trivial⟩ ?_
    refine WL.pick (v := .bool true) rfl rfl rfl rfl rfl rfl ?_
    exact WL.nil (N.cut () ⟨rfl, trivial⟩ (Below.refl _ _))
   refine And.intro (fun β w hS => ?_) ?_
   ·
    refine WL.sub (σ' := [(49, .bool true), (68, .bool true)]) ⟨rfl, rfl, trivial⟩ ?_
    refine WL.pick (v := .bool true) rfl rfl rfl rfl rfl rfl ?_
    exact WL.nil (N.cut () ⟨rfl, trivial⟩ (Below.refl _ _))
   trivial
  clear hS; intro w17 β hS
  refine WL.sub (σ' := [(0, .slice adl ms.length capl), (1, .string t), (4, .bool false), (5, .bool true), (6, .slice add ds.length capd), (7, .int .i64 ((all9 (items9 ms)).2)), (8, .slice add2 ds2.length capd2), (9, .int .i64 ((all9 (items9 ms)).2)), (10, .bool true), (11, .pointer (some ⟨b13, 0, none⟩)), (12, .bool false), (13, .int .i64 (-1)), (15, .bool true), (16, .tuple #[.slice add ds.length capd, .int .i64 ((all9 (items9 ms)).2)]), (17, .slice adl ms.length capl), (18, .tuple #[.slice add ds.length capd, .int .i64 ((all9 (items9 ms)).2)]), (19, .slice add ds.length capd), (20, .int .i64 ((all9 (items9 ms)).2)), (21, .tuple #[.slice add2 ds2.length capd2, .int .i64 ((all9 (items9 ms)).2)]), (22, .slice adl ms.length capl), (23, .tuple #[.slice add2 ds2.length capd2, .int .i64 ((all9 (items9 ms)).2)]), (24, .slice add2 ds2.length capd2), (25, .int .i64 ((all9 (items9 ms)).2)), (26, .slice add ds.length capd), (27, .slice add2 ds2.length capd2), (28, .bool true), (29, .bool true), (30, .slice adl ms.length capl), (31, .slice adn ns.length capn), (32, .slice adl ms.length capl), (33, vn2), (34, .bool true), (35, .bool true), (36, .tuple #[.agg #[.string ((fnd9 ds2 t).1.name), .int .i64 ((fnd9 ds2 t).1.mod), .bool ((fnd9 ds2 t).1.fn), .bool ((fnd9 ds2 t).1.weak), .bool ((fnd9 ds2 t).1.here)], .bool ((fnd9 ds2 t).2)]), (37, .slice add2 ds2.length capd2), (38, .string t), (39, .tuple #[.agg #[.string ((fnd9 ds2 t).1.name), .int .i64 ((fnd9 ds2 t).1.mod), .bool ((fnd9 ds2 t).1.fn), .bool ((fnd9 ds2 t).1.weak), .bool ((fnd9 ds2 t).1.here)], .bool ((fnd9 ds2 t).2)]), (40, .agg #[.string ((fnd9 ds2 t).1.name), .int .i64 ((fnd9 ds2 t).1.mod), .bool ((fnd9 ds2 t).1.fn), .bool ((fnd9 ds2 t).1.weak), .bool ((fnd9 ds2 t).1.here)]), (41, .bool ((fnd9 ds2 t).2)), (42, .slice add2 ds2.length capd2), (43, .string t), (44, .int .i64 (ixI (isName t) ds2)), (45, .bool false), (46, .int .i64 (-1)), (47, .bool false), (48, .bool true), (49, .bool true), (50, .bool false), (51, .bool false), (52, undef), (53, undef), (54, undef), (55, undef), (56, undef), (57, undef), (58, undef), (59, .bool false), (60, .bool false), (61, .bool false), (62, .bool true), (63, .bool true), (64, .agg #[.string def0.name, .int .i64 def0.mod, .bool def0.fn, .bool def0.weak, .bool def0.here]), (65, .agg #[.string ⟨#[]⟩, .int .i64 0, .bool false, .bool false, .bool false]), (66, .bool true), (67, .bool true), (68, .bool true), (69, .bool true)]) (Sub.ofEq (by kernel_rfl)) ?_
  refine WL.assign rfl rfl rfl ?_
  refine WL.nil ?_
  refine N.seq ?_
  refine W.seq ?_
  refine W.region ?_
  refine WL.move rfl rfl rfl ?_
  refine WL.move rfl rfl rfl ?_
  refine WL.move rfl rfl rfl ?_
  refine WL.pick (v := .bool true) rfl rfl rfl rfl rfl rfl ?_
  refine WL.move rfl rfl rfl ?_
  refine WL.move rfl rfl rfl ?_
  refine WL.move rfl rfl rfl ?_
  refine WL.bin rfl rfl rfl rfl rfl ?_
  refine WL.set 77 (v' := .bool true) rfl (congrArg Value.bool (show (decide ((all9 (items9 ms)).2 = (all9 (items9 ms)).2)) = true from decide_eq_true rfl)) ?_
  refine WL.pick (v := .bool true) rfl rfl rfl rfl rfl rfl ?_
  refine WL.move rfl rfl rfl ?_
  refine WL.move rfl rfl rfl ?_
  refine WL.pick (v := .bool true) rfl rfl rfl rfl rfl rfl ?_
  refine WL.assign rfl rfl rfl ?_
  refine WL.nil ?_
  refine N.seq ?_
  refine Fin.ret1 rfl (v := .bool true) rfl ?_
  exact ⟨rfl, hS.below⟩
 have hfd := fnd9_at hix hjd
 refine W.set 12 (v' := .bool true) rfl (by rw [hfd]) ?_
 refine W.set 13 (v' := .int .i64 (j : Int)) rfl (by rw [hix]) ?_
 replace hS : St w w9 w16 (roFrom (roFrom (roFrom (roFrom ro w1 w2) w2 w4) w6 w7) w7 w9) [(b13, .cells #[.string d.name, .int .i64 d.mod, .bool d.fn, .bool d.weak, .bool d.here] 29 (0, 0))] [] := by have h := hS; rw [hfd] at h; exact h
 have hj18 : j < ds2.length := (List.getElem?_eq_some_iff.1 hjd).1
 have hx18 := hjd
 obtain ⟨b18, o18, cs18, hE18, hr18, hl18, hc18, hQ18⟩ := hd2d j _ hjd
 obtain ⟨rfl, hdn18, hdm18⟩ := hQ18
 refine W.drawL (by kernel_rfl) 25 ((.q (.bool true)) :: (.q (.int .i64 (j : Int))) :: (.q (.bool true)) :: (.q (.bool true)) :: (.q (.bool true)) :: (.q (.bool true)) :: (.q (.bool true)) :: (.q (.agg #[.string d.name, .int .i64 d.mod, .bool d.fn, .bool d.weak, .bool d.here])) :: (.q (.slice add2 ds2.length capd2)) :: (.q (.int .i64 (j : Int))) :: (.q (.int .i64 (j : Int))) :: (.q (.pointer (some ⟨b18, o18 + j * 5, none⟩))) :: (.q (.agg #[.string d.name, .int .i64 d.mod, .bool d.fn, .bool d.weak, .bool d.here])) :: (.q (.bool true)) :: (.q (.bool true)) :: (.q (.bool true)) :: (.q undef) :: (.q undef) :: (.q undef) :: (.q undef) :: (.q undef) :: (.q undef) :: (.q undef) :: (.q (.bool true)) :: (.q (.bool true)) :: []) (by kernel_rfl) (by kernel_rfl) [(0, .slice adl ms.length capl), (1, .string t), (4, .bool false), (5, .bool true), (6, .slice add ds.length capd), (7, .int .i64 ((all9 (items9 ms)).2)), (8, .slice add2 ds2.length capd2), (9, .int .i64 ((all9 (items9 ms)).2)), (10, .bool true), (11, .pointer (some ⟨b13, 0, none⟩)), (12, .bool true), (13, .int .i64 (j : Int)), (15, .bool true), (16, .tuple #[.slice add ds.length capd, .int .i64 ((all9 (items9 ms)).2)]), (17, .slice adl ms.length capl), (18, .tuple #[.slice add ds.length capd, .int .i64 ((all9 (items9 ms)).2)]), (19, .slice add ds.length capd), (20, .int .i64 ((all9 (items9 ms)).2)), (21, .tuple #[.slice add2 ds2.length capd2, .int .i64 ((all9 (items9 ms)).2)]), (22, .slice adl ms.length capl), (23, .tuple #[.slice add2 ds2.length capd2, .int .i64 ((all9 (items9 ms)).2)]), (24, .slice add2 ds2.length capd2), (25, .int .i64 ((all9 (items9 ms)).2)), (26, .slice add ds.length capd), (27, .slice add2 ds2.length capd2), (28, .bool true), (29, .bool true), (30, .slice adl ms.length capl), (31, .slice adn ns.length capn), (32, .slice adl ms.length capl), (33, vn2), (34, .bool true), (35, .bool true), (36, .tuple #[.agg #[.string ((fnd9 ds2 t).1.name), .int .i64 ((fnd9 ds2 t).1.mod), .bool ((fnd9 ds2 t).1.fn), .bool ((fnd9 ds2 t).1.weak), .bool ((fnd9 ds2 t).1.here)], .bool ((fnd9 ds2 t).2)]), (37, .slice add2 ds2.length capd2), (38, .string t), (39, .tuple #[.agg #[.string ((fnd9 ds2 t).1.name), .int .i64 ((fnd9 ds2 t).1.mod), .bool ((fnd9 ds2 t).1.fn), .bool ((fnd9 ds2 t).1.weak), .bool ((fnd9 ds2 t).1.here)], .bool ((fnd9 ds2 t).2)]), (40, .agg #[.string ((fnd9 ds2 t).1.name), .int .i64 ((fnd9 ds2 t).1.mod), .bool ((fnd9 ds2 t).1.fn), .bool ((fnd9 ds2 t).1.weak), .bool ((fnd9 ds2 t).1.here)]), (41, .bool ((fnd9 ds2 t).2)), (42, .slice add2 ds2.length capd2), (43, .string t), (44, .int .i64 (ixI (isName t) ds2))] ⟨rfl, rfl, rfl, rfl, rfl, rfl, rfl, rfl, rfl, rfl, rfl, rfl, rfl, rfl, rfl, rfl, rfl, rfl, rfl, rfl, rfl, rfl, rfl, rfl, rfl, rfl, rfl, rfl, rfl, rfl, rfl, rfl, rfl, rfl, rfl, rfl, rfl, rfl, rfl, rfl, rfl, rfl, trivial⟩ (by kernel_rfl) hS ?_ ?_
 ·
  refine And.intro (fun β w hS => ?_) ?_
  ·
   refine WL.sub (σ' := [(12, .bool true)]) ⟨rfl, trivial⟩ ?_
   refine WL.move rfl rfl rfl ?_
   exact WL.nil (N.cut () ⟨rfl, trivial⟩ (Below.refl _ _))
  refine And.intro (fun β w hS => ?_) ?_
  ·
   refine WL.sub (σ' := [(13, .int .i64 (j : Int))]) ⟨rfl, trivial⟩ ?_
   refine WL.move rfl rfl rfl ?_
   exact WL.nil (N.cut () ⟨rfl, trivial⟩ (Below.refl _ _))
  refine And.intro (fun β w hS => ?_) ?_
  ·
   refine WL.sub (σ' := [(46, .int .i64 (j : Int))]) ⟨rfl, trivial⟩ ?_
   refine WL.bin rfl rfl rfl rfl rfl ?_
   refine WL.set 47 (v' := .bool true) rfl (congrArg Value.bool (decide_eq_true (by omega))) ?_
   exact WL.nil (N.cut () ⟨rfl, trivial⟩ (Below.refl _ _))
  refine And.intro (fun β w hS => ?_) ?_
  ·
   refine WL.sub (σ' := [(45, .bool true), (47, .bool true)]) ⟨rfl, rfl, trivial⟩ ?_
   refine WL.eqBool Try.underlying4 rfl rfl rfl rfl ?_
   refine WL.set 48 (v' := .bool true) rfl rfl ?_
   exact WL.nil (N.cut () ⟨rfl, trivial⟩ (Below.refl _ _))
  refine And.intro (fun β w hS => ?_) ?_
  ·
   refine WL.sub (σ' := [(48, .bool true)]) ⟨rfl, trivial⟩ ?_
   refine WL.move rfl rfl rfl ?_
   exact WL.nil (N.cut () ⟨rfl, trivial⟩ (Below.refl _ _))
  refine And.intro (fun β w hS => ?_) ?_
  ·
   refine WL.sub (σ' := [(12, .bool true), (49, .bool true)]) ⟨rfl, rfl, trivial⟩ ?_
   refine WL.move rfl rfl rfl ?_
   exact WL.nil (N.cut () ⟨rfl, trivial⟩ (Below.refl _ _))
  refine And.intro (fun β w hS => ?_) ?_
  ·
   refine WL.sub (σ' := [(49, .bool true), (50, .bool true)]) ⟨rfl, rfl, trivial⟩ ?_
   refine WL.move rfl rfl rfl ?_
   exact WL.nil (N.cut () ⟨rfl, trivial⟩ (Below.refl _ _))
  refine And.intro (fun β w hS => ?_) ?_
  ·
   refine WL.sub (σ' := [(11, .pointer (some ⟨b13, 0, none⟩)), (51, .bool true)]) ⟨rfl, rfl, trivial⟩ ?_
   refine WL.loadN (cs := [.string d.name, .int .i64 d.mod, .bool d.fn, .bool d.weak, .bool d.here]) agg_29 rfl rfl rfl rfl (hS.cells 0 (m := 5) rfl rfl) ?_
   exact WL.nil (N.cut () ⟨rfl, trivial⟩ (Below.refl _ _))
  refine And.intro (fun β w hS => ?_) ?_
  ·
   refine WL.sub (σ' := [(8, .slice add2 ds2.length capd2), (51, .bool true)]) ⟨rfl, rfl, trivial⟩ ?_
   refine WL.move rfl rfl rfl ?_
   exact WL.nil (N.cut () ⟨rfl, trivial⟩ (Below.refl _ _))
  refine And.intro (fun β w hS => ?_) ?_
  ·
   refine WL.sub (σ' := [(13, .int .i64 (j : Int)), (51, .bool true)]) ⟨rfl, rfl, trivial⟩ ?_
   refine WL.move rfl rfl rfl ?_
   exact WL.nil (N.cut () ⟨rfl, trivial⟩ (Below.refl _ _))
  refine And.intro (fun β w hS => ?_) ?_
  ·
   refine WL.sub (σ' := [(51, .bool true), (54, .int .i64 (j : Int))]) ⟨rfl, rfl, trivial⟩ ?_
   refine WL.max2 rfl rfl rfl rfl ?_
   refine WL.set 55 (v' := .int .i64 (j : Int)) rfl (congrArg (Value.int .i64) (if_neg (by omega))) ?_
   exact WL.nil (N.cut () ⟨rfl, trivial⟩ (Below.refl _ _))
  refine And.intro (fun β w hS => ?_) ?_
  ·
   refine WL.sub (σ' := [(51, .bool true), (53, .slice add2 ds2.length capd2), (55, .int .i64 (j : Int))]) ⟨rfl, rfl, rfl, trivial⟩ ?_
   refine WL.indexAddrE (j := j) Try.underlying24 isz_29 rfl rfl rfl rfl hj18 hE18 ?_
   exact WL.nil (N.cut () ⟨rfl, trivial⟩ (Below.refl _ _))
  refine And.intro (fun β w hS => ?_) ?_
  ·
   refine WL.sub (σ' := [(51, .bool true), (56, .pointer (some ⟨b18, o18 + j * 5, none⟩))]) ⟨rfl, rfl, trivial⟩ ?_
   refine WL.loadN (cs := [.string d.name, .int .i64 d.mod, .bool d.fn, .bool d.weak, .bool d.here]) agg_29 rfl rfl rfl rfl (hS.roCells hr18 hc18) ?_
   exact WL.nil (N.cut () ⟨rfl, trivial⟩ (Below.refl _ _))
  refine And.intro (fun β w hS => ?_) ?_
  ·
   refine WL.sub (σ' := [(51, .bool true), (52, .agg #[.string d.name, .int .i64 d.mod, .bool d.fn, .bool d.weak, .bool d.here]), (57, .agg #[.string d.name, .int .i64 d.mod, .bool d.fn, .bool d.weak, .bool d.here])]) ⟨rfl, rfl, rfl, trivial⟩ ?_
   refine WL.eqAgg (decide (d = d)) defFields Try.stoodInHeld29 Try.eqGuardType29 (eqDefT d d) rfl rfl rfl rfl ?_
   refine WL.set 58 (v' := .bool true) rfl (by rw [decide_eq_true rfl]) ?_
   exact WL.nil (N.cut () ⟨rfl, trivial⟩ (Below.refl _ _))
  refine And.intro (fun β w hS => ?_) ?_
  ·
   refine WL.sub (σ' := [(49, .bool true), (51, .bool true), (58, .bool true)]) ⟨rfl, rfl, rfl, trivial⟩ ?_
   refine WL.pick (v := .bool true) rfl rfl rfl rfl rfl rfl ?_
   exact WL.nil (N.cut () ⟨rfl, trivial⟩ (Below.refl _ _))
  refine And.intro (fun β w hS => ?_) ?_
  ·
   refine WL.sub (σ' := [(49, .bool true), (59, .bool true)]) ⟨rfl, rfl, trivial⟩ ?_
   refine WL.move rfl rfl rfl ?_
   exact WL.nil (N.cut () ⟨rfl, trivial⟩ (Below.refl _ _))
  refine And.intro (fun β w hS => ?_) ?_
  ·
   refine WL.sub (σ' := [(12, .bool true), (60, .bool true)]) ⟨rfl, rfl, trivial⟩ ?_
   refine WL.skp rfl rfl ?_
   exact WL.nil (N.cut () ⟨rfl, trivial⟩ (Below.refl _ _))
  refine And.intro (fun β w hS => ?_) ?_
  ·
   refine WL.sub (σ' := [(60, .bool true), (61, undef)]) ⟨rfl, rfl, trivial⟩ ?_
   refine WL.skp rfl rfl ?_
   exact WL.nil (N.cut () ⟨rfl, trivial⟩ (Below.refl _ _))
  refine And.intro (fun β w hS => ?_) ?_
  ·
   refine WL.sub (σ' := [(60, .bool true), (62, undef)]) ⟨rfl, rfl, trivial⟩ ?_
   refine WL.skp rfl rfl ?_
   exact WL.nil (N.cut () ⟨rfl, trivial⟩ (Below.refl _ _))
  refine And.intro (fun β w hS => ?_) ?_
  ·
   refine WL.sub (σ' := [(11, .pointer (some ⟨b13, 0, none⟩)), (63, undef)]) ⟨rfl, rfl, trivial⟩ ?_
   refine WL.skp rfl rfl ?_
   exact WL.nil (N.cut () ⟨rfl, trivial⟩ (Below.refl _ _))
  refine And.intro (fun β w hS => ?_) ?_
  ·
   refine WL.sub (σ' := [(63, undef)]) ⟨rfl, trivial⟩ ?_
   refine WL.skp rfl rfl ?_
   exact WL.nil (N.cut () ⟨rfl, trivial⟩ (Below.refl _ _))
  refine And.intro (fun β w hS => ?_) ?_
  ·
   refine WL.sub (σ' := [(63, undef), (64, undef), (65, undef)]) ⟨rfl, rfl, rfl, trivial⟩ ?_
   refine WL.skp rfl rfl ?_
   exact WL.nil (N.cut () ⟨rfl, trivial⟩ (Below.refl _ _))
  refine And.intro (fun β w hS => ?_) ?_
  ·
   refine WL.sub (σ' := [(60, .bool true), (63, undef), (66, undef)]) ⟨rfl, rfl, rfl, trivial⟩ ?_
   refine WL.skp rfl rfl ?_
   exact WL.nil (N.cut () ⟨rfl, trivial⟩ (Below.refl _ _))
  refine And.intro (fun β w hS => ?_) ?_
  ·
   refine WL.sub (σ' := [(49, .bool true), (60, .bool true), (67, undef)]) ⟨rfl, rfl, rfl, trivial⟩ ?_
   refine WL.pick (v := .bool true) rfl rfl rfl rfl rfl rfl ?_
   exact WL.nil (N.cut () ⟨rfl, trivial⟩ (Below.refl _ _))
  refine And.intro (fun β w hS => ?_) ?_
  ·
   refine WL.sub (σ' := [(49, .bool true), (68, .bool true)]) ⟨rfl, rfl, trivial⟩ ?_
   refine WL.pick (v := .bool true) rfl rfl rfl rfl rfl rfl ?_
   exact WL.nil (N.cut () ⟨rfl, trivial⟩ (Below.refl _ _))
  trivial
 clear hS; intro w19 β hS
 refine WL.sub (σ' := [(0, .slice adl ms.length capl), (1, .string t), (4, .bool false), (5, .bool true), (6, .slice add ds.length capd), (7, .int .i64 ((all9 (items9 ms)).2)), (8, .slice add2 ds2.length capd2), (9, .int .i64 ((all9 (items9 ms)).2)), (10, .bool true), (11, .pointer (some ⟨b13, 0, none⟩)), (12, .bool true), (13, .int .i64 (j : Int)), (15, .bool true), (16, .tuple #[.slice add ds.length capd, .int .i64 ((all9 (items9 ms)).2)]), (17, .slice adl ms.length capl), (18, .tuple #[.slice add ds.length capd, .int .i64 ((all9 (items9 ms)).2)]), (19, .slice add ds.length capd), (20, .int .i64 ((all9 (items9 ms)).2)), (21, .tuple #[.slice add2 ds2.length capd2, .int .i64 ((all9 (items9 ms)).2)]), (22, .slice adl ms.length capl), (23, .tuple #[.slice add2 ds2.length capd2, .int .i64 ((all9 (items9 ms)).2)]), (24, .slice add2 ds2.length capd2), (25, .int .i64 ((all9 (items9 ms)).2)), (26, .slice add ds.length capd), (27, .slice add2 ds2.length capd2), (28, .bool true), (29, .bool true), (30, .slice adl ms.length capl), (31, .slice adn ns.length capn), (32, .slice adl ms.length capl), (33, vn2), (34, .bool true), (35, .bool true), (36, .tuple #[.agg #[.string ((fnd9 ds2 t).1.name), .int .i64 ((fnd9 ds2 t).1.mod), .bool ((fnd9 ds2 t).1.fn), .bool ((fnd9 ds2 t).1.weak), .bool ((fnd9 ds2 t).1.here)], .bool ((fnd9 ds2 t).2)]), (37, .slice add2 ds2.length capd2), (38, .string t), (39, .tuple #[.agg #[.string ((fnd9 ds2 t).1.name), .int .i64 ((fnd9 ds2 t).1.mod), .bool ((fnd9 ds2 t).1.fn), .bool ((fnd9 ds2 t).1.weak), .bool ((fnd9 ds2 t).1.here)], .bool ((fnd9 ds2 t).2)]), (40, .agg #[.string ((fnd9 ds2 t).1.name), .int .i64 ((fnd9 ds2 t).1.mod), .bool ((fnd9 ds2 t).1.fn), .bool ((fnd9 ds2 t).1.weak), .bool ((fnd9 ds2 t).1.here)]), (41, .bool ((fnd9 ds2 t).2)), (42, .slice add2 ds2.length capd2), (43, .string t), (44, .int .i64 (ixI (isName t) ds2)), (45, .bool true), (46, .int .i64 (j : Int)), (47, .bool true), (48, .bool true), (49, .bool true), (50, .bool true), (51, .bool true), (52, .agg #[.string d.name, .int .i64 d.mod, .bool d.fn, .bool d.weak, .bool d.here]), (53, .slice add2 ds2.length capd2), (54, .int .i64 (j : Int)), (55, .int .i64 (j : Int)), (56, .pointer (some ⟨b18, o18 + j * 5, none⟩)), (57, .agg #[.string d.name, .int .i64 d.mod, .bool d.fn, .bool d.weak, .bool d.here]), (58, .bool true), (59, .bool true), (60, .bool true), (61, undef), (62, undef), (63, undef), (64, undef), (65, undef), (66, undef), (67, undef), (68, .bool true), (69, .bool true)]) (Sub.ofEq (by kernel_rfl)) ?_
 refine WL.assign rfl rfl rfl ?_
 refine WL.nil ?_
 refine N.seq ?_
 refine W.seq ?_
 refine W.region ?_
 refine WL.move rfl rfl rfl ?_
 refine WL.move rfl rfl rfl ?_
 refine WL.move rfl rfl rfl ?_
 refine WL.pick (v := .bool true) rfl rfl rfl rfl rfl rfl ?_
 refine WL.move rfl rfl rfl ?_
 refine WL.move rfl rfl rfl ?_
 refine WL.move rfl rfl rfl ?_
 refine WL.bin rfl rfl rfl rfl rfl ?_
 refine WL.set 77 (v' := .bool true) rfl (congrArg Value.bool (show (decide ((all9 (items9 ms)).2 = (all9 (items9 ms)).2)) = true from decide_eq_true rfl)) ?_
 refine WL.pick (v := .bool true) rfl rfl rfl rfl rfl rfl ?_
 refine WL.move rfl rfl rfl ?_
 refine WL.move rfl rfl rfl ?_
 refine WL.pick (v := .bool true) rfl rfl rfl rfl rfl rfl ?_
 refine WL.assign rfl rfl rfl ?_
 refine WL.nil ?_
 refine N.seq ?_
 refine Fin.ret1 rfl (v := .bool true) rfl ?_
 exact ⟨rfl, hS.below⟩

end Go.Proofs.Ytenldpbbelhomaa
