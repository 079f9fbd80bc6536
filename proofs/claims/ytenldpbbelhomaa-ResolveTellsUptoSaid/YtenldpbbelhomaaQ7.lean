/-
  Contracts of layer 9 (resolve). No condition beyond those that each theorem states.
-/
import Derived.Test.YtenldpbbelhomaaN2
namespace Go.Proofs.Ytenldpbbelhomaa
open Go.RowKit
theorem fo_29_2 : fOff Try.prog 29 2 2 = true := by kernel_rfl
set_option maxRecDepth 10000 in
set_option maxHeartbeats 4000000 in
theorem resolveThere_ret (ms : List DMod) (vx : Value) {w : World} {ro : Nat → Prop} (hro : ∀ b, ro b → b < w.heap.size) (hx : SlV ro w 2 (ModC ro w) vx ms) (hmx : (items9 ms).length ≤ 1048576) : Ret Try.prog 3 #[vx] w fun v w' => v = .bool true ∧ Below w.heap.size w w' := by
 have hxo := hx
 obtain ⟨adl, capl, rfl, hla, hlb, hlc, hld⟩ := hxo
 have hlm : ms.length ≤ 9223372036854775807 := slv_len hx
 refine Ret.enter (P := Try.prog) (n := 146) (args := [.slice adl ms.length capl]) (σ := [(0, .slice adl ms.length capl)]) Try.func3 rfl rfl rfl rfl ?_
 have hS := St.start (ro := ro) hro
 have hsub : ∀ b, ro b → ro b ∨ w.heap.size ≤ b := fun _ h => .inl h
 have halT : Alike ro w ro w := Alike.refl
 refine W.seq ?_
 refine W.region ?_
 refine WL.assign rfl rfl rfl ?_
 refine WL.nil ?_
 refine N.seq ?_
 refine W.seq ?_
 refine W.region ?_
 refine WL.callF (vs := []) Try.func9 (by kernel_rfl) rfl rfl rfl (shown_ret) ?_
 rintro v w1 ⟨rfl, hbl⟩
 replace hS := hS.grow hbl
 refine WL.assign rfl rfl rfl ?_
 refine WL.nil ?_
 refine N.seq ?_
 refine W.seq ?_
 refine W.region ?_
 refine WL.move rfl rfl rfl ?_
 refine WL.callF (vs := [.slice adl ms.length capl]) Try.func10 (by kernel_rfl) rfl rfl rfl (all_ret ms _ (ro := ro) (fun b hb => (hS.snap b hb).1) (SlV.keep hx hS.alike (fun _ _ q => q.keep hS.alike)) hmx (items_ok hx)) ?_
 rintro v w2 ⟨sv, rfl, hdv, hbl⟩
 have hal3 := hS.alikeTo hbl (ro' := (roFrom ro w1 w2)) (fun b hb => .inl hb)
 replace hsub : ∀ b, (roFrom ro w1 w2) b → ro b ∨ w.heap.size ≤ b := fun b hb => hb.elim (hsub b) (fun h => .inr (Nat.le_trans hS.below.size h.1))
 replace halT := halT.trans hal3
 replace hld : Elems (roFrom ro w1 w2) w2 2 (ModC (roFrom ro w1 w2) w2) adl ms := hld.keep hal3 (fun _ _ h => h.keep hal3)
 replace hx : SlV (roFrom ro w1 w2) w2 2 (ModC (roFrom ro w1 w2) w2) (.slice adl ms.length capl) ms := SlV.keep hx hal3 (fun _ _ h => h.keep hal3)
 replace hS := hS.readNew hbl
 obtain ⟨ds, hds⟩ : ∃ ds, ds = (all9 (items9 ms)).1 := ⟨_, rfl⟩
 rw [← hds] at hdv
 obtain ⟨add, capd, rfl, hda, hdb, hdc, hdd⟩ := id hdv
 have hdm : ds.length ≤ 9223372036854775807 := by have h1 := hda; have h2 := hdb; unfold maxLen at h2; omega
 refine WL.move rfl rfl rfl ?_
 refine WL.extract (v := .slice add ds.length capd) rfl rfl rfl rfl ?_
 refine WL.extract (v := .int .i64 ((all9 (items9 ms)).2)) rfl rfl rfl rfl ?_
 refine WL.assign rfl rfl rfl ?_
 refine WL.assign rfl rfl rfl ?_
 refine WL.nil ?_
 refine N.seq ?_
 refine W.seq ?_
 refine W.seq ?_
 refine W.region ?_
 refine WL.move rfl rfl rfl ?_
 refine WL.bin rfl rfl rfl rfl rfl ?_
 refine WL.nil ?_
 refine N.seq ?_
 refine W.cond rfl (fun hc4 => ?_) (fun hc4 => ?_)
 ·
  have hc4p : ¬ ((all9 (items9 ms)).2 = 0) := by simpa using hc4
  refine W.seq ?_
  refine W.region ?_
  refine WL.move rfl rfl rfl ?_
  refine WL.assign rfl rfl rfl ?_
  refine WL.nil ?_
  refine N.seq ?_
  refine Fin.ret1 rfl (v := .bool true) rfl ?_
  exact ⟨rfl, hS.below⟩
 have hc4p : (all9 (items9 ms)).2 = 0 := by simpa using hc4
 refine W.skip ?_
 refine N.seq ?_
 refine W.seq ?_
 refine W.seq ?_
 refine W.region ?_
 refine WL.assign rfl rfl rfl ?_
 refine WL.nil ?_
 refine N.seq ?_
 refine W.block ?_
 have hok : (all9 (items9 ms)).2 = 0 := by simpa using hc4p
 refine W.loop (α := Nat) (fun (k : Nat) => [(0, .slice adl ms.length capl), (3, .bool true), (4, .slice add ds.length capd), (5, .int .i64 ((all9 (items9 ms)).2)), (6, .int .i64 (k : Int)), (12, .bool true), (13, .tuple #[.slice add ds.length capd, .int .i64 ((all9 (items9 ms)).2)]), (14, .slice adl ms.length capl), (15, .tuple #[.slice add ds.length capd, .int .i64 ((all9 (items9 ms)).2)]), (16, .slice add ds.length capd), (17, .int .i64 ((all9 (items9 ms)).2)), (18, .int .i64 ((all9 (items9 ms)).2)), (19, .bool (!decide ((all9 (items9 ms)).2 = 0)))]) (fun (k : Nat) u => St w w2 u (roFrom ro w1 w2) [] [] ∧ k ≤ ds.length) (fun (k : Nat) => ds.length - k) 0 ⟨rfl, rfl, rfl, rfl, rfl, rfl, rfl, rfl, rfl, rfl, rfl, rfl, rfl, trivial⟩ ⟨hS, Nat.zero_le _⟩ ?_
 clear hS
 rintro k w5 ⟨hS, hk⟩
 refine W.seq ?_
 refine W.seq ?_
 refine W.region ?_
 refine WL.move rfl rfl rfl ?_
 refine WL.move rfl rfl rfl ?_
 refine WL.lenSlice Try.underlying24 rfl rfl rfl ?_
 refine WL.bin rfl rfl rfl rfl rfl ?_
 refine WL.nil ?_
 refine N.seq ?_
 refine W.cond rfl (fun hc6 => ?_) (fun hc6 => ?_)
 ·
  have hc6p : (k : Int) < (ds.length : Int) := by simpa using hc6
  refine W.skip ?_
  refine N.seq ?_
  refine W.seq ?_
  refine W.block ?_
  refine W.seq ?_
  refine W.region ?_
  refine WL.move rfl rfl rfl ?_
  refine WL.move rfl rfl rfl ?_
  have hj7 : k < ds.length := by omega
  obtain ⟨x7, hx7⟩ : ∃ zz, ds[k]? = some zz := ⟨_, List.getElem?_eq_getElem hj7⟩
  obtain ⟨b7, o7, cs7, hE7, hr7, hl7, hc7, hQ7⟩ := hdd k _ hx7
  obtain ⟨rfl, hdn7, hdm7⟩ := hQ7
  refine WL.indexAddrE (j := k) Try.underlying24 isz_29 rfl rfl rfl rfl hj7 hE7 ?_
  refine WL.loadN (cs := [.string x7.name, .int .i64 x7.mod, .bool x7.fn, .bool x7.weak, .bool x7.here]) agg_29 rfl rfl rfl rfl (hS.roCells hr7 hc7) ?_
  refine WL.alloc (tyZero_spec zer_29) rfl rfl hS ?_
  clear hS; intro w9 b8 hb_b8 hS
  refine WL.store (cs := [.string x7.name, .int .i64 x7.mod, .bool x7.fn, .bool x7.weak, .bool x7.here]) (c' := #[.string x7.name, .int .i64 x7.mod, .bool x7.fn, .bool x7.weak, .bool x7.here]) (L' := [(b8, .cells #[.string x7.name, .int .i64 x7.mod, .bool x7.fn, .bool x7.weak, .bool x7.here] 29 (0, 0))]) 0 rfl rfl rfl rfl siz_29 rfl rfl rfl rfl rfl hS ?_
  clear hS; intro w10 hS
  refine WL.nil ?_
  refine N.seq ?_
  refine W.seq ?_
  refine W.seq ?_
  obtain ⟨hW, i, m, hmod, hmi, hT⟩ := there9 hok (d := x7) (by rw [← hds]; exact List.mem_of_getElem? hx7)
  have hil : i < ms.length := (List.getElem?_eq_some_iff.1 hmi).1
  refine W.region ?_
  refine WL.fieldAddr fo_29_4 rfl rfl rfl ?_
  refine WL.load1 (v := .bool x7.here) one_4 rfl rfl rfl (hS.cell 0 rfl rfl) ?_
  refine WL.not rfl rfl rfl ?_
  refine WL.nil ?_
  refine N.seq ?_
  refine W.cond rfl (fun hc11 => ?_) (fun hc11 => ?_)
  ·
   have hnw : (!x7.weak) = false := by rw [hW (by simpa using hc11)]; rfl
   refine W.seq ?_
   refine W.seq ?_
   refine W.region ?_
   refine WL.fieldAddr fo_29_3 rfl rfl rfl ?_
   refine WL.load1 (v := .bool x7.weak) one_4 rfl rfl rfl (hS.cell 0 rfl rfl) ?_
   refine WL.not rfl rfl rfl ?_
   refine WL.set 36 (v' := .bool false) rfl (by rw [hnw]) ?_
   refine WL.nil ?_
   refine N.seq ?_
   refine W.condF rfl ?_
   refine W.skip ?_
   refine N.seq ?_
   refine W.exit ?_
   refine X.seq ?_
   refine X.blk ?_
   refine N.seq ?_
   refine W.region ?_
   refine WL.move rfl rfl rfl ?_
   refine WL.add (c := (k : Int) + 1) rfl rfl rfl rfl (rfl) (by omega) ?_
   refine WL.assign rfl rfl rfl ?_
   refine WL.nil ?_
   have hS := hS.dropN 1
   exact N.loop (k + 1) ⟨rfl, rfl, rfl, rfl, rfl, rfl, rfl, rfl, rfl, rfl, rfl, rfl, rfl, trivial⟩ ⟨hS, by omega⟩ (by first | omega | (simp only; omega))
  refine W.skip ?_
  refine N.seq ?_
  refine W.seq ?_
  refine W.seq ?_
  refine W.region ?_
  refine WL.fieldAddr fo_29_1 rfl rfl rfl ?_
  refine WL.load1 (v := .int .i64 x7.mod) one_3 rfl rfl rfl (hS.cell 0 rfl rfl) ?_
  refine WL.bin rfl rfl rfl rfl rfl ?_
  refine WL.set 39 (v' := .bool false) rfl (congrArg Value.bool (show (decide (x7.mod < 0)) = false from decide_eq_false (by omega))) ?_
  refine WL.move rfl rfl rfl ?_
  refine WL.fieldAddr fo_29_1 rfl rfl rfl ?_
  refine WL.load1 (v := .int .i64 x7.mod) one_3 rfl rfl rfl (hS.cell 0 rfl rfl) ?_
  refine WL.move rfl rfl rfl ?_
  refine WL.lenSlice Try.underlying22 rfl rfl rfl ?_
  refine WL.bin rfl rfl rfl rfl rfl ?_
  refine WL.set 45 (v' := .bool false) rfl (congrArg Value.bool (show (decide ((ms.length : Int) ≤ x7.mod)) = false from decide_eq_false (by omega))) ?_
  refine WL.pick (v := .bool false) rfl rfl rfl rfl rfl rfl ?_
  refine WL.nil ?_
  refine N.seq ?_
  refine W.condF rfl ?_
  refine W.skip ?_
  refine N.seq ?_
  refine W.seq ?_
  refine W.region ?_
  refine WL.move rfl rfl rfl ?_
  refine WL.fieldAddr fo_29_1 rfl rfl rfl ?_
  refine WL.load1 (v := .int .i64 x7.mod) one_3 rfl rfl rfl (hS.cell 0 rfl rfl) ?_
  have hj12 : i < ms.length := (List.getElem?_eq_some_iff.1 hmi).1
  have hx12 := hmi
  obtain ⟨b12, o12, cs12, hE12, hr12, hl12, hc12, hQ12⟩ := hld i _ hmi
  obtain ⟨sf12, sg12, rfl, hfs12, hgs12⟩ := id hQ12
  obtain ⟨adf12, capf12, rfl, hfs12a, hfs12b, hfs12c, hfs12d⟩ := id hfs12
  have hfs12m : m.funcs.length ≤ 9223372036854775807 := by have h1 := hfs12a; have h2 := hfs12b; unfold maxLen at h2; omega
  obtain ⟨adg12, capg12, rfl, hgs12a, hgs12b, hgs12c, hgs12d⟩ := id hgs12
  have hgs12m : m.globs.length ≤ 9223372036854775807 := by have h1 := hgs12a; have h2 := hgs12b; unfold maxLen at h2; omega
  refine WL.set 49 (v' := .int .i64 (i : Int)) rfl (by rw [hmod]) ?_
  refine WL.indexAddrE (j := i) Try.underlying22 isz_33 rfl rfl rfl rfl hj12 hE12 ?_
  refine WL.loadN (cs := [.slice adf12 m.funcs.length capf12, .slice adg12 m.globs.length capg12]) agg_33 rfl rfl rfl rfl (hS.roCells hr12 hc12) ?_
  refine WL.alloc (tyZero_spec zer_33) rfl rfl hS ?_
  clear hS; intro w14 b13 hb_b13 hS
  refine WL.store (cs := [.slice adf12 m.funcs.length capf12, .slice adg12 m.globs.length capg12]) (c' := #[.slice adf12 m.funcs.length capf12, .slice adg12 m.globs.length capg12]) (L' := [(b13, .cells #[.slice adf12 m.funcs.length capf12, .slice adg12 m.globs.length capg12] 33 (0, 0)), (b8, .cells #[.string x7.name, .int .i64 x7.mod, .bool x7.fn, .bool x7.weak, .bool x7.here] 29 (0, 0))]) 0 rfl rfl rfl rfl siz_33 rfl rfl rfl rfl rfl hS ?_
  clear hS; intro w15 hS
  refine WL.nil ?_
  refine N.seq ?_
  refine W.seq ?_
  refine W.region ?_
  refine WL.assign rfl rfl rfl ?_
  refine WL.nil ?_
  refine N.seq ?_
  refine W.seq ?_
  refine W.seq ?_
  refine W.region ?_
  refine WL.assign rfl rfl rfl ?_
  refine WL.nil ?_
  refine N.seq ?_
  refine W.block ?_
  refine W.loop (α := Nat × Bool) (fun ⟨kf, bf⟩ => [(0, .slice adl ms.length capl), (3, .bool true), (4, .slice add ds.length capd), (5, .int .i64 ((all9 (items9 ms)).2)), (6, .int .i64 (k : Int)), (7, .pointer (some ⟨b8, 0, none⟩)), (8, .pointer (some ⟨b13, 0, none⟩)), (9, .bool bf), (10, .int .i64 (kf : Int)), (12, .bool true), (13, .tuple #[.slice add ds.length capd, .int .i64 ((all9 (items9 ms)).2)]), (14, .slice adl ms.length capl), (15, .tuple #[.slice add ds.length capd, .int .i64 ((all9 (items9 ms)).2)]), (16, .slice add ds.length capd), (17, .int .i64 ((all9 (items9 ms)).2)), (18, .int .i64 ((all9 (items9 ms)).2)), (19, .bool (!decide ((all9 (items9 ms)).2 = 0))), (21, .int .i64 (k : Int)), (22, .slice add ds.length capd), (23, .int .i64 (ds.length : Int)), (24, .bool (decide ((k : Int) < (ds.length : Int)))), (27, .slice add ds.length capd), (28, .int .i64 (k : Int)), (29, .pointer (some ⟨b7, o7 + k * 5, none⟩)), (30, .agg #[.string x7.name, .int .i64 x7.mod, .bool x7.fn, .bool x7.weak, .bool x7.here]), (31, .pointer (some ⟨b8, 4, none⟩)), (32, .bool x7.here), (33, .bool (!x7.here)), (37, .pointer (some ⟨b8, 1, none⟩)), (38, .int .i64 x7.mod), (39, .bool false), (40, .bool false), (41, .pointer (some ⟨b8, 1, none⟩)), (42, .int .i64 x7.mod), (43, .slice adl ms.length capl), (44, .int .i64 (ms.length : Int)), (45, .bool false), (46, .bool false), (47, .slice adl ms.length capl), (48, .pointer (some ⟨b8, 1, none⟩)), (49, .int .i64 (i : Int)), (50, .pointer (some ⟨b12, o12 + i * 2, none⟩)), (51, .agg #[.slice adf12 m.funcs.length capf12, .slice adg12 m.globs.length capg12])]) (fun ⟨kf, bf⟩ u => St w w2 u (roFrom ro w1 w2) [(b13, .cells #[.slice adf12 m.funcs.length capf12, .slice adg12 m.globs.length capg12] 33 (0, 0)), (b8, .cells #[.string x7.name, .int .i64 x7.mod, .bool x7.fn, .bool x7.weak, .bool x7.here] 29 (0, 0))] [] ∧ kf ≤ m.funcs.length ∧ bf = ((m.funcs.take kf).any (pF9 x7))) (fun ⟨kf, bf⟩ => m.funcs.length - kf) (0, false) ⟨rfl, rfl, rfl, rfl, rfl, rfl, rfl, rfl, rfl, rfl, rfl, rfl, rfl, rfl, rfl, rfl, rfl, rfl, rfl, rfl, rfl, rfl, rfl, rfl, rfl, rfl, rfl, rfl, rfl, rfl, rfl, rfl, rfl, rfl, rfl, rfl, rfl, rfl, rfl, rfl, rfl, rfl, rfl, trivial⟩ ⟨hS, Nat.zero_le _, by simp⟩ ?_
  clear hS
  rintro ⟨kf, bf⟩ w16 ⟨hS, hkf, hb⟩
  refine W.seq ?_
  refine W.seq ?_
  refine W.region ?_
  refine WL.move rfl rfl rfl ?_
  refine WL.fieldAddr fo_33_0 rfl rfl rfl ?_
  refine WL.load1 (v := .slice adf12 m.funcs.length capf12) one_30 rfl rfl rfl (hS.cell 0 rfl rfl) ?_
  refine WL.lenSlice Try.underlying30 rfl rfl rfl ?_
  refine WL.bin rfl rfl rfl rfl rfl ?_
  refine WL.nil ?_
  refine N.seq ?_
  refine W.cond rfl (fun hc17 => ?_) (fun hc17 => ?_)
  ·
   have hc17p : (kf : Int) < (m.funcs.length : Int) := by simpa using hc17
   refine W.skip ?_
   refine N.seq ?_
   refine W.seq ?_
   refine W.block ?_
   rcases (Bool.eq_false_or_eq_true bf).symm with hg18 | hg18
   ·
    refine W.set 9 (v' := .bool false) rfl (by rw [hg18]) ?_
    rcases (Bool.eq_false_or_eq_true x7.fn).symm with hg19 | hg19
    ·
     refine W.drawL (by kernel_rfl) 39 ((.q (.bool false)) :: (.q (.bool false)) :: (.q (.pointer (some ⟨b8, 2, none⟩))) :: (.q (.bool false)) :: (.q (.bool false)) :: (.q undef) :: (.q undef) :: (.q undef) :: (.q undef) :: (.q undef) :: (.q undef) :: (.q undef) :: (.q undef) :: (.q undef) :: (.q (.bool false)) :: (.q (.bool false)) :: (.q undef) :: (.q undef) :: (.q undef) :: (.q undef) :: (.q undef) :: (.q undef) :: (.q undef) :: (.q undef) :: (.q (.bool false)) :: (.q (.bool false)) :: (.q undef) :: (.q undef) :: (.q undef) :: (.q undef) :: (.q undef) :: (.q undef) :: (.q undef) :: (.q undef) :: (.q undef) :: (.q undef) :: (.q undef) :: (.q (.bool false)) :: (.q (.bool false)) :: []) (by kernel_rfl) (by kernel_rfl) [(0, .slice adl ms.length capl), (3, .bool true), (4, .slice add ds.length capd), (5, .int .i64 ((all9 (items9 ms)).2)), (6, .int .i64 (k : Int)), (7, .pointer (some ⟨b8, 0, none⟩)), (8, .pointer (some ⟨b13, 0, none⟩)), (9, .bool false), (10, .int .i64 (kf : Int)), (12, .bool true), (13, .tuple #[.slice add ds.length capd, .int .i64 ((all9 (items9 ms)).2)]), (14, .slice adl ms.length capl), (15, .tuple #[.slice add ds.length capd, .int .i64 ((all9 (items9 ms)).2)]), (16, .slice add ds.length capd), (17, .int .i64 ((all9 (items9 ms)).2)), (18, .int .i64 ((all9 (items9 ms)).2)), (19, .bool (!decide ((all9 (items9 ms)).2 = 0))), (21, .int .i64 (k : Int)), (22, .slice add ds.length capd), (23, .int .i64 (ds.length : Int)), (24, .bool (decide ((k : Int) < (ds.length : Int)))), (27, .slice add ds.length capd), (28, .int .i64 (k : Int)), (29, .pointer (some ⟨b7, o7 + k * 5, none⟩)), (30, .agg #[.string x7.name, .int .i64 x7.mod, .bool x7.fn, .bool x7.weak, .bool x7.here]), (31, .pointer (some ⟨b8, 4, none⟩)), (32, .bool x7.here), (33, .bool (!x7.here)), (37, .pointer (some ⟨b8, 1, none⟩)), (38, .int .i64 x7.mod), (39, .bool false), (40, .bool false), (41, .pointer (some ⟨b8, 1, none⟩)), (42, .int .i64 x7.mod), (43, .slice adl ms.length capl), (44, .int .i64 (ms.length : Int)), (45, .bool false), (46, .bool false), (47, .slice adl ms.length capl), (48, .pointer (some ⟨b8, 1, none⟩)), (49, .int .i64 (i : Int)), (50, .pointer (some ⟨b12, o12 + i * 2, none⟩)), (51, .agg #[.slice adf12 m.funcs.length capf12, .slice adg12 m.globs.length capg12]), (52, .int .i64 (kf : Int)), (53, .pointer (some ⟨b13, 0, none⟩)), (54, .slice adf12 m.funcs.length capf12), (55, .int .i64 (m.funcs.length : Int)), (56, .bool (decide ((kf : Int) < (m.funcs.length : Int))))] ⟨rfl, rfl, rfl, rfl, rfl, rfl, rfl, rfl, rfl, rfl, rfl, rfl, rfl, rfl, rfl, rfl, rfl, rfl, rfl, rfl, rfl, rfl, rfl, rfl, rfl, rfl, rfl, rfl, rfl, rfl, rfl, rfl, rfl, rfl, rfl, rfl, rfl, rfl, rfl, rfl, rfl, rfl, rfl, rfl, rfl, rfl, rfl, rfl, trivial⟩ (by kernel_rfl) hS ?_ ?_
     ·
      refine And.intro (fun β w hS => ?_) ?_
      ·
       refine WL.sub (σ' := [(9, .bool false)]) ⟨rfl, trivial⟩ ?_
       refine WL.move rfl rfl rfl ?_
       exact WL.nil (N.cut () ⟨rfl, trivial⟩ (Below.refl _ _))
      refine And.intro (fun β w hS => ?_) ?_
      ·
       refine WL.sub (σ' := [(59, .bool false)]) ⟨rfl, trivial⟩ ?_
       refine WL.move rfl rfl rfl ?_
       exact WL.nil (N.cut () ⟨rfl, trivial⟩ (Below.refl _ _))
      refine And.intro (fun β w hS => ?_) ?_
      ·
       refine WL.sub (σ' := [(7, .pointer (some ⟨b8, 0, none⟩)), (60, .bool false)]) ⟨rfl, rfl, trivial⟩ ?_
       refine WL.fieldAddr fo_29_2 rfl rfl rfl ?_
       exact WL.nil (N.cut () ⟨rfl, trivial⟩ (Below.refl _ _))
      refine And.intro (fun β w hS => ?_) ?_
      ·
       refine WL.sub (σ' := [(60, .bool false), (61, .pointer (some ⟨b8, 2, none⟩))]) ⟨rfl, rfl, trivial⟩ ?_
       refine WL.load1 (v := .bool x7.fn) one_4 rfl rfl rfl (hS.cell 1 rfl rfl) ?_
       refine WL.set 62 (v' := .bool false) rfl (by rw [hg19]) ?_
       exact WL.nil (N.cut () ⟨rfl, trivial⟩ (Below.refl _ _))
      refine And.intro (fun β w hS => ?_) ?_
      ·
       refine WL.sub (σ' := [(60, .bool false), (62, .bool false)]) ⟨rfl, rfl, trivial⟩ ?_
       refine WL.move rfl rfl rfl ?_
       exact WL.nil (N.cut () ⟨rfl, trivial⟩ (Below.refl _ _))
      refine And.intro (fun β w hS => ?_) ?_
      ·
       refine WL.sub (σ' := [(8, .pointer (some ⟨b13, 0, none⟩)), (63, .bool false)]) ⟨rfl, rfl, trivial⟩ ?_
       refine WL.skp rfl rfl ?_
       exact WL.nil (N.cut () ⟨rfl, trivial⟩ (Below.refl _ _))
      refine And.intro (fun β w hS => ?_) ?_
      ·
       refine WL.sub (σ' := [(63, .bool false), (64, undef)]) ⟨rfl, rfl, trivial⟩ ?_
       refine WL.skp rfl rfl ?_
       exact WL.nil (N.cut () ⟨rfl, trivial⟩ (Below.refl _ _))
      refine And.intro (fun β w hS => ?_) ?_
      ·
       refine WL.sub (σ' := [(10, .int .i64 (kf : Int)), (63, .bool false)]) ⟨rfl, rfl, trivial⟩ ?_
       refine WL.skp rfl rfl ?_
       exact WL.nil (N.cut () ⟨rfl, trivial⟩ (Below.refl _ _))
      refine And.intro (fun β w hS => ?_) ?_
      ·
       refine WL.sub (σ' := [(63, .bool false), (65, undef), (66, undef)]) ⟨rfl, rfl, rfl, trivial⟩ ?_
       refine WL.skp rfl rfl ?_
       exact WL.nil (N.cut () ⟨rfl, trivial⟩ (Below.refl _ _))
      refine And.intro (fun β w hS => ?_) ?_
      ·
       refine WL.sub (σ' := [(63, .bool false), (67, undef)]) ⟨rfl, rfl, trivial⟩ ?_
       refine WL.skp rfl rfl ?_
       exact WL.nil (N.cut () ⟨rfl, trivial⟩ (Below.refl _ _))
      refine And.intro (fun β w hS => ?_) ?_
      ·
       refine WL.sub (σ' := [(63, .bool false), (68, undef)]) ⟨rfl, rfl, trivial⟩ ?_
       refine WL.skp rfl rfl ?_
       exact WL.nil (N.cut () ⟨rfl, trivial⟩ (Below.refl _ _))
      refine And.intro (fun β w hS => ?_) ?_
      ·
       refine WL.sub (σ' := [(7, .pointer (some ⟨b8, 0, none⟩)), (63, .bool false)]) ⟨rfl, rfl, trivial⟩ ?_
       refine WL.skp rfl rfl ?_
       exact WL.nil (N.cut () ⟨rfl, trivial⟩ (Below.refl _ _))
      refine And.intro (fun β w hS => ?_) ?_
      ·
       refine WL.sub (σ' := [(63, .bool false), (70, undef)]) ⟨rfl, rfl, trivial⟩ ?_
       refine WL.skp rfl rfl ?_
       exact WL.nil (N.cut () ⟨rfl, trivial⟩ (Below.refl _ _))
      refine And.intro (fun β w hS => ?_) ?_
      ·
       refine WL.sub (σ' := [(63, .bool false), (69, undef), (71, undef)]) ⟨rfl, rfl, rfl, trivial⟩ ?_
       refine WL.skp rfl rfl ?_
       exact WL.nil (N.cut () ⟨rfl, trivial⟩ (Below.refl _ _))
      refine And.intro (fun β w hS => ?_) ?_
      ·
       refine WL.sub (σ' := [(60, .bool false), (63, .bool false), (72, undef)]) ⟨rfl, rfl, rfl, trivial⟩ ?_
       refine WL.pick (v := .bool false) rfl rfl rfl rfl rfl rfl ?_
       exact WL.nil (N.cut () ⟨rfl, trivial⟩ (Below.refl _ _))
      refine And.intro (fun β w hS => ?_) ?_
      ·
       refine WL.sub (σ' := [(60, .bool false), (73, .bool false)]) ⟨rfl, rfl, trivial⟩ ?_
       refine WL.move rfl rfl rfl ?_
       exact WL.nil (N.cut () ⟨rfl, trivial⟩ (Below.refl _ _))
      refine And.intro (fun β w hS => ?_) ?_
      ·
       refine WL.sub (σ' := [(8, .pointer (some ⟨b13, 0, none⟩)), (74, .bool false)]) ⟨rfl, rfl, trivial⟩ ?_
       refine WL.skp rfl rfl ?_
       exact WL.nil (N.cut () ⟨rfl, trivial⟩ (Below.refl _ _))
      refine And.intro (fun β w hS => ?_) ?_
      ·
       refine WL.sub (σ' := [(74, .bool false), (75, undef)]) ⟨rfl, rfl, trivial⟩ ?_
       refine WL.skp rfl rfl ?_
       exact WL.nil (N.cut () ⟨rfl, trivial⟩ (Below.refl _ _))
      refine And.intro (fun β w hS => ?_) ?_
      ·
       refine WL.sub (σ' := [(10, .int .i64 (kf : Int)), (74, .bool false)]) ⟨rfl, rfl, trivial⟩ ?_
       refine WL.skp rfl rfl ?_
       exact WL.nil (N.cut () ⟨rfl, trivial⟩ (Below.refl _ _))
      refine And.intro (fun β w hS => ?_) ?_
      ·
       refine WL.sub (σ' := [(74, .bool false), (76, undef), (77, undef)]) ⟨rfl, rfl, rfl, trivial⟩ ?_
       refine WL.skp rfl rfl ?_
       exact WL.nil (N.cut () ⟨rfl, trivial⟩ (Below.refl _ _))
      refine And.intro (fun β w hS => ?_) ?_
      ·
       refine WL.sub (σ' := [(74, .bool false), (78, undef)]) ⟨rfl, rfl, trivial⟩ ?_
       refine WL.skp rfl rfl ?_
       exact WL.nil (N.cut () ⟨rfl, trivial⟩ (Below.refl _ _))
      refine And.intro (fun β w hS => ?_) ?_
      ·
       refine WL.sub (σ' := [(74, .bool false), (79, undef)]) ⟨rfl, rfl, trivial⟩ ?_
       refine WL.skp rfl rfl ?_
       exact WL.nil (N.cut () ⟨rfl, trivial⟩ (Below.refl _ _))
      refine And.intro (fun β w hS => ?_) ?_
      ·
       refine WL.sub (σ' := [(74, .bool false), (80, undef)]) ⟨rfl, rfl, trivial⟩ ?_
       refine WL.skp rfl rfl ?_
       exact WL.nil (N.cut () ⟨rfl, trivial⟩ (Below.refl _ _))
      refine And.intro (fun β w hS => ?_) ?_
      ·
       refine WL.sub (σ' := [(74, .bool false), (81, undef)]) ⟨rfl, rfl, trivial⟩ ?_
       refine WL.skp rfl rfl ?_
       exact WL.nil (N.cut () ⟨rfl, trivial⟩ (Below.refl _ _))
      refine And.intro (fun β w hS => ?_) ?_
      ·
       refine WL.sub (σ' := [(60, .bool false), (74, .bool false), (82, undef)]) ⟨rfl, rfl, rfl, trivial⟩ ?_
       refine WL.pick (v := .bool false) rfl rfl rfl rfl rfl rfl ?_
       exact WL.nil (N.cut () ⟨rfl, trivial⟩ (Below.refl _ _))
      refine And.intro (fun β w hS => ?_) ?_
      ·
       refine WL.sub (σ' := [(60, .bool false), (83, .bool false)]) ⟨rfl, rfl, trivial⟩ ?_
       refine WL.move rfl rfl rfl ?_
       exact WL.nil (N.cut () ⟨rfl, trivial⟩ (Below.refl _ _))
      refine And.intro (fun β w hS => ?_) ?_
      ·
       refine WL.sub (σ' := [(7, .pointer (some ⟨b8, 0, none⟩)), (84, .bool false)]) ⟨rfl, rfl, trivial⟩ ?_
       refine WL.skp rfl rfl ?_
       exact WL.nil (N.cut () ⟨rfl, trivial⟩ (Below.refl _ _))
      refine And.intro (fun β w hS => ?_) ?_
      ·
       refine WL.sub (σ' := [(84, .bool false), (85, undef)]) ⟨rfl, rfl, trivial⟩ ?_
       refine WL.skp rfl rfl ?_
       exact WL.nil (N.cut () ⟨rfl, trivial⟩ (Below.refl _ _))
      refine And.intro (fun β w hS => ?_) ?_
      ·
       refine WL.sub (σ' := [(84, .bool false), (86, undef)]) ⟨rfl, rfl, trivial⟩ ?_
       refine WL.skp rfl rfl ?_
       exact WL.nil (N.cut () ⟨rfl, trivial⟩ (Below.refl _ _))
      refine And.intro (fun β w hS => ?_) ?_
      ·
       refine WL.sub (σ' := [(8, .pointer (some ⟨b13, 0, none⟩)), (87, undef)]) ⟨rfl, rfl, trivial⟩ ?_
       refine WL.skp rfl rfl ?_
       exact WL.nil (N.cut () ⟨rfl, trivial⟩ (Below.refl _ _))
      refine And.intro (fun β w hS => ?_) ?_
      ·
       refine WL.sub (σ' := [(87, undef), (88, undef)]) ⟨rfl, rfl, trivial⟩ ?_
       refine WL.skp rfl rfl ?_
       exact WL.nil (N.cut () ⟨rfl, trivial⟩ (Below.refl _ _))
      refine And.intro (fun β w hS => ?_) ?_
      ·
       refine WL.sub (σ' := [(10, .int .i64 (kf : Int)), (87, undef)]) ⟨rfl, rfl, trivial⟩ ?_
       refine WL.skp rfl rfl ?_
       exact WL.nil (N.cut () ⟨rfl, trivial⟩ (Below.refl _ _))
      refine And.intro (fun β w hS => ?_) ?_
      ·
       refine WL.sub (σ' := [(87, undef), (89, undef), (90, undef)]) ⟨rfl, rfl, rfl, trivial⟩ ?_
       refine WL.skp rfl rfl ?_
       exact WL.nil (N.cut () ⟨rfl, trivial⟩ (Below.refl _ _))
      refine And.intro (fun β w hS => ?_) ?_
      ·
       refine WL.sub (σ' := [(87, undef), (91, undef)]) ⟨rfl, rfl, trivial⟩ ?_
       refine WL.skp rfl rfl ?_
       exact WL.nil (N.cut () ⟨rfl, trivial⟩ (Below.refl _ _))
      refine And.intro (fun β w hS => ?_) ?_
      ·
       refine WL.sub (σ' := [(87, undef), (92, undef)]) ⟨rfl, rfl, trivial⟩ ?_
       refine WL.skp rfl rfl ?_
       exact WL.nil (N.cut () ⟨rfl, trivial⟩ (Below.refl _ _))
      refine And.intro (fun β w hS => ?_) ?_
      ·
       refine WL.sub (σ' := [(87, undef), (93, undef)]) ⟨rfl, rfl, trivial⟩ ?_
       refine WL.skp rfl rfl ?_
       exact WL.nil (N.cut () ⟨rfl, trivial⟩ (Below.refl _ _))
      refine And.intro (fun β w hS => ?_) ?_
      ·
       refine WL.sub (σ' := [(84, .bool false), (87, undef), (94, undef)]) ⟨rfl, rfl, rfl, trivial⟩ ?_
       refine WL.skp rfl rfl ?_
       exact WL.nil (N.cut () ⟨rfl, trivial⟩ (Below.refl _ _))
      refine And.intro (fun β w hS => ?_) ?_
      ·
       refine WL.sub (σ' := [(60, .bool false), (84, .bool false), (95, undef)]) ⟨rfl, rfl, rfl, trivial⟩ ?_
       refine WL.pick (v := .bool false) rfl rfl rfl rfl rfl rfl ?_
       exact WL.nil (N.cut () ⟨rfl, trivial⟩ (Below.refl _ _))
      refine And.intro (fun β w hS => ?_) ?_
      ·
       refine WL.sub (σ' := [(60, .bool false), (96, .bool false)]) ⟨rfl, rfl, trivial⟩ ?_
       refine WL.pick (v := .bool false) rfl rfl rfl rfl rfl rfl ?_
       exact WL.nil (N.cut () ⟨rfl, trivial⟩ (Below.refl _ _))
      trivial
     clear hS; intro w20 β hS
     refine WL.sub (σ' := [(0, .slice adl ms.length capl), (3, .bool true), (4, .slice add ds.length capd), (5, .int .i64 ((all9 (items9 ms)).2)), (6, .int .i64 (k : Int)), (7, .pointer (some ⟨b8, 0, none⟩)), (8, .pointer (some ⟨b13, 0, none⟩)), (9, .bool false), (10, .int .i64 (kf : Int)), (12, .bool true), (13, .tuple #[.slice add ds.length capd, .int .i64 ((all9 (items9 ms)).2)]), (14, .slice adl ms.length capl), (15, .tuple #[.slice add ds.length capd, .int .i64 ((all9 (items9 ms)).2)]), (16, .slice add ds.length capd), (17, .int .i64 ((all9 (items9 ms)).2)), (18, .int .i64 ((all9 (items9 ms)).2)), (19, .bool (!decide ((all9 (items9 ms)).2 = 0))), (21, .int .i64 (k : Int)), (22, .slice add ds.length capd), (23, .int .i64 (ds.length : Int)), (24, .bool (decide ((k : Int) < (ds.length : Int)))), (27, .slice add ds.length capd), (28, .int .i64 (k : Int)), (29, .pointer (some ⟨b7, o7 + k * 5, none⟩)), (30, .agg #[.string x7.name, .int .i64 x7.mod, .bool x7.fn, .bool x7.weak, .bool x7.here]), (31, .pointer (some ⟨b8, 4, none⟩)), (32, .bool x7.here), (33, .bool (!x7.here)), (37, .pointer (some ⟨b8, 1, none⟩)), (38, .int .i64 x7.mod), (39, .bool false), (40, .bool false), (41, .pointer (some ⟨b8, 1, none⟩)), (42, .int .i64 x7.mod), (43, .slice adl ms.length capl), (44, .int .i64 (ms.length : Int)), (45, .bool false), (46, .bool false), (47, .slice adl ms.length capl), (48, .pointer (some ⟨b8, 1, none⟩)), (49, .int .i64 (i : Int)), (50, .pointer (some ⟨b12, o12 + i * 2, none⟩)), (51, .agg #[.slice adf12 m.funcs.length capf12, .slice adg12 m.globs.length capg12]), (52, .int .i64 (kf : Int)), (53, .pointer (some ⟨b13, 0, none⟩)), (54, .slice adf12 m.funcs.length capf12), (55, .int .i64 (m.funcs.length : Int)), (56, .bool (decide ((kf : Int) < (m.funcs.length : Int)))), (59, .bool false), (60, .bool false), (61, .pointer (some ⟨b8, 2, none⟩)), (62, .bool false), (63, .bool false), (64, undef), (65, undef), (66, undef), (67, undef), (68, undef), (69, undef), (70, undef), (71, undef), (72, undef), (73, .bool false), (74, .bool false), (75, undef), (76, undef), (77, undef), (78, undef), (79, undef), (80, undef), (81, undef), (82, undef), (83, .bool false), (84, .bool false), (85, undef), (86, undef), (87, undef), (88, undef), (89, undef), (90, undef), (91, undef), (92, undef), (93, undef), (94, undef), (95, undef), (96, .bool false), (97, .bool false)]) (Sub.ofEq (by kernel_rfl)) ?_
     refine WL.assign rfl rfl rfl ?_
     refine WL.nil ?_
     refine N.blk ?_
     refine N.seq ?_
     refine W.region ?_
     refine WL.move rfl rfl rfl ?_
     refine WL.add (c := (kf : Int) + 1) rfl rfl rfl rfl (rfl) (by omega) ?_
     refine WL.assign rfl rfl rfl ?_
     refine WL.nil ?_
     have hj21 : kf < m.funcs.length := by omega
     obtain ⟨x21, hx21⟩ : ∃ zz, m.funcs[kf]? = some zz := ⟨_, List.getElem?_eq_getElem hj21⟩
     obtain ⟨b21, o21, cs21, hE21, hr21, hl21, hc21, hQ21⟩ := hfs12d kf _ hx21
     obtain ⟨sb21, rfl, hbl21, hnm21, hbd21, hpr21⟩ := id hQ21
     obtain ⟨adb21, capb21, rfl, hbk21a, hbk21b, hbk21c, hbk21d⟩ := id hbl21
     have hbk21m : x21.blocks.length ≤ 9223372036854775807 := by have h1 := hbk21a; have h2 := hbk21b; unfold maxLen at h2; omega
     have hb2 : (false : Bool) = ((m.funcs.take (kf + 1)).any (pF9 x7)) := by rw [take_next hx21, List.any_append, ← hb]; simp [pF9, hc17p, hc17, hg18, hg19] <;> (intros; first | omega | (apply List.eq_nil_of_length_eq_zero; omega))
     exact N.loop (kf + 1, false) ⟨rfl, rfl, rfl, rfl, rfl, rfl, rfl, rfl, rfl, rfl, rfl, rfl, rfl, rfl, rfl, rfl, rfl, rfl, rfl, rfl, rfl, rfl, rfl, rfl, rfl, rfl, rfl, rfl, rfl, rfl, rfl, rfl, rfl, rfl, rfl, rfl, rfl, rfl, rfl, rfl, rfl, rfl, rfl, trivial⟩ ⟨hS, by omega, hb2⟩ (by first | omega | (simp only; omega))
    have hj22 : kf < m.funcs.length := by omega
    obtain ⟨x22, hx22⟩ : ∃ zz, m.funcs[kf]? = some zz := ⟨_, List.getElem?_eq_getElem hj22⟩
    obtain ⟨b22, o22, cs22, hE22, hr22, hl22, hc22, hQ22⟩ := hfs12d kf _ hx22
    obtain ⟨sb22, rfl, hbl22, hnm22, hbd22, hpr22⟩ := id hQ22
    obtain ⟨adb22, capb22, rfl, hbk22a, hbk22b, hbk22c, hbk22d⟩ := id hbl22
    have hbk22m : x22.blocks.length ≤ 9223372036854775807 := by have h1 := hbk22a; have h2 := hbk22b; unfold maxLen at h2; omega
    rcases (Bool.eq_false_or_eq_true (decide (x22.name = x7.name))).symm with hg23 | hg23
    ·
     have hg23p : ¬ (x22.name = x7.name) := by simpa using hg23
     refine W.drawL (by kernel_rfl) 39 ((.q (.bool false)) :: (.q (.bool false)) :: (.q (.pointer (some ⟨b8, 2, none⟩))) :: (.q (.bool true)) :: (.q (.bool true)) :: (.q (.pointer (some ⟨b13, 0, none⟩))) :: (.q (.slice adf12 m.funcs.length capf12)) :: (.q (.int .i64 (kf : Int))) :: (.q (.pointer (some ⟨b22, o22 + kf * 4, none⟩))) :: (.q (.pointer (some ⟨b22, o22 + kf * 4, none⟩))) :: (.q (.string x22.name)) :: (.q (.pointer (some ⟨b8, 0, none⟩))) :: (.q (.string x7.name)) :: (.q (.bool false)) :: (.q (.bool false)) :: (.q (.bool false)) :: (.q undef) :: (.q undef) :: (.q undef) :: (.q undef) :: (.q undef) :: (.q undef) :: (.q undef) :: (.q undef) :: (.q (.bool false)) :: (.q (.bool false)) :: (.q undef) :: (.q undef) :: (.q undef) :: (.q undef) :: (.q undef) :: (.q undef) :: (.q undef) :: (.q undef) :: (.q undef) :: (.q undef) :: (.q undef) :: (.q (.bool false)) :: (.q (.bool false)) :: []) (by kernel_rfl) (by kernel_rfl) [(0, .slice adl ms.length capl), (3, .bool true), (4, .slice add ds.length capd), (5, .int .i64 ((all9 (items9 ms)).2)), (6, .int .i64 (k : Int)), (7, .pointer (some ⟨b8, 0, none⟩)), (8, .pointer (some ⟨b13, 0, none⟩)), (9, .bool false), (10, .int .i64 (kf : Int)), (12, .bool true), (13, .tuple #[.slice add ds.length capd, .int .i64 ((all9 (items9 ms)).2)]), (14, .slice adl ms.length capl), (15, .tuple #[.slice add ds.length capd, .int .i64 ((all9 (items9 ms)).2)]), (16, .slice add ds.length capd), (17, .int .i64 ((all9 (items9 ms)).2)), (18, .int .i64 ((all9 (items9 ms)).2)), (19, .bool (!decide ((all9 (items9 ms)).2 = 0))), (21, .int .i64 (k : Int)), (22, .slice add ds.length capd), (23, .int .i64 (ds.length : Int)), (24, .bool (decide ((k : Int) < (ds.length : Int)))), (27, .slice add ds.length capd), (28, .int .i64 (k : Int)), (29, .pointer (some ⟨b7, o7 + k * 5, none⟩)), (30, .agg #[.string x7.name, .int .i64 x7.mod, .bool x7.fn, .bool x7.weak, .bool x7.here]), (31, .pointer (some ⟨b8, 4, none⟩)), (32, .bool x7.here), (33, .bool (!x7.here)), (37, .pointer (some ⟨b8, 1, none⟩)), (38, .int .i64 x7.mod), (39, .bool false), (40, .bool false), (41, .pointer (some ⟨b8, 1, none⟩)), (42, .int .i64 x7.mod), (43, .slice adl ms.length capl), (44, .int .i64 (ms.length : Int)), (45, .bool false), (46, .bool false), (47, .slice adl ms.length capl), (48, .pointer (some ⟨b8, 1, none⟩)), (49, .int .i64 (i : Int)), (50, .pointer (some ⟨b12, o12 + i * 2, none⟩)), (51, .agg #[.slice adf12 m.funcs.length capf12, .slice adg12 m.globs.length capg12]), (52, .int .i64 (kf : Int)), (53, .pointer (some ⟨b13, 0, none⟩)), (54, .slice adf12 m.funcs.length capf12), (55, .int .i64 (m.funcs.length : Int)), (56, .bool (decide ((kf : Int) < (m.funcs.length : Int))))] ⟨rfl, rfl, rfl, rfl, rfl, rfl, rfl, rfl, rfl, rfl, rfl, rfl, rfl, rfl, rfl, rfl, rfl, rfl, rfl, rfl, rfl, rfl, rfl, rfl, rfl, rfl, rfl, rfl, rfl, rfl, rfl, rfl, rfl, rfl, rfl, rfl, rfl, rfl, rfl, rfl, rfl, rfl, rfl, rfl, rfl, rfl, rfl, rfl, trivial⟩ (by kernel_rfl) hS ?_ ?_
     ·
      refine And.intro (fun β w hS => ?_) ?_
      ·
       refine WL.sub (σ' := [(9, .bool false)]) ⟨rfl, trivial⟩ ?_
       refine WL.move rfl rfl rfl ?_
       exact WL.nil (N.cut () ⟨rfl, trivial⟩ (Below.refl _ _))
      refine And.intro (fun β w hS => ?_) ?_
      ·
       refine WL.sub (σ' := [(59, .bool false)]) ⟨rfl, trivial⟩ ?_
       refine WL.move rfl rfl rfl ?_
       exact WL.nil (N.cut () ⟨rfl, trivial⟩ (Below.refl _ _))
      refine And.intro (fun β w hS => ?_) ?_
      ·
       refine WL.sub (σ' := [(7, .pointer (some ⟨b8, 0, none⟩)), (60, .bool false)]) ⟨rfl, rfl, trivial⟩ ?_
       refine WL.fieldAddr fo_29_2 rfl rfl rfl ?_
       exact WL.nil (N.cut () ⟨rfl, trivial⟩ (Below.refl _ _))
      refine And.intro (fun β w hS => ?_) ?_
      ·
       refine WL.sub (σ' := [(60, .bool false), (61, .pointer (some ⟨b8, 2, none⟩))]) ⟨rfl, rfl, trivial⟩ ?_
       refine WL.load1 (v := .bool x7.fn) one_4 rfl rfl rfl (hS.cell 1 rfl rfl) ?_
       refine WL.set 62 (v' := .bool true) rfl (by rw [hg19]) ?_
       exact WL.nil (N.cut () ⟨rfl, trivial⟩ (Below.refl _ _))
      refine And.intro (fun β w hS => ?_) ?_
      ·
       refine WL.sub (σ' := [(60, .bool false), (62, .bool true)]) ⟨rfl, rfl, trivial⟩ ?_
       refine WL.move rfl rfl rfl ?_
       exact WL.nil (N.cut () ⟨rfl, trivial⟩ (Below.refl _ _))
      refine And.intro (fun β w hS => ?_) ?_
      ·
       refine WL.sub (σ' := [(8, .pointer (some ⟨b13, 0, none⟩)), (63, .bool true)]) ⟨rfl, rfl, trivial⟩ ?_
       refine WL.fieldAddr fo_33_0 rfl rfl rfl ?_
       exact WL.nil (N.cut () ⟨rfl, trivial⟩ (Below.refl _ _))
      refine And.intro (fun β w hS => ?_) ?_
      ·
       refine WL.sub (σ' := [(63, .bool true), (64, .pointer (some ⟨b13, 0, none⟩))]) ⟨rfl, rfl, trivial⟩ ?_
       refine WL.load1 (v := .slice adf12 m.funcs.length capf12) one_30 rfl rfl rfl (hS.cell 0 rfl rfl) ?_
       exact WL.nil (N.cut () ⟨rfl, trivial⟩ (Below.refl _ _))
      refine And.intro (fun β w hS => ?_) ?_
      ·
       refine WL.sub (σ' := [(10, .int .i64 (kf : Int)), (63, .bool true)]) ⟨rfl, rfl, trivial⟩ ?_
       refine WL.move rfl rfl rfl ?_
       exact WL.nil (N.cut () ⟨rfl, trivial⟩ (Below.refl _ _))
      refine And.intro (fun β w hS => ?_) ?_
      ·
       refine WL.sub (σ' := [(63, .bool true), (65, .slice adf12 m.funcs.length capf12), (66, .int .i64 (kf : Int))]) ⟨rfl, rfl, rfl, trivial⟩ ?_
       refine WL.indexAddrE (j := kf) Try.underlying30 isz_36 rfl rfl rfl rfl hj22 hE22 ?_
       exact WL.nil (N.cut () ⟨rfl, trivial⟩ (Below.refl _ _))
      refine And.intro (fun β w hS => ?_) ?_
      ·
       refine WL.sub (σ' := [(63, .bool true), (67, .pointer (some ⟨b22, o22 + kf * 4, none⟩))]) ⟨rfl, rfl, trivial⟩ ?_
       refine WL.fieldAddr fo_36_0 rfl rfl rfl ?_
       exact WL.nil (N.cut () ⟨rfl, trivial⟩ (Below.refl _ _))
      refine And.intro (fun β w hS => ?_) ?_
      ·
       refine WL.sub (σ' := [(63, .bool true), (68, .pointer (some ⟨b22, o22 + kf * 4, none⟩))]) ⟨rfl, rfl, trivial⟩ ?_
       refine WL.load1 (v := .string x22.name) one_9 rfl rfl rfl (hS.roCells hr22 hc22 0 _ rfl) ?_
       exact WL.nil (N.cut () ⟨rfl, trivial⟩ (Below.refl _ _))
      refine And.intro (fun β w hS => ?_) ?_
      ·
       refine WL.sub (σ' := [(7, .pointer (some ⟨b8, 0, none⟩)), (63, .bool true)]) ⟨rfl, rfl, trivial⟩ ?_
       refine WL.fieldAddr fo_29_0 rfl rfl rfl ?_
       exact WL.nil (N.cut () ⟨rfl, trivial⟩ (Below.refl _ _))
      refine And.intro (fun β w hS => ?_) ?_
      ·
       refine WL.sub (σ' := [(63, .bool true), (70, .pointer (some ⟨b8, 0, none⟩))]) ⟨rfl, rfl, trivial⟩ ?_
       refine WL.load1 (v := .string x7.name) one_9 rfl rfl rfl (hS.cell 1 rfl rfl) ?_
       exact WL.nil (N.cut () ⟨rfl, trivial⟩ (Below.refl _ _))
      refine And.intro (fun β w hS => ?_) ?_
      ·
       refine WL.sub (σ' := [(63, .bool true), (69, .string x22.name), (71, .string x7.name)]) ⟨rfl, rfl, rfl, trivial⟩ ?_
       refine WL.eqStr rfl rfl rfl rfl ?_
       refine WL.set 72 (v' := .bool false) rfl (by rw [hg23]) ?_
       exact WL.nil (N.cut () ⟨rfl, trivial⟩ (Below.refl _ _))
      refine And.intro (fun β w hS => ?_) ?_
      ·
       refine WL.sub (σ' := [(60, .bool false), (63, .bool true), (72, .bool false)]) ⟨rfl, rfl, rfl, trivial⟩ ?_
       refine WL.pick (v := .bool false) rfl rfl rfl rfl rfl rfl ?_
       exact WL.nil (N.cut () ⟨rfl, trivial⟩ (Below.refl _ _))
      refine And.intro (fun β w hS => ?_) ?_
      ·
       refine WL.sub (σ' := [(60, .bool false), (73, .bool false)]) ⟨rfl, rfl, trivial⟩ ?_
       refine WL.move rfl rfl rfl ?_
       exact WL.nil (N.cut () ⟨rfl, trivial⟩ (Below.refl _ _))
      refine And.intro (fun β w hS => ?_) ?_
      ·
       refine WL.sub (σ' := [(8, .pointer (some ⟨b13, 0, none⟩)), (74, .bool false)]) ⟨rfl, rfl, trivial⟩ ?_
       refine WL.skp rfl rfl ?_
       exact WL.nil (N.cut () ⟨rfl, trivial⟩ (Below.refl _ _))
      refine And.intro (fun β w hS => ?_) ?_
      ·
       refine WL.sub (σ' := [(74, .bool false), (75, undef)]) ⟨rfl, rfl, trivial⟩ ?_
       refine WL.skp rfl rfl ?_
       exact WL.nil (N.cut () ⟨rfl, trivial⟩ (Below.refl _ _))
      refine And.intro (fun β w hS => ?_) ?_
      ·
       refine WL.sub (σ' := [(10, .int .i64 (kf : Int)), (74, .bool false)]) ⟨rfl, rfl, trivial⟩ ?_
       refine WL.skp rfl rfl ?_
       exact WL.nil (N.cut () ⟨rfl, trivial⟩ (Below.refl _ _))
      refine And.intro (fun β w hS => ?_) ?_
      ·
       refine WL.sub (σ' := [(74, .bool false), (76, undef), (77, undef)]) ⟨rfl, rfl, rfl, trivial⟩ ?_
       refine WL.skp rfl rfl ?_
       exact WL.nil (N.cut () ⟨rfl, trivial⟩ (Below.refl _ _))
      refine And.intro (fun β w hS => ?_) ?_
      ·
       refine WL.sub (σ' := [(74, .bool false), (78, undef)]) ⟨rfl, rfl, trivial⟩ ?_
       refine WL.skp rfl rfl ?_
       exact WL.nil (N.cut () ⟨rfl, trivial⟩ (Below.refl _ _))
      refine And.intro (fun β w hS => ?_) ?_
      ·
       refine WL.sub (σ' := [(74, .bool false), (79, undef)]) ⟨rfl, rfl, trivial⟩ ?_
       refine WL.skp rfl rfl ?_
       exact WL.nil (N.cut () ⟨rfl, trivial⟩ (Below.refl _ _))
      refine And.intro (fun β w hS => ?_) ?_
      ·
       refine WL.sub (σ' := [(74, .bool false), (80, undef)]) ⟨rfl, rfl, trivial⟩ ?_
       refine WL.skp rfl rfl ?_
       exact WL.nil (N.cut () ⟨rfl, trivial⟩ (Below.refl _ _))
      refine And.intro (fun β w hS => ?_) ?_
      ·
       refine WL.sub (σ' := [(74, .bool false), (81, undef)]) ⟨rfl, rfl, trivial⟩ ?_
       refine WL.skp rfl rfl ?_
       exact WL.nil (N.cut () ⟨rfl, trivial⟩ (Below.refl _ _))
      refine And.intro (fun β w hS => ?_) ?_
      ·
       refine WL.sub (σ' := [(60, .bool false), (74, .bool false), (82, undef)]) ⟨rfl, rfl, rfl, trivial⟩ ?_
       refine WL.pick (v := .bool false) rfl rfl rfl rfl rfl rfl ?_
       exact WL.nil (N.cut () ⟨rfl, trivial⟩ (Below.refl _ _))
      refine And.intro (fun β w hS => ?_) ?_
      ·
       refine WL.sub (σ' := [(60, .bool false), (83, .bool false)]) ⟨rfl, rfl, trivial⟩ ?_
       refine WL.move rfl rfl rfl ?_
       exact WL.nil (N.cut () ⟨rfl, trivial⟩ (Below.refl _ _))
      refine And.intro (fun β w hS => ?_) ?_
      ·
       refine WL.sub (σ' := [(7, .pointer (some ⟨b8, 0, none⟩)), (84, .bool false)]) ⟨rfl, rfl, trivial⟩ ?_
       refine WL.skp rfl rfl ?_
       exact WL.nil (N.cut () ⟨rfl, trivial⟩ (Below.refl _ _))
      refine And.intro (fun β w hS => ?_) ?_
      ·
       refine WL.sub (σ' := [(84, .bool false), (85, undef)]) ⟨rfl, rfl, trivial⟩ ?_
       refine WL.skp rfl rfl ?_
       exact WL.nil (N.cut () ⟨rfl, trivial⟩ (Below.refl _ _))
      refine And.intro (fun β w hS => ?_) ?_
      ·
       refine WL.sub (σ' := [(84, .bool false), (86, undef)]) ⟨rfl, rfl, trivial⟩ ?_
       refine WL.skp rfl rfl ?_
       exact WL.nil (N.cut () ⟨rfl, trivial⟩ (Below.refl _ _))
      refine And.intro (fun β w hS => ?_) ?_
      ·
       refine WL.sub (σ' := [(8, .pointer (some ⟨b13, 0, none⟩)), (87, undef)]) ⟨rfl, rfl, trivial⟩ ?_
       refine WL.skp rfl rfl ?_
       exact WL.nil (N.cut () ⟨rfl, trivial⟩ (Below.refl _ _))
      refine And.intro (fun β w hS => ?_) ?_
      ·
       refine WL.sub (σ' := [(87, undef), (88, undef)]) ⟨rfl, rfl, trivial⟩ ?_
       refine WL.skp rfl rfl ?_
       exact WL.nil (N.cut () ⟨rfl, trivial⟩ (Below.refl _ _))
      refine And.intro (fun β w hS => ?_) ?_
      ·
       refine WL.sub (σ' := [(10, .int .i64 (kf : Int)), (87, undef)]) ⟨rfl, rfl, trivial⟩ ?_
       refine WL.skp rfl rfl ?_
       exact WL.nil (N.cut () ⟨rfl, trivial⟩ (Below.refl _ _))
      refine And.intro (fun β w hS => ?_) ?_
      ·
       refine WL.sub (σ' := [(87, undef), (89, undef), (90, undef)]) ⟨rfl, rfl, rfl, trivial⟩ ?_
       refine WL.skp rfl rfl ?_
       exact WL.nil (N.cut () ⟨rfl, trivial⟩ (Below.refl _ _))
      refine And.intro (fun β w hS => ?_) ?_
      ·
       refine WL.sub (σ' := [(87, undef), (91, undef)]) ⟨rfl, rfl, trivial⟩ ?_
       refine WL.skp rfl rfl ?_
       exact WL.nil (N.cut () ⟨rfl, trivial⟩ (Below.refl _ _))
      refine And.intro (fun β w hS => ?_) ?_
      ·
       refine WL.sub (σ' := [(87, undef), (92, undef)]) ⟨rfl, rfl, trivial⟩ ?_
       refine WL.skp rfl rfl ?_
       exact WL.nil (N.cut () ⟨rfl, trivial⟩ (Below.refl _ _))
      refine And.intro (fun β w hS => ?_) ?_
      ·
       refine WL.sub (σ' := [(87, undef), (93, undef)]) ⟨rfl, rfl, trivial⟩ ?_
       refine WL.skp rfl rfl ?_
       exact WL.nil (N.cut () ⟨rfl, trivial⟩ (Below.refl _ _))
      refine And.intro (fun β w hS => ?_) ?_
      ·
       refine WL.sub (σ' := [(84, .bool false), (87, undef), (94, undef)]) ⟨rfl, rfl, rfl, trivial⟩ ?_
       refine WL.skp rfl rfl ?_
       exact WL.nil (N.cut () ⟨rfl, trivial⟩ (Below.refl _ _))
      refine And.intro (fun β w hS => ?_) ?_
      ·
       refine WL.sub (σ' := [(60, .bool false), (84, .bool false), (95, undef)]) ⟨rfl, rfl, rfl, trivial⟩ ?_
       refine WL.pick (v := .bool false) rfl rfl rfl rfl rfl rfl ?_
       exact WL.nil (N.cut () ⟨rfl, trivial⟩ (Below.refl _ _))
      refine And.intro (fun β w hS => ?_) ?_
      ·
       refine WL.sub (σ' := [(60, .bool false), (96, .bool false)]) ⟨rfl, rfl, trivial⟩ ?_
       refine WL.pick (v := .bool false) rfl rfl rfl rfl rfl rfl ?_
       exact WL.nil (N.cut () ⟨rfl, trivial⟩ (Below.refl _ _))
      trivial
     clear hS; intro w24 β hS
     refine WL.sub (σ' := [(0, .slice adl ms.length capl), (3, .bool true), (4, .slice add ds.length capd), (5, .int .i64 ((all9 (items9 ms)).2)), (6, .int .i64 (k : Int)), (7, .pointer (some ⟨b8, 0, none⟩)), (8, .pointer (some ⟨b13, 0, none⟩)), (9, .bool false), (10, .int .i64 (kf : Int)), (12, .bool true), (13, .tuple #[.slice add ds.length capd, .int .i64 ((all9 (items9 ms)).2)]), (14, .slice adl ms.length capl), (15, .tuple #[.slice add ds.length capd, .int .i64 ((all9 (items9 ms)).2)]), (16, .slice add ds.length capd), (17, .int .i64 ((all9 (items9 ms)).2)), (18, .int .i64 ((all9 (items9 ms)).2)), (19, .bool (!decide ((all9 (items9 ms)).2 = 0))), (21, .int .i64 (k : Int)), (22, .slice add ds.length capd), (23, .int .i64 (ds.length : Int)), (24, .bool (decide ((k : Int) < (ds.length : Int)))), (27, .slice add ds.length capd), (28, .int .i64 (k : Int)), (29, .pointer (some ⟨b7, o7 + k * 5, none⟩)), (30, .agg #[.string x7.name, .int .i64 x7.mod, .bool x7.fn, .bool x7.weak, .bool x7.here]), (31, .pointer (some ⟨b8, 4, none⟩)), (32, .bool x7.here), (33, .bool (!x7.here)), (37, .pointer (some ⟨b8, 1, none⟩)), (38, .int .i64 x7.mod), (39, .bool false), (40, .bool false), (41, .pointer (some ⟨b8, 1, none⟩)), (42, .int .i64 x7.mod), (43, .slice adl ms.length capl), (44, .int .i64 (ms.length : Int)), (45, .bool false), (46, .bool false), (47, .slice adl ms.length capl), (48, .pointer (some ⟨b8, 1, none⟩)), (49, .int .i64 (i : Int)), (50, .pointer (some ⟨b12, o12 + i * 2, none⟩)), (51, .agg #[.slice adf12 m.funcs.length capf12, .slice adg12 m.globs.length capg12]), (52, .int .i64 (kf : Int)), (53, .pointer (some ⟨b13, 0, none⟩)), (54, .slice adf12 m.funcs.length capf12), (55, .int .i64 (m.funcs.length : Int)), (56, .bool (decide ((kf : Int) < (m.funcs.length : Int)))), (59, .bool false), (60, .bool false), (61, .pointer (some ⟨b8, 2, none⟩)), (62, .bool true), (63, .bool true), (64, .pointer (some ⟨b13, 0, none⟩)), (65, .slice adf12 m.funcs.length capf12), (66, .int .i64 (kf : Int)), (67, .pointer (some ⟨b22, o22 + kf * 4, none⟩)), (68, .pointer (some ⟨b22, o22 + kf * 4, none⟩)), (69, .string x22.name), (70, .pointer (some ⟨b8, 0, none⟩)), (71, .string x7.name), (72, .bool false), (73, .bool false), (74, .bool false), (75, undef), (76, undef), (77, undef), (78, undef), (79, undef), (80, undef), (81, undef), (82, undef), (83, .bool false), (84, .bool false), (85, undef), (86, undef), (87, undef), (88, undef), (89, undef), (90, undef), (91, undef), (92, undef), (93, undef), (94, undef), (95, undef), (96, .bool false), (97, .bool false)]) (Sub.ofEq (by kernel_rfl)) ?_
     refine WL.assign rfl rfl rfl ?_
     refine WL.nil ?_
     refine N.blk ?_
     refine N.seq ?_
     refine W.region ?_
     refine WL.move rfl rfl rfl ?_
     refine WL.add (c := (kf : Int) + 1) rfl rfl rfl rfl (rfl) (by omega) ?_
     refine WL.assign rfl rfl rfl ?_
     refine WL.nil ?_
     have hb2 : (false : Bool) = ((m.funcs.take (kf + 1)).any (pF9 x7)) := by rw [take_next hx22, List.any_append, ← hb]; simp [pF9, hc17p, hc17, hg18, hg19, hg23p, hg23] <;> (intros; first | omega | (apply List.eq_nil_of_length_eq_zero; omega))
     exact N.loop (kf + 1, false) ⟨rfl, rfl, rfl, rfl, rfl, rfl, rfl, rfl, rfl, rfl, rfl, rfl, rfl, rfl, rfl, rfl, rfl, rfl, rfl, rfl, rfl, rfl, rfl, rfl, rfl, rfl, rfl, rfl, rfl, rfl, rfl, rfl, rfl, rfl, rfl, rfl, rfl, rfl, rfl, rfl, rfl, rfl, rfl, trivial⟩ ⟨hS, by omega, hb2⟩ (by first | omega | (simp only; omega))
    have hg23p : x22.name = x7.name := by simpa using hg23
    rcases (Bool.eq_false_or_eq_true (decide (0 < (x22.blocks.length : Int)))).symm with hg25 | hg25
    ·
     have hg25p : ¬ (0 < (x22.blocks.length : Int)) := by simpa using hg25
     refine W.drawL (by kernel_rfl) 39 ((.q (.bool false)) :: (.q (.bool false)) :: (.q (.pointer (some ⟨b8, 2, none⟩))) :: (.q (.bool true)) :: (.q (.bool true)) :: (.q (.pointer (some ⟨b13, 0, none⟩))) :: (.q (.slice adf12 m.funcs.length capf12)) :: (.q (.int .i64 (kf : Int))) :: (.q (.pointer (some ⟨b22, o22 + kf * 4, none⟩))) :: (.q (.pointer (some ⟨b22, o22 + kf * 4, none⟩))) :: (.q (.string x22.name)) :: (.q (.pointer (some ⟨b8, 0, none⟩))) :: (.q (.string x7.name)) :: (.q (.bool true)) :: (.q (.bool true)) :: (.q (.bool true)) :: (.q (.pointer (some ⟨b13, 0, none⟩))) :: (.q (.slice adf12 m.funcs.length capf12)) :: (.q (.int .i64 (kf : Int))) :: (.q (.pointer (some ⟨b22, o22 + kf * 4, none⟩))) :: (.q (.pointer (some ⟨b22, o22 + kf * 4 + 3, none⟩))) :: (.q (.slice adb22 x22.blocks.length capb22)) :: (.q (.int .i64 (x22.blocks.length : Int))) :: (.q (.bool false)) :: (.q (.bool false)) :: (.q (.bool false)) :: (.q undef) :: (.q undef) :: (.q undef) :: (.q undef) :: (.q undef) :: (.q undef) :: (.q undef) :: (.q undef) :: (.q undef) :: (.q undef) :: (.q undef) :: (.q (.bool false)) :: (.q (.bool false)) :: []) (by kernel_rfl) (by kernel_rfl) [(0, .slice adl ms.length capl), (3, .bool true), (4, .slice add ds.length capd), (5, .int .i64 ((all9 (items9 ms)).2)), (6, .int .i64 (k : Int)), (7, .pointer (some ⟨b8, 0, none⟩)), (8, .pointer (some ⟨b13, 0, none⟩)), (9, .bool false), (10, .int .i64 (kf : Int)), (12, .bool true), (13, .tuple #[.slice add ds.length capd, .int .i64 ((all9 (items9 ms)).2)]), (14, .slice adl ms.length capl), (15, .tuple #[.slice add ds.length capd, .int .i64 ((all9 (items9 ms)).2)]), (16, .slice add ds.length capd), (17, .int .i64 ((all9 (items9 ms)).2)), (18, .int .i64 ((all9 (items9 ms)).2)), (19, .bool (!decide ((all9 (items9 ms)).2 = 0))), (21, .int .i64 (k : Int)), (22, .slice add ds.length capd), (23, .int .i64 (ds.length : Int)), (24, .bool (decide ((k : Int) < (ds.length : Int)))), (27, .slice add ds.length capd), (28, .int .i64 (k : Int)), (29, .pointer (some ⟨b7, o7 + k * 5, none⟩)), (30, .agg #[.string x7.name, .int .i64 x7.mod, .bool x7.fn, .bool x7.weak, .bool x7.here]), (31, .pointer (some ⟨b8, 4, none⟩)), (32, .bool x7.here), (33, .bool (!x7.here)), (37, .pointer (some ⟨b8, 1, none⟩)), (38, .int .i64 x7.mod), (39, .bool false), (40, .bool false), (41, .pointer (some ⟨b8, 1, none⟩)), (42, .int .i64 x7.mod), (43, .slice adl ms.length capl), (44, .int .i64 (ms.length : Int)), (45, .bool false), (46, .bool false), (47, .slice adl ms.length capl), (48, .pointer (some ⟨b8, 1, none⟩)), (49, .int .i64 (i : Int)), (50, .pointer (some ⟨b12, o12 + i * 2, none⟩)), (51, .agg #[.slice adf12 m.funcs.length capf12, .slice adg12 m.globs.length capg12]), (52, .int .i64 (kf : Int)), (53, .pointer (some ⟨b13, 0, none⟩)), (54, .slice adf12 m.funcs.length capf12), (55, .int .i64 (m.funcs.length : Int)), (56, .bool (decide ((kf : Int) < (m.funcs.length : Int))))] ⟨rfl, rfl, rfl, rfl, rfl, rfl, rfl, rfl, rfl, rfl, rfl, rfl, rfl, rfl, rfl, rfl, rfl, rfl, rfl, rfl, rfl, rfl, rfl, rfl, rfl, rfl, rfl, rfl, rfl, rfl, rfl, rfl, rfl, rfl, rfl, rfl, rfl, rfl, rfl, rfl, rfl, rfl, rfl, rfl, rfl, rfl, rfl, rfl, trivial⟩ (by kernel_rfl) hS ?_ ?_
     ·
      refine And.intro (fun β w hS => ?_) ?_
      ·
       refine WL.sub (σ' := [(9, .bool false)]) ⟨rfl, trivial⟩ ?_
       refine WL.move rfl rfl rfl ?_
       exact WL.nil (N.cut () ⟨rfl, trivial⟩ (Below.refl _ _))
      refine And.intro (fun β w hS => ?_) ?_
      ·
       refine WL.sub (σ' := [(59, .bool false)]) ⟨rfl, trivial⟩ ?_
       refine WL.move rfl rfl rfl ?_
       exact WL.nil (N.cut () ⟨rfl, trivial⟩ (Below.refl _ _))
      refine And.intro (fun β w hS => ?_) ?_
      ·
       refine WL.sub (σ' := [(7, .pointer (some ⟨b8, 0, none⟩)), (60, .bool false)]) ⟨rfl, rfl, trivial⟩ ?_
       refine WL.fieldAddr fo_29_2 rfl rfl rfl ?_
       exact WL.nil (N.cut () ⟨rfl, trivial⟩ (Below.refl _ _))
      refine And.intro (fun β w hS => ?_) ?_
      ·
       refine WL.sub (σ' := [(60, .bool false), (61, .pointer (some ⟨b8, 2, none⟩))]) ⟨rfl, rfl, trivial⟩ ?_
       refine WL.load1 (v := .bool x7.fn) one_4 rfl rfl rfl (hS.cell 1 rfl rfl) ?_
       refine WL.set 62 (v' := .bool true) rfl (by rw [hg19]) ?_
       exact WL.nil (N.cut () ⟨rfl, trivial⟩ (Below.refl _ _))
      refine And.intro (fun β w hS => ?_) ?_
      ·
       refine WL.sub (σ' := [(60, .bool false), (62, .bool true)]) ⟨rfl, rfl, trivial⟩ ?_
       refine WL.move rfl rfl rfl ?_
       exact WL.nil (N.cut () ⟨rfl, trivial⟩ (Below.refl _ _))
      refine And.intro (fun β w hS => ?_) ?_
      ·
       refine WL.sub (σ' := [(8, .pointer (some ⟨b13, 0, none⟩)), (63, .bool true)]) ⟨rfl, rfl, trivial⟩ ?_
       refine WL.fieldAddr fo_33_0 rfl rfl rfl ?_
       exact WL.nil (N.cut () ⟨rfl, trivial⟩ (Below.refl _ _))
      refine And.intro (fun β w hS => ?_) ?_
      ·
       refine WL.sub (σ' := [(63, .bool true), (64, .pointer (some ⟨b13, 0, none⟩))]) ⟨rfl, rfl, trivial⟩ ?_
       refine WL.load1 (v := .slice adf12 m.funcs.length capf12) one_30 rfl rfl rfl (hS.cell 0 rfl rfl) ?_
       exact WL.nil (N.cut () ⟨rfl, trivial⟩ (Below.refl _ _))
      refine And.intro (fun β w hS => ?_) ?_
      ·
       refine WL.sub (σ' := [(10, .int .i64 (kf : Int)), (63, .bool true)]) ⟨rfl, rfl, trivial⟩ ?_
       refine WL.move rfl rfl rfl ?_
       exact WL.nil (N.cut () ⟨rfl, trivial⟩ (Below.refl _ _))
      refine And.intro (fun β w hS => ?_) ?_
      ·
       refine WL.sub (σ' := [(63, .bool true), (65, .slice adf12 m.funcs.length capf12), (66, .int .i64 (kf : Int))]) ⟨rfl, rfl, rfl, trivial⟩ ?_
       refine WL.indexAddrE (j := kf) Try.underlying30 isz_36 rfl rfl rfl rfl hj22 hE22 ?_
       exact WL.nil (N.cut () ⟨rfl, trivial⟩ (Below.refl _ _))
      refine And.intro (fun β w hS => ?_) ?_
      ·
       refine WL.sub (σ' := [(63, .bool true), (67, .pointer (some ⟨b22, o22 + kf * 4, none⟩))]) ⟨rfl, rfl, trivial⟩ ?_
       refine WL.fieldAddr fo_36_0 rfl rfl rfl ?_
       exact WL.nil (N.cut () ⟨rfl, trivial⟩ (Below.refl _ _))
      refine And.intro (fun β w hS => ?_) ?_
      ·
       refine WL.sub (σ' := [(63, .bool true), (68, .pointer (some ⟨b22, o22 + kf * 4, none⟩))]) ⟨rfl, rfl, trivial⟩ ?_
       refine WL.load1 (v := .string x22.name) one_9 rfl rfl rfl (hS.roCells hr22 hc22 0 _ rfl) ?_
       exact WL.nil (N.cut () ⟨rfl, trivial⟩ (Below.refl _ _))
      refine And.intro (fun β w hS => ?_) ?_
      ·
       refine WL.sub (σ' := [(7, .pointer (some ⟨b8, 0, none⟩)), (63, .bool true)]) ⟨rfl, rfl, trivial⟩ ?_
       refine WL.fieldAddr fo_29_0 rfl rfl rfl ?_
       exact WL.nil (N.cut () ⟨rfl, trivial⟩ (Below.refl _ _))
      refine And.intro (fun β w hS => ?_) ?_
      ·
       refine WL.sub (σ' := [(63, .bool true), (70, .pointer (some ⟨b8, 0, none⟩))]) ⟨rfl, rfl, trivial⟩ ?_
       refine WL.load1 (v := .string x7.name) one_9 rfl rfl rfl (hS.cell 1 rfl rfl) ?_
       exact WL.nil (N.cut () ⟨rfl, trivial⟩ (Below.refl _ _))
      refine And.intro (fun β w hS => ?_) ?_
      ·
       refine WL.sub (σ' := [(63, .bool true), (69, .string x22.name), (71, .string x7.name)]) ⟨rfl, rfl, rfl, trivial⟩ ?_
       refine WL.eqStr rfl rfl rfl rfl ?_
       refine WL.set 72 (v' := .bool true) rfl (by rw [hg23]) ?_
       exact WL.nil (N.cut () ⟨rfl, trivial⟩ (Below.refl _ _))
      refine And.intro (fun β w hS => ?_) ?_
      ·
       refine WL.sub (σ' := [(60, .bool false), (63, .bool true), (72, .bool true)]) ⟨rfl, rfl, rfl, trivial⟩ ?_
       refine WL.pick (v := .bool true) rfl rfl rfl rfl rfl rfl ?_
       exact WL.nil (N.cut () ⟨rfl, trivial⟩ (Below.refl _ _))
      refine And.intro (fun β w hS => ?_) ?_
      ·
       refine WL.sub (σ' := [(60, .bool false), (73, .bool true)]) ⟨rfl, rfl, trivial⟩ ?_
       refine WL.move rfl rfl rfl ?_
       exact WL.nil (N.cut () ⟨rfl, trivial⟩ (Below.refl _ _))
      refine And.intro (fun β w hS => ?_) ?_
      ·
       refine WL.sub (σ' := [(8, .pointer (some ⟨b13, 0, none⟩)), (74, .bool true)]) ⟨rfl, rfl, trivial⟩ ?_
       refine WL.fieldAddr fo_33_0 rfl rfl rfl ?_
       exact WL.nil (N.cut () ⟨rfl, trivial⟩ (Below.refl _ _))
      refine And.intro (fun β w hS => ?_) ?_
      ·
       refine WL.sub (σ' := [(74, .bool true), (75, .pointer (some ⟨b13, 0, none⟩))]) ⟨rfl, rfl, trivial⟩ ?_
       refine WL.load1 (v := .slice adf12 m.funcs.length capf12) one_30 rfl rfl rfl (hS.cell 0 rfl rfl) ?_
       exact WL.nil (N.cut () ⟨rfl, trivial⟩ (Below.refl _ _))
      refine And.intro (fun β w hS => ?_) ?_
      ·
       refine WL.sub (σ' := [(10, .int .i64 (kf : Int)), (74, .bool true)]) ⟨rfl, rfl, trivial⟩ ?_
       refine WL.move rfl rfl rfl ?_
       exact WL.nil (N.cut () ⟨rfl, trivial⟩ (Below.refl _ _))
      refine And.intro (fun β w hS => ?_) ?_
      ·
       refine WL.sub (σ' := [(74, .bool true), (76, .slice adf12 m.funcs.length capf12), (77, .int .i64 (kf : Int))]) ⟨rfl, rfl, rfl, trivial⟩ ?_
       refine WL.indexAddrE (j := kf) Try.underlying30 isz_36 rfl rfl rfl rfl hj22 hE22 ?_
       exact WL.nil (N.cut () ⟨rfl, trivial⟩ (Below.refl _ _))
      refine And.intro (fun β w hS => ?_) ?_
      ·
       refine WL.sub (σ' := [(74, .bool true), (78, .pointer (some ⟨b22, o22 + kf * 4, none⟩))]) ⟨rfl, rfl, trivial⟩ ?_
       refine WL.fieldAddr fo_36_3 rfl rfl rfl ?_
       exact WL.nil (N.cut () ⟨rfl, trivial⟩ (Below.refl _ _))
      refine And.intro (fun β w hS => ?_) ?_
      ·
       refine WL.sub (σ' := [(74, .bool true), (79, .pointer (some ⟨b22, o22 + kf * 4 + 3, none⟩))]) ⟨rfl, rfl, trivial⟩ ?_
       refine WL.load1 (v := .slice adb22 x22.blocks.length capb22) one_34 rfl rfl rfl (hS.roCells hr22 hc22 3 _ rfl) ?_
       exact WL.nil (N.cut () ⟨rfl, trivial⟩ (Below.refl _ _))
      refine And.intro (fun β w hS => ?_) ?_
      ·
       refine WL.sub (σ' := [(74, .bool true), (80, .slice adb22 x22.blocks.length capb22)]) ⟨rfl, rfl, trivial⟩ ?_
       refine WL.lenSlice Try.underlying34 rfl rfl rfl ?_
       exact WL.nil (N.cut () ⟨rfl, trivial⟩ (Below.refl _ _))
      refine And.intro (fun β w hS => ?_) ?_
      ·
       refine WL.sub (σ' := [(74, .bool true), (81, .int .i64 (x22.blocks.length : Int))]) ⟨rfl, rfl, trivial⟩ ?_
       refine WL.bin rfl rfl rfl rfl rfl ?_
       refine WL.set 82 (v' := .bool false) rfl (by rw [hg25]) ?_
       exact WL.nil (N.cut () ⟨rfl, trivial⟩ (Below.refl _ _))
      refine And.intro (fun β w hS => ?_) ?_
      ·
       refine WL.sub (σ' := [(60, .bool false), (74, .bool true), (82, .bool false)]) ⟨rfl, rfl, rfl, trivial⟩ ?_
       refine WL.pick (v := .bool false) rfl rfl rfl rfl rfl rfl ?_
       exact WL.nil (N.cut () ⟨rfl, trivial⟩ (Below.refl _ _))
      refine And.intro (fun β w hS => ?_) ?_
      ·
       refine WL.sub (σ' := [(60, .bool false), (83, .bool false)]) ⟨rfl, rfl, trivial⟩ ?_
       refine WL.move rfl rfl rfl ?_
       exact WL.nil (N.cut () ⟨rfl, trivial⟩ (Below.refl _ _))
      refine And.intro (fun β w hS => ?_) ?_
      ·
       refine WL.sub (σ' := [(7, .pointer (some ⟨b8, 0, none⟩)), (84, .bool false)]) ⟨rfl, rfl, trivial⟩ ?_
       refine WL.skp rfl rfl ?_
       exact WL.nil (N.cut () ⟨rfl, trivial⟩ (Below.refl _ _))
      refine And.intro (fun β w hS => ?_) ?_
      ·
       refine WL.sub (σ' := [(84, .bool false), (85, undef)]) ⟨rfl, rfl, trivial⟩ ?_
       refine WL.skp rfl rfl ?_
       exact WL.nil (N.cut () ⟨rfl, trivial⟩ (Below.refl _ _))
      refine And.intro (fun β w hS => ?_) ?_
      ·
       refine WL.sub (σ' := [(84, .bool false), (86, undef)]) ⟨rfl, rfl, trivial⟩ ?_
       refine WL.skp rfl rfl ?_
       exact WL.nil (N.cut () ⟨rfl, trivial⟩ (Below.refl _ _))
      refine And.intro (fun β w hS => ?_) ?_
      ·
       refine WL.sub (σ' := [(8, .pointer (some ⟨b13, 0, none⟩)), (87, undef)]) ⟨rfl, rfl, trivial⟩ ?_
       refine WL.skp rfl rfl ?_
       exact WL.nil (N.cut () ⟨rfl, trivial⟩ (Below.refl _ _))
      refine And.intro (fun β w hS => ?_) ?_
      ·
       refine WL.sub (σ' := [(87, undef), (88, undef)]) ⟨rfl, rfl, trivial⟩ ?_
       refine WL.skp rfl rfl ?_
       exact WL.nil (N.cut () ⟨rfl, trivial⟩ (Below.refl _ _))
      refine And.intro (fun β w hS => ?_) ?_
      ·
       refine WL.sub (σ' := [(10, .int .i64 (kf : Int)), (87, undef)]) ⟨rfl, rfl, trivial⟩ ?_
       refine WL.skp rfl rfl ?_
       exact WL.nil (N.cut () ⟨rfl, trivial⟩ (Below.refl _ _))
      refine And.intro (fun β w hS => ?_) ?_
      ·
       refine WL.sub (σ' := [(87, undef), (89, undef), (90, undef)]) ⟨rfl, rfl, rfl, trivial⟩ ?_
       refine WL.skp rfl rfl ?_
       exact WL.nil (N.cut () ⟨rfl, trivial⟩ (Below.refl _ _))
      refine And.intro (fun β w hS => ?_) ?_
      ·
       refine WL.sub (σ' := [(87, undef), (91, undef)]) ⟨rfl, rfl, trivial⟩ ?_
       refine WL.skp rfl rfl ?_
       exact WL.nil (N.cut () ⟨rfl, trivial⟩ (Below.refl _ _))
      refine And.intro (fun β w hS => ?_) ?_
      ·
       refine WL.sub (σ' := [(87, undef), (92, undef)]) ⟨rfl, rfl, trivial⟩ ?_
       refine WL.skp rfl rfl ?_
       exact WL.nil (N.cut () ⟨rfl, trivial⟩ (Below.refl _ _))
      refine And.intro (fun β w hS => ?_) ?_
      ·
       refine WL.sub (σ' := [(87, undef), (93, undef)]) ⟨rfl, rfl, trivial⟩ ?_
       refine WL.skp rfl rfl ?_
       exact WL.nil (N.cut () ⟨rfl, trivial⟩ (Below.refl _ _))
      refine And.intro (fun β w hS => ?_) ?_
      ·
       refine WL.sub (σ' := [(84, .bool false), (87, undef), (94, undef)]) ⟨rfl, rfl, rfl, trivial⟩ ?_
       refine WL.skp rfl rfl ?_
       exact WL.nil (N.cut () ⟨rfl, trivial⟩ (Below.refl _ _))
      refine And.intro (fun β w hS => ?_) ?_
      ·
       refine WL.sub (σ' := [(60, .bool false), (84, .bool false), (95, undef)]) ⟨rfl, rfl, rfl, trivial⟩ ?_
       refine WL.pick (v := .bool false) rfl rfl rfl rfl rfl rfl ?_
       exact WL.nil (N.cut () ⟨rfl, trivial⟩ (Below.refl _ _))
      refine And.intro (fun β w hS => ?_) ?_
      ·
       refine WL.sub (σ' := [(60, .bool false), (96, .bool false)]) ⟨rfl, rfl, trivial⟩ ?_
       refine WL.pick (v := .bool false) rfl rfl rfl rfl rfl rfl ?_
       exact WL.nil (N.cut () ⟨rfl, trivial⟩ (Below.refl _ _))
      trivial
     clear hS; intro w26 β hS
     refine WL.sub (σ' := [(0, .slice adl ms.length capl), (3, .bool true), (4, .slice add ds.length capd), (5, .int .i64 ((all9 (items9 ms)).2)), (6, .int .i64 (k : Int)), (7, .pointer (some ⟨b8, 0, none⟩)), (8, .pointer (some ⟨b13, 0, none⟩)), (9, .bool false), (10, .int .i64 (kf : Int)), (12, .bool true), (13, .tuple #[.slice add ds.length capd, .int .i64 ((all9 (items9 ms)).2)]), (14, .slice adl ms.length capl), (15, .tuple #[.slice add ds.length capd, .int .i64 ((all9 (items9 ms)).2)]), (16, .slice add ds.length capd), (17, .int .i64 ((all9 (items9 ms)).2)), (18, .int .i64 ((all9 (items9 ms)).2)), (19, .bool (!decide ((all9 (items9 ms)).2 = 0))), (21, .int .i64 (k : Int)), (22, .slice add ds.length capd), (23, .int .i64 (ds.length : Int)), (24, .bool (decide ((k : Int) < (ds.length : Int)))), (27, .slice add ds.length capd), (28, .int .i64 (k : Int)), (29, .pointer (some ⟨b7, o7 + k * 5, none⟩)), (30, .agg #[.string x7.name, .int .i64 x7.mod, .bool x7.fn, .bool x7.weak, .bool x7.here]), (31, .pointer (some ⟨b8, 4, none⟩)), (32, .bool x7.here), (33, .bool (!x7.here)), (37, .pointer (some ⟨b8, 1, none⟩)), (38, .int .i64 x7.mod), (39, .bool false), (40, .bool false), (41, .pointer (some ⟨b8, 1, none⟩)), (42, .int .i64 x7.mod), (43, .slice adl ms.length capl), (44, .int .i64 (ms.length : Int)), (45, .bool false), (46, .bool false), (47, .slice adl ms.length capl), (48, .pointer (some ⟨b8, 1, none⟩)), (49, .int .i64 (i : Int)), (50, .pointer (some ⟨b12, o12 + i * 2, none⟩)), (51, .agg #[.slice adf12 m.funcs.length capf12, .slice adg12 m.globs.length capg12]), (52, .int .i64 (kf : Int)), (53, .pointer (some ⟨b13, 0, none⟩)), (54, .slice adf12 m.funcs.length capf12), (55, .int .i64 (m.funcs.length : Int)), (56, .bool (decide ((kf : Int) < (m.funcs.length : Int)))), (59, .bool false), (60, .bool false), (61, .pointer (some ⟨b8, 2, none⟩)), (62, .bool true), (63, .bool true), (64, .pointer (some ⟨b13, 0, none⟩)), (65, .slice adf12 m.funcs.length capf12), (66, .int .i64 (kf : Int)), (67, .pointer (some ⟨b22, o22 + kf * 4, none⟩)), (68, .pointer (some ⟨b22, o22 + kf * 4, none⟩)), (69, .string x22.name), (70, .pointer (some ⟨b8, 0, none⟩)), (71, .string x7.name), (72, .bool true), (73, .bool true), (74, .bool true), (75, .pointer (some ⟨b13, 0, none⟩)), (76, .slice adf12 m.funcs.length capf12), (77, .int .i64 (kf : Int)), (78, .pointer (some ⟨b22, o22 + kf * 4, none⟩)), (79, .pointer (some ⟨b22, o22 + kf * 4 + 3, none⟩)), (80, .slice adb22 x22.blocks.length capb22), (81, .int .i64 (x22.blocks.length : Int)), (82, .bool false), (83, .bool false), (84, .bool false), (85, undef), (86, undef), (87, undef), (88, undef), (89, undef), (90, undef), (91, undef), (92, undef), (93, undef), (94, undef), (95, undef), (96, .bool false), (97, .bool false)]) (Sub.ofEq (by kernel_rfl)) ?_
     refine WL.assign rfl rfl rfl ?_
     refine WL.nil ?_
     refine N.blk ?_
     refine N.seq ?_
     refine W.region ?_
     refine WL.move rfl rfl rfl ?_
     refine WL.add (c := (kf : Int) + 1) rfl rfl rfl rfl (rfl) (by omega) ?_
     refine WL.assign rfl rfl rfl ?_
     refine WL.nil ?_
     have hb2 : (false : Bool) = ((m.funcs.take (kf + 1)).any (pF9 x7)) := by rw [take_next hx22, List.any_append, ← hb]; simp [pF9, hc17p, hc17, hg18, hg19, hg23p, hg23, hg25p, hg25] <;> (intros; first | omega | (apply List.eq_nil_of_length_eq_zero; omega))
     exact N.loop (kf + 1, false) ⟨rfl, rfl, rfl, rfl, rfl, rfl, rfl, rfl, rfl, rfl, rfl, rfl, rfl, rfl, rfl, rfl, rfl, rfl, rfl, rfl, rfl, rfl, rfl, rfl, rfl, rfl, rfl, rfl, rfl, rfl, rfl, rfl, rfl, rfl, rfl, rfl, rfl, rfl, rfl, rfl, rfl, rfl, rfl, trivial⟩ ⟨hS, by omega, hb2⟩ (by first | omega | (simp only; omega))
    have hg25p : 0 < (x22.blocks.length : Int) := by simpa using hg25
    rcases (Bool.eq_false_or_eq_true x7.weak).symm with hg27 | hg27
    ·
     refine W.drawL (by kernel_rfl) 39 ((.q (.bool false)) :: (.q (.bool false)) :: (.q (.pointer (some ⟨b8, 2, none⟩))) :: (.q (.bool true)) :: (.q (.bool true)) :: (.q (.pointer (some ⟨b13, 0, none⟩))) :: (.q (.slice adf12 m.funcs.length capf12)) :: (.q (.int .i64 (kf : Int))) :: (.q (.pointer (some ⟨b22, o22 + kf * 4, none⟩))) :: (.q (.pointer (some ⟨b22, o22 + kf * 4, none⟩))) :: (.q (.string x22.name)) :: (.q (.pointer (some ⟨b8, 0, none⟩))) :: (.q (.string x7.name)) :: (.q (.bool true)) :: (.q (.bool true)) :: (.q (.bool true)) :: (.q (.pointer (some ⟨b13, 0, none⟩))) :: (.q (.slice adf12 m.funcs.length capf12)) :: (.q (.int .i64 (kf : Int))) :: (.q (.pointer (some ⟨b22, o22 + kf * 4, none⟩))) :: (.q (.pointer (some ⟨b22, o22 + kf * 4 + 3, none⟩))) :: (.q (.slice adb22 x22.blocks.length capb22)) :: (.q (.int .i64 (x22.blocks.length : Int))) :: (.q (.bool true)) :: (.q (.bool true)) :: (.q (.bool true)) :: (.q (.pointer (some ⟨b8, 3, none⟩))) :: (.q (.bool false)) :: (.q (.bool false)) :: (.q (.pointer (some ⟨b13, 0, none⟩))) :: (.q (.slice adf12 m.funcs.length capf12)) :: (.q (.int .i64 (kf : Int))) :: (.q (.pointer (some ⟨b22, o22 + kf * 4, none⟩))) :: (.q (.pointer (some ⟨b22, o22 + kf * 4 + 1, none⟩))) :: (.q (.int .i64 x22.bind)) :: (.q (.bool (decide (x22.bind = 2)))) :: (.q (.bool (decide (x22.bind = 2)))) :: (.q (.bool (decide (x22.bind = 2)))) :: (.q (.bool (decide (x22.bind = 2)))) :: []) (by kernel_rfl) (by kernel_rfl) [(0, .slice adl ms.length capl), (3, .bool true), (4, .slice add ds.length capd), (5, .int .i64 ((all9 (items9 ms)).2)), (6, .int .i64 (k : Int)), (7, .pointer (some ⟨b8, 0, none⟩)), (8, .pointer (some ⟨b13, 0, none⟩)), (9, .bool false), (10, .int .i64 (kf : Int)), (12, .bool true), (13, .tuple #[.slice add ds.length capd, .int .i64 ((all9 (items9 ms)).2)]), (14, .slice adl ms.length capl), (15, .tuple #[.slice add ds.length capd, .int .i64 ((all9 (items9 ms)).2)]), (16, .slice add ds.length capd), (17, .int .i64 ((all9 (items9 ms)).2)), (18, .int .i64 ((all9 (items9 ms)).2)), (19, .bool (!decide ((all9 (items9 ms)).2 = 0))), (21, .int .i64 (k : Int)), (22, .slice add ds.length capd), (23, .int .i64 (ds.length : Int)), (24, .bool (decide ((k : Int) < (ds.length : Int)))), (27, .slice add ds.length capd), (28, .int .i64 (k : Int)), (29, .pointer (some ⟨b7, o7 + k * 5, none⟩)), (30, .agg #[.string x7.name, .int .i64 x7.mod, .bool x7.fn, .bool x7.weak, .bool x7.here]), (31, .pointer (some ⟨b8, 4, none⟩)), (32, .bool x7.here), (33, .bool (!x7.here)), (37, .pointer (some ⟨b8, 1, none⟩)), (38, .int .i64 x7.mod), (39, .bool false), (40, .bool false), (41, .pointer (some ⟨b8, 1, none⟩)), (42, .int .i64 x7.mod), (43, .slice adl ms.length capl), (44, .int .i64 (ms.length : Int)), (45, .bool false), (46, .bool false), (47, .slice adl ms.length capl), (48, .pointer (some ⟨b8, 1, none⟩)), (49, .int .i64 (i : Int)), (50, .pointer (some ⟨b12, o12 + i * 2, none⟩)), (51, .agg #[.slice adf12 m.funcs.length capf12, .slice adg12 m.globs.length capg12]), (52, .int .i64 (kf : Int)), (53, .pointer (some ⟨b13, 0, none⟩)), (54, .slice adf12 m.funcs.length capf12), (55, .int .i64 (m.funcs.length : Int)), (56, .bool (decide ((kf : Int) < (m.funcs.length : Int))))] ⟨rfl, rfl, rfl, rfl, rfl, rfl, rfl, rfl, rfl, rfl, rfl, rfl, rfl, rfl, rfl, rfl, rfl, rfl, rfl, rfl, rfl, rfl, rfl, rfl, rfl, rfl, rfl, rfl, rfl, rfl, rfl, rfl, rfl, rfl, rfl, rfl, rfl, rfl, rfl, rfl, rfl, rfl, rfl, rfl, rfl, rfl, rfl, rfl, trivial⟩ (by kernel_rfl) hS ?_ ?_
     ·
      refine And.intro (fun β w hS => ?_) ?_
      ·
       refine WL.sub (σ' := [(9, .bool false)]) ⟨rfl, trivial⟩ ?_
       refine WL.move rfl rfl rfl ?_
       exact WL.nil (N.cut () ⟨rfl, trivial⟩ (Below.refl _ _))
      refine And.intro (fun β w hS => ?_) ?_
      ·
       refine WL.sub (σ' := [(59, .bool false)]) ⟨rfl, trivial⟩ ?_
       refine WL.move rfl rfl rfl ?_
       exact WL.nil (N.cut () ⟨rfl, trivial⟩ (Below.refl _ _))
      refine And.intro (fun β w hS => ?_) ?_
      ·
       refine WL.sub (σ' := [(7, .pointer (some ⟨b8, 0, none⟩)), (60, .bool false)]) ⟨rfl, rfl, trivial⟩ ?_
       refine WL.fieldAddr fo_29_2 rfl rfl rfl ?_
       exact WL.nil (N.cut () ⟨rfl, trivial⟩ (Below.refl _ _))
      refine And.intro (fun β w hS => ?_) ?_
      ·
       refine WL.sub (σ' := [(60, .bool false), (61, .pointer (some ⟨b8, 2, none⟩))]) ⟨rfl, rfl, trivial⟩ ?_
       refine WL.load1 (v := .bool x7.fn) one_4 rfl rfl rfl (hS.cell 1 rfl rfl) ?_
       refine WL.set 62 (v' := .bool true) rfl (by rw [hg19]) ?_
       exact WL.nil (N.cut () ⟨rfl, trivial⟩ (Below.refl _ _))
      refine And.intro (fun β w hS => ?_) ?_
      ·
       refine WL.sub (σ' := [(60, .bool false), (62, .bool true)]) ⟨rfl, rfl, trivial⟩ ?_
       refine WL.move rfl rfl rfl ?_
       exact WL.nil (N.cut () ⟨rfl, trivial⟩ (Below.refl _ _))
      refine And.intro (fun β w hS => ?_) ?_
      ·
       refine WL.sub (σ' := [(8, .pointer (some ⟨b13, 0, none⟩)), (63, .bool true)]) ⟨rfl, rfl, trivial⟩ ?_
       refine WL.fieldAddr fo_33_0 rfl rfl rfl ?_
       exact WL.nil (N.cut () ⟨rfl, trivial⟩ (Below.refl _ _))
      refine And.intro (fun β w hS => ?_) ?_
      ·
       refine WL.sub (σ' := [(63, .bool true), (64, .pointer (some ⟨b13, 0, none⟩))]) ⟨rfl, rfl, trivial⟩ ?_
       refine WL.load1 (v := .slice adf12 m.funcs.length capf12) one_30 rfl rfl rfl (hS.cell 0 rfl rfl) ?_
       exact WL.nil (N.cut () ⟨rfl, trivial⟩ (Below.refl _ _))
      refine And.intro (fun β w hS => ?_) ?_
      ·
       refine WL.sub (σ' := [(10, .int .i64 (kf : Int)), (63, .bool true)]) ⟨rfl, rfl, trivial⟩ ?_
       refine WL.move rfl rfl rfl ?_
       exact WL.nil (N.cut () ⟨rfl, trivial⟩ (Below.refl _ _))
      refine And.intro (fun β w hS => ?_) ?_
      ·
       refine WL.sub (σ' := [(63, .bool true), (65, .slice adf12 m.funcs.length capf12), (66, .int .i64 (kf : Int))]) ⟨rfl, rfl, rfl, trivial⟩ ?_
       refine WL.indexAddrE (j := kf) Try.underlying30 isz_36 rfl rfl rfl rfl hj22 hE22 ?_
       exact WL.nil (N.cut () ⟨rfl, trivial⟩ (Below.refl _ _))
      refine And.intro (fun β w hS => ?_) ?_
      ·
       refine WL.sub (σ' := [(63, .bool true), (67, .pointer (some ⟨b22, o22 + kf * 4, none⟩))]) ⟨rfl, rfl, trivial⟩ ?_
       refine WL.fieldAddr fo_36_0 rfl rfl rfl ?_
       exact WL.nil (N.cut () ⟨rfl, trivial⟩ (Below.refl _ _))
      refine And.intro (fun β w hS => ?_) ?_
      ·
       refine WL.sub (σ' := [(63, .bool true), (68, .pointer (some ⟨b22, o22 + kf * 4, none⟩))]) ⟨rfl, rfl, trivial⟩ ?_
       refine WL.load1 (v := .string x22.name) one_9 rfl rfl rfl (hS.roCells hr22 hc22 0 _ rfl) ?_
       exact WL.nil (N.cut () ⟨rfl, trivial⟩ (Below.refl _ _))
      refine And.intro (fun β w hS => ?_) ?_
      ·
       refine WL.sub (σ' := [(7, .pointer (some ⟨b8, 0, none⟩)), (63, .bool true)]) ⟨rfl, rfl, trivial⟩ ?_
       refine WL.fieldAddr fo_29_0 rfl rfl rfl ?_
       exact WL.nil (N.cut () ⟨rfl, trivial⟩ (Below.refl _ _))
      refine And.intro (fun β w hS => ?_) ?_
      ·
       refine WL.sub (σ' := [(63, .bool true), (70, .pointer (some ⟨b8, 0, none⟩))]) ⟨rfl, rfl, trivial⟩ ?_
       refine WL.load1 (v := .string x7.name) one_9 rfl rfl rfl (hS.cell 1 rfl rfl) ?_
       exact WL.nil (N.cut () ⟨rfl, trivial⟩ (Below.refl _ _))
      refine And.intro (fun β w hS => ?_) ?_
      ·
       refine WL.sub (σ' := [(63, .bool true), (69, .string x22.name), (71, .string x7.name)]) ⟨rfl, rfl, rfl, trivial⟩ ?_
       refine WL.eqStr rfl rfl rfl rfl ?_
       refine WL.set 72 (v' := .bool true) rfl (by rw [hg23]) ?_
       exact WL.nil (N.cut () ⟨rfl, trivial⟩ (Below.refl _ _))
      refine And.intro (fun β w hS => ?_) ?_
      ·
       refine WL.sub (σ' := [(60, .bool false), (63, .bool true), (72, .bool true)]) ⟨rfl, rfl, rfl, trivial⟩ ?_
       refine WL.pick (v := .bool true) rfl rfl rfl rfl rfl rfl ?_
       exact WL.nil (N.cut () ⟨rfl, trivial⟩ (Below.refl _ _))
      refine And.intro (fun β w hS => ?_) ?_
      ·
       refine WL.sub (σ' := [(60, .bool false), (73, .bool true)]) ⟨rfl, rfl, trivial⟩ ?_
       refine WL.move rfl rfl rfl ?_
       exact WL.nil (N.cut () ⟨rfl, trivial⟩ (Below.refl _ _))
      refine And.intro (fun β w hS => ?_) ?_
      ·
       refine WL.sub (σ' := [(8, .pointer (some ⟨b13, 0, none⟩)), (74, .bool true)]) ⟨rfl, rfl, trivial⟩ ?_
       refine WL.fieldAddr fo_33_0 rfl rfl rfl ?_
       exact WL.nil (N.cut () ⟨rfl, trivial⟩ (Below.refl _ _))
      refine And.intro (fun β w hS => ?_) ?_
      ·
       refine WL.sub (σ' := [(74, .bool true), (75, .pointer (some ⟨b13, 0, none⟩))]) ⟨rfl, rfl, trivial⟩ ?_
       refine WL.load1 (v := .slice adf12 m.funcs.length capf12) one_30 rfl rfl rfl (hS.cell 0 rfl rfl) ?_
       exact WL.nil (N.cut () ⟨rfl, trivial⟩ (Below.refl _ _))
      refine And.intro (fun β w hS => ?_) ?_
      ·
       refine WL.sub (σ' := [(10, .int .i64 (kf : Int)), (74, .bool true)]) ⟨rfl, rfl, trivial⟩ ?_
       refine WL.move rfl rfl rfl ?_
       exact WL.nil (N.cut () ⟨rfl, trivial⟩ (Below.refl _ _))
      refine And.intro (fun β w hS => ?_) ?_
      ·
       refine WL.sub (σ' := [(74, .bool true), (76, .slice adf12 m.funcs.length capf12), (77, .int .i64 (kf : Int))]) ⟨rfl, rfl, rfl, trivial⟩ ?_
       refine WL.indexAddrE (j := kf) Try.underlying30 isz_36 rfl rfl rfl rfl hj22 hE22 ?_
       exact WL.nil (N.cut () ⟨rfl, trivial⟩ (Below.refl _ _))
      refine And.intro (fun β w hS => ?_) ?_
      ·
       refine WL.sub (σ' := [(74, .bool true), (78, .pointer (some ⟨b22, o22 + kf * 4, none⟩))]) ⟨rfl, rfl, trivial⟩ ?_
       refine WL.fieldAddr fo_36_3 rfl rfl rfl ?_
       exact WL.nil (N.cut () ⟨rfl, trivial⟩ (Below.refl _ _))
      refine And.intro (fun β w hS => ?_) ?_
      ·
       refine WL.sub (σ' := [(74, .bool true), (79, .pointer (some ⟨b22, o22 + kf * 4 + 3, none⟩))]) ⟨rfl, rfl, trivial⟩ ?_
       refine WL.load1 (v := .slice adb22 x22.blocks.length capb22) one_34 rfl rfl rfl (hS.roCells hr22 hc22 3 _ rfl) ?_
       exact WL.nil (N.cut () ⟨rfl, trivial⟩ (Below.refl _ _))
      refine And.intro (fun β w hS => ?_) ?_
      ·
       refine WL.sub (σ' := [(74, .bool true), (80, .slice adb22 x22.blocks.length capb22)]) ⟨rfl, rfl, trivial⟩ ?_
       refine WL.lenSlice Try.underlying34 rfl rfl rfl ?_
       exact WL.nil (N.cut () ⟨rfl, trivial⟩ (Below.refl _ _))
      refine And.intro (fun β w hS => ?_) ?_
      ·
       refine WL.sub (σ' := [(74, .bool true), (81, .int .i64 (x22.blocks.length : Int))]) ⟨rfl, rfl, trivial⟩ ?_
       refine WL.bin rfl rfl rfl rfl rfl ?_
       refine WL.set 82 (v' := .bool true) rfl (by rw [hg25]) ?_
       exact WL.nil (N.cut () ⟨rfl, trivial⟩ (Below.refl _ _))
      refine And.intro (fun β w hS => ?_) ?_
      ·
       refine WL.sub (σ' := [(60, .bool false), (74, .bool true), (82, .bool true)]) ⟨rfl, rfl, rfl, trivial⟩ ?_
       refine WL.pick (v := .bool true) rfl rfl rfl rfl rfl rfl ?_
       exact WL.nil (N.cut () ⟨rfl, trivial⟩ (Below.refl _ _))
      refine And.intro (fun β w hS => ?_) ?_
      ·
       refine WL.sub (σ' := [(60, .bool false), (83, .bool true)]) ⟨rfl, rfl, trivial⟩ ?_
       refine WL.move rfl rfl rfl ?_
       exact WL.nil (N.cut () ⟨rfl, trivial⟩ (Below.refl _ _))
      refine And.intro (fun β w hS => ?_) ?_
      ·
       refine WL.sub (σ' := [(7, .pointer (some ⟨b8, 0, none⟩)), (84, .bool true)]) ⟨rfl, rfl, trivial⟩ ?_
       refine WL.fieldAddr fo_29_3 rfl rfl rfl ?_
       exact WL.nil (N.cut () ⟨rfl, trivial⟩ (Below.refl _ _))
      refine And.intro (fun β w hS => ?_) ?_
      ·
       refine WL.sub (σ' := [(84, .bool true), (85, .pointer (some ⟨b8, 3, none⟩))]) ⟨rfl, rfl, trivial⟩ ?_
       refine WL.load1 (v := .bool x7.weak) one_4 rfl rfl rfl (hS.cell 1 rfl rfl) ?_
       refine WL.set 86 (v' := .bool false) rfl (by rw [hg27]) ?_
       exact WL.nil (N.cut () ⟨rfl, trivial⟩ (Below.refl _ _))
      refine And.intro (fun β w hS => ?_) ?_
      ·
       refine WL.sub (σ' := [(84, .bool true), (86, .bool false)]) ⟨rfl, rfl, trivial⟩ ?_
       refine WL.move rfl rfl rfl ?_
       exact WL.nil (N.cut () ⟨rfl, trivial⟩ (Below.refl _ _))
      refine And.intro (fun β w hS => ?_) ?_
      ·
       refine WL.sub (σ' := [(8, .pointer (some ⟨b13, 0, none⟩)), (87, .bool false)]) ⟨rfl, rfl, trivial⟩ ?_
       refine WL.fieldAddr fo_33_0 rfl rfl rfl ?_
       exact WL.nil (N.cut () ⟨rfl, trivial⟩ (Below.refl _ _))
      refine And.intro (fun β w hS => ?_) ?_
      ·
       refine WL.sub (σ' := [(87, .bool false), (88, .pointer (some ⟨b13, 0, none⟩))]) ⟨rfl, rfl, trivial⟩ ?_
       refine WL.load1 (v := .slice adf12 m.funcs.length capf12) one_30 rfl rfl rfl (hS.cell 0 rfl rfl) ?_
       exact WL.nil (N.cut () ⟨rfl, trivial⟩ (Below.refl _ _))
      refine And.intro (fun β w hS => ?_) ?_
      ·
       refine WL.sub (σ' := [(10, .int .i64 (kf : Int)), (87, .bool false)]) ⟨rfl, rfl, trivial⟩ ?_
       refine WL.move rfl rfl rfl ?_
       exact WL.nil (N.cut () ⟨rfl, trivial⟩ (Below.refl _ _))
      refine And.intro (fun β w hS => ?_) ?_
      ·
       refine WL.sub (σ' := [(87, .bool false), (89, .slice adf12 m.funcs.length capf12), (90, .int .i64 (kf : Int))]) ⟨rfl, rfl, rfl, trivial⟩ ?_
       refine WL.indexAddrE (j := kf) Try.underlying30 isz_36 rfl rfl rfl rfl hj22 hE22 ?_
       exact WL.nil (N.cut () ⟨rfl, trivial⟩ (Below.refl _ _))
      refine And.intro (fun β w hS => ?_) ?_
      ·
       refine WL.sub (σ' := [(87, .bool false), (91, .pointer (some ⟨b22, o22 + kf * 4, none⟩))]) ⟨rfl, rfl, trivial⟩ ?_
       refine WL.fieldAddr fo_36_1 rfl rfl rfl ?_
       exact WL.nil (N.cut () ⟨rfl, trivial⟩ (Below.refl _ _))
      refine And.intro (fun β w hS => ?_) ?_
      ·
       refine WL.sub (σ' := [(87, .bool false), (92, .pointer (some ⟨b22, o22 + kf * 4 + 1, none⟩))]) ⟨rfl, rfl, trivial⟩ ?_
       refine WL.load1 (v := .int .i64 x22.bind) one_3 rfl rfl rfl (hS.roCells hr22 hc22 1 _ rfl) ?_
       exact WL.nil (N.cut () ⟨rfl, trivial⟩ (Below.refl _ _))
      refine And.intro (fun β w hS => ?_) ?_
      ·
       refine WL.sub (σ' := [(87, .bool false), (93, .int .i64 x22.bind)]) ⟨rfl, rfl, trivial⟩ ?_
       refine WL.bin rfl rfl rfl rfl rfl ?_
       exact WL.nil (N.cut () ⟨rfl, trivial⟩ (Below.refl _ _))
      refine And.intro (fun β w hS => ?_) ?_
      ·
       refine WL.sub (σ' := [(84, .bool true), (87, .bool false), (94, .bool (decide (x22.bind = 2)))]) ⟨rfl, rfl, rfl, trivial⟩ ?_
       refine WL.pick (v := .bool (decide (x22.bind = 2))) rfl rfl rfl rfl rfl rfl ?_
       exact WL.nil (N.cut () ⟨rfl, trivial⟩ (Below.refl _ _))
      refine And.intro (fun β w hS => ?_) ?_
      ·
       refine WL.sub (σ' := [(60, .bool false), (84, .bool true), (95, .bool (decide (x22.bind = 2)))]) ⟨rfl, rfl, rfl, trivial⟩ ?_
       refine WL.pick (v := .bool (decide (x22.bind = 2))) rfl rfl rfl rfl rfl rfl ?_
       exact WL.nil (N.cut () ⟨rfl, trivial⟩ (Below.refl _ _))
      refine And.intro (fun β w hS => ?_) ?_
      ·
       refine WL.sub (σ' := [(60, .bool false), (96, .bool (decide (x22.bind = 2)))]) ⟨rfl, rfl, trivial⟩ ?_
       refine WL.pick (v := .bool (decide (x22.bind = 2))) rfl rfl rfl rfl rfl rfl ?_
       exact WL.nil (N.cut () ⟨rfl, trivial⟩ (Below.refl _ _))
      trivial
     clear hS; intro w28 β hS
     refine WL.sub (σ' := [(0, .slice adl ms.length capl), (3, .bool true), (4, .slice add ds.length capd), (5, .int .i64 ((all9 (items9 ms)).2)), (6, .int .i64 (k : Int)), (7, .pointer (some ⟨b8, 0, none⟩)), (8, .pointer (some ⟨b13, 0, none⟩)), (9, .bool false), (10, .int .i64 (kf : Int)), (12, .bool true), (13, .tuple #[.slice add ds.length capd, .int .i64 ((all9 (items9 ms)).2)]), (14, .slice adl ms.length capl), (15, .tuple #[.slice add ds.length capd, .int .i64 ((all9 (items9 ms)).2)]), (16, .slice add ds.length capd), (17, .int .i64 ((all9 (items9 ms)).2)), (18, .int .i64 ((all9 (items9 ms)).2)), (19, .bool (!decide ((all9 (items9 ms)).2 = 0))), (21, .int .i64 (k : Int)), (22, .slice add ds.length capd), (23, .int .i64 (ds.length : Int)), (24, .bool (decide ((k : Int) < (ds.length : Int)))), (27, .slice add ds.length capd), (28, .int .i64 (k : Int)), (29, .pointer (some ⟨b7, o7 + k * 5, none⟩)), (30, .agg #[.string x7.name, .int .i64 x7.mod, .bool x7.fn, .bool x7.weak, .bool x7.here]), (31, .pointer (some ⟨b8, 4, none⟩)), (32, .bool x7.here), (33, .bool (!x7.here)), (37, .pointer (some ⟨b8, 1, none⟩)), (38, .int .i64 x7.mod), (39, .bool false), (40, .bool false), (41, .pointer (some ⟨b8, 1, none⟩)), (42, .int .i64 x7.mod), (43, .slice adl ms.length capl), (44, .int .i64 (ms.length : Int)), (45, .bool false), (46, .bool false), (47, .slice adl ms.length capl), (48, .pointer (some ⟨b8, 1, none⟩)), (49, .int .i64 (i : Int)), (50, .pointer (some ⟨b12, o12 + i * 2, none⟩)), (51, .agg #[.slice adf12 m.funcs.length capf12, .slice adg12 m.globs.length capg12]), (52, .int .i64 (kf : Int)), (53, .pointer (some ⟨b13, 0, none⟩)), (54, .slice adf12 m.funcs.length capf12), (55, .int .i64 (m.funcs.length : Int)), (56, .bool (decide ((kf : Int) < (m.funcs.length : Int)))), (59, .bool false), (60, .bool false), (61, .pointer (some ⟨b8, 2, none⟩)), (62, .bool true), (63, .bool true), (64, .pointer (some ⟨b13, 0, none⟩)), (65, .slice adf12 m.funcs.length capf12), (66, .int .i64 (kf : Int)), (67, .pointer (some ⟨b22, o22 + kf * 4, none⟩)), (68, .pointer (some ⟨b22, o22 + kf * 4, none⟩)), (69, .string x22.name), (70, .pointer (some ⟨b8, 0, none⟩)), (71, .string x7.name), (72, .bool true), (73, .bool true), (74, .bool true), (75, .pointer (some ⟨b13, 0, none⟩)), (76, .slice adf12 m.funcs.length capf12), (77, .int .i64 (kf : Int)), (78, .pointer (some ⟨b22, o22 + kf * 4, none⟩)), (79, .pointer (some ⟨b22, o22 + kf * 4 + 3, none⟩)), (80, .slice adb22 x22.blocks.length capb22), (81, .int .i64 (x22.blocks.length : Int)), (82, .bool true), (83, .bool true), (84, .bool true), (85, .pointer (some ⟨b8, 3, none⟩)), (86, .bool false), (87, .bool false), (88, .pointer (some ⟨b13, 0, none⟩)), (89, .slice adf12 m.funcs.length capf12), (90, .int .i64 (kf : Int)), (91, .pointer (some ⟨b22, o22 + kf * 4, none⟩)), (92, .pointer (some ⟨b22, o22 + kf * 4 + 1, none⟩)), (93, .int .i64 x22.bind), (94, .bool (decide (x22.bind = 2))), (95, .bool (decide (x22.bind = 2))), (96, .bool (decide (x22.bind = 2))), (97, .bool (decide (x22.bind = 2)))]) (Sub.ofEq (by kernel_rfl)) ?_
     refine WL.assign rfl rfl rfl ?_
     refine WL.nil ?_
     refine N.blk ?_
     refine N.seq ?_
     refine W.region ?_
     refine WL.move rfl rfl rfl ?_
     refine WL.add (c := (kf : Int) + 1) rfl rfl rfl rfl (rfl) (by omega) ?_
     refine WL.assign rfl rfl rfl ?_
     refine WL.nil ?_
     have hb2 : (decide (x22.bind = 2) : Bool) = ((m.funcs.take (kf + 1)).any (pF9 x7)) := by rw [take_next hx22, List.any_append, ← hb]; simp [pF9, hc17p, hc17, hg18, hg19, hg23p, hg23, hg25p, hg25, hg27] <;> (intros; first | omega | (apply List.eq_nil_of_length_eq_zero; omega))
     exact N.loop (kf + 1, decide (x22.bind = 2)) ⟨rfl, rfl, rfl, rfl, rfl, rfl, rfl, rfl, rfl, rfl, rfl, rfl, rfl, rfl, rfl, rfl, rfl, rfl, rfl, rfl, rfl, rfl, rfl, rfl, rfl, rfl, rfl, rfl, rfl, rfl, rfl, rfl, rfl, rfl, rfl, rfl, rfl, rfl, rfl, rfl, rfl, rfl, rfl, trivial⟩ ⟨hS, by omega, hb2⟩ (by first | omega | (simp only; omega))
    refine W.drawL (by kernel_rfl) 39 ((.q (.bool false)) :: (.q (.bool false)) :: (.q (.pointer (some ⟨b8, 2, none⟩))) :: (.q (.bool true)) :: (.q (.bool true)) :: (.q (.pointer (some ⟨b13, 0, none⟩))) :: (.q (.slice adf12 m.funcs.length capf12)) :: (.q (.int .i64 (kf : Int))) :: (.q (.pointer (some ⟨b22, o22 + kf * 4, none⟩))) :: (.q (.pointer (some ⟨b22, o22 + kf * 4, none⟩))) :: (.q (.string x22.name)) :: (.q (.pointer (some ⟨b8, 0, none⟩))) :: (.q (.string x7.name)) :: (.q (.bool true)) :: (.q (.bool true)) :: (.q (.bool true)) :: (.q (.pointer (some ⟨b13, 0, none⟩))) :: (.q (.slice adf12 m.funcs.length capf12)) :: (.q (.int .i64 (kf : Int))) :: (.q (.pointer (some ⟨b22, o22 + kf * 4, none⟩))) :: (.q (.pointer (some ⟨b22, o22 + kf * 4 + 3, none⟩))) :: (.q (.slice adb22 x22.blocks.length capb22)) :: (.q (.int .i64 (x22.blocks.length : Int))) :: (.q (.bool true)) :: (.q (.bool true)) :: (.q (.bool true)) :: (.q (.pointer (some ⟨b8, 3, none⟩))) :: (.q (.bool true)) :: (.q (.bool true)) :: (.q undef) :: (.q undef) :: (.q undef) :: (.q undef) :: (.q undef) :: (.q undef) :: (.q undef) :: (.q (.bool true)) :: (.q (.bool true)) :: (.q (.bool true)) :: []) (by kernel_rfl) (by kernel_rfl) [(0, .slice adl ms.length capl), (3, .bool true), (4, .slice add ds.length capd), (5, .int .i64 ((all9 (items9 ms)).2)), (6, .int .i64 (k : Int)), (7, .pointer (some ⟨b8, 0, none⟩)), (8, .pointer (some ⟨b13, 0, none⟩)), (9, .bool false), (10, .int .i64 (kf : Int)), (12, .bool true), (13, .tuple #[.slice add ds.length capd, .int .i64 ((all9 (items9 ms)).2)]), (14, .slice adl ms.length capl), (15, .tuple #[.slice add ds.length capd, .int .i64 ((all9 (items9 ms)).2)]), (16, .slice add ds.length capd), (17, .int .i64 ((all9 (items9 ms)).2)), (18, .int .i64 ((all9 (items9 ms)).2)), (19, .bool (!decide ((all9 (items9 ms)).2 = 0))), (21, .int .i64 (k : Int)), (22, .slice add ds.length capd), (23, .int .i64 (ds.length : Int)), (24, .bool (decide ((k : Int) < (ds.length : Int)))), (27, .slice add ds.length capd), (28, .int .i64 (k : Int)), (29, .pointer (some ⟨b7, o7 + k * 5, none⟩)), (30, .agg #[.string x7.name, .int .i64 x7.mod, .bool x7.fn, .bool x7.weak, .bool x7.here]), (31, .pointer (some ⟨b8, 4, none⟩)), (32, .bool x7.here), (33, .bool (!x7.here)), (37, .pointer (some ⟨b8, 1, none⟩)), (38, .int .i64 x7.mod), (39, .bool false), (40, .bool false), (41, .pointer (some ⟨b8, 1, none⟩)), (42, .int .i64 x7.mod), (43, .slice adl ms.length capl), (44, .int .i64 (ms.length : Int)), (45, .bool false), (46, .bool false), (47, .slice adl ms.length capl), (48, .pointer (some ⟨b8, 1, none⟩)), (49, .int .i64 (i : Int)), (50, .pointer (some ⟨b12, o12 + i * 2, none⟩)), (51, .agg #[.slice adf12 m.funcs.length capf12, .slice adg12 m.globs.length capg12]), (52, .int .i64 (kf : Int)), (53, .pointer (some ⟨b13, 0, none⟩)), (54, .slice adf12 m.funcs.length capf12), (55, .int .i64 (m.funcs.length : Int)), (56, .bool (decide ((kf : Int) < (m.funcs.length : Int))))] ⟨rfl, rfl, rfl, rfl, rfl, rfl, rfl, rfl, rfl, rfl, rfl, rfl, rfl, rfl, rfl, rfl, rfl, rfl, rfl, rfl, rfl, rfl, rfl, rfl, rfl, rfl, rfl, rfl, rfl, rfl, rfl, rfl, rfl, rfl, rfl, rfl, rfl, rfl, rfl, rfl, rfl, rfl, rfl, rfl, rfl, rfl, rfl, rfl, trivial⟩ (by kernel_rfl) hS ?_ ?_
    ·
     refine And.intro (fun β w hS => ?_) ?_
     ·
      refine WL.sub (σ' := [(9, .bool false)]) ⟨rfl, trivial⟩ ?_
      refine WL.move rfl rfl rfl ?_
      exact WL.nil (N.cut () ⟨rfl, trivial⟩ (Below.refl _ _))
     refine And.intro (fun β w hS => ?_) ?_
     ·
      refine WL.sub (σ' := [(59, .bool false)]) ⟨rfl, trivial⟩ ?_
      refine WL.move rfl rfl rfl ?_
      exact WL.nil (N.cut () ⟨rfl, trivial⟩ (Below.refl _ _))
     refine And.intro (fun β w hS => ?_) ?_
     ·
      refine WL.sub (σ' := [(7, .pointer (some ⟨b8, 0, none⟩)), (60, .bool false)]) ⟨rfl, rfl, trivial⟩ ?_
      refine WL.fieldAddr fo_29_2 rfl rfl rfl ?_
      exact WL.nil (N.cut () ⟨rfl, trivial⟩ (Below.refl _ _))
     refine And.intro (fun β w hS => ?_) ?_
     ·
      refine WL.sub (σ' := [(60, .bool false), (61, .pointer (some ⟨b8, 2, none⟩))]) ⟨rfl, rfl, trivial⟩ ?_
      refine WL.load1 (v := .bool x7.fn) one_4 rfl rfl rfl (hS.cell 1 rfl rfl) ?_
      refine WL.set 62 (v' := .bool true) rfl (by rw [hg19]) ?_
      exact WL.nil (N.cut () ⟨rfl, trivial⟩ (Below.refl _ _))
     refine And.intro (fun β w hS => ?_) ?_
     ·
      refine WL.sub (σ' := [(60, .bool false), (62, .bool true)]) ⟨rfl, rfl, trivial⟩ ?_
      refine WL.move rfl rfl rfl ?_
      exact WL.nil (N.cut () ⟨rfl, trivial⟩ (Below.refl _ _))
     refine And.intro (fun β w hS => ?_) ?_
     ·
      refine WL.sub (σ' := [(8, .pointer (some ⟨b13, 0, none⟩)), (63, .bool true)]) ⟨rfl, rfl, trivial⟩ ?_
      refine WL.fieldAddr fo_33_0 rfl rfl rfl ?_
      exact WL.nil (N.cut () ⟨rfl, trivial⟩ (Below.refl _ _))
     refine And.intro (fun β w hS => ?_) ?_
     ·
      refine WL.sub (σ' := [(63, .bool true), (64, .pointer (some ⟨b13, 0, none⟩))]) ⟨rfl, rfl, trivial⟩ ?_
      refine WL.load1 (v := .slice adf12 m.funcs.length capf12) one_30 rfl rfl rfl (hS.cell 0 rfl rfl) ?_
      exact WL.nil (N.cut () ⟨rfl, trivial⟩ (Below.refl _ _))
     refine And.intro (fun β w hS => ?_) ?_
     ·
      refine WL.sub (σ' := [(10, .int .i64 (kf : Int)), (63, .bool true)]) ⟨rfl, rfl, trivial⟩ ?_
      refine WL.move rfl rfl rfl ?_
      exact WL.nil (N.cut () ⟨rfl, trivial⟩ (Below.refl _ _))
     refine And.intro (fun β w hS => ?_) ?_
     ·
      refine WL.sub (σ' := [(63, .bool true), (65, .slice adf12 m.funcs.length capf12), (66, .int .i64 (kf : Int))]) ⟨rfl, rfl, rfl, trivial⟩ ?_
      refine WL.indexAddrE (j := kf) Try.underlying30 isz_36 rfl rfl rfl rfl hj22 hE22 ?_
      exact WL.nil (N.cut () ⟨rfl, trivial⟩ (Below.refl _ _))
     refine And.intro (fun β w hS => ?_) ?_
     ·
      refine WL.sub (σ' := [(63, .bool true), (67, .pointer (some ⟨b22, o22 + kf * 4, none⟩))]) ⟨rfl, rfl, trivial⟩ ?_
      refine WL.fieldAddr fo_36_0 rfl rfl rfl ?_
      exact WL.nil (N.cut () ⟨rfl, trivial⟩ (Below.refl _ _))
     refine And.intro (fun β w hS => ?_) ?_
     ·
      refine WL.sub (σ' := [(63, .bool true), (68, .pointer (some ⟨b22, o22 + kf * 4, none⟩))]) ⟨rfl, rfl, trivial⟩ ?_
      refine WL.load1 (v := .string x22.name) one_9 rfl rfl rfl (hS.roCells hr22 hc22 0 _ rfl) ?_
      exact WL.nil (N.cut () ⟨rfl, trivial⟩ (Below.refl _ _))
     refine And.intro (fun β w hS => ?_) ?_
     ·
      refine WL.sub (σ' := [(7, .pointer (some ⟨b8, 0, none⟩)), (63, .bool true)]) ⟨rfl, rfl, trivial⟩ ?_
      refine WL.fieldAddr fo_29_0 rfl rfl rfl ?_
      exact WL.nil (N.cut () ⟨rfl, trivial⟩ (Below.refl _ _))
     refine And.intro (fun β w hS => ?_) ?_
     ·
      refine WL.sub (σ' := [(63, .bool true), (70, .pointer (some ⟨b8, 0, none⟩))]) ⟨rfl, rfl, trivial⟩ ?_
      refine WL.load1 (v := .string x7.name) one_9 rfl rfl rfl (hS.cell 1 rfl rfl) ?_
      exact WL.nil (N.cut () ⟨rfl, trivial⟩ (Below.refl _ _))
     refine And.intro (fun β w hS => ?_) ?_
     ·
      refine WL.sub (σ' := [(63, .bool true), (69, .string x22.name), (71, .string x7.name)]) ⟨rfl, rfl, rfl, trivial⟩ ?_
      refine WL.eqStr rfl rfl rfl rfl ?_
      refine WL.set 72 (v' := .bool true) rfl (by rw [hg23]) ?_
      exact WL.nil (N.cut () ⟨rfl, trivial⟩ (Below.refl _ _))
     refine And.intro (fun β w hS => ?_) ?_
     ·
      refine WL.sub (σ' := [(60, .bool false), (63, .bool true), (72, .bool true)]) ⟨rfl, rfl, rfl, trivial⟩ ?_
      refine WL.pick (v := .bool true) rfl rfl rfl rfl rfl rfl ?_
      exact WL.nil (N.cut () ⟨rfl, trivial⟩ (Below.refl _ _))
     refine And.intro (fun β w hS => ?_) ?_
     ·
      refine WL.sub (σ' := [(60, .bool false), (73, .bool true)]) ⟨rfl, rfl, trivial⟩ ?_
      refine WL.move rfl rfl rfl ?_
      exact WL.nil (N.cut () ⟨rfl, trivial⟩ (Below.refl _ _))
     refine And.intro (fun β w hS => ?_) ?_
     ·
      refine WL.sub (σ' := [(8, .pointer (some ⟨b13, 0, none⟩)), (74, .bool true)]) ⟨rfl, rfl, trivial⟩ ?_
      refine WL.fieldAddr fo_33_0 rfl rfl rfl ?_
      exact WL.nil (N.cut () ⟨rfl, trivial⟩ (Below.refl _ _))
     refine And.intro (fun β w hS => ?_) ?_
     ·
      refine WL.sub (σ' := [(74, .bool true), (75, .pointer (some ⟨b13, 0, none⟩))]) ⟨rfl, rfl, trivial⟩ ?_
      refine WL.load1 (v := .slice adf12 m.funcs.length capf12) one_30 rfl rfl rfl (hS.cell 0 rfl rfl) ?_
      exact WL.nil (N.cut () ⟨rfl, trivial⟩ (Below.refl _ _))
     refine And.intro (fun β w hS => ?_) ?_
     ·
      refine WL.sub (σ' := [(10, .int .i64 (kf : Int)), (74, .bool true)]) ⟨rfl, rfl, trivial⟩ ?_
      refine WL.move rfl rfl rfl ?_
      exact WL.nil (N.cut () ⟨rfl, trivial⟩ (Below.refl _ _))
     refine And.intro (fun β w hS => ?_) ?_
     ·
      refine WL.sub (σ' := [(74, .bool true), (76, .slice adf12 m.funcs.length capf12), (77, .int .i64 (kf : Int))]) ⟨rfl, rfl, rfl, trivial⟩ ?_
      refine WL.indexAddrE (j := kf) Try.underlying30 isz_36 rfl rfl rfl rfl hj22 hE22 ?_
      exact WL.nil (N.cut () ⟨rfl, trivial⟩ (Below.refl _ _))
     refine And.intro (fun β w hS => ?_) ?_
     ·
      refine WL.sub (σ' := [(74, .bool true), (78, .pointer (some ⟨b22, o22 + kf * 4, none⟩))]) ⟨rfl, rfl, trivial⟩ ?_
      refine WL.fieldAddr fo_36_3 rfl rfl rfl ?_
      exact WL.nil (N.cut () ⟨rfl, trivial⟩ (Below.refl _ _))
     refine And.intro (fun β w hS => ?_) ?_
     ·
      refine WL.sub (σ' := [(74, .bool true), (79, .pointer (some ⟨b22, o22 + kf * 4 + 3, none⟩))]) ⟨rfl, rfl, trivial⟩ ?_
      refine WL.load1 (v := .slice adb22 x22.blocks.length capb22) one_34 rfl rfl rfl (hS.roCells hr22 hc22 3 _ rfl) ?_
      exact WL.nil (N.cut () ⟨rfl, trivial⟩ (Below.refl _ _))
     refine And.intro (fun β w hS => ?_) ?_
     ·
      refine WL.sub (σ' := [(74, .bool true), (80, .slice adb22 x22.blocks.length capb22)]) ⟨rfl, rfl, trivial⟩ ?_
      refine WL.lenSlice Try.underlying34 rfl rfl rfl ?_
      exact WL.nil (N.cut () ⟨rfl, trivial⟩ (Below.refl _ _))
     refine And.intro (fun β w hS => ?_) ?_
     ·
      refine WL.sub (σ' := [(74, .bool true), (81, .int .i64 (x22.blocks.length : Int))]) ⟨rfl, rfl, trivial⟩ ?_
      refine WL.bin rfl rfl rfl rfl rfl ?_
      refine WL.set 82 (v' := .bool true) rfl (by rw [hg25]) ?_
      exact WL.nil (N.cut () ⟨rfl, trivial⟩ (Below.refl _ _))
     refine And.intro (fun β w hS => ?_) ?_
     ·
      refine WL.sub (σ' := [(60, .bool false), (74, .bool true), (82, .bool true)]) ⟨rfl, rfl, rfl, trivial⟩ ?_
      refine WL.pick (v := .bool true) rfl rfl rfl rfl rfl rfl ?_
      exact WL.nil (N.cut () ⟨rfl, trivial⟩ (Below.refl _ _))
     refine And.intro (fun β w hS => ?_) ?_
     ·
      refine WL.sub (σ' := [(60, .bool false), (83, .bool true)]) ⟨rfl, rfl, trivial⟩ ?_
      refine WL.move rfl rfl rfl ?_
      exact WL.nil (N.cut () ⟨rfl, trivial⟩ (Below.refl _ _))
     refine And.intro (fun β w hS => ?_) ?_
     ·
      refine WL.sub (σ' := [(7, .pointer (some ⟨b8, 0, none⟩)), (84, .bool true)]) ⟨rfl, rfl, trivial⟩ ?_
      refine WL.fieldAddr fo_29_3 rfl rfl rfl ?_
      exact WL.nil (N.cut () ⟨rfl, trivial⟩ (Below.refl _ _))
     refine And.intro (fun β w hS => ?_) ?_
     ·
      refine WL.sub (σ' := [(84, .bool true), (85, .pointer (some ⟨b8, 3, none⟩))]) ⟨rfl, rfl, trivial⟩ ?_
      refine WL.load1 (v := .bool x7.weak) one_4 rfl rfl rfl (hS.cell 1 rfl rfl) ?_
      refine WL.set 86 (v' := .bool true) rfl (by rw [hg27]) ?_
      exact WL.nil (N.cut () ⟨rfl, trivial⟩ (Below.refl _ _))
     refine And.intro (fun β w hS => ?_) ?_
     ·
      refine WL.sub (σ' := [(84, .bool true), (86, .bool true)]) ⟨rfl, rfl, trivial⟩ ?_
      refine WL.move rfl rfl rfl ?_
      exact WL.nil (N.cut () ⟨rfl, trivial⟩ (Below.refl _ _))
     refine And.intro (fun β w hS => ?_) ?_
     ·
      refine WL.sub (σ' := [(8, .pointer (some ⟨b13, 0, none⟩)), (87, .bool true)]) ⟨rfl, rfl, trivial⟩ ?_
      refine WL.skp rfl rfl ?_
      exact WL.nil (N.cut () ⟨rfl, trivial⟩ (Below.refl _ _))
     refine And.intro (fun β w hS => ?_) ?_
     ·
      refine WL.sub (σ' := [(87, .bool true), (88, undef)]) ⟨rfl, rfl, trivial⟩ ?_
      refine WL.skp rfl rfl ?_
      exact WL.nil (N.cut () ⟨rfl, trivial⟩ (Below.refl _ _))
     refine And.intro (fun β w hS => ?_) ?_
     ·
      refine WL.sub (σ' := [(10, .int .i64 (kf : Int)), (87, .bool true)]) ⟨rfl, rfl, trivial⟩ ?_
      refine WL.skp rfl rfl ?_
      exact WL.nil (N.cut () ⟨rfl, trivial⟩ (Below.refl _ _))
     refine And.intro (fun β w hS => ?_) ?_
     ·
      refine WL.sub (σ' := [(87, .bool true), (89, undef), (90, undef)]) ⟨rfl, rfl, rfl, trivial⟩ ?_
      refine WL.skp rfl rfl ?_
      exact WL.nil (N.cut () ⟨rfl, trivial⟩ (Below.refl _ _))
     refine And.intro (fun β w hS => ?_) ?_
     ·
      refine WL.sub (σ' := [(87, .bool true), (91, undef)]) ⟨rfl, rfl, trivial⟩ ?_
      refine WL.skp rfl rfl ?_
      exact WL.nil (N.cut () ⟨rfl, trivial⟩ (Below.refl _ _))
     refine And.intro (fun β w hS => ?_) ?_
     ·
      refine WL.sub (σ' := [(87, .bool true), (92, undef)]) ⟨rfl, rfl, trivial⟩ ?_
      refine WL.skp rfl rfl ?_
      exact WL.nil (N.cut () ⟨rfl, trivial⟩ (Below.refl _ _))
     refine And.intro (fun β w hS => ?_) ?_
     ·
      refine WL.sub (σ' := [(87, .bool true), (93, undef)]) ⟨rfl, rfl, trivial⟩ ?_
      refine WL.skp rfl rfl ?_
      exact WL.nil (N.cut () ⟨rfl, trivial⟩ (Below.refl _ _))
     refine And.intro (fun β w hS => ?_) ?_
     ·
      refine WL.sub (σ' := [(84, .bool true), (87, .bool true), (94, undef)]) ⟨rfl, rfl, rfl, trivial⟩ ?_
      refine WL.pick (v := .bool true) rfl rfl rfl rfl rfl rfl ?_
      exact WL.nil (N.cut () ⟨rfl, trivial⟩ (Below.refl _ _))
     refine And.intro (fun β w hS => ?_) ?_
     ·
      refine WL.sub (σ' := [(60, .bool false), (84, .bool true), (95, .bool true)]) ⟨rfl, rfl, rfl, trivial⟩ ?_
      refine WL.pick (v := .bool true) rfl rfl rfl rfl rfl rfl ?_
      exact WL.nil (N.cut () ⟨rfl, trivial⟩ (Below.refl _ _))
     refine And.intro (fun β w hS => ?_) ?_
     ·
      refine WL.sub (σ' := [(60, .bool false), (96, .bool true)]) ⟨rfl, rfl, trivial⟩ ?_
      refine WL.pick (v := .bool true) rfl rfl rfl rfl rfl rfl ?_
      exact WL.nil (N.cut () ⟨rfl, trivial⟩ (Below.refl _ _))
     trivial
    clear hS; intro w29 β hS
    refine WL.sub (σ' := [(0, .slice adl ms.length capl), (3, .bool true), (4, .slice add ds.length capd), (5, .int .i64 ((all9 (items9 ms)).2)), (6, .int .i64 (k : Int)), (7, .pointer (some ⟨b8, 0, none⟩)), (8, .pointer (some ⟨b13, 0, none⟩)), (9, .bool false), (10, .int .i64 (kf : Int)), (12, .bool true), (13, .tuple #[.slice add ds.length capd, .int .i64 ((all9 (items9 ms)).2)]), (14, .slice adl ms.length capl), (15, .tuple #[.slice add ds.length capd, .int .i64 ((all9 (items9 ms)).2)]), (16, .slice add ds.length capd), (17, .int .i64 ((all9 (items9 ms)).2)), (18, .int .i64 ((all9 (items9 ms)).2)), (19, .bool (!decide ((all9 (items9 ms)).2 = 0))), (21, .int .i64 (k : Int)), (22, .slice add ds.length capd), (23, .int .i64 (ds.length : Int)), (24, .bool (decide ((k : Int) < (ds.length : Int)))), (27, .slice add ds.length capd), (28, .int .i64 (k : Int)), (29, .pointer (some ⟨b7, o7 + k * 5, none⟩)), (30, .agg #[.string x7.name, .int .i64 x7.mod, .bool x7.fn, .bool x7.weak, .bool x7.here]), (31, .pointer (some ⟨b8, 4, none⟩)), (32, .bool x7.here), (33, .bool (!x7.here)), (37, .pointer (some ⟨b8, 1, none⟩)), (38, .int .i64 x7.mod), (39, .bool false), (40, .bool false), (41, .pointer (some ⟨b8, 1, none⟩)), (42, .int .i64 x7.mod), (43, .slice adl ms.length capl), (44, .int .i64 (ms.length : Int)), (45, .bool false), (46, .bool false), (47, .slice adl ms.length capl), (48, .pointer (some ⟨b8, 1, none⟩)), (49, .int .i64 (i : Int)), (50, .pointer (some ⟨b12, o12 + i * 2, none⟩)), (51, .agg #[.slice adf12 m.funcs.length capf12, .slice adg12 m.globs.length capg12]), (52, .int .i64 (kf : Int)), (53, .pointer (some ⟨b13, 0, none⟩)), (54, .slice adf12 m.funcs.length capf12), (55, .int .i64 (m.funcs.length : Int)), (56, .bool (decide ((kf : Int) < (m.funcs.length : Int)))), (59, .bool false), (60, .bool false), (61, .pointer (some ⟨b8, 2, none⟩)), (62, .bool true), (63, .bool true), (64, .pointer (some ⟨b13, 0, none⟩)), (65, .slice adf12 m.funcs.length capf12), (66, .int .i64 (kf : Int)), (67, .pointer (some ⟨b22, o22 + kf * 4, none⟩)), (68, .pointer (some ⟨b22, o22 + kf * 4, none⟩)), (69, .string x22.name), (70, .pointer (some ⟨b8, 0, none⟩)), (71, .string x7.name), (72, .bool true), (73, .bool true), (74, .bool true), (75, .pointer (some ⟨b13, 0, none⟩)), (76, .slice adf12 m.funcs.length capf12), (77, .int .i64 (kf : Int)), (78, .pointer (some ⟨b22, o22 + kf * 4, none⟩)), (79, .pointer (some ⟨b22, o22 + kf * 4 + 3, none⟩)), (80, .slice adb22 x22.blocks.length capb22), (81, .int .i64 (x22.blocks.length : Int)), (82, .bool true), (83, .bool true), (84, .bool true), (85, .pointer (some ⟨b8, 3, none⟩)), (86, .bool true), (87, .bool true), (88, undef), (89, undef), (90, undef), (91, undef), (92, undef), (93, undef), (94, undef), (95, .bool true), (96, .bool true), (97, .bool true)]) (Sub.ofEq (by kernel_rfl)) ?_
    refine WL.assign rfl rfl rfl ?_
    refine WL.nil ?_
    refine N.blk ?_
    refine N.seq ?_
    refine W.region ?_
    refine WL.move rfl rfl rfl ?_
    refine WL.add (c := (kf : Int) + 1) rfl rfl rfl rfl (rfl) (by omega) ?_
    refine WL.assign rfl rfl rfl ?_
    refine WL.nil ?_
    have hb2 : (true : Bool) = ((m.funcs.take (kf + 1)).any (pF9 x7)) := by rw [take_next hx22, List.any_append, ← hb]; simp [pF9, hc17p, hc17, hg18, hg19, hg23p, hg23, hg25p, hg25, hg27] <;> (intros; first | omega | (apply List.eq_nil_of_length_eq_zero; omega))
    exact N.loop (kf + 1, true) ⟨rfl, rfl, rfl, rfl, rfl, rfl, rfl, rfl, rfl, rfl, rfl, rfl, rfl, rfl, rfl, rfl, rfl, rfl, rfl, rfl, rfl, rfl, rfl, rfl, rfl, rfl, rfl, rfl, rfl, rfl, rfl, rfl, rfl, rfl, rfl, rfl, rfl, rfl, rfl, rfl, rfl, rfl, rfl, trivial⟩ ⟨hS, by omega, hb2⟩ (by first | omega | (simp only; omega))
   refine W.set 9 (v' := .bool true) rfl (by rw [hg18]) ?_
   refine W.drawL (by kernel_rfl) 39 ((.q (.bool true)) :: (.q (.bool true)) :: (.q undef) :: (.q undef) :: (.q undef) :: (.q undef) :: (.q undef) :: (.q undef) :: (.q undef) :: (.q undef) :: (.q undef) :: (.q undef) :: (.q undef) :: (.q undef) :: (.q undef) :: (.q undef) :: (.q undef) :: (.q undef) :: (.q undef) :: (.q undef) :: (.q undef) :: (.q undef) :: (.q undef) :: (.q undef) :: (.q undef) :: (.q undef) :: (.q undef) :: (.q undef) :: (.q undef) :: (.q undef) :: (.q undef) :: (.q undef) :: (.q undef) :: (.q undef) :: (.q undef) :: (.q undef) :: (.q undef) :: (.q undef) :: (.q (.bool true)) :: []) (by kernel_rfl) (by kernel_rfl) [(0, .slice adl ms.length capl), (3, .bool true), (4, .slice add ds.length capd), (5, .int .i64 ((all9 (items9 ms)).2)), (6, .int .i64 (k : Int)), (7, .pointer (some ⟨b8, 0, none⟩)), (8, .pointer (some ⟨b13, 0, none⟩)), (9, .bool true), (10, .int .i64 (kf : Int)), (12, .bool true), (13, .tuple #[.slice add ds.length capd, .int .i64 ((all9 (items9 ms)).2)]), (14, .slice adl ms.length capl), (15, .tuple #[.slice add ds.length capd, .int .i64 ((all9 (items9 ms)).2)]), (16, .slice add ds.length capd), (17, .int .i64 ((all9 (items9 ms)).2)), (18, .int .i64 ((all9 (items9 ms)).2)), (19, .bool (!decide ((all9 (items9 ms)).2 = 0))), (21, .int .i64 (k : Int)), (22, .slice add ds.length capd), (23, .int .i64 (ds.length : Int)), (24, .bool (decide ((k : Int) < (ds.length : Int)))), (27, .slice add ds.length capd), (28, .int .i64 (k : Int)), (29, .pointer (some ⟨b7, o7 + k * 5, none⟩)), (30, .agg #[.string x7.name, .int .i64 x7.mod, .bool x7.fn, .bool x7.weak, .bool x7.here]), (31, .pointer (some ⟨b8, 4, none⟩)), (32, .bool x7.here), (33, .bool (!x7.here)), (37, .pointer (some ⟨b8, 1, none⟩)), (38, .int .i64 x7.mod), (39, .bool false), (40, .bool false), (41, .pointer (some ⟨b8, 1, none⟩)), (42, .int .i64 x7.mod), (43, .slice adl ms.length capl), (44, .int .i64 (ms.length : Int)), (45, .bool false), (46, .bool false), (47, .slice adl ms.length capl), (48, .pointer (some ⟨b8, 1, none⟩)), (49, .int .i64 (i : Int)), (50, .pointer (some ⟨b12, o12 + i * 2, none⟩)), (51, .agg #[.slice adf12 m.funcs.length capf12, .slice adg12 m.globs.length capg12]), (52, .int .i64 (kf : Int)), (53, .pointer (some ⟨b13, 0, none⟩)), (54, .slice adf12 m.funcs.length capf12), (55, .int .i64 (m.funcs.length : Int)), (56, .bool (decide ((kf : Int) < (m.funcs.length : Int))))] ⟨rfl, rfl, rfl, rfl, rfl, rfl, rfl, rfl, rfl, rfl, rfl, rfl, rfl, rfl, rfl, rfl, rfl, rfl, rfl, rfl, rfl, rfl, rfl, rfl, rfl, rfl, rfl, rfl, rfl, rfl, rfl, rfl, rfl, rfl, rfl, rfl, rfl, rfl, rfl, rfl, rfl, rfl, rfl, rfl, rfl, rfl, rfl, rfl, trivial⟩ (by kernel_rfl) hS ?_ ?_
   ·
    refine And.intro (fun β w hS => ?_) ?_
    ·
     refine WL.sub (σ' := [(9, .bool true)]) ⟨rfl, trivial⟩ ?_
     refine WL.move rfl rfl rfl ?_
     exact WL.nil (N.cut () ⟨rfl, trivial⟩ (Below.refl _ _))
    refine And.intro (fun β w hS => ?_) ?_
    ·
     refine WL.sub (σ' := [(59, .bool true)]) ⟨rfl, trivial⟩ ?_
     refine WL.move rfl rfl rfl ?_
     exact WL.nil (N.cut () ⟨rfl, trivial⟩ (Below.refl _ _))
    refine And.intro (fun β w hS => ?_) ?_
    ·
     refine WL.sub (σ' := [(7, .pointer (some ⟨b8, 0, none⟩)), (60, .bool true)]) ⟨rfl, rfl, trivial⟩ ?_
     refine WL.skp rfl rfl ?_
     exact WL.nil (N.cut () ⟨rfl, trivial⟩ (Below.refl _ _))
    refine And.intro (fun β w hS => ?_) ?_
    ·
     refine WL.sub (σ' := [(60, .bool true), (61, undef)]) ⟨rfl, rfl, trivial⟩ ?_
     refine WL.skp rfl rfl ?_
     exact WL.nil (N.cut () ⟨rfl, trivial⟩ (Below.refl _ _))
    refine And.intro (fun β w hS => ?_) ?_
    ·
     refine WL.sub (σ' := [(60, .bool true), (62, undef)]) ⟨rfl, rfl, trivial⟩ ?_
     refine WL.skp rfl rfl ?_
     exact WL.nil (N.cut () ⟨rfl, trivial⟩ (Below.refl _ _))
    refine And.intro (fun β w hS => ?_) ?_
    ·
     refine WL.sub (σ' := [(8, .pointer (some ⟨b13, 0, none⟩)), (63, undef)]) ⟨rfl, rfl, trivial⟩ ?_
     refine WL.skp rfl rfl ?_
     exact WL.nil (N.cut () ⟨rfl, trivial⟩ (Below.refl _ _))
    refine And.intro (fun β w hS => ?_) ?_
    ·
     refine WL.sub (σ' := [(63, undef), (64, undef)]) ⟨rfl, rfl, trivial⟩ ?_
     refine WL.skp rfl rfl ?_
     exact WL.nil (N.cut () ⟨rfl, trivial⟩ (Below.refl _ _))
    refine And.intro (fun β w hS => ?_) ?_
    ·
     refine WL.sub (σ' := [(10, .int .i64 (kf : Int)), (63, undef)]) ⟨rfl, rfl, trivial⟩ ?_
     refine WL.skp rfl rfl ?_
     exact WL.nil (N.cut () ⟨rfl, trivial⟩ (Below.refl _ _))
    refine And.intro (fun β w hS => ?_) ?_
    ·
     refine WL.sub (σ' := [(63, undef), (65, undef), (66, undef)]) ⟨rfl, rfl, rfl, trivial⟩ ?_
     refine WL.skp rfl rfl ?_
     exact WL.nil (N.cut () ⟨rfl, trivial⟩ (Below.refl _ _))
    refine And.intro (fun β w hS => ?_) ?_
    ·
     refine WL.sub (σ' := [(63, undef), (67, undef)]) ⟨rfl, rfl, trivial⟩ ?_
     refine WL.skp rfl rfl ?_
     exact WL.nil (N.cut () ⟨rfl, trivial⟩ (Below.refl _ _))
    refine And.intro (fun β w hS => ?_) ?_
    ·
     refine WL.sub (σ' := [(63, undef), (68, undef)]) ⟨rfl, rfl, trivial⟩ ?_
     refine WL.skp rfl rfl ?_
     exact WL.nil (N.cut () ⟨rfl, trivial⟩ (Below.refl _ _))
    refine And.intro (fun β w hS => ?_) ?_
    ·
     refine WL.sub (σ' := [(7, .pointer (some ⟨b8, 0, none⟩)), (63, undef)]) ⟨rfl, rfl, trivial⟩ ?_
     refine WL.skp rfl rfl ?_
     exact WL.nil (N.cut () ⟨rfl, trivial⟩ (Below.refl _ _))
    refine And.intro (fun β w hS => ?_) ?_
    ·
     refine WL.sub (σ' := [(63, undef), (70, undef)]) ⟨rfl, rfl, trivial⟩ ?_
     refine WL.skp rfl rfl ?_
     exact WL.nil (N.cut () ⟨rfl, trivial⟩ (Below.refl _ _))
    refine And.intro (fun β w hS => ?_) ?_
    ·
     refine WL.sub (σ' := [(63, undef), (69, undef), (71, undef)]) ⟨rfl, rfl, rfl, trivial⟩ ?_
     refine WL.skp rfl rfl ?_
     exact WL.nil (N.cut () ⟨rfl, trivial⟩ (Below.refl _ _))
    refine And.intro (fun β w hS => ?_) ?_
    ·
     refine WL.sub (σ' := [(60, .bool true), (63, undef), (72, undef)]) ⟨rfl, rfl, rfl, trivial⟩ ?_
     refine WL.skp rfl rfl ?_
     exact WL.nil (N.cut () ⟨rfl, trivial⟩ (Below.refl _ _))
    refine And.intro (fun β w hS => ?_) ?_
    ·
     refine WL.sub (σ' := [(60, .bool true), (73, undef)]) ⟨rfl, rfl, trivial⟩ ?_
     refine WL.skp rfl rfl ?_
     exact WL.nil (N.cut () ⟨rfl, trivial⟩ (Below.refl _ _))
    refine And.intro (fun β w hS => ?_) ?_
    ·
     refine WL.sub (σ' := [(8, .pointer (some ⟨b13, 0, none⟩)), (74, undef)]) ⟨rfl, rfl, trivial⟩ ?_
     refine WL.skp rfl rfl ?_
     exact WL.nil (N.cut () ⟨rfl, trivial⟩ (Below.refl _ _))
    refine And.intro (fun β w hS => ?_) ?_
    ·
     refine WL.sub (σ' := [(74, undef), (75, undef)]) ⟨rfl, rfl, trivial⟩ ?_
     refine WL.skp rfl rfl ?_
     exact WL.nil (N.cut () ⟨rfl, trivial⟩ (Below.refl _ _))
    refine And.intro (fun β w hS => ?_) ?_
    ·
     refine WL.sub (σ' := [(10, .int .i64 (kf : Int)), (74, undef)]) ⟨rfl, rfl, trivial⟩ ?_
     refine WL.skp rfl rfl ?_
     exact WL.nil (N.cut () ⟨rfl, trivial⟩ (Below.refl _ _))
    refine And.intro (fun β w hS => ?_) ?_
    ·
     refine WL.sub (σ' := [(74, undef), (76, undef), (77, undef)]) ⟨rfl, rfl, rfl, trivial⟩ ?_
     refine WL.skp rfl rfl ?_
     exact WL.nil (N.cut () ⟨rfl, trivial⟩ (Below.refl _ _))
    refine And.intro (fun β w hS => ?_) ?_
    ·
     refine WL.sub (σ' := [(74, undef), (78, undef)]) ⟨rfl, rfl, trivial⟩ ?_
     refine WL.skp rfl rfl ?_
     exact WL.nil (N.cut () ⟨rfl, trivial⟩ (Below.refl _ _))
    refine And.intro (fun β w hS => ?_) ?_
    ·
     refine WL.sub (σ' := [(74, undef), (79, undef)]) ⟨rfl, rfl, trivial⟩ ?_
     refine WL.skp rfl rfl ?_
     exact WL.nil (N.cut () ⟨rfl, trivial⟩ (Below.refl _ _))
    refine And.intro (fun β w hS => ?_) ?_
    ·
     refine WL.sub (σ' := [(74, undef), (80, undef)]) ⟨rfl, rfl, trivial⟩ ?_
     refine WL.skp rfl rfl ?_
     exact WL.nil (N.cut () ⟨rfl, trivial⟩ (Below.refl _ _))
    refine And.intro (fun β w hS => ?_) ?_
    ·
     refine WL.sub (σ' := [(74, undef), (81, undef)]) ⟨rfl, rfl, trivial⟩ ?_
     refine WL.skp rfl rfl ?_
     exact WL.nil (N.cut () ⟨rfl, trivial⟩ (Below.refl _ _))
    refine And.intro (fun β w hS => ?_) ?_
    ·
     refine WL.sub (σ' := [(60, .bool true), (74, undef), (82, undef)]) ⟨rfl, rfl, rfl, trivial⟩ ?_
     refine WL.skp rfl rfl ?_
     exact WL.nil (N.cut () ⟨rfl, trivial⟩ (Below.refl _ _))
    refine And.intro (fun β w hS => ?_) ?_
    ·
     refine WL.sub (σ' := [(60, .bool true), (83, undef)]) ⟨rfl, rfl, trivial⟩ ?_
     refine WL.skp rfl rfl ?_
     exact WL.nil (N.cut () ⟨rfl, trivial⟩ (Below.refl _ _))
    refine And.intro (fun β w hS => ?_) ?_
    ·
     refine WL.sub (σ' := [(7, .pointer (some ⟨b8, 0, none⟩)), (84, undef)]) ⟨rfl, rfl, trivial⟩ ?_
     refine WL.skp rfl rfl ?_
     exact WL.nil (N.cut () ⟨rfl, trivial⟩ (Below.refl _ _))
    refine And.intro (fun β w hS => ?_) ?_
    ·
     refine WL.sub (σ' := [(84, undef), (85, undef)]) ⟨rfl, rfl, trivial⟩ ?_
     refine WL.skp rfl rfl ?_
     exact WL.nil (N.cut () ⟨rfl, trivial⟩ (Below.refl _ _))
    refine And.intro (fun β w hS => ?_) ?_
    ·
     refine WL.sub (σ' := [(84, undef), (86, undef)]) ⟨rfl, rfl, trivial⟩ ?_
     refine WL.skp rfl rfl ?_
     exact WL.nil (N.cut () ⟨rfl, trivial⟩ (Below.refl _ _))
    refine And.intro (fun β w hS => ?_) ?_
    ·
     refine WL.sub (σ' := [(8, .pointer (some ⟨b13, 0, none⟩)), (87, undef)]) ⟨rfl, rfl, trivial⟩ ?_
     refine WL.skp rfl rfl ?_
     exact WL.nil (N.cut () ⟨rfl, trivial⟩ (Below.refl _ _))
    refine And.intro (fun β w hS => ?_) ?_
    ·
     refine WL.sub (σ' := [(87, undef), (88, undef)]) ⟨rfl, rfl, trivial⟩ ?_
     refine WL.skp rfl rfl ?_
     exact WL.nil (N.cut () ⟨rfl, trivial⟩ (Below.refl _ _))
    refine And.intro (fun β w hS => ?_) ?_
    ·
     refine WL.sub (σ' := [(10, .int .i64 (kf : Int)), (87, undef)]) ⟨rfl, rfl, trivial⟩ ?_
     refine WL.skp rfl rfl ?_
     exact WL.nil (N.cut () ⟨rfl, trivial⟩ (Below.refl _ _))
    refine And.intro (fun β w hS => ?_) ?_
    ·
     refine WL.sub (σ' := [(87, undef), (89, undef), (90, undef)]) ⟨rfl, rfl, rfl, trivial⟩ ?_
     refine WL.skp rfl rfl ?_
     exact WL.nil (N.cut () ⟨rfl, trivial⟩ (Below.refl _ _))
    refine And.intro (fun β w hS => ?_) ?_
    ·
     refine WL.sub (σ' := [(87, undef), (91, undef)]) ⟨rfl, rfl, trivial⟩ ?_
     refine WL.skp rfl rfl ?_
     exact WL.nil (N.cut () ⟨rfl, trivial⟩ (Below.refl _ _))
    refine And.intro (fun β w hS => ?_) ?_
    ·
     refine WL.sub (σ' := [(87, undef), (92, undef)]) ⟨rfl, rfl, trivial⟩ ?_
     refine WL.skp rfl rfl ?_
     exact WL.nil (N.cut () ⟨rfl, trivial⟩ (Below.refl _ _))
    refine And.intro (fun β w hS => ?_) ?_
    ·
     refine WL.sub (σ' := [(87, undef), (93, undef)]) ⟨rfl, rfl, trivial⟩ ?_
     refine WL.skp rfl rfl ?_
     exact WL.nil (N.cut () ⟨rfl, trivial⟩ (Below.refl _ _))
    refine And.intro (fun β w hS => ?_) ?_
    ·
     refine WL.sub (σ' := [(84, undef), (87, undef), (94, undef)]) ⟨rfl, rfl, rfl, trivial⟩ ?_
     refine WL.skp rfl rfl ?_
     exact WL.nil (N.cut () ⟨rfl, trivial⟩ (Below.refl _ _))
    refine And.intro (fun β w hS => ?_) ?_
    ·
     refine WL.sub (σ' := [(60, .bool true), (84, undef), (95, undef)]) ⟨rfl, rfl, rfl, trivial⟩ ?_
     refine WL.skp rfl rfl ?_
     exact WL.nil (N.cut () ⟨rfl, trivial⟩ (Below.refl _ _))
    refine And.intro (fun β w hS => ?_) ?_
    ·
     refine WL.sub (σ' := [(60, .bool true), (96, undef)]) ⟨rfl, rfl, trivial⟩ ?_
     refine WL.pick (v := .bool true) rfl rfl rfl rfl rfl rfl ?_
     exact WL.nil (N.cut () ⟨rfl, trivial⟩ (Below.refl _ _))
    trivial
   clear hS; intro w30 β hS
   refine WL.sub (σ' := [(0, .slice adl ms.length capl), (3, .bool true), (4, .slice add ds.length capd), (5, .int .i64 ((all9 (items9 ms)).2)), (6, .int .i64 (k : Int)), (7, .pointer (some ⟨b8, 0, none⟩)), (8, .pointer (some ⟨b13, 0, none⟩)), (9, .bool true), (10, .int .i64 (kf : Int)), (12, .bool true), (13, .tuple #[.slice add ds.length capd, .int .i64 ((all9 (items9 ms)).2)]), (14, .slice adl ms.length capl), (15, .tuple #[.slice add ds.length capd, .int .i64 ((all9 (items9 ms)).2)]), (16, .slice add ds.length capd), (17, .int .i64 ((all9 (items9 ms)).2)), (18, .int .i64 ((all9 (items9 ms)).2)), (19, .bool (!decide ((all9 (items9 ms)).2 = 0))), (21, .int .i64 (k : Int)), (22, .slice add ds.length capd), (23, .int .i64 (ds.length : Int)), (24, .bool (decide ((k : Int) < (ds.length : Int)))), (27, .slice add ds.length capd), (28, .int .i64 (k : Int)), (29, .pointer (some ⟨b7, o7 + k * 5, none⟩)), (30, .agg #[.string x7.name, .int .i64 x7.mod, .bool x7.fn, .bool x7.weak, .bool x7.here]), (31, .pointer (some ⟨b8, 4, none⟩)), (32, .bool x7.here), (33, .bool (!x7.here)), (37, .pointer (some ⟨b8, 1, none⟩)), (38, .int .i64 x7.mod), (39, .bool false), (40, .bool false), (41, .pointer (some ⟨b8, 1, none⟩)), (42, .int .i64 x7.mod), (43, .slice adl ms.length capl), (44, .int .i64 (ms.length : Int)), (45, .bool false), (46, .bool false), (47, .slice adl ms.length capl), (48, .pointer (some ⟨b8, 1, none⟩)), (49, .int .i64 (i : Int)), (50, .pointer (some ⟨b12, o12 + i * 2, none⟩)), (51, .agg #[.slice adf12 m.funcs.length capf12, .slice adg12 m.globs.length capg12]), (52, .int .i64 (kf : Int)), (53, .pointer (some ⟨b13, 0, none⟩)), (54, .slice adf12 m.funcs.length capf12), (55, .int .i64 (m.funcs.length : Int)), (56, .bool (decide ((kf : Int) < (m.funcs.length : Int)))), (59, .bool true), (60, .bool true), (61, undef), (62, undef), (63, undef), (64, undef), (65, undef), (66, undef), (67, undef), (68, undef), (69, undef), (70, undef), (71, undef), (72, undef), (73, undef), (74, undef), (75, undef), (76, undef), (77, undef), (78, undef), (79, undef), (80, undef), (81, undef), (82, undef), (83, undef), (84, undef), (85, undef), (86, undef), (87, undef), (88, undef), (89, undef), (90, undef), (91, undef), (92, undef), (93, undef), (94, undef), (95, undef), (96, undef), (97, .bool true)]) (Sub.ofEq (by kernel_rfl)) ?_
   refine WL.assign rfl rfl rfl ?_
   refine WL.nil ?_
   refine N.blk ?_
   refine N.seq ?_
   refine W.region ?_
   refine WL.move rfl rfl rfl ?_
   refine WL.add (c := (kf : Int) + 1) rfl rfl rfl rfl (rfl) (by omega) ?_
   refine WL.assign rfl rfl rfl ?_
   refine WL.nil ?_
   have hj31 : kf < m.funcs.length := by omega
   obtain ⟨x31, hx31⟩ : ∃ zz, m.funcs[kf]? = some zz := ⟨_, List.getElem?_eq_getElem hj31⟩
   obtain ⟨b31, o31, cs31, hE31, hr31, hl31, hc31, hQ31⟩ := hfs12d kf _ hx31
   obtain ⟨sb31, rfl, hbl31, hnm31, hbd31, hpr31⟩ := id hQ31
   obtain ⟨adb31, capb31, rfl, hbk31a, hbk31b, hbk31c, hbk31d⟩ := id hbl31
   have hbk31m : x31.blocks.length ≤ 9223372036854775807 := by have h1 := hbk31a; have h2 := hbk31b; unfold maxLen at h2; omega
   have hb2 : (true : Bool) = ((m.funcs.take (kf + 1)).any (pF9 x7)) := by rw [take_next hx31, List.any_append, ← hb]; simp [pF9, hc17p, hc17, hg18] <;> (intros; first | omega | (apply List.eq_nil_of_length_eq_zero; omega))
   exact N.loop (kf + 1, true) ⟨rfl, rfl, rfl, rfl, rfl, rfl, rfl, rfl, rfl, rfl, rfl, rfl, rfl, rfl, rfl, rfl, rfl, rfl, rfl, rfl, rfl, rfl, rfl, rfl, rfl, rfl, rfl, rfl, rfl, rfl, rfl, rfl, rfl, rfl, rfl, rfl, rfl, rfl, rfl, rfl, rfl, rfl, rfl, trivial⟩ ⟨hS, by omega, hb2⟩ (by first | omega | (simp only; omega))
  have hc17p : ¬ ((kf : Int) < (m.funcs.length : Int)) := by simpa using hc17
  refine W.exit ?_
  refine X.seq ?_
  refine X.loop ?_
  refine X.blk ?_
  refine N.seq ?_
  refine W.seq ?_
  refine W.seq ?_
  refine W.region ?_
  refine WL.assign rfl rfl rfl ?_
  refine WL.nil ?_
  refine N.seq ?_
  refine W.block ?_
  have hb0 : bf = m.funcs.any (pF9 x7) := by rw [hb, show kf = m.funcs.length by omega, List.take_length]
  refine W.loop (α := Nat × Bool) (fun ⟨kg, bg⟩ => [(0, .slice adl ms.length capl), (3, .bool true), (4, .slice add ds.length capd), (5, .int .i64 ((all9 (items9 ms)).2)), (6, .int .i64 (k : Int)), (7, .pointer (some ⟨b8, 0, none⟩)), (8, .pointer (some ⟨b13, 0, none⟩)), (9, .bool bg), (10, .int .i64 (kf : Int)), (11, .int .i64 (kg : Int)), (12, .bool true), (13, .tuple #[.slice add ds.length capd, .int .i64 ((all9 (items9 ms)).2)]), (14, .slice adl ms.length capl), (15, .tuple #[.slice add ds.length capd, .int .i64 ((all9 (items9 ms)).2)]), (16, .slice add ds.length capd), (17, .int .i64 ((all9 (items9 ms)).2)), (18, .int .i64 ((all9 (items9 ms)).2)), (19, .bool (!decide ((all9 (items9 ms)).2 = 0))), (21, .int .i64 (k : Int)), (22, .slice add ds.length capd), (23, .int .i64 (ds.length : Int)), (24, .bool (decide ((k : Int) < (ds.length : Int)))), (27, .slice add ds.length capd), (28, .int .i64 (k : Int)), (29, .pointer (some ⟨b7, o7 + k * 5, none⟩)), (30, .agg #[.string x7.name, .int .i64 x7.mod, .bool x7.fn, .bool x7.weak, .bool x7.here]), (31, .pointer (some ⟨b8, 4, none⟩)), (32, .bool x7.here), (33, .bool (!x7.here)), (37, .pointer (some ⟨b8, 1, none⟩)), (38, .int .i64 x7.mod), (39, .bool false), (40, .bool false), (41, .pointer (some ⟨b8, 1, none⟩)), (42, .int .i64 x7.mod), (43, .slice adl ms.length capl), (44, .int .i64 (ms.length : Int)), (45, .bool false), (46, .bool false), (47, .slice adl ms.length capl), (48, .pointer (some ⟨b8, 1, none⟩)), (49, .int .i64 (i : Int)), (50, .pointer (some ⟨b12, o12 + i * 2, none⟩)), (51, .agg #[.slice adf12 m.funcs.length capf12, .slice adg12 m.globs.length capg12]), (52, .int .i64 (kf : Int)), (53, .pointer (some ⟨b13, 0, none⟩)), (54, .slice adf12 m.funcs.length capf12), (55, .int .i64 (m.funcs.length : Int)), (56, .bool (decide ((kf : Int) < (m.funcs.length : Int))))]) (fun ⟨kg, bg⟩ u => St w w2 u (roFrom ro w1 w2) [(b13, .cells #[.slice adf12 m.funcs.length capf12, .slice adg12 m.globs.length capg12] 33 (0, 0)), (b8, .cells #[.string x7.name, .int .i64 x7.mod, .bool x7.fn, .bool x7.weak, .bool x7.here] 29 (0, 0))] [] ∧ kg ≤ m.globs.length ∧ bg = (m.funcs.any (pF9 x7) || (m.globs.take kg).any (pG9 x7))) (fun ⟨kg, bg⟩ => m.globs.length - kg) (0, bf) ⟨rfl, rfl, rfl, rfl, rfl, rfl, rfl, rfl, rfl, rfl, rfl, rfl, rfl, rfl, rfl, rfl, rfl, rfl, rfl, rfl, rfl, rfl, rfl, rfl, rfl, rfl, rfl, rfl, rfl, rfl, rfl, rfl, rfl, rfl, rfl, rfl, rfl, rfl, rfl, rfl, rfl, rfl, rfl, rfl, rfl, rfl, rfl, rfl, rfl, trivial⟩ ⟨hS, Nat.zero_le _, by rw [hb0]; simp⟩ ?_
  clear hS
  rintro ⟨kg, bg⟩ w32 ⟨hS, hkg, hb⟩
  refine W.seq ?_
  refine W.seq ?_
  refine W.region ?_
  refine WL.move rfl rfl rfl ?_
  refine WL.fieldAddr fo_33_1 rfl rfl rfl ?_
  refine WL.load1 (v := .slice adg12 m.globs.length capg12) one_31 rfl rfl rfl (hS.cell 0 rfl rfl) ?_
  refine WL.lenSlice Try.underlying31 rfl rfl rfl ?_
  refine WL.bin rfl rfl rfl rfl rfl ?_
  refine WL.nil ?_
  refine N.seq ?_
  refine W.cond rfl (fun hc33 => ?_) (fun hc33 => ?_)
  ·
   have hc33p : (kg : Int) < (m.globs.length : Int) := by simpa using hc33
   refine W.skip ?_
   refine N.seq ?_
   refine W.seq ?_
   refine W.block ?_
   rcases (Bool.eq_false_or_eq_true bg).symm with hg34 | hg34
   ·
    refine W.set 9 (v' := .bool false) rfl (by rw [hg34]) ?_
    rcases (Bool.eq_false_or_eq_true (!x7.fn)).symm with hg35 | hg35
    ·
     refine W.drawL (by kernel_rfl) 38 ((.q (.bool false)) :: (.q (.bool false)) :: (.q (.pointer (some ⟨b8, 2, none⟩))) :: (.q (.bool x7.fn)) :: (.q (.bool false)) :: (.q (.bool false)) :: (.q undef) :: (.q undef) :: (.q undef) :: (.q undef) :: (.q undef) :: (.q undef) :: (.q undef) :: (.q undef) :: (.q undef) :: (.q (.bool false)) :: (.q (.bool false)) :: (.q undef) :: (.q undef) :: (.q undef) :: (.q undef) :: (.q undef) :: (.q undef) :: (.q (.bool false)) :: (.q (.bool false)) :: (.q undef) :: (.q undef) :: (.q undef) :: (.q undef) :: (.q undef) :: (.q undef) :: (.q undef) :: (.q undef) :: (.q undef) :: (.q undef) :: (.q undef) :: (.q (.bool false)) :: (.q (.bool false)) :: []) (by kernel_rfl) (by kernel_rfl) [(0, .slice adl ms.length capl), (3, .bool true), (4, .slice add ds.length capd), (5, .int .i64 ((all9 (items9 ms)).2)), (6, .int .i64 (k : Int)), (7, .pointer (some ⟨b8, 0, none⟩)), (8, .pointer (some ⟨b13, 0, none⟩)), (9, .bool false), (10, .int .i64 (kf : Int)), (11, .int .i64 (kg : Int)), (12, .bool true), (13, .tuple #[.slice add ds.length capd, .int .i64 ((all9 (items9 ms)).2)]), (14, .slice adl ms.length capl), (15, .tuple #[.slice add ds.length capd, .int .i64 ((all9 (items9 ms)).2)]), (16, .slice add ds.length capd), (17, .int .i64 ((all9 (items9 ms)).2)), (18, .int .i64 ((all9 (items9 ms)).2)), (19, .bool (!decide ((all9 (items9 ms)).2 = 0))), (21, .int .i64 (k : Int)), (22, .slice add ds.length capd), (23, .int .i64 (ds.length : Int)), (24, .bool (decide ((k : Int) < (ds.length : Int)))), (27, .slice add ds.length capd), (28, .int .i64 (k : Int)), (29, .pointer (some ⟨b7, o7 + k * 5, none⟩)), (30, .agg #[.string x7.name, .int .i64 x7.mod, .bool x7.fn, .bool x7.weak, .bool x7.here]), (31, .pointer (some ⟨b8, 4, none⟩)), (32, .bool x7.here), (33, .bool (!x7.here)), (37, .pointer (some ⟨b8, 1, none⟩)), (38, .int .i64 x7.mod), (39, .bool false), (40, .bool false), (41, .pointer (some ⟨b8, 1, none⟩)), (42, .int .i64 x7.mod), (43, .slice adl ms.length capl), (44, .int .i64 (ms.length : Int)), (45, .bool false), (46, .bool false), (47, .slice adl ms.length capl), (48, .pointer (some ⟨b8, 1, none⟩)), (49, .int .i64 (i : Int)), (50, .pointer (some ⟨b12, o12 + i * 2, none⟩)), (51, .agg #[.slice adf12 m.funcs.length capf12, .slice adg12 m.globs.length capg12]), (52, .int .i64 (kf : Int)), (53, .pointer (some ⟨b13, 0, none⟩)), (54, .slice adf12 m.funcs.length capf12), (55, .int .i64 (m.funcs.length : Int)), (56, .bool (decide ((kf : Int) < (m.funcs.length : Int)))), (98, .int .i64 (kg : Int)), (99, .pointer (some ⟨b13, 1, none⟩)), (100, .slice adg12 m.globs.length capg12), (101, .int .i64 (m.globs.length : Int)), (102, .bool (decide ((kg : Int) < (m.globs.length : Int))))] ⟨rfl, rfl, rfl, rfl, rfl, rfl, rfl, rfl, rfl, rfl, rfl, rfl, rfl, rfl, rfl, rfl, rfl, rfl, rfl, rfl, rfl, rfl, rfl, rfl, rfl, rfl, rfl, rfl, rfl, rfl, rfl, rfl, rfl, rfl, rfl, rfl, rfl, rfl, rfl, rfl, rfl, rfl, rfl, rfl, rfl, rfl, rfl, rfl, rfl, rfl, rfl, rfl, rfl, rfl, trivial⟩ (by kernel_rfl) hS ?_ ?_
     ·
      refine And.intro (fun β w hS => ?_) ?_
      ·
       refine WL.sub (σ' := [(9, .bool false)]) ⟨rfl, trivial⟩ ?_
       refine WL.move rfl rfl rfl ?_
       exact WL.nil (N.cut () ⟨rfl, trivial⟩ (Below.refl _ _))
      refine And.intro (fun β w hS => ?_) ?_
      ·
       refine WL.sub (σ' := [(105, .bool false)]) ⟨rfl, trivial⟩ ?_
       refine WL.move rfl rfl rfl ?_
       exact WL.nil (N.cut () ⟨rfl, trivial⟩ (Below.refl _ _))
      refine And.intro (fun β w hS => ?_) ?_
      ·
       refine WL.sub (σ' := [(7, .pointer (some ⟨b8, 0, none⟩)), (106, .bool false)]) ⟨rfl, rfl, trivial⟩ ?_
       refine WL.fieldAddr fo_29_2 rfl rfl rfl ?_
       exact WL.nil (N.cut () ⟨rfl, trivial⟩ (Below.refl _ _))
      refine And.intro (fun β w hS => ?_) ?_
      ·
       refine WL.sub (σ' := [(106, .bool false), (107, .pointer (some ⟨b8, 2, none⟩))]) ⟨rfl, rfl, trivial⟩ ?_
       refine WL.load1 (v := .bool x7.fn) one_4 rfl rfl rfl (hS.cell 1 rfl rfl) ?_
       exact WL.nil (N.cut () ⟨rfl, trivial⟩ (Below.refl _ _))
      refine And.intro (fun β w hS => ?_) ?_
      ·
       refine WL.sub (σ' := [(106, .bool false), (108, .bool x7.fn)]) ⟨rfl, rfl, trivial⟩ ?_
       refine WL.not rfl rfl rfl ?_
       refine WL.set 109 (v' := .bool false) rfl (by rw [hg35]) ?_
       exact WL.nil (N.cut () ⟨rfl, trivial⟩ (Below.refl _ _))
      refine And.intro (fun β w hS => ?_) ?_
      ·
       refine WL.sub (σ' := [(106, .bool false), (109, .bool false)]) ⟨rfl, rfl, trivial⟩ ?_
       refine WL.move rfl rfl rfl ?_
       exact WL.nil (N.cut () ⟨rfl, trivial⟩ (Below.refl _ _))
      refine And.intro (fun β w hS => ?_) ?_
      ·
       refine WL.sub (σ' := [(8, .pointer (some ⟨b13, 0, none⟩)), (110, .bool false)]) ⟨rfl, rfl, trivial⟩ ?_
       refine WL.skp rfl rfl ?_
       exact WL.nil (N.cut () ⟨rfl, trivial⟩ (Below.refl _ _))
      refine And.intro (fun β w hS => ?_) ?_
      ·
       refine WL.sub (σ' := [(110, .bool false), (111, undef)]) ⟨rfl, rfl, trivial⟩ ?_
       refine WL.skp rfl rfl ?_
       exact WL.nil (N.cut () ⟨rfl, trivial⟩ (Below.refl _ _))
      refine And.intro (fun β w hS => ?_) ?_
      ·
       refine WL.sub (σ' := [(11, .int .i64 (kg : Int)), (110, .bool false)]) ⟨rfl, rfl, trivial⟩ ?_
       refine WL.skp rfl rfl ?_
       exact WL.nil (N.cut () ⟨rfl, trivial⟩ (Below.refl _ _))
      refine And.intro (fun β w hS => ?_) ?_
      ·
       refine WL.sub (σ' := [(110, .bool false), (112, undef), (113, undef)]) ⟨rfl, rfl, rfl, trivial⟩ ?_
       refine WL.skp rfl rfl ?_
       exact WL.nil (N.cut () ⟨rfl, trivial⟩ (Below.refl _ _))
      refine And.intro (fun β w hS => ?_) ?_
      ·
       refine WL.sub (σ' := [(110, .bool false), (114, undef)]) ⟨rfl, rfl, trivial⟩ ?_
       refine WL.skp rfl rfl ?_
       exact WL.nil (N.cut () ⟨rfl, trivial⟩ (Below.refl _ _))
      refine And.intro (fun β w hS => ?_) ?_
      ·
       refine WL.sub (σ' := [(110, .bool false), (115, undef)]) ⟨rfl, rfl, trivial⟩ ?_
       refine WL.skp rfl rfl ?_
       exact WL.nil (N.cut () ⟨rfl, trivial⟩ (Below.refl _ _))
      refine And.intro (fun β w hS => ?_) ?_
      ·
       refine WL.sub (σ' := [(7, .pointer (some ⟨b8, 0, none⟩)), (110, .bool false)]) ⟨rfl, rfl, trivial⟩ ?_
       refine WL.skp rfl rfl ?_
       exact WL.nil (N.cut () ⟨rfl, trivial⟩ (Below.refl _ _))
      refine And.intro (fun β w hS => ?_) ?_
      ·
       refine WL.sub (σ' := [(110, .bool false), (117, undef)]) ⟨rfl, rfl, trivial⟩ ?_
       refine WL.skp rfl rfl ?_
       exact WL.nil (N.cut () ⟨rfl, trivial⟩ (Below.refl _ _))
      refine And.intro (fun β w hS => ?_) ?_
      ·
       refine WL.sub (σ' := [(110, .bool false), (116, undef), (118, undef)]) ⟨rfl, rfl, rfl, trivial⟩ ?_
       refine WL.skp rfl rfl ?_
       exact WL.nil (N.cut () ⟨rfl, trivial⟩ (Below.refl _ _))
      refine And.intro (fun β w hS => ?_) ?_
      ·
       refine WL.sub (σ' := [(106, .bool false), (110, .bool false), (119, undef)]) ⟨rfl, rfl, rfl, trivial⟩ ?_
       refine WL.pick (v := .bool false) rfl rfl rfl rfl rfl rfl ?_
       exact WL.nil (N.cut () ⟨rfl, trivial⟩ (Below.refl _ _))
      refine And.intro (fun β w hS => ?_) ?_
      ·
       refine WL.sub (σ' := [(106, .bool false), (120, .bool false)]) ⟨rfl, rfl, trivial⟩ ?_
       refine WL.move rfl rfl rfl ?_
       exact WL.nil (N.cut () ⟨rfl, trivial⟩ (Below.refl _ _))
      refine And.intro (fun β w hS => ?_) ?_
      ·
       refine WL.sub (σ' := [(8, .pointer (some ⟨b13, 0, none⟩)), (121, .bool false)]) ⟨rfl, rfl, trivial⟩ ?_
       refine WL.skp rfl rfl ?_
       exact WL.nil (N.cut () ⟨rfl, trivial⟩ (Below.refl _ _))
      refine And.intro (fun β w hS => ?_) ?_
      ·
       refine WL.sub (σ' := [(121, .bool false), (122, undef)]) ⟨rfl, rfl, trivial⟩ ?_
       refine WL.skp rfl rfl ?_
       exact WL.nil (N.cut () ⟨rfl, trivial⟩ (Below.refl _ _))
      refine And.intro (fun β w hS => ?_) ?_
      ·
       refine WL.sub (σ' := [(11, .int .i64 (kg : Int)), (121, .bool false)]) ⟨rfl, rfl, trivial⟩ ?_
       refine WL.skp rfl rfl ?_
       exact WL.nil (N.cut () ⟨rfl, trivial⟩ (Below.refl _ _))
      refine And.intro (fun β w hS => ?_) ?_
      ·
       refine WL.sub (σ' := [(121, .bool false), (123, undef), (124, undef)]) ⟨rfl, rfl, rfl, trivial⟩ ?_
       refine WL.skp rfl rfl ?_
       exact WL.nil (N.cut () ⟨rfl, trivial⟩ (Below.refl _ _))
      refine And.intro (fun β w hS => ?_) ?_
      ·
       refine WL.sub (σ' := [(121, .bool false), (125, undef)]) ⟨rfl, rfl, trivial⟩ ?_
       refine WL.skp rfl rfl ?_
       exact WL.nil (N.cut () ⟨rfl, trivial⟩ (Below.refl _ _))
      refine And.intro (fun β w hS => ?_) ?_
      ·
       refine WL.sub (σ' := [(121, .bool false), (126, undef)]) ⟨rfl, rfl, trivial⟩ ?_
       refine WL.skp rfl rfl ?_
       exact WL.nil (N.cut () ⟨rfl, trivial⟩ (Below.refl _ _))
      refine And.intro (fun β w hS => ?_) ?_
      ·
       refine WL.sub (σ' := [(106, .bool false), (121, .bool false), (127, undef)]) ⟨rfl, rfl, rfl, trivial⟩ ?_
       refine WL.pick (v := .bool false) rfl rfl rfl rfl rfl rfl ?_
       exact WL.nil (N.cut () ⟨rfl, trivial⟩ (Below.refl _ _))
      refine And.intro (fun β w hS => ?_) ?_
      ·
       refine WL.sub (σ' := [(106, .bool false), (128, .bool false)]) ⟨rfl, rfl, trivial⟩ ?_
       refine WL.move rfl rfl rfl ?_
       exact WL.nil (N.cut () ⟨rfl, trivial⟩ (Below.refl _ _))
      refine And.intro (fun β w hS => ?_) ?_
      ·
       refine WL.sub (σ' := [(7, .pointer (some ⟨b8, 0, none⟩)), (129, .bool false)]) ⟨rfl, rfl, trivial⟩ ?_
       refine WL.skp rfl rfl ?_
       exact WL.nil (N.cut () ⟨rfl, trivial⟩ (Below.refl _ _))
      refine And.intro (fun β w hS => ?_) ?_
      ·
       refine WL.sub (σ' := [(129, .bool false), (130, undef)]) ⟨rfl, rfl, trivial⟩ ?_
       refine WL.skp rfl rfl ?_
       exact WL.nil (N.cut () ⟨rfl, trivial⟩ (Below.refl _ _))
      refine And.intro (fun β w hS => ?_) ?_
      ·
       refine WL.sub (σ' := [(129, .bool false), (131, undef)]) ⟨rfl, rfl, trivial⟩ ?_
       refine WL.skp rfl rfl ?_
       exact WL.nil (N.cut () ⟨rfl, trivial⟩ (Below.refl _ _))
      refine And.intro (fun β w hS => ?_) ?_
      ·
       refine WL.sub (σ' := [(8, .pointer (some ⟨b13, 0, none⟩)), (132, undef)]) ⟨rfl, rfl, trivial⟩ ?_
       refine WL.skp rfl rfl ?_
       exact WL.nil (N.cut () ⟨rfl, trivial⟩ (Below.refl _ _))
      refine And.intro (fun β w hS => ?_) ?_
      ·
       refine WL.sub (σ' := [(132, undef), (133, undef)]) ⟨rfl, rfl, trivial⟩ ?_
       refine WL.skp rfl rfl ?_
       exact WL.nil (N.cut () ⟨rfl, trivial⟩ (Below.refl _ _))
      refine And.intro (fun β w hS => ?_) ?_
      ·
       refine WL.sub (σ' := [(11, .int .i64 (kg : Int)), (132, undef)]) ⟨rfl, rfl, trivial⟩ ?_
       refine WL.skp rfl rfl ?_
       exact WL.nil (N.cut () ⟨rfl, trivial⟩ (Below.refl _ _))
      refine And.intro (fun β w hS => ?_) ?_
      ·
       refine WL.sub (σ' := [(132, undef), (134, undef), (135, undef)]) ⟨rfl, rfl, rfl, trivial⟩ ?_
       refine WL.skp rfl rfl ?_
       exact WL.nil (N.cut () ⟨rfl, trivial⟩ (Below.refl _ _))
      refine And.intro (fun β w hS => ?_) ?_
      ·
       refine WL.sub (σ' := [(132, undef), (136, undef)]) ⟨rfl, rfl, trivial⟩ ?_
       refine WL.skp rfl rfl ?_
       exact WL.nil (N.cut () ⟨rfl, trivial⟩ (Below.refl _ _))
      refine And.intro (fun β w hS => ?_) ?_
      ·
       refine WL.sub (σ' := [(132, undef), (137, undef)]) ⟨rfl, rfl, trivial⟩ ?_
       refine WL.skp rfl rfl ?_
       exact WL.nil (N.cut () ⟨rfl, trivial⟩ (Below.refl _ _))
      refine And.intro (fun β w hS => ?_) ?_
      ·
       refine WL.sub (σ' := [(132, undef), (138, undef)]) ⟨rfl, rfl, trivial⟩ ?_
       refine WL.skp rfl rfl ?_
       exact WL.nil (N.cut () ⟨rfl, trivial⟩ (Below.refl _ _))
      refine And.intro (fun β w hS => ?_) ?_
      ·
       refine WL.sub (σ' := [(129, .bool false), (132, undef), (139, undef)]) ⟨rfl, rfl, rfl, trivial⟩ ?_
       refine WL.skp rfl rfl ?_
       exact WL.nil (N.cut () ⟨rfl, trivial⟩ (Below.refl _ _))
      refine And.intro (fun β w hS => ?_) ?_
      ·
       refine WL.sub (σ' := [(106, .bool false), (129, .bool false), (140, undef)]) ⟨rfl, rfl, rfl, trivial⟩ ?_
       refine WL.pick (v := .bool false) rfl rfl rfl rfl rfl rfl ?_
       exact WL.nil (N.cut () ⟨rfl, trivial⟩ (Below.refl _ _))
      refine And.intro (fun β w hS => ?_) ?_
      ·
       refine WL.sub (σ' := [(106, .bool false), (141, .bool false)]) ⟨rfl, rfl, trivial⟩ ?_
       refine WL.pick (v := .bool false) rfl rfl rfl rfl rfl rfl ?_
       exact WL.nil (N.cut () ⟨rfl, trivial⟩ (Below.refl _ _))
      trivial
     clear hS; intro w36 β hS
     refine WL.sub (σ' := [(0, .slice adl ms.length capl), (3, .bool true), (4, .slice add ds.length capd), (5, .int .i64 ((all9 (items9 ms)).2)), (6, .int .i64 (k : Int)), (7, .pointer (some ⟨b8, 0, none⟩)), (8, .pointer (some ⟨b13, 0, none⟩)), (9, .bool false), (10, .int .i64 (kf : Int)), (11, .int .i64 (kg : Int)), (12, .bool true), (13, .tuple #[.slice add ds.length capd, .int .i64 ((all9 (items9 ms)).2)]), (14, .slice adl ms.length capl), (15, .tuple #[.slice add ds.length capd, .int .i64 ((all9 (items9 ms)).2)]), (16, .slice add ds.length capd), (17, .int .i64 ((all9 (items9 ms)).2)), (18, .int .i64 ((all9 (items9 ms)).2)), (19, .bool (!decide ((all9 (items9 ms)).2 = 0))), (21, .int .i64 (k : Int)), (22, .slice add ds.length capd), (23, .int .i64 (ds.length : Int)), (24, .bool (decide ((k : Int) < (ds.length : Int)))), (27, .slice add ds.length capd), (28, .int .i64 (k : Int)), (29, .pointer (some ⟨b7, o7 + k * 5, none⟩)), (30, .agg #[.string x7.name, .int .i64 x7.mod, .bool x7.fn, .bool x7.weak, .bool x7.here]), (31, .pointer (some ⟨b8, 4, none⟩)), (32, .bool x7.here), (33, .bool (!x7.here)), (37, .pointer (some ⟨b8, 1, none⟩)), (38, .int .i64 x7.mod), (39, .bool false), (40, .bool false), (41, .pointer (some ⟨b8, 1, none⟩)), (42, .int .i64 x7.mod), (43, .slice adl ms.length capl), (44, .int .i64 (ms.length : Int)), (45, .bool false), (46, .bool false), (47, .slice adl ms.length capl), (48, .pointer (some ⟨b8, 1, none⟩)), (49, .int .i64 (i : Int)), (50, .pointer (some ⟨b12, o12 + i * 2, none⟩)), (51, .agg #[.slice adf12 m.funcs.length capf12, .slice adg12 m.globs.length capg12]), (52, .int .i64 (kf : Int)), (53, .pointer (some ⟨b13, 0, none⟩)), (54, .slice adf12 m.funcs.length capf12), (55, .int .i64 (m.funcs.length : Int)), (56, .bool (decide ((kf : Int) < (m.funcs.length : Int)))), (98, .int .i64 (kg : Int)), (99, .pointer (some ⟨b13, 1, none⟩)), (100, .slice adg12 m.globs.length capg12), (101, .int .i64 (m.globs.length : Int)), (102, .bool (decide ((kg : Int) < (m.globs.length : Int)))), (105, .bool false), (106, .bool false), (107, .pointer (some ⟨b8, 2, none⟩)), (108, .bool x7.fn), (109, .bool false), (110, .bool false), (111, undef), (112, undef), (113, undef), (114, undef), (115, undef), (116, undef), (117, undef), (118, undef), (119, undef), (120, .bool false), (121, .bool false), (122, undef), (123, undef), (124, undef), (125, undef), (126, undef), (127, undef), (128, .bool false), (129, .bool false), (130, undef), (131, undef), (132, undef), (133, undef), (134, undef), (135, undef), (136, undef), (137, undef), (138, undef), (139, undef), (140, undef), (141, .bool false), (142, .bool false)]) (Sub.ofEq (by kernel_rfl)) ?_
     refine WL.assign rfl rfl rfl ?_
     refine WL.nil ?_
     refine N.blk ?_
     refine N.seq ?_
     refine W.region ?_
     refine WL.move rfl rfl rfl ?_
     refine WL.add (c := (kg : Int) + 1) rfl rfl rfl rfl (rfl) (by omega) ?_
     refine WL.assign rfl rfl rfl ?_
     refine WL.nil ?_
     have hj37 : kg < m.globs.length := by omega
     obtain ⟨x37, hx37⟩ : ∃ zz, m.globs[kg]? = some zz := ⟨_, List.getElem?_eq_getElem hj37⟩
     obtain ⟨b37, o37, cs37, hE37, hr37, hl37, hc37, hQ37⟩ := hgs12d kg _ hx37
     obtain ⟨rfl, hgn37, hgb37, hgi37⟩ := hQ37
     have hb2 : (false : Bool) = (m.funcs.any (pF9 x7) || (m.globs.take (kg + 1)).any (pG9 x7)) := by rw [take_next hx37, List.any_append, ← Bool.or_assoc, ← hb]; simp [pG9, hc33p, hc33, hg34, hg35] <;> (intros; first | omega | (apply List.eq_nil_of_length_eq_zero; omega))
     exact N.loop (kg + 1, false) ⟨rfl, rfl, rfl, rfl, rfl, rfl, rfl, rfl, rfl, rfl, rfl, rfl, rfl, rfl, rfl, rfl, rfl, rfl, rfl, rfl, rfl, rfl, rfl, rfl, rfl, rfl, rfl, rfl, rfl, rfl, rfl, rfl, rfl, rfl, rfl, rfl, rfl, rfl, rfl, rfl, rfl, rfl, rfl, rfl, rfl, rfl, rfl, rfl, rfl, trivial⟩ ⟨hS, by omega, hb2⟩ (by first | omega | (simp only; omega))
    have hj38 : kg < m.globs.length := by omega
    obtain ⟨x38, hx38⟩ : ∃ zz, m.globs[kg]? = some zz := ⟨_, List.getElem?_eq_getElem hj38⟩
    obtain ⟨b38, o38, cs38, hE38, hr38, hl38, hc38, hQ38⟩ := hgs12d kg _ hx38
    obtain ⟨rfl, hgn38, hgb38, hgi38⟩ := hQ38
    rcases (Bool.eq_false_or_eq_true (decide (x38.name = x7.name))).symm with hg39 | hg39
    ·
     have hg39p : ¬ (x38.name = x7.name) := by simpa using hg39
     refine W.drawL (by kernel_rfl) 38 ((.q (.bool false)) :: (.q (.bool false)) :: (.q (.pointer (some ⟨b8, 2, none⟩))) :: (.q (.bool x7.fn)) :: (.q (.bool true)) :: (.q (.bool true)) :: (.q (.pointer (some ⟨b13, 1, none⟩))) :: (.q (.slice adg12 m.globs.length capg12)) :: (.q (.int .i64 (kg : Int))) :: (.q (.pointer (some ⟨b38, o38 + kg * 4, none⟩))) :: (.q (.pointer (some ⟨b38, o38 + kg * 4, none⟩))) :: (.q (.string x38.name)) :: (.q (.pointer (some ⟨b8, 0, none⟩))) :: (.q (.string x7.name)) :: (.q (.bool false)) :: (.q (.bool false)) :: (.q (.bool false)) :: (.q undef) :: (.q undef) :: (.q undef) :: (.q undef) :: (.q undef) :: (.q undef) :: (.q (.bool false)) :: (.q (.bool false)) :: (.q undef) :: (.q undef) :: (.q undef) :: (.q undef) :: (.q undef) :: (.q undef) :: (.q undef) :: (.q undef) :: (.q undef) :: (.q undef) :: (.q undef) :: (.q (.bool false)) :: (.q (.bool false)) :: []) (by kernel_rfl) (by kernel_rfl) [(0, .slice adl ms.length capl), (3, .bool true), (4, .slice add ds.length capd), (5, .int .i64 ((all9 (items9 ms)).2)), (6, .int .i64 (k : Int)), (7, .pointer (some ⟨b8, 0, none⟩)), (8, .pointer (some ⟨b13, 0, none⟩)), (9, .bool false), (10, .int .i64 (kf : Int)), (11, .int .i64 (kg : Int)), (12, .bool true), (13, .tuple #[.slice add ds.length capd, .int .i64 ((all9 (items9 ms)).2)]), (14, .slice adl ms.length capl), (15, .tuple #[.slice add ds.length capd, .int .i64 ((all9 (items9 ms)).2)]), (16, .slice add ds.length capd), (17, .int .i64 ((all9 (items9 ms)).2)), (18, .int .i64 ((all9 (items9 ms)).2)), (19, .bool (!decide ((all9 (items9 ms)).2 = 0))), (21, .int .i64 (k : Int)), (22, .slice add ds.length capd), (23, .int .i64 (ds.length : Int)), (24, .bool (decide ((k : Int) < (ds.length : Int)))), (27, .slice add ds.length capd), (28, .int .i64 (k : Int)), (29, .pointer (some ⟨b7, o7 + k * 5, none⟩)), (30, .agg #[.string x7.name, .int .i64 x7.mod, .bool x7.fn, .bool x7.weak, .bool x7.here]), (31, .pointer (some ⟨b8, 4, none⟩)), (32, .bool x7.here), (33, .bool (!x7.here)), (37, .pointer (some ⟨b8, 1, none⟩)), (38, .int .i64 x7.mod), (39, .bool false), (40, .bool false), (41, .pointer (some ⟨b8, 1, none⟩)), (42, .int .i64 x7.mod), (43, .slice adl ms.length capl), (44, .int .i64 (ms.length : Int)), (45, .bool false), (46, .bool false), (47, .slice adl ms.length capl), (48, .pointer (some ⟨b8, 1, none⟩)), (49, .int .i64 (i : Int)), (50, .pointer (some ⟨b12, o12 + i * 2, none⟩)), (51, .agg #[.slice adf12 m.funcs.length capf12, .slice adg12 m.globs.length capg12]), (52, .int .i64 (kf : Int)), (53, .pointer (some ⟨b13, 0, none⟩)), (54, .slice adf12 m.funcs.length capf12), (55, .int .i64 (m.funcs.length : Int)), (56, .bool (decide ((kf : Int) < (m.funcs.length : Int)))), (98, .int .i64 (kg : Int)), (99, .pointer (some ⟨b13, 1, none⟩)), (100, .slice adg12 m.globs.length capg12), (101, .int .i64 (m.globs.length : Int)), (102, .bool (decide ((kg : Int) < (m.globs.length : Int))))] ⟨rfl, rfl, rfl, rfl, rfl, rfl, rfl, rfl, rfl, rfl, rfl, rfl, rfl, rfl, rfl, rfl, rfl, rfl, rfl, rfl, rfl, rfl, rfl, rfl, rfl, rfl, rfl, rfl, rfl, rfl, rfl, rfl, rfl, rfl, rfl, rfl, rfl, rfl, rfl, rfl, rfl, rfl, rfl, rfl, rfl, rfl, rfl, rfl, rfl, rfl, rfl, rfl, rfl, rfl, trivial⟩ (by kernel_rfl) hS ?_ ?_
     ·
      refine And.intro (fun β w hS => ?_) ?_
      ·
       refine WL.sub (σ' := [(9, .bool false)]) ⟨rfl, trivial⟩ ?_
       refine WL.move rfl rfl rfl ?_
       exact WL.nil (N.cut () ⟨rfl, trivial⟩ (Below.refl _ _))
      refine And.intro (fun β w hS => ?_) ?_
      ·
       refine WL.sub (σ' := [(105, .bool false)]) ⟨rfl, trivial⟩ ?_
       refine WL.move rfl rfl rfl ?_
       exact WL.nil (N.cut () ⟨rfl, trivial⟩ (Below.refl _ _))
      refine And.intro (fun β w hS => ?_) ?_
      ·
       refine WL.sub (σ' := [(7, .pointer (some ⟨b8, 0, none⟩)), (106, .bool false)]) ⟨rfl, rfl, trivial⟩ ?_
       refine WL.fieldAddr fo_29_2 rfl rfl rfl ?_
       exact WL.nil (N.cut () ⟨rfl, trivial⟩ (Below.refl _ _))
      refine And.intro (fun β w hS => ?_) ?_
      ·
       refine WL.sub (σ' := [(106, .bool false), (107, .pointer (some ⟨b8, 2, none⟩))]) ⟨rfl, rfl, trivial⟩ ?_
       refine WL.load1 (v := .bool x7.fn) one_4 rfl rfl rfl (hS.cell 1 rfl rfl) ?_
       exact WL.nil (N.cut () ⟨rfl, trivial⟩ (Below.refl _ _))
      refine And.intro (fun β w hS => ?_) ?_
      ·
       refine WL.sub (σ' := [(106, .bool false), (108, .bool x7.fn)]) ⟨rfl, rfl, trivial⟩ ?_
       refine WL.not rfl rfl rfl ?_
       refine WL.set 109 (v' := .bool true) rfl (by rw [hg35]) ?_
       exact WL.nil (N.cut () ⟨rfl, trivial⟩ (Below.refl _ _))
      refine And.intro (fun β w hS => ?_) ?_
      ·
       refine WL.sub (σ' := [(106, .bool false), (109, .bool true)]) ⟨rfl, rfl, trivial⟩ ?_
       refine WL.move rfl rfl rfl ?_
       exact WL.nil (N.cut () ⟨rfl, trivial⟩ (Below.refl _ _))
      refine And.intro (fun β w hS => ?_) ?_
      ·
       refine WL.sub (σ' := [(8, .pointer (some ⟨b13, 0, none⟩)), (110, .bool true)]) ⟨rfl, rfl, trivial⟩ ?_
       refine WL.fieldAddr fo_33_1 rfl rfl rfl ?_
       exact WL.nil (N.cut () ⟨rfl, trivial⟩ (Below.refl _ _))
      refine And.intro (fun β w hS => ?_) ?_
      ·
       refine WL.sub (σ' := [(110, .bool true), (111, .pointer (some ⟨b13, 1, none⟩))]) ⟨rfl, rfl, trivial⟩ ?_
       refine WL.load1 (v := .slice adg12 m.globs.length capg12) one_31 rfl rfl rfl (hS.cell 0 rfl rfl) ?_
       exact WL.nil (N.cut () ⟨rfl, trivial⟩ (Below.refl _ _))
      refine And.intro (fun β w hS => ?_) ?_
      ·
       refine WL.sub (σ' := [(11, .int .i64 (kg : Int)), (110, .bool true)]) ⟨rfl, rfl, trivial⟩ ?_
       refine WL.move rfl rfl rfl ?_
       exact WL.nil (N.cut () ⟨rfl, trivial⟩ (Below.refl _ _))
      refine And.intro (fun β w hS => ?_) ?_
      ·
       refine WL.sub (σ' := [(110, .bool true), (112, .slice adg12 m.globs.length capg12), (113, .int .i64 (kg : Int))]) ⟨rfl, rfl, rfl, trivial⟩ ?_
       refine WL.indexAddrE (j := kg) Try.underlying31 isz_39 rfl rfl rfl rfl hj38 hE38 ?_
       exact WL.nil (N.cut () ⟨rfl, trivial⟩ (Below.refl _ _))
      refine And.intro (fun β w hS => ?_) ?_
      ·
       refine WL.sub (σ' := [(110, .bool true), (114, .pointer (some ⟨b38, o38 + kg * 4, none⟩))]) ⟨rfl, rfl, trivial⟩ ?_
       refine WL.fieldAddr fo_39_0 rfl rfl rfl ?_
       exact WL.nil (N.cut () ⟨rfl, trivial⟩ (Below.refl _ _))
      refine And.intro (fun β w hS => ?_) ?_
      ·
       refine WL.sub (σ' := [(110, .bool true), (115, .pointer (some ⟨b38, o38 + kg * 4, none⟩))]) ⟨rfl, rfl, trivial⟩ ?_
       refine WL.load1 (v := .string x38.name) one_9 rfl rfl rfl (hS.roCells hr38 hc38 0 _ rfl) ?_
       exact WL.nil (N.cut () ⟨rfl, trivial⟩ (Below.refl _ _))
      refine And.intro (fun β w hS => ?_) ?_
      ·
       refine WL.sub (σ' := [(7, .pointer (some ⟨b8, 0, none⟩)), (110, .bool true)]) ⟨rfl, rfl, trivial⟩ ?_
       refine WL.fieldAddr fo_29_0 rfl rfl rfl ?_
       exact WL.nil (N.cut () ⟨rfl, trivial⟩ (Below.refl _ _))
      refine And.intro (fun β w hS => ?_) ?_
      ·
       refine WL.sub (σ' := [(110, .bool true), (117, .pointer (some ⟨b8, 0, none⟩))]) ⟨rfl, rfl, trivial⟩ ?_
       refine WL.load1 (v := .string x7.name) one_9 rfl rfl rfl (hS.cell 1 rfl rfl) ?_
       exact WL.nil (N.cut () ⟨rfl, trivial⟩ (Below.refl _ _))
      refine And.intro (fun β w hS => ?_) ?_
      ·
       refine WL.sub (σ' := [(110, .bool true), (116, .string x38.name), (118, .string x7.name)]) ⟨rfl, rfl, rfl, trivial⟩ ?_
       refine WL.eqStr rfl rfl rfl rfl ?_
       refine WL.set 119 (v' := .bool false) rfl (by rw [hg39]) ?_
       exact WL.nil (N.cut () ⟨rfl, trivial⟩ (Below.refl _ _))
      refine And.intro (fun β w hS => ?_) ?_
      ·
       refine WL.sub (σ' := [(106, .bool false), (110, .bool true), (119, .bool false)]) ⟨rfl, rfl, rfl, trivial⟩ ?_
       refine WL.pick (v := .bool false) rfl rfl rfl rfl rfl rfl ?_
       exact WL.nil (N.cut () ⟨rfl, trivial⟩ (Below.refl _ _))
      refine And.intro (fun β w hS => ?_) ?_
      ·
       refine WL.sub (σ' := [(106, .bool false), (120, .bool false)]) ⟨rfl, rfl, trivial⟩ ?_
       refine WL.move rfl rfl rfl ?_
       exact WL.nil (N.cut () ⟨rfl, trivial⟩ (Below.refl _ _))
      refine And.intro (fun β w hS => ?_) ?_
      ·
       refine WL.sub (σ' := [(8, .pointer (some ⟨b13, 0, none⟩)), (121, .bool false)]) ⟨rfl, rfl, trivial⟩ ?_
       refine WL.skp rfl rfl ?_
       exact WL.nil (N.cut () ⟨rfl, trivial⟩ (Below.refl _ _))
      refine And.intro (fun β w hS => ?_) ?_
      ·
       refine WL.sub (σ' := [(121, .bool false), (122, undef)]) ⟨rfl, rfl, trivial⟩ ?_
       refine WL.skp rfl rfl ?_
       exact WL.nil (N.cut () ⟨rfl, trivial⟩ (Below.refl _ _))
      refine And.intro (fun β w hS => ?_) ?_
      ·
       refine WL.sub (σ' := [(11, .int .i64 (kg : Int)), (121, .bool false)]) ⟨rfl, rfl, trivial⟩ ?_
       refine WL.skp rfl rfl ?_
       exact WL.nil (N.cut () ⟨rfl, trivial⟩ (Below.refl _ _))
      refine And.intro (fun β w hS => ?_) ?_
      ·
       refine WL.sub (σ' := [(121, .bool false), (123, undef), (124, undef)]) ⟨rfl, rfl, rfl, trivial⟩ ?_
       refine WL.skp rfl rfl ?_
       exact WL.nil (N.cut () ⟨rfl, trivial⟩ (Below.refl _ _))
      refine And.intro (fun β w hS => ?_) ?_
      ·
       refine WL.sub (σ' := [(121, .bool false), (125, undef)]) ⟨rfl, rfl, trivial⟩ ?_
       refine WL.skp rfl rfl ?_
       exact WL.nil (N.cut () ⟨rfl, trivial⟩ (Below.refl _ _))
      refine And.intro (fun β w hS => ?_) ?_
      ·
       refine WL.sub (σ' := [(121, .bool false), (126, undef)]) ⟨rfl, rfl, trivial⟩ ?_
       refine WL.skp rfl rfl ?_
       exact WL.nil (N.cut () ⟨rfl, trivial⟩ (Below.refl _ _))
      refine And.intro (fun β w hS => ?_) ?_
      ·
       refine WL.sub (σ' := [(106, .bool false), (121, .bool false), (127, undef)]) ⟨rfl, rfl, rfl, trivial⟩ ?_
       refine WL.pick (v := .bool false) rfl rfl rfl rfl rfl rfl ?_
       exact WL.nil (N.cut () ⟨rfl, trivial⟩ (Below.refl _ _))
      refine And.intro (fun β w hS => ?_) ?_
      ·
       refine WL.sub (σ' := [(106, .bool false), (128, .bool false)]) ⟨rfl, rfl, trivial⟩ ?_
       refine WL.move rfl rfl rfl ?_
       exact WL.nil (N.cut () ⟨rfl, trivial⟩ (Below.refl _ _))
      refine And.intro (fun β w hS => ?_) ?_
      ·
       refine WL.sub (σ' := [(7, .pointer (some ⟨b8, 0, none⟩)), (129, .bool false)]) ⟨rfl, rfl, trivial⟩ ?_
       refine WL.skp rfl rfl ?_
       exact WL.nil (N.cut () ⟨rfl, trivial⟩ (Below.refl _ _))
      refine And.intro (fun β w hS => ?_) ?_
      ·
       refine WL.sub (σ' := [(129, .bool false), (130, undef)]) ⟨rfl, rfl, trivial⟩ ?_
       refine WL.skp rfl rfl ?_
       exact WL.nil (N.cut () ⟨rfl, trivial⟩ (Below.refl _ _))
      refine And.intro (fun β w hS => ?_) ?_
      ·
       refine WL.sub (σ' := [(129, .bool false), (131, undef)]) ⟨rfl, rfl, trivial⟩ ?_
       refine WL.skp rfl rfl ?_
       exact WL.nil (N.cut () ⟨rfl, trivial⟩ (Below.refl _ _))
      refine And.intro (fun β w hS => ?_) ?_
      ·
       refine WL.sub (σ' := [(8, .pointer (some ⟨b13, 0, none⟩)), (132, undef)]) ⟨rfl, rfl, trivial⟩ ?_
       refine WL.skp rfl rfl ?_
       exact WL.nil (N.cut () ⟨rfl, trivial⟩ (Below.refl _ _))
      refine And.intro (fun β w hS => ?_) ?_
      ·
       refine WL.sub (σ' := [(132, undef), (133, undef)]) ⟨rfl, rfl, trivial⟩ ?_
       refine WL.skp rfl rfl ?_
       exact WL.nil (N.cut () ⟨rfl, trivial⟩ (Below.refl _ _))
      refine And.intro (fun β w hS => ?_) ?_
      ·
       refine WL.sub (σ' := [(11, .int .i64 (kg : Int)), (132, undef)]) ⟨rfl, rfl, trivial⟩ ?_
       refine WL.skp rfl rfl ?_
       exact WL.nil (N.cut () ⟨rfl, trivial⟩ (Below.refl _ _))
      refine And.intro (fun β w hS => ?_) ?_
      ·
       refine WL.sub (σ' := [(132, undef), (134, undef), (135, undef)]) ⟨rfl, rfl, rfl, trivial⟩ ?_
       refine WL.skp rfl rfl ?_
       exact WL.nil (N.cut () ⟨rfl, trivial⟩ (Below.refl _ _))
      refine And.intro (fun β w hS => ?_) ?_
      ·
       refine WL.sub (σ' := [(132, undef), (136, undef)]) ⟨rfl, rfl, trivial⟩ ?_
       refine WL.skp rfl rfl ?_
       exact WL.nil (N.cut () ⟨rfl, trivial⟩ (Below.refl _ _))
      refine And.intro (fun β w hS => ?_) ?_
      ·
       refine WL.sub (σ' := [(132, undef), (137, undef)]) ⟨rfl, rfl, trivial⟩ ?_
       refine WL.skp rfl rfl ?_
       exact WL.nil (N.cut () ⟨rfl, trivial⟩ (Below.refl _ _))
      refine And.intro (fun β w hS => ?_) ?_
      ·
       refine WL.sub (σ' := [(132, undef), (138, undef)]) ⟨rfl, rfl, trivial⟩ ?_
       refine WL.skp rfl rfl ?_
       exact WL.nil (N.cut () ⟨rfl, trivial⟩ (Below.refl _ _))
      refine And.intro (fun β w hS => ?_) ?_
      ·
       refine WL.sub (σ' := [(129, .bool false), (132, undef), (139, undef)]) ⟨rfl, rfl, rfl, trivial⟩ ?_
       refine WL.skp rfl rfl ?_
       exact WL.nil (N.cut () ⟨rfl, trivial⟩ (Below.refl _ _))
      refine And.intro (fun β w hS => ?_) ?_
      ·
       refine WL.sub (σ' := [(106, .bool false), (129, .bool false), (140, undef)]) ⟨rfl, rfl, rfl, trivial⟩ ?_
       refine WL.pick (v := .bool false) rfl rfl rfl rfl rfl rfl ?_
       exact WL.nil (N.cut () ⟨rfl, trivial⟩ (Below.refl _ _))
      refine And.intro (fun β w hS => ?_) ?_
      ·
       refine WL.sub (σ' := [(106, .bool false), (141, .bool false)]) ⟨rfl, rfl, trivial⟩ ?_
       refine WL.pick (v := .bool false) rfl rfl rfl rfl rfl rfl ?_
       exact WL.nil (N.cut () ⟨rfl, trivial⟩ (Below.refl _ _))
      trivial
     clear hS; intro w40 β hS
     refine WL.sub (σ' := [(0, .slice adl ms.length capl), (3, .bool true), (4, .slice add ds.length capd), (5, .int .i64 ((all9 (items9 ms)).2)), (6, .int .i64 (k : Int)), (7, .pointer (some ⟨b8, 0, none⟩)), (8, .pointer (some ⟨b13, 0, none⟩)), (9, .bool false), (10, .int .i64 (kf : Int)), (11, .int .i64 (kg : Int)), (12, .bool true), (13, .tuple #[.slice add ds.length capd, .int .i64 ((all9 (items9 ms)).2)]), (14, .slice adl ms.length capl), (15, .tuple #[.slice add ds.length capd, .int .i64 ((all9 (items9 ms)).2)]), (16, .slice add ds.length capd), (17, .int .i64 ((all9 (items9 ms)).2)), (18, .int .i64 ((all9 (items9 ms)).2)), (19, .bool (!decide ((all9 (items9 ms)).2 = 0))), (21, .int .i64 (k : Int)), (22, .slice add ds.length capd), (23, .int .i64 (ds.length : Int)), (24, .bool (decide ((k : Int) < (ds.length : Int)))), (27, .slice add ds.length capd), (28, .int .i64 (k : Int)), (29, .pointer (some ⟨b7, o7 + k * 5, none⟩)), (30, .agg #[.string x7.name, .int .i64 x7.mod, .bool x7.fn, .bool x7.weak, .bool x7.here]), (31, .pointer (some ⟨b8, 4, none⟩)), (32, .bool x7.here), (33, .bool (!x7.here)), (37, .pointer (some ⟨b8, 1, none⟩)), (38, .int .i64 x7.mod), (39, .bool false), (40, .bool false), (41, .pointer (some ⟨b8, 1, none⟩)), (42, .int .i64 x7.mod), (43, .slice adl ms.length capl), (44, .int .i64 (ms.length : Int)), (45, .bool false), (46, .bool false), (47, .slice adl ms.length capl), (48, .pointer (some ⟨b8, 1, none⟩)), (49, .int .i64 (i : Int)), (50, .pointer (some ⟨b12, o12 + i * 2, none⟩)), (51, .agg #[.slice adf12 m.funcs.length capf12, .slice adg12 m.globs.length capg12]), (52, .int .i64 (kf : Int)), (53, .pointer (some ⟨b13, 0, none⟩)), (54, .slice adf12 m.funcs.length capf12), (55, .int .i64 (m.funcs.length : Int)), (56, .bool (decide ((kf : Int) < (m.funcs.length : Int)))), (98, .int .i64 (kg : Int)), (99, .pointer (some ⟨b13, 1, none⟩)), (100, .slice adg12 m.globs.length capg12), (101, .int .i64 (m.globs.length : Int)), (102, .bool (decide ((kg : Int) < (m.globs.length : Int)))), (105, .bool false), (106, .bool false), (107, .pointer (some ⟨b8, 2, none⟩)), (108, .bool x7.fn), (109, .bool true), (110, .bool true), (111, .pointer (some ⟨b13, 1, none⟩)), (112, .slice adg12 m.globs.length capg12), (113, .int .i64 (kg : Int)), (114, .pointer (some ⟨b38, o38 + kg * 4, none⟩)), (115, .pointer (some ⟨b38, o38 + kg * 4, none⟩)), (116, .string x38.name), (117, .pointer (some ⟨b8, 0, none⟩)), (118, .string x7.name), (119, .bool false), (120, .bool false), (121, .bool false), (122, undef), (123, undef), (124, undef), (125, undef), (126, undef), (127, undef), (128, .bool false), (129, .bool false), (130, undef), (131, undef), (132, undef), (133, undef), (134, undef), (135, undef), (136, undef), (137, undef), (138, undef), (139, undef), (140, undef), (141, .bool false), (142, .bool false)]) (Sub.ofEq (by kernel_rfl)) ?_
     refine WL.assign rfl rfl rfl ?_
     refine WL.nil ?_
     refine N.blk ?_
     refine N.seq ?_
     refine W.region ?_
     refine WL.move rfl rfl rfl ?_
     refine WL.add (c := (kg : Int) + 1) rfl rfl rfl rfl (rfl) (by omega) ?_
     refine WL.assign rfl rfl rfl ?_
     refine WL.nil ?_
     have hb2 : (false : Bool) = (m.funcs.any (pF9 x7) || (m.globs.take (kg + 1)).any (pG9 x7)) := by rw [take_next hx38, List.any_append, ← Bool.or_assoc, ← hb]; simp [pG9, hc33p, hc33, hg34, hg35, hg39p, hg39] <;> (intros; first | omega | (apply List.eq_nil_of_length_eq_zero; omega))
     exact N.loop (kg + 1, false) ⟨rfl, rfl, rfl, rfl, rfl, rfl, rfl, rfl, rfl, rfl, rfl, rfl, rfl, rfl, rfl, rfl, rfl, rfl, rfl, rfl, rfl, rfl, rfl, rfl, rfl, rfl, rfl, rfl, rfl, rfl, rfl, rfl, rfl, rfl, rfl, rfl, rfl, rfl, rfl, rfl, rfl, rfl, rfl, rfl, rfl, rfl, rfl, rfl, rfl, trivial⟩ ⟨hS, by omega, hb2⟩ (by first | omega | (simp only; omega))
    have hg39p : x38.name = x7.name := by simpa using hg39
    rcases (Bool.eq_false_or_eq_true x38.here).symm with hg41 | hg41
    ·
     refine W.drawL (by kernel_rfl) 38 ((.q (.bool false)) :: (.q (.bool false)) :: (.q (.pointer (some ⟨b8, 2, none⟩))) :: (.q (.bool x7.fn)) :: (.q (.bool true)) :: (.q (.bool true)) :: (.q (.pointer (some ⟨b13, 1, none⟩))) :: (.q (.slice adg12 m.globs.length capg12)) :: (.q (.int .i64 (kg : Int))) :: (.q (.pointer (some ⟨b38, o38 + kg * 4, none⟩))) :: (.q (.pointer (some ⟨b38, o38 + kg * 4, none⟩))) :: (.q (.string x38.name)) :: (.q (.pointer (some ⟨b8, 0, none⟩))) :: (.q (.string x7.name)) :: (.q (.bool true)) :: (.q (.bool true)) :: (.q (.bool true)) :: (.q (.pointer (some ⟨b13, 1, none⟩))) :: (.q (.slice adg12 m.globs.length capg12)) :: (.q (.int .i64 (kg : Int))) :: (.q (.pointer (some ⟨b38, o38 + kg * 4, none⟩))) :: (.q (.pointer (some ⟨b38, o38 + kg * 4 + 2, none⟩))) :: (.q (.bool false)) :: (.q (.bool false)) :: (.q (.bool false)) :: (.q undef) :: (.q undef) :: (.q undef) :: (.q undef) :: (.q undef) :: (.q undef) :: (.q undef) :: (.q undef) :: (.q undef) :: (.q undef) :: (.q undef) :: (.q (.bool false)) :: (.q (.bool false)) :: []) (by kernel_rfl) (by kernel_rfl) [(0, .slice adl ms.length capl), (3, .bool true), (4, .slice add ds.length capd), (5, .int .i64 ((all9 (items9 ms)).2)), (6, .int .i64 (k : Int)), (7, .pointer (some ⟨b8, 0, none⟩)), (8, .pointer (some ⟨b13, 0, none⟩)), (9, .bool false), (10, .int .i64 (kf : Int)), (11, .int .i64 (kg : Int)), (12, .bool true), (13, .tuple #[.slice add ds.length capd, .int .i64 ((all9 (items9 ms)).2)]), (14, .slice adl ms.length capl), (15, .tuple #[.slice add ds.length capd, .int .i64 ((all9 (items9 ms)).2)]), (16, .slice add ds.length capd), (17, .int .i64 ((all9 (items9 ms)).2)), (18, .int .i64 ((all9 (items9 ms)).2)), (19, .bool (!decide ((all9 (items9 ms)).2 = 0))), (21, .int .i64 (k : Int)), (22, .slice add ds.length capd), (23, .int .i64 (ds.length : Int)), (24, .bool (decide ((k : Int) < (ds.length : Int)))), (27, .slice add ds.length capd), (28, .int .i64 (k : Int)), (29, .pointer (some ⟨b7, o7 + k * 5, none⟩)), (30, .agg #[.string x7.name, .int .i64 x7.mod, .bool x7.fn, .bool x7.weak, .bool x7.here]), (31, .pointer (some ⟨b8, 4, none⟩)), (32, .bool x7.here), (33, .bool (!x7.here)), (37, .pointer (some ⟨b8, 1, none⟩)), (38, .int .i64 x7.mod), (39, .bool false), (40, .bool false), (41, .pointer (some ⟨b8, 1, none⟩)), (42, .int .i64 x7.mod), (43, .slice adl ms.length capl), (44, .int .i64 (ms.length : Int)), (45, .bool false), (46, .bool false), (47, .slice adl ms.length capl), (48, .pointer (some ⟨b8, 1, none⟩)), (49, .int .i64 (i : Int)), (50, .pointer (some ⟨b12, o12 + i * 2, none⟩)), (51, .agg #[.slice adf12 m.funcs.length capf12, .slice adg12 m.globs.length capg12]), (52, .int .i64 (kf : Int)), (53, .pointer (some ⟨b13, 0, none⟩)), (54, .slice adf12 m.funcs.length capf12), (55, .int .i64 (m.funcs.length : Int)), (56, .bool (decide ((kf : Int) < (m.funcs.length : Int)))), (98, .int .i64 (kg : Int)), (99, .pointer (some ⟨b13, 1, none⟩)), (100, .slice adg12 m.globs.length capg12), (101, .int .i64 (m.globs.length : Int)), (102, .bool (decide ((kg : Int) < (m.globs.length : Int))))] ⟨rfl, rfl, rfl, rfl, rfl, rfl, rfl, rfl, rfl, rfl, rfl, rfl, rfl, rfl, rfl, rfl, rfl, rfl, rfl, rfl, rfl, rfl, rfl, rfl, rfl, rfl, rfl, rfl, rfl, rfl, rfl, rfl, rfl, rfl, rfl, rfl, rfl, rfl, rfl, rfl, rfl, rfl, rfl, rfl, rfl, rfl, rfl, rfl, rfl, rfl, rfl, rfl, rfl, rfl, trivial⟩ (by kernel_rfl) hS ?_ ?_
     ·
      refine And.intro (fun β w hS => ?_) ?_
      ·
       refine WL.sub (σ' := [(9, .bool false)]) ⟨rfl, trivial⟩ ?_
       refine WL.move rfl rfl rfl ?_
       exact WL.nil (N.cut () ⟨rfl, trivial⟩ (Below.refl _ _))
      refine And.intro (fun β w hS => ?_) ?_
      ·
       refine WL.sub (σ' := [(105, .bool false)]) ⟨rfl, trivial⟩ ?_
       refine WL.move rfl rfl rfl ?_
       exact WL.nil (N.cut () ⟨rfl, trivial⟩ (Below.refl _ _))
      refine And.intro (fun β w hS => ?_) ?_
      ·
       refine WL.sub (σ' := [(7, .pointer (some ⟨b8, 0, none⟩)), (106, .bool false)]) ⟨rfl, rfl, trivial⟩ ?_
       refine WL.fieldAddr fo_29_2 rfl rfl rfl ?_
       exact WL.nil (N.cut () ⟨rfl, trivial⟩ (Below.refl _ _))
      refine And.intro (fun β w hS => ?_) ?_
      ·
       refine WL.sub (σ' := [(106, .bool false), (107, .pointer (some ⟨b8, 2, none⟩))]) ⟨rfl, rfl, trivial⟩ ?_
       refine WL.load1 (v := .bool x7.fn) one_4 rfl rfl rfl (hS.cell 1 rfl rfl) ?_
       exact WL.nil (N.cut () ⟨rfl, trivial⟩ (Below.refl _ _))
      refine And.intro (fun β w hS => ?_) ?_
      ·
       refine WL.sub (σ' := [(106, .bool false), (108, .bool x7.fn)]) ⟨rfl, rfl, trivial⟩ ?_
       refine WL.not rfl rfl rfl ?_
       refine WL.set 109 (v' := .bool true) rfl (by rw [hg35]) ?_
       exact WL.nil (N.cut () ⟨rfl, trivial⟩ (Below.refl _ _))
      refine And.intro (fun β w hS => ?_) ?_
      ·
       refine WL.sub (σ' := [(106, .bool false), (109, .bool true)]) ⟨rfl, rfl, trivial⟩ ?_
       refine WL.move rfl rfl rfl ?_
       exact WL.nil (N.cut () ⟨rfl, trivial⟩ (Below.refl _ _))
      refine And.intro (fun β w hS => ?_) ?_
      ·
       refine WL.sub (σ' := [(8, .pointer (some ⟨b13, 0, none⟩)), (110, .bool true)]) ⟨rfl, rfl, trivial⟩ ?_
       refine WL.fieldAddr fo_33_1 rfl rfl rfl ?_
       exact WL.nil (N.cut () ⟨rfl, trivial⟩ (Below.refl _ _))
      refine And.intro (fun β w hS => ?_) ?_
      ·
       refine WL.sub (σ' := [(110, .bool true), (111, .pointer (some ⟨b13, 1, none⟩))]) ⟨rfl, rfl, trivial⟩ ?_
       refine WL.load1 (v := .slice adg12 m.globs.length capg12) one_31 rfl rfl rfl (hS.cell 0 rfl rfl) ?_
       exact WL.nil (N.cut () ⟨rfl, trivial⟩ (Below.refl _ _))
      refine And.intro (fun β w hS => ?_) ?_
      ·
       refine WL.sub (σ' := [(11, .int .i64 (kg : Int)), (110, .bool true)]) ⟨rfl, rfl, trivial⟩ ?_
       refine WL.move rfl rfl rfl ?_
       exact WL.nil (N.cut () ⟨rfl, trivial⟩ (Below.refl _ _))
      refine And.intro (fun β w hS => ?_) ?_
      ·
       refine WL.sub (σ' := [(110, .bool true), (112, .slice adg12 m.globs.length capg12), (113, .int .i64 (kg : Int))]) ⟨rfl, rfl, rfl, trivial⟩ ?_
       refine WL.indexAddrE (j := kg) Try.underlying31 isz_39 rfl rfl rfl rfl hj38 hE38 ?_
       exact WL.nil (N.cut () ⟨rfl, trivial⟩ (Below.refl _ _))
      refine And.intro (fun β w hS => ?_) ?_
      ·
       refine WL.sub (σ' := [(110, .bool true), (114, .pointer (some ⟨b38, o38 + kg * 4, none⟩))]) ⟨rfl, rfl, trivial⟩ ?_
       refine WL.fieldAddr fo_39_0 rfl rfl rfl ?_
       exact WL.nil (N.cut () ⟨rfl, trivial⟩ (Below.refl _ _))
      refine And.intro (fun β w hS => ?_) ?_
      ·
       refine WL.sub (σ' := [(110, .bool true), (115, .pointer (some ⟨b38, o38 + kg * 4, none⟩))]) ⟨rfl, rfl, trivial⟩ ?_
       refine WL.load1 (v := .string x38.name) one_9 rfl rfl rfl (hS.roCells hr38 hc38 0 _ rfl) ?_
       exact WL.nil (N.cut () ⟨rfl, trivial⟩ (Below.refl _ _))
      refine And.intro (fun β w hS => ?_) ?_
      ·
       refine WL.sub (σ' := [(7, .pointer (some ⟨b8, 0, none⟩)), (110, .bool true)]) ⟨rfl, rfl, trivial⟩ ?_
       refine WL.fieldAddr fo_29_0 rfl rfl rfl ?_
       exact WL.nil (N.cut () ⟨rfl, trivial⟩ (Below.refl _ _))
      refine And.intro (fun β w hS => ?_) ?_
      ·
       refine WL.sub (σ' := [(110, .bool true), (117, .pointer (some ⟨b8, 0, none⟩))]) ⟨rfl, rfl, trivial⟩ ?_
       refine WL.load1 (v := .string x7.name) one_9 rfl rfl rfl (hS.cell 1 rfl rfl) ?_
       exact WL.nil (N.cut () ⟨rfl, trivial⟩ (Below.refl _ _))
      refine And.intro (fun β w hS => ?_) ?_
      ·
       refine WL.sub (σ' := [(110, .bool true), (116, .string x38.name), (118, .string x7.name)]) ⟨rfl, rfl, rfl, trivial⟩ ?_
       refine WL.eqStr rfl rfl rfl rfl ?_
       refine WL.set 119 (v' := .bool true) rfl (by rw [hg39]) ?_
       exact WL.nil (N.cut () ⟨rfl, trivial⟩ (Below.refl _ _))
      refine And.intro (fun β w hS => ?_) ?_
      ·
       refine WL.sub (σ' := [(106, .bool false), (110, .bool true), (119, .bool true)]) ⟨rfl, rfl, rfl, trivial⟩ ?_
       refine WL.pick (v := .bool true) rfl rfl rfl rfl rfl rfl ?_
       exact WL.nil (N.cut () ⟨rfl, trivial⟩ (Below.refl _ _))
      refine And.intro (fun β w hS => ?_) ?_
      ·
       refine WL.sub (σ' := [(106, .bool false), (120, .bool true)]) ⟨rfl, rfl, trivial⟩ ?_
       refine WL.move rfl rfl rfl ?_
       exact WL.nil (N.cut () ⟨rfl, trivial⟩ (Below.refl _ _))
      refine And.intro (fun β w hS => ?_) ?_
      ·
       refine WL.sub (σ' := [(8, .pointer (some ⟨b13, 0, none⟩)), (121, .bool true)]) ⟨rfl, rfl, trivial⟩ ?_
       refine WL.fieldAddr fo_33_1 rfl rfl rfl ?_
       exact WL.nil (N.cut () ⟨rfl, trivial⟩ (Below.refl _ _))
      refine And.intro (fun β w hS => ?_) ?_
      ·
       refine WL.sub (σ' := [(121, .bool true), (122, .pointer (some ⟨b13, 1, none⟩))]) ⟨rfl, rfl, trivial⟩ ?_
       refine WL.load1 (v := .slice adg12 m.globs.length capg12) one_31 rfl rfl rfl (hS.cell 0 rfl rfl) ?_
       exact WL.nil (N.cut () ⟨rfl, trivial⟩ (Below.refl _ _))
      refine And.intro (fun β w hS => ?_) ?_
      ·
       refine WL.sub (σ' := [(11, .int .i64 (kg : Int)), (121, .bool true)]) ⟨rfl, rfl, trivial⟩ ?_
       refine WL.move rfl rfl rfl ?_
       exact WL.nil (N.cut () ⟨rfl, trivial⟩ (Below.refl _ _))
      refine And.intro (fun β w hS => ?_) ?_
      ·
       refine WL.sub (σ' := [(121, .bool true), (123, .slice adg12 m.globs.length capg12), (124, .int .i64 (kg : Int))]) ⟨rfl, rfl, rfl, trivial⟩ ?_
       refine WL.indexAddrE (j := kg) Try.underlying31 isz_39 rfl rfl rfl rfl hj38 hE38 ?_
       exact WL.nil (N.cut () ⟨rfl, trivial⟩ (Below.refl _ _))
      refine And.intro (fun β w hS => ?_) ?_
      ·
       refine WL.sub (σ' := [(121, .bool true), (125, .pointer (some ⟨b38, o38 + kg * 4, none⟩))]) ⟨rfl, rfl, trivial⟩ ?_
       refine WL.fieldAddr fo_39_2 rfl rfl rfl ?_
       exact WL.nil (N.cut () ⟨rfl, trivial⟩ (Below.refl _ _))
      refine And.intro (fun β w hS => ?_) ?_
      ·
       refine WL.sub (σ' := [(121, .bool true), (126, .pointer (some ⟨b38, o38 + kg * 4 + 2, none⟩))]) ⟨rfl, rfl, trivial⟩ ?_
       refine WL.load1 (v := .bool x38.here) one_4 rfl rfl rfl (hS.roCells hr38 hc38 2 _ rfl) ?_
       refine WL.set 127 (v' := .bool false) rfl (by rw [hg41]) ?_
       exact WL.nil (N.cut () ⟨rfl, trivial⟩ (Below.refl _ _))
      refine And.intro (fun β w hS => ?_) ?_
      ·
       refine WL.sub (σ' := [(106, .bool false), (121, .bool true), (127, .bool false)]) ⟨rfl, rfl, rfl, trivial⟩ ?_
       refine WL.pick (v := .bool false) rfl rfl rfl rfl rfl rfl ?_
       exact WL.nil (N.cut () ⟨rfl, trivial⟩ (Below.refl _ _))
      refine And.intro (fun β w hS => ?_) ?_
      ·
       refine WL.sub (σ' := [(106, .bool false), (128, .bool false)]) ⟨rfl, rfl, trivial⟩ ?_
       refine WL.move rfl rfl rfl ?_
       exact WL.nil (N.cut () ⟨rfl, trivial⟩ (Below.refl _ _))
      refine And.intro (fun β w hS => ?_) ?_
      ·
       refine WL.sub (σ' := [(7, .pointer (some ⟨b8, 0, none⟩)), (129, .bool false)]) ⟨rfl, rfl, trivial⟩ ?_
       refine WL.skp rfl rfl ?_
       exact WL.nil (N.cut () ⟨rfl, trivial⟩ (Below.refl _ _))
      refine And.intro (fun β w hS => ?_) ?_
      ·
       refine WL.sub (σ' := [(129, .bool false), (130, undef)]) ⟨rfl, rfl, trivial⟩ ?_
       refine WL.skp rfl rfl ?_
       exact WL.nil (N.cut () ⟨rfl, trivial⟩ (Below.refl _ _))
      refine And.intro (fun β w hS => ?_) ?_
      ·
       refine WL.sub (σ' := [(129, .bool false), (131, undef)]) ⟨rfl, rfl, trivial⟩ ?_
       refine WL.skp rfl rfl ?_
       exact WL.nil (N.cut () ⟨rfl, trivial⟩ (Below.refl _ _))
      refine And.intro (fun β w hS => ?_) ?_
      ·
       refine WL.sub (σ' := [(8, .pointer (some ⟨b13, 0, none⟩)), (132, undef)]) ⟨rfl, rfl, trivial⟩ ?_
       refine WL.skp rfl rfl ?_
       exact WL.nil (N.cut () ⟨rfl, trivial⟩ (Below.refl _ _))
      refine And.intro (fun β w hS => ?_) ?_
      ·
       refine WL.sub (σ' := [(132, undef), (133, undef)]) ⟨rfl, rfl, trivial⟩ ?_
       refine WL.skp rfl rfl ?_
       exact WL.nil (N.cut () ⟨rfl, trivial⟩ (Below.refl _ _))
      refine And.intro (fun β w hS => ?_) ?_
      ·
       refine WL.sub (σ' := [(11, .int .i64 (kg : Int)), (132, undef)]) ⟨rfl, rfl, trivial⟩ ?_
       refine WL.skp rfl rfl ?_
       exact WL.nil (N.cut () ⟨rfl, trivial⟩ (Below.refl _ _))
      refine And.intro (fun β w hS => ?_) ?_
      ·
       refine WL.sub (σ' := [(132, undef), (134, undef), (135, undef)]) ⟨rfl, rfl, rfl, trivial⟩ ?_
       refine WL.skp rfl rfl ?_
       exact WL.nil (N.cut () ⟨rfl, trivial⟩ (Below.refl _ _))
      refine And.intro (fun β w hS => ?_) ?_
      ·
       refine WL.sub (σ' := [(132, undef), (136, undef)]) ⟨rfl, rfl, trivial⟩ ?_
       refine WL.skp rfl rfl ?_
       exact WL.nil (N.cut () ⟨rfl, trivial⟩ (Below.refl _ _))
      refine And.intro (fun β w hS => ?_) ?_
      ·
       refine WL.sub (σ' := [(132, undef), (137, undef)]) ⟨rfl, rfl, trivial⟩ ?_
       refine WL.skp rfl rfl ?_
       exact WL.nil (N.cut () ⟨rfl, trivial⟩ (Below.refl _ _))
      refine And.intro (fun β w hS => ?_) ?_
      ·
       refine WL.sub (σ' := [(132, undef), (138, undef)]) ⟨rfl, rfl, trivial⟩ ?_
       refine WL.skp rfl rfl ?_
       exact WL.nil (N.cut () ⟨rfl, trivial⟩ (Below.refl _ _))
      refine And.intro (fun β w hS => ?_) ?_
      ·
       refine WL.sub (σ' := [(129, .bool false), (132, undef), (139, undef)]) ⟨rfl, rfl, rfl, trivial⟩ ?_
       refine WL.skp rfl rfl ?_
       exact WL.nil (N.cut () ⟨rfl, trivial⟩ (Below.refl _ _))
      refine And.intro (fun β w hS => ?_) ?_
      ·
       refine WL.sub (σ' := [(106, .bool false), (129, .bool false), (140, undef)]) ⟨rfl, rfl, rfl, trivial⟩ ?_
       refine WL.pick (v := .bool false) rfl rfl rfl rfl rfl rfl ?_
       exact WL.nil (N.cut () ⟨rfl, trivial⟩ (Below.refl _ _))
      refine And.intro (fun β w hS => ?_) ?_
      ·
       refine WL.sub (σ' := [(106, .bool false), (141, .bool false)]) ⟨rfl, rfl, trivial⟩ ?_
       refine WL.pick (v := .bool false) rfl rfl rfl rfl rfl rfl ?_
       exact WL.nil (N.cut () ⟨rfl, trivial⟩ (Below.refl _ _))
      trivial
     clear hS; intro w42 β hS
     refine WL.sub (σ' := [(0, .slice adl ms.length capl), (3, .bool true), (4, .slice add ds.length capd), (5, .int .i64 ((all9 (items9 ms)).2)), (6, .int .i64 (k : Int)), (7, .pointer (some ⟨b8, 0, none⟩)), (8, .pointer (some ⟨b13, 0, none⟩)), (9, .bool false), (10, .int .i64 (kf : Int)), (11, .int .i64 (kg : Int)), (12, .bool true), (13, .tuple #[.slice add ds.length capd, .int .i64 ((all9 (items9 ms)).2)]), (14, .slice adl ms.length capl), (15, .tuple #[.slice add ds.length capd, .int .i64 ((all9 (items9 ms)).2)]), (16, .slice add ds.length capd), (17, .int .i64 ((all9 (items9 ms)).2)), (18, .int .i64 ((all9 (items9 ms)).2)), (19, .bool (!decide ((all9 (items9 ms)).2 = 0))), (21, .int .i64 (k : Int)), (22, .slice add ds.length capd), (23, .int .i64 (ds.length : Int)), (24, .bool (decide ((k : Int) < (ds.length : Int)))), (27, .slice add ds.length capd), (28, .int .i64 (k : Int)), (29, .pointer (some ⟨b7, o7 + k * 5, none⟩)), (30, .agg #[.string x7.name, .int .i64 x7.mod, .bool x7.fn, .bool x7.weak, .bool x7.here]), (31, .pointer (some ⟨b8, 4, none⟩)), (32, .bool x7.here), (33, .bool (!x7.here)), (37, .pointer (some ⟨b8, 1, none⟩)), (38, .int .i64 x7.mod), (39, .bool false), (40, .bool false), (41, .pointer (some ⟨b8, 1, none⟩)), (42, .int .i64 x7.mod), (43, .slice adl ms.length capl), (44, .int .i64 (ms.length : Int)), (45, .bool false), (46, .bool false), (47, .slice adl ms.length capl), (48, .pointer (some ⟨b8, 1, none⟩)), (49, .int .i64 (i : Int)), (50, .pointer (some ⟨b12, o12 + i * 2, none⟩)), (51, .agg #[.slice adf12 m.funcs.length capf12, .slice adg12 m.globs.length capg12]), (52, .int .i64 (kf : Int)), (53, .pointer (some ⟨b13, 0, none⟩)), (54, .slice adf12 m.funcs.length capf12), (55, .int .i64 (m.funcs.length : Int)), (56, .bool (decide ((kf : Int) < (m.funcs.length : Int)))), (98, .int .i64 (kg : Int)), (99, .pointer (some ⟨b13, 1, none⟩)), (100, .slice adg12 m.globs.length capg12), (101, .int .i64 (m.globs.length : Int)), (102, .bool (decide ((kg : Int) < (m.globs.length : Int)))), (105, .bool false), (106, .bool false), (107, .pointer (some ⟨b8, 2, none⟩)), (108, .bool x7.fn), (109, .bool true), (110, .bool true), (111, .pointer (some ⟨b13, 1, none⟩)), (112, .slice adg12 m.globs.length capg12), (113, .int .i64 (kg : Int)), (114, .pointer (some ⟨b38, o38 + kg * 4, none⟩)), (115, .pointer (some ⟨b38, o38 + kg * 4, none⟩)), (116, .string x38.name), (117, .pointer (some ⟨b8, 0, none⟩)), (118, .string x7.name), (119, .bool true), (120, .bool true), (121, .bool true), (122, .pointer (some ⟨b13, 1, none⟩)), (123, .slice adg12 m.globs.length capg12), (124, .int .i64 (kg : Int)), (125, .pointer (some ⟨b38, o38 + kg * 4, none⟩)), (126, .pointer (some ⟨b38, o38 + kg * 4 + 2, none⟩)), (127, .bool false), (128, .bool false), (129, .bool false), (130, undef), (131, undef), (132, undef), (133, undef), (134, undef), (135, undef), (136, undef), (137, undef), (138, undef), (139, undef), (140, undef), (141, .bool false), (142, .bool false)]) (Sub.ofEq (by kernel_rfl)) ?_
     refine WL.assign rfl rfl rfl ?_
     refine WL.nil ?_
     refine N.blk ?_
     refine N.seq ?_
     refine W.region ?_
     refine WL.move rfl rfl rfl ?_
     refine WL.add (c := (kg : Int) + 1) rfl rfl rfl rfl (rfl) (by omega) ?_
     refine WL.assign rfl rfl rfl ?_
     refine WL.nil ?_
     have hb2 : (false : Bool) = (m.funcs.any (pF9 x7) || (m.globs.take (kg + 1)).any (pG9 x7)) := by rw [take_next hx38, List.any_append, ← Bool.or_assoc, ← hb]; simp [pG9, hc33p, hc33, hg34, hg35, hg39p, hg39, hg41] <;> (intros; first | omega | (apply List.eq_nil_of_length_eq_zero; omega))
     exact N.loop (kg + 1, false) ⟨rfl, rfl, rfl, rfl, rfl, rfl, rfl, rfl, rfl, rfl, rfl, rfl, rfl, rfl, rfl, rfl, rfl, rfl, rfl, rfl, rfl, rfl, rfl, rfl, rfl, rfl, rfl, rfl, rfl, rfl, rfl, rfl, rfl, rfl, rfl, rfl, rfl, rfl, rfl, rfl, rfl, rfl, rfl, rfl, rfl, rfl, rfl, rfl, rfl, trivial⟩ ⟨hS, by omega, hb2⟩ (by first | omega | (simp only; omega))
    rcases (Bool.eq_false_or_eq_true x7.weak).symm with hg43 | hg43
    ·
     refine W.drawL (by kernel_rfl) 38 ((.q (.bool false)) :: (.q (.bool false)) :: (.q (.pointer (some ⟨b8, 2, none⟩))) :: (.q (.bool x7.fn)) :: (.q (.bool true)) :: (.q (.bool true)) :: (.q (.pointer (some ⟨b13, 1, none⟩))) :: (.q (.slice adg12 m.globs.length capg12)) :: (.q (.int .i64 (kg : Int))) :: (.q (.pointer (some ⟨b38, o38 + kg * 4, none⟩))) :: (.q (.pointer (some ⟨b38, o38 + kg * 4, none⟩))) :: (.q (.string x38.name)) :: (.q (.pointer (some ⟨b8, 0, none⟩))) :: (.q (.string x7.name)) :: (.q (.bool true)) :: (.q (.bool true)) :: (.q (.bool true)) :: (.q (.pointer (some ⟨b13, 1, none⟩))) :: (.q (.slice adg12 m.globs.length capg12)) :: (.q (.int .i64 (kg : Int))) :: (.q (.pointer (some ⟨b38, o38 + kg * 4, none⟩))) :: (.q (.pointer (some ⟨b38, o38 + kg * 4 + 2, none⟩))) :: (.q (.bool true)) :: (.q (.bool true)) :: (.q (.bool true)) :: (.q (.pointer (some ⟨b8, 3, none⟩))) :: (.q (.bool false)) :: (.q (.bool false)) :: (.q (.pointer (some ⟨b13, 1, none⟩))) :: (.q (.slice adg12 m.globs.length capg12)) :: (.q (.int .i64 (kg : Int))) :: (.q (.pointer (some ⟨b38, o38 + kg * 4, none⟩))) :: (.q (.pointer (some ⟨b38, o38 + kg * 4 + 1, none⟩))) :: (.q (.int .i64 x38.bind)) :: (.q (.bool (decide (x38.bind = 2)))) :: (.q (.bool (decide (x38.bind = 2)))) :: (.q (.bool (decide (x38.bind = 2)))) :: (.q (.bool (decide (x38.bind = 2)))) :: []) (by kernel_rfl) (by kernel_rfl) [(0, .slice adl ms.length capl), (3, .bool true), (4, .slice add ds.length capd), (5, .int .i64 ((all9 (items9 ms)).2)), (6, .int .i64 (k : Int)), (7, .pointer (some ⟨b8, 0, none⟩)), (8, .pointer (some ⟨b13, 0, none⟩)), (9, .bool false), (10, .int .i64 (kf : Int)), (11, .int .i64 (kg : Int)), (12, .bool true), (13, .tuple #[.slice add ds.length capd, .int .i64 ((all9 (items9 ms)).2)]), (14, .slice adl ms.length capl), (15, .tuple #[.slice add ds.length capd, .int .i64 ((all9 (items9 ms)).2)]), (16, .slice add ds.length capd), (17, .int .i64 ((all9 (items9 ms)).2)), (18, .int .i64 ((all9 (items9 ms)).2)), (19, .bool (!decide ((all9 (items9 ms)).2 = 0))), (21, .int .i64 (k : Int)), (22, .slice add ds.length capd), (23, .int .i64 (ds.length : Int)), (24, .bool (decide ((k : Int) < (ds.length : Int)))), (27, .slice add ds.length capd), (28, .int .i64 (k : Int)), (29, .pointer (some ⟨b7, o7 + k * 5, none⟩)), (30, .agg #[.string x7.name, .int .i64 x7.mod, .bool x7.fn, .bool x7.weak, .bool x7.here]), (31, .pointer (some ⟨b8, 4, none⟩)), (32, .bool x7.here), (33, .bool (!x7.here)), (37, .pointer (some ⟨b8, 1, none⟩)), (38, .int .i64 x7.mod), (39, .bool false), (40, .bool false), (41, .pointer (some ⟨b8, 1, none⟩)), (42, .int .i64 x7.mod), (43, .slice adl ms.length capl), (44, .int .i64 (ms.length : Int)), (45, .bool false), (46, .bool false), (47, .slice adl ms.length capl), (48, .pointer (some ⟨b8, 1, none⟩)), (49, .int .i64 (i : Int)), (50, .pointer (some ⟨b12, o12 + i * 2, none⟩)), (51, .agg #[.slice adf12 m.funcs.length capf12, .slice adg12 m.globs.length capg12]), (52, .int .i64 (kf : Int)), (53, .pointer (some ⟨b13, 0, none⟩)), (54, .slice adf12 m.funcs.length capf12), (55, .int .i64 (m.funcs.length : Int)), (56, .bool (decide ((kf : Int) < (m.funcs.length : Int)))), (98, .int .i64 (kg : Int)), (99, .pointer (some ⟨b13, 1, none⟩)), (100, .slice adg12 m.globs.length capg12), (101, .int .i64 (m.globs.length : Int)), (102, .bool (decide ((kg : Int) < (m.globs.length : Int))))] ⟨rfl, rfl, rfl, rfl, rfl, rfl, rfl, rfl, rfl, rfl, rfl, rfl, rfl, rfl, rfl, rfl, rfl, rfl, rfl, rfl, rfl, rfl, rfl, rfl, rfl, rfl, rfl, rfl, rfl, rfl, rfl, rfl, rfl, rfl, rfl, rfl, rfl, rfl, rfl, rfl, rfl, rfl, rfl, rfl, rfl, rfl, rfl, rfl, rfl, rfl, rfl, rfl, rfl, rfl, trivial⟩ (by kernel_rfl) hS ?_ ?_
     ·
      refine And.intro (fun β w hS => ?_) ?_
      ·
       refine WL.sub (σ' := [(9, .bool false)]) ⟨rfl, trivial⟩ ?_
       refine WL.move rfl rfl rfl ?_
       exact WL.nil (N.cut () ⟨rfl, trivial⟩ (Below.refl _ _))
      refine And.intro (fun β w hS => ?_) ?_
      ·
       refine WL.sub (σ' := [(105, .bool false)]) ⟨rfl, trivial⟩ ?_
       refine WL.move rfl rfl rfl ?_
       exact WL.nil (N.cut () ⟨rfl, trivial⟩ (Below.refl _ _))
      refine And.intro (fun β w hS => ?_) ?_
      ·
       refine WL.sub (σ' := [(7, .pointer (some ⟨b8, 0, none⟩)), (106, .bool false)]) ⟨rfl, rfl, trivial⟩ ?_
       refine WL.fieldAddr fo_29_2 rfl rfl rfl ?_
       exact WL.nil (N.cut () ⟨rfl, trivial⟩ (Below.refl _ _))
      refine And.intro (fun β w hS => ?_) ?_
      ·
       refine WL.sub (σ' := [(106, .bool false), (107, .pointer (some ⟨b8, 2, none⟩))]) ⟨rfl, rfl, trivial⟩ ?_
       refine WL.load1 (v := .bool x7.fn) one_4 rfl rfl rfl (hS.cell 1 rfl rfl) ?_
       exact WL.nil (N.cut () ⟨rfl, trivial⟩ (Below.refl _ _))
      refine And.intro (fun β w hS => ?_) ?_
      ·
       refine WL.sub (σ' := [(106, .bool false), (108, .bool x7.fn)]) ⟨rfl, rfl, trivial⟩ ?_
       refine WL.not rfl rfl rfl ?_
       refine WL.set 109 (v' := .bool true) rfl (by rw [hg35]) ?_
       exact WL.nil (N.cut () ⟨rfl, trivial⟩ (Below.refl _ _))
      refine And.intro (fun β w hS => ?_) ?_
      ·
       refine WL.sub (σ' := [(106, .bool false), (109, .bool true)]) ⟨rfl, rfl, trivial⟩ ?_
       refine WL.move rfl rfl rfl ?_
       exact WL.nil (N.cut () ⟨rfl, trivial⟩ (Below.refl _ _))
      refine And.intro (fun β w hS => ?_) ?_
      ·
       refine WL.sub (σ' := [(8, .pointer (some ⟨b13, 0, none⟩)), (110, .bool true)]) ⟨rfl, rfl, trivial⟩ ?_
       refine WL.fieldAddr fo_33_1 rfl rfl rfl ?_
       exact WL.nil (N.cut () ⟨rfl, trivial⟩ (Below.refl _ _))
      refine And.intro (fun β w hS => ?_) ?_
      ·
       refine WL.sub (σ' := [(110, .bool true), (111, .pointer (some ⟨b13, 1, none⟩))]) ⟨rfl, rfl, trivial⟩ ?_
       refine WL.load1 (v := .slice adg12 m.globs.length capg12) one_31 rfl rfl rfl (hS.cell 0 rfl rfl) ?_
       exact WL.nil (N.cut () ⟨rfl, trivial⟩ (Below.refl _ _))
      refine And.intro (fun β w hS => ?_) ?_
      ·
       refine WL.sub (σ' := [(11, .int .i64 (kg : Int)), (110, .bool true)]) ⟨rfl, rfl, trivial⟩ ?_
       refine WL.move rfl rfl rfl ?_
       exact WL.nil (N.cut () ⟨rfl, trivial⟩ (Below.refl _ _))
      refine And.intro (fun β w hS => ?_) ?_
      ·
       refine WL.sub (σ' := [(110, .bool true), (112, .slice adg12 m.globs.length capg12), (113, .int .i64 (kg : Int))]) ⟨rfl, rfl, rfl, trivial⟩ ?_
       refine WL.indexAddrE (j := kg) Try.underlying31 isz_39 rfl rfl rfl rfl hj38 hE38 ?_
       exact WL.nil (N.cut () ⟨rfl, trivial⟩ (Below.refl _ _))
      refine And.intro (fun β w hS => ?_) ?_
      ·
       refine WL.sub (σ' := [(110, .bool true), (114, .pointer (some ⟨b38, o38 + kg * 4, none⟩))]) ⟨rfl, rfl, trivial⟩ ?_
       refine WL.fieldAddr fo_39_0 rfl rfl rfl ?_
       exact WL.nil (N.cut () ⟨rfl, trivial⟩ (Below.refl _ _))
      refine And.intro (fun β w hS => ?_) ?_
      ·
       refine WL.sub (σ' := [(110, .bool true), (115, .pointer (some ⟨b38, o38 + kg * 4, none⟩))]) ⟨rfl, rfl, trivial⟩ ?_
       refine WL.load1 (v := .string x38.name) one_9 rfl rfl rfl (hS.roCells hr38 hc38 0 _ rfl) ?_
       exact WL.nil (N.cut () ⟨rfl, trivial⟩ (Below.refl _ _))
      refine And.intro (fun β w hS => ?_) ?_
      ·
       refine WL.sub (σ' := [(7, .pointer (some ⟨b8, 0, none⟩)), (110, .bool true)]) ⟨rfl, rfl, trivial⟩ ?_
       refine WL.fieldAddr fo_29_0 rfl rfl rfl ?_
       exact WL.nil (N.cut () ⟨rfl, trivial⟩ (Below.refl _ _))
      refine And.intro (fun β w hS => ?_) ?_
      ·
       refine WL.sub (σ' := [(110, .bool true), (117, .pointer (some ⟨b8, 0, none⟩))]) ⟨rfl, rfl, trivial⟩ ?_
       refine WL.load1 (v := .string x7.name) one_9 rfl rfl rfl (hS.cell 1 rfl rfl) ?_
       exact WL.nil (N.cut () ⟨rfl, trivial⟩ (Below.refl _ _))
      refine And.intro (fun β w hS => ?_) ?_
      ·
       refine WL.sub (σ' := [(110, .bool true), (116, .string x38.name), (118, .string x7.name)]) ⟨rfl, rfl, rfl, trivial⟩ ?_
       refine WL.eqStr rfl rfl rfl rfl ?_
       refine WL.set 119 (v' := .bool true) rfl (by rw [hg39]) ?_
       exact WL.nil (N.cut () ⟨rfl, trivial⟩ (Below.refl _ _))
      refine And.intro (fun β w hS => ?_) ?_
      ·
       refine WL.sub (σ' := [(106, .bool false), (110, .bool true), (119, .bool true)]) ⟨rfl, rfl, rfl, trivial⟩ ?_
       refine WL.pick (v := .bool true) rfl rfl rfl rfl rfl rfl ?_
       exact WL.nil (N.cut () ⟨rfl, trivial⟩ (Below.refl _ _))
      refine And.intro (fun β w hS => ?_) ?_
      ·
       refine WL.sub (σ' := [(106, .bool false), (120, .bool true)]) ⟨rfl, rfl, trivial⟩ ?_
       refine WL.move rfl rfl rfl ?_
       exact WL.nil (N.cut () ⟨rfl, trivial⟩ (Below.refl _ _))
      refine And.intro (fun β w hS => ?_) ?_
      ·
       refine WL.sub (σ' := [(8, .pointer (some ⟨b13, 0, none⟩)), (121, .bool true)]) ⟨rfl, rfl, trivial⟩ ?_
       refine WL.fieldAddr fo_33_1 rfl rfl rfl ?_
       exact WL.nil (N.cut () ⟨rfl, trivial⟩ (Below.refl _ _))
      refine And.intro (fun β w hS => ?_) ?_
      ·
       refine WL.sub (σ' := [(121, .bool true), (122, .pointer (some ⟨b13, 1, none⟩))]) ⟨rfl, rfl, trivial⟩ ?_
       refine WL.load1 (v := .slice adg12 m.globs.length capg12) one_31 rfl rfl rfl (hS.cell 0 rfl rfl) ?_
       exact WL.nil (N.cut () ⟨rfl, trivial⟩ (Below.refl _ _))
      refine And.intro (fun β w hS => ?_) ?_
      ·
       refine WL.sub (σ' := [(11, .int .i64 (kg : Int)), (121, .bool true)]) ⟨rfl, rfl, trivial⟩ ?_
       refine WL.move rfl rfl rfl ?_
       exact WL.nil (N.cut () ⟨rfl, trivial⟩ (Below.refl _ _))
      refine And.intro (fun β w hS => ?_) ?_
      ·
       refine WL.sub (σ' := [(121, .bool true), (123, .slice adg12 m.globs.length capg12), (124, .int .i64 (kg : Int))]) ⟨rfl, rfl, rfl, trivial⟩ ?_
       refine WL.indexAddrE (j := kg) Try.underlying31 isz_39 rfl rfl rfl rfl hj38 hE38 ?_
       exact WL.nil (N.cut () ⟨rfl, trivial⟩ (Below.refl _ _))
      refine And.intro (fun β w hS => ?_) ?_
      ·
       refine WL.sub (σ' := [(121, .bool true), (125, .pointer (some ⟨b38, o38 + kg * 4, none⟩))]) ⟨rfl, rfl, trivial⟩ ?_
       refine WL.fieldAddr fo_39_2 rfl rfl rfl ?_
       exact WL.nil (N.cut () ⟨rfl, trivial⟩ (Below.refl _ _))
      refine And.intro (fun β w hS => ?_) ?_
      ·
       refine WL.sub (σ' := [(121, .bool true), (126, .pointer (some ⟨b38, o38 + kg * 4 + 2, none⟩))]) ⟨rfl, rfl, trivial⟩ ?_
       refine WL.load1 (v := .bool x38.here) one_4 rfl rfl rfl (hS.roCells hr38 hc38 2 _ rfl) ?_
       refine WL.set 127 (v' := .bool true) rfl (by rw [hg41]) ?_
       exact WL.nil (N.cut () ⟨rfl, trivial⟩ (Below.refl _ _))
      refine And.intro (fun β w hS => ?_) ?_
      ·
       refine WL.sub (σ' := [(106, .bool false), (121, .bool true), (127, .bool true)]) ⟨rfl, rfl, rfl, trivial⟩ ?_
       refine WL.pick (v := .bool true) rfl rfl rfl rfl rfl rfl ?_
       exact WL.nil (N.cut () ⟨rfl, trivial⟩ (Below.refl _ _))
      refine And.intro (fun β w hS => ?_) ?_
      ·
       refine WL.sub (σ' := [(106, .bool false), (128, .bool true)]) ⟨rfl, rfl, trivial⟩ ?_
       refine WL.move rfl rfl rfl ?_
       exact WL.nil (N.cut () ⟨rfl, trivial⟩ (Below.refl _ _))
      refine And.intro (fun β w hS => ?_) ?_
      ·
       refine WL.sub (σ' := [(7, .pointer (some ⟨b8, 0, none⟩)), (129, .bool true)]) ⟨rfl, rfl, trivial⟩ ?_
       refine WL.fieldAddr fo_29_3 rfl rfl rfl ?_
       exact WL.nil (N.cut () ⟨rfl, trivial⟩ (Below.refl _ _))
      refine And.intro (fun β w hS => ?_) ?_
      ·
       refine WL.sub (σ' := [(129, .bool true), (130, .pointer (some ⟨b8, 3, none⟩))]) ⟨rfl, rfl, trivial⟩ ?_
       refine WL.load1 (v := .bool x7.weak) one_4 rfl rfl rfl (hS.cell 1 rfl rfl) ?_
       refine WL.set 131 (v' := .bool false) rfl (by rw [hg43]) ?_
       exact WL.nil (N.cut () ⟨rfl, trivial⟩ (Below.refl _ _))
      refine And.intro (fun β w hS => ?_) ?_
      ·
       refine WL.sub (σ' := [(129, .bool true), (131, .bool false)]) ⟨rfl, rfl, trivial⟩ ?_
       refine WL.move rfl rfl rfl ?_
       exact WL.nil (N.cut () ⟨rfl, trivial⟩ (Below.refl _ _))
      refine And.intro (fun β w hS => ?_) ?_
      ·
       refine WL.sub (σ' := [(8, .pointer (some ⟨b13, 0, none⟩)), (132, .bool false)]) ⟨rfl, rfl, trivial⟩ ?_
       refine WL.fieldAddr fo_33_1 rfl rfl rfl ?_
       exact WL.nil (N.cut () ⟨rfl, trivial⟩ (Below.refl _ _))
      refine And.intro (fun β w hS => ?_) ?_
      ·
       refine WL.sub (σ' := [(132, .bool false), (133, .pointer (some ⟨b13, 1, none⟩))]) ⟨rfl, rfl, trivial⟩ ?_
       refine WL.load1 (v := .slice adg12 m.globs.length capg12) one_31 rfl rfl rfl (hS.cell 0 rfl rfl) ?_
       exact WL.nil (N.cut () ⟨rfl, trivial⟩ (Below.refl _ _))
      refine And.intro (fun β w hS => ?_) ?_
      ·
       refine WL.sub (σ' := [(11, .int .i64 (kg : Int)), (132, .bool false)]) ⟨rfl, rfl, trivial⟩ ?_
       refine WL.move rfl rfl rfl ?_
       exact WL.nil (N.cut () ⟨rfl, trivial⟩ (Below.refl _ _))
      refine And.intro (fun β w hS => ?_) ?_
      ·
       refine WL.sub (σ' := [(132, .bool false), (134, .slice adg12 m.globs.length capg12), (135, .int .i64 (kg : Int))]) ⟨rfl, rfl, rfl, trivial⟩ ?_
       refine WL.indexAddrE (j := kg) Try.underlying31 isz_39 rfl rfl rfl rfl hj38 hE38 ?_
       exact WL.nil (N.cut () ⟨rfl, trivial⟩ (Below.refl _ _))
      refine And.intro (fun β w hS => ?_) ?_
      ·
       refine WL.sub (σ' := [(132, .bool false), (136, .pointer (some ⟨b38, o38 + kg * 4, none⟩))]) ⟨rfl, rfl, trivial⟩ ?_
       refine WL.fieldAddr fo_39_1 rfl rfl rfl ?_
       exact WL.nil (N.cut () ⟨rfl, trivial⟩ (Below.refl _ _))
      refine And.intro (fun β w hS => ?_) ?_
      ·
       refine WL.sub (σ' := [(132, .bool false), (137, .pointer (some ⟨b38, o38 + kg * 4 + 1, none⟩))]) ⟨rfl, rfl, trivial⟩ ?_
       refine WL.load1 (v := .int .i64 x38.bind) one_3 rfl rfl rfl (hS.roCells hr38 hc38 1 _ rfl) ?_
       exact WL.nil (N.cut () ⟨rfl, trivial⟩ (Below.refl _ _))
      refine And.intro (fun β w hS => ?_) ?_
      ·
       refine WL.sub (σ' := [(132, .bool false), (138, .int .i64 x38.bind)]) ⟨rfl, rfl, trivial⟩ ?_
       refine WL.bin rfl rfl rfl rfl rfl ?_
       exact WL.nil (N.cut () ⟨rfl, trivial⟩ (Below.refl _ _))
      refine And.intro (fun β w hS => ?_) ?_
      ·
       refine WL.sub (σ' := [(129, .bool true), (132, .bool false), (139, .bool (decide (x38.bind = 2)))]) ⟨rfl, rfl, rfl, trivial⟩ ?_
       refine WL.pick (v := .bool (decide (x38.bind = 2))) rfl rfl rfl rfl rfl rfl ?_
       exact WL.nil (N.cut () ⟨rfl, trivial⟩ (Below.refl _ _))
      refine And.intro (fun β w hS => ?_) ?_
      ·
       refine WL.sub (σ' := [(106, .bool false), (129, .bool true), (140, .bool (decide (x38.bind = 2)))]) ⟨rfl, rfl, rfl, trivial⟩ ?_
       refine WL.pick (v := .bool (decide (x38.bind = 2))) rfl rfl rfl rfl rfl rfl ?_
       exact WL.nil (N.cut () ⟨rfl, trivial⟩ (Below.refl _ _))
      refine And.intro (fun β w hS => ?_) ?_
      ·
       refine WL.sub (σ' := [(106, .bool false), (141, .bool (decide (x38.bind = 2)))]) ⟨rfl, rfl, trivial⟩ ?_
       refine WL.pick (v := .bool (decide (x38.bind = 2))) rfl rfl rfl rfl rfl rfl ?_
       exact WL.nil (N.cut () ⟨rfl, trivial⟩ (Below.refl _ _))
      trivial
     clear hS; intro w44 β hS
     refine WL.sub (σ' := [(0, .slice adl ms.length capl), (3, .bool true), (4, .slice add ds.length capd), (5, .int .i64 ((all9 (items9 ms)).2)), (6, .int .i64 (k : Int)), (7, .pointer (some ⟨b8, 0, none⟩)), (8, .pointer (some ⟨b13, 0, none⟩)), (9, .bool false), (10, .int .i64 (kf : Int)), (11, .int .i64 (kg : Int)), (12, .bool true), (13, .tuple #[.slice add ds.length capd, .int .i64 ((all9 (items9 ms)).2)]), (14, .slice adl ms.length capl), (15, .tuple #[.slice add ds.length capd, .int .i64 ((all9 (items9 ms)).2)]), (16, .slice add ds.length capd), (17, .int .i64 ((all9 (items9 ms)).2)), (18, .int .i64 ((all9 (items9 ms)).2)), (19, .bool (!decide ((all9 (items9 ms)).2 = 0))), (21, .int .i64 (k : Int)), (22, .slice add ds.length capd), (23, .int .i64 (ds.length : Int)), (24, .bool (decide ((k : Int) < (ds.length : Int)))), (27, .slice add ds.length capd), (28, .int .i64 (k : Int)), (29, .pointer (some ⟨b7, o7 + k * 5, none⟩)), (30, .agg #[.string x7.name, .int .i64 x7.mod, .bool x7.fn, .bool x7.weak, .bool x7.here]), (31, .pointer (some ⟨b8, 4, none⟩)), (32, .bool x7.here), (33, .bool (!x7.here)), (37, .pointer (some ⟨b8, 1, none⟩)), (38, .int .i64 x7.mod), (39, .bool false), (40, .bool false), (41, .pointer (some ⟨b8, 1, none⟩)), (42, .int .i64 x7.mod), (43, .slice adl ms.length capl), (44, .int .i64 (ms.length : Int)), (45, .bool false), (46, .bool false), (47, .slice adl ms.length capl), (48, .pointer (some ⟨b8, 1, none⟩)), (49, .int .i64 (i : Int)), (50, .pointer (some ⟨b12, o12 + i * 2, none⟩)), (51, .agg #[.slice adf12 m.funcs.length capf12, .slice adg12 m.globs.length capg12]), (52, .int .i64 (kf : Int)), (53, .pointer (some ⟨b13, 0, none⟩)), (54, .slice adf12 m.funcs.length capf12), (55, .int .i64 (m.funcs.length : Int)), (56, .bool (decide ((kf : Int) < (m.funcs.length : Int)))), (98, .int .i64 (kg : Int)), (99, .pointer (some ⟨b13, 1, none⟩)), (100, .slice adg12 m.globs.length capg12), (101, .int .i64 (m.globs.length : Int)), (102, .bool (decide ((kg : Int) < (m.globs.length : Int)))), (105, .bool false), (106, .bool false), (107, .pointer (some ⟨b8, 2, none⟩)), (108, .bool x7.fn), (109, .bool true), (110, .bool true), (111, .pointer (some ⟨b13, 1, none⟩)), (112, .slice adg12 m.globs.length capg12), (113, .int .i64 (kg : Int)), (114, .pointer (some ⟨b38, o38 + kg * 4, none⟩)), (115, .pointer (some ⟨b38, o38 + kg * 4, none⟩)), (116, .string x38.name), (117, .pointer (some ⟨b8, 0, none⟩)), (118, .string x7.name), (119, .bool true), (120, .bool true), (121, .bool true), (122, .pointer (some ⟨b13, 1, none⟩)), (123, .slice adg12 m.globs.length capg12), (124, .int .i64 (kg : Int)), (125, .pointer (some ⟨b38, o38 + kg * 4, none⟩)), (126, .pointer (some ⟨b38, o38 + kg * 4 + 2, none⟩)), (127, .bool true), (128, .bool true), (129, .bool true), (130, .pointer (some ⟨b8, 3, none⟩)), (131, .bool false), (132, .bool false), (133, .pointer (some ⟨b13, 1, none⟩)), (134, .slice adg12 m.globs.length capg12), (135, .int .i64 (kg : Int)), (136, .pointer (some ⟨b38, o38 + kg * 4, none⟩)), (137, .pointer (some ⟨b38, o38 + kg * 4 + 1, none⟩)), (138, .int .i64 x38.bind), (139, .bool (decide (x38.bind = 2))), (140, .bool (decide (x38.bind = 2))), (141, .bool (decide (x38.bind = 2))), (142, .bool (decide (x38.bind = 2)))]) (Sub.ofEq (by kernel_rfl)) ?_
     refine WL.assign rfl rfl rfl ?_
     refine WL.nil ?_
     refine N.blk ?_
     refine N.seq ?_
     refine W.region ?_
     refine WL.move rfl rfl rfl ?_
     refine WL.add (c := (kg : Int) + 1) rfl rfl rfl rfl (rfl) (by omega) ?_
     refine WL.assign rfl rfl rfl ?_
     refine WL.nil ?_
     have hb2 : (decide (x38.bind = 2) : Bool) = (m.funcs.any (pF9 x7) || (m.globs.take (kg + 1)).any (pG9 x7)) := by rw [take_next hx38, List.any_append, ← Bool.or_assoc, ← hb]; simp [pG9, hc33p, hc33, hg34, hg35, hg39p, hg39, hg41, hg43] <;> (intros; first | omega | (apply List.eq_nil_of_length_eq_zero; omega))
     exact N.loop (kg + 1, decide (x38.bind = 2)) ⟨rfl, rfl, rfl, rfl, rfl, rfl, rfl, rfl, rfl, rfl, rfl, rfl, rfl, rfl, rfl, rfl, rfl, rfl, rfl, rfl, rfl, rfl, rfl, rfl, rfl, rfl, rfl, rfl, rfl, rfl, rfl, rfl, rfl, rfl, rfl, rfl, rfl, rfl, rfl, rfl, rfl, rfl, rfl, rfl, rfl, rfl, rfl, rfl, rfl, trivial⟩ ⟨hS, by omega, hb2⟩ (by first | omega | (simp only; omega))
    refine W.drawL (by kernel_rfl) 38 ((.q (.bool false)) :: (.q (.bool false)) :: (.q (.pointer (some ⟨b8, 2, none⟩))) :: (.q (.bool x7.fn)) :: (.q (.bool true)) :: (.q (.bool true)) :: (.q (.pointer (some ⟨b13, 1, none⟩))) :: (.q (.slice adg12 m.globs.length capg12)) :: (.q (.int .i64 (kg : Int))) :: (.q (.pointer (some ⟨b38, o38 + kg * 4, none⟩))) :: (.q (.pointer (some ⟨b38, o38 + kg * 4, none⟩))) :: (.q (.string x38.name)) :: (.q (.pointer (some ⟨b8, 0, none⟩))) :: (.q (.string x7.name)) :: (.q (.bool true)) :: (.q (.bool true)) :: (.q (.bool true)) :: (.q (.pointer (some ⟨b13, 1, none⟩))) :: (.q (.slice adg12 m.globs.length capg12)) :: (.q (.int .i64 (kg : Int))) :: (.q (.pointer (some ⟨b38, o38 + kg * 4, none⟩))) :: (.q (.pointer (some ⟨b38, o38 + kg * 4 + 2, none⟩))) :: (.q (.bool true)) :: (.q (.bool true)) :: (.q (.bool true)) :: (.q (.pointer (some ⟨b8, 3, none⟩))) :: (.q (.bool true)) :: (.q (.bool true)) :: (.q undef) :: (.q undef) :: (.q undef) :: (.q undef) :: (.q undef) :: (.q undef) :: (.q undef) :: (.q (.bool true)) :: (.q (.bool true)) :: (.q (.bool true)) :: []) (by kernel_rfl) (by kernel_rfl) [(0, .slice adl ms.length capl), (3, .bool true), (4, .slice add ds.length capd), (5, .int .i64 ((all9 (items9 ms)).2)), (6, .int .i64 (k : Int)), (7, .pointer (some ⟨b8, 0, none⟩)), (8, .pointer (some ⟨b13, 0, none⟩)), (9, .bool false), (10, .int .i64 (kf : Int)), (11, .int .i64 (kg : Int)), (12, .bool true), (13, .tuple #[.slice add ds.length capd, .int .i64 ((all9 (items9 ms)).2)]), (14, .slice adl ms.length capl), (15, .tuple #[.slice add ds.length capd, .int .i64 ((all9 (items9 ms)).2)]), (16, .slice add ds.length capd), (17, .int .i64 ((all9 (items9 ms)).2)), (18, .int .i64 ((all9 (items9 ms)).2)), (19, .bool (!decide ((all9 (items9 ms)).2 = 0))), (21, .int .i64 (k : Int)), (22, .slice add ds.length capd), (23, .int .i64 (ds.length : Int)), (24, .bool (decide ((k : Int) < (ds.length : Int)))), (27, .slice add ds.length capd), (28, .int .i64 (k : Int)), (29, .pointer (some ⟨b7, o7 + k * 5, none⟩)), (30, .agg #[.string x7.name, .int .i64 x7.mod, .bool x7.fn, .bool x7.weak, .bool x7.here]), (31, .pointer (some ⟨b8, 4, none⟩)), (32, .bool x7.here), (33, .bool (!x7.here)), (37, .pointer (some ⟨b8, 1, none⟩)), (38, .int .i64 x7.mod), (39, .bool false), (40, .bool false), (41, .pointer (some ⟨b8, 1, none⟩)), (42, .int .i64 x7.mod), (43, .slice adl ms.length capl), (44, .int .i64 (ms.length : Int)), (45, .bool false), (46, .bool false), (47, .slice adl ms.length capl), (48, .pointer (some ⟨b8, 1, none⟩)), (49, .int .i64 (i : Int)), (50, .pointer (some ⟨b12, o12 + i * 2, none⟩)), (51, .agg #[.slice adf12 m.funcs.length capf12, .slice adg12 m.globs.length capg12]), (52, .int .i64 (kf : Int)), (53, .pointer (some ⟨b13, 0, none⟩)), (54, .slice adf12 m.funcs.length capf12), (55, .int .i64 (m.funcs.length : Int)), (56, .bool (decide ((kf : Int) < (m.funcs.length : Int)))), (98, .int .i64 (kg : Int)), (99, .pointer (some ⟨b13, 1, none⟩)), (100, .slice adg12 m.globs.length capg12), (101, .int .i64 (m.globs.length : Int)), (102, .bool (decide ((kg : Int) < (m.globs.length : Int))))] ⟨rfl, rfl, rfl, rfl, rfl, rfl, rfl, rfl, rfl, rfl, rfl, rfl, rfl, rfl, rfl, rfl, rfl, rfl, rfl, rfl, rfl, rfl, rfl, rfl, rfl, rfl, rfl, rfl, rfl, rfl, rfl, rfl, rfl, rfl, rfl, rfl, rfl, rfl, rfl, rfl, rfl, rfl, rfl, rfl, rfl, rfl, rfl, rfl, rfl, rfl, rfl, rfl, rfl, rfl, trivial⟩ (by kernel_rfl) hS ?_ ?_
    ·
     refine And.intro (fun β w hS => ?_) ?_
     ·
      refine WL.sub (σ' := [(9, .bool false)]) ⟨rfl, trivial⟩ ?_
      refine WL.move rfl rfl rfl ?_
      exact WL.nil (N.cut () ⟨rfl, trivial⟩ (Below.refl _ _))
     refine And.intro (fun β w hS => ?_) ?_
     ·
      refine WL.sub (σ' := [(105, .bool false)]) ⟨rfl, trivial⟩ ?_
      refine WL.move rfl rfl rfl ?_
      exact WL.nil (N.cut () ⟨rfl, trivial⟩ (Below.refl _ _))
     refine And.intro (fun β w hS => ?_) ?_
     ·
      refine WL.sub (σ' := [(7, .pointer (some ⟨b8, 0, none⟩)), (106, .bool false)]) ⟨rfl, rfl, trivial⟩ ?_
      refine WL.fieldAddr fo_29_2 rfl rfl rfl ?_
      exact WL.nil (N.cut () ⟨rfl, trivial⟩ (Below.refl _ _))
     refine And.intro (fun β w hS => ?_) ?_
     ·
      refine WL.sub (σ' := [(106, .bool false), (107, .pointer (some ⟨b8, 2, none⟩))]) ⟨rfl, rfl, trivial⟩ ?_
      refine WL.load1 (v := .bool x7.fn) one_4 rfl rfl rfl (hS.cell 1 rfl rfl) ?_
      exact WL.nil (N.cut () ⟨rfl, trivial⟩ (Below.refl _ _))
     refine And.intro (fun β w hS => ?_) ?_
     ·
      refine WL.sub (σ' := [(106, .bool false), (108, .bool x7.fn)]) ⟨rfl, rfl, trivial⟩ ?_
      refine WL.not rfl rfl rfl ?_
      refine WL.set 109 (v' := .bool true) rfl (by rw [hg35]) ?_
      exact WL.nil (N.cut () ⟨rfl, trivial⟩ (Below.refl _ _))
     refine And.intro (fun β w hS => ?_) ?_
     ·
      refine WL.sub (σ' := [(106, .bool false), (109, .bool true)]) ⟨rfl, rfl, trivial⟩ ?_
      refine WL.move rfl rfl rfl ?_
      exact WL.nil (N.cut () ⟨rfl, trivial⟩ (Below.refl _ _))
     refine And.intro (fun β w hS => ?_) ?_
     ·
      refine WL.sub (σ' := [(8, .pointer (some ⟨b13, 0, none⟩)), (110, .bool true)]) ⟨rfl, rfl, trivial⟩ ?_
      refine WL.fieldAddr fo_33_1 rfl rfl rfl ?_
      exact WL.nil (N.cut () ⟨rfl, trivial⟩ (Below.refl _ _))
     refine And.intro (fun β w hS => ?_) ?_
     ·
      refine WL.sub (σ' := [(110, .bool true), (111, .pointer (some ⟨b13, 1, none⟩))]) ⟨rfl, rfl, trivial⟩ ?_
      refine WL.load1 (v := .slice adg12 m.globs.length capg12) one_31 rfl rfl rfl (hS.cell 0 rfl rfl) ?_
      exact WL.nil (N.cut () ⟨rfl, trivial⟩ (Below.refl _ _))
     refine And.intro (fun β w hS => ?_) ?_
     ·
      refine WL.sub (σ' := [(11, .int .i64 (kg : Int)), (110, .bool true)]) ⟨rfl, rfl, trivial⟩ ?_
      refine WL.move rfl rfl rfl ?_
      exact WL.nil (N.cut () ⟨rfl, trivial⟩ (Below.refl _ _))
     refine And.intro (fun β w hS => ?_) ?_
     ·
      refine WL.sub (σ' := [(110, .bool true), (112, .slice adg12 m.globs.length capg12), (113, .int .i64 (kg : Int))]) ⟨rfl, rfl, rfl, trivial⟩ ?_
      refine WL.indexAddrE (j := kg) Try.underlying31 isz_39 rfl rfl rfl rfl hj38 hE38 ?_
      exact WL.nil (N.cut () ⟨rfl, trivial⟩ (Below.refl _ _))
     refine And.intro (fun β w hS => ?_) ?_
     ·
      refine WL.sub (σ' := [(110, .bool true), (114, .pointer (some ⟨b38, o38 + kg * 4, none⟩))]) ⟨rfl, rfl, trivial⟩ ?_
      refine WL.fieldAddr fo_39_0 rfl rfl rfl ?_
      exact WL.nil (N.cut () ⟨rfl, trivial⟩ (Below.refl _ _))
     refine And.intro (fun β w hS => ?_) ?_
     ·
      refine WL.sub (σ' := [(110, .bool true), (115, .pointer (some ⟨b38, o38 + kg * 4, none⟩))]) ⟨rfl, rfl, trivial⟩ ?_
      refine WL.load1 (v := .string x38.name) one_9 rfl rfl rfl (hS.roCells hr38 hc38 0 _ rfl) ?_
      exact WL.nil (N.cut () ⟨rfl, trivial⟩ (Below.refl _ _))
     refine And.intro (fun β w hS => ?_) ?_
     ·
      refine WL.sub (σ' := [(7, .pointer (some ⟨b8, 0, none⟩)), (110, .bool true)]) ⟨rfl, rfl, trivial⟩ ?_
      refine WL.fieldAddr fo_29_0 rfl rfl rfl ?_
      exact WL.nil (N.cut () ⟨rfl, trivial⟩ (Below.refl _ _))
     refine And.intro (fun β w hS => ?_) ?_
     ·
      refine WL.sub (σ' := [(110, .bool true), (117, .pointer (some ⟨b8, 0, none⟩))]) ⟨rfl, rfl, trivial⟩ ?_
      refine WL.load1 (v := .string x7.name) one_9 rfl rfl rfl (hS.cell 1 rfl rfl) ?_
      exact WL.nil (N.cut () ⟨rfl, trivial⟩ (Below.refl _ _))
     refine And.intro (fun β w hS => ?_) ?_
     ·
      refine WL.sub (σ' := [(110, .bool true), (116, .string x38.name), (118, .string x7.name)]) ⟨rfl, rfl, rfl, trivial⟩ ?_
      refine WL.eqStr rfl rfl rfl rfl ?_
      refine WL.set 119 (v' := .bool true) rfl (by rw [hg39]) ?_
      exact WL.nil (N.cut () ⟨rfl, trivial⟩ (Below.refl _ _))
     refine And.intro (fun β w hS => ?_) ?_
     ·
      refine WL.sub (σ' := [(106, .bool false), (110, .bool true), (119, .bool true)]) ⟨rfl, rfl, rfl, trivial⟩ ?_
      refine WL.pick (v := .bool true) rfl rfl rfl rfl rfl rfl ?_
      exact WL.nil (N.cut () ⟨rfl, trivial⟩ (Below.refl _ _))
     refine And.intro (fun β w hS => ?_) ?_
     ·
      refine WL.sub (σ' := [(106, .bool false), (120, .bool true)]) ⟨rfl, rfl, trivial⟩ ?_
      refine WL.move rfl rfl rfl ?_
      exact WL.nil (N.cut () ⟨rfl, trivial⟩ (Below.refl _ _))
     refine And.intro (fun β w hS => ?_) ?_
     ·
      refine WL.sub (σ' := [(8, .pointer (some ⟨b13, 0, none⟩)), (121, .bool true)]) ⟨rfl, rfl, trivial⟩ ?_
      refine WL.fieldAddr fo_33_1 rfl rfl rfl ?_
      exact WL.nil (N.cut () ⟨rfl, trivial⟩ (Below.refl _ _))
     refine And.intro (fun β w hS => ?_) ?_
     ·
      refine WL.sub (σ' := [(121, .bool true), (122, .pointer (some ⟨b13, 1, none⟩))]) ⟨rfl, rfl, trivial⟩ ?_
      refine WL.load1 (v := .slice adg12 m.globs.length capg12) one_31 rfl rfl rfl (hS.cell 0 rfl rfl) ?_
      exact WL.nil (N.cut () ⟨rfl, trivial⟩ (Below.refl _ _))
     refine And.intro (fun β w hS => ?_) ?_
     ·
      refine WL.sub (σ' := [(11, .int .i64 (kg : Int)), (121, .bool true)]) ⟨rfl, rfl, trivial⟩ ?_
      refine WL.move rfl rfl rfl ?_
      exact WL.nil (N.cut () ⟨rfl, trivial⟩ (Below.refl _ _))
     refine And.intro (fun β w hS => ?_) ?_
     ·
      refine WL.sub (σ' := [(121, .bool true), (123, .slice adg12 m.globs.length capg12), (124, .int .i64 (kg : Int))]) ⟨rfl, rfl, rfl, trivial⟩ ?_
      refine WL.indexAddrE (j := kg) Try.underlying31 isz_39 rfl rfl rfl rfl hj38 hE38 ?_
      exact WL.nil (N.cut () ⟨rfl, trivial⟩ (Below.refl _ _))
     refine And.intro (fun β w hS => ?_) ?_
     ·
      refine WL.sub (σ' := [(121, .bool true), (125, .pointer (some ⟨b38, o38 + kg * 4, none⟩))]) ⟨rfl, rfl, trivial⟩ ?_
      refine WL.fieldAddr fo_39_2 rfl rfl rfl ?_
      exact WL.nil (N.cut () ⟨rfl, trivial⟩ (Below.refl _ _))
     refine And.intro (fun β w hS => ?_) ?_
     ·
      refine WL.sub (σ' := [(121, .bool true), (126, .pointer (some ⟨b38, o38 + kg * 4 + 2, none⟩))]) ⟨rfl, rfl, trivial⟩ ?_
      refine WL.load1 (v := .bool x38.here) one_4 rfl rfl rfl (hS.roCells hr38 hc38 2 _ rfl) ?_
      refine WL.set 127 (v' := .bool true) rfl (by rw [hg41]) ?_
      exact WL.nil (N.cut () ⟨rfl, trivial⟩ (Below.refl _ _))
     refine And.intro (fun β w hS => ?_) ?_
     ·
      refine WL.sub (σ' := [(106, .bool false), (121, .bool true), (127, .bool true)]) ⟨rfl, rfl, rfl, trivial⟩ ?_
      refine WL.pick (v := .bool true) rfl rfl rfl rfl rfl rfl ?_
      exact WL.nil (N.cut () ⟨rfl, trivial⟩ (Below.refl _ _))
     refine And.intro (fun β w hS => ?_) ?_
     ·
      refine WL.sub (σ' := [(106, .bool false), (128, .bool true)]) ⟨rfl, rfl, trivial⟩ ?_
      refine WL.move rfl rfl rfl ?_
      exact WL.nil (N.cut () ⟨rfl, trivial⟩ (Below.refl _ _))
     refine And.intro (fun β w hS => ?_) ?_
     ·
      refine WL.sub (σ' := [(7, .pointer (some ⟨b8, 0, none⟩)), (129, .bool true)]) ⟨rfl, rfl, trivial⟩ ?_
      refine WL.fieldAddr fo_29_3 rfl rfl rfl ?_
      exact WL.nil (N.cut () ⟨rfl, trivial⟩ (Below.refl _ _))
     refine And.intro (fun β w hS => ?_) ?_
     ·
      refine WL.sub (σ' := [(129, .bool true), (130, .pointer (some ⟨b8, 3, none⟩))]) ⟨rfl, rfl, trivial⟩ ?_
      refine WL.load1 (v := .bool x7.weak) one_4 rfl rfl rfl (hS.cell 1 rfl rfl) ?_
      refine WL.set 131 (v' := .bool true) rfl (by rw [hg43]) ?_
      exact WL.nil (N.cut () ⟨rfl, trivial⟩ (Below.refl _ _))
     refine And.intro (fun β w hS => ?_) ?_
     ·
      refine WL.sub (σ' := [(129, .bool true), (131, .bool true)]) ⟨rfl, rfl, trivial⟩ ?_
      refine WL.move rfl rfl rfl ?_
      exact WL.nil (N.cut () ⟨rfl, trivial⟩ (Below.refl _ _))
     refine And.intro (fun β w hS => ?_) ?_
     ·
      refine WL.sub (σ' := [(8, .pointer (some ⟨b13, 0, none⟩)), (132, .bool true)]) ⟨rfl, rfl, trivial⟩ ?_
      refine WL.skp rfl rfl ?_
      exact WL.nil (N.cut () ⟨rfl, trivial⟩ (Below.refl _ _))
     refine And.intro (fun β w hS => ?_) ?_
     ·
      refine WL.sub (σ' := [(132, .bool true), (133, undef)]) ⟨rfl, rfl, trivial⟩ ?_
      refine WL.skp rfl rfl ?_
      exact WL.nil (N.cut () ⟨rfl, trivial⟩ (Below.refl _ _))
     refine And.intro (fun β w hS => ?_) ?_
     ·
      refine WL.sub (σ' := [(11, .int .i64 (kg : Int)), (132, .bool true)]) ⟨rfl, rfl, trivial⟩ ?_
      refine WL.skp rfl rfl ?_
      exact WL.nil (N.cut () ⟨rfl, trivial⟩ (Below.refl _ _))
     refine And.intro (fun β w hS => ?_) ?_
     ·
      refine WL.sub (σ' := [(132, .bool true), (134, undef), (135, undef)]) ⟨rfl, rfl, rfl, trivial⟩ ?_
      refine WL.skp rfl rfl ?_
      exact WL.nil (N.cut () ⟨rfl, trivial⟩ (Below.refl _ _))
     refine And.intro (fun β w hS => ?_) ?_
     ·
      refine WL.sub (σ' := [(132, .bool true), (136, undef)]) ⟨rfl, rfl, trivial⟩ ?_
      refine WL.skp rfl rfl ?_
      exact WL.nil (N.cut () ⟨rfl, trivial⟩ (Below.refl _ _))
     refine And.intro (fun β w hS => ?_) ?_
     ·
      refine WL.sub (σ' := [(132, .bool true), (137, undef)]) ⟨rfl, rfl, trivial⟩ ?_
      refine WL.skp rfl rfl ?_
      exact WL.nil (N.cut () ⟨rfl, trivial⟩ (Below.refl _ _))
     refine And.intro (fun β w hS => ?_) ?_
     ·
      refine WL.sub (σ' := [(132, .bool true), (138, undef)]) ⟨rfl, rfl, trivial⟩ ?_
      refine WL.skp rfl rfl ?_
      exact WL.nil (N.cut () ⟨rfl, trivial⟩ (Below.refl _ _))
     refine And.intro (fun β w hS => ?_) ?_
     ·
      refine WL.sub (σ' := [(129, .bool true), (132, .bool true), (139, undef)]) ⟨rfl, rfl, rfl, trivial⟩ ?_
      refine WL.pick (v := .bool true) rfl rfl rfl rfl rfl rfl ?_
      exact WL.nil (N.cut () ⟨rfl, trivial⟩ (Below.refl _ _))
     refine And.intro (fun β w hS => ?_) ?_
     ·
      refine WL.sub (σ' := [(106, .bool false), (129, .bool true), (140, .bool true)]) ⟨rfl, rfl, rfl, trivial⟩ ?_
      refine WL.pick (v := .bool true) rfl rfl rfl rfl rfl rfl ?_
      exact WL.nil (N.cut () ⟨rfl, trivial⟩ (Below.refl _ _))
     refine And.intro (fun β w hS => ?_) ?_
     ·
      refine WL.sub (σ' := [(106, .bool false), (141, .bool true)]) ⟨rfl, rfl, trivial⟩ ?_
      refine WL.pick (v := .bool true) rfl rfl rfl rfl rfl rfl ?_
      exact WL.nil (N.cut () ⟨rfl, trivial⟩ (Below.refl _ _))
     trivial
    clear hS; intro w45 β hS
    refine WL.sub (σ' := [(0, .slice adl ms.length capl), (3, .bool true), (4, .slice add ds.length capd), (5, .int .i64 ((all9 (items9 ms)).2)), (6, .int .i64 (k : Int)), (7, .pointer (some ⟨b8, 0, none⟩)), (8, .pointer (some ⟨b13, 0, none⟩)), (9, .bool false), (10, .int .i64 (kf : Int)), (11, .int .i64 (kg : Int)), (12, .bool true), (13, .tuple #[.slice add ds.length capd, .int .i64 ((all9 (items9 ms)).2)]), (14, .slice adl ms.length capl), (15, .tuple #[.slice add ds.length capd, .int .i64 ((all9 (items9 ms)).2)]), (16, .slice add ds.length capd), (17, .int .i64 ((all9 (items9 ms)).2)), (18, .int .i64 ((all9 (items9 ms)).2)), (19, .bool (!decide ((all9 (items9 ms)).2 = 0))), (21, .int .i64 (k : Int)), (22, .slice add ds.length capd), (23, .int .i64 (ds.length : Int)), (24, .bool (decide ((k : Int) < (ds.length : Int)))), (27, .slice add ds.length capd), (28, .int .i64 (k : Int)), (29, .pointer (some ⟨b7, o7 + k * 5, none⟩)), (30, .agg #[.string x7.name, .int .i64 x7.mod, .bool x7.fn, .bool x7.weak, .bool x7.here]), (31, .pointer (some ⟨b8, 4, none⟩)), (32, .bool x7.here), (33, .bool (!x7.here)), (37, .pointer (some ⟨b8, 1, none⟩)), (38, .int .i64 x7.mod), (39, .bool false), (40, .bool false), (41, .pointer (some ⟨b8, 1, none⟩)), (42, .int .i64 x7.mod), (43, .slice adl ms.length capl), (44, .int .i64 (ms.length : Int)), (45, .bool false), (46, .bool false), (47, .slice adl ms.length capl), (48, .pointer (some ⟨b8, 1, none⟩)), (49, .int .i64 (i : Int)), (50, .pointer (some ⟨b12, o12 + i * 2, none⟩)), (51, .agg #[.slice adf12 m.funcs.length capf12, .slice adg12 m.globs.length capg12]), (52, .int .i64 (kf : Int)), (53, .pointer (some ⟨b13, 0, none⟩)), (54, .slice adf12 m.funcs.length capf12), (55, .int .i64 (m.funcs.length : Int)), (56, .bool (decide ((kf : Int) < (m.funcs.length : Int)))), (98, .int .i64 (kg : Int)), (99, .pointer (some ⟨b13, 1, none⟩)), (100, .slice adg12 m.globs.length capg12), (101, .int .i64 (m.globs.length : Int)), (102, .bool (decide ((kg : Int) < (m.globs.length : Int)))), (105, .bool false), (106, .bool false), (107, .pointer (some ⟨b8, 2, none⟩)), (108, .bool x7.fn), (109, .bool true), (110, .bool true), (111, .pointer (some ⟨b13, 1, none⟩)), (112, .slice adg12 m.globs.length capg12), (113, .int .i64 (kg : Int)), (114, .pointer (some ⟨b38, o38 + kg * 4, none⟩)), (115, .pointer (some ⟨b38, o38 + kg * 4, none⟩)), (116, .string x38.name), (117, .pointer (some ⟨b8, 0, none⟩)), (118, .string x7.name), (119, .bool true), (120, .bool true), (121, .bool true), (122, .pointer (some ⟨b13, 1, none⟩)), (123, .slice adg12 m.globs.length capg12), (124, .int .i64 (kg : Int)), (125, .pointer (some ⟨b38, o38 + kg * 4, none⟩)), (126, .pointer (some ⟨b38, o38 + kg * 4 + 2, none⟩)), (127, .bool true), (128, .bool true), (129, .bool true), (130, .pointer (some ⟨b8, 3, none⟩)), (131, .bool true), (132, .bool true), (133, undef), (134, undef), (135, undef), (136, undef), (137, undef), (138, undef), (139, undef), (140, .bool true), (141, .bool true), (142, .bool true)]) (Sub.ofEq (by kernel_rfl)) ?_
    refine WL.assign rfl rfl rfl ?_
    refine WL.nil ?_
    refine N.blk ?_
    refine N.seq ?_
    refine W.region ?_
    refine WL.move rfl rfl rfl ?_
    refine WL.add (c := (kg : Int) + 1) rfl rfl rfl rfl (rfl) (by omega) ?_
    refine WL.assign rfl rfl rfl ?_
    refine WL.nil ?_
    have hb2 : (true : Bool) = (m.funcs.any (pF9 x7) || (m.globs.take (kg + 1)).any (pG9 x7)) := by rw [take_next hx38, List.any_append, ← Bool.or_assoc, ← hb]; simp [pG9, hc33p, hc33, hg34, hg35, hg39p, hg39, hg41, hg43] <;> (intros; first | omega | (apply List.eq_nil_of_length_eq_zero; omega))
    exact N.loop (kg + 1, true) ⟨rfl, rfl, rfl, rfl, rfl, rfl, rfl, rfl, rfl, rfl, rfl, rfl, rfl, rfl, rfl, rfl, rfl, rfl, rfl, rfl, rfl, rfl, rfl, rfl, rfl, rfl, rfl, rfl, rfl, rfl, rfl, rfl, rfl, rfl, rfl, rfl, rfl, rfl, rfl, rfl, rfl, rfl, rfl, rfl, rfl, rfl, rfl, rfl, rfl, trivial⟩ ⟨hS, by omega, hb2⟩ (by first | omega | (simp only; omega))
   refine W.set 9 (v' := .bool true) rfl (by rw [hg34]) ?_
   refine W.drawL (by kernel_rfl) 38 ((.q (.bool true)) :: (.q (.bool true)) :: (.q undef) :: (.q undef) :: (.q undef) :: (.q undef) :: (.q undef) :: (.q undef) :: (.q undef) :: (.q undef) :: (.q undef) :: (.q undef) :: (.q undef) :: (.q undef) :: (.q undef) :: (.q undef) :: (.q undef) :: (.q undef) :: (.q undef) :: (.q undef) :: (.q undef) :: (.q undef) :: (.q undef) :: (.q undef) :: (.q undef) :: (.q undef) :: (.q undef) :: (.q undef) :: (.q undef) :: (.q undef) :: (.q undef) :: (.q undef) :: (.q undef) :: (.q undef) :: (.q undef) :: (.q undef) :: (.q undef) :: (.q (.bool true)) :: []) (by kernel_rfl) (by kernel_rfl) [(0, .slice adl ms.length capl), (3, .bool true), (4, .slice add ds.length capd), (5, .int .i64 ((all9 (items9 ms)).2)), (6, .int .i64 (k : Int)), (7, .pointer (some ⟨b8, 0, none⟩)), (8, .pointer (some ⟨b13, 0, none⟩)), (9, .bool true), (10, .int .i64 (kf : Int)), (11, .int .i64 (kg : Int)), (12, .bool true), (13, .tuple #[.slice add ds.length capd, .int .i64 ((all9 (items9 ms)).2)]), (14, .slice adl ms.length capl), (15, .tuple #[.slice add ds.length capd, .int .i64 ((all9 (items9 ms)).2)]), (16, .slice add ds.length capd), (17, .int .i64 ((all9 (items9 ms)).2)), (18, .int .i64 ((all9 (items9 ms)).2)), (19, .bool (!decide ((all9 (items9 ms)).2 = 0))), (21, .int .i64 (k : Int)), (22, .slice add ds.length capd), (23, .int .i64 (ds.length : Int)), (24, .bool (decide ((k : Int) < (ds.length : Int)))), (27, .slice add ds.length capd), (28, .int .i64 (k : Int)), (29, .pointer (some ⟨b7, o7 + k * 5, none⟩)), (30, .agg #[.string x7.name, .int .i64 x7.mod, .bool x7.fn, .bool x7.weak, .bool x7.here]), (31, .pointer (some ⟨b8, 4, none⟩)), (32, .bool x7.here), (33, .bool (!x7.here)), (37, .pointer (some ⟨b8, 1, none⟩)), (38, .int .i64 x7.mod), (39, .bool false), (40, .bool false), (41, .pointer (some ⟨b8, 1, none⟩)), (42, .int .i64 x7.mod), (43, .slice adl ms.length capl), (44, .int .i64 (ms.length : Int)), (45, .bool false), (46, .bool false), (47, .slice adl ms.length capl), (48, .pointer (some ⟨b8, 1, none⟩)), (49, .int .i64 (i : Int)), (50, .pointer (some ⟨b12, o12 + i * 2, none⟩)), (51, .agg #[.slice adf12 m.funcs.length capf12, .slice adg12 m.globs.length capg12]), (52, .int .i64 (kf : Int)), (53, .pointer (some ⟨b13, 0, none⟩)), (54, .slice adf12 m.funcs.length capf12), (55, .int .i64 (m.funcs.length : Int)), (56, .bool (decide ((kf : Int) < (m.funcs.length : Int)))), (98, .int .i64 (kg : Int)), (99, .pointer (some ⟨b13, 1, none⟩)), (100, .slice adg12 m.globs.length capg12), (101, .int .i64 (m.globs.length : Int)), (102, .bool (decide ((kg : Int) < (m.globs.length : Int))))] ⟨rfl, rfl, rfl, rfl, rfl, rfl, rfl, rfl, rfl, rfl, rfl, rfl, rfl, rfl, rfl, rfl, rfl, rfl, rfl, rfl, rfl, rfl, rfl, rfl, rfl, rfl, rfl, rfl, rfl, rfl, rfl, rfl, rfl, rfl, rfl, rfl, rfl, rfl, rfl, rfl, rfl, rfl, rfl, rfl, rfl, rfl, rfl, rfl, rfl, rfl, rfl, rfl, rfl, rfl, trivial⟩ (by kernel_rfl) hS ?_ ?_
   ·
    refine And.intro (fun β w hS => ?_) ?_
    ·
     refine WL.sub (σ' := [(9, .bool true)]) ⟨rfl, trivial⟩ ?_
     refine WL.move rfl rfl rfl ?_
     exact WL.nil (N.cut () ⟨rfl, trivial⟩ (Below.refl _ _))
    refine And.intro (fun β w hS => ?_) ?_
    ·
     refine WL.sub (σ' := [(105, .bool true)]) ⟨rfl, trivial⟩ ?_
     refine WL.move rfl rfl rfl ?_
     exact WL.nil (N.cut () ⟨rfl, trivial⟩ (Below.refl _ _))
    refine And.intro (fun β w hS => ?_) ?_
    ·
     refine WL.sub (σ' := [(7, .pointer (some ⟨b8, 0, none⟩)), (106, .bool true)]) ⟨rfl, rfl, trivial⟩ ?_
     refine WL.skp rfl rfl ?_
     exact WL.nil (N.cut () ⟨rfl, trivial⟩ (Below.refl _ _))
    refine And.intro (fun β w hS => ?_) ?_
    ·
     refine WL.sub (σ' := [(106, .bool true), (107, undef)]) ⟨rfl, rfl, trivial⟩ ?_
     refine WL.skp rfl rfl ?_
     exact WL.nil (N.cut () ⟨rfl, trivial⟩ (Below.refl _ _))
    refine And.intro (fun β w hS => ?_) ?_
    ·
     refine WL.sub (σ' := [(106, .bool true), (108, undef)]) ⟨rfl, rfl, trivial⟩ ?_
     refine WL.skp rfl rfl ?_
     exact WL.nil (N.cut () ⟨rfl, trivial⟩ (Below.refl _ _))
    refine And.intro (fun β w hS => ?_) ?_
    ·
     refine WL.sub (σ' := [(106, .bool true), (109, undef)]) ⟨rfl, rfl, trivial⟩ ?_
     refine WL.skp rfl rfl ?_
     exact WL.nil (N.cut () ⟨rfl, trivial⟩ (Below.refl _ _))
    refine And.intro (fun β w hS => ?_) ?_
    ·
     refine WL.sub (σ' := [(8, .pointer (some ⟨b13, 0, none⟩)), (110, undef)]) ⟨rfl, rfl, trivial⟩ ?_
     refine WL.skp rfl rfl ?_
     exact WL.nil (N.cut () ⟨rfl, trivial⟩ (Below.refl _ _))
    refine And.intro (fun β w hS => ?_) ?_
    ·
     refine WL.sub (σ' := [(110, undef), (111, undef)]) ⟨rfl, rfl, trivial⟩ ?_
     refine WL.skp rfl rfl ?_
     exact WL.nil (N.cut () ⟨rfl, trivial⟩ (Below.refl _ _))
    refine And.intro (fun β w hS => ?_) ?_
    ·
     refine WL.sub (σ' := [(11, .int .i64 (kg : Int)), (110, undef)]) ⟨rfl, rfl, trivial⟩ ?_
     refine WL.skp rfl rfl ?_
     exact WL.nil (N.cut () ⟨rfl, trivial⟩ (Below.refl _ _))
    refine And.intro (fun β w hS => ?_) ?_
    ·
     refine WL.sub (σ' := [(110, undef), (112, undef), (113, undef)]) ⟨rfl, rfl, rfl, trivial⟩ ?_
     refine WL.skp rfl rfl ?_
     exact WL.nil (N.cut () ⟨rfl, trivial⟩ (Below.refl _ _))
    refine And.intro (fun β w hS => ?_) ?_
    ·
     refine WL.sub (σ' := [(110, undef), (114, undef)]) ⟨rfl, rfl, trivial⟩ ?_
     refine WL.skp rfl rfl ?_
     exact WL.nil (N.cut () ⟨rfl, trivial⟩ (Below.refl _ _))
    refine And.intro (fun β w hS => ?_) ?_
    ·
     refine WL.sub (σ' := [(110, undef), (115, undef)]) ⟨rfl, rfl, trivial⟩ ?_
     refine WL.skp rfl rfl ?_
     exact WL.nil (N.cut () ⟨rfl, trivial⟩ (Below.refl _ _))
    refine And.intro (fun β w hS => ?_) ?_
    ·
     refine WL.sub (σ' := [(7, .pointer (some ⟨b8, 0, none⟩)), (110, undef)]) ⟨rfl, rfl, trivial⟩ ?_
     refine WL.skp rfl rfl ?_
     exact WL.nil (N.cut () ⟨rfl, trivial⟩ (Below.refl _ _))
    refine And.intro (fun β w hS => ?_) ?_
    ·
     refine WL.sub (σ' := [(110, undef), (117, undef)]) ⟨rfl, rfl, trivial⟩ ?_
     refine WL.skp rfl rfl ?_
     exact WL.nil (N.cut () ⟨rfl, trivial⟩ (Below.refl _ _))
    refine And.intro (fun β w hS => ?_) ?_
    ·
     refine WL.sub (σ' := [(110, undef), (116, undef), (118, undef)]) ⟨rfl, rfl, rfl, trivial⟩ ?_
     refine WL.skp rfl rfl ?_
     exact WL.nil (N.cut () ⟨rfl, trivial⟩ (Below.refl _ _))
    refine And.intro (fun β w hS => ?_) ?_
    ·
     refine WL.sub (σ' := [(106, .bool true), (110, undef), (119, undef)]) ⟨rfl, rfl, rfl, trivial⟩ ?_
     refine WL.skp rfl rfl ?_
     exact WL.nil (N.cut () ⟨rfl, trivial⟩ (Below.refl _ _))
    refine And.intro (fun β w hS => ?_) ?_
    ·
     refine WL.sub (σ' := [(106, .bool true), (120, undef)]) ⟨rfl, rfl, trivial⟩ ?_
     refine WL.skp rfl rfl ?_
     exact WL.nil (N.cut () ⟨rfl, trivial⟩ (Below.refl _ _))
    refine And.intro (fun β w hS => ?_) ?_
    ·
     refine WL.sub (σ' := [(8, .pointer (some ⟨b13, 0, none⟩)), (121, undef)]) ⟨rfl, rfl, trivial⟩ ?_
     refine WL.skp rfl rfl ?_
     exact WL.nil (N.cut () ⟨rfl, trivial⟩ (Below.refl _ _))
    refine And.intro (fun β w hS => ?_) ?_
    ·
     refine WL.sub (σ' := [(121, undef), (122, undef)]) ⟨rfl, rfl, trivial⟩ ?_
     refine WL.skp rfl rfl ?_
     exact WL.nil (N.cut () ⟨rfl, trivial⟩ (Below.refl _ _))
    refine And.intro (fun β w hS => ?_) ?_
    ·
     refine WL.sub (σ' := [(11, .int .i64 (kg : Int)), (121, undef)]) ⟨rfl, rfl, trivial⟩ ?_
     refine WL.skp rfl rfl ?_
     exact WL.nil (N.cut () ⟨rfl, trivial⟩ (Below.refl _ _))
    refine And.intro (fun β w hS => ?_) ?_
    ·
     refine WL.sub (σ' := [(121, undef), (123, undef), (124, undef)]) ⟨rfl, rfl, rfl, trivial⟩ ?_
     refine WL.skp rfl rfl ?_
     exact WL.nil (N.cut () ⟨rfl, trivial⟩ (Below.refl _ _))
    refine And.intro (fun β w hS => ?_) ?_
    ·
     refine WL.sub (σ' := [(121, undef), (125, undef)]) ⟨rfl, rfl, trivial⟩ ?_
     refine WL.skp rfl rfl ?_
     exact WL.nil (N.cut () ⟨rfl, trivial⟩ (Below.refl _ _))
    refine And.intro (fun β w hS => ?_) ?_
    ·
     refine WL.sub (σ' := [(121, undef), (126, undef)]) ⟨rfl, rfl, trivial⟩ ?_
     refine WL.skp rfl rfl ?_
     exact WL.nil (N.cut () ⟨rfl, trivial⟩ (Below.refl _ _))
    refine And.intro (fun β w hS => ?_) ?_
    ·
     refine WL.sub (σ' := [(106, .bool true), (121, undef), (127, undef)]) ⟨rfl, rfl, rfl, trivial⟩ ?_
     refine WL.skp rfl rfl ?_
     exact WL.nil (N.cut () ⟨rfl, trivial⟩ (Below.refl _ _))
    refine And.intro (fun β w hS => ?_) ?_
    ·
     refine WL.sub (σ' := [(106, .bool true), (128, undef)]) ⟨rfl, rfl, trivial⟩ ?_
     refine WL.skp rfl rfl ?_
     exact WL.nil (N.cut () ⟨rfl, trivial⟩ (Below.refl _ _))
    refine And.intro (fun β w hS => ?_) ?_
    ·
     refine WL.sub (σ' := [(7, .pointer (some ⟨b8, 0, none⟩)), (129, undef)]) ⟨rfl, rfl, trivial⟩ ?_
     refine WL.skp rfl rfl ?_
     exact WL.nil (N.cut () ⟨rfl, trivial⟩ (Below.refl _ _))
    refine And.intro (fun β w hS => ?_) ?_
    ·
     refine WL.sub (σ' := [(129, undef), (130, undef)]) ⟨rfl, rfl, trivial⟩ ?_
     refine WL.skp rfl rfl ?_
     exact WL.nil (N.cut () ⟨rfl, trivial⟩ (Below.refl _ _))
    refine And.intro (fun β w hS => ?_) ?_
    ·
     refine WL.sub (σ' := [(129, undef), (131, undef)]) ⟨rfl, rfl, trivial⟩ ?_
     refine WL.skp rfl rfl ?_
     exact WL.nil (N.cut () ⟨rfl, trivial⟩ (Below.refl _ _))
    refine And.intro (fun β w hS => ?_) ?_
    ·
     refine WL.sub (σ' := [(8, .pointer (some ⟨b13, 0, none⟩)), (132, undef)]) ⟨rfl, rfl, trivial⟩ ?_
     refine WL.skp rfl rfl ?_
     exact WL.nil (N.cut () ⟨rfl, trivial⟩ (Below.refl _ _))
    refine And.intro (fun β w hS => ?_) ?_
    ·
     refine WL.sub (σ' := [(132, undef), (133, undef)]) ⟨rfl, rfl, trivial⟩ ?_
     refine WL.skp rfl rfl ?_
     exact WL.nil (N.cut () ⟨rfl, trivial⟩ (Below.refl _ _))
    refine And.intro (fun β w hS => ?_) ?_
    ·
     refine WL.sub (σ' := [(11, .int .i64 (kg : Int)), (132, undef)]) ⟨rfl, rfl, trivial⟩ ?_
     refine WL.skp rfl rfl ?_
     exact WL.nil (N.cut () ⟨rfl, trivial⟩ (Below.refl _ _))
    refine And.intro (fun β w hS => ?_) ?_
    ·
     refine WL.sub (σ' := [(132, undef), (134, undef), (135, undef)]) ⟨rfl, rfl, rfl, trivial⟩ ?_
     refine WL.skp rfl rfl ?_
     exact WL.nil (N.cut () ⟨rfl, trivial⟩ (Below.refl _ _))
    refine And.intro (fun β w hS => ?_) ?_
    ·
     refine WL.sub (σ' := [(132, undef), (136, undef)]) ⟨rfl, rfl, trivial⟩ ?_
     refine WL.skp rfl rfl ?_
     exact WL.nil (N.cut () ⟨rfl, trivial⟩ (Below.refl _ _))
    refine And.intro (fun β w hS => ?_) ?_
    ·
     refine WL.sub (σ' := [(132, undef), (137, undef)]) ⟨rfl, rfl, trivial⟩ ?_
     refine WL.skp rfl rfl ?_
     exact WL.nil (N.cut () ⟨rfl, trivial⟩ (Below.refl _ _))
    refine And.intro (fun β w hS => ?_) ?_
    ·
     refine WL.sub (σ' := [(132, undef), (138, undef)]) ⟨rfl, rfl, trivial⟩ ?_
     refine WL.skp rfl rfl ?_
     exact WL.nil (N.cut () ⟨rfl, trivial⟩ (Below.refl _ _))
    refine And.intro (fun β w hS => ?_) ?_
    ·
     refine WL.sub (σ' := [(129, undef), (132, undef), (139, undef)]) ⟨rfl, rfl, rfl, trivial⟩ ?_
     refine WL.skp rfl rfl ?_
     exact WL.nil (N.cut () ⟨rfl, trivial⟩ (Below.refl _ _))
    refine And.intro (fun β w hS => ?_) ?_
    ·
     refine WL.sub (σ' := [(106, .bool true), (129, undef), (140, undef)]) ⟨rfl, rfl, rfl, trivial⟩ ?_
     refine WL.skp rfl rfl ?_
     exact WL.nil (N.cut () ⟨rfl, trivial⟩ (Below.refl _ _))
    refine And.intro (fun β w hS => ?_) ?_
    ·
     refine WL.sub (σ' := [(106, .bool true), (141, undef)]) ⟨rfl, rfl, trivial⟩ ?_
     refine WL.pick (v := .bool true) rfl rfl rfl rfl rfl rfl ?_
     exact WL.nil (N.cut () ⟨rfl, trivial⟩ (Below.refl _ _))
    trivial
   clear hS; intro w46 β hS
   refine WL.sub (σ' := [(0, .slice adl ms.length capl), (3, .bool true), (4, .slice add ds.length capd), (5, .int .i64 ((all9 (items9 ms)).2)), (6, .int .i64 (k : Int)), (7, .pointer (some ⟨b8, 0, none⟩)), (8, .pointer (some ⟨b13, 0, none⟩)), (9, .bool true), (10, .int .i64 (kf : Int)), (11, .int .i64 (kg : Int)), (12, .bool true), (13, .tuple #[.slice add ds.length capd, .int .i64 ((all9 (items9 ms)).2)]), (14, .slice adl ms.length capl), (15, .tuple #[.slice add ds.length capd, .int .i64 ((all9 (items9 ms)).2)]), (16, .slice add ds.length capd), (17, .int .i64 ((all9 (items9 ms)).2)), (18, .int .i64 ((all9 (items9 ms)).2)), (19, .bool (!decide ((all9 (items9 ms)).2 = 0))), (21, .int .i64 (k : Int)), (22, .slice add ds.length capd), (23, .int .i64 (ds.length : Int)), (24, .bool (decide ((k : Int) < (ds.length : Int)))), (27, .slice add ds.length capd), (28, .int .i64 (k : Int)), (29, .pointer (some ⟨b7, o7 + k * 5, none⟩)), (30, .agg #[.string x7.name, .int .i64 x7.mod, .bool x7.fn, .bool x7.weak, .bool x7.here]), (31, .pointer (some ⟨b8, 4, none⟩)), (32, .bool x7.here), (33, .bool (!x7.here)), (37, .pointer (some ⟨b8, 1, none⟩)), (38, .int .i64 x7.mod), (39, .bool false), (40, .bool false), (41, .pointer (some ⟨b8, 1, none⟩)), (42, .int .i64 x7.mod), (43, .slice adl ms.length capl), (44, .int .i64 (ms.length : Int)), (45, .bool false), (46, .bool false), (47, .slice adl ms.length capl), (48, .pointer (some ⟨b8, 1, none⟩)), (49, .int .i64 (i : Int)), (50, .pointer (some ⟨b12, o12 + i * 2, none⟩)), (51, .agg #[.slice adf12 m.funcs.length capf12, .slice adg12 m.globs.length capg12]), (52, .int .i64 (kf : Int)), (53, .pointer (some ⟨b13, 0, none⟩)), (54, .slice adf12 m.funcs.length capf12), (55, .int .i64 (m.funcs.length : Int)), (56, .bool (decide ((kf : Int) < (m.funcs.length : Int)))), (98, .int .i64 (kg : Int)), (99, .pointer (some ⟨b13, 1, none⟩)), (100, .slice adg12 m.globs.length capg12), (101, .int .i64 (m.globs.length : Int)), (102, .bool (decide ((kg : Int) < (m.globs.length : Int)))), (105, .bool true), (106, .bool true), (107, undef), (108, undef), (109, undef), (110, undef), (111, undef), (112, undef), (113, undef), (114, undef), (115, undef), (116, undef), (117, undef), (118, undef), (119, undef), (120, undef), (121, undef), (122, undef), (123, undef), (124, undef), (125, undef), (126, undef), (127, undef), (128, undef), (129, undef), (130, undef), (131, undef), (132, undef), (133, undef), (134, undef), (135, undef), (136, undef), (137, undef), (138, undef), (139, undef), (140, undef), (141, undef), (142, .bool true)]) (Sub.ofEq (by kernel_rfl)) ?_
   refine WL.assign rfl rfl rfl ?_
   refine WL.nil ?_
   refine N.blk ?_
   refine N.seq ?_
   refine W.region ?_
   refine WL.move rfl rfl rfl ?_
   refine WL.add (c := (kg : Int) + 1) rfl rfl rfl rfl (rfl) (by omega) ?_
   refine WL.assign rfl rfl rfl ?_
   refine WL.nil ?_
   have hj47 : kg < m.globs.length := by omega
   obtain ⟨x47, hx47⟩ : ∃ zz, m.globs[kg]? = some zz := ⟨_, List.getElem?_eq_getElem hj47⟩
   obtain ⟨b47, o47, cs47, hE47, hr47, hl47, hc47, hQ47⟩ := hgs12d kg _ hx47
   obtain ⟨rfl, hgn47, hgb47, hgi47⟩ := hQ47
   have hb2 : (true : Bool) = (m.funcs.any (pF9 x7) || (m.globs.take (kg + 1)).any (pG9 x7)) := by rw [take_next hx47, List.any_append, ← Bool.or_assoc, ← hb]; simp [pG9, hc33p, hc33, hg34] <;> (intros; first | omega | (apply List.eq_nil_of_length_eq_zero; omega))
   exact N.loop (kg + 1, true) ⟨rfl, rfl, rfl, rfl, rfl, rfl, rfl, rfl, rfl, rfl, rfl, rfl, rfl, rfl, rfl, rfl, rfl, rfl, rfl, rfl, rfl, rfl, rfl, rfl, rfl, rfl, rfl, rfl, rfl, rfl, rfl, rfl, rfl, rfl, rfl, rfl, rfl, rfl, rfl, rfl, rfl, rfl, rfl, rfl, rfl, rfl, rfl, rfl, rfl, trivial⟩ ⟨hS, by omega, hb2⟩ (by first | omega | (simp only; omega))
  have hc33p : ¬ ((kg : Int) < (m.globs.length : Int)) := by simpa using hc33
  refine W.exit ?_
  refine X.seq ?_
  refine X.loop ?_
  refine X.blk ?_
  refine N.seq ?_
  refine W.seq ?_
  have hbt : bg = true := by rw [hb, show kg = m.globs.length by omega, List.take_length]; exact hT (by simpa using hc11)
  have hnb : (!bg) = false := by rw [hbt]; rfl
  refine W.region ?_
  refine WL.move rfl rfl rfl ?_
  refine WL.not rfl rfl rfl ?_
  refine WL.set 144 (v' := .bool false) rfl (by rw [hnb]) ?_
  refine WL.nil ?_
  refine N.seq ?_
  refine W.condF rfl ?_
  refine W.skip ?_
  refine N.blk ?_
  refine N.seq ?_
  refine W.region ?_
  refine WL.move rfl rfl rfl ?_
  refine WL.add (c := (k : Int) + 1) rfl rfl rfl rfl (rfl) (by omega) ?_
  refine WL.assign rfl rfl rfl ?_
  refine WL.nil ?_
  have hS := hS.dropN 2
  exact N.loop (k + 1) ⟨rfl, rfl, rfl, rfl, rfl, rfl, rfl, rfl, rfl, rfl, rfl, rfl, rfl, trivial⟩ ⟨hS, by omega⟩ (by first | omega | (simp only; omega))
 have hc6p : ¬ ((k : Int) < (ds.length : Int)) := by simpa using hc6
 refine W.exit ?_
 refine X.seq ?_
 refine X.loop ?_
 refine X.blk ?_
 refine N.seq ?_
 refine W.seq ?_
 refine W.region ?_
 refine WL.move rfl rfl rfl ?_
 refine WL.assign rfl rfl rfl ?_
 refine WL.nil ?_
 refine N.seq ?_
 refine Fin.ret1 rfl (v := .bool true) rfl ?_
 exact ⟨rfl, hS.below⟩

end Go.Proofs.Ytenldpbbelhomaa
