/-
  Contracts of layer 9 (resolve). No condition beyond those that each theorem states.
-/
import Derived.Test.YtenldpbbelhomaaN3
namespace Go.Proofs.Ytenldpbbelhomaa
open Go.RowKit
theorem isz_9 : (Try.prog.info? 9).map (·.size) = some 1 := by kernel_rfl
set_option maxRecDepth 10000 in
set_option maxHeartbeats 4000000 in
theorem resolveOne_ret (ms : List DMod) (vx : Value) {w : World} {ro : Nat → Prop} (hro : ∀ b, ro b → b < w.heap.size) (hx : SlV ro w 2 (ModC ro w) vx ms) (hmx : (items9 ms).length ≤ 1048576) : Ret Try.prog 6 #[vx] w fun v w' => v = .bool true ∧ Below w.heap.size w w' := by
 have hxo := hx
 obtain ⟨adl, capl, rfl, hla, hlb, hlc, hld⟩ := hxo
 have hlm : ms.length ≤ 9223372036854775807 := slv_len hx
 refine Ret.enter (P := Try.prog) (n := 79) (args := [.slice adl ms.length capl]) (σ := [(0, .slice adl ms.length capl)]) Try.func6 rfl rfl rfl rfl ?_
 have hS := St.start (ro := ro) hro
 have hsub : ∀ b, ro b → ro b ∨ w.heap.size ≤ b := fun _ h => .inl h
 have halT : Alike ro w ro w := Alike.refl
 refine W.seq ?_
 refine W.region ?_
 refine WL.assign rfl rfl rfl ?_
 refine WL.nil ?_
 refine N.seq ?_
 refine W.seq ?_
 refine W.region ?_
 refine WL.callF (vs := []) Try.func9 (by kernel_rfl) rfl rfl rfl (shown_ret) ?_
 rintro v w1 ⟨rfl, hbl⟩
 replace hS := hS.grow hbl
 refine WL.assign rfl rfl rfl ?_
 refine WL.nil ?_
 refine N.seq ?_
 refine W.seq ?_
 refine W.region ?_
 refine WL.move rfl rfl rfl ?_
 refine WL.callF (vs := [.slice adl ms.length capl]) Try.func10 (by kernel_rfl) rfl rfl rfl (all_ret ms _ (ro := ro) (fun b hb => (hS.snap b hb).1) (SlV.keep hx hS.alike (fun _ _ q => q.keep hS.alike)) hmx (items_ok hx)) ?_
 rintro v w2 ⟨sv, rfl, hdv, hbl⟩
 have hal3 := hS.alikeTo hbl (ro' := (roFrom ro w1 w2)) (fun b hb => .inl hb)
 replace hsub : ∀ b, (roFrom ro w1 w2) b → ro b ∨ w.heap.size ≤ b := fun b hb => hb.elim (hsub b) (fun h => .inr (Nat.le_trans hS.below.size h.1))
 replace halT := halT.trans hal3
 replace hld : Elems (roFrom ro w1 w2) w2 2 (ModC (roFrom ro w1 w2) w2) adl ms := hld.keep hal3 (fun _ _ h => h.keep hal3)
 replace hx : SlV (roFrom ro w1 w2) w2 2 (ModC (roFrom ro w1 w2) w2) (.slice adl ms.length capl) ms := SlV.keep hx hal3 (fun _ _ h => h.keep hal3)
 replace hS := hS.readNew hbl
 obtain ⟨ds, hds⟩ : ∃ ds, ds = (all9 (items9 ms)).1 := ⟨_, rfl⟩
 rw [← hds] at hdv
 obtain ⟨add, capd, rfl, hda, hdb, hdc, hdd⟩ := id hdv
 have hdm : ds.length ≤ 9223372036854775807 := by have h1 := hda; have h2 := hdb; unfold maxLen at h2; omega
 refine WL.move rfl rfl rfl ?_
 refine WL.extract (v := .slice add ds.length capd) rfl rfl rfl rfl ?_
 refine WL.extract (v := .int .i64 ((all9 (items9 ms)).2)) rfl rfl rfl rfl ?_
 refine WL.assign rfl rfl rfl ?_
 refine WL.assign rfl rfl rfl ?_
 refine WL.nil ?_
 refine N.seq ?_
 refine W.seq ?_
 refine W.region ?_
 refine WL.move rfl rfl rfl ?_
 refine WL.callF (vs := [.slice adl ms.length capl]) Try.func16 (by kernel_rfl) rfl rfl rfl (names_ret ms _ (ro := (roFrom ro w1 w2)) (fun b hb => (hS.snap b hb).1) (SlV.keep hx hS.alike (fun _ _ q => q.keep hS.alike)) hmx (fun x hx0 => (items_ok hx x hx0).1)) ?_
 rintro vn w4 ⟨hnv, hbl⟩
 have hal5 := hS.alikeTo hbl (ro' := (roFrom (roFrom ro w1 w2) w2 w4)) (fun b hb => .inl hb)
 replace hsub : ∀ b, (roFrom (roFrom ro w1 w2) w2 w4) b → ro b ∨ w.heap.size ≤ b := fun b hb => hb.elim (hsub b) (fun h => .inr (Nat.le_trans hS.below.size h.1))
 replace halT := halT.trans hal5
 replace hld : Elems (roFrom (roFrom ro w1 w2) w2 w4) w4 2 (ModC (roFrom (roFrom ro w1 w2) w2 w4) w4) adl ms := hld.keep hal5 (fun _ _ h => h.keep hal5)
 replace hx : SlV (roFrom (roFrom ro w1 w2) w2 w4) w4 2 (ModC (roFrom (roFrom ro w1 w2) w2 w4) w4) (.slice adl ms.length capl) ms := SlV.keep hx hal5 (fun _ _ h => h.keep hal5)
 replace hdd : Elems (roFrom (roFrom ro w1 w2) w2 w4) w4 5 DefC add ds := hdd.keep hal5 (fun _ _ h => h)
 replace hdv : SlV (roFrom (roFrom ro w1 w2) w2 w4) w4 5 DefC (.slice add ds.length capd) ds := SlV.keep hdv hal5 (fun _ _ h => h)
 replace hS := hS.readNew hbl
 replace hnv := SlV.keep hnv (ro' := (roFrom (roFrom ro w1 w2) w2 w4)) (w' := w4) (Q' := StrC) (fun x hx => ⟨.inr hx, rfl⟩) (fun _ _ h => h)
 obtain ⟨ns, hns⟩ : ∃ ns, ns = nms9 (items9 ms) := ⟨_, rfl⟩
 rw [← hns] at hnv
 obtain ⟨adn, capn, rfl, hna, hnb, hnc, hnd⟩ := id hnv
 have hnm : ns.length ≤ 9223372036854775807 := by have h1 := hna; have h2 := hnb; unfold maxLen at h2; omega
 refine WL.assign rfl rfl rfl ?_
 refine WL.nil ?_
 refine N.seq ?_
 refine W.seq ?_
 refine W.seq ?_
 refine W.region ?_
 refine WL.move rfl rfl rfl ?_
 refine WL.bin rfl rfl rfl rfl rfl ?_
 refine WL.nil ?_
 refine N.seq ?_
 refine W.cond rfl (fun hc6 => ?_) (fun hc6 => ?_)
 ·
  have hc6p : ¬ ((all9 (items9 ms)).2 = 0) := by simpa using hc6
  have hd0 : ds.length = 0 := by rw [hds, all9_bad (by simpa using hc6p)]; rfl
  refine W.seq ?_
  refine W.region ?_
  refine WL.move rfl rfl rfl ?_
  refine WL.move rfl rfl rfl ?_
  refine WL.move rfl rfl rfl ?_
  refine WL.lenSlice Try.underlying24 rfl rfl rfl ?_
  refine WL.bin rfl rfl rfl rfl rfl ?_
  refine WL.set 23 (v' := .bool true) rfl (congrArg Value.bool (show (decide ((ds.length : Int) = 0)) = true from decide_eq_true (by omega))) ?_
  refine WL.pick (v := .bool true) rfl rfl rfl rfl rfl rfl ?_
  refine WL.assign rfl rfl rfl ?_
  refine WL.nil ?_
  refine N.seq ?_
  refine Fin.ret1 rfl (v := .bool true) rfl ?_
  exact ⟨rfl, hS.below⟩
 have hc6p : (all9 (items9 ms)).2 = 0 := by simpa using hc6
 have hok : (all9 (items9 ms)).2 = 0 := by simpa using hc6p
 have hdn : ds.length = ns.length := by rw [hds, hns]; exact one9_len hok
 refine W.skip ?_
 refine N.seq ?_
 refine W.seq ?_
 refine W.seq ?_
 refine W.region ?_
 refine WL.move rfl rfl rfl ?_
 refine WL.lenSlice Try.underlying24 rfl rfl rfl ?_
 refine WL.move rfl rfl rfl ?_
 refine WL.lenSlice Try.underlying45 rfl rfl rfl ?_
 refine WL.bin rfl rfl rfl rfl rfl ?_
 refine WL.set 29 (v' := .bool false) rfl (by rw [decide_eq_true (by omega)]; rfl) ?_
 refine WL.nil ?_
 refine N.seq ?_
 refine W.condF rfl ?_
 refine W.skip ?_
 refine N.seq ?_
 refine W.seq ?_
 refine W.seq ?_
 refine W.region ?_
 refine WL.assign rfl rfl rfl ?_
 refine WL.nil ?_
 refine N.seq ?_
 refine W.block ?_
 have hndp : ns.Nodup := by rw [hns]; exact nodup_nms9 _
 refine W.loop (α := Nat) (fun (i : Nat) => [(0, .slice adl ms.length capl), (3, .bool true), (4, .slice add ds.length capd), (5, .int .i64 ((all9 (items9 ms)).2)), (6, .slice adn ns.length capn), (7, .int .i64 (i : Int)), (9, .bool true), (10, .tuple #[.slice add ds.length capd, .int .i64 ((all9 (items9 ms)).2)]), (11, .slice adl ms.length capl), (12, .tuple #[.slice add ds.length capd, .int .i64 ((all9 (items9 ms)).2)]), (13, .slice add ds.length capd), (14, .int .i64 ((all9 (items9 ms)).2)), (15, .slice adl ms.length capl), (16, .slice adn ns.length capn), (17, .int .i64 ((all9 (items9 ms)).2)), (18, .bool (!decide ((all9 (items9 ms)).2 = 0))), (25, .slice add ds.length capd), (26, .int .i64 (ds.length : Int)), (27, .slice adn ns.length capn), (28, .int .i64 (ns.length : Int)), (29, .bool false)]) (fun (i : Nat) u => St w w4 u (roFrom (roFrom ro w1 w2) w2 w4) [] [] ∧ i ≤ ns.length) (fun (i : Nat) => ns.length - i) 0 ⟨rfl, rfl, rfl, rfl, rfl, rfl, rfl, rfl, rfl, rfl, rfl, rfl, rfl, rfl, rfl, rfl, rfl, rfl, rfl, rfl, rfl, trivial⟩ ⟨hS, Nat.zero_le _⟩ ?_
 clear hS
 rintro i w7 ⟨hS, hi⟩
 refine W.seq ?_
 refine W.seq ?_
 refine W.region ?_
 refine WL.move rfl rfl rfl ?_
 refine WL.move rfl rfl rfl ?_
 refine WL.lenSlice Try.underlying45 rfl rfl rfl ?_
 refine WL.bin rfl rfl rfl rfl rfl ?_
 refine WL.nil ?_
 refine N.seq ?_
 refine W.cond rfl (fun hc8 => ?_) (fun hc8 => ?_)
 ·
  have hc8p : (i : Int) < (ns.length : Int) := by simpa using hc8
  refine W.skip ?_
  refine N.seq ?_
  refine W.seq ?_
  refine W.block ?_
  refine W.seq ?_
  refine W.seq ?_
  have hj9 : i < ds.length := by omega
  obtain ⟨x9, hx9⟩ : ∃ zz, ds[i]? = some zz := ⟨_, List.getElem?_eq_getElem hj9⟩
  obtain ⟨b9, o9, cs9, hE9, hr9, hl9, hc9, hQ9⟩ := hdd i _ hx9
  obtain ⟨rfl, hdn9, hdm9⟩ := hQ9
  have hj10 : i < ns.length := by omega
  obtain ⟨x10, hx10⟩ : ∃ zz, ns[i]? = some zz := ⟨_, List.getElem?_eq_getElem hj10⟩
  obtain ⟨b10, o10, cs10, hE10, hr10, hl10, hc10, hQ10⟩ := hnd i _ hx10
  obtain ⟨rfl, hsz10⟩ := hQ10
  have hnm : x9.name = x10 := one9_name hok (by rw [← hds]; exact hx9) (by rw [← hns]; exact hx10)
  obtain ⟨_, j, m, hmod, hmi, _⟩ := there9 hok (d := x9) (by rw [← hds]; exact List.mem_of_getElem? hx9)
  have hjl : j < ms.length := (List.getElem?_eq_some_iff.1 hmi).1
  refine W.drawL (by kernel_rfl) 28 ((.q (.slice add ds.length capd)) :: (.q (.int .i64 (i : Int))) :: (.q (.pointer (some ⟨b9, o9 + i * 5, none⟩))) :: (.q (.pointer (some ⟨b9, o9 + i * 5, none⟩))) :: (.q (.string x9.name)) :: (.q (.slice adn ns.length capn)) :: (.q (.int .i64 (i : Int))) :: (.q (.pointer (some ⟨b10, o10 + i * 1, none⟩))) :: (.q (.string x10)) :: (.q (.bool false)) :: (.q (.bool false)) :: (.q (.slice add ds.length capd)) :: (.q (.int .i64 (i : Int))) :: (.q (.pointer (some ⟨b9, o9 + i * 5, none⟩))) :: (.q (.pointer (some ⟨b9, o9 + i * 5 + 1, none⟩))) :: (.q (.int .i64 x9.mod)) :: (.q (.bool false)) :: (.q (.bool false)) :: (.q (.bool false)) :: (.q (.slice add ds.length capd)) :: (.q (.int .i64 (i : Int))) :: (.q (.pointer (some ⟨b9, o9 + i * 5, none⟩))) :: (.q (.pointer (some ⟨b9, o9 + i * 5 + 1, none⟩))) :: (.q (.int .i64 x9.mod)) :: (.q (.slice adl ms.length capl)) :: (.q (.int .i64 (ms.length : Int))) :: (.q (.bool false)) :: (.q (.bool false)) :: []) (by kernel_rfl) (by kernel_rfl) [(0, .slice adl ms.length capl), (3, .bool true), (4, .slice add ds.length capd), (5, .int .i64 ((all9 (items9 ms)).2)), (6, .slice adn ns.length capn), (7, .int .i64 (i : Int)), (9, .bool true), (10, .tuple #[.slice add ds.length capd, .int .i64 ((all9 (items9 ms)).2)]), (11, .slice adl ms.length capl), (12, .tuple #[.slice add ds.length capd, .int .i64 ((all9 (items9 ms)).2)]), (13, .slice add ds.length capd), (14, .int .i64 ((all9 (items9 ms)).2)), (15, .slice adl ms.length capl), (16, .slice adn ns.length capn), (17, .int .i64 ((all9 (items9 ms)).2)), (18, .bool (!decide ((all9 (items9 ms)).2 = 0))), (25, .slice add ds.length capd), (26, .int .i64 (ds.length : Int)), (27, .slice adn ns.length capn), (28, .int .i64 (ns.length : Int)), (29, .bool false), (30, .int .i64 (i : Int)), (31, .slice adn ns.length capn), (32, .int .i64 (ns.length : Int)), (33, .bool (decide ((i : Int) < (ns.length : Int))))] ⟨rfl, rfl, rfl, rfl, rfl, rfl, rfl, rfl, rfl, rfl, rfl, rfl, rfl, rfl, rfl, rfl, rfl, rfl, rfl, rfl, rfl, rfl, rfl, rfl, rfl, trivial⟩ (by kernel_rfl) hS ?_ ?_
  ·
   refine And.intro (fun β w hS => ?_) ?_
   ·
    refine WL.sub (σ' := [(4, .slice add ds.length capd)]) ⟨rfl, trivial⟩ ?_
    refine WL.move rfl rfl rfl ?_
    exact WL.nil (N.cut () ⟨rfl, trivial⟩ (Below.refl _ _))
   refine And.intro (fun β w hS => ?_) ?_
   ·
    refine WL.sub (σ' := [(7, .int .i64 (i : Int))]) ⟨rfl, trivial⟩ ?_
    refine WL.move rfl rfl rfl ?_
    exact WL.nil (N.cut () ⟨rfl, trivial⟩ (Below.refl _ _))
   refine And.intro (fun β w hS => ?_) ?_
   ·
    refine WL.sub (σ' := [(36, .slice add ds.length capd), (37, .int .i64 (i : Int))]) ⟨rfl, rfl, trivial⟩ ?_
    refine WL.indexAddrE (j := i) Try.underlying24 isz_29 rfl rfl rfl rfl hj9 hE9 ?_
    exact WL.nil (N.cut () ⟨rfl, trivial⟩ (Below.refl _ _))
   refine And.intro (fun β w hS => ?_) ?_
   ·
    refine WL.sub (σ' := [(38, .pointer (some ⟨b9, o9 + i * 5, none⟩))]) ⟨rfl, trivial⟩ ?_
    refine WL.fieldAddr fo_29_0 rfl rfl rfl ?_
    exact WL.nil (N.cut () ⟨rfl, trivial⟩ (Below.refl _ _))
   refine And.intro (fun β w hS => ?_) ?_
   ·
    refine WL.sub (σ' := [(39, .pointer (some ⟨b9, o9 + i * 5, none⟩))]) ⟨rfl, trivial⟩ ?_
    refine WL.load1 (v := .string x9.name) one_9 rfl rfl rfl (hS.roCells hr9 hc9 0 _ rfl) ?_
    exact WL.nil (N.cut () ⟨rfl, trivial⟩ (Below.refl _ _))
   refine And.intro (fun β w hS => ?_) ?_
   ·
    refine WL.sub (σ' := [(6, .slice adn ns.length capn)]) ⟨rfl, trivial⟩ ?_
    refine WL.move rfl rfl rfl ?_
    exact WL.nil (N.cut () ⟨rfl, trivial⟩ (Below.refl _ _))
   refine And.intro (fun β w hS => ?_) ?_
   ·
    refine WL.sub (σ' := [(7, .int .i64 (i : Int))]) ⟨rfl, trivial⟩ ?_
    refine WL.move rfl rfl rfl ?_
    exact WL.nil (N.cut () ⟨rfl, trivial⟩ (Below.refl _ _))
   refine And.intro (fun β w hS => ?_) ?_
   ·
    refine WL.sub (σ' := [(41, .slice adn ns.length capn), (42, .int .i64 (i : Int))]) ⟨rfl, rfl, trivial⟩ ?_
    refine WL.indexAddrE (j := i) Try.underlying45 isz_9 rfl rfl rfl rfl hj10 hE10 ?_
    exact WL.nil (N.cut () ⟨rfl, trivial⟩ (Below.refl _ _))
   refine And.intro (fun β w hS => ?_) ?_
   ·
    refine WL.sub (σ' := [(43, .pointer (some ⟨b10, o10 + i * 1, none⟩))]) ⟨rfl, trivial⟩ ?_
    refine WL.load1 (v := .string x10) one_9 rfl rfl rfl (hS.roCells hr10 hc10 0 _ rfl) ?_
    exact WL.nil (N.cut () ⟨rfl, trivial⟩ (Below.refl _ _))
   refine And.intro (fun β w hS => ?_) ?_
   ·
    refine WL.sub (σ' := [(40, .string x9.name), (44, .string x10)]) ⟨rfl, rfl, trivial⟩ ?_
    refine WL.neStr rfl rfl rfl rfl ?_
    refine WL.set 45 (v' := .bool false) rfl (by rw [decide_eq_true hnm]; rfl) ?_
    exact WL.nil (N.cut () ⟨rfl, trivial⟩ (Below.refl _ _))
   refine And.intro (fun β w hS => ?_) ?_
   ·
    refine WL.sub (σ' := [(45, .bool false)]) ⟨rfl, trivial⟩ ?_
    refine WL.move rfl rfl rfl ?_
    exact WL.nil (N.cut () ⟨rfl, trivial⟩ (Below.refl _ _))
   refine And.intro (fun β w hS => ?_) ?_
   ·
    refine WL.sub (σ' := [(4, .slice add ds.length capd), (46, .bool false)]) ⟨rfl, rfl, trivial⟩ ?_
    refine WL.move rfl rfl rfl ?_
    exact WL.nil (N.cut () ⟨rfl, trivial⟩ (Below.refl _ _))
   refine And.intro (fun β w hS => ?_) ?_
   ·
    refine WL.sub (σ' := [(7, .int .i64 (i : Int)), (46, .bool false)]) ⟨rfl, rfl, trivial⟩ ?_
    refine WL.move rfl rfl rfl ?_
    exact WL.nil (N.cut () ⟨rfl, trivial⟩ (Below.refl _ _))
   refine And.intro (fun β w hS => ?_) ?_
   ·
    refine WL.sub (σ' := [(46, .bool false), (47, .slice add ds.length capd), (48, .int .i64 (i : Int))]) ⟨rfl, rfl, rfl, trivial⟩ ?_
    refine WL.indexAddrE (j := i) Try.underlying24 isz_29 rfl rfl rfl rfl hj9 hE9 ?_
    exact WL.nil (N.cut () ⟨rfl, trivial⟩ (Below.refl _ _))
   refine And.intro (fun β w hS => ?_) ?_
   ·
    refine WL.sub (σ' := [(46, .bool false), (49, .pointer (some ⟨b9, o9 + i * 5, none⟩))]) ⟨rfl, rfl, trivial⟩ ?_
    refine WL.fieldAddr fo_29_1 rfl rfl rfl ?_
    exact WL.nil (N.cut () ⟨rfl, trivial⟩ (Below.refl _ _))
   refine And.intro (fun β w hS => ?_) ?_
   ·
    refine WL.sub (σ' := [(46, .bool false), (50, .pointer (some ⟨b9, o9 + i * 5 + 1, none⟩))]) ⟨rfl, rfl, trivial⟩ ?_
    refine WL.load1 (v := .int .i64 x9.mod) one_3 rfl rfl rfl (hS.roCells hr9 hc9 1 _ rfl) ?_
    exact WL.nil (N.cut () ⟨rfl, trivial⟩ (Below.refl _ _))
   refine And.intro (fun β w hS => ?_) ?_
   ·
    refine WL.sub (σ' := [(46, .bool false), (51, .int .i64 x9.mod)]) ⟨rfl, rfl, trivial⟩ ?_
    refine WL.bin rfl rfl rfl rfl rfl ?_
    refine WL.set 52 (v' := .bool false) rfl (congrArg Value.bool (show (decide (x9.mod < 0)) = false from decide_eq_false (by omega))) ?_
    exact WL.nil (N.cut () ⟨rfl, trivial⟩ (Below.refl _ _))
   refine And.intro (fun β w hS => ?_) ?_
   ·
    refine WL.sub (σ' := [(46, .bool false), (52, .bool false)]) ⟨rfl, rfl, trivial⟩ ?_
    refine WL.pick (v := .bool false) rfl rfl rfl rfl rfl rfl ?_
    exact WL.nil (N.cut () ⟨rfl, trivial⟩ (Below.refl _ _))
   refine And.intro (fun β w hS => ?_) ?_
   ·
    refine WL.sub (σ' := [(53, .bool false)]) ⟨rfl, trivial⟩ ?_
    refine WL.move rfl rfl rfl ?_
    exact WL.nil (N.cut () ⟨rfl, trivial⟩ (Below.refl _ _))
   refine And.intro (fun β w hS => ?_) ?_
   ·
    refine WL.sub (σ' := [(4, .slice add ds.length capd), (54, .bool false)]) ⟨rfl, rfl, trivial⟩ ?_
    refine WL.move rfl rfl rfl ?_
    exact WL.nil (N.cut () ⟨rfl, trivial⟩ (Below.refl _ _))
   refine And.intro (fun β w hS => ?_) ?_
   ·
    refine WL.sub (σ' := [(7, .int .i64 (i : Int)), (54, .bool false)]) ⟨rfl, rfl, trivial⟩ ?_
    refine WL.move rfl rfl rfl ?_
    exact WL.nil (N.cut () ⟨rfl, trivial⟩ (Below.refl _ _))
   refine And.intro (fun β w hS => ?_) ?_
   ·
    refine WL.sub (σ' := [(54, .bool false), (55, .slice add ds.length capd), (56, .int .i64 (i : Int))]) ⟨rfl, rfl, rfl, trivial⟩ ?_
    refine WL.indexAddrE (j := i) Try.underlying24 isz_29 rfl rfl rfl rfl hj9 hE9 ?_
    exact WL.nil (N.cut () ⟨rfl, trivial⟩ (Below.refl _ _))
   refine And.intro (fun β w hS => ?_) ?_
   ·
    refine WL.sub (σ' := [(54, .bool false), (57, .pointer (some ⟨b9, o9 + i * 5, none⟩))]) ⟨rfl, rfl, trivial⟩ ?_
    refine WL.fieldAddr fo_29_1 rfl rfl rfl ?_
    exact WL.nil (N.cut () ⟨rfl, trivial⟩ (Below.refl _ _))
   refine And.intro (fun β w hS => ?_) ?_
   ·
    refine WL.sub (σ' := [(54, .bool false), (58, .pointer (some ⟨b9, o9 + i * 5 + 1, none⟩))]) ⟨rfl, rfl, trivial⟩ ?_
    refine WL.load1 (v := .int .i64 x9.mod) one_3 rfl rfl rfl (hS.roCells hr9 hc9 1 _ rfl) ?_
    exact WL.nil (N.cut () ⟨rfl, trivial⟩ (Below.refl _ _))
   refine And.intro (fun β w hS => ?_) ?_
   ·
    refine WL.sub (σ' := [(0, .slice adl ms.length capl), (54, .bool false)]) ⟨rfl, rfl, trivial⟩ ?_
    refine WL.move rfl rfl rfl ?_
    exact WL.nil (N.cut () ⟨rfl, trivial⟩ (Below.refl _ _))
   refine And.intro (fun β w hS => ?_) ?_
   ·
    refine WL.sub (σ' := [(54, .bool false), (60, .slice adl ms.length capl)]) ⟨rfl, rfl, trivial⟩ ?_
    refine WL.lenSlice Try.underlying22 rfl rfl rfl ?_
    exact WL.nil (N.cut () ⟨rfl, trivial⟩ (Below.refl _ _))
   refine And.intro (fun β w hS => ?_) ?_
   ·
    refine WL.sub (σ' := [(54, .bool false), (59, .int .i64 x9.mod), (61, .int .i64 (ms.length : Int))]) ⟨rfl, rfl, rfl, trivial⟩ ?_
    refine WL.bin rfl rfl rfl rfl rfl ?_
    refine WL.set 62 (v' := .bool false) rfl (congrArg Value.bool (show (decide ((ms.length : Int) ≤ x9.mod)) = false from decide_eq_false (by omega))) ?_
    exact WL.nil (N.cut () ⟨rfl, trivial⟩ (Below.refl _ _))
   refine And.intro (fun β w hS => ?_) ?_
   ·
    refine WL.sub (σ' := [(54, .bool false), (62, .bool false)]) ⟨rfl, rfl, trivial⟩ ?_
    refine WL.pick (v := .bool false) rfl rfl rfl rfl rfl rfl ?_
    exact WL.nil (N.cut () ⟨rfl, trivial⟩ (Below.refl _ _))
   trivial
  clear hS; intro w11 β hS
  refine WL.sub (σ' := [(0, .slice adl ms.length capl), (3, .bool true), (4, .slice add ds.length capd), (5, .int .i64 ((all9 (items9 ms)).2)), (6, .slice adn ns.length capn), (7, .int .i64 (i : Int)), (9, .bool true), (10, .tuple #[.slice add ds.length capd, .int .i64 ((all9 (items9 ms)).2)]), (11, .slice adl ms.length capl), (12, .tuple #[.slice add ds.length capd, .int .i64 ((all9 (items9 ms)).2)]), (13, .slice add ds.length capd), (14, .int .i64 ((all9 (items9 ms)).2)), (15, .slice adl ms.length capl), (16, .slice adn ns.length capn), (17, .int .i64 ((all9 (items9 ms)).2)), (18, .bool (!decide ((all9 (items9 ms)).2 = 0))), (25, .slice add ds.length capd), (26, .int .i64 (ds.length : Int)), (27, .slice adn ns.length capn), (28, .int .i64 (ns.length : Int)), (29, .bool false), (30, .int .i64 (i : Int)), (31, .slice adn ns.length capn), (32, .int .i64 (ns.length : Int)), (33, .bool (decide ((i : Int) < (ns.length : Int)))), (36, .slice add ds.length capd), (37, .int .i64 (i : Int)), (38, .pointer (some ⟨b9, o9 + i * 5, none⟩)), (39, .pointer (some ⟨b9, o9 + i * 5, none⟩)), (40, .string x9.name), (41, .slice adn ns.length capn), (42, .int .i64 (i : Int)), (43, .pointer (some ⟨b10, o10 + i * 1, none⟩)), (44, .string x10), (45, .bool false), (46, .bool false), (47, .slice add ds.length capd), (48, .int .i64 (i : Int)), (49, .pointer (some ⟨b9, o9 + i * 5, none⟩)), (50, .pointer (some ⟨b9, o9 + i * 5 + 1, none⟩)), (51, .int .i64 x9.mod), (52, .bool false), (53, .bool false), (54, .bool false), (55, .slice add ds.length capd), (56, .int .i64 (i : Int)), (57, .pointer (some ⟨b9, o9 + i * 5, none⟩)), (58, .pointer (some ⟨b9, o9 + i * 5 + 1, none⟩)), (59, .int .i64 x9.mod), (60, .slice adl ms.length capl), (61, .int .i64 (ms.length : Int)), (62, .bool false), (63, .bool false)]) (Sub.ofEq (by kernel_rfl)) ?_
  refine WL.nil ?_
  refine N.seq ?_
  refine W.condF rfl ?_
  refine W.skip ?_
  refine N.seq ?_
  refine W.seq ?_
  refine W.region ?_
  refine WL.assign rfl rfl rfl ?_
  refine WL.nil ?_
  refine N.seq ?_
  refine W.block ?_
  refine W.loop (α := Nat) (fun (k : Nat) => [(0, .slice adl ms.length capl), (3, .bool true), (4, .slice add ds.length capd), (5, .int .i64 ((all9 (items9 ms)).2)), (6, .slice adn ns.length capn), (7, .int .i64 (i : Int)), (8, .int .i64 (k : Int)), (9, .bool true), (10, .tuple #[.slice add ds.length capd, .int .i64 ((all9 (items9 ms)).2)]), (11, .slice adl ms.length capl), (12, .tuple #[.slice add ds.length capd, .int .i64 ((all9 (items9 ms)).2)]), (13, .slice add ds.length capd), (14, .int .i64 ((all9 (items9 ms)).2)), (15, .slice adl ms.length capl), (16, .slice adn ns.length capn), (17, .int .i64 ((all9 (items9 ms)).2)), (18, .bool (!decide ((all9 (items9 ms)).2 = 0))), (25, .slice add ds.length capd), (26, .int .i64 (ds.length : Int)), (27, .slice adn ns.length capn), (28, .int .i64 (ns.length : Int)), (29, .bool false), (30, .int .i64 (i : Int)), (31, .slice adn ns.length capn), (32, .int .i64 (ns.length : Int)), (33, .bool (decide ((i : Int) < (ns.length : Int)))), (36, .slice add ds.length capd), (37, .int .i64 (i : Int)), (38, .pointer (some ⟨b9, o9 + i * 5, none⟩)), (39, .pointer (some ⟨b9, o9 + i * 5, none⟩)), (40, .string x9.name), (41, .slice adn ns.length capn), (42, .int .i64 (i : Int)), (43, .pointer (some ⟨b10, o10 + i * 1, none⟩)), (44, .string x10), (45, .bool false), (46, .bool false), (47, .slice add ds.length capd), (48, .int .i64 (i : Int)), (49, .pointer (some ⟨b9, o9 + i * 5, none⟩)), (50, .pointer (some ⟨b9, o9 + i * 5 + 1, none⟩)), (51, .int .i64 x9.mod), (52, .bool false), (53, .bool false), (54, .bool false), (55, .slice add ds.length capd), (56, .int .i64 (i : Int)), (57, .pointer (some ⟨b9, o9 + i * 5, none⟩)), (58, .pointer (some ⟨b9, o9 + i * 5 + 1, none⟩)), (59, .int .i64 x9.mod), (60, .slice adl ms.length capl), (61, .int .i64 (ms.length : Int)), (62, .bool false), (63, .bool false)]) (fun (k : Nat) u => St w w4 u (roFrom (roFrom ro w1 w2) w2 w4) [] [] ∧ k ≤ i) (fun (k : Nat) => i - k) 0 ⟨rfl, rfl, rfl, rfl, rfl, rfl, rfl, rfl, rfl, rfl, rfl, rfl, rfl, rfl, rfl, rfl, rfl, rfl, rfl, rfl, rfl, rfl, rfl, rfl, rfl, rfl, rfl, rfl, rfl, rfl, rfl, rfl, rfl, rfl, rfl, rfl, rfl, rfl, rfl, rfl, rfl, rfl, rfl, rfl, rfl, rfl, rfl, rfl, rfl, rfl, rfl, rfl, rfl, rfl, trivial⟩ ⟨hS, Nat.zero_le _⟩ ?_
  clear hS
  rintro k w12 ⟨hS, hk⟩
  refine W.seq ?_
  refine W.seq ?_
  refine W.region ?_
  refine WL.move rfl rfl rfl ?_
  refine WL.move rfl rfl rfl ?_
  refine WL.bin rfl rfl rfl rfl rfl ?_
  refine WL.nil ?_
  refine N.seq ?_
  refine W.cond rfl (fun hc13 => ?_) (fun hc13 => ?_)
  ·
   have hc13p : (k : Int) < (i : Int) := by simpa using hc13
   refine W.skip ?_
   refine N.seq ?_
   refine W.seq ?_
   refine W.block ?_
   refine W.seq ?_
   have hj14 : k < ns.length := by omega
   obtain ⟨x14, hx14⟩ : ∃ zz, ns[k]? = some zz := ⟨_, List.getElem?_eq_getElem hj14⟩
   obtain ⟨b14, o14, cs14, hE14, hr14, hl14, hc14, hQ14⟩ := hnd k _ hx14
   obtain ⟨rfl, hsz14⟩ := hQ14
   refine W.drawL (by kernel_rfl) 9 ((.q (.slice adn ns.length capn)) :: (.q (.int .i64 (k : Int))) :: (.q (.pointer (some ⟨b14, o14 + k * 1, none⟩))) :: (.q (.string x14)) :: (.q (.slice adn ns.length capn)) :: (.q (.int .i64 (i : Int))) :: (.q (.pointer (some ⟨b10, o10 + i * 1, none⟩))) :: (.q (.string x10)) :: (.q (.bool false)) :: []) (by kernel_rfl) (by kernel_rfl) [(0, .slice adl ms.length capl), (3, .bool true), (4, .slice add ds.length capd), (5, .int .i64 ((all9 (items9 ms)).2)), (6, .slice adn ns.length capn), (7, .int .i64 (i : Int)), (8, .int .i64 (k : Int)), (9, .bool true), (10, .tuple #[.slice add ds.length capd, .int .i64 ((all9 (items9 ms)).2)]), (11, .slice adl ms.length capl), (12, .tuple #[.slice add ds.length capd, .int .i64 ((all9 (items9 ms)).2)]), (13, .slice add ds.length capd), (14, .int .i64 ((all9 (items9 ms)).2)), (15, .slice adl ms.length capl), (16, .slice adn ns.length capn), (17, .int .i64 ((all9 (items9 ms)).2)), (18, .bool (!decide ((all9 (items9 ms)).2 = 0))), (25, .slice add ds.length capd), (26, .int .i64 (ds.length : Int)), (27, .slice adn ns.length capn), (28, .int .i64 (ns.length : Int)), (29, .bool false), (30, .int .i64 (i : Int)), (31, .slice adn ns.length capn), (32, .int .i64 (ns.length : Int)), (33, .bool (decide ((i : Int) < (ns.length : Int)))), (36, .slice add ds.length capd), (37, .int .i64 (i : Int)), (38, .pointer (some ⟨b9, o9 + i * 5, none⟩)), (39, .pointer (some ⟨b9, o9 + i * 5, none⟩)), (40, .string x9.name), (41, .slice adn ns.length capn), (42, .int .i64 (i : Int)), (43, .pointer (some ⟨b10, o10 + i * 1, none⟩)), (44, .string x10), (45, .bool false), (46, .bool false), (47, .slice add ds.length capd), (48, .int .i64 (i : Int)), (49, .pointer (some ⟨b9, o9 + i * 5, none⟩)), (50, .pointer (some ⟨b9, o9 + i * 5 + 1, none⟩)), (51, .int .i64 x9.mod), (52, .bool false), (53, .bool false), (54, .bool false), (55, .slice add ds.length capd), (56, .int .i64 (i : Int)), (57, .pointer (some ⟨b9, o9 + i * 5, none⟩)), (58, .pointer (some ⟨b9, o9 + i * 5 + 1, none⟩)), (59, .int .i64 x9.mod), (60, .slice adl ms.length capl), (61, .int .i64 (ms.length : Int)), (62, .bool false), (63, .bool false), (64, .int .i64 (k : Int)), (65, .int .i64 (i : Int)), (66, .bool (decide ((k : Int) < (i : Int))))] ⟨rfl, rfl, rfl, rfl, rfl, rfl, rfl, rfl, rfl, rfl, rfl, rfl, rfl, rfl, rfl, rfl, rfl, rfl, rfl, rfl, rfl, rfl, rfl, rfl, rfl, rfl, rfl, rfl, rfl, rfl, rfl, rfl, rfl, rfl, rfl, rfl, rfl, rfl, rfl, rfl, rfl, rfl, rfl, rfl, rfl, rfl, rfl, rfl, rfl, rfl, rfl, rfl, rfl, rfl, rfl, rfl, rfl, trivial⟩ (by kernel_rfl) hS ?_ ?_
   ·
    refine And.intro (fun β w hS => ?_) ?_
    ·
     refine WL.sub (σ' := [(6, .slice adn ns.length capn)]) ⟨rfl, trivial⟩ ?_
     refine WL.move rfl rfl rfl ?_
     exact WL.nil (N.cut () ⟨rfl, trivial⟩ (Below.refl _ _))
    refine And.intro (fun β w hS => ?_) ?_
    ·
     refine WL.sub (σ' := [(8, .int .i64 (k : Int))]) ⟨rfl, trivial⟩ ?_
     refine WL.move rfl rfl rfl ?_
     exact WL.nil (N.cut () ⟨rfl, trivial⟩ (Below.refl _ _))
    refine And.intro (fun β w hS => ?_) ?_
    ·
     refine WL.sub (σ' := [(69, .slice adn ns.length capn), (70, .int .i64 (k : Int))]) ⟨rfl, rfl, trivial⟩ ?_
     refine WL.indexAddrE (j := k) Try.underlying45 isz_9 rfl rfl rfl rfl hj14 hE14 ?_
     exact WL.nil (N.cut () ⟨rfl, trivial⟩ (Below.refl _ _))
    refine And.intro (fun β w hS => ?_) ?_
    ·
     refine WL.sub (σ' := [(71, .pointer (some ⟨b14, o14 + k * 1, none⟩))]) ⟨rfl, trivial⟩ ?_
     refine WL.load1 (v := .string x14) one_9 rfl rfl rfl (hS.roCells hr14 hc14 0 _ rfl) ?_
     exact WL.nil (N.cut () ⟨rfl, trivial⟩ (Below.refl _ _))
    refine And.intro (fun β w hS => ?_) ?_
    ·
     refine WL.sub (σ' := [(6, .slice adn ns.length capn)]) ⟨rfl, trivial⟩ ?_
     refine WL.move rfl rfl rfl ?_
     exact WL.nil (N.cut () ⟨rfl, trivial⟩ (Below.refl _ _))
    refine And.intro (fun β w hS => ?_) ?_
    ·
     refine WL.sub (σ' := [(7, .int .i64 (i : Int))]) ⟨rfl, trivial⟩ ?_
     refine WL.move rfl rfl rfl ?_
     exact WL.nil (N.cut () ⟨rfl, trivial⟩ (Below.refl _ _))
    refine And.intro (fun β w hS => ?_) ?_
    ·
     refine WL.sub (σ' := [(73, .slice adn ns.length capn), (74, .int .i64 (i : Int))]) ⟨rfl, rfl, trivial⟩ ?_
     refine WL.indexAddrE (j := i) Try.underlying45 isz_9 rfl rfl rfl rfl hj10 hE10 ?_
     exact WL.nil (N.cut () ⟨rfl, trivial⟩ (Below.refl _ _))
    refine And.intro (fun β w hS => ?_) ?_
    ·
     refine WL.sub (σ' := [(75, .pointer (some ⟨b10, o10 + i * 1, none⟩))]) ⟨rfl, trivial⟩ ?_
     refine WL.load1 (v := .string x10) one_9 rfl rfl rfl (hS.roCells hr10 hc10 0 _ rfl) ?_
     exact WL.nil (N.cut () ⟨rfl, trivial⟩ (Below.refl _ _))
    refine And.intro (fun β w hS => ?_) ?_
    ·
     refine WL.sub (σ' := [(72, .string x14), (76, .string x10)]) ⟨rfl, rfl, trivial⟩ ?_
     refine WL.eqStr rfl rfl rfl rfl ?_
     refine WL.set 77 (v' := .bool false) rfl (congrArg Value.bool (show (decide (x14 = x10)) = false from decide_eq_false (nodup_ne hndp hx14 hx10 (by omega)))) ?_
     exact WL.nil (N.cut () ⟨rfl, trivial⟩ (Below.refl _ _))
    trivial
   clear hS; intro w15 β hS
   refine WL.sub (σ' := [(0, .slice adl ms.length capl), (3, .bool true), (4, .slice add ds.length capd), (5, .int .i64 ((all9 (items9 ms)).2)), (6, .slice adn ns.length capn), (7, .int .i64 (i : Int)), (8, .int .i64 (k : Int)), (9, .bool true), (10, .tuple #[.slice add ds.length capd, .int .i64 ((all9 (items9 ms)).2)]), (11, .slice adl ms.length capl), (12, .tuple #[.slice add ds.length capd, .int .i64 ((all9 (items9 ms)).2)]), (13, .slice add ds.length capd), (14, .int .i64 ((all9 (items9 ms)).2)), (15, .slice adl ms.length capl), (16, .slice adn ns.length capn), (17, .int .i64 ((all9 (items9 ms)).2)), (18, .bool (!decide ((all9 (items9 ms)).2 = 0))), (25, .slice add ds.length capd), (26, .int .i64 (ds.length : Int)), (27, .slice adn ns.length capn), (28, .int .i64 (ns.length : Int)), (29, .bool false), (30, .int .i64 (i : Int)), (31, .slice adn ns.length capn), (32, .int .i64 (ns.length : Int)), (33, .bool (decide ((i : Int) < (ns.length : Int)))), (36, .slice add ds.length capd), (37, .int .i64 (i : Int)), (38, .pointer (some ⟨b9, o9 + i * 5, none⟩)), (39, .pointer (some ⟨b9, o9 + i * 5, none⟩)), (40, .string x9.name), (41, .slice adn ns.length capn), (42, .int .i64 (i : Int)), (43, .pointer (some ⟨b10, o10 + i * 1, none⟩)), (44, .string x10), (45, .bool false), (46, .bool false), (47, .slice add ds.length capd), (48, .int .i64 (i : Int)), (49, .pointer (some ⟨b9, o9 + i * 5, none⟩)), (50, .pointer (some ⟨b9, o9 + i * 5 + 1, none⟩)), (51, .int .i64 x9.mod), (52, .bool false), (53, .bool false), (54, .bool false), (55, .slice add ds.length capd), (56, .int .i64 (i : Int)), (57, .pointer (some ⟨b9, o9 + i * 5, none⟩)), (58, .pointer (some ⟨b9, o9 + i * 5 + 1, none⟩)), (59, .int .i64 x9.mod), (60, .slice adl ms.length capl), (61, .int .i64 (ms.length : Int)), (62, .bool false), (63, .bool false), (64, .int .i64 (k : Int)), (65, .int .i64 (i : Int)), (66, .bool (decide ((k : Int) < (i : Int)))), (69, .slice adn ns.length capn), (70, .int .i64 (k : Int)), (71, .pointer (some ⟨b14, o14 + k * 1, none⟩)), (72, .string x14), (73, .slice adn ns.length capn), (74, .int .i64 (i : Int)), (75, .pointer (some ⟨b10, o10 + i * 1, none⟩)), (76, .string x10), (77, .bool false)]) (Sub.ofEq (by kernel_rfl)) ?_
   refine WL.nil ?_
   refine N.seq ?_
   refine W.condF rfl ?_
   refine W.skip ?_
   refine N.blk ?_
   refine N.seq ?_
   refine W.region ?_
   refine WL.move rfl rfl rfl ?_
   refine WL.add (c := (k : Int) + 1) rfl rfl rfl rfl (rfl) (by omega) ?_
   refine WL.assign rfl rfl rfl ?_
   refine WL.nil ?_
   exact N.loop (k + 1) ⟨rfl, rfl, rfl, rfl, rfl, rfl, rfl, rfl, rfl, rfl, rfl, rfl, rfl, rfl, rfl, rfl, rfl, rfl, rfl, rfl, rfl, rfl, rfl, rfl, rfl, rfl, rfl, rfl, rfl, rfl, rfl, rfl, rfl, rfl, rfl, rfl, rfl, rfl, rfl, rfl, rfl, rfl, rfl, rfl, rfl, rfl, rfl, rfl, rfl, rfl, rfl, rfl, rfl, rfl, trivial⟩ ⟨hS, by omega⟩ (by first | omega | (simp only; omega))
  have hc13p : ¬ ((k : Int) < (i : Int)) := by simpa using hc13
  refine W.exit ?_
  refine X.seq ?_
  refine X.loop ?_
  refine X.blk ?_
  refine N.blk ?_
  refine N.seq ?_
  refine W.region ?_
  refine WL.move rfl rfl rfl ?_
  refine WL.add (c := (i : Int) + 1) rfl rfl rfl rfl (rfl) (by omega) ?_
  refine WL.assign rfl rfl rfl ?_
  refine WL.nil ?_
  exact N.loop (i + 1) ⟨rfl, rfl, rfl, rfl, rfl, rfl, rfl, rfl, rfl, rfl, rfl, rfl, rfl, rfl, rfl, rfl, rfl, rfl, rfl, rfl, rfl, trivial⟩ ⟨hS, by omega⟩ (by first | omega | (simp only; omega))
 have hc8p : ¬ ((i : Int) < (ns.length : Int)) := by simpa using hc8
 refine W.exit ?_
 refine X.seq ?_
 refine X.loop ?_
 refine X.blk ?_
 refine N.seq ?_
 refine W.seq ?_
 refine W.region ?_
 refine WL.move rfl rfl rfl ?_
 refine WL.assign rfl rfl rfl ?_
 refine WL.nil ?_
 refine N.seq ?_
 refine Fin.ret1 rfl (v := .bool true) rfl ?_
 exact ⟨rfl, hS.below⟩

end Go.Proofs.Ytenldpbbelhomaa
