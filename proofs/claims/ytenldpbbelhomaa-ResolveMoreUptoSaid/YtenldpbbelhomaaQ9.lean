/-
  Contracts of layer 9 (resolve). No condition beyond those that each theorem states.
-/
import Derived.Test.YtenldpbbelhomaaN4
namespace Go.Proofs.Ytenldpbbelhomaa
open Go.RowKit

theorem right_ret (ms : List DMod) (vx : Value) {w : World} {ro : Nat → Prop} (hro : ∀ b, ro b → b < w.heap.size) (hx : SlV ro w 2 (ModC ro w) vx ms) (hokm : ∀ m ∈ ms, okMod m) : Ret Try.prog 15 #[vx] w fun v w' => v = .bool (ms.all fun m => decide (check5 m = 0)) ∧ Below w.heap.size w w' := by
 have hxo := hx
 obtain ⟨adl, capl, rfl, hla, hlb, hlc, hld⟩ := hxo
 have hlm : ms.length ≤ 9223372036854775807 := slv_len hx
 refine Ret.enter (P := Try.prog) (n := 16) (args := [.slice adl ms.length capl]) (σ := [(0, .slice adl ms.length capl)]) Try.func15 rfl rfl rfl rfl ?_
 have hS := St.start (ro := ro) hro
 refine W.seq ?_
 refine W.region ?_
 refine WL.assign rfl rfl rfl ?_
 refine WL.nil ?_
 refine N.seq ?_
 refine W.seq ?_
 refine W.seq ?_
 refine W.region ?_
 refine WL.assign rfl rfl rfl ?_
 refine WL.nil ?_
 refine N.seq ?_
 refine W.block ?_
 refine W.loop (α := Nat) (fun (k : Nat) => [(0, .slice adl ms.length capl), (3, .int .i64 (k : Int))]) (fun (k : Nat) u => St w w u ro [] [] ∧ k ≤ ms.length ∧ ((ms.take k).all fun m => decide (check5 m = 0)) = true) (fun (k : Nat) => ms.length - k) 0 ⟨rfl, rfl, trivial⟩ ⟨hS, Nat.zero_le _, rfl⟩ ?_
 clear hS
 rintro k w1 ⟨hS, hk, hb⟩
 refine W.seq ?_
 refine W.seq ?_
 refine W.region ?_
 refine WL.move rfl rfl rfl ?_
 refine WL.move rfl rfl rfl ?_
 refine WL.lenSlice Try.underlying22 rfl rfl rfl ?_
 refine WL.bin rfl rfl rfl rfl rfl ?_
 refine WL.nil ?_
 refine N.seq ?_
 refine W.cond rfl (fun hc2 => ?_) (fun hc2 => ?_)
 ·
  have hc2p : (k : Int) < (ms.length : Int) := by simpa using hc2
  refine W.skip ?_
  refine N.seq ?_
  refine W.seq ?_
  refine W.block ?_
  refine W.seq ?_
  refine W.region ?_
  refine WL.move rfl rfl rfl ?_
  refine WL.move rfl rfl rfl ?_
  have hj3 : k < ms.length := by omega
  obtain ⟨x3, hx3⟩ : ∃ zz, ms[k]? = some zz := ⟨_, List.getElem?_eq_getElem hj3⟩
  obtain ⟨b3, o3, cs3, hE3, hr3, hl3, hc3, hQ3⟩ := hld k _ hx3
  obtain ⟨sf3, sg3, rfl, hfs3, hgs3⟩ := id hQ3
  obtain ⟨adf3, capf3, rfl, hfs3a, hfs3b, hfs3c, hfs3d⟩ := id hfs3
  have hfs3m : x3.funcs.length ≤ 9223372036854775807 := by have h1 := hfs3a; have h2 := hfs3b; unfold maxLen at h2; omega
  obtain ⟨adg3, capg3, rfl, hgs3a, hgs3b, hgs3c, hgs3d⟩ := id hgs3
  have hgs3m : x3.globs.length ≤ 9223372036854775807 := by have h1 := hgs3a; have h2 := hgs3b; unfold maxLen at h2; omega
  refine WL.indexAddrE (j := k) Try.underlying22 isz_33 rfl rfl rfl rfl hj3 hE3 ?_
  refine WL.loadN (cs := [.slice adf3 x3.funcs.length capf3, .slice adg3 x3.globs.length capg3]) agg_33 rfl rfl rfl rfl (hS.roCells hr3 hc3) ?_
  refine WL.callF (vs := [.agg #[.slice adf3 x3.funcs.length capf3, .slice adg3 x3.globs.length capg3]]) Try.func14 (by kernel_rfl) rfl rfl rfl (check5_ret x3 _ (ro := ro) (fun b hb => (hS.snap b hb).1) (ModC.keep hQ3 hS.alike) (hokm _ (List.mem_of_getElem? hx3))) ?_
  rintro v w4 ⟨rfl, hbl⟩
  replace hS := hS.grow hbl
  refine WL.bin rfl rfl rfl rfl rfl ?_
  refine WL.nil ?_
  refine N.seq ?_
  refine W.cond rfl (fun hc5 => ?_) (fun hc5 => ?_)
  ·
   have hc5p : ¬ (check5 x3 = 0) := by simpa using hc5
   refine W.seq ?_
   refine W.region ?_
   refine WL.assign rfl rfl rfl ?_
   refine WL.nil ?_
   refine N.seq ?_
   refine Fin.ret1 rfl (v := .bool false) rfl ?_
   have e : (ms.all fun m => decide (check5 m = 0)) = false := by rw [List.all_eq_false]; exact ⟨x3, List.mem_of_getElem? hx3, by simpa using hc5p⟩
   exact ⟨by rw [e], hS.below⟩
  have hc5p : check5 x3 = 0 := by simpa using hc5
  refine W.skip ?_
  refine N.blk ?_
  refine N.seq ?_
  refine W.region ?_
  refine WL.move rfl rfl rfl ?_
  refine WL.add (c := (k : Int) + 1) rfl rfl rfl rfl (rfl) (by omega) ?_
  refine WL.assign rfl rfl rfl ?_
  refine WL.nil ?_
  have hb2 : ((ms.take (k + 1)).all fun m => decide (check5 m = 0)) = true := by rw [take_next hx3, List.all_append, hb]; simpa using hc5p
  exact N.loop (k + 1) ⟨rfl, rfl, trivial⟩ ⟨hS, by omega, hb2⟩ (by first | omega | (simp only; omega))
 have hc2p : ¬ ((k : Int) < (ms.length : Int)) := by simpa using hc2
 refine W.exit ?_
 refine X.seq ?_
 refine X.loop ?_
 refine X.blk ?_
 refine N.seq ?_
 refine W.seq ?_
 refine W.region ?_
 refine WL.assign rfl rfl rfl ?_
 refine WL.nil ?_
 refine N.seq ?_
 refine Fin.ret1 rfl (v := .bool true) rfl ?_
 have e : k = ms.length := by omega
 subst e
 rw [List.take_length] at hb
 exact ⟨by rw [hb], hS.below⟩

set_option maxRecDepth 10000 in
set_option maxHeartbeats 4000000 in
theorem resolveStrong_ret (ms : List DMod) (vx : Value) {w : World} {ro : Nat → Prop} (hro : ∀ b, ro b → b < w.heap.size) (hx : SlV ro w 2 (ModC ro w) vx ms) (hmx : (items9 ms).length ≤ 1048576) (hokm : ∀ m ∈ ms, okMod m) : Ret Try.prog 5 #[vx] w fun v w' => v = .bool true ∧ Below w.heap.size w w' := by
 have hxo := hx
 obtain ⟨adl, capl, rfl, hla, hlb, hlc, hld⟩ := hxo
 have hlm : ms.length ≤ 9223372036854775807 := slv_len hx
 refine Ret.enter (P := Try.prog) (n := 133) (args := [.slice adl ms.length capl]) (σ := [(0, .slice adl ms.length capl)]) Try.func5 rfl rfl rfl rfl ?_
 have hS := St.start (ro := ro) hro
 have hsub : ∀ b, ro b → ro b ∨ w.heap.size ≤ b := fun _ h => .inl h
 have halT : Alike ro w ro w := Alike.refl
 refine W.seq ?_
 refine W.region ?_
 refine WL.assign rfl rfl rfl ?_
 refine WL.nil ?_
 refine N.seq ?_
 refine W.seq ?_
 refine W.region ?_
 refine WL.callF (vs := []) Try.func9 (by kernel_rfl) rfl rfl rfl (shown_ret) ?_
 rintro v w1 ⟨rfl, hbl⟩
 replace hS := hS.grow hbl
 refine WL.assign rfl rfl rfl ?_
 refine WL.nil ?_
 refine N.seq ?_
 refine W.seq ?_
 refine W.region ?_
 refine WL.move rfl rfl rfl ?_
 refine WL.callF (vs := [.slice adl ms.length capl]) Try.func10 (by kernel_rfl) rfl rfl rfl (all_ret ms _ (ro := ro) (fun b hb => (hS.snap b hb).1) (SlV.keep hx hS.alike (fun _ _ q => q.keep hS.alike)) hmx (items_ok hx)) ?_
 rintro v w2 ⟨sv, rfl, hdv, hbl⟩
 have hal3 := hS.alikeTo hbl (ro' := (roFrom ro w1 w2)) (fun b hb => .inl hb)
 replace hsub : ∀ b, (roFrom ro w1 w2) b → ro b ∨ w.heap.size ≤ b := fun b hb => hb.elim (hsub b) (fun h => .inr (Nat.le_trans hS.below.size h.1))
 replace halT := halT.trans hal3
 replace hld : Elems (roFrom ro w1 w2) w2 2 (ModC (roFrom ro w1 w2) w2) adl ms := hld.keep hal3 (fun _ _ h => h.keep hal3)
 replace hx : SlV (roFrom ro w1 w2) w2 2 (ModC (roFrom ro w1 w2) w2) (.slice adl ms.length capl) ms := SlV.keep hx hal3 (fun _ _ h => h.keep hal3)
 replace hS := hS.readNew hbl
 obtain ⟨ds, hds⟩ : ∃ ds, ds = (all9 (items9 ms)).1 := ⟨_, rfl⟩
 rw [← hds] at hdv
 obtain ⟨add, capd, rfl, hda, hdb, hdc, hdd⟩ := id hdv
 have hdm : ds.length ≤ 9223372036854775807 := by have h1 := hda; have h2 := hdb; unfold maxLen at h2; omega
 refine WL.move rfl rfl rfl ?_
 refine WL.extract (v := .slice add ds.length capd) rfl rfl rfl rfl ?_
 refine WL.extract (v := .int .i64 ((all9 (items9 ms)).2)) rfl rfl rfl rfl ?_
 refine WL.assign rfl rfl rfl ?_
 refine WL.assign rfl rfl rfl ?_
 refine WL.nil ?_
 refine N.seq ?_
 refine W.seq ?_
 refine W.seq ?_
 refine W.region ?_
 refine WL.move rfl rfl rfl ?_
 refine WL.bin rfl rfl rfl rfl rfl ?_
 refine WL.nil ?_
 refine N.seq ?_
 refine W.cond rfl (fun hc4 => ?_) (fun hc4 => ?_)
 ·
  have hc4p : ¬ ((all9 (items9 ms)).2 = 0) := by simpa using hc4
  refine W.seq ?_
  refine W.region ?_
  refine WL.move rfl rfl rfl ?_
  refine WL.assign rfl rfl rfl ?_
  refine WL.nil ?_
  refine N.seq ?_
  refine Fin.ret1 rfl (v := .bool true) rfl ?_
  exact ⟨rfl, hS.below⟩
 have hc4p : (all9 (items9 ms)).2 = 0 := by simpa using hc4
 refine W.skip ?_
 refine N.seq ?_
 refine W.seq ?_
 refine W.seq ?_
 refine W.region ?_
 refine WL.assign rfl rfl rfl ?_
 refine WL.nil ?_
 refine N.seq ?_
 refine W.block ?_
 have hok : (all9 (items9 ms)).2 = 0 := by simpa using hc4p
 refine W.loop (α := Nat) (fun (k : Nat) => [(0, .slice adl ms.length capl), (3, .bool true), (4, .slice add ds.length capd), (5, .int .i64 ((all9 (items9 ms)).2)), (6, .int .i64 (k : Int)), (11, .bool true), (12, .tuple #[.slice add ds.length capd, .int .i64 ((all9 (items9 ms)).2)]), (13, .slice adl ms.length capl), (14, .tuple #[.slice add ds.length capd, .int .i64 ((all9 (items9 ms)).2)]), (15, .slice add ds.length capd), (16, .int .i64 ((all9 (items9 ms)).2)), (17, .int .i64 ((all9 (items9 ms)).2)), (18, .bool (!decide ((all9 (items9 ms)).2 = 0)))]) (fun (k : Nat) u => St w w2 u (roFrom ro w1 w2) [] [] ∧ k ≤ ds.length) (fun (k : Nat) => ds.length - k) 0 ⟨rfl, rfl, rfl, rfl, rfl, rfl, rfl, rfl, rfl, rfl, rfl, rfl, rfl, trivial⟩ ⟨hS, Nat.zero_le _⟩ ?_
 clear hS
 rintro k w5 ⟨hS, hk⟩
 refine W.seq ?_
 refine W.seq ?_
 refine W.region ?_
 refine WL.move rfl rfl rfl ?_
 refine WL.move rfl rfl rfl ?_
 refine WL.lenSlice Try.underlying24 rfl rfl rfl ?_
 refine WL.bin rfl rfl rfl rfl rfl ?_
 refine WL.nil ?_
 refine N.seq ?_
 refine W.cond rfl (fun hc6 => ?_) (fun hc6 => ?_)
 ·
  have hc6p : (k : Int) < (ds.length : Int) := by simpa using hc6
  refine W.skip ?_
  refine N.seq ?_
  refine W.seq ?_
  refine W.block ?_
  refine W.seq ?_
  have hj7 : k < ds.length := by omega
  obtain ⟨x7, hx7⟩ : ∃ zz, ds[k]? = some zz := ⟨_, List.getElem?_eq_getElem hj7⟩
  obtain ⟨b7, o7, cs7, hE7, hr7, hl7, hc7, hQ7⟩ := hdd k _ hx7
  obtain ⟨rfl, hdn7, hdm7⟩ := hQ7
  obtain ⟨_, im, mm, hmod, hmi, _⟩ := there9 hok (d := x7) (by rw [← hds]; exact List.mem_of_getElem? hx7)
  have hil : im < ms.length := (List.getElem?_eq_some_iff.1 hmi).1
  refine W.region ?_
  refine WL.assign rfl rfl rfl ?_
  refine WL.nil ?_
  refine N.seq ?_
  refine W.seq ?_
  refine W.seq ?_
  refine W.region ?_
  refine WL.assign rfl rfl rfl ?_
  refine WL.nil ?_
  refine N.seq ?_
  refine W.block ?_
  refine W.loop (α := Nat × Bool) (fun ⟨j, b⟩ => [(0, .slice adl ms.length capl), (3, .bool true), (4, .slice add ds.length capd), (5, .int .i64 ((all9 (items9 ms)).2)), (6, .int .i64 (k : Int)), (7, .bool b), (8, .int .i64 (j : Int)), (11, .bool true), (12, .tuple #[.slice add ds.length capd, .int .i64 ((all9 (items9 ms)).2)]), (13, .slice adl ms.length capl), (14, .tuple #[.slice add ds.length capd, .int .i64 ((all9 (items9 ms)).2)]), (15, .slice add ds.length capd), (16, .int .i64 ((all9 (items9 ms)).2)), (17, .int .i64 ((all9 (items9 ms)).2)), (18, .bool (!decide ((all9 (items9 ms)).2 = 0))), (20, .int .i64 (k : Int)), (21, .slice add ds.length capd), (22, .int .i64 (ds.length : Int)), (23, .bool (decide ((k : Int) < (ds.length : Int))))]) (fun ⟨j, b⟩ u => St w w2 u (roFrom ro w1 w2) [] [] ∧ j ≤ ms.length ∧ b = (ms.take j).any (stM x7.name)) (fun ⟨j, b⟩ => ms.length - j) (0, false) ⟨rfl, rfl, rfl, rfl, rfl, rfl, rfl, rfl, rfl, rfl, rfl, rfl, rfl, rfl, rfl, rfl, rfl, rfl, rfl, trivial⟩ ⟨hS, Nat.zero_le _, rfl⟩ ?_
  clear hS
  rintro ⟨j, b⟩ w8 ⟨hS, hj, hb⟩
  refine W.seq ?_
  refine W.seq ?_
  refine W.region ?_
  refine WL.move rfl rfl rfl ?_
  refine WL.move rfl rfl rfl ?_
  refine WL.lenSlice Try.underlying22 rfl rfl rfl ?_
  refine WL.bin rfl rfl rfl rfl rfl ?_
  refine WL.nil ?_
  refine N.seq ?_
  refine W.cond rfl (fun hc9 => ?_) (fun hc9 => ?_)
  ·
   have hc9p : (j : Int) < (ms.length : Int) := by simpa using hc9
   refine W.skip ?_
   refine N.seq ?_
   refine W.seq ?_
   refine W.block ?_
   refine W.seq ?_
   have hj10 : j < ms.length := by omega
   obtain ⟨x10, hx10⟩ : ∃ zz, ms[j]? = some zz := ⟨_, List.getElem?_eq_getElem hj10⟩
   obtain ⟨b10, o10, cs10, hE10, hr10, hl10, hc10, hQ10⟩ := hld j _ hx10
   obtain ⟨sf10, sg10, rfl, hfs10, hgs10⟩ := id hQ10
   obtain ⟨adf10, capf10, rfl, hfs10a, hfs10b, hfs10c, hfs10d⟩ := id hfs10
   have hfs10m : x10.funcs.length ≤ 9223372036854775807 := by have h1 := hfs10a; have h2 := hfs10b; unfold maxLen at h2; omega
   obtain ⟨adg10, capg10, rfl, hgs10a, hgs10b, hgs10c, hgs10d⟩ := id hgs10
   have hgs10m : x10.globs.length ≤ 9223372036854775807 := by have h1 := hgs10a; have h2 := hgs10b; unfold maxLen at h2; omega
   refine W.drawL (by kernel_rfl) 10 ((.q (.slice adl ms.length capl)) :: (.q (.int .i64 (j : Int))) :: (.q (.pointer (some ⟨b10, o10 + j * 2, none⟩))) :: (.q (.agg #[.slice adf10 x10.funcs.length capf10, .slice adg10 x10.globs.length capg10])) :: (.q (.slice add ds.length capd)) :: (.q (.int .i64 (k : Int))) :: (.q (.pointer (some ⟨b7, o7 + k * 5, none⟩))) :: (.q (.pointer (some ⟨b7, o7 + k * 5, none⟩))) :: (.q (.string x7.name)) :: (.q (.int .i64 (find5 (fnames x10) x7.name))) :: []) (by kernel_rfl) (by kernel_rfl) [(0, .slice adl ms.length capl), (3, .bool true), (4, .slice add ds.length capd), (5, .int .i64 ((all9 (items9 ms)).2)), (6, .int .i64 (k : Int)), (7, .bool b), (8, .int .i64 (j : Int)), (11, .bool true), (12, .tuple #[.slice add ds.length capd, .int .i64 ((all9 (items9 ms)).2)]), (13, .slice adl ms.length capl), (14, .tuple #[.slice add ds.length capd, .int .i64 ((all9 (items9 ms)).2)]), (15, .slice add ds.length capd), (16, .int .i64 ((all9 (items9 ms)).2)), (17, .int .i64 ((all9 (items9 ms)).2)), (18, .bool (!decide ((all9 (items9 ms)).2 = 0))), (20, .int .i64 (k : Int)), (21, .slice add ds.length capd), (22, .int .i64 (ds.length : Int)), (23, .bool (decide ((k : Int) < (ds.length : Int)))), (26, .int .i64 (j : Int)), (27, .slice adl ms.length capl), (28, .int .i64 (ms.length : Int)), (29, .bool (decide ((j : Int) < (ms.length : Int))))] ⟨rfl, rfl, rfl, rfl, rfl, rfl, rfl, rfl, rfl, rfl, rfl, rfl, rfl, rfl, rfl, rfl, rfl, rfl, rfl, rfl, rfl, rfl, rfl, trivial⟩ (by kernel_rfl) hS ?_ ?_
   ·
    refine And.intro (fun β w hS => ?_) ?_
    ·
     refine WL.sub (σ' := [(0, .slice adl ms.length capl)]) ⟨rfl, trivial⟩ ?_
     refine WL.move rfl rfl rfl ?_
     exact WL.nil (N.cut () ⟨rfl, trivial⟩ (Below.refl _ _))
    refine And.intro (fun β w hS => ?_) ?_
    ·
     refine WL.sub (σ' := [(8, .int .i64 (j : Int))]) ⟨rfl, trivial⟩ ?_
     refine WL.move rfl rfl rfl ?_
     exact WL.nil (N.cut () ⟨rfl, trivial⟩ (Below.refl _ _))
    refine And.intro (fun β w hS => ?_) ?_
    ·
     refine WL.sub (σ' := [(32, .slice adl ms.length capl), (33, .int .i64 (j : Int))]) ⟨rfl, rfl, trivial⟩ ?_
     refine WL.indexAddrE (j := j) Try.underlying22 isz_33 rfl rfl rfl rfl hj10 hE10 ?_
     exact WL.nil (N.cut () ⟨rfl, trivial⟩ (Below.refl _ _))
    refine And.intro (fun β w hS => ?_) ?_
    ·
     refine WL.sub (σ' := [(34, .pointer (some ⟨b10, o10 + j * 2, none⟩))]) ⟨rfl, trivial⟩ ?_
     refine WL.loadN (cs := [.slice adf10 x10.funcs.length capf10, .slice adg10 x10.globs.length capg10]) agg_33 rfl rfl rfl rfl (hS.roCells hr10 hc10) ?_
     exact WL.nil (N.cut () ⟨rfl, trivial⟩ (Below.refl _ _))
    refine And.intro (fun β w hS => ?_) ?_
    ·
     refine WL.sub (σ' := [(4, .slice add ds.length capd)]) ⟨rfl, trivial⟩ ?_
     refine WL.move rfl rfl rfl ?_
     exact WL.nil (N.cut () ⟨rfl, trivial⟩ (Below.refl _ _))
    refine And.intro (fun β w hS => ?_) ?_
    ·
     refine WL.sub (σ' := [(6, .int .i64 (k : Int))]) ⟨rfl, trivial⟩ ?_
     refine WL.move rfl rfl rfl ?_
     exact WL.nil (N.cut () ⟨rfl, trivial⟩ (Below.refl _ _))
    refine And.intro (fun β w hS => ?_) ?_
    ·
     refine WL.sub (σ' := [(36, .slice add ds.length capd), (37, .int .i64 (k : Int))]) ⟨rfl, rfl, trivial⟩ ?_
     refine WL.indexAddrE (j := k) Try.underlying24 isz_29 rfl rfl rfl rfl hj7 hE7 ?_
     exact WL.nil (N.cut () ⟨rfl, trivial⟩ (Below.refl _ _))
    refine And.intro (fun β w hS => ?_) ?_
    ·
     refine WL.sub (σ' := [(38, .pointer (some ⟨b7, o7 + k * 5, none⟩))]) ⟨rfl, trivial⟩ ?_
     refine WL.fieldAddr fo_29_0 rfl rfl rfl ?_
     exact WL.nil (N.cut () ⟨rfl, trivial⟩ (Below.refl _ _))
    refine And.intro (fun β w hS => ?_) ?_
    ·
     refine WL.sub (σ' := [(39, .pointer (some ⟨b7, o7 + k * 5, none⟩))]) ⟨rfl, trivial⟩ ?_
     refine WL.load1 (v := .string x7.name) one_9 rfl rfl rfl (hS.roCells hr7 hc7 0 _ rfl) ?_
     exact WL.nil (N.cut () ⟨rfl, trivial⟩ (Below.refl _ _))
    refine And.intro (fun β w hS => ?_) ?_
    ·
     refine WL.sub (σ' := [(35, .agg #[.slice adf10 x10.funcs.length capf10, .slice adg10 x10.globs.length capg10]), (40, .string x7.name)]) ⟨rfl, rfl, trivial⟩ ?_
     refine WL.callF (vs := [.agg #[.slice adf10 x10.funcs.length capf10, .slice adg10 x10.globs.length capg10], .string x7.name]) Try.func12 (by kernel_rfl) rfl rfl rfl (findfnames_ret x10 _ x7.name (ro := (roFrom ro w1 w2)) (fun b hb => (hS.snap b hb).1) (ModC.keep hQ10 hS.alike)) ?_
     rintro v w12 ⟨rfl, hbl⟩
     replace hS := hS.grow hbl
     exact WL.nil (N.cut () ⟨rfl, trivial⟩ hbl)
    trivial
   clear hS; intro w13 β hS
   refine WL.sub (σ' := [(0, .slice adl ms.length capl), (3, .bool true), (4, .slice add ds.length capd), (5, .int .i64 ((all9 (items9 ms)).2)), (6, .int .i64 (k : Int)), (7, .bool b), (8, .int .i64 (j : Int)), (11, .bool true), (12, .tuple #[.slice add ds.length capd, .int .i64 ((all9 (items9 ms)).2)]), (13, .slice adl ms.length capl), (14, .tuple #[.slice add ds.length capd, .int .i64 ((all9 (items9 ms)).2)]), (15, .slice add ds.length capd), (16, .int .i64 ((all9 (items9 ms)).2)), (17, .int .i64 ((all9 (items9 ms)).2)), (18, .bool (!decide ((all9 (items9 ms)).2 = 0))), (20, .int .i64 (k : Int)), (21, .slice add ds.length capd), (22, .int .i64 (ds.length : Int)), (23, .bool (decide ((k : Int) < (ds.length : Int)))), (26, .int .i64 (j : Int)), (27, .slice adl ms.length capl), (28, .int .i64 (ms.length : Int)), (29, .bool (decide ((j : Int) < (ms.length : Int)))), (32, .slice adl ms.length capl), (33, .int .i64 (j : Int)), (34, .pointer (some ⟨b10, o10 + j * 2, none⟩)), (35, .agg #[.slice adf10 x10.funcs.length capf10, .slice adg10 x10.globs.length capg10]), (36, .slice add ds.length capd), (37, .int .i64 (k : Int)), (38, .pointer (some ⟨b7, o7 + k * 5, none⟩)), (39, .pointer (some ⟨b7, o7 + k * 5, none⟩)), (40, .string x7.name), (41, .int .i64 (find5 (fnames x10) x7.name))]) (Sub.ofEq (by kernel_rfl)) ?_
   refine WL.assign rfl rfl rfl ?_
   refine WL.nil ?_
   refine N.seq ?_
   refine W.seq ?_
   refine W.drawL (by kernel_rfl) 10 ((.q (.slice adl ms.length capl)) :: (.q (.int .i64 (j : Int))) :: (.q (.pointer (some ⟨b10, o10 + j * 2, none⟩))) :: (.q (.agg #[.slice adf10 x10.funcs.length capf10, .slice adg10 x10.globs.length capg10])) :: (.q (.slice add ds.length capd)) :: (.q (.int .i64 (k : Int))) :: (.q (.pointer (some ⟨b7, o7 + k * 5, none⟩))) :: (.q (.pointer (some ⟨b7, o7 + k * 5, none⟩))) :: (.q (.string x7.name)) :: (.q (.int .i64 (find5 (gnames x10) x7.name))) :: []) (by kernel_rfl) (by kernel_rfl) [(0, .slice adl ms.length capl), (3, .bool true), (4, .slice add ds.length capd), (5, .int .i64 ((all9 (items9 ms)).2)), (6, .int .i64 (k : Int)), (7, .bool b), (8, .int .i64 (j : Int)), (9, .int .i64 (find5 (fnames x10) x7.name)), (11, .bool true), (12, .tuple #[.slice add ds.length capd, .int .i64 ((all9 (items9 ms)).2)]), (13, .slice adl ms.length capl), (14, .tuple #[.slice add ds.length capd, .int .i64 ((all9 (items9 ms)).2)]), (15, .slice add ds.length capd), (16, .int .i64 ((all9 (items9 ms)).2)), (17, .int .i64 ((all9 (items9 ms)).2)), (18, .bool (!decide ((all9 (items9 ms)).2 = 0))), (20, .int .i64 (k : Int)), (21, .slice add ds.length capd), (22, .int .i64 (ds.length : Int)), (23, .bool (decide ((k : Int) < (ds.length : Int)))), (26, .int .i64 (j : Int)), (27, .slice adl ms.length capl), (28, .int .i64 (ms.length : Int)), (29, .bool (decide ((j : Int) < (ms.length : Int)))), (32, .slice adl ms.length capl), (33, .int .i64 (j : Int)), (34, .pointer (some ⟨b10, o10 + j * 2, none⟩)), (35, .agg #[.slice adf10 x10.funcs.length capf10, .slice adg10 x10.globs.length capg10]), (36, .slice add ds.length capd), (37, .int .i64 (k : Int)), (38, .pointer (some ⟨b7, o7 + k * 5, none⟩)), (39, .pointer (some ⟨b7, o7 + k * 5, none⟩)), (40, .string x7.name), (41, .int .i64 (find5 (fnames x10) x7.name))] ⟨rfl, rfl, rfl, rfl, rfl, rfl, rfl, rfl, rfl, rfl, rfl, rfl, rfl, rfl, rfl, rfl, rfl, rfl, rfl, rfl, rfl, rfl, rfl, rfl, rfl, rfl, rfl, rfl, rfl, rfl, rfl, rfl, rfl, rfl, trivial⟩ (by kernel_rfl) hS ?_ ?_
   ·
    refine And.intro (fun β w hS => ?_) ?_
    ·
     refine WL.sub (σ' := [(0, .slice adl ms.length capl)]) ⟨rfl, trivial⟩ ?_
     refine WL.move rfl rfl rfl ?_
     exact WL.nil (N.cut () ⟨rfl, trivial⟩ (Below.refl _ _))
    refine And.intro (fun β w hS => ?_) ?_
    ·
     refine WL.sub (σ' := [(8, .int .i64 (j : Int))]) ⟨rfl, trivial⟩ ?_
     refine WL.move rfl rfl rfl ?_
     exact WL.nil (N.cut () ⟨rfl, trivial⟩ (Below.refl _ _))
    refine And.intro (fun β w hS => ?_) ?_
    ·
     refine WL.sub (σ' := [(42, .slice adl ms.length capl), (43, .int .i64 (j : Int))]) ⟨rfl, rfl, trivial⟩ ?_
     refine WL.indexAddrE (j := j) Try.underlying22 isz_33 rfl rfl rfl rfl hj10 hE10 ?_
     exact WL.nil (N.cut () ⟨rfl, trivial⟩ (Below.refl _ _))
    refine And.intro (fun β w hS => ?_) ?_
    ·
     refine WL.sub (σ' := [(44, .pointer (some ⟨b10, o10 + j * 2, none⟩))]) ⟨rfl, trivial⟩ ?_
     refine WL.loadN (cs := [.slice adf10 x10.funcs.length capf10, .slice adg10 x10.globs.length capg10]) agg_33 rfl rfl rfl rfl (hS.roCells hr10 hc10) ?_
     exact WL.nil (N.cut () ⟨rfl, trivial⟩ (Below.refl _ _))
    refine And.intro (fun β w hS => ?_) ?_
    ·
     refine WL.sub (σ' := [(4, .slice add ds.length capd)]) ⟨rfl, trivial⟩ ?_
     refine WL.move rfl rfl rfl ?_
     exact WL.nil (N.cut () ⟨rfl, trivial⟩ (Below.refl _ _))
    refine And.intro (fun β w hS => ?_) ?_
    ·
     refine WL.sub (σ' := [(6, .int .i64 (k : Int))]) ⟨rfl, trivial⟩ ?_
     refine WL.move rfl rfl rfl ?_
     exact WL.nil (N.cut () ⟨rfl, trivial⟩ (Below.refl _ _))
    refine And.intro (fun β w hS => ?_) ?_
    ·
     refine WL.sub (σ' := [(46, .slice add ds.length capd), (47, .int .i64 (k : Int))]) ⟨rfl, rfl, trivial⟩ ?_
     refine WL.indexAddrE (j := k) Try.underlying24 isz_29 rfl rfl rfl rfl hj7 hE7 ?_
     exact WL.nil (N.cut () ⟨rfl, trivial⟩ (Below.refl _ _))
    refine And.intro (fun β w hS => ?_) ?_
    ·
     refine WL.sub (σ' := [(48, .pointer (some ⟨b7, o7 + k * 5, none⟩))]) ⟨rfl, trivial⟩ ?_
     refine WL.fieldAddr fo_29_0 rfl rfl rfl ?_
     exact WL.nil (N.cut () ⟨rfl, trivial⟩ (Below.refl _ _))
    refine And.intro (fun β w hS => ?_) ?_
    ·
     refine WL.sub (σ' := [(49, .pointer (some ⟨b7, o7 + k * 5, none⟩))]) ⟨rfl, trivial⟩ ?_
     refine WL.load1 (v := .string x7.name) one_9 rfl rfl rfl (hS.roCells hr7 hc7 0 _ rfl) ?_
     exact WL.nil (N.cut () ⟨rfl, trivial⟩ (Below.refl _ _))
    refine And.intro (fun β w hS => ?_) ?_
    ·
     refine WL.sub (σ' := [(45, .agg #[.slice adf10 x10.funcs.length capf10, .slice adg10 x10.globs.length capg10]), (50, .string x7.name)]) ⟨rfl, rfl, trivial⟩ ?_
     refine WL.callF (vs := [.agg #[.slice adf10 x10.funcs.length capf10, .slice adg10 x10.globs.length capg10], .string x7.name]) Try.func13 (by kernel_rfl) rfl rfl rfl (findgnames_ret x10 _ x7.name (ro := (roFrom ro w1 w2)) (fun b hb => (hS.snap b hb).1) (ModC.keep hQ10 hS.alike)) ?_
     rintro v w15 ⟨rfl, hbl⟩
     replace hS := hS.grow hbl
     exact WL.nil (N.cut () ⟨rfl, trivial⟩ hbl)
    trivial
   clear hS; intro w16 β hS
   refine WL.sub (σ' := [(0, .slice adl ms.length capl), (3, .bool true), (4, .slice add ds.length capd), (5, .int .i64 ((all9 (items9 ms)).2)), (6, .int .i64 (k : Int)), (7, .bool b), (8, .int .i64 (j : Int)), (9, .int .i64 (find5 (fnames x10) x7.name)), (11, .bool true), (12, .tuple #[.slice add ds.length capd, .int .i64 ((all9 (items9 ms)).2)]), (13, .slice adl ms.length capl), (14, .tuple #[.slice add ds.length capd, .int .i64 ((all9 (items9 ms)).2)]), (15, .slice add ds.length capd), (16, .int .i64 ((all9 (items9 ms)).2)), (17, .int .i64 ((all9 (items9 ms)).2)), (18, .bool (!decide ((all9 (items9 ms)).2 = 0))), (20, .int .i64 (k : Int)), (21, .slice add ds.length capd), (22, .int .i64 (ds.length : Int)), (23, .bool (decide ((k : Int) < (ds.length : Int)))), (26, .int .i64 (j : Int)), (27, .slice adl ms.length capl), (28, .int .i64 (ms.length : Int)), (29, .bool (decide ((j : Int) < (ms.length : Int)))), (32, .slice adl ms.length capl), (33, .int .i64 (j : Int)), (34, .pointer (some ⟨b10, o10 + j * 2, none⟩)), (35, .agg #[.slice adf10 x10.funcs.length capf10, .slice adg10 x10.globs.length capg10]), (36, .slice add ds.length capd), (37, .int .i64 (k : Int)), (38, .pointer (some ⟨b7, o7 + k * 5, none⟩)), (39, .pointer (some ⟨b7, o7 + k * 5, none⟩)), (40, .string x7.name), (41, .int .i64 (find5 (fnames x10) x7.name)), (42, .slice adl ms.length capl), (43, .int .i64 (j : Int)), (44, .pointer (some ⟨b10, o10 + j * 2, none⟩)), (45, .agg #[.slice adf10 x10.funcs.length capf10, .slice adg10 x10.globs.length capg10]), (46, .slice add ds.length capd), (47, .int .i64 (k : Int)), (48, .pointer (some ⟨b7, o7 + k * 5, none⟩)), (49, .pointer (some ⟨b7, o7 + k * 5, none⟩)), (50, .string x7.name), (51, .int .i64 (find5 (gnames x10) x7.name))]) (Sub.ofEq (by kernel_rfl)) ?_
   refine WL.assign rfl rfl rfl ?_
   refine WL.nil ?_
   refine N.seq ?_
   refine W.region ?_
   refine WL.move rfl rfl rfl ?_
   refine WL.move rfl rfl rfl ?_
   rcases (Bool.eq_false_or_eq_true b).symm with hg17 | hg17
   ·
    refine WL.set 7 (v' := .bool false) rfl (by rw [hg17]) ?_
    refine WL.set 52 (v' := .bool false) rfl (by rw [hg17]) ?_
    refine WL.set 53 (v' := .bool false) rfl (by rw [hg17]) ?_
    refine WL.move rfl rfl rfl ?_
    refine WL.bin rfl rfl rfl rfl rfl ?_
    refine WL.move rfl rfl rfl ?_
    rcases (Bool.eq_false_or_eq_true (decide (0 ≤ find5 (fnames x10) x7.name))).symm with hg18 | hg18
    ·
     refine WL.set 55 (v' := .bool false) rfl (by rw [hg18]) ?_
     refine WL.set 56 (v' := .bool false) rfl (by rw [hg18]) ?_
     have hg18p : ¬ (0 ≤ find5 (fnames x10) x7.name) := by simpa using hg18
     refine WL.skp rfl rfl ?_
     refine WL.skp rfl rfl ?_
     refine WL.skp rfl rfl ?_
     refine WL.skp rfl rfl ?_
     refine WL.skp rfl rfl ?_
     refine WL.skp rfl rfl ?_
     refine WL.skp rfl rfl ?_
     refine WL.skp rfl rfl ?_
     refine WL.skp rfl rfl ?_
     refine WL.skp rfl rfl ?_
     refine WL.pick (v := .bool false) rfl rfl rfl rfl rfl rfl ?_
     refine WL.move rfl rfl rfl ?_
     refine WL.skp rfl rfl ?_
     refine WL.skp rfl rfl ?_
     refine WL.skp rfl rfl ?_
     refine WL.skp rfl rfl ?_
     refine WL.skp rfl rfl ?_
     refine WL.skp rfl rfl ?_
     refine WL.skp rfl rfl ?_
     refine WL.skp rfl rfl ?_
     refine WL.skp rfl rfl ?_
     refine WL.skp rfl rfl ?_
     refine WL.skp rfl rfl ?_
     refine WL.pick (v := .bool false) rfl rfl rfl rfl rfl rfl ?_
     refine WL.pick (v := .bool false) rfl rfl rfl rfl rfl rfl ?_
     refine WL.move rfl rfl rfl ?_
     refine WL.move rfl rfl rfl ?_
     refine WL.bin rfl rfl rfl rfl rfl ?_
     refine WL.move rfl rfl rfl ?_
     rcases (Bool.eq_false_or_eq_true (decide (0 ≤ find5 (gnames x10) x7.name))).symm with hg19 | hg19
     ·
      refine WL.set 84 (v' := .bool false) rfl (by rw [hg19]) ?_
      refine WL.set 85 (v' := .bool false) rfl (by rw [hg19]) ?_
      have hg19p : ¬ (0 ≤ find5 (gnames x10) x7.name) := by simpa using hg19
      refine WL.skp rfl rfl ?_
      refine WL.skp rfl rfl ?_
      refine WL.skp rfl rfl ?_
      refine WL.skp rfl rfl ?_
      refine WL.skp rfl rfl ?_
      refine WL.skp rfl rfl ?_
      refine WL.skp rfl rfl ?_
      refine WL.skp rfl rfl ?_
      refine WL.skp rfl rfl ?_
      refine WL.skp rfl rfl ?_
      refine WL.pick (v := .bool false) rfl rfl rfl rfl rfl rfl ?_
      refine WL.move rfl rfl rfl ?_
      refine WL.skp rfl rfl ?_
      refine WL.skp rfl rfl ?_
      refine WL.skp rfl rfl ?_
      refine WL.skp rfl rfl ?_
      refine WL.skp rfl rfl ?_
      refine WL.skp rfl rfl ?_
      refine WL.skp rfl rfl ?_
      refine WL.skp rfl rfl ?_
      refine WL.skp rfl rfl ?_
      refine WL.pick (v := .bool false) rfl rfl rfl rfl rfl rfl ?_
      refine WL.pick (v := .bool false) rfl rfl rfl rfl rfl rfl ?_
      refine WL.assign rfl rfl rfl ?_
      refine WL.nil ?_
      refine N.blk ?_
      refine N.seq ?_
      refine W.region ?_
      refine WL.move rfl rfl rfl ?_
      refine WL.add (c := (j : Int) + 1) rfl rfl rfl rfl (rfl) (by omega) ?_
      refine WL.assign rfl rfl rfl ?_
      refine WL.nil ?_
      have hb2 : (false : Bool) = (ms.take (j + 1)).any (stM x7.name) := by rw [take_next hx10, List.any_append, ← hb]; simp [stM, hg17, hg18p, hg18, hg19p, hg19] <;> (intros; first | omega | (apply List.eq_nil_of_length_eq_zero; omega))
      exact N.loop (j + 1, false) ⟨rfl, rfl, rfl, rfl, rfl, rfl, rfl, rfl, rfl, rfl, rfl, rfl, rfl, rfl, rfl, rfl, rfl, rfl, rfl, trivial⟩ ⟨hS, by omega, hb2⟩ (by first | omega | (simp only; omega))
     refine WL.set 84 (v' := .bool true) rfl (by rw [hg19]) ?_
     refine WL.set 85 (v' := .bool true) rfl (by rw [hg19]) ?_
     have hg19p : 0 ≤ find5 (gnames x10) x7.name := by simpa using hg19
     refine WL.move rfl rfl rfl ?_
     refine WL.move rfl rfl rfl ?_
     refine WL.indexAddrE (j := j) Try.underlying22 isz_33 rfl rfl rfl rfl hj10 hE10 ?_
     refine WL.fieldAddr fo_33_1 rfl rfl rfl ?_
     refine WL.load1 (v := .slice adg10 x10.globs.length capg10) one_31 rfl rfl rfl (hS.roCells hr10 hc10 1 _ rfl) ?_
     refine WL.move rfl rfl rfl ?_
     refine WL.set 91 (v' := .int .i64 ((find5 (gnames x10) x7.name).toNat : Int)) rfl (by rw [Int.toNat_of_nonneg hg19p]) ?_
     have hj20 : (find5 (gnames x10) x7.name).toNat < x10.globs.length := find5_ltg rfl hg19p
     obtain ⟨x20, hx20⟩ : ∃ zz, x10.globs[(find5 (gnames x10) x7.name).toNat]? = some zz := ⟨_, List.getElem?_eq_getElem hj20⟩
     obtain ⟨b20, o20, cs20, hE20, hr20, hl20, hc20, hQ20⟩ := hgs10d ((find5 (gnames x10) x7.name).toNat) _ hx20
     obtain ⟨rfl, hgn20, hgb20, hgi20⟩ := hQ20
     refine WL.indexAddrE (j := (find5 (gnames x10) x7.name).toNat) Try.underlying31 isz_39 rfl rfl rfl rfl hj20 hE20 ?_
     refine WL.fieldAddr fo_39_1 rfl rfl rfl ?_
     refine WL.load1 (v := .int .i64 x20.bind) one_3 rfl rfl rfl (hS.roCells hr20 hc20 1 _ rfl) ?_
     refine WL.bin rfl rfl rfl rfl rfl ?_
     refine WL.pick (v := .bool (decide (x20.bind = 2))) rfl rfl rfl rfl rfl rfl ?_
     refine WL.move rfl rfl rfl ?_
     rcases (Bool.eq_false_or_eq_true (decide (x20.bind = 2))).symm with hg21 | hg21
     ·
      refine WL.set 95 (v' := .bool false) rfl (by rw [hg21]) ?_
      refine WL.set 96 (v' := .bool false) rfl (by rw [hg21]) ?_
      refine WL.set 97 (v' := .bool false) rfl (by rw [hg21]) ?_
      have hg21p : ¬ (x20.bind = 2) := by simpa using hg21
      refine WL.skp rfl rfl ?_
      refine WL.skp rfl rfl ?_
      refine WL.skp rfl rfl ?_
      refine WL.skp rfl rfl ?_
      refine WL.skp rfl rfl ?_
      refine WL.skp rfl rfl ?_
      refine WL.skp rfl rfl ?_
      refine WL.skp rfl rfl ?_
      refine WL.skp rfl rfl ?_
      refine WL.pick (v := .bool false) rfl rfl rfl rfl rfl rfl ?_
      refine WL.pick (v := .bool false) rfl rfl rfl rfl rfl rfl ?_
      refine WL.assign rfl rfl rfl ?_
      refine WL.nil ?_
      refine N.blk ?_
      refine N.seq ?_
      refine W.region ?_
      refine WL.move rfl rfl rfl ?_
      refine WL.add (c := (j : Int) + 1) rfl rfl rfl rfl (rfl) (by omega) ?_
      refine WL.assign rfl rfl rfl ?_
      refine WL.nil ?_
      have hb2 : (false : Bool) = (ms.take (j + 1)).any (stM x7.name) := by rw [take_next hx10, List.any_append, ← hb]; simp [stM, hg17, hg18p, hg18, hg19p, hg19, hg21p, hg21, hx20] <;> (intros; first | omega | (apply List.eq_nil_of_length_eq_zero; omega))
      exact N.loop (j + 1, false) ⟨rfl, rfl, rfl, rfl, rfl, rfl, rfl, rfl, rfl, rfl, rfl, rfl, rfl, rfl, rfl, rfl, rfl, rfl, rfl, trivial⟩ ⟨hS, by omega, hb2⟩ (by first | omega | (simp only; omega))
     refine WL.set 95 (v' := .bool true) rfl (by rw [hg21]) ?_
     refine WL.set 96 (v' := .bool true) rfl (by rw [hg21]) ?_
     refine WL.set 97 (v' := .bool true) rfl (by rw [hg21]) ?_
     have hg21p : x20.bind = 2 := by simpa using hg21
     refine WL.move rfl rfl rfl ?_
     refine WL.move rfl rfl rfl ?_
     refine WL.indexAddrE (j := j) Try.underlying22 isz_33 rfl rfl rfl rfl hj10 hE10 ?_
     refine WL.fieldAddr fo_33_1 rfl rfl rfl ?_
     refine WL.load1 (v := .slice adg10 x10.globs.length capg10) one_31 rfl rfl rfl (hS.roCells hr10 hc10 1 _ rfl) ?_
     refine WL.move rfl rfl rfl ?_
     refine WL.set 103 (v' := .int .i64 ((find5 (gnames x10) x7.name).toNat : Int)) rfl (by rw [Int.toNat_of_nonneg hg19p]) ?_
     refine WL.indexAddrE (j := (find5 (gnames x10) x7.name).toNat) Try.underlying31 isz_39 rfl rfl rfl rfl hj20 hE20 ?_
     refine WL.fieldAddr fo_39_2 rfl rfl rfl ?_
     refine WL.load1 (v := .bool x20.here) one_4 rfl rfl rfl (hS.roCells hr20 hc20 2 _ rfl) ?_
     refine WL.pick (v := .bool x20.here) rfl rfl rfl rfl rfl rfl ?_
     refine WL.pick (v := .bool x20.here) rfl rfl rfl rfl rfl rfl ?_
     refine WL.assign rfl rfl rfl ?_
     refine WL.nil ?_
     refine N.blk ?_
     refine N.seq ?_
     refine W.region ?_
     refine WL.move rfl rfl rfl ?_
     refine WL.add (c := (j : Int) + 1) rfl rfl rfl rfl (rfl) (by omega) ?_
     refine WL.assign rfl rfl rfl ?_
     refine WL.nil ?_
     have hb2 : (x20.here : Bool) = (ms.take (j + 1)).any (stM x7.name) := by rw [take_next hx10, List.any_append, ← hb]; simp [stM, hg17, hg18p, hg18, hg19p, hg19, hg21p, hg21, hx20] <;> (intros; first | omega | (apply List.eq_nil_of_length_eq_zero; omega))
     exact N.loop (j + 1, x20.here) ⟨rfl, rfl, rfl, rfl, rfl, rfl, rfl, rfl, rfl, rfl, rfl, rfl, rfl, rfl, rfl, rfl, rfl, rfl, rfl, trivial⟩ ⟨hS, by omega, hb2⟩ (by first | omega | (simp only; omega))
    refine WL.set 55 (v' := .bool true) rfl (by rw [hg18]) ?_
    refine WL.set 56 (v' := .bool true) rfl (by rw [hg18]) ?_
    have hg18p : 0 ≤ find5 (fnames x10) x7.name := by simpa using hg18
    refine WL.move rfl rfl rfl ?_
    refine WL.move rfl rfl rfl ?_
    refine WL.indexAddrE (j := j) Try.underlying22 isz_33 rfl rfl rfl rfl hj10 hE10 ?_
    refine WL.fieldAddr fo_33_0 rfl rfl rfl ?_
    refine WL.load1 (v := .slice adf10 x10.funcs.length capf10) one_30 rfl rfl rfl (hS.roCells hr10 hc10 0 _ rfl) ?_
    refine WL.move rfl rfl rfl ?_
    refine WL.set 62 (v' := .int .i64 ((find5 (fnames x10) x7.name).toNat : Int)) rfl (by rw [Int.toNat_of_nonneg hg18p]) ?_
    have hj22 : (find5 (fnames x10) x7.name).toNat < x10.funcs.length := find5_lt rfl hg18p
    obtain ⟨x22, hx22⟩ : ∃ zz, x10.funcs[(find5 (fnames x10) x7.name).toNat]? = some zz := ⟨_, List.getElem?_eq_getElem hj22⟩
    obtain ⟨b22, o22, cs22, hE22, hr22, hl22, hc22, hQ22⟩ := hfs10d ((find5 (fnames x10) x7.name).toNat) _ hx22
    obtain ⟨sb22, rfl, hbl22, hnm22, hbd22, hpr22⟩ := id hQ22
    obtain ⟨adb22, capb22, rfl, hbk22a, hbk22b, hbk22c, hbk22d⟩ := id hbl22
    have hbk22m : x22.blocks.length ≤ 9223372036854775807 := by have h1 := hbk22a; have h2 := hbk22b; unfold maxLen at h2; omega
    refine WL.indexAddrE (j := (find5 (fnames x10) x7.name).toNat) Try.underlying30 isz_36 rfl rfl rfl rfl hj22 hE22 ?_
    refine WL.fieldAddr fo_36_1 rfl rfl rfl ?_
    refine WL.load1 (v := .int .i64 x22.bind) one_3 rfl rfl rfl (hS.roCells hr22 hc22 1 _ rfl) ?_
    refine WL.bin rfl rfl rfl rfl rfl ?_
    refine WL.pick (v := .bool (decide (x22.bind = 2))) rfl rfl rfl rfl rfl rfl ?_
    refine WL.move rfl rfl rfl ?_
    rcases (Bool.eq_false_or_eq_true (decide (x22.bind = 2))).symm with hg23 | hg23
    ·
     refine WL.set 66 (v' := .bool false) rfl (by rw [hg23]) ?_
     refine WL.set 67 (v' := .bool false) rfl (by rw [hg23]) ?_
     refine WL.set 68 (v' := .bool false) rfl (by rw [hg23]) ?_
     have hg23p : ¬ (x22.bind = 2) := by simpa using hg23
     refine WL.skp rfl rfl ?_
     refine WL.skp rfl rfl ?_
     refine WL.skp rfl rfl ?_
     refine WL.skp rfl rfl ?_
     refine WL.skp rfl rfl ?_
     refine WL.skp rfl rfl ?_
     refine WL.skp rfl rfl ?_
     refine WL.skp rfl rfl ?_
     refine WL.skp rfl rfl ?_
     refine WL.skp rfl rfl ?_
     refine WL.skp rfl rfl ?_
     refine WL.pick (v := .bool false) rfl rfl rfl rfl rfl rfl ?_
     refine WL.pick (v := .bool false) rfl rfl rfl rfl rfl rfl ?_
     refine WL.move rfl rfl rfl ?_
     refine WL.move rfl rfl rfl ?_
     refine WL.bin rfl rfl rfl rfl rfl ?_
     refine WL.move rfl rfl rfl ?_
     rcases (Bool.eq_false_or_eq_true (decide (0 ≤ find5 (gnames x10) x7.name))).symm with hg24 | hg24
     ·
      refine WL.set 84 (v' := .bool false) rfl (by rw [hg24]) ?_
      refine WL.set 85 (v' := .bool false) rfl (by rw [hg24]) ?_
      have hg24p : ¬ (0 ≤ find5 (gnames x10) x7.name) := by simpa using hg24
      refine WL.skp rfl rfl ?_
      refine WL.skp rfl rfl ?_
      refine WL.skp rfl rfl ?_
      refine WL.skp rfl rfl ?_
      refine WL.skp rfl rfl ?_
      refine WL.skp rfl rfl ?_
      refine WL.skp rfl rfl ?_
      refine WL.skp rfl rfl ?_
      refine WL.skp rfl rfl ?_
      refine WL.skp rfl rfl ?_
      refine WL.pick (v := .bool false) rfl rfl rfl rfl rfl rfl ?_
      refine WL.move rfl rfl rfl ?_
      refine WL.skp rfl rfl ?_
      refine WL.skp rfl rfl ?_
      refine WL.skp rfl rfl ?_
      refine WL.skp rfl rfl ?_
      refine WL.skp rfl rfl ?_
      refine WL.skp rfl rfl ?_
      refine WL.skp rfl rfl ?_
      refine WL.skp rfl rfl ?_
      refine WL.skp rfl rfl ?_
      refine WL.pick (v := .bool false) rfl rfl rfl rfl rfl rfl ?_
      refine WL.pick (v := .bool false) rfl rfl rfl rfl rfl rfl ?_
      refine WL.assign rfl rfl rfl ?_
      refine WL.nil ?_
      refine N.blk ?_
      refine N.seq ?_
      refine W.region ?_
      refine WL.move rfl rfl rfl ?_
      refine WL.add (c := (j : Int) + 1) rfl rfl rfl rfl (rfl) (by omega) ?_
      refine WL.assign rfl rfl rfl ?_
      refine WL.nil ?_
      have hb2 : (false : Bool) = (ms.take (j + 1)).any (stM x7.name) := by rw [take_next hx10, List.any_append, ← hb]; simp [stM, hg17, hg18p, hg18, hg23p, hg23, hg24p, hg24, hx22] <;> (intros; first | omega | (apply List.eq_nil_of_length_eq_zero; omega))
      exact N.loop (j + 1, false) ⟨rfl, rfl, rfl, rfl, rfl, rfl, rfl, rfl, rfl, rfl, rfl, rfl, rfl, rfl, rfl, rfl, rfl, rfl, rfl, trivial⟩ ⟨hS, by omega, hb2⟩ (by first | omega | (simp only; omega))
     refine WL.set 84 (v' := .bool true) rfl (by rw [hg24]) ?_
     refine WL.set 85 (v' := .bool true) rfl (by rw [hg24]) ?_
     have hg24p : 0 ≤ find5 (gnames x10) x7.name := by simpa using hg24
     refine WL.move rfl rfl rfl ?_
     refine WL.move rfl rfl rfl ?_
     refine WL.indexAddrE (j := j) Try.underlying22 isz_33 rfl rfl rfl rfl hj10 hE10 ?_
     refine WL.fieldAddr fo_33_1 rfl rfl rfl ?_
     refine WL.load1 (v := .slice adg10 x10.globs.length capg10) one_31 rfl rfl rfl (hS.roCells hr10 hc10 1 _ rfl) ?_
     refine WL.move rfl rfl rfl ?_
     refine WL.set 91 (v' := .int .i64 ((find5 (gnames x10) x7.name).toNat : Int)) rfl (by rw [Int.toNat_of_nonneg hg24p]) ?_
     have hj25 : (find5 (gnames x10) x7.name).toNat < x10.globs.length := find5_ltg rfl hg24p
     obtain ⟨x25, hx25⟩ : ∃ zz, x10.globs[(find5 (gnames x10) x7.name).toNat]? = some zz := ⟨_, List.getElem?_eq_getElem hj25⟩
     obtain ⟨b25, o25, cs25, hE25, hr25, hl25, hc25, hQ25⟩ := hgs10d ((find5 (gnames x10) x7.name).toNat) _ hx25
     obtain ⟨rfl, hgn25, hgb25, hgi25⟩ := hQ25
     refine WL.indexAddrE (j := (find5 (gnames x10) x7.name).toNat) Try.underlying31 isz_39 rfl rfl rfl rfl hj25 hE25 ?_
     refine WL.fieldAddr fo_39_1 rfl rfl rfl ?_
     refine WL.load1 (v := .int .i64 x25.bind) one_3 rfl rfl rfl (hS.roCells hr25 hc25 1 _ rfl) ?_
     refine WL.bin rfl rfl rfl rfl rfl ?_
     refine WL.pick (v := .bool (decide (x25.bind = 2))) rfl rfl rfl rfl rfl rfl ?_
     refine WL.move rfl rfl rfl ?_
     rcases (Bool.eq_false_or_eq_true (decide (x25.bind = 2))).symm with hg26 | hg26
     ·
      refine WL.set 95 (v' := .bool false) rfl (by rw [hg26]) ?_
      refine WL.set 96 (v' := .bool false) rfl (by rw [hg26]) ?_
      refine WL.set 97 (v' := .bool false) rfl (by rw [hg26]) ?_
      have hg26p : ¬ (x25.bind = 2) := by simpa using hg26
      refine WL.skp rfl rfl ?_
      refine WL.skp rfl rfl ?_
      refine WL.skp rfl rfl ?_
      refine WL.skp rfl rfl ?_
      refine WL.skp rfl rfl ?_
      refine WL.skp rfl rfl ?_
      refine WL.skp rfl rfl ?_
      refine WL.skp rfl rfl ?_
      refine WL.skp rfl rfl ?_
      refine WL.pick (v := .bool false) rfl rfl rfl rfl rfl rfl ?_
      refine WL.pick (v := .bool false) rfl rfl rfl rfl rfl rfl ?_
      refine WL.assign rfl rfl rfl ?_
      refine WL.nil ?_
      refine N.blk ?_
      refine N.seq ?_
      refine W.region ?_
      refine WL.move rfl rfl rfl ?_
      refine WL.add (c := (j : Int) + 1) rfl rfl rfl rfl (rfl) (by omega) ?_
      refine WL.assign rfl rfl rfl ?_
      refine WL.nil ?_
      have hb2 : (false : Bool) = (ms.take (j + 1)).any (stM x7.name) := by rw [take_next hx10, List.any_append, ← hb]; simp [stM, hg17, hg18p, hg18, hg23p, hg23, hg24p, hg24, hg26p, hg26, hx22, hx25] <;> (intros; first | omega | (apply List.eq_nil_of_length_eq_zero; omega))
      exact N.loop (j + 1, false) ⟨rfl, rfl, rfl, rfl, rfl, rfl, rfl, rfl, rfl, rfl, rfl, rfl, rfl, rfl, rfl, rfl, rfl, rfl, rfl, trivial⟩ ⟨hS, by omega, hb2⟩ (by first | omega | (simp only; omega))
     refine WL.set 95 (v' := .bool true) rfl (by rw [hg26]) ?_
     refine WL.set 96 (v' := .bool true) rfl (by rw [hg26]) ?_
     refine WL.set 97 (v' := .bool true) rfl (by rw [hg26]) ?_
     have hg26p : x25.bind = 2 := by simpa using hg26
     refine WL.move rfl rfl rfl ?_
     refine WL.move rfl rfl rfl ?_
     refine WL.indexAddrE (j := j) Try.underlying22 isz_33 rfl rfl rfl rfl hj10 hE10 ?_
     refine WL.fieldAddr fo_33_1 rfl rfl rfl ?_
     refine WL.load1 (v := .slice adg10 x10.globs.length capg10) one_31 rfl rfl rfl (hS.roCells hr10 hc10 1 _ rfl) ?_
     refine WL.move rfl rfl rfl ?_
     refine WL.set 103 (v' := .int .i64 ((find5 (gnames x10) x7.name).toNat : Int)) rfl (by rw [Int.toNat_of_nonneg hg24p]) ?_
     refine WL.indexAddrE (j := (find5 (gnames x10) x7.name).toNat) Try.underlying31 isz_39 rfl rfl rfl rfl hj25 hE25 ?_
     refine WL.fieldAddr fo_39_2 rfl rfl rfl ?_
     refine WL.load1 (v := .bool x25.here) one_4 rfl rfl rfl (hS.roCells hr25 hc25 2 _ rfl) ?_
     refine WL.pick (v := .bool x25.here) rfl rfl rfl rfl rfl rfl ?_
     refine WL.pick (v := .bool x25.here) rfl rfl rfl rfl rfl rfl ?_
     refine WL.assign rfl rfl rfl ?_
     refine WL.nil ?_
     refine N.blk ?_
     refine N.seq ?_
     refine W.region ?_
     refine WL.move rfl rfl rfl ?_
     refine WL.add (c := (j : Int) + 1) rfl rfl rfl rfl (rfl) (by omega) ?_
     refine WL.assign rfl rfl rfl ?_
     refine WL.nil ?_
     have hb2 : (x25.here : Bool) = (ms.take (j + 1)).any (stM x7.name) := by rw [take_next hx10, List.any_append, ← hb]; simp [stM, hg17, hg18p, hg18, hg23p, hg23, hg24p, hg24, hg26p, hg26, hx22, hx25] <;> (intros; first | omega | (apply List.eq_nil_of_length_eq_zero; omega))
     exact N.loop (j + 1, x25.here) ⟨rfl, rfl, rfl, rfl, rfl, rfl, rfl, rfl, rfl, rfl, rfl, rfl, rfl, rfl, rfl, rfl, rfl, rfl, rfl, trivial⟩ ⟨hS, by omega, hb2⟩ (by first | omega | (simp only; omega))
    refine WL.set 66 (v' := .bool true) rfl (by rw [hg23]) ?_
    refine WL.set 67 (v' := .bool true) rfl (by rw [hg23]) ?_
    refine WL.set 68 (v' := .bool true) rfl (by rw [hg23]) ?_
    have hg23p : x22.bind = 2 := by simpa using hg23
    refine WL.move rfl rfl rfl ?_
    refine WL.move rfl rfl rfl ?_
    refine WL.indexAddrE (j := j) Try.underlying22 isz_33 rfl rfl rfl rfl hj10 hE10 ?_
    refine WL.fieldAddr fo_33_0 rfl rfl rfl ?_
    refine WL.load1 (v := .slice adf10 x10.funcs.length capf10) one_30 rfl rfl rfl (hS.roCells hr10 hc10 0 _ rfl) ?_
    refine WL.move rfl rfl rfl ?_
    refine WL.set 74 (v' := .int .i64 ((find5 (fnames x10) x7.name).toNat : Int)) rfl (by rw [Int.toNat_of_nonneg hg18p]) ?_
    refine WL.indexAddrE (j := (find5 (fnames x10) x7.name).toNat) Try.underlying30 isz_36 rfl rfl rfl rfl hj22 hE22 ?_
    refine WL.fieldAddr fo_36_3 rfl rfl rfl ?_
    refine WL.load1 (v := .slice adb22 x22.blocks.length capb22) one_34 rfl rfl rfl (hS.roCells hr22 hc22 3 _ rfl) ?_
    refine WL.lenSlice Try.underlying34 rfl rfl rfl ?_
    refine WL.bin rfl rfl rfl rfl rfl ?_
    refine WL.pick (v := .bool (decide (0 < (x22.blocks.length : Int)))) rfl rfl rfl rfl rfl rfl ?_
    refine WL.pick (v := .bool (decide (0 < (x22.blocks.length : Int)))) rfl rfl rfl rfl rfl rfl ?_
    refine WL.move rfl rfl rfl ?_
    rcases (Bool.eq_false_or_eq_true (decide (0 < (x22.blocks.length : Int)))).symm with hg27 | hg27
    ·
     refine WL.set 79 (v' := .bool false) rfl (by rw [hg27]) ?_
     refine WL.set 80 (v' := .bool false) rfl (by rw [hg27]) ?_
     refine WL.set 81 (v' := .bool false) rfl (by rw [hg27]) ?_
     refine WL.set 82 (v' := .bool false) rfl (by rw [hg27]) ?_
     have hg27p : ¬ (0 < (x22.blocks.length : Int)) := by simpa using hg27
     refine WL.move rfl rfl rfl ?_
     refine WL.bin rfl rfl rfl rfl rfl ?_
     refine WL.move rfl rfl rfl ?_
     rcases (Bool.eq_false_or_eq_true (decide (0 ≤ find5 (gnames x10) x7.name))).symm with hg28 | hg28
     ·
      refine WL.set 84 (v' := .bool false) rfl (by rw [hg28]) ?_
      refine WL.set 85 (v' := .bool false) rfl (by rw [hg28]) ?_
      have hg28p : ¬ (0 ≤ find5 (gnames x10) x7.name) := by simpa using hg28
      refine WL.skp rfl rfl ?_
      refine WL.skp rfl rfl ?_
      refine WL.skp rfl rfl ?_
      refine WL.skp rfl rfl ?_
      refine WL.skp rfl rfl ?_
      refine WL.skp rfl rfl ?_
      refine WL.skp rfl rfl ?_
      refine WL.skp rfl rfl ?_
      refine WL.skp rfl rfl ?_
      refine WL.skp rfl rfl ?_
      refine WL.pick (v := .bool false) rfl rfl rfl rfl rfl rfl ?_
      refine WL.move rfl rfl rfl ?_
      refine WL.skp rfl rfl ?_
      refine WL.skp rfl rfl ?_
      refine WL.skp rfl rfl ?_
      refine WL.skp rfl rfl ?_
      refine WL.skp rfl rfl ?_
      refine WL.skp rfl rfl ?_
      refine WL.skp rfl rfl ?_
      refine WL.skp rfl rfl ?_
      refine WL.skp rfl rfl ?_
      refine WL.pick (v := .bool false) rfl rfl rfl rfl rfl rfl ?_
      refine WL.pick (v := .bool false) rfl rfl rfl rfl rfl rfl ?_
      refine WL.assign rfl rfl rfl ?_
      refine WL.nil ?_
      refine N.blk ?_
      refine N.seq ?_
      refine W.region ?_
      refine WL.move rfl rfl rfl ?_
      refine WL.add (c := (j : Int) + 1) rfl rfl rfl rfl (rfl) (by omega) ?_
      refine WL.assign rfl rfl rfl ?_
      refine WL.nil ?_
      have hb2 : (false : Bool) = (ms.take (j + 1)).any (stM x7.name) := by rw [take_next hx10, List.any_append, ← hb]; simp [stM, hg17, hg18p, hg18, hg23p, hg23, hg27p, hg27, hg28p, hg28, hx22] <;> (intros; first | omega | (apply List.eq_nil_of_length_eq_zero; omega))
      exact N.loop (j + 1, false) ⟨rfl, rfl, rfl, rfl, rfl, rfl, rfl, rfl, rfl, rfl, rfl, rfl, rfl, rfl, rfl, rfl, rfl, rfl, rfl, trivial⟩ ⟨hS, by omega, hb2⟩ (by first | omega | (simp only; omega))
     refine WL.set 84 (v' := .bool true) rfl (by rw [hg28]) ?_
     refine WL.set 85 (v' := .bool true) rfl (by rw [hg28]) ?_
     have hg28p : 0 ≤ find5 (gnames x10) x7.name := by simpa using hg28
     refine WL.move rfl rfl rfl ?_
     refine WL.move rfl rfl rfl ?_
     refine WL.indexAddrE (j := j) Try.underlying22 isz_33 rfl rfl rfl rfl hj10 hE10 ?_
     refine WL.fieldAddr fo_33_1 rfl rfl rfl ?_
     refine WL.load1 (v := .slice adg10 x10.globs.length capg10) one_31 rfl rfl rfl (hS.roCells hr10 hc10 1 _ rfl) ?_
     refine WL.move rfl rfl rfl ?_
     refine WL.set 91 (v' := .int .i64 ((find5 (gnames x10) x7.name).toNat : Int)) rfl (by rw [Int.toNat_of_nonneg hg28p]) ?_
     have hj29 : (find5 (gnames x10) x7.name).toNat < x10.globs.length := find5_ltg rfl hg28p
     obtain ⟨x29, hx29⟩ : ∃ zz, x10.globs[(find5 (gnames x10) x7.name).toNat]? = some zz := ⟨_, List.getElem?_eq_getElem hj29⟩
     obtain ⟨b29, o29, cs29, hE29, hr29, hl29, hc29, hQ29⟩ := hgs10d ((find5 (gnames x10) x7.name).toNat) _ hx29
     obtain ⟨rfl, hgn29, hgb29, hgi29⟩ := hQ29
     refine WL.indexAddrE (j := (find5 (gnames x10) x7.name).toNat) Try.underlying31 isz_39 rfl rfl rfl rfl hj29 hE29 ?_
     refine WL.fieldAddr fo_39_1 rfl rfl rfl ?_
     refine WL.load1 (v := .int .i64 x29.bind) one_3 rfl rfl rfl (hS.roCells hr29 hc29 1 _ rfl) ?_
     refine WL.bin rfl rfl rfl rfl rfl ?_
     refine WL.pick (v := .bool (decide (x29.bind = 2))) rfl rfl rfl rfl rfl rfl ?_
     refine WL.move rfl rfl rfl ?_
     rcases (Bool.eq_false_or_eq_true (decide (x29.bind = 2))).symm with hg30 | hg30
     ·
      refine WL.set 95 (v' := .bool false) rfl (by rw [hg30]) ?_
      refine WL.set 96 (v' := .bool false) rfl (by rw [hg30]) ?_
      refine WL.set 97 (v' := .bool false) rfl (by rw [hg30]) ?_
      have hg30p : ¬ (x29.bind = 2) := by simpa using hg30
      refine WL.skp rfl rfl ?_
      refine WL.skp rfl rfl ?_
      refine WL.skp rfl rfl ?_
      refine WL.skp rfl rfl ?_
      refine WL.skp rfl rfl ?_
      refine WL.skp rfl rfl ?_
      refine WL.skp rfl rfl ?_
      refine WL.skp rfl rfl ?_
      refine WL.skp rfl rfl ?_
      refine WL.pick (v := .bool false) rfl rfl rfl rfl rfl rfl ?_
      refine WL.pick (v := .bool false) rfl rfl rfl rfl rfl rfl ?_
      refine WL.assign rfl rfl rfl ?_
      refine WL.nil ?_
      refine N.blk ?_
      refine N.seq ?_
      refine W.region ?_
      refine WL.move rfl rfl rfl ?_
      refine WL.add (c := (j : Int) + 1) rfl rfl rfl rfl (rfl) (by omega) ?_
      refine WL.assign rfl rfl rfl ?_
      refine WL.nil ?_
      have hb2 : (false : Bool) = (ms.take (j + 1)).any (stM x7.name) := by rw [take_next hx10, List.any_append, ← hb]; simp [stM, hg17, hg18p, hg18, hg23p, hg23, hg27p, hg27, hg28p, hg28, hg30p, hg30, hx22, hx29] <;> (intros; first | omega | (apply List.eq_nil_of_length_eq_zero; omega))
      exact N.loop (j + 1, false) ⟨rfl, rfl, rfl, rfl, rfl, rfl, rfl, rfl, rfl, rfl, rfl, rfl, rfl, rfl, rfl, rfl, rfl, rfl, rfl, trivial⟩ ⟨hS, by omega, hb2⟩ (by first | omega | (simp only; omega))
     refine WL.set 95 (v' := .bool true) rfl (by rw [hg30]) ?_
     refine WL.set 96 (v' := .bool true) rfl (by rw [hg30]) ?_
     refine WL.set 97 (v' := .bool true) rfl (by rw [hg30]) ?_
     have hg30p : x29.bind = 2 := by simpa using hg30
     refine WL.move rfl rfl rfl ?_
     refine WL.move rfl rfl rfl ?_
     refine WL.indexAddrE (j := j) Try.underlying22 isz_33 rfl rfl rfl rfl hj10 hE10 ?_
     refine WL.fieldAddr fo_33_1 rfl rfl rfl ?_
     refine WL.load1 (v := .slice adg10 x10.globs.length capg10) one_31 rfl rfl rfl (hS.roCells hr10 hc10 1 _ rfl) ?_
     refine WL.move rfl rfl rfl ?_
     refine WL.set 103 (v' := .int .i64 ((find5 (gnames x10) x7.name).toNat : Int)) rfl (by rw [Int.toNat_of_nonneg hg28p]) ?_
     refine WL.indexAddrE (j := (find5 (gnames x10) x7.name).toNat) Try.underlying31 isz_39 rfl rfl rfl rfl hj29 hE29 ?_
     refine WL.fieldAddr fo_39_2 rfl rfl rfl ?_
     refine WL.load1 (v := .bool x29.here) one_4 rfl rfl rfl (hS.roCells hr29 hc29 2 _ rfl) ?_
     refine WL.pick (v := .bool x29.here) rfl rfl rfl rfl rfl rfl ?_
     refine WL.pick (v := .bool x29.here) rfl rfl rfl rfl rfl rfl ?_
     refine WL.assign rfl rfl rfl ?_
     refine WL.nil ?_
     refine N.blk ?_
     refine N.seq ?_
     refine W.region ?_
     refine WL.move rfl rfl rfl ?_
     refine WL.add (c := (j : Int) + 1) rfl rfl rfl rfl (rfl) (by omega) ?_
     refine WL.assign rfl rfl rfl ?_
     refine WL.nil ?_
     have hb2 : (x29.here : Bool) = (ms.take (j + 1)).any (stM x7.name) := by rw [take_next hx10, List.any_append, ← hb]; simp [stM, hg17, hg18p, hg18, hg23p, hg23, hg27p, hg27, hg28p, hg28, hg30p, hg30, hx22, hx29] <;> (intros; first | omega | (apply List.eq_nil_of_length_eq_zero; omega))
     exact N.loop (j + 1, x29.here) ⟨rfl, rfl, rfl, rfl, rfl, rfl, rfl, rfl, rfl, rfl, rfl, rfl, rfl, rfl, rfl, rfl, rfl, rfl, rfl, trivial⟩ ⟨hS, by omega, hb2⟩ (by first | omega | (simp only; omega))
    refine WL.set 79 (v' := .bool true) rfl (by rw [hg27]) ?_
    refine WL.set 80 (v' := .bool true) rfl (by rw [hg27]) ?_
    refine WL.set 81 (v' := .bool true) rfl (by rw [hg27]) ?_
    refine WL.set 82 (v' := .bool true) rfl (by rw [hg27]) ?_
    have hg27p : 0 < (x22.blocks.length : Int) := by simpa using hg27
    refine WL.skp rfl rfl ?_
    refine WL.skp rfl rfl ?_
    refine WL.skp rfl rfl ?_
    refine WL.skp rfl rfl ?_
    refine WL.skp rfl rfl ?_
    refine WL.skp rfl rfl ?_
    refine WL.skp rfl rfl ?_
    refine WL.skp rfl rfl ?_
    refine WL.skp rfl rfl ?_
    refine WL.skp rfl rfl ?_
    refine WL.skp rfl rfl ?_
    refine WL.skp rfl rfl ?_
    refine WL.skp rfl rfl ?_
    refine WL.skp rfl rfl ?_
    refine WL.skp rfl rfl ?_
    refine WL.skp rfl rfl ?_
    refine WL.skp rfl rfl ?_
    refine WL.skp rfl rfl ?_
    refine WL.skp rfl rfl ?_
    refine WL.skp rfl rfl ?_
    refine WL.skp rfl rfl ?_
    refine WL.skp rfl rfl ?_
    refine WL.skp rfl rfl ?_
    refine WL.skp rfl rfl ?_
    refine WL.skp rfl rfl ?_
    refine WL.pick (v := .bool true) rfl rfl rfl rfl rfl rfl ?_
    refine WL.assign rfl rfl rfl ?_
    refine WL.nil ?_
    refine N.blk ?_
    refine N.seq ?_
    refine W.region ?_
    refine WL.move rfl rfl rfl ?_
    refine WL.add (c := (j : Int) + 1) rfl rfl rfl rfl (rfl) (by omega) ?_
    refine WL.assign rfl rfl rfl ?_
    refine WL.nil ?_
    have hb2 : (true : Bool) = (ms.take (j + 1)).any (stM x7.name) := by rw [take_next hx10, List.any_append, ← hb]; simp [stM, hg17, hg18p, hg18, hg23p, hg23, hg27p, hg27, hx22] <;> (intros; first | omega | (apply List.eq_nil_of_length_eq_zero; omega))
    exact N.loop (j + 1, true) ⟨rfl, rfl, rfl, rfl, rfl, rfl, rfl, rfl, rfl, rfl, rfl, rfl, rfl, rfl, rfl, rfl, rfl, rfl, rfl, trivial⟩ ⟨hS, by omega, hb2⟩ (by first | omega | (simp only; omega))
   refine WL.set 7 (v' := .bool true) rfl (by rw [hg17]) ?_
   refine WL.set 52 (v' := .bool true) rfl (by rw [hg17]) ?_
   refine WL.set 53 (v' := .bool true) rfl (by rw [hg17]) ?_
   refine WL.skp rfl rfl ?_
   refine WL.skp rfl rfl ?_
   refine WL.skp rfl rfl ?_
   refine WL.skp rfl rfl ?_
   refine WL.skp rfl rfl ?_
   refine WL.skp rfl rfl ?_
   refine WL.skp rfl rfl ?_
   refine WL.skp rfl rfl ?_
   refine WL.skp rfl rfl ?_
   refine WL.skp rfl rfl ?_
   refine WL.skp rfl rfl ?_
   refine WL.skp rfl rfl ?_
   refine WL.skp rfl rfl ?_
   refine WL.skp rfl rfl ?_
   refine WL.skp rfl rfl ?_
   refine WL.skp rfl rfl ?_
   refine WL.skp rfl rfl ?_
   refine WL.skp rfl rfl ?_
   refine WL.skp rfl rfl ?_
   refine WL.skp rfl rfl ?_
   refine WL.skp rfl rfl ?_
   refine WL.skp rfl rfl ?_
   refine WL.skp rfl rfl ?_
   refine WL.skp rfl rfl ?_
   refine WL.skp rfl rfl ?_
   refine WL.skp rfl rfl ?_
   refine WL.skp rfl rfl ?_
   refine WL.pick (v := .bool true) rfl rfl rfl rfl rfl rfl ?_
   refine WL.move rfl rfl rfl ?_
   refine WL.skp rfl rfl ?_
   refine WL.skp rfl rfl ?_
   refine WL.skp rfl rfl ?_
   refine WL.skp rfl rfl ?_
   refine WL.skp rfl rfl ?_
   refine WL.skp rfl rfl ?_
   refine WL.skp rfl rfl ?_
   refine WL.skp rfl rfl ?_
   refine WL.skp rfl rfl ?_
   refine WL.skp rfl rfl ?_
   refine WL.skp rfl rfl ?_
   refine WL.skp rfl rfl ?_
   refine WL.skp rfl rfl ?_
   refine WL.skp rfl rfl ?_
   refine WL.skp rfl rfl ?_
   refine WL.skp rfl rfl ?_
   refine WL.skp rfl rfl ?_
   refine WL.skp rfl rfl ?_
   refine WL.skp rfl rfl ?_
   refine WL.skp rfl rfl ?_
   refine WL.skp rfl rfl ?_
   refine WL.skp rfl rfl ?_
   refine WL.skp rfl rfl ?_
   refine WL.skp rfl rfl ?_
   refine WL.skp rfl rfl ?_
   refine WL.pick (v := .bool true) rfl rfl rfl rfl rfl rfl ?_
   refine WL.assign rfl rfl rfl ?_
   refine WL.nil ?_
   refine N.blk ?_
   refine N.seq ?_
   refine W.region ?_
   refine WL.move rfl rfl rfl ?_
   refine WL.add (c := (j : Int) + 1) rfl rfl rfl rfl (rfl) (by omega) ?_
   refine WL.assign rfl rfl rfl ?_
   refine WL.nil ?_
   have hb2 : (true : Bool) = (ms.take (j + 1)).any (stM x7.name) := by rw [take_next hx10, List.any_append, ← hb]; simp [stM, hg17] <;> (intros; first | omega | (apply List.eq_nil_of_length_eq_zero; omega))
   exact N.loop (j + 1, true) ⟨rfl, rfl, rfl, rfl, rfl, rfl, rfl, rfl, rfl, rfl, rfl, rfl, rfl, rfl, rfl, rfl, rfl, rfl, rfl, trivial⟩ ⟨hS, by omega, hb2⟩ (by first | omega | (simp only; omega))
  have hc9p : ¬ ((j : Int) < (ms.length : Int)) := by simpa using hc9
  refine W.exit ?_
  refine X.seq ?_
  refine X.loop ?_
  refine X.blk ?_
  refine N.seq ?_
  refine W.seq ?_
  refine W.region ?_
  refine WL.move rfl rfl rfl ?_
  refine WL.move rfl rfl rfl ?_
  refine WL.move rfl rfl rfl ?_
  refine WL.indexAddrE (j := k) Try.underlying24 isz_29 rfl rfl rfl rfl hj7 hE7 ?_
  refine WL.fieldAddr fo_29_1 rfl rfl rfl ?_
  refine WL.load1 (v := .int .i64 x7.mod) one_3 rfl rfl rfl (hS.roCells hr7 hc7 1 _ rfl) ?_
  have hj31 : im < ms.length := (List.getElem?_eq_some_iff.1 hmi).1
  have hx31 := hmi
  obtain ⟨b31, o31, cs31, hE31, hr31, hl31, hc31, hQ31⟩ := hld im _ hmi
  obtain ⟨sf31, sg31, rfl, hfs31, hgs31⟩ := id hQ31
  obtain ⟨adf31, capf31, rfl, hfs31a, hfs31b, hfs31c, hfs31d⟩ := id hfs31
  have hfs31m : mm.funcs.length ≤ 9223372036854775807 := by have h1 := hfs31a; have h2 := hfs31b; unfold maxLen at h2; omega
  obtain ⟨adg31, capg31, rfl, hgs31a, hgs31b, hgs31c, hgs31d⟩ := id hgs31
  have hgs31m : mm.globs.length ≤ 9223372036854775807 := by have h1 := hgs31a; have h2 := hgs31b; unfold maxLen at h2; omega
  refine WL.set 114 (v' := .int .i64 (im : Int)) rfl (by rw [hmod]) ?_
  refine WL.indexAddrE (j := im) Try.underlying22 isz_33 rfl rfl rfl rfl hj31 hE31 ?_
  refine WL.loadN (cs := [.slice adf31 mm.funcs.length capf31, .slice adg31 mm.globs.length capg31]) agg_33 rfl rfl rfl rfl (hS.roCells hr31 hc31) ?_
  refine WL.callF (vs := [.agg #[.slice adf31 mm.funcs.length capf31, .slice adg31 mm.globs.length capg31]]) Try.func14 (by kernel_rfl) rfl rfl rfl (check5_ret mm _ (ro := (roFrom ro w1 w2)) (fun b hb => (hS.snap b hb).1) (ModC.keep hQ31 hS.alike) (hokm _ (List.mem_of_getElem? hmi))) ?_
  rintro v w32 ⟨rfl, hbl⟩
  replace hS := hS.grow hbl
  refine WL.bin rfl rfl rfl rfl rfl ?_
  refine WL.move rfl rfl rfl ?_
  rcases (Bool.eq_false_or_eq_true (decide (check5 mm = 0))).symm with hg33 | hg33
  ·
   refine WL.set 118 (v' := .bool false) rfl (by rw [hg33]) ?_
   refine WL.set 119 (v' := .bool false) rfl (by rw [hg33]) ?_
   have hg33p : ¬ (check5 mm = 0) := by simpa using hg33
   refine WL.skp rfl rfl ?_
   refine WL.skp rfl rfl ?_
   refine WL.skp rfl rfl ?_
   refine WL.skp rfl rfl ?_
   refine WL.skp rfl rfl ?_
   refine WL.skp rfl rfl ?_
   refine WL.skp rfl rfl ?_
   refine WL.pick (v := .bool false) rfl rfl rfl rfl rfl rfl ?_
   refine WL.move rfl rfl rfl ?_
   refine WL.skp rfl rfl ?_
   refine WL.skp rfl rfl ?_
   refine WL.pick (v := .bool false) rfl rfl rfl rfl rfl rfl ?_
   refine WL.nil ?_
   refine N.seq ?_
   refine W.condF rfl ?_
   refine W.skip ?_
   refine N.blk ?_
   refine N.seq ?_
   refine W.region ?_
   refine WL.move rfl rfl rfl ?_
   refine WL.add (c := (k : Int) + 1) rfl rfl rfl rfl (rfl) (by omega) ?_
   refine WL.assign rfl rfl rfl ?_
   refine WL.nil ?_
   exact N.loop (k + 1) ⟨rfl, rfl, rfl, rfl, rfl, rfl, rfl, rfl, rfl, rfl, rfl, rfl, rfl, trivial⟩ ⟨hS, by omega⟩ (by first | omega | (simp only; omega))
  refine WL.set 118 (v' := .bool true) rfl (by rw [hg33]) ?_
  refine WL.set 119 (v' := .bool true) rfl (by rw [hg33]) ?_
  have hg33p : check5 mm = 0 := by simpa using hg33
  refine WL.move rfl rfl rfl ?_
  refine WL.move rfl rfl rfl ?_
  refine WL.move rfl rfl rfl ?_
  refine WL.indexAddrE (j := k) Try.underlying24 isz_29 rfl rfl rfl rfl hj7 hE7 ?_
  refine WL.fieldAddr fo_29_3 rfl rfl rfl ?_
  refine WL.load1 (v := .bool x7.weak) one_4 rfl rfl rfl (hS.roCells hr7 hc7 3 _ rfl) ?_
  refine WL.eqBool Try.underlying4 rfl rfl rfl rfl ?_
  refine WL.pick (v := .bool (b == x7.weak)) rfl rfl rfl rfl rfl rfl ?_
  refine WL.move rfl rfl rfl ?_
  rcases (Bool.eq_false_or_eq_true (b == x7.weak)).symm with hg34 | hg34
  ·
   refine WL.set 126 (v' := .bool false) rfl (by rw [hg34]) ?_
   refine WL.set 127 (v' := .bool false) rfl (by rw [hg34]) ?_
   refine WL.set 128 (v' := .bool false) rfl (by rw [hg34]) ?_
   refine WL.skp rfl rfl ?_
   refine WL.skp rfl rfl ?_
   refine WL.pick (v := .bool false) rfl rfl rfl rfl rfl rfl ?_
   refine WL.nil ?_
   refine N.seq ?_
   refine W.condF rfl ?_
   refine W.skip ?_
   refine N.blk ?_
   refine N.seq ?_
   refine W.region ?_
   refine WL.move rfl rfl rfl ?_
   refine WL.add (c := (k : Int) + 1) rfl rfl rfl rfl (rfl) (by omega) ?_
   refine WL.assign rfl rfl rfl ?_
   refine WL.nil ?_
   exact N.loop (k + 1) ⟨rfl, rfl, rfl, rfl, rfl, rfl, rfl, rfl, rfl, rfl, rfl, rfl, rfl, trivial⟩ ⟨hS, by omega⟩ (by first | omega | (simp only; omega))
  refine WL.set 126 (v' := .bool true) rfl (by rw [hg34]) ?_
  refine WL.set 127 (v' := .bool true) rfl (by rw [hg34]) ?_
  refine WL.set 128 (v' := .bool true) rfl (by rw [hg34]) ?_
  refine WL.move rfl rfl rfl ?_
  refine WL.callF (vs := [.slice adl ms.length capl]) Try.func15 (by kernel_rfl) rfl rfl rfl (right_ret ms _ (ro := (roFrom ro w1 w2)) (fun b hb => (hS.snap b hb).1) (SlV.keep hx hS.alike (fun _ _ q => q.keep hS.alike)) hokm) ?_
  rintro v w35 ⟨rfl, hbl⟩
  replace hS := hS.grow hbl
  refine WL.pick (v := .bool (ms.all fun m => decide (check5 m = 0))) rfl rfl rfl rfl rfl rfl ?_
  refine WL.nil ?_
  refine N.seq ?_
  refine W.cond rfl (fun hc36 => ?_) (fun hc36 => ?_)
  ·
   have hall : ∀ m ∈ ms, check5 m = 0 := fun m hm => by have h := List.all_eq_true.1 hc36 m hm; simpa using h
   have hst := strong9_weak hall hok (d := x7) (by rw [← hds]; exact List.mem_of_getElem? hx7)
   rw [show j = ms.length by omega, List.take_length, hst] at hb
   rw [hb] at hg34
   exact absurd hg34 (by cases x7.weak <;> simp)
  refine W.skip ?_
  refine N.blk ?_
  refine N.seq ?_
  refine W.region ?_
  refine WL.move rfl rfl rfl ?_
  refine WL.add (c := (k : Int) + 1) rfl rfl rfl rfl (rfl) (by omega) ?_
  refine WL.assign rfl rfl rfl ?_
  refine WL.nil ?_
  exact N.loop (k + 1) ⟨rfl, rfl, rfl, rfl, rfl, rfl, rfl, rfl, rfl, rfl, rfl, rfl, rfl, trivial⟩ ⟨hS, by omega⟩ (by first | omega | (simp only; omega))
 have hc6p : ¬ ((k : Int) < (ds.length : Int)) := by simpa using hc6
 refine W.exit ?_
 refine X.seq ?_
 refine X.loop ?_
 refine X.blk ?_
 refine N.seq ?_
 refine W.seq ?_
 refine W.region ?_
 refine WL.move rfl rfl rfl ?_
 refine WL.assign rfl rfl rfl ?_
 refine WL.nil ?_
 refine N.seq ?_
 refine Fin.ret1 rfl (v := .bool true) rfl ?_
 exact ⟨rfl, hS.below⟩

end Go.Proofs.Ytenldpbbelhomaa
