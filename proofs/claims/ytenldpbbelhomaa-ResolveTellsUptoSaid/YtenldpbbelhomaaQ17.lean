/-
  Contracts of layer 9 (resolve). No condition beyond those that each theorem states.
-/
import Derived.Test.YtenldpbbelhomaaQ16
namespace Go.Proofs.Ytenldpbbelhomaa
open Go.RowKit

def def0 : DDef := ⟨⟨#[]⟩, 0, false, false, false⟩
def fnd9 (l : List DDef) (t : ByteArray) : DDef × Bool := if ixI (isName t) l < 0 then (def0, false) else (l.getD (ixI (isName t) l).toNat def0, true)
theorem fnd9_no {l : List DDef} {t : ByteArray} (h : ixI (isName t) l < 0) : fnd9 l t = (def0, false) := if_pos h
theorem fnd9_at {l : List DDef} {t : ByteArray} {j : Nat} {d : DDef} (h : ixI (isName t) l = (j : Int)) (hd : l[j]? = some d) : fnd9 l t = (d, true) := by
  unfold fnd9
  rw [h, if_neg (by omega), Int.toNat_natCast, List.getD_eq_getElem?_getD, hd]; rfl

theorem ixDef_ret {q : Nat} {fnq : Func} {caps : Array Value} (g : List (DDef)) (p : (DDef) → Bool) (vx : Value) {w : World} {ro : Nat → Prop} (hro : ∀ b, ro b → b < w.heap.size) (hx : SlV ro w 5 DefC vx g) (hf : Try.prog.funcs[q]? = some fnq) (hfb : (fnq.body.isSome && !(fnq.name == "runtime.NumGoroutine")) = true) (hp : ∀ (x : DDef) (u : World), x ∈ g → Below w.heap.size w u → Ret Try.prog q (#[defV x] ++ caps) u fun v u2 => v = .bool (p x) ∧ Below u.heap.size u u2) : Ret Try.prog 41 #[vx, .func (.func q) #[] caps] w fun v w' => v = .int .i64 (ixI p g) ∧ Below w.heap.size w w' := by
 obtain ⟨ad, cap, rfl, haa, hab, hac, had⟩ := id hx
 have ham : g.length ≤ 9223372036854775807 := by have h1 := haa; have h2 := hab; unfold maxLen at h2; omega
 refine Ret.enter (P := Try.prog) (n := 19) (args := [.slice ad g.length cap, .func (.func q) #[] caps]) (σ := [(0, .slice ad g.length cap), (1, .func (.func q) #[] caps)]) Try.func41 rfl rfl rfl rfl ?_
 have hS := St.start (ro := ro) hro
 refine W.seq ?_
 refine W.region ?_
 refine WL.assign rfl rfl rfl ?_
 refine WL.nil ?_
 refine N.seq ?_
 refine W.seq ?_
 refine W.seq ?_
 refine W.region ?_
 refine WL.move rfl rfl rfl ?_
 refine WL.lenSlice Try.underlying24 rfl rfl rfl ?_
 refine WL.move rfl rfl rfl ?_
 refine WL.nil ?_
 refine N.seq ?_
 refine W.block ?_
 refine W.loop (α := Nat) (fun (k : Nat) => [(0, .slice ad g.length cap), (1, .func (.func q) #[] caps), (6, .slice ad g.length cap), (7, .int .i64 (g.length : Int)), (8, .int .i64 (k : Int))]) (fun (k : Nat) u => St w w u ro [] [] ∧ k ≤ g.length ∧ (g.take k).findIdx? p = none) (fun (k : Nat) => g.length - k) 0 ⟨rfl, rfl, rfl, rfl, rfl, trivial⟩ ⟨hS, Nat.zero_le _, rfl⟩ ?_
 clear hS
 rintro k w1 ⟨hS, hk, hno⟩
 refine W.seq ?_
 refine W.region ?_
 refine WL.bin rfl rfl rfl rfl rfl ?_
 refine WL.nil ?_
 refine N.seq ?_
 refine W.seq ?_
 refine W.cond rfl (fun hc2 => ?_) (fun hc2 => ?_)
 ·
  have hc2p : (k : Int) < (g.length : Int) := by simpa using hc2
  refine W.skip ?_
  refine N.seq ?_
  refine W.seq ?_
  refine W.block ?_
  refine W.seq ?_
  refine W.region ?_
  refine WL.move rfl rfl rfl ?_
  refine WL.assign rfl rfl rfl ?_
  refine WL.nil ?_
  refine N.seq ?_
  refine W.seq ?_
  refine W.region ?_
  refine WL.move rfl rfl rfl ?_
  refine WL.move rfl rfl rfl ?_
  refine WL.move rfl rfl rfl ?_
  have hj3 : k < g.length := by omega
  obtain ⟨x3, hx3⟩ : ∃ zz, g[k]? = some zz := ⟨_, List.getElem?_eq_getElem hj3⟩
  obtain ⟨b3, o3, cs3, hE3, hr3, hl3, hc3, hQ3⟩ := had k _ hx3
  obtain ⟨rfl, hdn3, hdm3⟩ := hQ3
  refine WL.indexAddrE (j := k) Try.underlying24 isz_29 rfl rfl rfl rfl hj3 hE3 ?_
  refine WL.loadN (cs := [.string x3.name, .int .i64 x3.mod, .bool x3.fn, .bool x3.weak, .bool x3.here]) agg_29 rfl rfl rfl rfl (hS.roCells hr3 hc3) ?_
  refine WL.callV (vs := [.agg #[.string x3.name, .int .i64 x3.mod, .bool x3.fn, .bool x3.weak, .bool x3.here]]) (cs := caps) hf hfb rfl rfl rfl rfl (hp x3 _ (List.mem_of_getElem? hx3) hS.below) ?_
  rintro v w4 ⟨rfl, hbl⟩
  replace hS := hS.grow hbl
  refine WL.nil ?_
  refine N.seq ?_
  refine W.cond rfl (fun hc5 => ?_) (fun hc5 => ?_)
  ·
   refine W.seq ?_
   refine W.region ?_
   refine WL.move rfl rfl rfl ?_
   refine WL.assign rfl rfl rfl ?_
   refine WL.nil ?_
   refine N.seq ?_
   refine Fin.ret1 rfl (v := .int .i64 (k : Int)) rfl ?_
   exact ⟨by rw [find_here hno hx3 hc5], hS.below⟩
  refine W.skip ?_
  refine N.blk ?_
  refine N.seq ?_
  refine W.region ?_
  refine WL.add (c := (k : Int) + 1) rfl rfl rfl rfl (rfl) (by omega) ?_
  refine WL.move rfl rfl rfl ?_
  refine WL.nil ?_
  exact N.loop (k + 1) ⟨rfl, rfl, rfl, rfl, rfl, trivial⟩ ⟨hS, by omega, find_next hno hx3 hc5⟩ (by first | omega | (simp only; omega))
 have hc2p : ¬ ((k : Int) < (g.length : Int)) := by simpa using hc2
 refine W.exit ?_
 refine X.seq ?_
 refine X.loop ?_
 refine X.blk ?_
 refine N.seq ?_
 refine W.seq ?_
 refine W.region ?_
 refine WL.assign rfl rfl rfl ?_
 refine WL.nil ?_
 refine N.seq ?_
 refine Fin.ret1 rfl (v := .int .i64 (-1)) rfl ?_
 have e : k = g.length := by omega
 subst e
 rw [List.take_length] at hno
 exact ⟨by rw [find_end hno], hS.below⟩

theorem find1_ret (x : DDef) (t : ByteArray) (bg : Nat) {w : World} {ro : Nat → Prop} (hro : ∀ b, ro b → b < w.heap.size) (hbg : ro bg) (hcg : CellsAt w bg 0 [.string t]) : Ret Try.prog 42 #[.agg #[.string x.name, .int .i64 x.mod, .bool x.fn, .bool x.weak, .bool x.here], .pointer (some ⟨bg, 0, none⟩)] w fun v w' => v = .bool (isName t x) ∧ Below w.heap.size w w' := by
 refine Ret.enter (P := Try.prog) (n := 8) (args := [.agg #[.string x.name, .int .i64 x.mod, .bool x.fn, .bool x.weak, .bool x.here], .pointer (some ⟨bg, 0, none⟩)]) (σ := [(0, .agg #[.string x.name, .int .i64 x.mod, .bool x.fn, .bool x.weak, .bool x.here]), (1, .pointer (some ⟨bg, 0, none⟩))]) Try.func42 rfl rfl rfl rfl ?_
 have hS := St.start (ro := ro) hro
 refine W.seq ?_
 refine W.region ?_
 refine WL.box (v := .agg #[.string x.name, .int .i64 x.mod, .bool x.fn, .bool x.weak, .bool x.here]) (cs := [.string x.name, .int .i64 x.mod, .bool x.fn, .bool x.weak, .bool x.here]) rfl rfl rfl rfl hS ?_
 clear hS; intro w2 b1 hb_b1 hS
 refine WL.assign rfl rfl rfl ?_
 refine WL.nil ?_
 refine N.seq ?_
 refine W.seq ?_
 refine W.region ?_
 refine WL.fieldAddr fo_29_0 rfl rfl rfl ?_
 refine WL.load1 (v := .string x.name) one_9 rfl rfl rfl (hS.cell 0 rfl rfl) ?_
 refine WL.load1 (v := .string t) one_9 rfl rfl rfl (hS.roCells hbg hcg 0 _ rfl) ?_
 refine WL.eqStr rfl rfl rfl rfl ?_
 refine WL.assign rfl rfl rfl ?_
 refine WL.nil ?_
 refine N.seq ?_
 refine Fin.ret1 rfl (v := .bool (decide (x.name = t))) rfl ?_
 exact ⟨rfl, hS.below⟩

set_option maxRecDepth 10000 in
set_option maxHeartbeats 4000000 in
theorem rfind_ret (xs : List DDef) (t : ByteArray) (vx : Value) {w : World} {ro : Nat → Prop} (hro : ∀ b, ro b → b < w.heap.size) (hx : SlV ro w 5 DefC vx xs) : Ret Try.prog 21 #[vx, .string t] w fun v w' => v = .tuple #[defV (fnd9 xs t).1, .bool (fnd9 xs t).2] ∧ Below w.heap.size w w' := by
 obtain ⟨ad, cap, rfl, haa, hab, hac, had⟩ := id hx
 have ham : xs.length ≤ 9223372036854775807 := by have h1 := haa; have h2 := hab; unfold maxLen at h2; omega
 refine Ret.enter (P := Try.prog) (n := 17) (args := [.slice ad xs.length cap, .string t]) (σ := [(0, .slice ad xs.length cap), (1, .string t)]) Try.func21 rfl rfl rfl rfl ?_
 have hS := St.start (ro := ro) hro
 refine W.seq ?_
 refine W.region ?_
 refine WL.box (v := .string t) (cs := [.string t]) rfl rfl rfl rfl hS ?_
 clear hS; intro w2 b1 hb_b1 hS
 refine WL.alloc (tyZero_spec zer_29) rfl rfl hS ?_
 clear hS; intro w4 b3 hb_b3 hS
 refine WL.assign rfl rfl rfl ?_
 refine WL.nil ?_
 refine N.seq ?_
 refine W.seq ?_
 refine W.region ?_
 refine WL.move rfl rfl rfl ?_
 refine WL.makeFunc (vs := #[.pointer (some ⟨b1, 0, none⟩)]) rfl rfl rfl ?_
 refine WL.callF (vs := [.slice ad xs.length cap, .func (.func 42) #[] #[.pointer (some ⟨b1, 0, none⟩)]]) Try.func41 (by kernel_rfl) rfl rfl rfl (ixDef_ret xs (isName t) _ (ro := ro) (fun b hb => (hS.snap b hb).1) (SlV.keep hx hS.alike (fun _ _ q => q)) Try.func42 (by kernel_rfl) (fun x u hm hb => find1_ret x t b1 (ro := fun z => z < u.heap.size) (fun _ h => h) (Nat.lt_of_lt_of_le (hS.keys b1 (by simp [keysOf])).2.1 hb.size) ((hS.cells 1 (m := 1) rfl rfl).keep (hb.block _ (hS.keys b1 (by simp [keysOf])).2.1)))) ?_
 rintro v w5 ⟨rfl, hbl⟩
 replace hS := hS.grow hbl
 refine WL.assign rfl rfl rfl ?_
 refine WL.nil ?_
 refine N.seq ?_
 refine W.seq ?_
 refine W.seq ?_
 refine W.region ?_
 refine WL.move rfl rfl rfl ?_
 refine WL.bin rfl rfl rfl rfl rfl ?_
 refine WL.nil ?_
 refine N.seq ?_
 refine W.cond rfl (fun hc6 => ?_) (fun hc6 => ?_)
 ·
  have hc6p : ixI (isName t) xs < 0 := by simpa using hc6
  refine W.seq ?_
  refine W.region ?_
  refine WL.build (ps := []) (cs := [.string ⟨#[]⟩, .int .i64 0, .bool false, .bool false, .bool false]) rfl rfl rfl (by kernel_rfl) ?_
  refine WL.store (cs := [.string ⟨#[]⟩, .int .i64 0, .bool false, .bool false, .bool false]) (c' := #[.string ⟨#[]⟩, .int .i64 0, .bool false, .bool false, .bool false]) (L' := [(b3, .cells #[.string ⟨#[]⟩, .int .i64 0, .bool false, .bool false, .bool false] 29 (0, 0)), (b1, .cells #[.string t] 9 (0, 0))]) 0 rfl rfl rfl rfl siz_29 rfl rfl rfl rfl rfl hS ?_
  clear hS; intro w7 hS
  refine WL.assign rfl rfl rfl ?_
  refine WL.nil ?_
  refine N.seq ?_
  refine Fin.retCT rfl (v := .agg #[.string ⟨#[]⟩, .int .i64 0, .bool false, .bool false, .bool false]) (v' := .bool false) rfl (tyAgg_run agg_29 (cs := [.string ⟨#[]⟩, .int .i64 0, .bool false, .bool false, .bool false]) rfl (hS.cells 0 (m := 5) rfl rfl)) rfl ?_
  exact ⟨by rw [fnd9_no hc6p]; rfl, hS.below⟩
 have hc6p : ¬ (ixI (isName t) xs < 0) := by simpa using hc6
 refine W.skip ?_
 refine N.seq ?_
 refine W.seq ?_
 refine W.region ?_
 refine WL.move rfl rfl rfl ?_
 refine WL.move rfl rfl rfl ?_
 obtain ⟨jm, hjm, hjl⟩ := ixI_nat hc6p
 refine WL.set 14 (v' := .int .i64 (jm : Int)) rfl (by rw [hjm]) ?_
 have hj8 : jm < xs.length := hjl
 obtain ⟨x8, hx8⟩ : ∃ zz, xs[jm]? = some zz := ⟨_, List.getElem?_eq_getElem hj8⟩
 obtain ⟨b8, o8, cs8, hE8, hr8, hl8, hc8, hQ8⟩ := had jm _ hx8
 obtain ⟨rfl, hdn8, hdm8⟩ := hQ8
 refine WL.indexAddrE (j := jm) Try.underlying24 isz_29 rfl rfl rfl rfl hj8 hE8 ?_
 refine WL.loadN (cs := [.string x8.name, .int .i64 x8.mod, .bool x8.fn, .bool x8.weak, .bool x8.here]) agg_29 rfl rfl rfl rfl (hS.roCells hr8 hc8) ?_
 refine WL.store (cs := [.string x8.name, .int .i64 x8.mod, .bool x8.fn, .bool x8.weak, .bool x8.here]) (c' := #[.string x8.name, .int .i64 x8.mod, .bool x8.fn, .bool x8.weak, .bool x8.here]) (L' := [(b3, .cells #[.string x8.name, .int .i64 x8.mod, .bool x8.fn, .bool x8.weak, .bool x8.here] 29 (0, 0)), (b1, .cells #[.string t] 9 (0, 0))]) 0 rfl rfl rfl rfl siz_29 rfl rfl rfl rfl rfl hS ?_
 clear hS; intro w9 hS
 refine WL.assign rfl rfl rfl ?_
 refine WL.nil ?_
 refine N.seq ?_
 refine Fin.retCT rfl (v := .agg #[.string x8.name, .int .i64 x8.mod, .bool x8.fn, .bool x8.weak, .bool x8.here]) (v' := .bool true) rfl (tyAgg_run agg_29 (cs := [.string x8.name, .int .i64 x8.mod, .bool x8.fn, .bool x8.weak, .bool x8.here]) rfl (hS.cells 0 (m := 5) rfl rfl)) rfl ?_
 exact ⟨by rw [fnd9_at hjm hx8]; rfl, hS.below⟩

theorem strings_ret (xs ys : List ByteArray) (vx vy : Value) {w : World} {ro : Nat → Prop} (hro : ∀ b, ro b → b < w.heap.size) (hx : SlV ro w 1 StrC vx xs) (hy : SlV ro w 1 StrC vy ys) : Ret Try.prog 19 #[vx, vy] w fun v w' => v = .bool (decide (xs = ys)) ∧ Below w.heap.size w w' := by
 obtain ⟨ad, cap, rfl, haa, hab, hac, had⟩ := id hx
 have ham : xs.length ≤ 9223372036854775807 := by have h1 := haa; have h2 := hab; unfold maxLen at h2; omega
 obtain ⟨bd, cbp, rfl, hba, hbb, hbc, hbd⟩ := id hy
 have hbm : ys.length ≤ 9223372036854775807 := by have h1 := hba; have h2 := hbb; unfold maxLen at h2; omega
 refine Ret.enter (P := Try.prog) (n := 26) (args := [.slice ad xs.length cap, .slice bd ys.length cbp]) (σ := [(0, .slice ad xs.length cap), (1, .slice bd ys.length cbp)]) Try.func19 rfl rfl rfl rfl ?_
 have hS := St.start (ro := ro) hro
 refine W.seq ?_
 refine W.region ?_
 refine WL.assign rfl rfl rfl ?_
 refine WL.nil ?_
 refine N.seq ?_
 refine W.seq ?_
 refine W.seq ?_
 refine W.region ?_
 refine WL.move rfl rfl rfl ?_
 refine WL.lenSlice Try.underlying45 rfl rfl rfl ?_
 refine WL.move rfl rfl rfl ?_
 refine WL.lenSlice Try.underlying45 rfl rfl rfl ?_
 refine WL.bin rfl rfl rfl rfl rfl ?_
 refine WL.nil ?_
 refine N.seq ?_
 refine W.cond rfl (fun hc1 => ?_) (fun hc1 => ?_)
 ·
  have hc1p : ¬ ((xs.length : Int) = (ys.length : Int)) := by simpa using hc1
  refine W.seq ?_
  refine W.region ?_
  refine WL.assign rfl rfl rfl ?_
  refine WL.nil ?_
  refine N.seq ?_
  refine Fin.ret1 rfl (v := .bool false) rfl ?_
  have hne : ¬ xs = ys := by intro e; rw [e] at hc1p; simp at hc1p
  exact ⟨by rw [decide_eq_false hne], hS.below⟩
 have hc1p : (xs.length : Int) = (ys.length : Int) := by simpa using hc1
 refine W.skip ?_
 refine N.seq ?_
 refine W.seq ?_
 refine W.seq ?_
 refine W.region ?_
 refine WL.assign rfl rfl rfl ?_
 refine WL.nil ?_
 refine N.seq ?_
 refine W.block ?_
 refine W.loop (α := Nat) (fun (k : Nat) => [(0, .slice ad xs.length cap), (1, .slice bd ys.length cbp), (5, .int .i64 (k : Int)), (6, .slice ad xs.length cap), (7, .int .i64 (xs.length : Int)), (8, .slice bd ys.length cbp), (9, .int .i64 (ys.length : Int)), (10, .bool (!decide ((xs.length : Int) = (ys.length : Int))))]) (fun (k : Nat) u => St w w u ro [] [] ∧ k ≤ xs.length ∧ xs.take k = ys.take k) (fun (k : Nat) => xs.length - k) 0 ⟨rfl, rfl, rfl, rfl, rfl, rfl, rfl, rfl, trivial⟩ ⟨hS, Nat.zero_le _, rfl⟩ ?_
 clear hS
 rintro k w2 ⟨hS, hk, htk⟩
 refine W.seq ?_
 refine W.seq ?_
 refine W.region ?_
 refine WL.move rfl rfl rfl ?_
 refine WL.move rfl rfl rfl ?_
 refine WL.lenSlice Try.underlying45 rfl rfl rfl ?_
 refine WL.bin rfl rfl rfl rfl rfl ?_
 refine WL.nil ?_
 refine N.seq ?_
 refine W.cond rfl (fun hc3 => ?_) (fun hc3 => ?_)
 ·
  have hc3p : (k : Int) < (xs.length : Int) := by simpa using hc3
  refine W.skip ?_
  refine N.seq ?_
  refine W.seq ?_
  refine W.block ?_
  refine W.seq ?_
  have hj4 : k < xs.length := by omega
  obtain ⟨x4, hx4⟩ : ∃ zz, xs[k]? = some zz := ⟨_, List.getElem?_eq_getElem hj4⟩
  obtain ⟨b4, o4, cs4, hE4, hr4, hl4, hc4, hQ4⟩ := had k _ hx4
  obtain ⟨rfl, hsz4⟩ := hQ4
  have hj5 : k < ys.length := by omega
  obtain ⟨x5, hx5⟩ : ∃ zz, ys[k]? = some zz := ⟨_, List.getElem?_eq_getElem hj5⟩
  obtain ⟨b5, o5, cs5, hE5, hr5, hl5, hc5, hQ5⟩ := hbd k _ hx5
  obtain ⟨rfl, hsz5⟩ := hQ5
  refine W.drawL (by kernel_rfl) 9 ((.q (.slice ad xs.length cap)) :: (.q (.int .i64 (k : Int))) :: (.q (.pointer (some ⟨b4, o4 + k * 1, none⟩))) :: (.q (.string x4)) :: (.q (.slice bd ys.length cbp)) :: (.q (.int .i64 (k : Int))) :: (.q (.pointer (some ⟨b5, o5 + k * 1, none⟩))) :: (.q (.string x5)) :: (.q (.bool (!decide (x4 = x5)))) :: []) (by kernel_rfl) (by kernel_rfl) [(0, .slice ad xs.length cap), (1, .slice bd ys.length cbp), (5, .int .i64 (k : Int)), (6, .slice ad xs.length cap), (7, .int .i64 (xs.length : Int)), (8, .slice bd ys.length cbp), (9, .int .i64 (ys.length : Int)), (10, .bool (!decide ((xs.length : Int) = (ys.length : Int)))), (11, .int .i64 (k : Int)), (12, .slice ad xs.length cap), (13, .int .i64 (xs.length : Int)), (14, .bool (decide ((k : Int) < (xs.length : Int))))] ⟨rfl, rfl, rfl, rfl, rfl, rfl, rfl, rfl, rfl, rfl, rfl, rfl, trivial⟩ (by kernel_rfl) hS ?_ ?_
  ·
   refine And.intro (fun β w hS => ?_) ?_
   ·
    refine WL.sub (σ' := [(0, .slice ad xs.length cap)]) ⟨rfl, trivial⟩ ?_
    refine WL.move rfl rfl rfl ?_
    exact WL.nil (N.cut () ⟨rfl, trivial⟩ (Below.refl _ _))
   refine And.intro (fun β w hS => ?_) ?_
   ·
    refine WL.sub (σ' := [(5, .int .i64 (k : Int))]) ⟨rfl, trivial⟩ ?_
    refine WL.move rfl rfl rfl ?_
    exact WL.nil (N.cut () ⟨rfl, trivial⟩ (Below.refl _ _))
   refine And.intro (fun β w hS => ?_) ?_
   ·
    refine WL.sub (σ' := [(17, .slice ad xs.length cap), (18, .int .i64 (k : Int))]) ⟨rfl, rfl, trivial⟩ ?_
    refine WL.indexAddrE (j := k) Try.underlying45 isz_9 rfl rfl rfl rfl hj4 hE4 ?_
    exact WL.nil (N.cut () ⟨rfl, trivial⟩ (Below.refl _ _))
   refine And.intro (fun β w hS => ?_) ?_
   ·
    refine WL.sub (σ' := [(19, .pointer (some ⟨b4, o4 + k * 1, none⟩))]) ⟨rfl, trivial⟩ ?_
    refine WL.load1 (v := .string x4) one_9 rfl rfl rfl (hS.roCells hr4 hc4 0 _ rfl) ?_
    exact WL.nil (N.cut () ⟨rfl, trivial⟩ (Below.refl _ _))
   refine And.intro (fun β w hS => ?_) ?_
   ·
    refine WL.sub (σ' := [(1, .slice bd ys.length cbp)]) ⟨rfl, trivial⟩ ?_
    refine WL.move rfl rfl rfl ?_
    exact WL.nil (N.cut () ⟨rfl, trivial⟩ (Below.refl _ _))
   refine And.intro (fun β w hS => ?_) ?_
   ·
    refine WL.sub (σ' := [(5, .int .i64 (k : Int))]) ⟨rfl, trivial⟩ ?_
    refine WL.move rfl rfl rfl ?_
    exact WL.nil (N.cut () ⟨rfl, trivial⟩ (Below.refl _ _))
   refine And.intro (fun β w hS => ?_) ?_
   ·
    refine WL.sub (σ' := [(21, .slice bd ys.length cbp), (22, .int .i64 (k : Int))]) ⟨rfl, rfl, trivial⟩ ?_
    refine WL.indexAddrE (j := k) Try.underlying45 isz_9 rfl rfl rfl rfl hj5 hE5 ?_
    exact WL.nil (N.cut () ⟨rfl, trivial⟩ (Below.refl _ _))
   refine And.intro (fun β w hS => ?_) ?_
   ·
    refine WL.sub (σ' := [(23, .pointer (some ⟨b5, o5 + k * 1, none⟩))]) ⟨rfl, trivial⟩ ?_
    refine WL.load1 (v := .string x5) one_9 rfl rfl rfl (hS.roCells hr5 hc5 0 _ rfl) ?_
    exact WL.nil (N.cut () ⟨rfl, trivial⟩ (Below.refl _ _))
   refine And.intro (fun β w hS => ?_) ?_
   ·
    refine WL.sub (σ' := [(20, .string x4), (24, .string x5)]) ⟨rfl, rfl, trivial⟩ ?_
    refine WL.neStr rfl rfl rfl rfl ?_
    exact WL.nil (N.cut () ⟨rfl, trivial⟩ (Below.refl _ _))
   trivial
  clear hS; intro w6 β hS
  refine WL.sub (σ' := [(0, .slice ad xs.length cap), (1, .slice bd ys.length cbp), (5, .int .i64 (k : Int)), (6, .slice ad xs.length cap), (7, .int .i64 (xs.length : Int)), (8, .slice bd ys.length cbp), (9, .int .i64 (ys.length : Int)), (10, .bool (!decide ((xs.length : Int) = (ys.length : Int)))), (11, .int .i64 (k : Int)), (12, .slice ad xs.length cap), (13, .int .i64 (xs.length : Int)), (14, .bool (decide ((k : Int) < (xs.length : Int)))), (17, .slice ad xs.length cap), (18, .int .i64 (k : Int)), (19, .pointer (some ⟨b4, o4 + k * 1, none⟩)), (20, .string x4), (21, .slice bd ys.length cbp), (22, .int .i64 (k : Int)), (23, .pointer (some ⟨b5, o5 + k * 1, none⟩)), (24, .string x5), (25, .bool (!decide (x4 = x5)))]) ⟨rfl, rfl, rfl, rfl, rfl, rfl, rfl, rfl, rfl, rfl, rfl, rfl, rfl, rfl, rfl, rfl, rfl, rfl, rfl, rfl, rfl, trivial⟩ ?_
  refine WL.nil ?_
  refine N.seq ?_
  refine W.cond rfl (fun hc7 => ?_) (fun hc7 => ?_)
  ·
   have hc7p : ¬ (x4 = x5) := by simpa using hc7
   refine W.seq ?_
   refine W.region ?_
   refine WL.assign rfl rfl rfl ?_
   refine WL.nil ?_
   refine N.seq ?_
   refine Fin.ret1 rfl (v := .bool false) rfl ?_
   have hne : ¬ xs = ys := by
     intro e; rw [e, hx5] at hx4; rw [Option.some.inj hx4] at hc7p; simp at hc7p
   exact ⟨by rw [decide_eq_false hne], hS.below⟩
  have hc7p : x4 = x5 := by simpa using hc7
  refine W.skip ?_
  refine N.blk ?_
  refine N.seq ?_
  refine W.region ?_
  refine WL.move rfl rfl rfl ?_
  refine WL.add (c := (k : Int) + 1) rfl rfl rfl rfl (rfl) (by omega) ?_
  refine WL.assign rfl rfl rfl ?_
  refine WL.nil ?_
  have hxy : x4 = x5 := by simpa using hc7p
  have htk2 : xs.take (k + 1) = ys.take (k + 1) := by rw [take_next hx4, take_next hx5, htk, hxy]
  exact N.loop (k + 1) ⟨rfl, rfl, rfl, rfl, rfl, rfl, rfl, rfl, trivial⟩ ⟨hS, by omega, htk2⟩ (by first | omega | (simp only; omega))
 have hc3p : ¬ ((k : Int) < (xs.length : Int)) := by simpa using hc3
 refine W.exit ?_
 refine X.seq ?_
 refine X.loop ?_
 refine X.blk ?_
 refine N.seq ?_
 refine W.seq ?_
 refine W.region ?_
 refine WL.assign rfl rfl rfl ?_
 refine WL.nil ?_
 refine N.seq ?_
 refine Fin.ret1 rfl (v := .bool true) rfl ?_
 have e : xs = ys := take_full htk (by omega) (by omega)
 exact ⟨by rw [decide_eq_true e], hS.below⟩

end Go.Proofs.Ytenldpbbelhomaa
