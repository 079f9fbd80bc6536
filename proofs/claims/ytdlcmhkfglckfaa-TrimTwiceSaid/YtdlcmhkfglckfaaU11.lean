/-
  Contracts of what is right (marlineref05). No condition beyond those that each theorem states.
-/
import Derived.Test.YtdlcmhkfglckfaaA16
import Derived.Test.YtdlcmhkfglckfaaU10
namespace Go.Proofs.Ytdlcmhkfglckfaa
open Go.RowKit

theorem ints_ret (xs ys : List Int) (vx vy : Value) {w : World} {ro : Nat → Prop} (hro : ∀ b, ro b → b < w.heap.size) (hx : IntsV ro w vx xs) (hy : IntsV ro w vy ys) : Ret Try.prog 40 #[vx, vy] w fun v w' => v = .bool (decide (xs = ys)) ∧ Below w.heap.size w w' := by
 obtain ⟨ad, cap, rfl, haa, hab, hac, had⟩ := id hx
 have ham : xs.length ≤ 9223372036854775807 := by have h1 := haa; have h2 := hab; unfold maxLen at h2; omega
 obtain ⟨bd, cbp, rfl, hba, hbb, hbc, hbd⟩ := id hy
 have hbm : ys.length ≤ 9223372036854775807 := by have h1 := hba; have h2 := hbb; unfold maxLen at h2; omega
 refine Ret.enter (P := Try.prog) (n := 26) (args := [.slice ad xs.length cap, .slice bd ys.length cbp]) (σ := [(0, .slice ad xs.length cap), (1, .slice bd ys.length cbp)]) Try.func40 rfl rfl rfl rfl ?_
 have hS := St.start (ro := ro) hro
 refine W.seq ?_
 refine W.region ?_
 refine WL.assign rfl rfl rfl ?_
 refine WL.nil ?_
 refine N.seq ?_
 refine W.seq ?_
 refine W.seq ?_
 refine W.region ?_
 refine WL.move rfl rfl rfl ?_
 refine WL.lenSlice Try.underlying28 rfl rfl rfl ?_
 refine WL.move rfl rfl rfl ?_
 refine WL.lenSlice Try.underlying28 rfl rfl rfl ?_
 refine WL.bin rfl rfl rfl rfl rfl ?_
 refine WL.nil ?_
 refine N.seq ?_
 refine W.cond rfl (fun hc1 => ?_) (fun hc1 => ?_)
 ·
  have hc1p : ¬ ((xs.length : Int) = (ys.length : Int)) := by simpa using hc1
  refine W.seq ?_
  refine W.region ?_
  refine WL.assign rfl rfl rfl ?_
  refine WL.nil ?_
  refine N.seq ?_
  refine Fin.ret1 rfl (v := .bool false) rfl ?_
  have hne : ¬ xs = ys := by intro e; rw [e] at hc1p; simp at hc1p
  exact ⟨by rw [decide_eq_false hne], hS.below⟩
 have hc1p : (xs.length : Int) = (ys.length : Int) := by simpa using hc1
 refine W.skip ?_
 refine N.seq ?_
 refine W.seq ?_
 refine W.seq ?_
 refine W.region ?_
 refine WL.assign rfl rfl rfl ?_
 refine WL.nil ?_
 refine N.seq ?_
 refine W.block ?_
 refine W.loop (α := Nat) (fun (k : Nat) => [(0, .slice ad xs.length cap), (1, .slice bd ys.length cbp), (5, .int .i64 (k : Int)), (6, .slice ad xs.length cap), (7, .int .i64 (xs.length : Int)), (8, .slice bd ys.length cbp), (9, .int .i64 (ys.length : Int)), (10, .bool (!decide ((xs.length : Int) = (ys.length : Int))))]) (fun (k : Nat) u => St w w u ro [] [] ∧ k ≤ xs.length ∧ xs.take k = ys.take k) (fun (k : Nat) => xs.length - k) 0 ⟨rfl, rfl, rfl, rfl, rfl, rfl, rfl, rfl, trivial⟩ ⟨hS, Nat.zero_le _, rfl⟩ ?_
 clear hS
 rintro k w2 ⟨hS, hk, htk⟩
 refine W.seq ?_
 refine W.seq ?_
 refine W.region ?_
 refine WL.move rfl rfl rfl ?_
 refine WL.move rfl rfl rfl ?_
 refine WL.lenSlice Try.underlying28 rfl rfl rfl ?_
 refine WL.bin rfl rfl rfl rfl rfl ?_
 refine WL.nil ?_
 refine N.seq ?_
 refine W.cond rfl (fun hc3 => ?_) (fun hc3 => ?_)
 ·
  have hc3p : (k : Int) < (xs.length : Int) := by simpa using hc3
  refine W.skip ?_
  refine N.seq ?_
  refine W.seq ?_
  refine W.block ?_
  refine W.seq ?_
  have hj4 : k < xs.length := by omega
  obtain ⟨x4, hx4⟩ : ∃ zz, xs[k]? = some zz := ⟨_, List.getElem?_eq_getElem hj4⟩
  obtain ⟨b4, o4, cs4, hE4, hr4, hl4, hc4, hQ4⟩ := had k _ hx4
  obtain ⟨rfl, hi4⟩ := hQ4
  have hj5 : k < ys.length := by omega
  obtain ⟨x5, hx5⟩ : ∃ zz, ys[k]? = some zz := ⟨_, List.getElem?_eq_getElem hj5⟩
  obtain ⟨b5, o5, cs5, hE5, hr5, hl5, hc5, hQ5⟩ := hbd k _ hx5
  obtain ⟨rfl, hi5⟩ := hQ5
  refine W.drawL (by kernel_rfl) 9 [.q (.slice ad xs.length cap), .q (.int .i64 (k : Int)), .q (.pointer (some ⟨b4, o4 + k * 1, none⟩)), .q (.int .i64 x4), .q (.slice bd ys.length cbp), .q (.int .i64 (k : Int)), .q (.pointer (some ⟨b5, o5 + k * 1, none⟩)), .q (.int .i64 x5), .q (.bool (!decide (x4 = x5)))] (by kernel_rfl) rfl [(0, .slice ad xs.length cap), (1, .slice bd ys.length cbp), (5, .int .i64 (k : Int)), (6, .slice ad xs.length cap), (7, .int .i64 (xs.length : Int)), (8, .slice bd ys.length cbp), (9, .int .i64 (ys.length : Int)), (10, .bool (!decide ((xs.length : Int) = (ys.length : Int)))), (11, .int .i64 (k : Int)), (12, .slice ad xs.length cap), (13, .int .i64 (xs.length : Int)), (14, .bool (decide ((k : Int) < (xs.length : Int))))] ⟨rfl, rfl, rfl, rfl, rfl, rfl, rfl, rfl, rfl, rfl, rfl, rfl, trivial⟩ rfl hS ?_ ?_
  ·
   refine And.intro (fun β w hS => ?_) ?_
   ·
    refine WL.sub (σ' := [(0, .slice ad xs.length cap)]) ⟨rfl, trivial⟩ ?_
    refine WL.move rfl rfl rfl ?_
    exact WL.nil (N.cut () ⟨rfl, trivial⟩ (Below.refl _ _))
   refine And.intro (fun β w hS => ?_) ?_
   ·
    refine WL.sub (σ' := [(5, .int .i64 (k : Int))]) ⟨rfl, trivial⟩ ?_
    refine WL.move rfl rfl rfl ?_
    exact WL.nil (N.cut () ⟨rfl, trivial⟩ (Below.refl _ _))
   refine And.intro (fun β w hS => ?_) ?_
   ·
    refine WL.sub (σ' := [(17, .slice ad xs.length cap), (18, .int .i64 (k : Int))]) ⟨rfl, rfl, trivial⟩ ?_
    refine WL.indexAddrE (j := k) Try.underlying28 isz_3 rfl rfl rfl rfl hj4 hE4 ?_
    exact WL.nil (N.cut () ⟨rfl, trivial⟩ (Below.refl _ _))
   refine And.intro (fun β w hS => ?_) ?_
   ·
    refine WL.sub (σ' := [(19, .pointer (some ⟨b4, o4 + k * 1, none⟩))]) ⟨rfl, trivial⟩ ?_
    refine WL.load1 (v := .int .i64 x4) one_3 rfl rfl rfl (hS.roCells hr4 hc4 0 _ rfl) ?_
    exact WL.nil (N.cut () ⟨rfl, trivial⟩ (Below.refl _ _))
   refine And.intro (fun β w hS => ?_) ?_
   ·
    refine WL.sub (σ' := [(1, .slice bd ys.length cbp)]) ⟨rfl, trivial⟩ ?_
    refine WL.move rfl rfl rfl ?_
    exact WL.nil (N.cut () ⟨rfl, trivial⟩ (Below.refl _ _))
   refine And.intro (fun β w hS => ?_) ?_
   ·
    refine WL.sub (σ' := [(5, .int .i64 (k : Int))]) ⟨rfl, trivial⟩ ?_
    refine WL.move rfl rfl rfl ?_
    exact WL.nil (N.cut () ⟨rfl, trivial⟩ (Below.refl _ _))
   refine And.intro (fun β w hS => ?_) ?_
   ·
    refine WL.sub (σ' := [(21, .slice bd ys.length cbp), (22, .int .i64 (k : Int))]) ⟨rfl, rfl, trivial⟩ ?_
    refine WL.indexAddrE (j := k) Try.underlying28 isz_3 rfl rfl rfl rfl hj5 hE5 ?_
    exact WL.nil (N.cut () ⟨rfl, trivial⟩ (Below.refl _ _))
   refine And.intro (fun β w hS => ?_) ?_
   ·
    refine WL.sub (σ' := [(23, .pointer (some ⟨b5, o5 + k * 1, none⟩))]) ⟨rfl, trivial⟩ ?_
    refine WL.load1 (v := .int .i64 x5) one_3 rfl rfl rfl (hS.roCells hr5 hc5 0 _ rfl) ?_
    exact WL.nil (N.cut () ⟨rfl, trivial⟩ (Below.refl _ _))
   refine And.intro (fun β w hS => ?_) ?_
   ·
    refine WL.sub (σ' := [(20, .int .i64 x4), (24, .int .i64 x5)]) ⟨rfl, rfl, trivial⟩ ?_
    refine WL.bin rfl rfl rfl rfl rfl ?_
    exact WL.nil (N.cut () ⟨rfl, trivial⟩ (Below.refl _ _))
   trivial
  clear hS; intro w6 β hS
  refine WL.sub (σ' := [(0, .slice ad xs.length cap), (1, .slice bd ys.length cbp), (5, .int .i64 (k : Int)), (6, .slice ad xs.length cap), (7, .int .i64 (xs.length : Int)), (8, .slice bd ys.length cbp), (9, .int .i64 (ys.length : Int)), (10, .bool (!decide ((xs.length : Int) = (ys.length : Int)))), (11, .int .i64 (k : Int)), (12, .slice ad xs.length cap), (13, .int .i64 (xs.length : Int)), (14, .bool (decide ((k : Int) < (xs.length : Int)))), (17, .slice ad xs.length cap), (18, .int .i64 (k : Int)), (19, .pointer (some ⟨b4, o4 + k * 1, none⟩)), (20, .int .i64 x4), (21, .slice bd ys.length cbp), (22, .int .i64 (k : Int)), (23, .pointer (some ⟨b5, o5 + k * 1, none⟩)), (24, .int .i64 x5), (25, .bool (!decide (x4 = x5)))]) ⟨rfl, rfl, rfl, rfl, rfl, rfl, rfl, rfl, rfl, rfl, rfl, rfl, rfl, rfl, rfl, rfl, rfl, rfl, rfl, rfl, rfl, trivial⟩ ?_
  refine WL.nil ?_
  refine N.seq ?_
  refine W.cond rfl (fun hc7 => ?_) (fun hc7 => ?_)
  ·
   have hc7p : ¬ (x4 = x5) := by simpa using hc7
   refine W.seq ?_
   refine W.region ?_
   refine WL.assign rfl rfl rfl ?_
   refine WL.nil ?_
   refine N.seq ?_
   refine Fin.ret1 rfl (v := .bool false) rfl ?_
   have hne : ¬ xs = ys := by
     intro e; rw [e, hx5] at hx4; rw [Option.some.inj hx4] at hc7p; simp at hc7p
   exact ⟨by rw [decide_eq_false hne], hS.below⟩
  have hc7p : x4 = x5 := by simpa using hc7
  refine W.skip ?_
  refine N.blk ?_
  refine N.seq ?_
  refine W.region ?_
  refine WL.move rfl rfl rfl ?_
  refine WL.add (c := (k : Int) + 1) rfl rfl rfl rfl (rfl) (by omega) ?_
  refine WL.assign rfl rfl rfl ?_
  refine WL.nil ?_
  have hxy : x4 = x5 := by simpa using hc7p
  have htk2 : xs.take (k + 1) = ys.take (k + 1) := by rw [take_next hx4, take_next hx5, htk, hxy]
  exact N.loop (k + 1) ⟨rfl, rfl, rfl, rfl, rfl, rfl, rfl, rfl, trivial⟩ ⟨hS, by omega, htk2⟩ (by first | omega | (simp only; omega))
 have hc3p : ¬ ((k : Int) < (xs.length : Int)) := by simpa using hc3
 refine W.exit ?_
 refine X.seq ?_
 refine X.loop ?_
 refine X.blk ?_
 refine N.seq ?_
 refine W.seq ?_
 refine W.region ?_
 refine WL.assign rfl rfl rfl ?_
 refine WL.nil ?_
 refine N.seq ?_
 refine Fin.ret1 rfl (v := .bool true) rfl ?_
 have e : xs = ys := take_full htk (by omega) (by omega)
 exact ⟨by rw [decide_eq_true e], hS.below⟩

theorem sameInst_ret (x y : DInst) (cx cy : List Value) {w : World} {ro : Nat → Prop} (hro : ∀ b, ro b → b < w.heap.size) (hx : InstC ro w cx x) (hy : InstC ro w cy y) : Ret Try.prog 41 #[.agg cx.toArray, .agg cy.toArray] w fun v w' => v = .bool (decide (x = y)) ∧ Below w.heap.size w w' := by
 have hQx := hx
 have hQy := hy
 obtain ⟨sx, rfl, hsx, hox, hax, hbx, hkx, hnx⟩ := id hx
 obtain ⟨adx, capx, rfl, hsxa, hsxb, hsxc, hsxd⟩ := id hsx
 have hsxm : x.args.length ≤ 9223372036854775807 := by have h1 := hsxa; have h2 := hsxb; unfold maxLen at h2; omega
 obtain ⟨sy, rfl, hsy, hoy, hay, hby, hky, hny⟩ := id hy
 obtain ⟨ady, capy, rfl, hsya, hsyb, hsyc, hsyd⟩ := id hsy
 have hsym : y.args.length ≤ 9223372036854775807 := by have h1 := hsya; have h2 := hsyb; unfold maxLen at h2; omega
 refine Ret.enter (P := Try.prog) (n := 47) (args := [.agg #[.int .i64 x.op, .int .i64 x.a, .int .i64 x.b, .int .u64 x.k, .string x.name, .slice adx x.args.length capx], .agg #[.int .i64 y.op, .int .i64 y.a, .int .i64 y.b, .int .u64 y.k, .string y.name, .slice ady y.args.length capy]]) (σ := [(0, .agg #[.int .i64 x.op, .int .i64 x.a, .int .i64 x.b, .int .u64 x.k, .string x.name, .slice adx x.args.length capx]), (1, .agg #[.int .i64 y.op, .int .i64 y.a, .int .i64 y.b, .int .u64 y.k, .string y.name, .slice ady y.args.length capy])]) Try.func41 rfl rfl rfl rfl ?_
 have hS := St.start (ro := ro) hro
 refine W.seq ?_
 refine W.region ?_
 refine WL.box (v := .agg #[.int .i64 x.op, .int .i64 x.a, .int .i64 x.b, .int .u64 x.k, .string x.name, .slice adx x.args.length capx]) (cs := [.int .i64 x.op, .int .i64 x.a, .int .i64 x.b, .int .u64 x.k, .string x.name, .slice adx x.args.length capx]) rfl rfl rfl rfl hS ?_
 clear hS; intro w2 b1 hb_b1 hS
 refine WL.box (v := .agg #[.int .i64 y.op, .int .i64 y.a, .int .i64 y.b, .int .u64 y.k, .string y.name, .slice ady y.args.length capy]) (cs := [.int .i64 y.op, .int .i64 y.a, .int .i64 y.b, .int .u64 y.k, .string y.name, .slice ady y.args.length capy]) rfl rfl rfl rfl hS ?_
 clear hS; intro w4 b3 hb_b3 hS
 refine WL.assign rfl rfl rfl ?_
 refine WL.nil ?_
 refine N.seq ?_
 refine W.seq ?_
 refine W.region ?_
 refine WL.fieldAddr fo_36_5 rfl rfl rfl ?_
 refine WL.load1 (v := .slice adx x.args.length capx) one_28 rfl rfl rfl (hS.cell 1 rfl rfl) ?_
 refine WL.fieldAddr fo_36_5 rfl rfl rfl ?_
 refine WL.load1 (v := .slice ady y.args.length capy) one_28 rfl rfl rfl (hS.cell 0 rfl rfl) ?_
 refine WL.callF (vs := [.slice adx x.args.length capx, .slice ady y.args.length capy]) Try.func40 (by kernel_rfl) rfl rfl rfl (ints_ret x.args y.args _ _ (ro := ro) (fun b hb => (hS.snap b hb).1) (hsx.keep hS.alike) (hsy.keep hS.alike)) ?_
 rintro v w5 ⟨rfl, hbl⟩
 replace hS := hS.grow hbl
 refine WL.assign rfl rfl rfl ?_
 refine WL.nil ?_
 refine N.seq ?_
 refine W.seq ?_
 refine W.region ?_
 refine WL.move rfl rfl rfl ?_
 refine WL.move rfl rfl rfl ?_
 cases hg6 : (decide (x.args = y.args))
 ·
  have hg6p : ¬ (x.args = y.args) := by simpa using hg6
  refine WL.skp rfl rfl ?_
  refine WL.skp rfl rfl ?_
  refine WL.skp rfl rfl ?_
  refine WL.skp rfl rfl ?_
  refine WL.skp rfl rfl ?_
  refine WL.pick (v := .bool false) rfl rfl rfl rfl rfl rfl ?_
  refine WL.move rfl rfl rfl ?_
  refine WL.skp rfl rfl ?_
  refine WL.skp rfl rfl ?_
  refine WL.skp rfl rfl ?_
  refine WL.skp rfl rfl ?_
  refine WL.skp rfl rfl ?_
  refine WL.pick (v := .bool false) rfl rfl rfl rfl rfl rfl ?_
  refine WL.move rfl rfl rfl ?_
  refine WL.skp rfl rfl ?_
  refine WL.skp rfl rfl ?_
  refine WL.skp rfl rfl ?_
  refine WL.skp rfl rfl ?_
  refine WL.skp rfl rfl ?_
  refine WL.pick (v := .bool false) rfl rfl rfl rfl rfl rfl ?_
  refine WL.move rfl rfl rfl ?_
  refine WL.skp rfl rfl ?_
  refine WL.skp rfl rfl ?_
  refine WL.skp rfl rfl ?_
  refine WL.skp rfl rfl ?_
  refine WL.skp rfl rfl ?_
  refine WL.pick (v := .bool false) rfl rfl rfl rfl rfl rfl ?_
  refine WL.move rfl rfl rfl ?_
  refine WL.skp rfl rfl ?_
  refine WL.skp rfl rfl ?_
  refine WL.skp rfl rfl ?_
  refine WL.skp rfl rfl ?_
  refine WL.skp rfl rfl ?_
  refine WL.pick (v := .bool false) rfl rfl rfl rfl rfl rfl ?_
  refine WL.assign rfl rfl rfl ?_
  refine WL.nil ?_
  refine N.seq ?_
  refine Fin.ret1 rfl (v := .bool false) rfl ?_
  clear hx hy hQx hQy hsx hsy hsxd hsyd
  have hbz := hS.below
  clear hS
  refine ⟨?_, hbz⟩
  congr 1
  cases x; cases y; simp_all
 have hg6p : x.args = y.args := by simpa using hg6
 refine WL.fieldAddr fo_36_0 rfl rfl rfl ?_
 refine WL.load1 (v := .int .i64 x.op) one_3 rfl rfl rfl (hS.cell 1 rfl rfl) ?_
 refine WL.fieldAddr fo_36_0 rfl rfl rfl ?_
 refine WL.load1 (v := .int .i64 y.op) one_3 rfl rfl rfl (hS.cell 0 rfl rfl) ?_
 refine WL.bin rfl rfl rfl rfl rfl ?_
 refine WL.pick (v := .bool (decide (x.op = y.op))) rfl rfl rfl rfl rfl rfl ?_
 refine WL.move rfl rfl rfl ?_
 cases hg7 : (decide (x.op = y.op))
 ·
  have hg7p : ¬ (x.op = y.op) := by simpa using hg7
  refine WL.skp rfl rfl ?_
  refine WL.skp rfl rfl ?_
  refine WL.skp rfl rfl ?_
  refine WL.skp rfl rfl ?_
  refine WL.skp rfl rfl ?_
  refine WL.pick (v := .bool false) rfl rfl rfl rfl rfl rfl ?_
  refine WL.move rfl rfl rfl ?_
  refine WL.skp rfl rfl ?_
  refine WL.skp rfl rfl ?_
  refine WL.skp rfl rfl ?_
  refine WL.skp rfl rfl ?_
  refine WL.skp rfl rfl ?_
  refine WL.pick (v := .bool false) rfl rfl rfl rfl rfl rfl ?_
  refine WL.move rfl rfl rfl ?_
  refine WL.skp rfl rfl ?_
  refine WL.skp rfl rfl ?_
  refine WL.skp rfl rfl ?_
  refine WL.skp rfl rfl ?_
  refine WL.skp rfl rfl ?_
  refine WL.pick (v := .bool false) rfl rfl rfl rfl rfl rfl ?_
  refine WL.move rfl rfl rfl ?_
  refine WL.skp rfl rfl ?_
  refine WL.skp rfl rfl ?_
  refine WL.skp rfl rfl ?_
  refine WL.skp rfl rfl ?_
  refine WL.skp rfl rfl ?_
  refine WL.pick (v := .bool false) rfl rfl rfl rfl rfl rfl ?_
  refine WL.assign rfl rfl rfl ?_
  refine WL.nil ?_
  refine N.seq ?_
  refine Fin.ret1 rfl (v := .bool false) rfl ?_
  clear hx hy hQx hQy hsx hsy hsxd hsyd
  have hbz := hS.below
  clear hS
  refine ⟨?_, hbz⟩
  congr 1
  cases x; cases y; simp_all
 have hg7p : x.op = y.op := by simpa using hg7
 refine WL.fieldAddr fo_36_1 rfl rfl rfl ?_
 refine WL.load1 (v := .int .i64 x.a) one_3 rfl rfl rfl (hS.cell 1 rfl rfl) ?_
 refine WL.fieldAddr fo_36_1 rfl rfl rfl ?_
 refine WL.load1 (v := .int .i64 y.a) one_3 rfl rfl rfl (hS.cell 0 rfl rfl) ?_
 refine WL.bin rfl rfl rfl rfl rfl ?_
 refine WL.pick (v := .bool (decide (x.a = y.a))) rfl rfl rfl rfl rfl rfl ?_
 refine WL.move rfl rfl rfl ?_
 cases hg8 : (decide (x.a = y.a))
 ·
  have hg8p : ¬ (x.a = y.a) := by simpa using hg8
  refine WL.skp rfl rfl ?_
  refine WL.skp rfl rfl ?_
  refine WL.skp rfl rfl ?_
  refine WL.skp rfl rfl ?_
  refine WL.skp rfl rfl ?_
  refine WL.pick (v := .bool false) rfl rfl rfl rfl rfl rfl ?_
  refine WL.move rfl rfl rfl ?_
  refine WL.skp rfl rfl ?_
  refine WL.skp rfl rfl ?_
  refine WL.skp rfl rfl ?_
  refine WL.skp rfl rfl ?_
  refine WL.skp rfl rfl ?_
  refine WL.pick (v := .bool false) rfl rfl rfl rfl rfl rfl ?_
  refine WL.move rfl rfl rfl ?_
  refine WL.skp rfl rfl ?_
  refine WL.skp rfl rfl ?_
  refine WL.skp rfl rfl ?_
  refine WL.skp rfl rfl ?_
  refine WL.skp rfl rfl ?_
  refine WL.pick (v := .bool false) rfl rfl rfl rfl rfl rfl ?_
  refine WL.assign rfl rfl rfl ?_
  refine WL.nil ?_
  refine N.seq ?_
  refine Fin.ret1 rfl (v := .bool false) rfl ?_
  clear hx hy hQx hQy hsx hsy hsxd hsyd
  have hbz := hS.below
  clear hS
  refine ⟨?_, hbz⟩
  congr 1
  cases x; cases y; simp_all
 have hg8p : x.a = y.a := by simpa using hg8
 refine WL.fieldAddr fo_36_2 rfl rfl rfl ?_
 refine WL.load1 (v := .int .i64 x.b) one_3 rfl rfl rfl (hS.cell 1 rfl rfl) ?_
 refine WL.fieldAddr fo_36_2 rfl rfl rfl ?_
 refine WL.load1 (v := .int .i64 y.b) one_3 rfl rfl rfl (hS.cell 0 rfl rfl) ?_
 refine WL.bin rfl rfl rfl rfl rfl ?_
 refine WL.pick (v := .bool (decide (x.b = y.b))) rfl rfl rfl rfl rfl rfl ?_
 refine WL.move rfl rfl rfl ?_
 cases hg9 : (decide (x.b = y.b))
 ·
  have hg9p : ¬ (x.b = y.b) := by simpa using hg9
  refine WL.skp rfl rfl ?_
  refine WL.skp rfl rfl ?_
  refine WL.skp rfl rfl ?_
  refine WL.skp rfl rfl ?_
  refine WL.skp rfl rfl ?_
  refine WL.pick (v := .bool false) rfl rfl rfl rfl rfl rfl ?_
  refine WL.move rfl rfl rfl ?_
  refine WL.skp rfl rfl ?_
  refine WL.skp rfl rfl ?_
  refine WL.skp rfl rfl ?_
  refine WL.skp rfl rfl ?_
  refine WL.skp rfl rfl ?_
  refine WL.pick (v := .bool false) rfl rfl rfl rfl rfl rfl ?_
  refine WL.assign rfl rfl rfl ?_
  refine WL.nil ?_
  refine N.seq ?_
  refine Fin.ret1 rfl (v := .bool false) rfl ?_
  clear hx hy hQx hQy hsx hsy hsxd hsyd
  have hbz := hS.below
  clear hS
  refine ⟨?_, hbz⟩
  congr 1
  cases x; cases y; simp_all
 have hg9p : x.b = y.b := by simpa using hg9
 refine WL.fieldAddr fo_36_3 rfl rfl rfl ?_
 refine WL.load1 (v := .int .u64 x.k) one_34 rfl rfl rfl (hS.cell 1 rfl rfl) ?_
 refine WL.fieldAddr fo_36_3 rfl rfl rfl ?_
 refine WL.load1 (v := .int .u64 y.k) one_34 rfl rfl rfl (hS.cell 0 rfl rfl) ?_
 refine WL.bin rfl rfl rfl rfl rfl ?_
 refine WL.pick (v := .bool (decide (x.k = y.k))) rfl rfl rfl rfl rfl rfl ?_
 refine WL.move rfl rfl rfl ?_
 cases hg10 : (decide (x.k = y.k))
 ·
  have hg10p : ¬ (x.k = y.k) := by simpa using hg10
  refine WL.skp rfl rfl ?_
  refine WL.skp rfl rfl ?_
  refine WL.skp rfl rfl ?_
  refine WL.skp rfl rfl ?_
  refine WL.skp rfl rfl ?_
  refine WL.pick (v := .bool false) rfl rfl rfl rfl rfl rfl ?_
  refine WL.assign rfl rfl rfl ?_
  refine WL.nil ?_
  refine N.seq ?_
  refine Fin.ret1 rfl (v := .bool false) rfl ?_
  clear hx hy hQx hQy hsx hsy hsxd hsyd
  have hbz := hS.below
  clear hS
  refine ⟨?_, hbz⟩
  congr 1
  cases x; cases y; simp_all
 have hg10p : x.k = y.k := by simpa using hg10
 refine WL.fieldAddr fo_36_4 rfl rfl rfl ?_
 refine WL.load1 (v := .string x.name) one_9 rfl rfl rfl (hS.cell 1 rfl rfl) ?_
 refine WL.fieldAddr fo_36_4 rfl rfl rfl ?_
 refine WL.load1 (v := .string y.name) one_9 rfl rfl rfl (hS.cell 0 rfl rfl) ?_
 refine WL.eqStr rfl rfl rfl rfl ?_
 refine WL.pick (v := .bool (decide (x.name = y.name))) rfl rfl rfl rfl rfl rfl ?_
 refine WL.assign rfl rfl rfl ?_
 refine WL.nil ?_
 refine N.seq ?_
 refine Fin.ret1 rfl (v := .bool (decide (x.name = y.name))) rfl ?_
 clear hx hy hQx hQy hsx hsy hsxd hsyd
 have hbz := hS.below
 clear hS
 refine ⟨?_, hbz⟩
 congr 1
 cases x; cases y; simp_all

theorem dblock_eq {x y : DBlock} (h1 : x.params = y.params) (h2 : x.ins = y.ins) (h3 : x.fin = y.fin) : x = y := by cases x; cases y; simp_all
theorem dterm_eq {x y : DTerm} (h1 : x.kind = y.kind) (h2 : x.a = y.a) (h3 : x.to = y.to) (h4 : x.args = y.args) (h5 : x.els = y.els) (h6 : x.elses = y.elses) : x = y := by cases x; cases y; simp_all
theorem dfunc_eq {x y : DFunc} (h1 : x.name = y.name) (h2 : x.bind = y.bind) (h3 : x.params = y.params) (h4 : x.blocks = y.blocks) : x = y := by cases x; cases y; simp_all
theorem dmod_eq {x y : DMod} (h1 : x.funcs = y.funcs) (h2 : x.globs = y.globs) : x = y := by cases x; cases y; simp_all

theorem sameBlock_ret (x y : DBlock) (cx cy : List Value) {w : World} {ro : Nat → Prop} (hro : ∀ b, ro b → b < w.heap.size) (hx : BlockC ro w cx x) (hy : BlockC ro w cy y) : Ret Try.prog 19 #[.agg cx.toArray, .agg cy.toArray] w fun v w' => v = .bool (decide (x = y)) ∧ Below w.heap.size w w' := by
 obtain ⟨six, tsxx, rfl, hinx, hfinx, hparx⟩ := id hx
 obtain ⟨adix, capix, rfl, hinxa, hinxb, hinxc, hinxd⟩ := id hinx
 have hinxm : x.ins.length ≤ 9223372036854775807 := by have h1 := hinxa; have h2 := hinxb; unfold maxLen at h2; omega
 obtain ⟨spx, sqx, rfl, ht1x, ht2x, htkx, htax, httx, htex⟩ := id hfinx
 obtain ⟨adpx, cappx, rfl, htpxa, htpxb, htpxc, htpxd⟩ := id ht1x
 have htpxm : x.fin.args.length ≤ 9223372036854775807 := by have h1 := htpxa; have h2 := htpxb; unfold maxLen at h2; omega
 obtain ⟨adqx, capqx, rfl, htqxa, htqxb, htqxc, htqxd⟩ := id ht2x
 have htqxm : x.fin.elses.length ≤ 9223372036854775807 := by have h1 := htqxa; have h2 := htqxb; unfold maxLen at h2; omega
 obtain ⟨siy, tsxy, rfl, hiny, hfiny, hpary⟩ := id hy
 obtain ⟨adiy, capiy, rfl, hinya, hinyb, hinyc, hinyd⟩ := id hiny
 have hinym : y.ins.length ≤ 9223372036854775807 := by have h1 := hinya; have h2 := hinyb; unfold maxLen at h2; omega
 obtain ⟨spy, sqy, rfl, ht1y, ht2y, htky, htay, htty, htey⟩ := id hfiny
 obtain ⟨adpy, cappy, rfl, htpya, htpyb, htpyc, htpyd⟩ := id ht1y
 have htpym : y.fin.args.length ≤ 9223372036854775807 := by have h1 := htpya; have h2 := htpyb; unfold maxLen at h2; omega
 obtain ⟨adqy, capqy, rfl, htqya, htqyb, htqyc, htqyd⟩ := id ht2y
 have htqym : y.fin.elses.length ≤ 9223372036854775807 := by have h1 := htqya; have h2 := htqyb; unfold maxLen at h2; omega
 refine Ret.enter (P := Try.prog) (n := 98) (args := [.agg #[.int .i64 x.params, .slice adix x.ins.length capix, .int .i64 x.fin.kind, .int .i64 x.fin.a, .int .i64 x.fin.to, .slice adpx x.fin.args.length cappx, .int .i64 x.fin.els, .slice adqx x.fin.elses.length capqx], .agg #[.int .i64 y.params, .slice adiy y.ins.length capiy, .int .i64 y.fin.kind, .int .i64 y.fin.a, .int .i64 y.fin.to, .slice adpy y.fin.args.length cappy, .int .i64 y.fin.els, .slice adqy y.fin.elses.length capqy]]) (σ := [(0, .agg #[.int .i64 x.params, .slice adix x.ins.length capix, .int .i64 x.fin.kind, .int .i64 x.fin.a, .int .i64 x.fin.to, .slice adpx x.fin.args.length cappx, .int .i64 x.fin.els, .slice adqx x.fin.elses.length capqx]), (1, .agg #[.int .i64 y.params, .slice adiy y.ins.length capiy, .int .i64 y.fin.kind, .int .i64 y.fin.a, .int .i64 y.fin.to, .slice adpy y.fin.args.length cappy, .int .i64 y.fin.els, .slice adqy y.fin.elses.length capqy])]) Try.func19 rfl rfl rfl rfl ?_
 have hS := St.start (ro := ro) hro
 refine W.seq ?_
 refine W.region ?_
 refine WL.box (v := .agg #[.int .i64 x.params, .slice adix x.ins.length capix, .int .i64 x.fin.kind, .int .i64 x.fin.a, .int .i64 x.fin.to, .slice adpx x.fin.args.length cappx, .int .i64 x.fin.els, .slice adqx x.fin.elses.length capqx]) (cs := [.int .i64 x.params, .slice adix x.ins.length capix, .int .i64 x.fin.kind, .int .i64 x.fin.a, .int .i64 x.fin.to, .slice adpx x.fin.args.length cappx, .int .i64 x.fin.els, .slice adqx x.fin.elses.length capqx]) rfl rfl rfl rfl hS ?_
 clear hS; intro w2 b1 hb_b1 hS
 refine WL.box (v := .agg #[.int .i64 y.params, .slice adiy y.ins.length capiy, .int .i64 y.fin.kind, .int .i64 y.fin.a, .int .i64 y.fin.to, .slice adpy y.fin.args.length cappy, .int .i64 y.fin.els, .slice adqy y.fin.elses.length capqy]) (cs := [.int .i64 y.params, .slice adiy y.ins.length capiy, .int .i64 y.fin.kind, .int .i64 y.fin.a, .int .i64 y.fin.to, .slice adpy y.fin.args.length cappy, .int .i64 y.fin.els, .slice adqy y.fin.elses.length capqy]) rfl rfl rfl rfl hS ?_
 clear hS; intro w4 b3 hb_b3 hS
 refine WL.assign rfl rfl rfl ?_
 refine WL.nil ?_
 refine N.seq ?_
 refine W.seq ?_
 refine W.region ?_
 refine WL.fieldAddr fo_32_2 rfl rfl rfl ?_
 refine WL.fieldAddr fo_30_3 rfl rfl rfl ?_
 refine WL.load1 (v := .slice adpx x.fin.args.length cappx) one_28 rfl rfl rfl (hS.cell 1 rfl rfl) ?_
 refine WL.fieldAddr fo_32_2 rfl rfl rfl ?_
 refine WL.fieldAddr fo_30_3 rfl rfl rfl ?_
 refine WL.load1 (v := .slice adpy y.fin.args.length cappy) one_28 rfl rfl rfl (hS.cell 0 rfl rfl) ?_
 refine WL.callF (vs := [.slice adpx x.fin.args.length cappx, .slice adpy y.fin.args.length cappy]) Try.func40 (by kernel_rfl) rfl rfl rfl (ints_ret x.fin.args y.fin.args _ _ (ro := ro) (fun b hb => (hS.snap b hb).1) (ht1x.keep hS.alike) (ht1y.keep hS.alike)) ?_
 rintro v w5 ⟨rfl, hbl⟩
 replace hS := hS.grow hbl
 refine WL.move rfl rfl rfl ?_
 cases hg6 : (decide (x.fin.args = y.fin.args))
 ·
  have hg6p : ¬ (x.fin.args = y.fin.args) := by simpa using hg6
  refine WL.skp rfl rfl ?_
  refine WL.skp rfl rfl ?_
  refine WL.skp rfl rfl ?_
  refine WL.skp rfl rfl ?_
  refine WL.skp rfl rfl ?_
  refine WL.skp rfl rfl ?_
  refine WL.skp rfl rfl ?_
  refine WL.pick (v := .bool false) rfl rfl rfl rfl rfl rfl ?_
  refine WL.assign rfl rfl rfl ?_
  refine WL.nil ?_
  refine N.seq ?_
  refine W.seq ?_
  refine W.seq ?_
  refine W.region ?_
  refine WL.move rfl rfl rfl ?_
  refine WL.not rfl rfl rfl ?_
  refine WL.set 25 (v' := .bool true) rfl rfl ?_
  refine WL.move rfl rfl rfl ?_
  refine WL.skp rfl rfl ?_
  refine WL.skp rfl rfl ?_
  refine WL.skp rfl rfl ?_
  refine WL.skp rfl rfl ?_
  refine WL.skp rfl rfl ?_
  refine WL.pick (v := .bool true) rfl rfl rfl rfl rfl rfl ?_
  refine WL.move rfl rfl rfl ?_
  refine WL.skp rfl rfl ?_
  refine WL.skp rfl rfl ?_
  refine WL.skp rfl rfl ?_
  refine WL.skp rfl rfl ?_
  refine WL.skp rfl rfl ?_
  refine WL.skp rfl rfl ?_
  refine WL.skp rfl rfl ?_
  refine WL.pick (v := .bool true) rfl rfl rfl rfl rfl rfl ?_
  refine WL.move rfl rfl rfl ?_
  refine WL.skp rfl rfl ?_
  refine WL.skp rfl rfl ?_
  refine WL.skp rfl rfl ?_
  refine WL.skp rfl rfl ?_
  refine WL.skp rfl rfl ?_
  refine WL.skp rfl rfl ?_
  refine WL.skp rfl rfl ?_
  refine WL.pick (v := .bool true) rfl rfl rfl rfl rfl rfl ?_
  refine WL.move rfl rfl rfl ?_
  refine WL.skp rfl rfl ?_
  refine WL.skp rfl rfl ?_
  refine WL.skp rfl rfl ?_
  refine WL.skp rfl rfl ?_
  refine WL.skp rfl rfl ?_
  refine WL.skp rfl rfl ?_
  refine WL.skp rfl rfl ?_
  refine WL.pick (v := .bool true) rfl rfl rfl rfl rfl rfl ?_
  refine WL.move rfl rfl rfl ?_
  refine WL.skp rfl rfl ?_
  refine WL.skp rfl rfl ?_
  refine WL.skp rfl rfl ?_
  refine WL.skp rfl rfl ?_
  refine WL.skp rfl rfl ?_
  refine WL.skp rfl rfl ?_
  refine WL.skp rfl rfl ?_
  refine WL.pick (v := .bool true) rfl rfl rfl rfl rfl rfl ?_
  refine WL.move rfl rfl rfl ?_
  refine WL.skp rfl rfl ?_
  refine WL.skp rfl rfl ?_
  refine WL.skp rfl rfl ?_
  refine WL.skp rfl rfl ?_
  refine WL.skp rfl rfl ?_
  refine WL.skp rfl rfl ?_
  refine WL.skp rfl rfl ?_
  refine WL.pick (v := .bool true) rfl rfl rfl rfl rfl rfl ?_
  refine WL.nil ?_
  refine N.seq ?_
  refine W.condT rfl ?_
  refine W.seq ?_
  refine W.region ?_
  refine WL.assign rfl rfl rfl ?_
  refine WL.nil ?_
  refine N.seq ?_
  refine Fin.ret1 rfl (v := .bool false) rfl ?_
  have hne : ¬ x = y := by
    intro e; rw [e] at hg6p; simp at hg6p
  exact ⟨by rw [decide_eq_false hne], hS.below⟩
 have hg6p : x.fin.args = y.fin.args := by simpa using hg6
 refine WL.fieldAddr fo_32_2 rfl rfl rfl ?_
 refine WL.fieldAddr fo_30_5 rfl rfl rfl ?_
 refine WL.load1 (v := .slice adqx x.fin.elses.length capqx) one_28 rfl rfl rfl (hS.cell 1 rfl rfl) ?_
 refine WL.fieldAddr fo_32_2 rfl rfl rfl ?_
 refine WL.fieldAddr fo_30_5 rfl rfl rfl ?_
 refine WL.load1 (v := .slice adqy y.fin.elses.length capqy) one_28 rfl rfl rfl (hS.cell 0 rfl rfl) ?_
 refine WL.callF (vs := [.slice adqx x.fin.elses.length capqx, .slice adqy y.fin.elses.length capqy]) Try.func40 (by kernel_rfl) rfl rfl rfl (ints_ret x.fin.elses y.fin.elses _ _ (ro := ro) (fun b hb => (hS.snap b hb).1) (ht2x.keep hS.alike) (ht2y.keep hS.alike)) ?_
 rintro v w7 ⟨rfl, hbl⟩
 replace hS := hS.grow hbl
 refine WL.pick (v := .bool (decide (x.fin.elses = y.fin.elses))) rfl rfl rfl rfl rfl rfl ?_
 refine WL.assign rfl rfl rfl ?_
 refine WL.nil ?_
 refine N.seq ?_
 refine W.seq ?_
 refine W.seq ?_
 refine W.region ?_
 refine WL.move rfl rfl rfl ?_
 refine WL.not rfl rfl rfl ?_
 refine WL.move rfl rfl rfl ?_
 cases hg8 : (!(decide (x.fin.elses = y.fin.elses)))
 ·
  have hg8p : x.fin.elses = y.fin.elses := by simpa using hg8
  refine WL.fieldAddr fo_32_0 rfl rfl rfl ?_
  refine WL.load1 (v := .int .i64 x.params) one_3 rfl rfl rfl (hS.cell 1 rfl rfl) ?_
  refine WL.fieldAddr fo_32_0 rfl rfl rfl ?_
  refine WL.load1 (v := .int .i64 y.params) one_3 rfl rfl rfl (hS.cell 0 rfl rfl) ?_
  refine WL.bin rfl rfl rfl rfl rfl ?_
  refine WL.pick (v := .bool (!decide (x.params = y.params))) rfl rfl rfl rfl rfl rfl ?_
  refine WL.move rfl rfl rfl ?_
  cases hg9 : (!decide (x.params = y.params))
  ·
   have hg9p : x.params = y.params := by simpa using hg9
   refine WL.fieldAddr fo_32_1 rfl rfl rfl ?_
   refine WL.load1 (v := .slice adix x.ins.length capix) one_27 rfl rfl rfl (hS.cell 1 rfl rfl) ?_
   refine WL.lenSlice Try.underlying27 rfl rfl rfl ?_
   refine WL.fieldAddr fo_32_1 rfl rfl rfl ?_
   refine WL.load1 (v := .slice adiy y.ins.length capiy) one_27 rfl rfl rfl (hS.cell 0 rfl rfl) ?_
   refine WL.lenSlice Try.underlying27 rfl rfl rfl ?_
   refine WL.bin rfl rfl rfl rfl rfl ?_
   refine WL.pick (v := .bool (!decide ((x.ins.length : Int) = (y.ins.length : Int)))) rfl rfl rfl rfl rfl rfl ?_
   refine WL.move rfl rfl rfl ?_
   cases hg10 : (!decide ((x.ins.length : Int) = (y.ins.length : Int)))
   ·
    have hg10p : (x.ins.length : Int) = (y.ins.length : Int) := by simpa using hg10
    refine WL.fieldAddr fo_32_2 rfl rfl rfl ?_
    refine WL.fieldAddr fo_30_0 rfl rfl rfl ?_
    refine WL.load1 (v := .int .i64 x.fin.kind) one_3 rfl rfl rfl (hS.cell 1 rfl rfl) ?_
    refine WL.fieldAddr fo_32_2 rfl rfl rfl ?_
    refine WL.fieldAddr fo_30_0 rfl rfl rfl ?_
    refine WL.load1 (v := .int .i64 y.fin.kind) one_3 rfl rfl rfl (hS.cell 0 rfl rfl) ?_
    refine WL.bin rfl rfl rfl rfl rfl ?_
    refine WL.pick (v := .bool (!decide (x.fin.kind = y.fin.kind))) rfl rfl rfl rfl rfl rfl ?_
    refine WL.move rfl rfl rfl ?_
    cases hg11 : (!decide (x.fin.kind = y.fin.kind))
    ·
     have hg11p : x.fin.kind = y.fin.kind := by simpa using hg11
     refine WL.fieldAddr fo_32_2 rfl rfl rfl ?_
     refine WL.fieldAddr fo_30_1 rfl rfl rfl ?_
     refine WL.load1 (v := .int .i64 x.fin.a) one_3 rfl rfl rfl (hS.cell 1 rfl rfl) ?_
     refine WL.fieldAddr fo_32_2 rfl rfl rfl ?_
     refine WL.fieldAddr fo_30_1 rfl rfl rfl ?_
     refine WL.load1 (v := .int .i64 y.fin.a) one_3 rfl rfl rfl (hS.cell 0 rfl rfl) ?_
     refine WL.bin rfl rfl rfl rfl rfl ?_
     refine WL.pick (v := .bool (!decide (x.fin.a = y.fin.a))) rfl rfl rfl rfl rfl rfl ?_
     refine WL.move rfl rfl rfl ?_
     cases hg12 : (!decide (x.fin.a = y.fin.a))
     ·
      have hg12p : x.fin.a = y.fin.a := by simpa using hg12
      refine WL.fieldAddr fo_32_2 rfl rfl rfl ?_
      refine WL.fieldAddr fo_30_2 rfl rfl rfl ?_
      refine WL.load1 (v := .int .i64 x.fin.to) one_3 rfl rfl rfl (hS.cell 1 rfl rfl) ?_
      refine WL.fieldAddr fo_32_2 rfl rfl rfl ?_
      refine WL.fieldAddr fo_30_2 rfl rfl rfl ?_
      refine WL.load1 (v := .int .i64 y.fin.to) one_3 rfl rfl rfl (hS.cell 0 rfl rfl) ?_
      refine WL.bin rfl rfl rfl rfl rfl ?_
      refine WL.pick (v := .bool (!decide (x.fin.to = y.fin.to))) rfl rfl rfl rfl rfl rfl ?_
      refine WL.move rfl rfl rfl ?_
      cases hg13 : (!decide (x.fin.to = y.fin.to))
      ·
       have hg13p : x.fin.to = y.fin.to := by simpa using hg13
       refine WL.fieldAddr fo_32_2 rfl rfl rfl ?_
       refine WL.fieldAddr fo_30_4 rfl rfl rfl ?_
       refine WL.load1 (v := .int .i64 x.fin.els) one_3 rfl rfl rfl (hS.cell 1 rfl rfl) ?_
       refine WL.fieldAddr fo_32_2 rfl rfl rfl ?_
       refine WL.fieldAddr fo_30_4 rfl rfl rfl ?_
       refine WL.load1 (v := .int .i64 y.fin.els) one_3 rfl rfl rfl (hS.cell 0 rfl rfl) ?_
       refine WL.bin rfl rfl rfl rfl rfl ?_
       refine WL.pick (v := .bool (!decide (x.fin.els = y.fin.els))) rfl rfl rfl rfl rfl rfl ?_
       refine WL.nil ?_
       refine N.seq ?_
       refine W.cond rfl (fun hc14 => ?_) (fun hc14 => ?_)
       ·
        have hc14p : ¬ (x.fin.els = y.fin.els) := by simpa using hc14
        refine W.seq ?_
        refine W.region ?_
        refine WL.assign rfl rfl rfl ?_
        refine WL.nil ?_
        refine N.seq ?_
        refine Fin.ret1 rfl (v := .bool false) rfl ?_
        have hne : ¬ x = y := by
          intro e; rw [e] at hc14p; simp at hc14p
        exact ⟨by rw [decide_eq_false hne], hS.below⟩
       have hc14p : x.fin.els = y.fin.els := by simpa using hc14
       refine W.skip ?_
       refine N.seq ?_
       refine W.seq ?_
       refine W.seq ?_
       refine W.region ?_
       refine WL.assign rfl rfl rfl ?_
       refine WL.nil ?_
       refine N.seq ?_
       refine W.block ?_
       refine W.loop (α := Nat) (fun (k : Nat) => [(0, .agg #[.int .i64 x.params, .slice adix x.ins.length capix, .int .i64 x.fin.kind, .int .i64 x.fin.a, .int .i64 x.fin.to, .slice adpx x.fin.args.length cappx, .int .i64 x.fin.els, .slice adqx x.fin.elses.length capqx]), (1, .agg #[.int .i64 y.params, .slice adiy y.ins.length capiy, .int .i64 y.fin.kind, .int .i64 y.fin.a, .int .i64 y.fin.to, .slice adpy y.fin.args.length cappy, .int .i64 y.fin.els, .slice adqy y.fin.elses.length capqy]), (2, .pointer (some ⟨b1, 0, none⟩)), (3, .pointer (some ⟨b3, 0, none⟩)), (5, .bool (decide (x.fin.elses = y.fin.elses))), (6, .int .i64 (k : Int)), (8, .pointer (some ⟨b1, 2, none⟩)), (9, .pointer (some ⟨b1, 5, none⟩)), (10, .slice adpx x.fin.args.length cappx), (11, .pointer (some ⟨b3, 2, none⟩)), (12, .pointer (some ⟨b3, 5, none⟩)), (13, .slice adpy y.fin.args.length cappy), (14, .bool true), (15, .bool true), (16, .pointer (some ⟨b1, 2, none⟩)), (17, .pointer (some ⟨b1, 7, none⟩)), (18, .slice adqx x.fin.elses.length capqx), (19, .pointer (some ⟨b3, 2, none⟩)), (20, .pointer (some ⟨b3, 7, none⟩)), (21, .slice adqy y.fin.elses.length capqy), (22, .bool (decide (x.fin.elses = y.fin.elses))), (23, .bool (decide (x.fin.elses = y.fin.elses))), (24, .bool (decide (x.fin.elses = y.fin.elses))), (25, .bool false), (26, .bool false), (27, .pointer (some ⟨b1, 0, none⟩)), (28, .int .i64 x.params), (29, .pointer (some ⟨b3, 0, none⟩)), (30, .int .i64 y.params), (31, .bool false), (32, .bool false), (33, .bool false), (34, .pointer (some ⟨b1, 1, none⟩)), (35, .slice adix x.ins.length capix), (36, .int .i64 (x.ins.length : Int)), (37, .pointer (some ⟨b3, 1, none⟩)), (38, .slice adiy y.ins.length capiy), (39, .int .i64 (y.ins.length : Int)), (40, .bool false), (41, .bool false), (42, .bool false), (43, .pointer (some ⟨b1, 2, none⟩)), (44, .pointer (some ⟨b1, 2, none⟩)), (45, .int .i64 x.fin.kind), (46, .pointer (some ⟨b3, 2, none⟩)), (47, .pointer (some ⟨b3, 2, none⟩)), (48, .int .i64 y.fin.kind), (49, .bool false), (50, .bool false), (51, .bool false), (52, .pointer (some ⟨b1, 2, none⟩)), (53, .pointer (some ⟨b1, 3, none⟩)), (54, .int .i64 x.fin.a), (55, .pointer (some ⟨b3, 2, none⟩)), (56, .pointer (some ⟨b3, 3, none⟩)), (57, .int .i64 y.fin.a), (58, .bool false), (59, .bool false), (60, .bool false), (61, .pointer (some ⟨b1, 2, none⟩)), (62, .pointer (some ⟨b1, 4, none⟩)), (63, .int .i64 x.fin.to), (64, .pointer (some ⟨b3, 2, none⟩)), (65, .pointer (some ⟨b3, 4, none⟩)), (66, .int .i64 y.fin.to), (67, .bool false), (68, .bool false), (69, .bool false), (70, .pointer (some ⟨b1, 2, none⟩)), (71, .pointer (some ⟨b1, 6, none⟩)), (72, .int .i64 x.fin.els), (73, .pointer (some ⟨b3, 2, none⟩)), (74, .pointer (some ⟨b3, 6, none⟩)), (75, .int .i64 y.fin.els), (76, .bool (!decide (x.fin.els = y.fin.els))), (77, .bool (!decide (x.fin.els = y.fin.els)))]) (fun (k : Nat) u => St w w u ro [(b3, .cells #[.int .i64 y.params, .slice adiy y.ins.length capiy, .int .i64 y.fin.kind, .int .i64 y.fin.a, .int .i64 y.fin.to, .slice adpy y.fin.args.length cappy, .int .i64 y.fin.els, .slice adqy y.fin.elses.length capqy] 32 (0, 0)), (b1, .cells #[.int .i64 x.params, .slice adix x.ins.length capix, .int .i64 x.fin.kind, .int .i64 x.fin.a, .int .i64 x.fin.to, .slice adpx x.fin.args.length cappx, .int .i64 x.fin.els, .slice adqx x.fin.elses.length capqx] 32 (0, 0))] [] ∧ k ≤ x.ins.length ∧ x.ins.take k = y.ins.take k) (fun (k : Nat) => x.ins.length - k) 0 ⟨rfl, rfl, rfl, rfl, rfl, rfl, rfl, rfl, rfl, rfl, rfl, rfl, rfl, rfl, rfl, rfl, rfl, rfl, rfl, rfl, rfl, rfl, rfl, rfl, rfl, rfl, rfl, rfl, rfl, rfl, rfl, rfl, rfl, rfl, rfl, rfl, rfl, rfl, rfl, rfl, rfl, rfl, rfl, rfl, rfl, rfl, rfl, rfl, rfl, rfl, rfl, rfl, rfl, rfl, rfl, rfl, rfl, rfl, rfl, rfl, rfl, rfl, rfl, rfl, rfl, rfl, rfl, rfl, rfl, rfl, rfl, rfl, rfl, rfl, rfl, rfl, trivial⟩ ⟨hS, Nat.zero_le _, rfl⟩ ?_
       clear hS
       rintro k w15 ⟨hS, hk, htk⟩
       refine W.seq ?_
       refine W.seq ?_
       refine W.region ?_
       refine WL.move rfl rfl rfl ?_
       refine WL.fieldAddr fo_32_1 rfl rfl rfl ?_
       refine WL.load1 (v := .slice adix x.ins.length capix) one_27 rfl rfl rfl (hS.cell 1 rfl rfl) ?_
       refine WL.lenSlice Try.underlying27 rfl rfl rfl ?_
       refine WL.bin rfl rfl rfl rfl rfl ?_
       refine WL.nil ?_
       refine N.seq ?_
       refine W.cond rfl (fun hc16 => ?_) (fun hc16 => ?_)
       ·
        have hc16p : (k : Int) < (x.ins.length : Int) := by simpa using hc16
        refine W.skip ?_
        refine N.seq ?_
        refine W.seq ?_
        refine W.block ?_
        refine W.seq ?_
        have hj17 : k < x.ins.length := by omega
        obtain ⟨x17, hx17⟩ : ∃ zz, x.ins[k]? = some zz := ⟨_, List.getElem?_eq_getElem hj17⟩
        obtain ⟨b17, o17, cs17, hE17, hr17, hl17, hc17, hQ17⟩ := hinxd k _ hx17
        have hQk17 := hQ17
        obtain ⟨sv17, rfl, hs17, ho17, ha17, hb17, hk17, hn17⟩ := hQ17
        obtain ⟨ad17, cap17, rfl, hs17a, hs17b, hs17c, hs17d⟩ := id hs17
        have hs17m : x17.args.length ≤ 9223372036854775807 := by have h1 := hs17a; have h2 := hs17b; unfold maxLen at h2; omega
        have hj18 : k < y.ins.length := by omega
        obtain ⟨x18, hx18⟩ : ∃ zz, y.ins[k]? = some zz := ⟨_, List.getElem?_eq_getElem hj18⟩
        obtain ⟨b18, o18, cs18, hE18, hr18, hl18, hc18, hQ18⟩ := hinyd k _ hx18
        have hQk18 := hQ18
        obtain ⟨sv18, rfl, hs18, ho18, ha18, hb18, hk18, hn18⟩ := hQ18
        obtain ⟨ad18, cap18, rfl, hs18a, hs18b, hs18c, hs18d⟩ := id hs18
        have hs18m : x18.args.length ≤ 9223372036854775807 := by have h1 := hs18a; have h2 := hs18b; unfold maxLen at h2; omega
        refine W.drawL (by kernel_rfl) 11 [.q (.pointer (some ⟨b1, 1, none⟩)), .q (.slice adix x.ins.length capix), .q (.int .i64 (k : Int)), .q (.pointer (some ⟨b17, o17 + k * 6, none⟩)), .q (.agg #[.int .i64 x17.op, .int .i64 x17.a, .int .i64 x17.b, .int .u64 x17.k, .string x17.name, .slice ad17 x17.args.length cap17]), .q (.pointer (some ⟨b3, 1, none⟩)), .q (.slice adiy y.ins.length capiy), .q (.int .i64 (k : Int)), .q (.pointer (some ⟨b18, o18 + k * 6, none⟩)), .q (.agg #[.int .i64 x18.op, .int .i64 x18.a, .int .i64 x18.b, .int .u64 x18.k, .string x18.name, .slice ad18 x18.args.length cap18]), .q (.bool (decide (x17 = x18)))] (by kernel_rfl) rfl [(0, .agg #[.int .i64 x.params, .slice adix x.ins.length capix, .int .i64 x.fin.kind, .int .i64 x.fin.a, .int .i64 x.fin.to, .slice adpx x.fin.args.length cappx, .int .i64 x.fin.els, .slice adqx x.fin.elses.length capqx]), (1, .agg #[.int .i64 y.params, .slice adiy y.ins.length capiy, .int .i64 y.fin.kind, .int .i64 y.fin.a, .int .i64 y.fin.to, .slice adpy y.fin.args.length cappy, .int .i64 y.fin.els, .slice adqy y.fin.elses.length capqy]), (2, .pointer (some ⟨b1, 0, none⟩)), (3, .pointer (some ⟨b3, 0, none⟩)), (5, .bool (decide (x.fin.elses = y.fin.elses))), (6, .int .i64 (k : Int)), (8, .pointer (some ⟨b1, 2, none⟩)), (9, .pointer (some ⟨b1, 5, none⟩)), (10, .slice adpx x.fin.args.length cappx), (11, .pointer (some ⟨b3, 2, none⟩)), (12, .pointer (some ⟨b3, 5, none⟩)), (13, .slice adpy y.fin.args.length cappy), (14, .bool true), (15, .bool true), (16, .pointer (some ⟨b1, 2, none⟩)), (17, .pointer (some ⟨b1, 7, none⟩)), (18, .slice adqx x.fin.elses.length capqx), (19, .pointer (some ⟨b3, 2, none⟩)), (20, .pointer (some ⟨b3, 7, none⟩)), (21, .slice adqy y.fin.elses.length capqy), (22, .bool (decide (x.fin.elses = y.fin.elses))), (23, .bool (decide (x.fin.elses = y.fin.elses))), (24, .bool (decide (x.fin.elses = y.fin.elses))), (25, .bool false), (26, .bool false), (27, .pointer (some ⟨b1, 0, none⟩)), (28, .int .i64 x.params), (29, .pointer (some ⟨b3, 0, none⟩)), (30, .int .i64 y.params), (31, .bool false), (32, .bool false), (33, .bool false), (34, .pointer (some ⟨b1, 1, none⟩)), (35, .slice adix x.ins.length capix), (36, .int .i64 (x.ins.length : Int)), (37, .pointer (some ⟨b3, 1, none⟩)), (38, .slice adiy y.ins.length capiy), (39, .int .i64 (y.ins.length : Int)), (40, .bool false), (41, .bool false), (42, .bool false), (43, .pointer (some ⟨b1, 2, none⟩)), (44, .pointer (some ⟨b1, 2, none⟩)), (45, .int .i64 x.fin.kind), (46, .pointer (some ⟨b3, 2, none⟩)), (47, .pointer (some ⟨b3, 2, none⟩)), (48, .int .i64 y.fin.kind), (49, .bool false), (50, .bool false), (51, .bool false), (52, .pointer (some ⟨b1, 2, none⟩)), (53, .pointer (some ⟨b1, 3, none⟩)), (54, .int .i64 x.fin.a), (55, .pointer (some ⟨b3, 2, none⟩)), (56, .pointer (some ⟨b3, 3, none⟩)), (57, .int .i64 y.fin.a), (58, .bool false), (59, .bool false), (60, .bool false), (61, .pointer (some ⟨b1, 2, none⟩)), (62, .pointer (some ⟨b1, 4, none⟩)), (63, .int .i64 x.fin.to), (64, .pointer (some ⟨b3, 2, none⟩)), (65, .pointer (some ⟨b3, 4, none⟩)), (66, .int .i64 y.fin.to), (67, .bool false), (68, .bool false), (69, .bool false), (70, .pointer (some ⟨b1, 2, none⟩)), (71, .pointer (some ⟨b1, 6, none⟩)), (72, .int .i64 x.fin.els), (73, .pointer (some ⟨b3, 2, none⟩)), (74, .pointer (some ⟨b3, 6, none⟩)), (75, .int .i64 y.fin.els), (76, .bool (!decide (x.fin.els = y.fin.els))), (77, .bool (!decide (x.fin.els = y.fin.els))), (78, .int .i64 (k : Int)), (79, .pointer (some ⟨b1, 1, none⟩)), (80, .slice adix x.ins.length capix), (81, .int .i64 (x.ins.length : Int)), (82, .bool (decide ((k : Int) < (x.ins.length : Int))))] ⟨rfl, rfl, rfl, rfl, rfl, rfl, rfl, rfl, rfl, rfl, rfl, rfl, rfl, rfl, rfl, rfl, rfl, rfl, rfl, rfl, rfl, rfl, rfl, rfl, rfl, rfl, rfl, rfl, rfl, rfl, rfl, rfl, rfl, rfl, rfl, rfl, rfl, rfl, rfl, rfl, rfl, rfl, rfl, rfl, rfl, rfl, rfl, rfl, rfl, rfl, rfl, rfl, rfl, rfl, rfl, rfl, rfl, rfl, rfl, rfl, rfl, rfl, rfl, rfl, rfl, rfl, rfl, rfl, rfl, rfl, rfl, rfl, rfl, rfl, rfl, rfl, rfl, rfl, rfl, rfl, rfl, trivial⟩ rfl hS ?_ ?_
        ·
         refine And.intro (fun β w hS => ?_) ?_
         ·
          refine WL.sub (σ' := [(2, .pointer (some ⟨b1, 0, none⟩))]) ⟨rfl, trivial⟩ ?_
          refine WL.fieldAddr fo_32_1 rfl rfl rfl ?_
          exact WL.nil (N.cut () ⟨rfl, trivial⟩ (Below.refl _ _))
         refine And.intro (fun β w hS => ?_) ?_
         ·
          refine WL.sub (σ' := [(85, .pointer (some ⟨b1, 1, none⟩))]) ⟨rfl, trivial⟩ ?_
          refine WL.load1 (v := .slice adix x.ins.length capix) one_27 rfl rfl rfl (hS.cell 1 rfl rfl) ?_
          exact WL.nil (N.cut () ⟨rfl, trivial⟩ (Below.refl _ _))
         refine And.intro (fun β w hS => ?_) ?_
         ·
          refine WL.sub (σ' := [(6, .int .i64 (k : Int))]) ⟨rfl, trivial⟩ ?_
          refine WL.move rfl rfl rfl ?_
          exact WL.nil (N.cut () ⟨rfl, trivial⟩ (Below.refl _ _))
         refine And.intro (fun β w hS => ?_) ?_
         ·
          refine WL.sub (σ' := [(86, .slice adix x.ins.length capix), (87, .int .i64 (k : Int))]) ⟨rfl, rfl, trivial⟩ ?_
          refine WL.indexAddrE (j := k) Try.underlying27 isz_36 rfl rfl rfl rfl hj17 hE17 ?_
          exact WL.nil (N.cut () ⟨rfl, trivial⟩ (Below.refl _ _))
         refine And.intro (fun β w hS => ?_) ?_
         ·
          refine WL.sub (σ' := [(88, .pointer (some ⟨b17, o17 + k * 6, none⟩))]) ⟨rfl, trivial⟩ ?_
          refine WL.loadN (cs := [.int .i64 x17.op, .int .i64 x17.a, .int .i64 x17.b, .int .u64 x17.k, .string x17.name, .slice ad17 x17.args.length cap17]) agg_36 rfl rfl rfl rfl (hS.roCells hr17 hc17) ?_
          exact WL.nil (N.cut () ⟨rfl, trivial⟩ (Below.refl _ _))
         refine And.intro (fun β w hS => ?_) ?_
         ·
          refine WL.sub (σ' := [(3, .pointer (some ⟨b3, 0, none⟩))]) ⟨rfl, trivial⟩ ?_
          refine WL.fieldAddr fo_32_1 rfl rfl rfl ?_
          exact WL.nil (N.cut () ⟨rfl, trivial⟩ (Below.refl _ _))
         refine And.intro (fun β w hS => ?_) ?_
         ·
          refine WL.sub (σ' := [(90, .pointer (some ⟨b3, 1, none⟩))]) ⟨rfl, trivial⟩ ?_
          refine WL.load1 (v := .slice adiy y.ins.length capiy) one_27 rfl rfl rfl (hS.cell 0 rfl rfl) ?_
          exact WL.nil (N.cut () ⟨rfl, trivial⟩ (Below.refl _ _))
         refine And.intro (fun β w hS => ?_) ?_
         ·
          refine WL.sub (σ' := [(6, .int .i64 (k : Int))]) ⟨rfl, trivial⟩ ?_
          refine WL.move rfl rfl rfl ?_
          exact WL.nil (N.cut () ⟨rfl, trivial⟩ (Below.refl _ _))
         refine And.intro (fun β w hS => ?_) ?_
         ·
          refine WL.sub (σ' := [(91, .slice adiy y.ins.length capiy), (92, .int .i64 (k : Int))]) ⟨rfl, rfl, trivial⟩ ?_
          refine WL.indexAddrE (j := k) Try.underlying27 isz_36 rfl rfl rfl rfl hj18 hE18 ?_
          exact WL.nil (N.cut () ⟨rfl, trivial⟩ (Below.refl _ _))
         refine And.intro (fun β w hS => ?_) ?_
         ·
          refine WL.sub (σ' := [(93, .pointer (some ⟨b18, o18 + k * 6, none⟩))]) ⟨rfl, trivial⟩ ?_
          refine WL.loadN (cs := [.int .i64 x18.op, .int .i64 x18.a, .int .i64 x18.b, .int .u64 x18.k, .string x18.name, .slice ad18 x18.args.length cap18]) agg_36 rfl rfl rfl rfl (hS.roCells hr18 hc18) ?_
          exact WL.nil (N.cut () ⟨rfl, trivial⟩ (Below.refl _ _))
         refine And.intro (fun β w hS => ?_) ?_
         ·
          refine WL.sub (σ' := [(89, .agg #[.int .i64 x17.op, .int .i64 x17.a, .int .i64 x17.b, .int .u64 x17.k, .string x17.name, .slice ad17 x17.args.length cap17]), (94, .agg #[.int .i64 x18.op, .int .i64 x18.a, .int .i64 x18.b, .int .u64 x18.k, .string x18.name, .slice ad18 x18.args.length cap18])]) ⟨rfl, rfl, trivial⟩ ?_
          refine WL.callF (vs := [.agg #[.int .i64 x17.op, .int .i64 x17.a, .int .i64 x17.b, .int .u64 x17.k, .string x17.name, .slice ad17 x17.args.length cap17], .agg #[.int .i64 x18.op, .int .i64 x18.a, .int .i64 x18.b, .int .u64 x18.k, .string x18.name, .slice ad18 x18.args.length cap18]]) Try.func41 (by kernel_rfl) rfl rfl rfl (sameInst_ret x17 x18 _ _ (ro := ro) (fun b hb => (hS.snap b hb).1) (InstC.keep hQk17 hS.alike) (InstC.keep hQk18 hS.alike)) ?_
          rintro v w20 ⟨rfl, hbl⟩
          replace hS := hS.grow hbl
          exact WL.nil (N.cut () ⟨rfl, trivial⟩ hbl)
         trivial
        clear hS; intro w21 β hS
        refine WL.sub (σ' := [(0, .agg #[.int .i64 x.params, .slice adix x.ins.length capix, .int .i64 x.fin.kind, .int .i64 x.fin.a, .int .i64 x.fin.to, .slice adpx x.fin.args.length cappx, .int .i64 x.fin.els, .slice adqx x.fin.elses.length capqx]), (1, .agg #[.int .i64 y.params, .slice adiy y.ins.length capiy, .int .i64 y.fin.kind, .int .i64 y.fin.a, .int .i64 y.fin.to, .slice adpy y.fin.args.length cappy, .int .i64 y.fin.els, .slice adqy y.fin.elses.length capqy]), (2, .pointer (some ⟨b1, 0, none⟩)), (3, .pointer (some ⟨b3, 0, none⟩)), (5, .bool (decide (x.fin.elses = y.fin.elses))), (6, .int .i64 (k : Int)), (8, .pointer (some ⟨b1, 2, none⟩)), (9, .pointer (some ⟨b1, 5, none⟩)), (10, .slice adpx x.fin.args.length cappx), (11, .pointer (some ⟨b3, 2, none⟩)), (12, .pointer (some ⟨b3, 5, none⟩)), (13, .slice adpy y.fin.args.length cappy), (14, .bool true), (15, .bool true), (16, .pointer (some ⟨b1, 2, none⟩)), (17, .pointer (some ⟨b1, 7, none⟩)), (18, .slice adqx x.fin.elses.length capqx), (19, .pointer (some ⟨b3, 2, none⟩)), (20, .pointer (some ⟨b3, 7, none⟩)), (21, .slice adqy y.fin.elses.length capqy), (22, .bool (decide (x.fin.elses = y.fin.elses))), (23, .bool (decide (x.fin.elses = y.fin.elses))), (24, .bool (decide (x.fin.elses = y.fin.elses))), (25, .bool false), (26, .bool false), (27, .pointer (some ⟨b1, 0, none⟩)), (28, .int .i64 x.params), (29, .pointer (some ⟨b3, 0, none⟩)), (30, .int .i64 y.params), (31, .bool false), (32, .bool false), (33, .bool false), (34, .pointer (some ⟨b1, 1, none⟩)), (35, .slice adix x.ins.length capix), (36, .int .i64 (x.ins.length : Int)), (37, .pointer (some ⟨b3, 1, none⟩)), (38, .slice adiy y.ins.length capiy), (39, .int .i64 (y.ins.length : Int)), (40, .bool false), (41, .bool false), (42, .bool false), (43, .pointer (some ⟨b1, 2, none⟩)), (44, .pointer (some ⟨b1, 2, none⟩)), (45, .int .i64 x.fin.kind), (46, .pointer (some ⟨b3, 2, none⟩)), (47, .pointer (some ⟨b3, 2, none⟩)), (48, .int .i64 y.fin.kind), (49, .bool false), (50, .bool false), (51, .bool false), (52, .pointer (some ⟨b1, 2, none⟩)), (53, .pointer (some ⟨b1, 3, none⟩)), (54, .int .i64 x.fin.a), (55, .pointer (some ⟨b3, 2, none⟩)), (56, .pointer (some ⟨b3, 3, none⟩)), (57, .int .i64 y.fin.a), (58, .bool false), (59, .bool false), (60, .bool false), (61, .pointer (some ⟨b1, 2, none⟩)), (62, .pointer (some ⟨b1, 4, none⟩)), (63, .int .i64 x.fin.to), (64, .pointer (some ⟨b3, 2, none⟩)), (65, .pointer (some ⟨b3, 4, none⟩)), (66, .int .i64 y.fin.to), (67, .bool false), (68, .bool false), (69, .bool false), (70, .pointer (some ⟨b1, 2, none⟩)), (71, .pointer (some ⟨b1, 6, none⟩)), (72, .int .i64 x.fin.els), (73, .pointer (some ⟨b3, 2, none⟩)), (74, .pointer (some ⟨b3, 6, none⟩)), (75, .int .i64 y.fin.els), (76, .bool (!decide (x.fin.els = y.fin.els))), (77, .bool (!decide (x.fin.els = y.fin.els))), (78, .int .i64 (k : Int)), (79, .pointer (some ⟨b1, 1, none⟩)), (80, .slice adix x.ins.length capix), (81, .int .i64 (x.ins.length : Int)), (82, .bool (decide ((k : Int) < (x.ins.length : Int)))), (85, .pointer (some ⟨b1, 1, none⟩)), (86, .slice adix x.ins.length capix), (87, .int .i64 (k : Int)), (88, .pointer (some ⟨b17, o17 + k * 6, none⟩)), (89, .agg #[.int .i64 x17.op, .int .i64 x17.a, .int .i64 x17.b, .int .u64 x17.k, .string x17.name, .slice ad17 x17.args.length cap17]), (90, .pointer (some ⟨b3, 1, none⟩)), (91, .slice adiy y.ins.length capiy), (92, .int .i64 (k : Int)), (93, .pointer (some ⟨b18, o18 + k * 6, none⟩)), (94, .agg #[.int .i64 x18.op, .int .i64 x18.a, .int .i64 x18.b, .int .u64 x18.k, .string x18.name, .slice ad18 x18.args.length cap18]), (95, .bool (decide (x17 = x18)))]) ⟨rfl, rfl, rfl, rfl, rfl, rfl, rfl, rfl, rfl, rfl, rfl, rfl, rfl, rfl, rfl, rfl, rfl, rfl, rfl, rfl, rfl, rfl, rfl, rfl, rfl, rfl, rfl, rfl, rfl, rfl, rfl, rfl, rfl, rfl, rfl, rfl, rfl, rfl, rfl, rfl, rfl, rfl, rfl, rfl, rfl, rfl, rfl, rfl, rfl, rfl, rfl, rfl, rfl, rfl, rfl, rfl, rfl, rfl, rfl, rfl, rfl, rfl, rfl, rfl, rfl, rfl, rfl, rfl, rfl, rfl, rfl, rfl, rfl, rfl, rfl, rfl, rfl, rfl, rfl, rfl, rfl, rfl, rfl, rfl, rfl, rfl, rfl, rfl, rfl, rfl, rfl, rfl, trivial⟩ ?_
        refine WL.assign rfl rfl rfl ?_
        refine WL.nil ?_
        refine N.seq ?_
        refine W.seq ?_
        refine W.region ?_
        refine WL.move rfl rfl rfl ?_
        refine WL.not rfl rfl rfl ?_
        refine WL.nil ?_
        refine N.seq ?_
        refine W.cond rfl (fun hc22 => ?_) (fun hc22 => ?_)
        ·
         have hc22p : ¬ (x17 = x18) := by simpa using hc22
         refine W.seq ?_
         refine W.region ?_
         refine WL.assign rfl rfl rfl ?_
         refine WL.nil ?_
         refine N.seq ?_
         refine Fin.ret1 rfl (v := .bool false) rfl ?_
         have hne : ¬ x = y := by
           intro e; rw [e, hx18] at hx17; rw [Option.some.inj hx17] at hc22p; simp at hc22p
         exact ⟨by rw [decide_eq_false hne], hS.below⟩
        have hc22p : x17 = x18 := by simpa using hc22
        refine W.skip ?_
        refine N.blk ?_
        refine N.seq ?_
        refine W.region ?_
        refine WL.move rfl rfl rfl ?_
        refine WL.add (c := (k : Int) + 1) rfl rfl rfl rfl (rfl) (by omega) ?_
        refine WL.assign rfl rfl rfl ?_
        refine WL.nil ?_
        have hxy : x17 = x18 := by simpa using hc22p
        have htk2 : x.ins.take (k + 1) = y.ins.take (k + 1) := by rw [take_next hx17, take_next hx18, htk, hxy]
        exact N.loop (k + 1) ⟨rfl, rfl, rfl, rfl, rfl, rfl, rfl, rfl, rfl, rfl, rfl, rfl, rfl, rfl, rfl, rfl, rfl, rfl, rfl, rfl, rfl, rfl, rfl, rfl, rfl, rfl, rfl, rfl, rfl, rfl, rfl, rfl, rfl, rfl, rfl, rfl, rfl, rfl, rfl, rfl, rfl, rfl, rfl, rfl, rfl, rfl, rfl, rfl, rfl, rfl, rfl, rfl, rfl, rfl, rfl, rfl, rfl, rfl, rfl, rfl, rfl, rfl, rfl, rfl, rfl, rfl, rfl, rfl, rfl, rfl, rfl, rfl, rfl, rfl, rfl, rfl, trivial⟩ ⟨hS, by omega, htk2⟩ (by first | omega | (simp only; omega))
       have hc16p : ¬ ((k : Int) < (x.ins.length : Int)) := by simpa using hc16
       refine W.exit ?_
       refine X.seq ?_
       refine X.loop ?_
       refine X.blk ?_
       refine N.seq ?_
       refine W.seq ?_
       refine W.region ?_
       refine WL.assign rfl rfl rfl ?_
       refine WL.nil ?_
       refine N.seq ?_
       refine Fin.ret1 rfl (v := .bool true) rfl ?_
       have e1 : x.ins = y.ins := take_full htk (by omega) (by omega)
       have e : x = y := dblock_eq (by clear hS; first | assumption | simpa using ‹_› | omega | simp_all) e1 (dterm_eq (by clear hS; first | assumption | simpa using ‹_› | omega | simp_all) (by clear hS; first | assumption | simpa using ‹_› | omega | simp_all) (by clear hS; first | assumption | simpa using ‹_› | omega | simp_all) (by clear hS; first | assumption | simpa using ‹_› | omega | simp_all) (by clear hS; first | assumption | simpa using ‹_› | omega | simp_all) (by clear hS; first | assumption | simpa using ‹_› | omega | simp_all))
       exact ⟨by rw [decide_eq_true e], hS.below⟩
      have hg13p : ¬ (x.fin.to = y.fin.to) := by simpa using hg13
      refine WL.skp rfl rfl ?_
      refine WL.skp rfl rfl ?_
      refine WL.skp rfl rfl ?_
      refine WL.skp rfl rfl ?_
      refine WL.skp rfl rfl ?_
      refine WL.skp rfl rfl ?_
      refine WL.skp rfl rfl ?_
      refine WL.pick (v := .bool true) rfl rfl rfl rfl rfl rfl ?_
      refine WL.nil ?_
      refine N.seq ?_
      refine W.condT rfl ?_
      refine W.seq ?_
      refine W.region ?_
      refine WL.assign rfl rfl rfl ?_
      refine WL.nil ?_
      refine N.seq ?_
      refine Fin.ret1 rfl (v := .bool false) rfl ?_
      have hne : ¬ x = y := by
        intro e; rw [e] at hg13p; simp at hg13p
      exact ⟨by rw [decide_eq_false hne], hS.below⟩
     have hg12p : ¬ (x.fin.a = y.fin.a) := by simpa using hg12
     refine WL.skp rfl rfl ?_
     refine WL.skp rfl rfl ?_
     refine WL.skp rfl rfl ?_
     refine WL.skp rfl rfl ?_
     refine WL.skp rfl rfl ?_
     refine WL.skp rfl rfl ?_
     refine WL.skp rfl rfl ?_
     refine WL.pick (v := .bool true) rfl rfl rfl rfl rfl rfl ?_
     refine WL.move rfl rfl rfl ?_
     refine WL.skp rfl rfl ?_
     refine WL.skp rfl rfl ?_
     refine WL.skp rfl rfl ?_
     refine WL.skp rfl rfl ?_
     refine WL.skp rfl rfl ?_
     refine WL.skp rfl rfl ?_
     refine WL.skp rfl rfl ?_
     refine WL.pick (v := .bool true) rfl rfl rfl rfl rfl rfl ?_
     refine WL.nil ?_
     refine N.seq ?_
     refine W.condT rfl ?_
     refine W.seq ?_
     refine W.region ?_
     refine WL.assign rfl rfl rfl ?_
     refine WL.nil ?_
     refine N.seq ?_
     refine Fin.ret1 rfl (v := .bool false) rfl ?_
     have hne : ¬ x = y := by
       intro e; rw [e] at hg12p; simp at hg12p
     exact ⟨by rw [decide_eq_false hne], hS.below⟩
    have hg11p : ¬ (x.fin.kind = y.fin.kind) := by simpa using hg11
    refine WL.skp rfl rfl ?_
    refine WL.skp rfl rfl ?_
    refine WL.skp rfl rfl ?_
    refine WL.skp rfl rfl ?_
    refine WL.skp rfl rfl ?_
    refine WL.skp rfl rfl ?_
    refine WL.skp rfl rfl ?_
    refine WL.pick (v := .bool true) rfl rfl rfl rfl rfl rfl ?_
    refine WL.move rfl rfl rfl ?_
    refine WL.skp rfl rfl ?_
    refine WL.skp rfl rfl ?_
    refine WL.skp rfl rfl ?_
    refine WL.skp rfl rfl ?_
    refine WL.skp rfl rfl ?_
    refine WL.skp rfl rfl ?_
    refine WL.skp rfl rfl ?_
    refine WL.pick (v := .bool true) rfl rfl rfl rfl rfl rfl ?_
    refine WL.move rfl rfl rfl ?_
    refine WL.skp rfl rfl ?_
    refine WL.skp rfl rfl ?_
    refine WL.skp rfl rfl ?_
    refine WL.skp rfl rfl ?_
    refine WL.skp rfl rfl ?_
    refine WL.skp rfl rfl ?_
    refine WL.skp rfl rfl ?_
    refine WL.pick (v := .bool true) rfl rfl rfl rfl rfl rfl ?_
    refine WL.nil ?_
    refine N.seq ?_
    refine W.condT rfl ?_
    refine W.seq ?_
    refine W.region ?_
    refine WL.assign rfl rfl rfl ?_
    refine WL.nil ?_
    refine N.seq ?_
    refine Fin.ret1 rfl (v := .bool false) rfl ?_
    have hne : ¬ x = y := by
      intro e; rw [e] at hg11p; simp at hg11p
    exact ⟨by rw [decide_eq_false hne], hS.below⟩
   have hg10p : ¬ ((x.ins.length : Int) = (y.ins.length : Int)) := by simpa using hg10
   refine WL.skp rfl rfl ?_
   refine WL.skp rfl rfl ?_
   refine WL.skp rfl rfl ?_
   refine WL.skp rfl rfl ?_
   refine WL.skp rfl rfl ?_
   refine WL.skp rfl rfl ?_
   refine WL.skp rfl rfl ?_
   refine WL.pick (v := .bool true) rfl rfl rfl rfl rfl rfl ?_
   refine WL.move rfl rfl rfl ?_
   refine WL.skp rfl rfl ?_
   refine WL.skp rfl rfl ?_
   refine WL.skp rfl rfl ?_
   refine WL.skp rfl rfl ?_
   refine WL.skp rfl rfl ?_
   refine WL.skp rfl rfl ?_
   refine WL.skp rfl rfl ?_
   refine WL.pick (v := .bool true) rfl rfl rfl rfl rfl rfl ?_
   refine WL.move rfl rfl rfl ?_
   refine WL.skp rfl rfl ?_
   refine WL.skp rfl rfl ?_
   refine WL.skp rfl rfl ?_
   refine WL.skp rfl rfl ?_
   refine WL.skp rfl rfl ?_
   refine WL.skp rfl rfl ?_
   refine WL.skp rfl rfl ?_
   refine WL.pick (v := .bool true) rfl rfl rfl rfl rfl rfl ?_
   refine WL.move rfl rfl rfl ?_
   refine WL.skp rfl rfl ?_
   refine WL.skp rfl rfl ?_
   refine WL.skp rfl rfl ?_
   refine WL.skp rfl rfl ?_
   refine WL.skp rfl rfl ?_
   refine WL.skp rfl rfl ?_
   refine WL.skp rfl rfl ?_
   refine WL.pick (v := .bool true) rfl rfl rfl rfl rfl rfl ?_
   refine WL.nil ?_
   refine N.seq ?_
   refine W.condT rfl ?_
   refine W.seq ?_
   refine W.region ?_
   refine WL.assign rfl rfl rfl ?_
   refine WL.nil ?_
   refine N.seq ?_
   refine Fin.ret1 rfl (v := .bool false) rfl ?_
   have hne : ¬ x = y := by
     intro e; rw [e] at hg10p; simp at hg10p
   exact ⟨by rw [decide_eq_false hne], hS.below⟩
  have hg9p : ¬ (x.params = y.params) := by simpa using hg9
  refine WL.skp rfl rfl ?_
  refine WL.skp rfl rfl ?_
  refine WL.skp rfl rfl ?_
  refine WL.skp rfl rfl ?_
  refine WL.skp rfl rfl ?_
  refine WL.skp rfl rfl ?_
  refine WL.skp rfl rfl ?_
  refine WL.pick (v := .bool true) rfl rfl rfl rfl rfl rfl ?_
  refine WL.move rfl rfl rfl ?_
  refine WL.skp rfl rfl ?_
  refine WL.skp rfl rfl ?_
  refine WL.skp rfl rfl ?_
  refine WL.skp rfl rfl ?_
  refine WL.skp rfl rfl ?_
  refine WL.skp rfl rfl ?_
  refine WL.skp rfl rfl ?_
  refine WL.pick (v := .bool true) rfl rfl rfl rfl rfl rfl ?_
  refine WL.move rfl rfl rfl ?_
  refine WL.skp rfl rfl ?_
  refine WL.skp rfl rfl ?_
  refine WL.skp rfl rfl ?_
  refine WL.skp rfl rfl ?_
  refine WL.skp rfl rfl ?_
  refine WL.skp rfl rfl ?_
  refine WL.skp rfl rfl ?_
  refine WL.pick (v := .bool true) rfl rfl rfl rfl rfl rfl ?_
  refine WL.move rfl rfl rfl ?_
  refine WL.skp rfl rfl ?_
  refine WL.skp rfl rfl ?_
  refine WL.skp rfl rfl ?_
  refine WL.skp rfl rfl ?_
  refine WL.skp rfl rfl ?_
  refine WL.skp rfl rfl ?_
  refine WL.skp rfl rfl ?_
  refine WL.pick (v := .bool true) rfl rfl rfl rfl rfl rfl ?_
  refine WL.move rfl rfl rfl ?_
  refine WL.skp rfl rfl ?_
  refine WL.skp rfl rfl ?_
  refine WL.skp rfl rfl ?_
  refine WL.skp rfl rfl ?_
  refine WL.skp rfl rfl ?_
  refine WL.skp rfl rfl ?_
  refine WL.skp rfl rfl ?_
  refine WL.pick (v := .bool true) rfl rfl rfl rfl rfl rfl ?_
  refine WL.nil ?_
  refine N.seq ?_
  refine W.condT rfl ?_
  refine W.seq ?_
  refine W.region ?_
  refine WL.assign rfl rfl rfl ?_
  refine WL.nil ?_
  refine N.seq ?_
  refine Fin.ret1 rfl (v := .bool false) rfl ?_
  have hne : ¬ x = y := by
    intro e; rw [e] at hg9p; simp at hg9p
  exact ⟨by rw [decide_eq_false hne], hS.below⟩
 have hg8p : ¬ (x.fin.elses = y.fin.elses) := by simpa using hg8
 refine WL.skp rfl rfl ?_
 refine WL.skp rfl rfl ?_
 refine WL.skp rfl rfl ?_
 refine WL.skp rfl rfl ?_
 refine WL.skp rfl rfl ?_
 refine WL.pick (v := .bool true) rfl rfl rfl rfl rfl rfl ?_
 refine WL.move rfl rfl rfl ?_
 refine WL.skp rfl rfl ?_
 refine WL.skp rfl rfl ?_
 refine WL.skp rfl rfl ?_
 refine WL.skp rfl rfl ?_
 refine WL.skp rfl rfl ?_
 refine WL.skp rfl rfl ?_
 refine WL.skp rfl rfl ?_
 refine WL.pick (v := .bool true) rfl rfl rfl rfl rfl rfl ?_
 refine WL.move rfl rfl rfl ?_
 refine WL.skp rfl rfl ?_
 refine WL.skp rfl rfl ?_
 refine WL.skp rfl rfl ?_
 refine WL.skp rfl rfl ?_
 refine WL.skp rfl rfl ?_
 refine WL.skp rfl rfl ?_
 refine WL.skp rfl rfl ?_
 refine WL.pick (v := .bool true) rfl rfl rfl rfl rfl rfl ?_
 refine WL.move rfl rfl rfl ?_
 refine WL.skp rfl rfl ?_
 refine WL.skp rfl rfl ?_
 refine WL.skp rfl rfl ?_
 refine WL.skp rfl rfl ?_
 refine WL.skp rfl rfl ?_
 refine WL.skp rfl rfl ?_
 refine WL.skp rfl rfl ?_
 refine WL.pick (v := .bool true) rfl rfl rfl rfl rfl rfl ?_
 refine WL.move rfl rfl rfl ?_
 refine WL.skp rfl rfl ?_
 refine WL.skp rfl rfl ?_
 refine WL.skp rfl rfl ?_
 refine WL.skp rfl rfl ?_
 refine WL.skp rfl rfl ?_
 refine WL.skp rfl rfl ?_
 refine WL.skp rfl rfl ?_
 refine WL.pick (v := .bool true) rfl rfl rfl rfl rfl rfl ?_
 refine WL.move rfl rfl rfl ?_
 refine WL.skp rfl rfl ?_
 refine WL.skp rfl rfl ?_
 refine WL.skp rfl rfl ?_
 refine WL.skp rfl rfl ?_
 refine WL.skp rfl rfl ?_
 refine WL.skp rfl rfl ?_
 refine WL.skp rfl rfl ?_
 refine WL.pick (v := .bool true) rfl rfl rfl rfl rfl rfl ?_
 refine WL.nil ?_
 refine N.seq ?_
 refine W.condT rfl ?_
 refine W.seq ?_
 refine W.region ?_
 refine WL.assign rfl rfl rfl ?_
 refine WL.nil ?_
 refine N.seq ?_
 refine Fin.ret1 rfl (v := .bool false) rfl ?_
 have hne : ¬ x = y := by
   intro e; rw [e] at hg8p; simp at hg8p
 exact ⟨by rw [decide_eq_false hne], hS.below⟩

theorem sameFunc_ret (x y : DFunc) (cx cy : List Value) {w : World} {ro : Nat → Prop} (hro : ∀ b, ro b → b < w.heap.size) (hx : FuncC ro w cx x) (hy : FuncC ro w cy y) : Ret Try.prog 24 #[.agg cx.toArray, .agg cy.toArray] w fun v w' => v = .bool (decide (x = y)) ∧ Below w.heap.size w w' := by
 obtain ⟨sbx, rfl, hblx, hnmx, hbdx, hprx⟩ := id hx
 obtain ⟨adbx, capbx, rfl, hbkxa, hbkxb, hbkxc, hbkxd⟩ := id hblx
 have hbkxm : x.blocks.length ≤ 9223372036854775807 := by have h1 := hbkxa; have h2 := hbkxb; unfold maxLen at h2; omega
 obtain ⟨sby, rfl, hbly, hnmy, hbdy, hpry⟩ := id hy
 obtain ⟨adby, capby, rfl, hbkya, hbkyb, hbkyc, hbkyd⟩ := id hbly
 have hbkym : y.blocks.length ≤ 9223372036854775807 := by have h1 := hbkya; have h2 := hbkyb; unfold maxLen at h2; omega
 refine Ret.enter (P := Try.prog) (n := 55) (args := [.agg #[.string x.name, .int .i64 x.bind, .int .i64 x.params, .slice adbx x.blocks.length capbx], .agg #[.string y.name, .int .i64 y.bind, .int .i64 y.params, .slice adby y.blocks.length capby]]) (σ := [(0, .agg #[.string x.name, .int .i64 x.bind, .int .i64 x.params, .slice adbx x.blocks.length capbx]), (1, .agg #[.string y.name, .int .i64 y.bind, .int .i64 y.params, .slice adby y.blocks.length capby])]) Try.func24 rfl rfl rfl rfl ?_
 have hS := St.start (ro := ro) hro
 refine W.seq ?_
 refine W.region ?_
 refine WL.box (v := .agg #[.string x.name, .int .i64 x.bind, .int .i64 x.params, .slice adbx x.blocks.length capbx]) (cs := [.string x.name, .int .i64 x.bind, .int .i64 x.params, .slice adbx x.blocks.length capbx]) rfl rfl rfl rfl hS ?_
 clear hS; intro w2 b1 hb_b1 hS
 refine WL.box (v := .agg #[.string y.name, .int .i64 y.bind, .int .i64 y.params, .slice adby y.blocks.length capby]) (cs := [.string y.name, .int .i64 y.bind, .int .i64 y.params, .slice adby y.blocks.length capby]) rfl rfl rfl rfl hS ?_
 clear hS; intro w4 b3 hb_b3 hS
 refine WL.assign rfl rfl rfl ?_
 refine WL.nil ?_
 refine N.seq ?_
 refine W.seq ?_
 refine W.seq ?_
 refine W.region ?_
 refine WL.fieldAddr fo_24_0 rfl rfl rfl ?_
 refine WL.load1 (v := .string x.name) one_9 rfl rfl rfl (hS.cell 1 rfl rfl) ?_
 refine WL.fieldAddr fo_24_0 rfl rfl rfl ?_
 refine WL.load1 (v := .string y.name) one_9 rfl rfl rfl (hS.cell 0 rfl rfl) ?_
 refine WL.neStr rfl rfl rfl rfl ?_
 refine WL.move rfl rfl rfl ?_
 cases hg5 : (!decide (x.name = y.name))
 ·
  have hg5p : x.name = y.name := by simpa using hg5
  refine WL.fieldAddr fo_24_1 rfl rfl rfl ?_
  refine WL.load1 (v := .int .i64 x.bind) one_3 rfl rfl rfl (hS.cell 1 rfl rfl) ?_
  refine WL.fieldAddr fo_24_1 rfl rfl rfl ?_
  refine WL.load1 (v := .int .i64 y.bind) one_3 rfl rfl rfl (hS.cell 0 rfl rfl) ?_
  refine WL.bin rfl rfl rfl rfl rfl ?_
  refine WL.pick (v := .bool (!decide (x.bind = y.bind))) rfl rfl rfl rfl rfl rfl ?_
  refine WL.move rfl rfl rfl ?_
  cases hg6 : (!decide (x.bind = y.bind))
  ·
   have hg6p : x.bind = y.bind := by simpa using hg6
   refine WL.fieldAddr fo_24_2 rfl rfl rfl ?_
   refine WL.load1 (v := .int .i64 x.params) one_3 rfl rfl rfl (hS.cell 1 rfl rfl) ?_
   refine WL.fieldAddr fo_24_2 rfl rfl rfl ?_
   refine WL.load1 (v := .int .i64 y.params) one_3 rfl rfl rfl (hS.cell 0 rfl rfl) ?_
   refine WL.bin rfl rfl rfl rfl rfl ?_
   refine WL.pick (v := .bool (!decide (x.params = y.params))) rfl rfl rfl rfl rfl rfl ?_
   refine WL.move rfl rfl rfl ?_
   cases hg7 : (!decide (x.params = y.params))
   ·
    have hg7p : x.params = y.params := by simpa using hg7
    refine WL.fieldAddr fo_24_3 rfl rfl rfl ?_
    refine WL.load1 (v := .slice adbx x.blocks.length capbx) one_22 rfl rfl rfl (hS.cell 1 rfl rfl) ?_
    refine WL.lenSlice Try.underlying22 rfl rfl rfl ?_
    refine WL.fieldAddr fo_24_3 rfl rfl rfl ?_
    refine WL.load1 (v := .slice adby y.blocks.length capby) one_22 rfl rfl rfl (hS.cell 0 rfl rfl) ?_
    refine WL.lenSlice Try.underlying22 rfl rfl rfl ?_
    refine WL.bin rfl rfl rfl rfl rfl ?_
    refine WL.pick (v := .bool (!decide ((x.blocks.length : Int) = (y.blocks.length : Int)))) rfl rfl rfl rfl rfl rfl ?_
    refine WL.nil ?_
    refine N.seq ?_
    refine W.cond rfl (fun hc8 => ?_) (fun hc8 => ?_)
    ·
     have hc8p : ¬ ((x.blocks.length : Int) = (y.blocks.length : Int)) := by simpa using hc8
     refine W.seq ?_
     refine W.region ?_
     refine WL.assign rfl rfl rfl ?_
     refine WL.nil ?_
     refine N.seq ?_
     refine Fin.ret1 rfl (v := .bool false) rfl ?_
     have hne : ¬ x = y := by
       intro e; rw [e] at hc8p; simp at hc8p
     exact ⟨by rw [decide_eq_false hne], hS.below⟩
    have hc8p : (x.blocks.length : Int) = (y.blocks.length : Int) := by simpa using hc8
    refine W.skip ?_
    refine N.seq ?_
    refine W.seq ?_
    refine W.seq ?_
    refine W.region ?_
    refine WL.assign rfl rfl rfl ?_
    refine WL.nil ?_
    refine N.seq ?_
    refine W.block ?_
    refine W.loop (α := Nat) (fun (k : Nat) => [(0, .agg #[.string x.name, .int .i64 x.bind, .int .i64 x.params, .slice adbx x.blocks.length capbx]), (1, .agg #[.string y.name, .int .i64 y.bind, .int .i64 y.params, .slice adby y.blocks.length capby]), (2, .pointer (some ⟨b1, 0, none⟩)), (3, .pointer (some ⟨b3, 0, none⟩)), (5, .int .i64 (k : Int)), (7, .pointer (some ⟨b1, 0, none⟩)), (8, .string x.name), (9, .pointer (some ⟨b3, 0, none⟩)), (10, .string y.name), (11, .bool false), (12, .bool false), (13, .pointer (some ⟨b1, 1, none⟩)), (14, .int .i64 x.bind), (15, .pointer (some ⟨b3, 1, none⟩)), (16, .int .i64 y.bind), (17, .bool false), (18, .bool false), (19, .bool false), (20, .pointer (some ⟨b1, 2, none⟩)), (21, .int .i64 x.params), (22, .pointer (some ⟨b3, 2, none⟩)), (23, .int .i64 y.params), (24, .bool false), (25, .bool false), (26, .bool false), (27, .pointer (some ⟨b1, 3, none⟩)), (28, .slice adbx x.blocks.length capbx), (29, .int .i64 (x.blocks.length : Int)), (30, .pointer (some ⟨b3, 3, none⟩)), (31, .slice adby y.blocks.length capby), (32, .int .i64 (y.blocks.length : Int)), (33, .bool (!decide ((x.blocks.length : Int) = (y.blocks.length : Int)))), (34, .bool (!decide ((x.blocks.length : Int) = (y.blocks.length : Int))))]) (fun (k : Nat) u => St w w u ro [(b3, .cells #[.string y.name, .int .i64 y.bind, .int .i64 y.params, .slice adby y.blocks.length capby] 24 (0, 0)), (b1, .cells #[.string x.name, .int .i64 x.bind, .int .i64 x.params, .slice adbx x.blocks.length capbx] 24 (0, 0))] [] ∧ k ≤ x.blocks.length ∧ x.blocks.take k = y.blocks.take k) (fun (k : Nat) => x.blocks.length - k) 0 ⟨rfl, rfl, rfl, rfl, rfl, rfl, rfl, rfl, rfl, rfl, rfl, rfl, rfl, rfl, rfl, rfl, rfl, rfl, rfl, rfl, rfl, rfl, rfl, rfl, rfl, rfl, rfl, rfl, rfl, rfl, rfl, rfl, rfl, trivial⟩ ⟨hS, Nat.zero_le _, rfl⟩ ?_
    clear hS
    rintro k w9 ⟨hS, hk, htk⟩
    refine W.seq ?_
    refine W.seq ?_
    refine W.region ?_
    refine WL.move rfl rfl rfl ?_
    refine WL.fieldAddr fo_24_3 rfl rfl rfl ?_
    refine WL.load1 (v := .slice adbx x.blocks.length capbx) one_22 rfl rfl rfl (hS.cell 1 rfl rfl) ?_
    refine WL.lenSlice Try.underlying22 rfl rfl rfl ?_
    refine WL.bin rfl rfl rfl rfl rfl ?_
    refine WL.nil ?_
    refine N.seq ?_
    refine W.cond rfl (fun hc10 => ?_) (fun hc10 => ?_)
    ·
     have hc10p : (k : Int) < (x.blocks.length : Int) := by simpa using hc10
     refine W.skip ?_
     refine N.seq ?_
     refine W.seq ?_
     refine W.block ?_
     refine W.seq ?_
     have hj11 : k < x.blocks.length := by omega
     obtain ⟨x11, hx11⟩ : ∃ zz, x.blocks[k]? = some zz := ⟨_, List.getElem?_eq_getElem hj11⟩
     obtain ⟨b11, o11, cs11, hE11, hr11, hl11, hc11, hQ11⟩ := hbkxd k _ hx11
     obtain ⟨si11, tsx11, rfl, hin11, hfin11, hpar11⟩ := id hQ11
     obtain ⟨adi11, capi11, rfl, hin11a, hin11b, hin11c, hin11d⟩ := id hin11
     have hin11m : x11.ins.length ≤ 9223372036854775807 := by have h1 := hin11a; have h2 := hin11b; unfold maxLen at h2; omega
     obtain ⟨sp11, sq11, rfl, ht111, ht211, htk11, hta11, htt11, hte11⟩ := id hfin11
     obtain ⟨adp11, capp11, rfl, htp11a, htp11b, htp11c, htp11d⟩ := id ht111
     have htp11m : x11.fin.args.length ≤ 9223372036854775807 := by have h1 := htp11a; have h2 := htp11b; unfold maxLen at h2; omega
     obtain ⟨adq11, capq11, rfl, htq11a, htq11b, htq11c, htq11d⟩ := id ht211
     have htq11m : x11.fin.elses.length ≤ 9223372036854775807 := by have h1 := htq11a; have h2 := htq11b; unfold maxLen at h2; omega
     have hj12 : k < y.blocks.length := by omega
     obtain ⟨x12, hx12⟩ : ∃ zz, y.blocks[k]? = some zz := ⟨_, List.getElem?_eq_getElem hj12⟩
     obtain ⟨b12, o12, cs12, hE12, hr12, hl12, hc12, hQ12⟩ := hbkyd k _ hx12
     obtain ⟨si12, tsx12, rfl, hin12, hfin12, hpar12⟩ := id hQ12
     obtain ⟨adi12, capi12, rfl, hin12a, hin12b, hin12c, hin12d⟩ := id hin12
     have hin12m : x12.ins.length ≤ 9223372036854775807 := by have h1 := hin12a; have h2 := hin12b; unfold maxLen at h2; omega
     obtain ⟨sp12, sq12, rfl, ht112, ht212, htk12, hta12, htt12, hte12⟩ := id hfin12
     obtain ⟨adp12, capp12, rfl, htp12a, htp12b, htp12c, htp12d⟩ := id ht112
     have htp12m : x12.fin.args.length ≤ 9223372036854775807 := by have h1 := htp12a; have h2 := htp12b; unfold maxLen at h2; omega
     obtain ⟨adq12, capq12, rfl, htq12a, htq12b, htq12c, htq12d⟩ := id ht212
     have htq12m : x12.fin.elses.length ≤ 9223372036854775807 := by have h1 := htq12a; have h2 := htq12b; unfold maxLen at h2; omega
     refine W.drawL (by kernel_rfl) 11 [.q (.pointer (some ⟨b1, 3, none⟩)), .q (.slice adbx x.blocks.length capbx), .q (.int .i64 (k : Int)), .q (.pointer (some ⟨b11, o11 + k * 8, none⟩)), .q (.agg #[.int .i64 x11.params, .slice adi11 x11.ins.length capi11, .int .i64 x11.fin.kind, .int .i64 x11.fin.a, .int .i64 x11.fin.to, .slice adp11 x11.fin.args.length capp11, .int .i64 x11.fin.els, .slice adq11 x11.fin.elses.length capq11]), .q (.pointer (some ⟨b3, 3, none⟩)), .q (.slice adby y.blocks.length capby), .q (.int .i64 (k : Int)), .q (.pointer (some ⟨b12, o12 + k * 8, none⟩)), .q (.agg #[.int .i64 x12.params, .slice adi12 x12.ins.length capi12, .int .i64 x12.fin.kind, .int .i64 x12.fin.a, .int .i64 x12.fin.to, .slice adp12 x12.fin.args.length capp12, .int .i64 x12.fin.els, .slice adq12 x12.fin.elses.length capq12]), .q (.bool (decide (x11 = x12)))] (by kernel_rfl) rfl [(0, .agg #[.string x.name, .int .i64 x.bind, .int .i64 x.params, .slice adbx x.blocks.length capbx]), (1, .agg #[.string y.name, .int .i64 y.bind, .int .i64 y.params, .slice adby y.blocks.length capby]), (2, .pointer (some ⟨b1, 0, none⟩)), (3, .pointer (some ⟨b3, 0, none⟩)), (5, .int .i64 (k : Int)), (7, .pointer (some ⟨b1, 0, none⟩)), (8, .string x.name), (9, .pointer (some ⟨b3, 0, none⟩)), (10, .string y.name), (11, .bool false), (12, .bool false), (13, .pointer (some ⟨b1, 1, none⟩)), (14, .int .i64 x.bind), (15, .pointer (some ⟨b3, 1, none⟩)), (16, .int .i64 y.bind), (17, .bool false), (18, .bool false), (19, .bool false), (20, .pointer (some ⟨b1, 2, none⟩)), (21, .int .i64 x.params), (22, .pointer (some ⟨b3, 2, none⟩)), (23, .int .i64 y.params), (24, .bool false), (25, .bool false), (26, .bool false), (27, .pointer (some ⟨b1, 3, none⟩)), (28, .slice adbx x.blocks.length capbx), (29, .int .i64 (x.blocks.length : Int)), (30, .pointer (some ⟨b3, 3, none⟩)), (31, .slice adby y.blocks.length capby), (32, .int .i64 (y.blocks.length : Int)), (33, .bool (!decide ((x.blocks.length : Int) = (y.blocks.length : Int)))), (34, .bool (!decide ((x.blocks.length : Int) = (y.blocks.length : Int)))), (35, .int .i64 (k : Int)), (36, .pointer (some ⟨b1, 3, none⟩)), (37, .slice adbx x.blocks.length capbx), (38, .int .i64 (x.blocks.length : Int)), (39, .bool (decide ((k : Int) < (x.blocks.length : Int))))] ⟨rfl, rfl, rfl, rfl, rfl, rfl, rfl, rfl, rfl, rfl, rfl, rfl, rfl, rfl, rfl, rfl, rfl, rfl, rfl, rfl, rfl, rfl, rfl, rfl, rfl, rfl, rfl, rfl, rfl, rfl, rfl, rfl, rfl, rfl, rfl, rfl, rfl, rfl, trivial⟩ rfl hS ?_ ?_
     ·
      refine And.intro (fun β w hS => ?_) ?_
      ·
       refine WL.sub (σ' := [(2, .pointer (some ⟨b1, 0, none⟩))]) ⟨rfl, trivial⟩ ?_
       refine WL.fieldAddr fo_24_3 rfl rfl rfl ?_
       exact WL.nil (N.cut () ⟨rfl, trivial⟩ (Below.refl _ _))
      refine And.intro (fun β w hS => ?_) ?_
      ·
       refine WL.sub (σ' := [(42, .pointer (some ⟨b1, 3, none⟩))]) ⟨rfl, trivial⟩ ?_
       refine WL.load1 (v := .slice adbx x.blocks.length capbx) one_22 rfl rfl rfl (hS.cell 1 rfl rfl) ?_
       exact WL.nil (N.cut () ⟨rfl, trivial⟩ (Below.refl _ _))
      refine And.intro (fun β w hS => ?_) ?_
      ·
       refine WL.sub (σ' := [(5, .int .i64 (k : Int))]) ⟨rfl, trivial⟩ ?_
       refine WL.move rfl rfl rfl ?_
       exact WL.nil (N.cut () ⟨rfl, trivial⟩ (Below.refl _ _))
      refine And.intro (fun β w hS => ?_) ?_
      ·
       refine WL.sub (σ' := [(43, .slice adbx x.blocks.length capbx), (44, .int .i64 (k : Int))]) ⟨rfl, rfl, trivial⟩ ?_
       refine WL.indexAddrE (j := k) Try.underlying22 isz_32 rfl rfl rfl rfl hj11 hE11 ?_
       exact WL.nil (N.cut () ⟨rfl, trivial⟩ (Below.refl _ _))
      refine And.intro (fun β w hS => ?_) ?_
      ·
       refine WL.sub (σ' := [(45, .pointer (some ⟨b11, o11 + k * 8, none⟩))]) ⟨rfl, trivial⟩ ?_
       refine WL.loadN (cs := [.int .i64 x11.params, .slice adi11 x11.ins.length capi11, .int .i64 x11.fin.kind, .int .i64 x11.fin.a, .int .i64 x11.fin.to, .slice adp11 x11.fin.args.length capp11, .int .i64 x11.fin.els, .slice adq11 x11.fin.elses.length capq11]) agg_32 rfl rfl rfl rfl (hS.roCells hr11 hc11) ?_
       exact WL.nil (N.cut () ⟨rfl, trivial⟩ (Below.refl _ _))
      refine And.intro (fun β w hS => ?_) ?_
      ·
       refine WL.sub (σ' := [(3, .pointer (some ⟨b3, 0, none⟩))]) ⟨rfl, trivial⟩ ?_
       refine WL.fieldAddr fo_24_3 rfl rfl rfl ?_
       exact WL.nil (N.cut () ⟨rfl, trivial⟩ (Below.refl _ _))
      refine And.intro (fun β w hS => ?_) ?_
      ·
       refine WL.sub (σ' := [(47, .pointer (some ⟨b3, 3, none⟩))]) ⟨rfl, trivial⟩ ?_
       refine WL.load1 (v := .slice adby y.blocks.length capby) one_22 rfl rfl rfl (hS.cell 0 rfl rfl) ?_
       exact WL.nil (N.cut () ⟨rfl, trivial⟩ (Below.refl _ _))
      refine And.intro (fun β w hS => ?_) ?_
      ·
       refine WL.sub (σ' := [(5, .int .i64 (k : Int))]) ⟨rfl, trivial⟩ ?_
       refine WL.move rfl rfl rfl ?_
       exact WL.nil (N.cut () ⟨rfl, trivial⟩ (Below.refl _ _))
      refine And.intro (fun β w hS => ?_) ?_
      ·
       refine WL.sub (σ' := [(48, .slice adby y.blocks.length capby), (49, .int .i64 (k : Int))]) ⟨rfl, rfl, trivial⟩ ?_
       refine WL.indexAddrE (j := k) Try.underlying22 isz_32 rfl rfl rfl rfl hj12 hE12 ?_
       exact WL.nil (N.cut () ⟨rfl, trivial⟩ (Below.refl _ _))
      refine And.intro (fun β w hS => ?_) ?_
      ·
       refine WL.sub (σ' := [(50, .pointer (some ⟨b12, o12 + k * 8, none⟩))]) ⟨rfl, trivial⟩ ?_
       refine WL.loadN (cs := [.int .i64 x12.params, .slice adi12 x12.ins.length capi12, .int .i64 x12.fin.kind, .int .i64 x12.fin.a, .int .i64 x12.fin.to, .slice adp12 x12.fin.args.length capp12, .int .i64 x12.fin.els, .slice adq12 x12.fin.elses.length capq12]) agg_32 rfl rfl rfl rfl (hS.roCells hr12 hc12) ?_
       exact WL.nil (N.cut () ⟨rfl, trivial⟩ (Below.refl _ _))
      refine And.intro (fun β w hS => ?_) ?_
      ·
       refine WL.sub (σ' := [(46, .agg #[.int .i64 x11.params, .slice adi11 x11.ins.length capi11, .int .i64 x11.fin.kind, .int .i64 x11.fin.a, .int .i64 x11.fin.to, .slice adp11 x11.fin.args.length capp11, .int .i64 x11.fin.els, .slice adq11 x11.fin.elses.length capq11]), (51, .agg #[.int .i64 x12.params, .slice adi12 x12.ins.length capi12, .int .i64 x12.fin.kind, .int .i64 x12.fin.a, .int .i64 x12.fin.to, .slice adp12 x12.fin.args.length capp12, .int .i64 x12.fin.els, .slice adq12 x12.fin.elses.length capq12])]) ⟨rfl, rfl, trivial⟩ ?_
       refine WL.callF (vs := [.agg #[.int .i64 x11.params, .slice adi11 x11.ins.length capi11, .int .i64 x11.fin.kind, .int .i64 x11.fin.a, .int .i64 x11.fin.to, .slice adp11 x11.fin.args.length capp11, .int .i64 x11.fin.els, .slice adq11 x11.fin.elses.length capq11], .agg #[.int .i64 x12.params, .slice adi12 x12.ins.length capi12, .int .i64 x12.fin.kind, .int .i64 x12.fin.a, .int .i64 x12.fin.to, .slice adp12 x12.fin.args.length capp12, .int .i64 x12.fin.els, .slice adq12 x12.fin.elses.length capq12]]) Try.func19 (by kernel_rfl) rfl rfl rfl (sameBlock_ret x11 x12 _ _ (ro := ro) (fun b hb => (hS.snap b hb).1) (BlockC.keep hQ11 hS.alike) (BlockC.keep hQ12 hS.alike)) ?_
       rintro v w14 ⟨rfl, hbl⟩
       replace hS := hS.grow hbl
       exact WL.nil (N.cut () ⟨rfl, trivial⟩ hbl)
      trivial
     clear hS; intro w15 β hS
     refine WL.sub (σ' := [(0, .agg #[.string x.name, .int .i64 x.bind, .int .i64 x.params, .slice adbx x.blocks.length capbx]), (1, .agg #[.string y.name, .int .i64 y.bind, .int .i64 y.params, .slice adby y.blocks.length capby]), (2, .pointer (some ⟨b1, 0, none⟩)), (3, .pointer (some ⟨b3, 0, none⟩)), (5, .int .i64 (k : Int)), (7, .pointer (some ⟨b1, 0, none⟩)), (8, .string x.name), (9, .pointer (some ⟨b3, 0, none⟩)), (10, .string y.name), (11, .bool false), (12, .bool false), (13, .pointer (some ⟨b1, 1, none⟩)), (14, .int .i64 x.bind), (15, .pointer (some ⟨b3, 1, none⟩)), (16, .int .i64 y.bind), (17, .bool false), (18, .bool false), (19, .bool false), (20, .pointer (some ⟨b1, 2, none⟩)), (21, .int .i64 x.params), (22, .pointer (some ⟨b3, 2, none⟩)), (23, .int .i64 y.params), (24, .bool false), (25, .bool false), (26, .bool false), (27, .pointer (some ⟨b1, 3, none⟩)), (28, .slice adbx x.blocks.length capbx), (29, .int .i64 (x.blocks.length : Int)), (30, .pointer (some ⟨b3, 3, none⟩)), (31, .slice adby y.blocks.length capby), (32, .int .i64 (y.blocks.length : Int)), (33, .bool (!decide ((x.blocks.length : Int) = (y.blocks.length : Int)))), (34, .bool (!decide ((x.blocks.length : Int) = (y.blocks.length : Int)))), (35, .int .i64 (k : Int)), (36, .pointer (some ⟨b1, 3, none⟩)), (37, .slice adbx x.blocks.length capbx), (38, .int .i64 (x.blocks.length : Int)), (39, .bool (decide ((k : Int) < (x.blocks.length : Int)))), (42, .pointer (some ⟨b1, 3, none⟩)), (43, .slice adbx x.blocks.length capbx), (44, .int .i64 (k : Int)), (45, .pointer (some ⟨b11, o11 + k * 8, none⟩)), (46, .agg #[.int .i64 x11.params, .slice adi11 x11.ins.length capi11, .int .i64 x11.fin.kind, .int .i64 x11.fin.a, .int .i64 x11.fin.to, .slice adp11 x11.fin.args.length capp11, .int .i64 x11.fin.els, .slice adq11 x11.fin.elses.length capq11]), (47, .pointer (some ⟨b3, 3, none⟩)), (48, .slice adby y.blocks.length capby), (49, .int .i64 (k : Int)), (50, .pointer (some ⟨b12, o12 + k * 8, none⟩)), (51, .agg #[.int .i64 x12.params, .slice adi12 x12.ins.length capi12, .int .i64 x12.fin.kind, .int .i64 x12.fin.a, .int .i64 x12.fin.to, .slice adp12 x12.fin.args.length capp12, .int .i64 x12.fin.els, .slice adq12 x12.fin.elses.length capq12]), (52, .bool (decide (x11 = x12)))]) ⟨rfl, rfl, rfl, rfl, rfl, rfl, rfl, rfl, rfl, rfl, rfl, rfl, rfl, rfl, rfl, rfl, rfl, rfl, rfl, rfl, rfl, rfl, rfl, rfl, rfl, rfl, rfl, rfl, rfl, rfl, rfl, rfl, rfl, rfl, rfl, rfl, rfl, rfl, rfl, rfl, rfl, rfl, rfl, rfl, rfl, rfl, rfl, rfl, rfl, trivial⟩ ?_
     refine WL.assign rfl rfl rfl ?_
     refine WL.nil ?_
     refine N.seq ?_
     refine W.seq ?_
     refine W.region ?_
     refine WL.move rfl rfl rfl ?_
     refine WL.not rfl rfl rfl ?_
     refine WL.nil ?_
     refine N.seq ?_
     refine W.cond rfl (fun hc16 => ?_) (fun hc16 => ?_)
     ·
      have hc16p : ¬ (x11 = x12) := by simpa using hc16
      refine W.seq ?_
      refine W.region ?_
      refine WL.assign rfl rfl rfl ?_
      refine WL.nil ?_
      refine N.seq ?_
      refine Fin.ret1 rfl (v := .bool false) rfl ?_
      have hne : ¬ x = y := by
        intro e; rw [e, hx12] at hx11; rw [Option.some.inj hx11] at hc16p; simp at hc16p
      exact ⟨by rw [decide_eq_false hne], hS.below⟩
     have hc16p : x11 = x12 := by simpa using hc16
     refine W.skip ?_
     refine N.blk ?_
     refine N.seq ?_
     refine W.region ?_
     refine WL.move rfl rfl rfl ?_
     refine WL.add (c := (k : Int) + 1) rfl rfl rfl rfl (rfl) (by omega) ?_
     refine WL.assign rfl rfl rfl ?_
     refine WL.nil ?_
     have hxy : x11 = x12 := by simpa using hc16p
     have htk2 : x.blocks.take (k + 1) = y.blocks.take (k + 1) := by rw [take_next hx11, take_next hx12, htk, hxy]
     exact N.loop (k + 1) ⟨rfl, rfl, rfl, rfl, rfl, rfl, rfl, rfl, rfl, rfl, rfl, rfl, rfl, rfl, rfl, rfl, rfl, rfl, rfl, rfl, rfl, rfl, rfl, rfl, rfl, rfl, rfl, rfl, rfl, rfl, rfl, rfl, rfl, trivial⟩ ⟨hS, by omega, htk2⟩ (by first | omega | (simp only; omega))
    have hc10p : ¬ ((k : Int) < (x.blocks.length : Int)) := by simpa using hc10
    refine W.exit ?_
    refine X.seq ?_
    refine X.loop ?_
    refine X.blk ?_
    refine N.seq ?_
    refine W.seq ?_
    refine W.region ?_
    refine WL.assign rfl rfl rfl ?_
    refine WL.nil ?_
    refine N.seq ?_
    refine Fin.ret1 rfl (v := .bool true) rfl ?_
    have e1 : x.blocks = y.blocks := take_full htk (by omega) (by omega)
    have e : x = y := dfunc_eq (by clear hS; first | assumption | simpa using ‹_› | omega | simp_all) (by clear hS; first | assumption | simpa using ‹_› | omega | simp_all) (by clear hS; first | assumption | simpa using ‹_› | omega | simp_all) e1
    exact ⟨by rw [decide_eq_true e], hS.below⟩
   have hg7p : ¬ (x.params = y.params) := by simpa using hg7
   refine WL.skp rfl rfl ?_
   refine WL.skp rfl rfl ?_
   refine WL.skp rfl rfl ?_
   refine WL.skp rfl rfl ?_
   refine WL.skp rfl rfl ?_
   refine WL.skp rfl rfl ?_
   refine WL.skp rfl rfl ?_
   refine WL.pick (v := .bool true) rfl rfl rfl rfl rfl rfl ?_
   refine WL.nil ?_
   refine N.seq ?_
   refine W.condT rfl ?_
   refine W.seq ?_
   refine W.region ?_
   refine WL.assign rfl rfl rfl ?_
   refine WL.nil ?_
   refine N.seq ?_
   refine Fin.ret1 rfl (v := .bool false) rfl ?_
   have hne : ¬ x = y := by
     intro e; rw [e] at hg7p; simp at hg7p
   exact ⟨by rw [decide_eq_false hne], hS.below⟩
  have hg6p : ¬ (x.bind = y.bind) := by simpa using hg6
  refine WL.skp rfl rfl ?_
  refine WL.skp rfl rfl ?_
  refine WL.skp rfl rfl ?_
  refine WL.skp rfl rfl ?_
  refine WL.skp rfl rfl ?_
  refine WL.pick (v := .bool true) rfl rfl rfl rfl rfl rfl ?_
  refine WL.move rfl rfl rfl ?_
  refine WL.skp rfl rfl ?_
  refine WL.skp rfl rfl ?_
  refine WL.skp rfl rfl ?_
  refine WL.skp rfl rfl ?_
  refine WL.skp rfl rfl ?_
  refine WL.skp rfl rfl ?_
  refine WL.skp rfl rfl ?_
  refine WL.pick (v := .bool true) rfl rfl rfl rfl rfl rfl ?_
  refine WL.nil ?_
  refine N.seq ?_
  refine W.condT rfl ?_
  refine W.seq ?_
  refine W.region ?_
  refine WL.assign rfl rfl rfl ?_
  refine WL.nil ?_
  refine N.seq ?_
  refine Fin.ret1 rfl (v := .bool false) rfl ?_
  have hne : ¬ x = y := by
    intro e; rw [e] at hg6p; simp at hg6p
  exact ⟨by rw [decide_eq_false hne], hS.below⟩
 have hg5p : ¬ (x.name = y.name) := by simpa using hg5
 refine WL.skp rfl rfl ?_
 refine WL.skp rfl rfl ?_
 refine WL.skp rfl rfl ?_
 refine WL.skp rfl rfl ?_
 refine WL.skp rfl rfl ?_
 refine WL.pick (v := .bool true) rfl rfl rfl rfl rfl rfl ?_
 refine WL.move rfl rfl rfl ?_
 refine WL.skp rfl rfl ?_
 refine WL.skp rfl rfl ?_
 refine WL.skp rfl rfl ?_
 refine WL.skp rfl rfl ?_
 refine WL.skp rfl rfl ?_
 refine WL.pick (v := .bool true) rfl rfl rfl rfl rfl rfl ?_
 refine WL.move rfl rfl rfl ?_
 refine WL.skp rfl rfl ?_
 refine WL.skp rfl rfl ?_
 refine WL.skp rfl rfl ?_
 refine WL.skp rfl rfl ?_
 refine WL.skp rfl rfl ?_
 refine WL.skp rfl rfl ?_
 refine WL.skp rfl rfl ?_
 refine WL.pick (v := .bool true) rfl rfl rfl rfl rfl rfl ?_
 refine WL.nil ?_
 refine N.seq ?_
 refine W.condT rfl ?_
 refine W.seq ?_
 refine W.region ?_
 refine WL.assign rfl rfl rfl ?_
 refine WL.nil ?_
 refine N.seq ?_
 refine Fin.ret1 rfl (v := .bool false) rfl ?_
 have hne : ¬ x = y := by
   intro e; rw [e] at hg5p; simp at hg5p
 exact ⟨by rw [decide_eq_false hne], hS.below⟩

theorem globFields : Try.prog.underlying 71 = some (.struct (Try.prog.fieldsOf 71)) := by rw [Program.fieldsOf, Try.underlying71]
theorem eqGlobT (x y : DGlob) (w : World) : (Op.eqFields 9999 #[.string x.name, .int .i64 x.bind, .bool x.here, .int .u64 x.init] #[.string y.name, .int .i64 y.bind, .bool y.here, .int .u64 y.init] (Try.prog.fieldsOf 71).toList).run Try.prog w = .ok (decide (x = y)) w :=
  eqGlob (by rw [Program.fieldsOf, Try.underlying71]) (by decide) (by decide) (by decide) (by decide) rfl rfl rfl rfl (by simp [Program.plainKey, Try.underlying9]) (by simp [Program.plainKey, Try.underlying3]) (by simp [Program.plainKey, Try.underlying4]) (by simp [Program.plainKey, Try.underlying34]) Try.underlying9 Try.underlying3 Try.underlying4 Try.underlying34 x y w

theorem sameMod_ret (x y : DMod) (cx cy : List Value) {w : World} {ro : Nat → Prop} (hro : ∀ b, ro b → b < w.heap.size) (hx : ModC ro w cx x) (hy : ModC ro w cy y) : Ret Try.prog 16 #[.agg cx.toArray, .agg cy.toArray] w fun v w' => v = .bool (decide (x = y)) ∧ Below w.heap.size w w' := by
 obtain ⟨sfx, sgx, rfl, hfsx, hgsx⟩ := id hx
 obtain ⟨adfx, capfx, rfl, hfsxa, hfsxb, hfsxc, hfsxd⟩ := id hfsx
 have hfsxm : x.funcs.length ≤ 9223372036854775807 := by have h1 := hfsxa; have h2 := hfsxb; unfold maxLen at h2; omega
 obtain ⟨adgx, capgx, rfl, hgsxa, hgsxb, hgsxc, hgsxd⟩ := id hgsx
 have hgsxm : x.globs.length ≤ 9223372036854775807 := by have h1 := hgsxa; have h2 := hgsxb; unfold maxLen at h2; omega
 obtain ⟨sfy, sgy, rfl, hfsy, hgsy⟩ := id hy
 obtain ⟨adfy, capfy, rfl, hfsya, hfsyb, hfsyc, hfsyd⟩ := id hfsy
 have hfsym : y.funcs.length ≤ 9223372036854775807 := by have h1 := hfsya; have h2 := hfsyb; unfold maxLen at h2; omega
 obtain ⟨adgy, capgy, rfl, hgsya, hgsyb, hgsyc, hgsyd⟩ := id hgsy
 have hgsym : y.globs.length ≤ 9223372036854775807 := by have h1 := hgsya; have h2 := hgsyb; unfold maxLen at h2; omega
 refine Ret.enter (P := Try.prog) (n := 62) (args := [.agg #[.slice adfx x.funcs.length capfx, .slice adgx x.globs.length capgx], .agg #[.slice adfy y.funcs.length capfy, .slice adgy y.globs.length capgy]]) (σ := [(0, .agg #[.slice adfx x.funcs.length capfx, .slice adgx x.globs.length capgx]), (1, .agg #[.slice adfy y.funcs.length capfy, .slice adgy y.globs.length capgy])]) Try.func16 rfl rfl rfl rfl ?_
 have hS := St.start (ro := ro) hro
 refine W.seq ?_
 refine W.region ?_
 refine WL.box (v := .agg #[.slice adfx x.funcs.length capfx, .slice adgx x.globs.length capgx]) (cs := [.slice adfx x.funcs.length capfx, .slice adgx x.globs.length capgx]) rfl rfl rfl rfl hS ?_
 clear hS; intro w2 b1 hb_b1 hS
 refine WL.box (v := .agg #[.slice adfy y.funcs.length capfy, .slice adgy y.globs.length capgy]) (cs := [.slice adfy y.funcs.length capfy, .slice adgy y.globs.length capgy]) rfl rfl rfl rfl hS ?_
 clear hS; intro w4 b3 hb_b3 hS
 refine WL.assign rfl rfl rfl ?_
 refine WL.nil ?_
 refine N.seq ?_
 refine W.seq ?_
 refine W.seq ?_
 refine W.region ?_
 refine WL.fieldAddr fo_46_0 rfl rfl rfl ?_
 refine WL.load1 (v := .slice adfx x.funcs.length capfx) one_43 rfl rfl rfl (hS.cell 1 rfl rfl) ?_
 refine WL.lenSlice Try.underlying43 rfl rfl rfl ?_
 refine WL.fieldAddr fo_46_0 rfl rfl rfl ?_
 refine WL.load1 (v := .slice adfy y.funcs.length capfy) one_43 rfl rfl rfl (hS.cell 0 rfl rfl) ?_
 refine WL.lenSlice Try.underlying43 rfl rfl rfl ?_
 refine WL.bin rfl rfl rfl rfl rfl ?_
 refine WL.move rfl rfl rfl ?_
 cases hg5 : (!decide ((x.funcs.length : Int) = (y.funcs.length : Int)))
 ·
  have hg5p : (x.funcs.length : Int) = (y.funcs.length : Int) := by simpa using hg5
  refine WL.fieldAddr fo_46_1 rfl rfl rfl ?_
  refine WL.load1 (v := .slice adgx x.globs.length capgx) one_44 rfl rfl rfl (hS.cell 1 rfl rfl) ?_
  refine WL.lenSlice Try.underlying44 rfl rfl rfl ?_
  refine WL.fieldAddr fo_46_1 rfl rfl rfl ?_
  refine WL.load1 (v := .slice adgy y.globs.length capgy) one_44 rfl rfl rfl (hS.cell 0 rfl rfl) ?_
  refine WL.lenSlice Try.underlying44 rfl rfl rfl ?_
  refine WL.bin rfl rfl rfl rfl rfl ?_
  refine WL.pick (v := .bool (!decide ((x.globs.length : Int) = (y.globs.length : Int)))) rfl rfl rfl rfl rfl rfl ?_
  refine WL.nil ?_
  refine N.seq ?_
  refine W.cond rfl (fun hc6 => ?_) (fun hc6 => ?_)
  ·
   have hc6p : ¬ ((x.globs.length : Int) = (y.globs.length : Int)) := by simpa using hc6
   refine W.seq ?_
   refine W.region ?_
   refine WL.assign rfl rfl rfl ?_
   refine WL.nil ?_
   refine N.seq ?_
   refine Fin.ret1 rfl (v := .bool false) rfl ?_
   have hne : ¬ x = y := by
     intro e; rw [e] at hc6p; simp at hc6p
   exact ⟨by rw [decide_eq_false hne], hS.below⟩
  have hc6p : (x.globs.length : Int) = (y.globs.length : Int) := by simpa using hc6
  refine W.skip ?_
  refine N.seq ?_
  refine W.seq ?_
  refine W.seq ?_
  refine W.region ?_
  refine WL.assign rfl rfl rfl ?_
  refine WL.nil ?_
  refine N.seq ?_
  refine W.block ?_
  refine W.loop (α := Nat) (fun (k : Nat) => [(0, .agg #[.slice adfx x.funcs.length capfx, .slice adgx x.globs.length capgx]), (1, .agg #[.slice adfy y.funcs.length capfy, .slice adgy y.globs.length capgy]), (2, .pointer (some ⟨b1, 0, none⟩)), (3, .pointer (some ⟨b3, 0, none⟩)), (5, .int .i64 (k : Int)), (8, .pointer (some ⟨b1, 0, none⟩)), (9, .slice adfx x.funcs.length capfx), (10, .int .i64 (x.funcs.length : Int)), (11, .pointer (some ⟨b3, 0, none⟩)), (12, .slice adfy y.funcs.length capfy), (13, .int .i64 (y.funcs.length : Int)), (14, .bool false), (15, .bool false), (16, .pointer (some ⟨b1, 1, none⟩)), (17, .slice adgx x.globs.length capgx), (18, .int .i64 (x.globs.length : Int)), (19, .pointer (some ⟨b3, 1, none⟩)), (20, .slice adgy y.globs.length capgy), (21, .int .i64 (y.globs.length : Int)), (22, .bool (!decide ((x.globs.length : Int) = (y.globs.length : Int)))), (23, .bool (!decide ((x.globs.length : Int) = (y.globs.length : Int))))]) (fun (k : Nat) u => St w w u ro [(b3, .cells #[.slice adfy y.funcs.length capfy, .slice adgy y.globs.length capgy] 46 (0, 0)), (b1, .cells #[.slice adfx x.funcs.length capfx, .slice adgx x.globs.length capgx] 46 (0, 0))] [] ∧ k ≤ x.funcs.length ∧ x.funcs.take k = y.funcs.take k) (fun (k : Nat) => x.funcs.length - k) 0 ⟨rfl, rfl, rfl, rfl, rfl, rfl, rfl, rfl, rfl, rfl, rfl, rfl, rfl, rfl, rfl, rfl, rfl, rfl, rfl, rfl, rfl, trivial⟩ ⟨hS, Nat.zero_le _, rfl⟩ ?_
  clear hS
  rintro k w7 ⟨hS, hk, htk⟩
  refine W.seq ?_
  refine W.seq ?_
  refine W.region ?_
  refine WL.move rfl rfl rfl ?_
  refine WL.fieldAddr fo_46_0 rfl rfl rfl ?_
  refine WL.load1 (v := .slice adfx x.funcs.length capfx) one_43 rfl rfl rfl (hS.cell 1 rfl rfl) ?_
  refine WL.lenSlice Try.underlying43 rfl rfl rfl ?_
  refine WL.bin rfl rfl rfl rfl rfl ?_
  refine WL.nil ?_
  refine N.seq ?_
  refine W.cond rfl (fun hc8 => ?_) (fun hc8 => ?_)
  ·
   have hc8p : (k : Int) < (x.funcs.length : Int) := by simpa using hc8
   refine W.skip ?_
   refine N.seq ?_
   refine W.seq ?_
   refine W.block ?_
   refine W.seq ?_
   have hj9 : k < x.funcs.length := by omega
   obtain ⟨x9, hx9⟩ : ∃ zz, x.funcs[k]? = some zz := ⟨_, List.getElem?_eq_getElem hj9⟩
   obtain ⟨b9, o9, cs9, hE9, hr9, hl9, hc9, hQ9⟩ := hfsxd k _ hx9
   obtain ⟨sb9, rfl, hbl9, hnm9, hbd9, hpr9⟩ := id hQ9
   obtain ⟨adb9, capb9, rfl, hbk9a, hbk9b, hbk9c, hbk9d⟩ := id hbl9
   have hbk9m : x9.blocks.length ≤ 9223372036854775807 := by have h1 := hbk9a; have h2 := hbk9b; unfold maxLen at h2; omega
   have hj10 : k < y.funcs.length := by omega
   obtain ⟨x10, hx10⟩ : ∃ zz, y.funcs[k]? = some zz := ⟨_, List.getElem?_eq_getElem hj10⟩
   obtain ⟨b10, o10, cs10, hE10, hr10, hl10, hc10, hQ10⟩ := hfsyd k _ hx10
   obtain ⟨sb10, rfl, hbl10, hnm10, hbd10, hpr10⟩ := id hQ10
   obtain ⟨adb10, capb10, rfl, hbk10a, hbk10b, hbk10c, hbk10d⟩ := id hbl10
   have hbk10m : x10.blocks.length ≤ 9223372036854775807 := by have h1 := hbk10a; have h2 := hbk10b; unfold maxLen at h2; omega
   refine W.drawL (by kernel_rfl) 11 [.q (.pointer (some ⟨b1, 0, none⟩)), .q (.slice adfx x.funcs.length capfx), .q (.int .i64 (k : Int)), .q (.pointer (some ⟨b9, o9 + k * 4, none⟩)), .q (.agg #[.string x9.name, .int .i64 x9.bind, .int .i64 x9.params, .slice adb9 x9.blocks.length capb9]), .q (.pointer (some ⟨b3, 0, none⟩)), .q (.slice adfy y.funcs.length capfy), .q (.int .i64 (k : Int)), .q (.pointer (some ⟨b10, o10 + k * 4, none⟩)), .q (.agg #[.string x10.name, .int .i64 x10.bind, .int .i64 x10.params, .slice adb10 x10.blocks.length capb10]), .q (.bool (decide (x9 = x10)))] (by kernel_rfl) rfl [(0, .agg #[.slice adfx x.funcs.length capfx, .slice adgx x.globs.length capgx]), (1, .agg #[.slice adfy y.funcs.length capfy, .slice adgy y.globs.length capgy]), (2, .pointer (some ⟨b1, 0, none⟩)), (3, .pointer (some ⟨b3, 0, none⟩)), (5, .int .i64 (k : Int)), (8, .pointer (some ⟨b1, 0, none⟩)), (9, .slice adfx x.funcs.length capfx), (10, .int .i64 (x.funcs.length : Int)), (11, .pointer (some ⟨b3, 0, none⟩)), (12, .slice adfy y.funcs.length capfy), (13, .int .i64 (y.funcs.length : Int)), (14, .bool false), (15, .bool false), (16, .pointer (some ⟨b1, 1, none⟩)), (17, .slice adgx x.globs.length capgx), (18, .int .i64 (x.globs.length : Int)), (19, .pointer (some ⟨b3, 1, none⟩)), (20, .slice adgy y.globs.length capgy), (21, .int .i64 (y.globs.length : Int)), (22, .bool (!decide ((x.globs.length : Int) = (y.globs.length : Int)))), (23, .bool (!decide ((x.globs.length : Int) = (y.globs.length : Int)))), (24, .int .i64 (k : Int)), (25, .pointer (some ⟨b1, 0, none⟩)), (26, .slice adfx x.funcs.length capfx), (27, .int .i64 (x.funcs.length : Int)), (28, .bool (decide ((k : Int) < (x.funcs.length : Int))))] ⟨rfl, rfl, rfl, rfl, rfl, rfl, rfl, rfl, rfl, rfl, rfl, rfl, rfl, rfl, rfl, rfl, rfl, rfl, rfl, rfl, rfl, rfl, rfl, rfl, rfl, rfl, trivial⟩ rfl hS ?_ ?_
   ·
    refine And.intro (fun β w hS => ?_) ?_
    ·
     refine WL.sub (σ' := [(2, .pointer (some ⟨b1, 0, none⟩))]) ⟨rfl, trivial⟩ ?_
     refine WL.fieldAddr fo_46_0 rfl rfl rfl ?_
     exact WL.nil (N.cut () ⟨rfl, trivial⟩ (Below.refl _ _))
    refine And.intro (fun β w hS => ?_) ?_
    ·
     refine WL.sub (σ' := [(31, .pointer (some ⟨b1, 0, none⟩))]) ⟨rfl, trivial⟩ ?_
     refine WL.load1 (v := .slice adfx x.funcs.length capfx) one_43 rfl rfl rfl (hS.cell 1 rfl rfl) ?_
     exact WL.nil (N.cut () ⟨rfl, trivial⟩ (Below.refl _ _))
    refine And.intro (fun β w hS => ?_) ?_
    ·
     refine WL.sub (σ' := [(5, .int .i64 (k : Int))]) ⟨rfl, trivial⟩ ?_
     refine WL.move rfl rfl rfl ?_
     exact WL.nil (N.cut () ⟨rfl, trivial⟩ (Below.refl _ _))
    refine And.intro (fun β w hS => ?_) ?_
    ·
     refine WL.sub (σ' := [(32, .slice adfx x.funcs.length capfx), (33, .int .i64 (k : Int))]) ⟨rfl, rfl, trivial⟩ ?_
     refine WL.indexAddrE (j := k) Try.underlying43 isz_24 rfl rfl rfl rfl hj9 hE9 ?_
     exact WL.nil (N.cut () ⟨rfl, trivial⟩ (Below.refl _ _))
    refine And.intro (fun β w hS => ?_) ?_
    ·
     refine WL.sub (σ' := [(34, .pointer (some ⟨b9, o9 + k * 4, none⟩))]) ⟨rfl, trivial⟩ ?_
     refine WL.loadN (cs := [.string x9.name, .int .i64 x9.bind, .int .i64 x9.params, .slice adb9 x9.blocks.length capb9]) agg_24 rfl rfl rfl rfl (hS.roCells hr9 hc9) ?_
     exact WL.nil (N.cut () ⟨rfl, trivial⟩ (Below.refl _ _))
    refine And.intro (fun β w hS => ?_) ?_
    ·
     refine WL.sub (σ' := [(3, .pointer (some ⟨b3, 0, none⟩))]) ⟨rfl, trivial⟩ ?_
     refine WL.fieldAddr fo_46_0 rfl rfl rfl ?_
     exact WL.nil (N.cut () ⟨rfl, trivial⟩ (Below.refl _ _))
    refine And.intro (fun β w hS => ?_) ?_
    ·
     refine WL.sub (σ' := [(36, .pointer (some ⟨b3, 0, none⟩))]) ⟨rfl, trivial⟩ ?_
     refine WL.load1 (v := .slice adfy y.funcs.length capfy) one_43 rfl rfl rfl (hS.cell 0 rfl rfl) ?_
     exact WL.nil (N.cut () ⟨rfl, trivial⟩ (Below.refl _ _))
    refine And.intro (fun β w hS => ?_) ?_
    ·
     refine WL.sub (σ' := [(5, .int .i64 (k : Int))]) ⟨rfl, trivial⟩ ?_
     refine WL.move rfl rfl rfl ?_
     exact WL.nil (N.cut () ⟨rfl, trivial⟩ (Below.refl _ _))
    refine And.intro (fun β w hS => ?_) ?_
    ·
     refine WL.sub (σ' := [(37, .slice adfy y.funcs.length capfy), (38, .int .i64 (k : Int))]) ⟨rfl, rfl, trivial⟩ ?_
     refine WL.indexAddrE (j := k) Try.underlying43 isz_24 rfl rfl rfl rfl hj10 hE10 ?_
     exact WL.nil (N.cut () ⟨rfl, trivial⟩ (Below.refl _ _))
    refine And.intro (fun β w hS => ?_) ?_
    ·
     refine WL.sub (σ' := [(39, .pointer (some ⟨b10, o10 + k * 4, none⟩))]) ⟨rfl, trivial⟩ ?_
     refine WL.loadN (cs := [.string x10.name, .int .i64 x10.bind, .int .i64 x10.params, .slice adb10 x10.blocks.length capb10]) agg_24 rfl rfl rfl rfl (hS.roCells hr10 hc10) ?_
     exact WL.nil (N.cut () ⟨rfl, trivial⟩ (Below.refl _ _))
    refine And.intro (fun β w hS => ?_) ?_
    ·
     refine WL.sub (σ' := [(35, .agg #[.string x9.name, .int .i64 x9.bind, .int .i64 x9.params, .slice adb9 x9.blocks.length capb9]), (40, .agg #[.string x10.name, .int .i64 x10.bind, .int .i64 x10.params, .slice adb10 x10.blocks.length capb10])]) ⟨rfl, rfl, trivial⟩ ?_
     refine WL.callF (vs := [.agg #[.string x9.name, .int .i64 x9.bind, .int .i64 x9.params, .slice adb9 x9.blocks.length capb9], .agg #[.string x10.name, .int .i64 x10.bind, .int .i64 x10.params, .slice adb10 x10.blocks.length capb10]]) Try.func24 (by kernel_rfl) rfl rfl rfl (sameFunc_ret x9 x10 _ _ (ro := ro) (fun b hb => (hS.snap b hb).1) (FuncC.keep hQ9 hS.alike) (FuncC.keep hQ10 hS.alike)) ?_
     rintro v w12 ⟨rfl, hbl⟩
     replace hS := hS.grow hbl
     exact WL.nil (N.cut () ⟨rfl, trivial⟩ hbl)
    trivial
   clear hS; intro w13 β hS
   refine WL.sub (σ' := [(0, .agg #[.slice adfx x.funcs.length capfx, .slice adgx x.globs.length capgx]), (1, .agg #[.slice adfy y.funcs.length capfy, .slice adgy y.globs.length capgy]), (2, .pointer (some ⟨b1, 0, none⟩)), (3, .pointer (some ⟨b3, 0, none⟩)), (5, .int .i64 (k : Int)), (8, .pointer (some ⟨b1, 0, none⟩)), (9, .slice adfx x.funcs.length capfx), (10, .int .i64 (x.funcs.length : Int)), (11, .pointer (some ⟨b3, 0, none⟩)), (12, .slice adfy y.funcs.length capfy), (13, .int .i64 (y.funcs.length : Int)), (14, .bool false), (15, .bool false), (16, .pointer (some ⟨b1, 1, none⟩)), (17, .slice adgx x.globs.length capgx), (18, .int .i64 (x.globs.length : Int)), (19, .pointer (some ⟨b3, 1, none⟩)), (20, .slice adgy y.globs.length capgy), (21, .int .i64 (y.globs.length : Int)), (22, .bool (!decide ((x.globs.length : Int) = (y.globs.length : Int)))), (23, .bool (!decide ((x.globs.length : Int) = (y.globs.length : Int)))), (24, .int .i64 (k : Int)), (25, .pointer (some ⟨b1, 0, none⟩)), (26, .slice adfx x.funcs.length capfx), (27, .int .i64 (x.funcs.length : Int)), (28, .bool (decide ((k : Int) < (x.funcs.length : Int)))), (31, .pointer (some ⟨b1, 0, none⟩)), (32, .slice adfx x.funcs.length capfx), (33, .int .i64 (k : Int)), (34, .pointer (some ⟨b9, o9 + k * 4, none⟩)), (35, .agg #[.string x9.name, .int .i64 x9.bind, .int .i64 x9.params, .slice adb9 x9.blocks.length capb9]), (36, .pointer (some ⟨b3, 0, none⟩)), (37, .slice adfy y.funcs.length capfy), (38, .int .i64 (k : Int)), (39, .pointer (some ⟨b10, o10 + k * 4, none⟩)), (40, .agg #[.string x10.name, .int .i64 x10.bind, .int .i64 x10.params, .slice adb10 x10.blocks.length capb10]), (41, .bool (decide (x9 = x10)))]) ⟨rfl, rfl, rfl, rfl, rfl, rfl, rfl, rfl, rfl, rfl, rfl, rfl, rfl, rfl, rfl, rfl, rfl, rfl, rfl, rfl, rfl, rfl, rfl, rfl, rfl, rfl, rfl, rfl, rfl, rfl, rfl, rfl, rfl, rfl, rfl, rfl, rfl, trivial⟩ ?_
   refine WL.assign rfl rfl rfl ?_
   refine WL.nil ?_
   refine N.seq ?_
   refine W.seq ?_
   refine W.region ?_
   refine WL.move rfl rfl rfl ?_
   refine WL.not rfl rfl rfl ?_
   refine WL.nil ?_
   refine N.seq ?_
   refine W.cond rfl (fun hc14 => ?_) (fun hc14 => ?_)
   ·
    have hc14p : ¬ (x9 = x10) := by simpa using hc14
    refine W.seq ?_
    refine W.region ?_
    refine WL.assign rfl rfl rfl ?_
    refine WL.nil ?_
    refine N.seq ?_
    refine Fin.ret1 rfl (v := .bool false) rfl ?_
    have hne : ¬ x = y := by
      intro e; rw [e, hx10] at hx9; rw [Option.some.inj hx9] at hc14p; simp at hc14p
    exact ⟨by rw [decide_eq_false hne], hS.below⟩
   have hc14p : x9 = x10 := by simpa using hc14
   refine W.skip ?_
   refine N.blk ?_
   refine N.seq ?_
   refine W.region ?_
   refine WL.move rfl rfl rfl ?_
   refine WL.add (c := (k : Int) + 1) rfl rfl rfl rfl (rfl) (by omega) ?_
   refine WL.assign rfl rfl rfl ?_
   refine WL.nil ?_
   have hxy : x9 = x10 := by simpa using hc14p
   have htk2 : x.funcs.take (k + 1) = y.funcs.take (k + 1) := by rw [take_next hx9, take_next hx10, htk, hxy]
   exact N.loop (k + 1) ⟨rfl, rfl, rfl, rfl, rfl, rfl, rfl, rfl, rfl, rfl, rfl, rfl, rfl, rfl, rfl, rfl, rfl, rfl, rfl, rfl, rfl, trivial⟩ ⟨hS, by omega, htk2⟩ (by first | omega | (simp only; omega))
  have hc8p : ¬ ((k : Int) < (x.funcs.length : Int)) := by simpa using hc8
  refine W.exit ?_
  refine X.seq ?_
  refine X.loop ?_
  refine X.blk ?_
  refine N.seq ?_
  refine W.seq ?_
  refine W.seq ?_
  refine W.region ?_
  refine WL.assign rfl rfl rfl ?_
  refine WL.nil ?_
  refine N.seq ?_
  refine W.block ?_
  refine W.loop (α := Nat) (fun (i : Nat) => [(0, .agg #[.slice adfx x.funcs.length capfx, .slice adgx x.globs.length capgx]), (1, .agg #[.slice adfy y.funcs.length capfy, .slice adgy y.globs.length capgy]), (2, .pointer (some ⟨b1, 0, none⟩)), (3, .pointer (some ⟨b3, 0, none⟩)), (5, .int .i64 (k : Int)), (7, .int .i64 (i : Int)), (8, .pointer (some ⟨b1, 0, none⟩)), (9, .slice adfx x.funcs.length capfx), (10, .int .i64 (x.funcs.length : Int)), (11, .pointer (some ⟨b3, 0, none⟩)), (12, .slice adfy y.funcs.length capfy), (13, .int .i64 (y.funcs.length : Int)), (14, .bool false), (15, .bool false), (16, .pointer (some ⟨b1, 1, none⟩)), (17, .slice adgx x.globs.length capgx), (18, .int .i64 (x.globs.length : Int)), (19, .pointer (some ⟨b3, 1, none⟩)), (20, .slice adgy y.globs.length capgy), (21, .int .i64 (y.globs.length : Int)), (22, .bool (!decide ((x.globs.length : Int) = (y.globs.length : Int)))), (23, .bool (!decide ((x.globs.length : Int) = (y.globs.length : Int)))), (24, .int .i64 (k : Int)), (25, .pointer (some ⟨b1, 0, none⟩)), (26, .slice adfx x.funcs.length capfx), (27, .int .i64 (x.funcs.length : Int)), (28, .bool (decide ((k : Int) < (x.funcs.length : Int))))]) (fun (i : Nat) u => St w w u ro [(b3, .cells #[.slice adfy y.funcs.length capfy, .slice adgy y.globs.length capgy] 46 (0, 0)), (b1, .cells #[.slice adfx x.funcs.length capfx, .slice adgx x.globs.length capgx] 46 (0, 0))] [] ∧ i ≤ x.globs.length ∧ x.globs.take i = y.globs.take i) (fun (i : Nat) => x.globs.length - i) 0 ⟨rfl, rfl, rfl, rfl, rfl, rfl, rfl, rfl, rfl, rfl, rfl, rfl, rfl, rfl, rfl, rfl, rfl, rfl, rfl, rfl, rfl, rfl, rfl, rfl, rfl, rfl, rfl, trivial⟩ ⟨hS, Nat.zero_le _, rfl⟩ ?_
  clear hS
  rintro i w15 ⟨hS, hi, htg⟩
  refine W.seq ?_
  refine W.seq ?_
  refine W.region ?_
  refine WL.move rfl rfl rfl ?_
  refine WL.fieldAddr fo_46_1 rfl rfl rfl ?_
  refine WL.load1 (v := .slice adgx x.globs.length capgx) one_44 rfl rfl rfl (hS.cell 1 rfl rfl) ?_
  refine WL.lenSlice Try.underlying44 rfl rfl rfl ?_
  refine WL.bin rfl rfl rfl rfl rfl ?_
  refine WL.nil ?_
  refine N.seq ?_
  refine W.cond rfl (fun hc16 => ?_) (fun hc16 => ?_)
  ·
   have hc16p : (i : Int) < (x.globs.length : Int) := by simpa using hc16
   refine W.skip ?_
   refine N.seq ?_
   refine W.seq ?_
   refine W.block ?_
   refine W.seq ?_
   have hj17 : i < x.globs.length := by omega
   obtain ⟨x17, hx17⟩ : ∃ zz, x.globs[i]? = some zz := ⟨_, List.getElem?_eq_getElem hj17⟩
   obtain ⟨b17, o17, cs17, hE17, hr17, hl17, hc17, hQ17⟩ := hgsxd i _ hx17
   obtain ⟨rfl, hgn17, hgb17, hgi17⟩ := hQ17
   have hj18 : i < y.globs.length := by omega
   obtain ⟨x18, hx18⟩ : ∃ zz, y.globs[i]? = some zz := ⟨_, List.getElem?_eq_getElem hj18⟩
   obtain ⟨b18, o18, cs18, hE18, hr18, hl18, hc18, hQ18⟩ := hgsyd i _ hx18
   obtain ⟨rfl, hgn18, hgb18, hgi18⟩ := hQ18
   refine W.drawL (by kernel_rfl) 11 [.q (.pointer (some ⟨b1, 1, none⟩)), .q (.slice adgx x.globs.length capgx), .q (.int .i64 (i : Int)), .q (.pointer (some ⟨b17, o17 + i * 4, none⟩)), .q (.agg #[.string x17.name, .int .i64 x17.bind, .bool x17.here, .int .u64 x17.init]), .q (.pointer (some ⟨b3, 1, none⟩)), .q (.slice adgy y.globs.length capgy), .q (.int .i64 (i : Int)), .q (.pointer (some ⟨b18, o18 + i * 4, none⟩)), .q (.agg #[.string x18.name, .int .i64 x18.bind, .bool x18.here, .int .u64 x18.init]), .q (.bool (!decide (x17 = x18)))] (by kernel_rfl) rfl [(0, .agg #[.slice adfx x.funcs.length capfx, .slice adgx x.globs.length capgx]), (1, .agg #[.slice adfy y.funcs.length capfy, .slice adgy y.globs.length capgy]), (2, .pointer (some ⟨b1, 0, none⟩)), (3, .pointer (some ⟨b3, 0, none⟩)), (5, .int .i64 (k : Int)), (7, .int .i64 (i : Int)), (8, .pointer (some ⟨b1, 0, none⟩)), (9, .slice adfx x.funcs.length capfx), (10, .int .i64 (x.funcs.length : Int)), (11, .pointer (some ⟨b3, 0, none⟩)), (12, .slice adfy y.funcs.length capfy), (13, .int .i64 (y.funcs.length : Int)), (14, .bool false), (15, .bool false), (16, .pointer (some ⟨b1, 1, none⟩)), (17, .slice adgx x.globs.length capgx), (18, .int .i64 (x.globs.length : Int)), (19, .pointer (some ⟨b3, 1, none⟩)), (20, .slice adgy y.globs.length capgy), (21, .int .i64 (y.globs.length : Int)), (22, .bool (!decide ((x.globs.length : Int) = (y.globs.length : Int)))), (23, .bool (!decide ((x.globs.length : Int) = (y.globs.length : Int)))), (24, .int .i64 (k : Int)), (25, .pointer (some ⟨b1, 0, none⟩)), (26, .slice adfx x.funcs.length capfx), (27, .int .i64 (x.funcs.length : Int)), (28, .bool (decide ((k : Int) < (x.funcs.length : Int)))), (44, .int .i64 (i : Int)), (45, .pointer (some ⟨b1, 1, none⟩)), (46, .slice adgx x.globs.length capgx), (47, .int .i64 (x.globs.length : Int)), (48, .bool (decide ((i : Int) < (x.globs.length : Int))))] ⟨rfl, rfl, rfl, rfl, rfl, rfl, rfl, rfl, rfl, rfl, rfl, rfl, rfl, rfl, rfl, rfl, rfl, rfl, rfl, rfl, rfl, rfl, rfl, rfl, rfl, rfl, rfl, rfl, rfl, rfl, rfl, rfl, trivial⟩ rfl hS ?_ ?_
   ·
    refine And.intro (fun β w hS => ?_) ?_
    ·
     refine WL.sub (σ' := [(2, .pointer (some ⟨b1, 0, none⟩))]) ⟨rfl, trivial⟩ ?_
     refine WL.fieldAddr fo_46_1 rfl rfl rfl ?_
     exact WL.nil (N.cut () ⟨rfl, trivial⟩ (Below.refl _ _))
    refine And.intro (fun β w hS => ?_) ?_
    ·
     refine WL.sub (σ' := [(51, .pointer (some ⟨b1, 1, none⟩))]) ⟨rfl, trivial⟩ ?_
     refine WL.load1 (v := .slice adgx x.globs.length capgx) one_44 rfl rfl rfl (hS.cell 1 rfl rfl) ?_
     exact WL.nil (N.cut () ⟨rfl, trivial⟩ (Below.refl _ _))
    refine And.intro (fun β w hS => ?_) ?_
    ·
     refine WL.sub (σ' := [(7, .int .i64 (i : Int))]) ⟨rfl, trivial⟩ ?_
     refine WL.move rfl rfl rfl ?_
     exact WL.nil (N.cut () ⟨rfl, trivial⟩ (Below.refl _ _))
    refine And.intro (fun β w hS => ?_) ?_
    ·
     refine WL.sub (σ' := [(52, .slice adgx x.globs.length capgx), (53, .int .i64 (i : Int))]) ⟨rfl, rfl, trivial⟩ ?_
     refine WL.indexAddrE (j := i) Try.underlying44 isz_71 rfl rfl rfl rfl hj17 hE17 ?_
     exact WL.nil (N.cut () ⟨rfl, trivial⟩ (Below.refl _ _))
    refine And.intro (fun β w hS => ?_) ?_
    ·
     refine WL.sub (σ' := [(54, .pointer (some ⟨b17, o17 + i * 4, none⟩))]) ⟨rfl, trivial⟩ ?_
     refine WL.loadN (cs := [.string x17.name, .int .i64 x17.bind, .bool x17.here, .int .u64 x17.init]) agg_71 rfl rfl rfl rfl (hS.roCells hr17 hc17) ?_
     exact WL.nil (N.cut () ⟨rfl, trivial⟩ (Below.refl _ _))
    refine And.intro (fun β w hS => ?_) ?_
    ·
     refine WL.sub (σ' := [(3, .pointer (some ⟨b3, 0, none⟩))]) ⟨rfl, trivial⟩ ?_
     refine WL.fieldAddr fo_46_1 rfl rfl rfl ?_
     exact WL.nil (N.cut () ⟨rfl, trivial⟩ (Below.refl _ _))
    refine And.intro (fun β w hS => ?_) ?_
    ·
     refine WL.sub (σ' := [(56, .pointer (some ⟨b3, 1, none⟩))]) ⟨rfl, trivial⟩ ?_
     refine WL.load1 (v := .slice adgy y.globs.length capgy) one_44 rfl rfl rfl (hS.cell 0 rfl rfl) ?_
     exact WL.nil (N.cut () ⟨rfl, trivial⟩ (Below.refl _ _))
    refine And.intro (fun β w hS => ?_) ?_
    ·
     refine WL.sub (σ' := [(7, .int .i64 (i : Int))]) ⟨rfl, trivial⟩ ?_
     refine WL.move rfl rfl rfl ?_
     exact WL.nil (N.cut () ⟨rfl, trivial⟩ (Below.refl _ _))
    refine And.intro (fun β w hS => ?_) ?_
    ·
     refine WL.sub (σ' := [(57, .slice adgy y.globs.length capgy), (58, .int .i64 (i : Int))]) ⟨rfl, rfl, trivial⟩ ?_
     refine WL.indexAddrE (j := i) Try.underlying44 isz_71 rfl rfl rfl rfl hj18 hE18 ?_
     exact WL.nil (N.cut () ⟨rfl, trivial⟩ (Below.refl _ _))
    refine And.intro (fun β w hS => ?_) ?_
    ·
     refine WL.sub (σ' := [(59, .pointer (some ⟨b18, o18 + i * 4, none⟩))]) ⟨rfl, trivial⟩ ?_
     refine WL.loadN (cs := [.string x18.name, .int .i64 x18.bind, .bool x18.here, .int .u64 x18.init]) agg_71 rfl rfl rfl rfl (hS.roCells hr18 hc18) ?_
     exact WL.nil (N.cut () ⟨rfl, trivial⟩ (Below.refl _ _))
    refine And.intro (fun β w hS => ?_) ?_
    ·
     refine WL.sub (σ' := [(55, .agg #[.string x17.name, .int .i64 x17.bind, .bool x17.here, .int .u64 x17.init]), (60, .agg #[.string x18.name, .int .i64 x18.bind, .bool x18.here, .int .u64 x18.init])]) ⟨rfl, rfl, trivial⟩ ?_
     refine WL.neAgg (decide (x17 = x18)) globFields Try.stoodInHeld71 Try.eqGuardType71 (eqGlobT x17 x18) rfl rfl rfl rfl ?_
     exact WL.nil (N.cut () ⟨rfl, trivial⟩ (Below.refl _ _))
    trivial
   clear hS; intro w19 β hS
   refine WL.sub (σ' := [(0, .agg #[.slice adfx x.funcs.length capfx, .slice adgx x.globs.length capgx]), (1, .agg #[.slice adfy y.funcs.length capfy, .slice adgy y.globs.length capgy]), (2, .pointer (some ⟨b1, 0, none⟩)), (3, .pointer (some ⟨b3, 0, none⟩)), (5, .int .i64 (k : Int)), (7, .int .i64 (i : Int)), (8, .pointer (some ⟨b1, 0, none⟩)), (9, .slice adfx x.funcs.length capfx), (10, .int .i64 (x.funcs.length : Int)), (11, .pointer (some ⟨b3, 0, none⟩)), (12, .slice adfy y.funcs.length capfy), (13, .int .i64 (y.funcs.length : Int)), (14, .bool false), (15, .bool false), (16, .pointer (some ⟨b1, 1, none⟩)), (17, .slice adgx x.globs.length capgx), (18, .int .i64 (x.globs.length : Int)), (19, .pointer (some ⟨b3, 1, none⟩)), (20, .slice adgy y.globs.length capgy), (21, .int .i64 (y.globs.length : Int)), (22, .bool (!decide ((x.globs.length : Int) = (y.globs.length : Int)))), (23, .bool (!decide ((x.globs.length : Int) = (y.globs.length : Int)))), (24, .int .i64 (k : Int)), (25, .pointer (some ⟨b1, 0, none⟩)), (26, .slice adfx x.funcs.length capfx), (27, .int .i64 (x.funcs.length : Int)), (28, .bool (decide ((k : Int) < (x.funcs.length : Int)))), (44, .int .i64 (i : Int)), (45, .pointer (some ⟨b1, 1, none⟩)), (46, .slice adgx x.globs.length capgx), (47, .int .i64 (x.globs.length : Int)), (48, .bool (decide ((i : Int) < (x.globs.length : Int)))), (51, .pointer (some ⟨b1, 1, none⟩)), (52, .slice adgx x.globs.length capgx), (53, .int .i64 (i : Int)), (54, .pointer (some ⟨b17, o17 + i * 4, none⟩)), (55, .agg #[.string x17.name, .int .i64 x17.bind, .bool x17.here, .int .u64 x17.init]), (56, .pointer (some ⟨b3, 1, none⟩)), (57, .slice adgy y.globs.length capgy), (58, .int .i64 (i : Int)), (59, .pointer (some ⟨b18, o18 + i * 4, none⟩)), (60, .agg #[.string x18.name, .int .i64 x18.bind, .bool x18.here, .int .u64 x18.init]), (61, .bool (!decide (x17 = x18)))]) ⟨rfl, rfl, rfl, rfl, rfl, rfl, rfl, rfl, rfl, rfl, rfl, rfl, rfl, rfl, rfl, rfl, rfl, rfl, rfl, rfl, rfl, rfl, rfl, rfl, rfl, rfl, rfl, rfl, rfl, rfl, rfl, rfl, rfl, rfl, rfl, rfl, rfl, rfl, rfl, rfl, rfl, rfl, rfl, trivial⟩ ?_
   refine WL.nil ?_
   refine N.seq ?_
   refine W.cond rfl (fun hc20 => ?_) (fun hc20 => ?_)
   ·
    have hc20p : ¬ (x17 = x18) := by simpa using hc20
    refine W.seq ?_
    refine W.region ?_
    refine WL.assign rfl rfl rfl ?_
    refine WL.nil ?_
    refine N.seq ?_
    refine Fin.ret1 rfl (v := .bool false) rfl ?_
    have hne : ¬ x = y := by
      intro e; rw [e, hx18] at hx17; rw [Option.some.inj hx17] at hc20p; simp at hc20p
    exact ⟨by rw [decide_eq_false hne], hS.below⟩
   have hc20p : x17 = x18 := by simpa using hc20
   refine W.skip ?_
   refine N.blk ?_
   refine N.seq ?_
   refine W.region ?_
   refine WL.move rfl rfl rfl ?_
   refine WL.add (c := (i : Int) + 1) rfl rfl rfl rfl (rfl) (by omega) ?_
   refine WL.assign rfl rfl rfl ?_
   refine WL.nil ?_
   have hxy : x17 = x18 := by simpa using hc20p
   have htk3 : x.globs.take (i + 1) = y.globs.take (i + 1) := by rw [take_next hx17, take_next hx18, htg, hxy]
   exact N.loop (i + 1) ⟨rfl, rfl, rfl, rfl, rfl, rfl, rfl, rfl, rfl, rfl, rfl, rfl, rfl, rfl, rfl, rfl, rfl, rfl, rfl, rfl, rfl, rfl, rfl, rfl, rfl, rfl, rfl, trivial⟩ ⟨hS, by omega, htk3⟩ (by first | omega | (simp only; omega))
  have hc16p : ¬ ((i : Int) < (x.globs.length : Int)) := by simpa using hc16
  refine W.exit ?_
  refine X.seq ?_
  refine X.loop ?_
  refine X.blk ?_
  refine N.seq ?_
  refine W.seq ?_
  refine W.region ?_
  refine WL.assign rfl rfl rfl ?_
  refine WL.nil ?_
  refine N.seq ?_
  refine Fin.ret1 rfl (v := .bool true) rfl ?_
  have e1 : x.funcs = y.funcs := take_full htk (by omega) (by omega)
  have e2 : x.globs = y.globs := take_full htg (by omega) (by omega)
  exact ⟨by rw [decide_eq_true (dmod_eq e1 e2)], hS.below⟩
 have hg5p : ¬ ((x.funcs.length : Int) = (y.funcs.length : Int)) := by simpa using hg5
 refine WL.skp rfl rfl ?_
 refine WL.skp rfl rfl ?_
 refine WL.skp rfl rfl ?_
 refine WL.skp rfl rfl ?_
 refine WL.skp rfl rfl ?_
 refine WL.skp rfl rfl ?_
 refine WL.skp rfl rfl ?_
 refine WL.pick (v := .bool true) rfl rfl rfl rfl rfl rfl ?_
 refine WL.nil ?_
 refine N.seq ?_
 refine W.condT rfl ?_
 refine W.seq ?_
 refine W.region ?_
 refine WL.assign rfl rfl rfl ?_
 refine WL.nil ?_
 refine N.seq ?_
 refine Fin.ret1 rfl (v := .bool false) rfl ?_
 have hne : ¬ x = y := by
   intro e; rw [e] at hg5p; simp at hg5p
 exact ⟨by rw [decide_eq_false hne], hS.below⟩

end Go.Proofs.Ytdlcmhkfglckfaa
