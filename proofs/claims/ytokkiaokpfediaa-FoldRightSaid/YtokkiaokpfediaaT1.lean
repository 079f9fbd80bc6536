/-
  Contracts that several laws use: lists and instructions compared, what is known. No condition beyond those that each theorem states.
-/
import Derived.Test.YtokkiaokpfediaaA9
namespace Go.Proofs.Ytokkiaokpfediaa
open Go.RowKit
theorem agg_32 : tyAgg Try.prog 32 6 = true := by kernel_rfl
theorem fo_27_0 : fOff Try.prog 27 0 0 = true := by kernel_rfl
theorem fo_27_1 : fOff Try.prog 27 1 1 = true := by kernel_rfl
theorem fo_27_2 : fOff Try.prog 27 2 2 = true := by kernel_rfl
theorem fo_27_3 : fOff Try.prog 27 3 3 = true := by kernel_rfl
theorem fo_27_4 : fOff Try.prog 27 4 4 = true := by kernel_rfl
theorem fo_27_5 : fOff Try.prog 27 5 5 = true := by kernel_rfl
theorem fo_29_0 : fOff Try.prog 29 0 0 = true := by kernel_rfl
theorem fo_29_1 : fOff Try.prog 29 1 1 = true := by kernel_rfl
theorem fo_29_2 : fOff Try.prog 29 2 2 = true := by kernel_rfl
theorem fo_32_0 : fOff Try.prog 32 0 0 = true := by kernel_rfl
theorem fo_32_1 : fOff Try.prog 32 1 1 = true := by kernel_rfl
theorem fo_32_2 : fOff Try.prog 32 2 2 = true := by kernel_rfl
theorem fo_32_3 : fOff Try.prog 32 3 3 = true := by kernel_rfl
theorem fo_32_4 : fOff Try.prog 32 4 4 = true := by kernel_rfl
theorem fo_32_5 : fOff Try.prog 32 5 5 = true := by kernel_rfl
theorem isz_3 : (Try.prog.info? 3).map (·.size) = some 1 := by kernel_rfl
theorem isz_32 : (Try.prog.info? 32).map (·.size) = some 6 := by kernel_rfl
theorem one_22 : tyOne Try.prog 22 = true := by kernel_rfl
theorem one_24 : tyOne Try.prog 24 = true := by kernel_rfl
theorem one_25 : tyOne Try.prog 25 = true := by kernel_rfl
theorem one_3 : tyOne Try.prog 3 = true := by kernel_rfl
theorem one_9 : tyOne Try.prog 9 = true := by kernel_rfl
theorem ints_ret (xs ys : List Int) (vx vy : Value) {w : World} {ro : Nat → Prop} (hro : ∀ b, ro b → b < w.heap.size) (hx : IntsV ro w vx xs) (hy : IntsV ro w vy ys) : Ret Try.prog 24 #[vx, vy] w fun v w' => v = .bool (decide (xs = ys)) ∧ Below w.heap.size w w' := by
  obtain ⟨ad, cap, rfl, haa, hab, hac, had⟩ := id hx
  have ham : xs.length ≤ 9223372036854775807 := by have h1 := haa; have h2 := hab; unfold maxLen at h2; omega
  obtain ⟨bd, cbp, rfl, hba, hbb, hbc, hbd⟩ := id hy
  have hbm : ys.length ≤ 9223372036854775807 := by have h1 := hba; have h2 := hbb; unfold maxLen at h2; omega
  refine Ret.enter (P := Try.prog) (n := 26) (args := [.slice ad xs.length cap, .slice bd ys.length cbp]) (σ := [(0, .slice ad xs.length cap), (1, .slice bd ys.length cbp)]) Try.func24 rfl rfl rfl rfl ?_
  have hS := St.start (ro := ro) hro
  refine W.seq ?_
  refine W.region ?_
  refine WL.assign rfl rfl rfl ?_
  refine WL.nil ?_
  refine N.seq ?_
  refine W.seq ?_
  refine W.seq ?_
  refine W.region ?_
  refine WL.move rfl rfl rfl ?_
  refine WL.lenSlice Try.underlying25 rfl rfl rfl ?_
  refine WL.move rfl rfl rfl ?_
  refine WL.lenSlice Try.underlying25 rfl rfl rfl ?_
  refine WL.bin rfl rfl rfl rfl rfl ?_
  refine WL.nil ?_
  refine N.seq ?_
  refine W.cond rfl (fun hc1 => ?_) (fun hc1 => ?_)
  ·
    have hc1p : ¬ ((xs.length : Int) = (ys.length : Int)) := by simpa using hc1
    refine W.seq ?_
    refine W.region ?_
    refine WL.assign rfl rfl rfl ?_
    refine WL.nil ?_
    refine N.seq ?_
    refine Fin.ret1 rfl (v := .bool false) rfl ?_
    have hne : ¬ xs = ys := by intro e; rw [e] at hc1p; simp at hc1p
    exact ⟨by rw [decide_eq_false hne], hS.below⟩
  ·
    have hc1p : (xs.length : Int) = (ys.length : Int) := by simpa using hc1
    refine W.skip ?_
    refine N.seq ?_
    refine W.seq ?_
    refine W.seq ?_
    refine W.region ?_
    refine WL.assign rfl rfl rfl ?_
    refine WL.nil ?_
    refine N.seq ?_
    refine W.block ?_
    refine W.loop (α := Nat) (fun (k : Nat) => [(0, .slice ad xs.length cap), (1, .slice bd ys.length cbp), (5, .int .i64 (k : Int)), (6, .slice ad xs.length cap), (7, .int .i64 (xs.length : Int)), (8, .slice bd ys.length cbp), (9, .int .i64 (ys.length : Int)), (10, .bool (!decide ((xs.length : Int) = (ys.length : Int))))]) (fun (k : Nat) u => St w w u ro [] [] ∧ k ≤ xs.length ∧ xs.take k = ys.take k) (fun (k : Nat) => xs.length - k) 0 ⟨rfl, rfl, rfl, rfl, rfl, rfl, rfl, rfl, trivial⟩ ⟨hS, Nat.zero_le _, rfl⟩ ?_
    clear hS
    rintro k w2 ⟨hS, hk, htk⟩
    refine W.seq ?_
    refine W.seq ?_
    refine W.region ?_
    refine WL.move rfl rfl rfl ?_
    refine WL.move rfl rfl rfl ?_
    refine WL.lenSlice Try.underlying25 rfl rfl rfl ?_
    refine WL.bin rfl rfl rfl rfl rfl ?_
    refine WL.nil ?_
    refine N.seq ?_
    refine W.cond rfl (fun hc3 => ?_) (fun hc3 => ?_)
    ·
      have hc3p : (k : Int) < (xs.length : Int) := by simpa using hc3
      refine W.skip ?_
      refine N.seq ?_
      refine W.seq ?_
      refine W.block ?_
      refine W.seq ?_
      have hj4 : k < xs.length := by omega
      obtain ⟨x4, hx4⟩ : ∃ zz, xs[k]? = some zz := ⟨_, List.getElem?_eq_getElem hj4⟩
      obtain ⟨b4, o4, cs4, hE4, hr4, hl4, hc4, hQ4⟩ := had k _ hx4
      obtain ⟨rfl, hi4⟩ := hQ4
      have hj5 : k < ys.length := by omega
      obtain ⟨x5, hx5⟩ : ∃ zz, ys[k]? = some zz := ⟨_, List.getElem?_eq_getElem hj5⟩
      obtain ⟨b5, o5, cs5, hE5, hr5, hl5, hc5, hQ5⟩ := hbd k _ hx5
      obtain ⟨rfl, hi5⟩ := hQ5
      refine W.drawL (by kernel_rfl) 9 [.q (.slice ad xs.length cap), .q (.int .i64 (k : Int)), .q (.pointer (some ⟨b4, o4 + k * 1, none⟩)), .q (.int .i64 x4), .q (.slice bd ys.length cbp), .q (.int .i64 (k : Int)), .q (.pointer (some ⟨b5, o5 + k * 1, none⟩)), .q (.int .i64 x5), .q (.bool (!decide (x4 = x5)))] (by kernel_rfl) rfl [(0, .slice ad xs.length cap), (1, .slice bd ys.length cbp), (5, .int .i64 (k : Int)), (6, .slice ad xs.length cap), (7, .int .i64 (xs.length : Int)), (8, .slice bd ys.length cbp), (9, .int .i64 (ys.length : Int)), (10, .bool (!decide ((xs.length : Int) = (ys.length : Int)))), (11, .int .i64 (k : Int)), (12, .slice ad xs.length cap), (13, .int .i64 (xs.length : Int)), (14, .bool (decide ((k : Int) < (xs.length : Int))))] ⟨rfl, rfl, rfl, rfl, rfl, rfl, rfl, rfl, rfl, rfl, rfl, rfl, trivial⟩ rfl hS ?_ ?_
      ·
        refine And.intro (fun β w hS => ?_) ?_
        ·
          refine WL.sub (σ' := [(0, .slice ad xs.length cap)]) ⟨rfl, trivial⟩ ?_
          refine WL.move rfl rfl rfl ?_
          exact WL.nil (N.cut () ⟨rfl, trivial⟩ (Below.refl _ _))
        refine And.intro (fun β w hS => ?_) ?_
        ·
          refine WL.sub (σ' := [(5, .int .i64 (k : Int))]) ⟨rfl, trivial⟩ ?_
          refine WL.move rfl rfl rfl ?_
          exact WL.nil (N.cut () ⟨rfl, trivial⟩ (Below.refl _ _))
        refine And.intro (fun β w hS => ?_) ?_
        ·
          refine WL.sub (σ' := [(17, .slice ad xs.length cap), (18, .int .i64 (k : Int))]) ⟨rfl, rfl, trivial⟩ ?_
          refine WL.indexAddrE (j := k) Try.underlying25 isz_3 rfl rfl rfl rfl hj4 hE4 ?_
          exact WL.nil (N.cut () ⟨rfl, trivial⟩ (Below.refl _ _))
        refine And.intro (fun β w hS => ?_) ?_
        ·
          refine WL.sub (σ' := [(19, .pointer (some ⟨b4, o4 + k * 1, none⟩))]) ⟨rfl, trivial⟩ ?_
          refine WL.load1 (v := .int .i64 x4) one_3 rfl rfl rfl (hS.roCells hr4 hc4 0 _ rfl) ?_
          exact WL.nil (N.cut () ⟨rfl, trivial⟩ (Below.refl _ _))
        refine And.intro (fun β w hS => ?_) ?_
        ·
          refine WL.sub (σ' := [(1, .slice bd ys.length cbp)]) ⟨rfl, trivial⟩ ?_
          refine WL.move rfl rfl rfl ?_
          exact WL.nil (N.cut () ⟨rfl, trivial⟩ (Below.refl _ _))
        refine And.intro (fun β w hS => ?_) ?_
        ·
          refine WL.sub (σ' := [(5, .int .i64 (k : Int))]) ⟨rfl, trivial⟩ ?_
          refine WL.move rfl rfl rfl ?_
          exact WL.nil (N.cut () ⟨rfl, trivial⟩ (Below.refl _ _))
        refine And.intro (fun β w hS => ?_) ?_
        ·
          refine WL.sub (σ' := [(21, .slice bd ys.length cbp), (22, .int .i64 (k : Int))]) ⟨rfl, rfl, trivial⟩ ?_
          refine WL.indexAddrE (j := k) Try.underlying25 isz_3 rfl rfl rfl rfl hj5 hE5 ?_
          exact WL.nil (N.cut () ⟨rfl, trivial⟩ (Below.refl _ _))
        refine And.intro (fun β w hS => ?_) ?_
        ·
          refine WL.sub (σ' := [(23, .pointer (some ⟨b5, o5 + k * 1, none⟩))]) ⟨rfl, trivial⟩ ?_
          refine WL.load1 (v := .int .i64 x5) one_3 rfl rfl rfl (hS.roCells hr5 hc5 0 _ rfl) ?_
          exact WL.nil (N.cut () ⟨rfl, trivial⟩ (Below.refl _ _))
        refine And.intro (fun β w hS => ?_) ?_
        ·
          refine WL.sub (σ' := [(20, .int .i64 x4), (24, .int .i64 x5)]) ⟨rfl, rfl, trivial⟩ ?_
          refine WL.bin rfl rfl rfl rfl rfl ?_
          exact WL.nil (N.cut () ⟨rfl, trivial⟩ (Below.refl _ _))
        trivial
      ·
        clear hS; intro w6 β hS
        refine WL.sub (σ' := [(0, .slice ad xs.length cap), (1, .slice bd ys.length cbp), (5, .int .i64 (k : Int)), (6, .slice ad xs.length cap), (7, .int .i64 (xs.length : Int)), (8, .slice bd ys.length cbp), (9, .int .i64 (ys.length : Int)), (10, .bool (!decide ((xs.length : Int) = (ys.length : Int)))), (11, .int .i64 (k : Int)), (12, .slice ad xs.length cap), (13, .int .i64 (xs.length : Int)), (14, .bool (decide ((k : Int) < (xs.length : Int)))), (17, .slice ad xs.length cap), (18, .int .i64 (k : Int)), (19, .pointer (some ⟨b4, o4 + k * 1, none⟩)), (20, .int .i64 x4), (21, .slice bd ys.length cbp), (22, .int .i64 (k : Int)), (23, .pointer (some ⟨b5, o5 + k * 1, none⟩)), (24, .int .i64 x5), (25, .bool (!decide (x4 = x5)))]) ⟨rfl, rfl, rfl, rfl, rfl, rfl, rfl, rfl, rfl, rfl, rfl, rfl, rfl, rfl, rfl, rfl, rfl, rfl, rfl, rfl, rfl, trivial⟩ ?_
        refine WL.nil ?_
        refine N.seq ?_
        refine W.cond rfl (fun hc7 => ?_) (fun hc7 => ?_)
        ·
          have hc7p : ¬ (x4 = x5) := by simpa using hc7
          refine W.seq ?_
          refine W.region ?_
          refine WL.assign rfl rfl rfl ?_
          refine WL.nil ?_
          refine N.seq ?_
          refine Fin.ret1 rfl (v := .bool false) rfl ?_
          have hne : ¬ xs = ys := by
              intro e; rw [e, hx5] at hx4; rw [Option.some.inj hx4] at hc7p; simp at hc7p
          exact ⟨by rw [decide_eq_false hne], hS.below⟩
        ·
          have hc7p : x4 = x5 := by simpa using hc7
          refine W.skip ?_
          refine N.blk ?_
          refine N.seq ?_
          refine W.region ?_
          refine WL.move rfl rfl rfl ?_
          refine WL.add (c := (k : Int) + 1) rfl rfl rfl rfl (rfl) (by omega) ?_
          refine WL.assign rfl rfl rfl ?_
          refine WL.nil ?_
          have hxy : x4 = x5 := by simpa using hc7p
          have htk2 : xs.take (k + 1) = ys.take (k + 1) := by rw [take_next hx4, take_next hx5, htk, hxy]
          exact N.loop (k + 1) ⟨rfl, rfl, rfl, rfl, rfl, rfl, rfl, rfl, trivial⟩ ⟨hS, by omega, htk2⟩ (by first | omega | (simp only; omega))
    ·
      have hc3p : ¬ ((k : Int) < (xs.length : Int)) := by simpa using hc3
      refine W.exit ?_
      refine X.seq ?_
      refine X.loop ?_
      refine X.blk ?_
      refine N.seq ?_
      refine W.seq ?_
      refine W.region ?_
      refine WL.assign rfl rfl rfl ?_
      refine WL.nil ?_
      refine N.seq ?_
      refine Fin.ret1 rfl (v := .bool true) rfl ?_
      have e : xs = ys := take_full htk (by omega) (by omega)
      exact ⟨by rw [decide_eq_true e], hS.below⟩

theorem sameInst_ret (x y : DInst) (cx cy : List Value) {w : World} {ro : Nat → Prop} (hro : ∀ b, ro b → b < w.heap.size) (hx : InstC ro w cx x) (hy : InstC ro w cy y) : Ret Try.prog 14 #[.agg cx.toArray, .agg cy.toArray] w fun v w' => v = .bool (decide (x = y)) ∧ Below w.heap.size w w' := by
  have hQx := hx
  have hQy := hy
  obtain ⟨sx, rfl, hsx, hox, hax, hbx, hkx, hnx⟩ := id hx
  obtain ⟨adx, capx, rfl, hsxa, hsxb, hsxc, hsxd⟩ := id hsx
  have hsxm : x.args.length ≤ 9223372036854775807 := by have h1 := hsxa; have h2 := hsxb; unfold maxLen at h2; omega
  obtain ⟨sy, rfl, hsy, hoy, hay, hby, hky, hny⟩ := id hy
  obtain ⟨ady, capy, rfl, hsya, hsyb, hsyc, hsyd⟩ := id hsy
  have hsym : y.args.length ≤ 9223372036854775807 := by have h1 := hsya; have h2 := hsyb; unfold maxLen at h2; omega
  refine Ret.enter (P := Try.prog) (n := 47) (args := [.agg #[.int .i64 x.op, .int .i64 x.a, .int .i64 x.b, .int .u64 x.k, .string x.name, .slice adx x.args.length capx], .agg #[.int .i64 y.op, .int .i64 y.a, .int .i64 y.b, .int .u64 y.k, .string y.name, .slice ady y.args.length capy]]) (σ := [(0, .agg #[.int .i64 x.op, .int .i64 x.a, .int .i64 x.b, .int .u64 x.k, .string x.name, .slice adx x.args.length capx]), (1, .agg #[.int .i64 y.op, .int .i64 y.a, .int .i64 y.b, .int .u64 y.k, .string y.name, .slice ady y.args.length capy])]) Try.func14 rfl rfl rfl rfl ?_
  have hS := St.start (ro := ro) hro
  refine W.seq ?_
  refine W.region ?_
  refine WL.box (v := .agg #[.int .i64 x.op, .int .i64 x.a, .int .i64 x.b, .int .u64 x.k, .string x.name, .slice adx x.args.length capx]) (cs := [.int .i64 x.op, .int .i64 x.a, .int .i64 x.b, .int .u64 x.k, .string x.name, .slice adx x.args.length capx]) rfl rfl rfl rfl hS ?_
  clear hS; intro w2 b1 hb_b1 hS
  refine WL.box (v := .agg #[.int .i64 y.op, .int .i64 y.a, .int .i64 y.b, .int .u64 y.k, .string y.name, .slice ady y.args.length capy]) (cs := [.int .i64 y.op, .int .i64 y.a, .int .i64 y.b, .int .u64 y.k, .string y.name, .slice ady y.args.length capy]) rfl rfl rfl rfl hS ?_
  clear hS; intro w4 b3 hb_b3 hS
  refine WL.assign rfl rfl rfl ?_
  refine WL.nil ?_
  refine N.seq ?_
  refine W.seq ?_
  refine W.region ?_
  refine WL.fieldAddr fo_32_5 rfl rfl rfl ?_
  refine WL.load1 (v := .slice adx x.args.length capx) one_25 rfl rfl rfl (hS.cell 1 rfl rfl) ?_
  refine WL.fieldAddr fo_32_5 rfl rfl rfl ?_
  refine WL.load1 (v := .slice ady y.args.length capy) one_25 rfl rfl rfl (hS.cell 0 rfl rfl) ?_
  refine WL.callF (vs := [.slice adx x.args.length capx, .slice ady y.args.length capy]) Try.func24 (by kernel_rfl) rfl rfl rfl (ints_ret x.args y.args _ _ (ro := ro) (fun b hb => (hS.snap b hb).1) (hsx.keep hS.alike) (hsy.keep hS.alike)) ?_
  rintro v w5 ⟨rfl, hbl⟩
  replace hS := hS.grow hbl
  refine WL.assign rfl rfl rfl ?_
  refine WL.nil ?_
  refine N.seq ?_
  refine W.seq ?_
  refine W.region ?_
  refine WL.move rfl rfl rfl ?_
  refine WL.move rfl rfl rfl ?_
  cases hg6 : (decide (x.args = y.args))
  ·
    have hg6p : ¬ (x.args = y.args) := by simpa using hg6
    refine WL.skp rfl rfl ?_
    refine WL.skp rfl rfl ?_
    refine WL.skp rfl rfl ?_
    refine WL.skp rfl rfl ?_
    refine WL.skp rfl rfl ?_
    refine WL.pick (v := .bool false) rfl rfl rfl rfl rfl rfl ?_
    refine WL.move rfl rfl rfl ?_
    refine WL.skp rfl rfl ?_
    refine WL.skp rfl rfl ?_
    refine WL.skp rfl rfl ?_
    refine WL.skp rfl rfl ?_
    refine WL.skp rfl rfl ?_
    refine WL.pick (v := .bool false) rfl rfl rfl rfl rfl rfl ?_
    refine WL.move rfl rfl rfl ?_
    refine WL.skp rfl rfl ?_
    refine WL.skp rfl rfl ?_
    refine WL.skp rfl rfl ?_
    refine WL.skp rfl rfl ?_
    refine WL.skp rfl rfl ?_
    refine WL.pick (v := .bool false) rfl rfl rfl rfl rfl rfl ?_
    refine WL.move rfl rfl rfl ?_
    refine WL.skp rfl rfl ?_
    refine WL.skp rfl rfl ?_
    refine WL.skp rfl rfl ?_
    refine WL.skp rfl rfl ?_
    refine WL.skp rfl rfl ?_
    refine WL.pick (v := .bool false) rfl rfl rfl rfl rfl rfl ?_
    refine WL.move rfl rfl rfl ?_
    refine WL.skp rfl rfl ?_
    refine WL.skp rfl rfl ?_
    refine WL.skp rfl rfl ?_
    refine WL.skp rfl rfl ?_
    refine WL.skp rfl rfl ?_
    refine WL.pick (v := .bool false) rfl rfl rfl rfl rfl rfl ?_
    refine WL.assign rfl rfl rfl ?_
    refine WL.nil ?_
    refine N.seq ?_
    refine Fin.ret1 rfl (v := .bool false) rfl ?_
    clear hx hy hQx hQy hsx hsy hsxd hsyd
    have hbz := hS.below
    clear hS
    refine ⟨?_, hbz⟩
    congr 1
    cases x; cases y; simp_all
  ·
    have hg6p : x.args = y.args := by simpa using hg6
    refine WL.fieldAddr fo_32_0 rfl rfl rfl ?_
    refine WL.load1 (v := .int .i64 x.op) one_3 rfl rfl rfl (hS.cell 1 rfl rfl) ?_
    refine WL.fieldAddr fo_32_0 rfl rfl rfl ?_
    refine WL.load1 (v := .int .i64 y.op) one_3 rfl rfl rfl (hS.cell 0 rfl rfl) ?_
    refine WL.bin rfl rfl rfl rfl rfl ?_
    refine WL.pick (v := .bool (decide (x.op = y.op))) rfl rfl rfl rfl rfl rfl ?_
    refine WL.move rfl rfl rfl ?_
    cases hg7 : (decide (x.op = y.op))
    ·
      have hg7p : ¬ (x.op = y.op) := by simpa using hg7
      refine WL.skp rfl rfl ?_
      refine WL.skp rfl rfl ?_
      refine WL.skp rfl rfl ?_
      refine WL.skp rfl rfl ?_
      refine WL.skp rfl rfl ?_
      refine WL.pick (v := .bool false) rfl rfl rfl rfl rfl rfl ?_
      refine WL.move rfl rfl rfl ?_
      refine WL.skp rfl rfl ?_
      refine WL.skp rfl rfl ?_
      refine WL.skp rfl rfl ?_
      refine WL.skp rfl rfl ?_
      refine WL.skp rfl rfl ?_
      refine WL.pick (v := .bool false) rfl rfl rfl rfl rfl rfl ?_
      refine WL.move rfl rfl rfl ?_
      refine WL.skp rfl rfl ?_
      refine WL.skp rfl rfl ?_
      refine WL.skp rfl rfl ?_
      refine WL.skp rfl rfl ?_
      refine WL.skp rfl rfl ?_
      refine WL.pick (v := .bool false) rfl rfl rfl rfl rfl rfl ?_
      refine WL.move rfl rfl rfl ?_
      refine WL.skp rfl rfl ?_
      refine WL.skp rfl rfl ?_
      refine WL.skp rfl rfl ?_
      refine WL.skp rfl rfl ?_
      refine WL.skp rfl rfl ?_
      refine WL.pick (v := .bool false) rfl rfl rfl rfl rfl rfl ?_
      refine WL.assign rfl rfl rfl ?_
      refine WL.nil ?_
      refine N.seq ?_
      refine Fin.ret1 rfl (v := .bool false) rfl ?_
      clear hx hy hQx hQy hsx hsy hsxd hsyd
      have hbz := hS.below
      clear hS
      refine ⟨?_, hbz⟩
      congr 1
      cases x; cases y; simp_all
    ·
      have hg7p : x.op = y.op := by simpa using hg7
      refine WL.fieldAddr fo_32_1 rfl rfl rfl ?_
      refine WL.load1 (v := .int .i64 x.a) one_3 rfl rfl rfl (hS.cell 1 rfl rfl) ?_
      refine WL.fieldAddr fo_32_1 rfl rfl rfl ?_
      refine WL.load1 (v := .int .i64 y.a) one_3 rfl rfl rfl (hS.cell 0 rfl rfl) ?_
      refine WL.bin rfl rfl rfl rfl rfl ?_
      refine WL.pick (v := .bool (decide (x.a = y.a))) rfl rfl rfl rfl rfl rfl ?_
      refine WL.move rfl rfl rfl ?_
      cases hg8 : (decide (x.a = y.a))
      ·
        have hg8p : ¬ (x.a = y.a) := by simpa using hg8
        refine WL.skp rfl rfl ?_
        refine WL.skp rfl rfl ?_
        refine WL.skp rfl rfl ?_
        refine WL.skp rfl rfl ?_
        refine WL.skp rfl rfl ?_
        refine WL.pick (v := .bool false) rfl rfl rfl rfl rfl rfl ?_
        refine WL.move rfl rfl rfl ?_
        refine WL.skp rfl rfl ?_
        refine WL.skp rfl rfl ?_
        refine WL.skp rfl rfl ?_
        refine WL.skp rfl rfl ?_
        refine WL.skp rfl rfl ?_
        refine WL.pick (v := .bool false) rfl rfl rfl rfl rfl rfl ?_
        refine WL.move rfl rfl rfl ?_
        refine WL.skp rfl rfl ?_
        refine WL.skp rfl rfl ?_
        refine WL.skp rfl rfl ?_
        refine WL.skp rfl rfl ?_
        refine WL.skp rfl rfl ?_
        refine WL.pick (v := .bool false) rfl rfl rfl rfl rfl rfl ?_
        refine WL.assign rfl rfl rfl ?_
        refine WL.nil ?_
        refine N.seq ?_
        refine Fin.ret1 rfl (v := .bool false) rfl ?_
        clear hx hy hQx hQy hsx hsy hsxd hsyd
        have hbz := hS.below
        clear hS
        refine ⟨?_, hbz⟩
        congr 1
        cases x; cases y; simp_all
      ·
        have hg8p : x.a = y.a := by simpa using hg8
        refine WL.fieldAddr fo_32_2 rfl rfl rfl ?_
        refine WL.load1 (v := .int .i64 x.b) one_3 rfl rfl rfl (hS.cell 1 rfl rfl) ?_
        refine WL.fieldAddr fo_32_2 rfl rfl rfl ?_
        refine WL.load1 (v := .int .i64 y.b) one_3 rfl rfl rfl (hS.cell 0 rfl rfl) ?_
        refine WL.bin rfl rfl rfl rfl rfl ?_
        refine WL.pick (v := .bool (decide (x.b = y.b))) rfl rfl rfl rfl rfl rfl ?_
        refine WL.move rfl rfl rfl ?_
        cases hg9 : (decide (x.b = y.b))
        ·
          have hg9p : ¬ (x.b = y.b) := by simpa using hg9
          refine WL.skp rfl rfl ?_
          refine WL.skp rfl rfl ?_
          refine WL.skp rfl rfl ?_
          refine WL.skp rfl rfl ?_
          refine WL.skp rfl rfl ?_
          refine WL.pick (v := .bool false) rfl rfl rfl rfl rfl rfl ?_
          refine WL.move rfl rfl rfl ?_
          refine WL.skp rfl rfl ?_
          refine WL.skp rfl rfl ?_
          refine WL.skp rfl rfl ?_
          refine WL.skp rfl rfl ?_
          refine WL.skp rfl rfl ?_
          refine WL.pick (v := .bool false) rfl rfl rfl rfl rfl rfl ?_
          refine WL.assign rfl rfl rfl ?_
          refine WL.nil ?_
          refine N.seq ?_
          refine Fin.ret1 rfl (v := .bool false) rfl ?_
          clear hx hy hQx hQy hsx hsy hsxd hsyd
          have hbz := hS.below
          clear hS
          refine ⟨?_, hbz⟩
          congr 1
          cases x; cases y; simp_all
        ·
          have hg9p : x.b = y.b := by simpa using hg9
          refine WL.fieldAddr fo_32_3 rfl rfl rfl ?_
          refine WL.load1 (v := .int .u64 x.k) one_22 rfl rfl rfl (hS.cell 1 rfl rfl) ?_
          refine WL.fieldAddr fo_32_3 rfl rfl rfl ?_
          refine WL.load1 (v := .int .u64 y.k) one_22 rfl rfl rfl (hS.cell 0 rfl rfl) ?_
          refine WL.bin rfl rfl rfl rfl rfl ?_
          refine WL.pick (v := .bool (decide (x.k = y.k))) rfl rfl rfl rfl rfl rfl ?_
          refine WL.move rfl rfl rfl ?_
          cases hg10 : (decide (x.k = y.k))
          ·
            have hg10p : ¬ (x.k = y.k) := by simpa using hg10
            refine WL.skp rfl rfl ?_
            refine WL.skp rfl rfl ?_
            refine WL.skp rfl rfl ?_
            refine WL.skp rfl rfl ?_
            refine WL.skp rfl rfl ?_
            refine WL.pick (v := .bool false) rfl rfl rfl rfl rfl rfl ?_
            refine WL.assign rfl rfl rfl ?_
            refine WL.nil ?_
            refine N.seq ?_
            refine Fin.ret1 rfl (v := .bool false) rfl ?_
            clear hx hy hQx hQy hsx hsy hsxd hsyd
            have hbz := hS.below
            clear hS
            refine ⟨?_, hbz⟩
            congr 1
            cases x; cases y; simp_all
          ·
            have hg10p : x.k = y.k := by simpa using hg10
            refine WL.fieldAddr fo_32_4 rfl rfl rfl ?_
            refine WL.load1 (v := .string x.name) one_9 rfl rfl rfl (hS.cell 1 rfl rfl) ?_
            refine WL.fieldAddr fo_32_4 rfl rfl rfl ?_
            refine WL.load1 (v := .string y.name) one_9 rfl rfl rfl (hS.cell 0 rfl rfl) ?_
            refine WL.eqStr rfl rfl rfl rfl ?_
            refine WL.pick (v := .bool (decide (x.name = y.name))) rfl rfl rfl rfl rfl rfl ?_
            refine WL.assign rfl rfl rfl ?_
            refine WL.nil ?_
            refine N.seq ?_
            refine Fin.ret1 rfl (v := .bool (decide (x.name = y.name))) rfl ?_
            clear hx hy hQx hQy hsx hsy hsxd hsyd
            have hbz := hS.below
            clear hS
            refine ⟨?_, hbz⟩
            congr 1
            cases x; cases y; simp_all

theorem dblock_eq {x y : DBlock} (h1 : x.params = y.params) (h2 : x.ins = y.ins) (h3 : x.fin = y.fin) : x = y := by cases x; cases y; simp_all
theorem dterm_eq {x y : DTerm} (h1 : x.kind = y.kind) (h2 : x.a = y.a) (h3 : x.to = y.to) (h4 : x.args = y.args) (h5 : x.els = y.els) (h6 : x.elses = y.elses) : x = y := by cases x; cases y; simp_all
theorem dfunc_eq {x y : DFunc} (h1 : x.name = y.name) (h2 : x.bind = y.bind) (h3 : x.params = y.params) (h4 : x.blocks = y.blocks) : x = y := by cases x; cases y; simp_all
theorem dmod_eq {x y : DMod} (h1 : x.funcs = y.funcs) (h2 : x.globs = y.globs) : x = y := by cases x; cases y; simp_all

theorem sameBlock_ret (x y : DBlock) (cx cy : List Value) {w : World} {ro : Nat → Prop} (hro : ∀ b, ro b → b < w.heap.size) (hx : BlockC ro w cx x) (hy : BlockC ro w cy y) : Ret Try.prog 13 #[.agg cx.toArray, .agg cy.toArray] w fun v w' => v = .bool (decide (x = y)) ∧ Below w.heap.size w w' := by
  obtain ⟨six, tsxx, rfl, hinx, hfinx, hparx⟩ := id hx
  obtain ⟨adix, capix, rfl, hinxa, hinxb, hinxc, hinxd⟩ := id hinx
  have hinxm : x.ins.length ≤ 9223372036854775807 := by have h1 := hinxa; have h2 := hinxb; unfold maxLen at h2; omega
  obtain ⟨spx, sqx, rfl, ht1x, ht2x, htkx, htax, httx, htex⟩ := id hfinx
  obtain ⟨adpx, cappx, rfl, htpxa, htpxb, htpxc, htpxd⟩ := id ht1x
  have htpxm : x.fin.args.length ≤ 9223372036854775807 := by have h1 := htpxa; have h2 := htpxb; unfold maxLen at h2; omega
  obtain ⟨adqx, capqx, rfl, htqxa, htqxb, htqxc, htqxd⟩ := id ht2x
  have htqxm : x.fin.elses.length ≤ 9223372036854775807 := by have h1 := htqxa; have h2 := htqxb; unfold maxLen at h2; omega
  obtain ⟨siy, tsxy, rfl, hiny, hfiny, hpary⟩ := id hy
  obtain ⟨adiy, capiy, rfl, hinya, hinyb, hinyc, hinyd⟩ := id hiny
  have hinym : y.ins.length ≤ 9223372036854775807 := by have h1 := hinya; have h2 := hinyb; unfold maxLen at h2; omega
  obtain ⟨spy, sqy, rfl, ht1y, ht2y, htky, htay, htty, htey⟩ := id hfiny
  obtain ⟨adpy, cappy, rfl, htpya, htpyb, htpyc, htpyd⟩ := id ht1y
  have htpym : y.fin.args.length ≤ 9223372036854775807 := by have h1 := htpya; have h2 := htpyb; unfold maxLen at h2; omega
  obtain ⟨adqy, capqy, rfl, htqya, htqyb, htqyc, htqyd⟩ := id ht2y
  have htqym : y.fin.elses.length ≤ 9223372036854775807 := by have h1 := htqya; have h2 := htqyb; unfold maxLen at h2; omega
  refine Ret.enter (P := Try.prog) (n := 98) (args := [.agg #[.int .i64 x.params, .slice adix x.ins.length capix, .int .i64 x.fin.kind, .int .i64 x.fin.a, .int .i64 x.fin.to, .slice adpx x.fin.args.length cappx, .int .i64 x.fin.els, .slice adqx x.fin.elses.length capqx], .agg #[.int .i64 y.params, .slice adiy y.ins.length capiy, .int .i64 y.fin.kind, .int .i64 y.fin.a, .int .i64 y.fin.to, .slice adpy y.fin.args.length cappy, .int .i64 y.fin.els, .slice adqy y.fin.elses.length capqy]]) (σ := [(0, .agg #[.int .i64 x.params, .slice adix x.ins.length capix, .int .i64 x.fin.kind, .int .i64 x.fin.a, .int .i64 x.fin.to, .slice adpx x.fin.args.length cappx, .int .i64 x.fin.els, .slice adqx x.fin.elses.length capqx]), (1, .agg #[.int .i64 y.params, .slice adiy y.ins.length capiy, .int .i64 y.fin.kind, .int .i64 y.fin.a, .int .i64 y.fin.to, .slice adpy y.fin.args.length cappy, .int .i64 y.fin.els, .slice adqy y.fin.elses.length capqy])]) Try.func13 rfl rfl rfl rfl ?_
  have hS := St.start (ro := ro) hro
  refine W.seq ?_
  refine W.region ?_
  refine WL.box (v := .agg #[.int .i64 x.params, .slice adix x.ins.length capix, .int .i64 x.fin.kind, .int .i64 x.fin.a, .int .i64 x.fin.to, .slice adpx x.fin.args.length cappx, .int .i64 x.fin.els, .slice adqx x.fin.elses.length capqx]) (cs := [.int .i64 x.params, .slice adix x.ins.length capix, .int .i64 x.fin.kind, .int .i64 x.fin.a, .int .i64 x.fin.to, .slice adpx x.fin.args.length cappx, .int .i64 x.fin.els, .slice adqx x.fin.elses.length capqx]) rfl rfl rfl rfl hS ?_
  clear hS; intro w2 b1 hb_b1 hS
  refine WL.box (v := .agg #[.int .i64 y.params, .slice adiy y.ins.length capiy, .int .i64 y.fin.kind, .int .i64 y.fin.a, .int .i64 y.fin.to, .slice adpy y.fin.args.length cappy, .int .i64 y.fin.els, .slice adqy y.fin.elses.length capqy]) (cs := [.int .i64 y.params, .slice adiy y.ins.length capiy, .int .i64 y.fin.kind, .int .i64 y.fin.a, .int .i64 y.fin.to, .slice adpy y.fin.args.length cappy, .int .i64 y.fin.els, .slice adqy y.fin.elses.length capqy]) rfl rfl rfl rfl hS ?_
  clear hS; intro w4 b3 hb_b3 hS
  refine WL.assign rfl rfl rfl ?_
  refine WL.nil ?_
  refine N.seq ?_
  refine W.seq ?_
  refine W.region ?_
  refine WL.fieldAddr fo_29_2 rfl rfl rfl ?_
  refine WL.fieldAddr fo_27_3 rfl rfl rfl ?_
  refine WL.load1 (v := .slice adpx x.fin.args.length cappx) one_25 rfl rfl rfl (hS.cell 1 rfl rfl) ?_
  refine WL.fieldAddr fo_29_2 rfl rfl rfl ?_
  refine WL.fieldAddr fo_27_3 rfl rfl rfl ?_
  refine WL.load1 (v := .slice adpy y.fin.args.length cappy) one_25 rfl rfl rfl (hS.cell 0 rfl rfl) ?_
  refine WL.callF (vs := [.slice adpx x.fin.args.length cappx, .slice adpy y.fin.args.length cappy]) Try.func24 (by kernel_rfl) rfl rfl rfl (ints_ret x.fin.args y.fin.args _ _ (ro := ro) (fun b hb => (hS.snap b hb).1) (ht1x.keep hS.alike) (ht1y.keep hS.alike)) ?_
  rintro v w5 ⟨rfl, hbl⟩
  replace hS := hS.grow hbl
  refine WL.move rfl rfl rfl ?_
  cases hg6 : (decide (x.fin.args = y.fin.args))
  ·
    have hg6p : ¬ (x.fin.args = y.fin.args) := by simpa using hg6
    refine WL.skp rfl rfl ?_
    refine WL.skp rfl rfl ?_
    refine WL.skp rfl rfl ?_
    refine WL.skp rfl rfl ?_
    refine WL.skp rfl rfl ?_
    refine WL.skp rfl rfl ?_
    refine WL.skp rfl rfl ?_
    refine WL.pick (v := .bool false) rfl rfl rfl rfl rfl rfl ?_
    refine WL.assign rfl rfl rfl ?_
    refine WL.nil ?_
    refine N.seq ?_
    refine W.seq ?_
    refine W.seq ?_
    refine W.region ?_
    refine WL.move rfl rfl rfl ?_
    refine WL.not rfl rfl rfl ?_
    refine WL.set 25 (v' := .bool true) rfl rfl ?_
    refine WL.move rfl rfl rfl ?_
    refine WL.skp rfl rfl ?_
    refine WL.skp rfl rfl ?_
    refine WL.skp rfl rfl ?_
    refine WL.skp rfl rfl ?_
    refine WL.skp rfl rfl ?_
    refine WL.pick (v := .bool true) rfl rfl rfl rfl rfl rfl ?_
    refine WL.move rfl rfl rfl ?_
    refine WL.skp rfl rfl ?_
    refine WL.skp rfl rfl ?_
    refine WL.skp rfl rfl ?_
    refine WL.skp rfl rfl ?_
    refine WL.skp rfl rfl ?_
    refine WL.skp rfl rfl ?_
    refine WL.skp rfl rfl ?_
    refine WL.pick (v := .bool true) rfl rfl rfl rfl rfl rfl ?_
    refine WL.move rfl rfl rfl ?_
    refine WL.skp rfl rfl ?_
    refine WL.skp rfl rfl ?_
    refine WL.skp rfl rfl ?_
    refine WL.skp rfl rfl ?_
    refine WL.skp rfl rfl ?_
    refine WL.skp rfl rfl ?_
    refine WL.skp rfl rfl ?_
    refine WL.pick (v := .bool true) rfl rfl rfl rfl rfl rfl ?_
    refine WL.move rfl rfl rfl ?_
    refine WL.skp rfl rfl ?_
    refine WL.skp rfl rfl ?_
    refine WL.skp rfl rfl ?_
    refine WL.skp rfl rfl ?_
    refine WL.skp rfl rfl ?_
    refine WL.skp rfl rfl ?_
    refine WL.skp rfl rfl ?_
    refine WL.pick (v := .bool true) rfl rfl rfl rfl rfl rfl ?_
    refine WL.move rfl rfl rfl ?_
    refine WL.skp rfl rfl ?_
    refine WL.skp rfl rfl ?_
    refine WL.skp rfl rfl ?_
    refine WL.skp rfl rfl ?_
    refine WL.skp rfl rfl ?_
    refine WL.skp rfl rfl ?_
    refine WL.skp rfl rfl ?_
    refine WL.pick (v := .bool true) rfl rfl rfl rfl rfl rfl ?_
    refine WL.move rfl rfl rfl ?_
    refine WL.skp rfl rfl ?_
    refine WL.skp rfl rfl ?_
    refine WL.skp rfl rfl ?_
    refine WL.skp rfl rfl ?_
    refine WL.skp rfl rfl ?_
    refine WL.skp rfl rfl ?_
    refine WL.skp rfl rfl ?_
    refine WL.pick (v := .bool true) rfl rfl rfl rfl rfl rfl ?_
    refine WL.nil ?_
    refine N.seq ?_
    refine W.condT rfl ?_
    refine W.seq ?_
    refine W.region ?_
    refine WL.assign rfl rfl rfl ?_
    refine WL.nil ?_
    refine N.seq ?_
    refine Fin.ret1 rfl (v := .bool false) rfl ?_
    have hne : ¬ x = y := by
        intro e; rw [e] at hg6p; simp at hg6p
    exact ⟨by rw [decide_eq_false hne], hS.below⟩
  ·
    have hg6p : x.fin.args = y.fin.args := by simpa using hg6
    refine WL.fieldAddr fo_29_2 rfl rfl rfl ?_
    refine WL.fieldAddr fo_27_5 rfl rfl rfl ?_
    refine WL.load1 (v := .slice adqx x.fin.elses.length capqx) one_25 rfl rfl rfl (hS.cell 1 rfl rfl) ?_
    refine WL.fieldAddr fo_29_2 rfl rfl rfl ?_
    refine WL.fieldAddr fo_27_5 rfl rfl rfl ?_
    refine WL.load1 (v := .slice adqy y.fin.elses.length capqy) one_25 rfl rfl rfl (hS.cell 0 rfl rfl) ?_
    refine WL.callF (vs := [.slice adqx x.fin.elses.length capqx, .slice adqy y.fin.elses.length capqy]) Try.func24 (by kernel_rfl) rfl rfl rfl (ints_ret x.fin.elses y.fin.elses _ _ (ro := ro) (fun b hb => (hS.snap b hb).1) (ht2x.keep hS.alike) (ht2y.keep hS.alike)) ?_
    rintro v w7 ⟨rfl, hbl⟩
    replace hS := hS.grow hbl
    refine WL.pick (v := .bool (decide (x.fin.elses = y.fin.elses))) rfl rfl rfl rfl rfl rfl ?_
    refine WL.assign rfl rfl rfl ?_
    refine WL.nil ?_
    refine N.seq ?_
    refine W.seq ?_
    refine W.seq ?_
    refine W.region ?_
    refine WL.move rfl rfl rfl ?_
    refine WL.not rfl rfl rfl ?_
    refine WL.move rfl rfl rfl ?_
    cases hg8 : (!(decide (x.fin.elses = y.fin.elses)))
    ·
      have hg8p : x.fin.elses = y.fin.elses := by simpa using hg8
      refine WL.fieldAddr fo_29_0 rfl rfl rfl ?_
      refine WL.load1 (v := .int .i64 x.params) one_3 rfl rfl rfl (hS.cell 1 rfl rfl) ?_
      refine WL.fieldAddr fo_29_0 rfl rfl rfl ?_
      refine WL.load1 (v := .int .i64 y.params) one_3 rfl rfl rfl (hS.cell 0 rfl rfl) ?_
      refine WL.bin rfl rfl rfl rfl rfl ?_
      refine WL.pick (v := .bool (!decide (x.params = y.params))) rfl rfl rfl rfl rfl rfl ?_
      refine WL.move rfl rfl rfl ?_
      cases hg9 : (!decide (x.params = y.params))
      ·
        have hg9p : x.params = y.params := by simpa using hg9
        refine WL.fieldAddr fo_29_1 rfl rfl rfl ?_
        refine WL.load1 (v := .slice adix x.ins.length capix) one_24 rfl rfl rfl (hS.cell 1 rfl rfl) ?_
        refine WL.lenSlice Try.underlying24 rfl rfl rfl ?_
        refine WL.fieldAddr fo_29_1 rfl rfl rfl ?_
        refine WL.load1 (v := .slice adiy y.ins.length capiy) one_24 rfl rfl rfl (hS.cell 0 rfl rfl) ?_
        refine WL.lenSlice Try.underlying24 rfl rfl rfl ?_
        refine WL.bin rfl rfl rfl rfl rfl ?_
        refine WL.pick (v := .bool (!decide ((x.ins.length : Int) = (y.ins.length : Int)))) rfl rfl rfl rfl rfl rfl ?_
        refine WL.move rfl rfl rfl ?_
        cases hg10 : (!decide ((x.ins.length : Int) = (y.ins.length : Int)))
        ·
          have hg10p : (x.ins.length : Int) = (y.ins.length : Int) := by simpa using hg10
          refine WL.fieldAddr fo_29_2 rfl rfl rfl ?_
          refine WL.fieldAddr fo_27_0 rfl rfl rfl ?_
          refine WL.load1 (v := .int .i64 x.fin.kind) one_3 rfl rfl rfl (hS.cell 1 rfl rfl) ?_
          refine WL.fieldAddr fo_29_2 rfl rfl rfl ?_
          refine WL.fieldAddr fo_27_0 rfl rfl rfl ?_
          refine WL.load1 (v := .int .i64 y.fin.kind) one_3 rfl rfl rfl (hS.cell 0 rfl rfl) ?_
          refine WL.bin rfl rfl rfl rfl rfl ?_
          refine WL.pick (v := .bool (!decide (x.fin.kind = y.fin.kind))) rfl rfl rfl rfl rfl rfl ?_
          refine WL.move rfl rfl rfl ?_
          cases hg11 : (!decide (x.fin.kind = y.fin.kind))
          ·
            have hg11p : x.fin.kind = y.fin.kind := by simpa using hg11
            refine WL.fieldAddr fo_29_2 rfl rfl rfl ?_
            refine WL.fieldAddr fo_27_1 rfl rfl rfl ?_
            refine WL.load1 (v := .int .i64 x.fin.a) one_3 rfl rfl rfl (hS.cell 1 rfl rfl) ?_
            refine WL.fieldAddr fo_29_2 rfl rfl rfl ?_
            refine WL.fieldAddr fo_27_1 rfl rfl rfl ?_
            refine WL.load1 (v := .int .i64 y.fin.a) one_3 rfl rfl rfl (hS.cell 0 rfl rfl) ?_
            refine WL.bin rfl rfl rfl rfl rfl ?_
            refine WL.pick (v := .bool (!decide (x.fin.a = y.fin.a))) rfl rfl rfl rfl rfl rfl ?_
            refine WL.move rfl rfl rfl ?_
            cases hg12 : (!decide (x.fin.a = y.fin.a))
            ·
              have hg12p : x.fin.a = y.fin.a := by simpa using hg12
              refine WL.fieldAddr fo_29_2 rfl rfl rfl ?_
              refine WL.fieldAddr fo_27_2 rfl rfl rfl ?_
              refine WL.load1 (v := .int .i64 x.fin.to) one_3 rfl rfl rfl (hS.cell 1 rfl rfl) ?_
              refine WL.fieldAddr fo_29_2 rfl rfl rfl ?_
              refine WL.fieldAddr fo_27_2 rfl rfl rfl ?_
              refine WL.load1 (v := .int .i64 y.fin.to) one_3 rfl rfl rfl (hS.cell 0 rfl rfl) ?_
              refine WL.bin rfl rfl rfl rfl rfl ?_
              refine WL.pick (v := .bool (!decide (x.fin.to = y.fin.to))) rfl rfl rfl rfl rfl rfl ?_
              refine WL.move rfl rfl rfl ?_
              cases hg13 : (!decide (x.fin.to = y.fin.to))
              ·
                have hg13p : x.fin.to = y.fin.to := by simpa using hg13
                refine WL.fieldAddr fo_29_2 rfl rfl rfl ?_
                refine WL.fieldAddr fo_27_4 rfl rfl rfl ?_
                refine WL.load1 (v := .int .i64 x.fin.els) one_3 rfl rfl rfl (hS.cell 1 rfl rfl) ?_
                refine WL.fieldAddr fo_29_2 rfl rfl rfl ?_
                refine WL.fieldAddr fo_27_4 rfl rfl rfl ?_
                refine WL.load1 (v := .int .i64 y.fin.els) one_3 rfl rfl rfl (hS.cell 0 rfl rfl) ?_
                refine WL.bin rfl rfl rfl rfl rfl ?_
                refine WL.pick (v := .bool (!decide (x.fin.els = y.fin.els))) rfl rfl rfl rfl rfl rfl ?_
                refine WL.nil ?_
                refine N.seq ?_
                refine W.cond rfl (fun hc14 => ?_) (fun hc14 => ?_)
                ·
                  have hc14p : ¬ (x.fin.els = y.fin.els) := by simpa using hc14
                  refine W.seq ?_
                  refine W.region ?_
                  refine WL.assign rfl rfl rfl ?_
                  refine WL.nil ?_
                  refine N.seq ?_
                  refine Fin.ret1 rfl (v := .bool false) rfl ?_
                  have hne : ¬ x = y := by
                      intro e; rw [e] at hc14p; simp at hc14p
                  exact ⟨by rw [decide_eq_false hne], hS.below⟩
                ·
                  have hc14p : x.fin.els = y.fin.els := by simpa using hc14
                  refine W.skip ?_
                  refine N.seq ?_
                  refine W.seq ?_
                  refine W.seq ?_
                  refine W.region ?_
                  refine WL.assign rfl rfl rfl ?_
                  refine WL.nil ?_
                  refine N.seq ?_
                  refine W.block ?_
                  refine W.loop (α := Nat) (fun (k : Nat) => [(0, .agg #[.int .i64 x.params, .slice adix x.ins.length capix, .int .i64 x.fin.kind, .int .i64 x.fin.a, .int .i64 x.fin.to, .slice adpx x.fin.args.length cappx, .int .i64 x.fin.els, .slice adqx x.fin.elses.length capqx]), (1, .agg #[.int .i64 y.params, .slice adiy y.ins.length capiy, .int .i64 y.fin.kind, .int .i64 y.fin.a, .int .i64 y.fin.to, .slice adpy y.fin.args.length cappy, .int .i64 y.fin.els, .slice adqy y.fin.elses.length capqy]), (2, .pointer (some ⟨b1, 0, none⟩)), (3, .pointer (some ⟨b3, 0, none⟩)), (5, .bool (decide (x.fin.elses = y.fin.elses))), (6, .int .i64 (k : Int)), (8, .pointer (some ⟨b1, 2, none⟩)), (9, .pointer (some ⟨b1, 5, none⟩)), (10, .slice adpx x.fin.args.length cappx), (11, .pointer (some ⟨b3, 2, none⟩)), (12, .pointer (some ⟨b3, 5, none⟩)), (13, .slice adpy y.fin.args.length cappy), (14, .bool true), (15, .bool true), (16, .pointer (some ⟨b1, 2, none⟩)), (17, .pointer (some ⟨b1, 7, none⟩)), (18, .slice adqx x.fin.elses.length capqx), (19, .pointer (some ⟨b3, 2, none⟩)), (20, .pointer (some ⟨b3, 7, none⟩)), (21, .slice adqy y.fin.elses.length capqy), (22, .bool (decide (x.fin.elses = y.fin.elses))), (23, .bool (decide (x.fin.elses = y.fin.elses))), (24, .bool (decide (x.fin.elses = y.fin.elses))), (25, .bool false), (26, .bool false), (27, .pointer (some ⟨b1, 0, none⟩)), (28, .int .i64 x.params), (29, .pointer (some ⟨b3, 0, none⟩)), (30, .int .i64 y.params), (31, .bool false), (32, .bool false), (33, .bool false), (34, .pointer (some ⟨b1, 1, none⟩)), (35, .slice adix x.ins.length capix), (36, .int .i64 (x.ins.length : Int)), (37, .pointer (some ⟨b3, 1, none⟩)), (38, .slice adiy y.ins.length capiy), (39, .int .i64 (y.ins.length : Int)), (40, .bool false), (41, .bool false), (42, .bool false), (43, .pointer (some ⟨b1, 2, none⟩)), (44, .pointer (some ⟨b1, 2, none⟩)), (45, .int .i64 x.fin.kind), (46, .pointer (some ⟨b3, 2, none⟩)), (47, .pointer (some ⟨b3, 2, none⟩)), (48, .int .i64 y.fin.kind), (49, .bool false), (50, .bool false), (51, .bool false), (52, .pointer (some ⟨b1, 2, none⟩)), (53, .pointer (some ⟨b1, 3, none⟩)), (54, .int .i64 x.fin.a), (55, .pointer (some ⟨b3, 2, none⟩)), (56, .pointer (some ⟨b3, 3, none⟩)), (57, .int .i64 y.fin.a), (58, .bool false), (59, .bool false), (60, .bool false), (61, .pointer (some ⟨b1, 2, none⟩)), (62, .pointer (some ⟨b1, 4, none⟩)), (63, .int .i64 x.fin.to), (64, .pointer (some ⟨b3, 2, none⟩)), (65, .pointer (some ⟨b3, 4, none⟩)), (66, .int .i64 y.fin.to), (67, .bool false), (68, .bool false), (69, .bool false), (70, .pointer (some ⟨b1, 2, none⟩)), (71, .pointer (some ⟨b1, 6, none⟩)), (72, .int .i64 x.fin.els), (73, .pointer (some ⟨b3, 2, none⟩)), (74, .pointer (some ⟨b3, 6, none⟩)), (75, .int .i64 y.fin.els), (76, .bool (!decide (x.fin.els = y.fin.els))), (77, .bool (!decide (x.fin.els = y.fin.els)))]) (fun (k : Nat) u => St w w u ro [(b3, .cells #[.int .i64 y.params, .slice adiy y.ins.length capiy, .int .i64 y.fin.kind, .int .i64 y.fin.a, .int .i64 y.fin.to, .slice adpy y.fin.args.length cappy, .int .i64 y.fin.els, .slice adqy y.fin.elses.length capqy] 29 (0, 0)), (b1, .cells #[.int .i64 x.params, .slice adix x.ins.length capix, .int .i64 x.fin.kind, .int .i64 x.fin.a, .int .i64 x.fin.to, .slice adpx x.fin.args.length cappx, .int .i64 x.fin.els, .slice adqx x.fin.elses.length capqx] 29 (0, 0))] [] ∧ k ≤ x.ins.length ∧ x.ins.take k = y.ins.take k) (fun (k : Nat) => x.ins.length - k) 0 ⟨rfl, rfl, rfl, rfl, rfl, rfl, rfl, rfl, rfl, rfl, rfl, rfl, rfl, rfl, rfl, rfl, rfl, rfl, rfl, rfl, rfl, rfl, rfl, rfl, rfl, rfl, rfl, rfl, rfl, rfl, rfl, rfl, rfl, rfl, rfl, rfl, rfl, rfl, rfl, rfl, rfl, rfl, rfl, rfl, rfl, rfl, rfl, rfl, rfl, rfl, rfl, rfl, rfl, rfl, rfl, rfl, rfl, rfl, rfl, rfl, rfl, rfl, rfl, rfl, rfl, rfl, rfl, rfl, rfl, rfl, rfl, rfl, rfl, rfl, rfl, rfl, trivial⟩ ⟨hS, Nat.zero_le _, rfl⟩ ?_
                  clear hS
                  rintro k w15 ⟨hS, hk, htk⟩
                  refine W.seq ?_
                  refine W.seq ?_
                  refine W.region ?_
                  refine WL.move rfl rfl rfl ?_
                  refine WL.fieldAddr fo_29_1 rfl rfl rfl ?_
                  refine WL.load1 (v := .slice adix x.ins.length capix) one_24 rfl rfl rfl (hS.cell 1 rfl rfl) ?_
                  refine WL.lenSlice Try.underlying24 rfl rfl rfl ?_
                  refine WL.bin rfl rfl rfl rfl rfl ?_
                  refine WL.nil ?_
                  refine N.seq ?_
                  refine W.cond rfl (fun hc16 => ?_) (fun hc16 => ?_)
                  ·
                    have hc16p : (k : Int) < (x.ins.length : Int) := by simpa using hc16
                    refine W.skip ?_
                    refine N.seq ?_
                    refine W.seq ?_
                    refine W.block ?_
                    refine W.seq ?_
                    have hj17 : k < x.ins.length := by omega
                    obtain ⟨x17, hx17⟩ : ∃ zz, x.ins[k]? = some zz := ⟨_, List.getElem?_eq_getElem hj17⟩
                    obtain ⟨b17, o17, cs17, hE17, hr17, hl17, hc17, hQ17⟩ := hinxd k _ hx17
                    have hQk17 := hQ17
                    obtain ⟨sv17, rfl, hs17, ho17, ha17, hb17, hk17, hn17⟩ := hQ17
                    obtain ⟨ad17, cap17, rfl, hs17a, hs17b, hs17c, hs17d⟩ := id hs17
                    have hs17m : x17.args.length ≤ 9223372036854775807 := by have h1 := hs17a; have h2 := hs17b; unfold maxLen at h2; omega
                    have hj18 : k < y.ins.length := by omega
                    obtain ⟨x18, hx18⟩ : ∃ zz, y.ins[k]? = some zz := ⟨_, List.getElem?_eq_getElem hj18⟩
                    obtain ⟨b18, o18, cs18, hE18, hr18, hl18, hc18, hQ18⟩ := hinyd k _ hx18
                    have hQk18 := hQ18
                    obtain ⟨sv18, rfl, hs18, ho18, ha18, hb18, hk18, hn18⟩ := hQ18
                    obtain ⟨ad18, cap18, rfl, hs18a, hs18b, hs18c, hs18d⟩ := id hs18
                    have hs18m : x18.args.length ≤ 9223372036854775807 := by have h1 := hs18a; have h2 := hs18b; unfold maxLen at h2; omega
                    refine W.drawL (by kernel_rfl) 11 [.q (.pointer (some ⟨b1, 1, none⟩)), .q (.slice adix x.ins.length capix), .q (.int .i64 (k : Int)), .q (.pointer (some ⟨b17, o17 + k * 6, none⟩)), .q (.agg #[.int .i64 x17.op, .int .i64 x17.a, .int .i64 x17.b, .int .u64 x17.k, .string x17.name, .slice ad17 x17.args.length cap17]), .q (.pointer (some ⟨b3, 1, none⟩)), .q (.slice adiy y.ins.length capiy), .q (.int .i64 (k : Int)), .q (.pointer (some ⟨b18, o18 + k * 6, none⟩)), .q (.agg #[.int .i64 x18.op, .int .i64 x18.a, .int .i64 x18.b, .int .u64 x18.k, .string x18.name, .slice ad18 x18.args.length cap18]), .q (.bool (decide (x17 = x18)))] (by kernel_rfl) rfl [(0, .agg #[.int .i64 x.params, .slice adix x.ins.length capix, .int .i64 x.fin.kind, .int .i64 x.fin.a, .int .i64 x.fin.to, .slice adpx x.fin.args.length cappx, .int .i64 x.fin.els, .slice adqx x.fin.elses.length capqx]), (1, .agg #[.int .i64 y.params, .slice adiy y.ins.length capiy, .int .i64 y.fin.kind, .int .i64 y.fin.a, .int .i64 y.fin.to, .slice adpy y.fin.args.length cappy, .int .i64 y.fin.els, .slice adqy y.fin.elses.length capqy]), (2, .pointer (some ⟨b1, 0, none⟩)), (3, .pointer (some ⟨b3, 0, none⟩)), (5, .bool (decide (x.fin.elses = y.fin.elses))), (6, .int .i64 (k : Int)), (8, .pointer (some ⟨b1, 2, none⟩)), (9, .pointer (some ⟨b1, 5, none⟩)), (10, .slice adpx x.fin.args.length cappx), (11, .pointer (some ⟨b3, 2, none⟩)), (12, .pointer (some ⟨b3, 5, none⟩)), (13, .slice adpy y.fin.args.length cappy), (14, .bool true), (15, .bool true), (16, .pointer (some ⟨b1, 2, none⟩)), (17, .pointer (some ⟨b1, 7, none⟩)), (18, .slice adqx x.fin.elses.length capqx), (19, .pointer (some ⟨b3, 2, none⟩)), (20, .pointer (some ⟨b3, 7, none⟩)), (21, .slice adqy y.fin.elses.length capqy), (22, .bool (decide (x.fin.elses = y.fin.elses))), (23, .bool (decide (x.fin.elses = y.fin.elses))), (24, .bool (decide (x.fin.elses = y.fin.elses))), (25, .bool false), (26, .bool false), (27, .pointer (some ⟨b1, 0, none⟩)), (28, .int .i64 x.params), (29, .pointer (some ⟨b3, 0, none⟩)), (30, .int .i64 y.params), (31, .bool false), (32, .bool false), (33, .bool false), (34, .pointer (some ⟨b1, 1, none⟩)), (35, .slice adix x.ins.length capix), (36, .int .i64 (x.ins.length : Int)), (37, .pointer (some ⟨b3, 1, none⟩)), (38, .slice adiy y.ins.length capiy), (39, .int .i64 (y.ins.length : Int)), (40, .bool false), (41, .bool false), (42, .bool false), (43, .pointer (some ⟨b1, 2, none⟩)), (44, .pointer (some ⟨b1, 2, none⟩)), (45, .int .i64 x.fin.kind), (46, .pointer (some ⟨b3, 2, none⟩)), (47, .pointer (some ⟨b3, 2, none⟩)), (48, .int .i64 y.fin.kind), (49, .bool false), (50, .bool false), (51, .bool false), (52, .pointer (some ⟨b1, 2, none⟩)), (53, .pointer (some ⟨b1, 3, none⟩)), (54, .int .i64 x.fin.a), (55, .pointer (some ⟨b3, 2, none⟩)), (56, .pointer (some ⟨b3, 3, none⟩)), (57, .int .i64 y.fin.a), (58, .bool false), (59, .bool false), (60, .bool false), (61, .pointer (some ⟨b1, 2, none⟩)), (62, .pointer (some ⟨b1, 4, none⟩)), (63, .int .i64 x.fin.to), (64, .pointer (some ⟨b3, 2, none⟩)), (65, .pointer (some ⟨b3, 4, none⟩)), (66, .int .i64 y.fin.to), (67, .bool false), (68, .bool false), (69, .bool false), (70, .pointer (some ⟨b1, 2, none⟩)), (71, .pointer (some ⟨b1, 6, none⟩)), (72, .int .i64 x.fin.els), (73, .pointer (some ⟨b3, 2, none⟩)), (74, .pointer (some ⟨b3, 6, none⟩)), (75, .int .i64 y.fin.els), (76, .bool (!decide (x.fin.els = y.fin.els))), (77, .bool (!decide (x.fin.els = y.fin.els))), (78, .int .i64 (k : Int)), (79, .pointer (some ⟨b1, 1, none⟩)), (80, .slice adix x.ins.length capix), (81, .int .i64 (x.ins.length : Int)), (82, .bool (decide ((k : Int) < (x.ins.length : Int))))] ⟨rfl, rfl, rfl, rfl, rfl, rfl, rfl, rfl, rfl, rfl, rfl, rfl, rfl, rfl, rfl, rfl, rfl, rfl, rfl, rfl, rfl, rfl, rfl, rfl, rfl, rfl, rfl, rfl, rfl, rfl, rfl, rfl, rfl, rfl, rfl, rfl, rfl, rfl, rfl, rfl, rfl, rfl, rfl, rfl, rfl, rfl, rfl, rfl, rfl, rfl, rfl, rfl, rfl, rfl, rfl, rfl, rfl, rfl, rfl, rfl, rfl, rfl, rfl, rfl, rfl, rfl, rfl, rfl, rfl, rfl, rfl, rfl, rfl, rfl, rfl, rfl, rfl, rfl, rfl, rfl, rfl, trivial⟩ rfl hS ?_ ?_
                    ·
                      refine And.intro (fun β w hS => ?_) ?_
                      ·
                        refine WL.sub (σ' := [(2, .pointer (some ⟨b1, 0, none⟩))]) ⟨rfl, trivial⟩ ?_
                        refine WL.fieldAddr fo_29_1 rfl rfl rfl ?_
                        exact WL.nil (N.cut () ⟨rfl, trivial⟩ (Below.refl _ _))
                      refine And.intro (fun β w hS => ?_) ?_
                      ·
                        refine WL.sub (σ' := [(85, .pointer (some ⟨b1, 1, none⟩))]) ⟨rfl, trivial⟩ ?_
                        refine WL.load1 (v := .slice adix x.ins.length capix) one_24 rfl rfl rfl (hS.cell 1 rfl rfl) ?_
                        exact WL.nil (N.cut () ⟨rfl, trivial⟩ (Below.refl _ _))
                      refine And.intro (fun β w hS => ?_) ?_
                      ·
                        refine WL.sub (σ' := [(6, .int .i64 (k : Int))]) ⟨rfl, trivial⟩ ?_
                        refine WL.move rfl rfl rfl ?_
                        exact WL.nil (N.cut () ⟨rfl, trivial⟩ (Below.refl _ _))
                      refine And.intro (fun β w hS => ?_) ?_
                      ·
                        refine WL.sub (σ' := [(86, .slice adix x.ins.length capix), (87, .int .i64 (k : Int))]) ⟨rfl, rfl, trivial⟩ ?_
                        refine WL.indexAddrE (j := k) Try.underlying24 isz_32 rfl rfl rfl rfl hj17 hE17 ?_
                        exact WL.nil (N.cut () ⟨rfl, trivial⟩ (Below.refl _ _))
                      refine And.intro (fun β w hS => ?_) ?_
                      ·
                        refine WL.sub (σ' := [(88, .pointer (some ⟨b17, o17 + k * 6, none⟩))]) ⟨rfl, trivial⟩ ?_
                        refine WL.loadN (cs := [.int .i64 x17.op, .int .i64 x17.a, .int .i64 x17.b, .int .u64 x17.k, .string x17.name, .slice ad17 x17.args.length cap17]) agg_32 rfl rfl rfl rfl (hS.roCells hr17 hc17) ?_
                        exact WL.nil (N.cut () ⟨rfl, trivial⟩ (Below.refl _ _))
                      refine And.intro (fun β w hS => ?_) ?_
                      ·
                        refine WL.sub (σ' := [(3, .pointer (some ⟨b3, 0, none⟩))]) ⟨rfl, trivial⟩ ?_
                        refine WL.fieldAddr fo_29_1 rfl rfl rfl ?_
                        exact WL.nil (N.cut () ⟨rfl, trivial⟩ (Below.refl _ _))
                      refine And.intro (fun β w hS => ?_) ?_
                      ·
                        refine WL.sub (σ' := [(90, .pointer (some ⟨b3, 1, none⟩))]) ⟨rfl, trivial⟩ ?_
                        refine WL.load1 (v := .slice adiy y.ins.length capiy) one_24 rfl rfl rfl (hS.cell 0 rfl rfl) ?_
                        exact WL.nil (N.cut () ⟨rfl, trivial⟩ (Below.refl _ _))
                      refine And.intro (fun β w hS => ?_) ?_
                      ·
                        refine WL.sub (σ' := [(6, .int .i64 (k : Int))]) ⟨rfl, trivial⟩ ?_
                        refine WL.move rfl rfl rfl ?_
                        exact WL.nil (N.cut () ⟨rfl, trivial⟩ (Below.refl _ _))
                      refine And.intro (fun β w hS => ?_) ?_
                      ·
                        refine WL.sub (σ' := [(91, .slice adiy y.ins.length capiy), (92, .int .i64 (k : Int))]) ⟨rfl, rfl, trivial⟩ ?_
                        refine WL.indexAddrE (j := k) Try.underlying24 isz_32 rfl rfl rfl rfl hj18 hE18 ?_
                        exact WL.nil (N.cut () ⟨rfl, trivial⟩ (Below.refl _ _))
                      refine And.intro (fun β w hS => ?_) ?_
                      ·
                        refine WL.sub (σ' := [(93, .pointer (some ⟨b18, o18 + k * 6, none⟩))]) ⟨rfl, trivial⟩ ?_
                        refine WL.loadN (cs := [.int .i64 x18.op, .int .i64 x18.a, .int .i64 x18.b, .int .u64 x18.k, .string x18.name, .slice ad18 x18.args.length cap18]) agg_32 rfl rfl rfl rfl (hS.roCells hr18 hc18) ?_
                        exact WL.nil (N.cut () ⟨rfl, trivial⟩ (Below.refl _ _))
                      refine And.intro (fun β w hS => ?_) ?_
                      ·
                        refine WL.sub (σ' := [(89, .agg #[.int .i64 x17.op, .int .i64 x17.a, .int .i64 x17.b, .int .u64 x17.k, .string x17.name, .slice ad17 x17.args.length cap17]), (94, .agg #[.int .i64 x18.op, .int .i64 x18.a, .int .i64 x18.b, .int .u64 x18.k, .string x18.name, .slice ad18 x18.args.length cap18])]) ⟨rfl, rfl, trivial⟩ ?_
                        refine WL.callF (vs := [.agg #[.int .i64 x17.op, .int .i64 x17.a, .int .i64 x17.b, .int .u64 x17.k, .string x17.name, .slice ad17 x17.args.length cap17], .agg #[.int .i64 x18.op, .int .i64 x18.a, .int .i64 x18.b, .int .u64 x18.k, .string x18.name, .slice ad18 x18.args.length cap18]]) Try.func14 (by kernel_rfl) rfl rfl rfl (sameInst_ret x17 x18 _ _ (ro := ro) (fun b hb => (hS.snap b hb).1) (InstC.keep hQk17 hS.alike) (InstC.keep hQk18 hS.alike)) ?_
                        rintro v w20 ⟨rfl, hbl⟩
                        replace hS := hS.grow hbl
                        exact WL.nil (N.cut () ⟨rfl, trivial⟩ hbl)
                      trivial
                    ·
                      clear hS; intro w21 β hS
                      refine WL.sub (σ' := [(0, .agg #[.int .i64 x.params, .slice adix x.ins.length capix, .int .i64 x.fin.kind, .int .i64 x.fin.a, .int .i64 x.fin.to, .slice adpx x.fin.args.length cappx, .int .i64 x.fin.els, .slice adqx x.fin.elses.length capqx]), (1, .agg #[.int .i64 y.params, .slice adiy y.ins.length capiy, .int .i64 y.fin.kind, .int .i64 y.fin.a, .int .i64 y.fin.to, .slice adpy y.fin.args.length cappy, .int .i64 y.fin.els, .slice adqy y.fin.elses.length capqy]), (2, .pointer (some ⟨b1, 0, none⟩)), (3, .pointer (some ⟨b3, 0, none⟩)), (5, .bool (decide (x.fin.elses = y.fin.elses))), (6, .int .i64 (k : Int)), (8, .pointer (some ⟨b1, 2, none⟩)), (9, .pointer (some ⟨b1, 5, none⟩)), (10, .slice adpx x.fin.args.length cappx), (11, .pointer (some ⟨b3, 2, none⟩)), (12, .pointer (some ⟨b3, 5, none⟩)), (13, .slice adpy y.fin.args.length cappy), (14, .bool true), (15, .bool true), (16, .pointer (some ⟨b1, 2, none⟩)), (17, .pointer (some ⟨b1, 7, none⟩)), (18, .slice adqx x.fin.elses.length capqx), (19, .pointer (some ⟨b3, 2, none⟩)), (20, .pointer (some ⟨b3, 7, none⟩)), (21, .slice adqy y.fin.elses.length capqy), (22, .bool (decide (x.fin.elses = y.fin.elses))), (23, .bool (decide (x.fin.elses = y.fin.elses))), (24, .bool (decide (x.fin.elses = y.fin.elses))), (25, .bool false), (26, .bool false), (27, .pointer (some ⟨b1, 0, none⟩)), (28, .int .i64 x.params), (29, .pointer (some ⟨b3, 0, none⟩)), (30, .int .i64 y.params), (31, .bool false), (32, .bool false), (33, .bool false), (34, .pointer (some ⟨b1, 1, none⟩)), (35, .slice adix x.ins.length capix), (36, .int .i64 (x.ins.length : Int)), (37, .pointer (some ⟨b3, 1, none⟩)), (38, .slice adiy y.ins.length capiy), (39, .int .i64 (y.ins.length : Int)), (40, .bool false), (41, .bool false), (42, .bool false), (43, .pointer (some ⟨b1, 2, none⟩)), (44, .pointer (some ⟨b1, 2, none⟩)), (45, .int .i64 x.fin.kind), (46, .pointer (some ⟨b3, 2, none⟩)), (47, .pointer (some ⟨b3, 2, none⟩)), (48, .int .i64 y.fin.kind), (49, .bool false), (50, .bool false), (51, .bool false), (52, .pointer (some ⟨b1, 2, none⟩)), (53, .pointer (some ⟨b1, 3, none⟩)), (54, .int .i64 x.fin.a), (55, .pointer (some ⟨b3, 2, none⟩)), (56, .pointer (some ⟨b3, 3, none⟩)), (57, .int .i64 y.fin.a), (58, .bool false), (59, .bool false), (60, .bool false), (61, .pointer (some ⟨b1, 2, none⟩)), (62, .pointer (some ⟨b1, 4, none⟩)), (63, .int .i64 x.fin.to), (64, .pointer (some ⟨b3, 2, none⟩)), (65, .pointer (some ⟨b3, 4, none⟩)), (66, .int .i64 y.fin.to), (67, .bool false), (68, .bool false), (69, .bool false), (70, .pointer (some ⟨b1, 2, none⟩)), (71, .pointer (some ⟨b1, 6, none⟩)), (72, .int .i64 x.fin.els), (73, .pointer (some ⟨b3, 2, none⟩)), (74, .pointer (some ⟨b3, 6, none⟩)), (75, .int .i64 y.fin.els), (76, .bool (!decide (x.fin.els = y.fin.els))), (77, .bool (!decide (x.fin.els = y.fin.els))), (78, .int .i64 (k : Int)), (79, .pointer (some ⟨b1, 1, none⟩)), (80, .slice adix x.ins.length capix), (81, .int .i64 (x.ins.length : Int)), (82, .bool (decide ((k : Int) < (x.ins.length : Int)))), (85, .pointer (some ⟨b1, 1, none⟩)), (86, .slice adix x.ins.length capix), (87, .int .i64 (k : Int)), (88, .pointer (some ⟨b17, o17 + k * 6, none⟩)), (89, .agg #[.int .i64 x17.op, .int .i64 x17.a, .int .i64 x17.b, .int .u64 x17.k, .string x17.name, .slice ad17 x17.args.length cap17]), (90, .pointer (some ⟨b3, 1, none⟩)), (91, .slice adiy y.ins.length capiy), (92, .int .i64 (k : Int)), (93, .pointer (some ⟨b18, o18 + k * 6, none⟩)), (94, .agg #[.int .i64 x18.op, .int .i64 x18.a, .int .i64 x18.b, .int .u64 x18.k, .string x18.name, .slice ad18 x18.args.length cap18]), (95, .bool (decide (x17 = x18)))]) ⟨rfl, rfl, rfl, rfl, rfl, rfl, rfl, rfl, rfl, rfl, rfl, rfl, rfl, rfl, rfl, rfl, rfl, rfl, rfl, rfl, rfl, rfl, rfl, rfl, rfl, rfl, rfl, rfl, rfl, rfl, rfl, rfl, rfl, rfl, rfl, rfl, rfl, rfl, rfl, rfl, rfl, rfl, rfl, rfl, rfl, rfl, rfl, rfl, rfl, rfl, rfl, rfl, rfl, rfl, rfl, rfl, rfl, rfl, rfl, rfl, rfl, rfl, rfl, rfl, rfl, rfl, rfl, rfl, rfl, rfl, rfl, rfl, rfl, rfl, rfl, rfl, rfl, rfl, rfl, rfl, rfl, rfl, rfl, rfl, rfl, rfl, rfl, rfl, rfl, rfl, rfl, rfl, trivial⟩ ?_
                      refine WL.assign rfl rfl rfl ?_
                      refine WL.nil ?_
                      refine N.seq ?_
                      refine W.seq ?_
                      refine W.region ?_
                      refine WL.move rfl rfl rfl ?_
                      refine WL.not rfl rfl rfl ?_
                      refine WL.nil ?_
                      refine N.seq ?_
                      refine W.cond rfl (fun hc22 => ?_) (fun hc22 => ?_)
                      ·
                        have hc22p : ¬ (x17 = x18) := by simpa using hc22
                        refine W.seq ?_
                        refine W.region ?_
                        refine WL.assign rfl rfl rfl ?_
                        refine WL.nil ?_
                        refine N.seq ?_
                        refine Fin.ret1 rfl (v := .bool false) rfl ?_
                        have hne : ¬ x = y := by
                            intro e; rw [e, hx18] at hx17; rw [Option.some.inj hx17] at hc22p; simp at hc22p
                        exact ⟨by rw [decide_eq_false hne], hS.below⟩
                      ·
                        have hc22p : x17 = x18 := by simpa using hc22
                        refine W.skip ?_
                        refine N.blk ?_
                        refine N.seq ?_
                        refine W.region ?_
                        refine WL.move rfl rfl rfl ?_
                        refine WL.add (c := (k : Int) + 1) rfl rfl rfl rfl (rfl) (by omega) ?_
                        refine WL.assign rfl rfl rfl ?_
                        refine WL.nil ?_
                        have hxy : x17 = x18 := by simpa using hc22p
                        have htk2 : x.ins.take (k + 1) = y.ins.take (k + 1) := by rw [take_next hx17, take_next hx18, htk, hxy]
                        exact N.loop (k + 1) ⟨rfl, rfl, rfl, rfl, rfl, rfl, rfl, rfl, rfl, rfl, rfl, rfl, rfl, rfl, rfl, rfl, rfl, rfl, rfl, rfl, rfl, rfl, rfl, rfl, rfl, rfl, rfl, rfl, rfl, rfl, rfl, rfl, rfl, rfl, rfl, rfl, rfl, rfl, rfl, rfl, rfl, rfl, rfl, rfl, rfl, rfl, rfl, rfl, rfl, rfl, rfl, rfl, rfl, rfl, rfl, rfl, rfl, rfl, rfl, rfl, rfl, rfl, rfl, rfl, rfl, rfl, rfl, rfl, rfl, rfl, rfl, rfl, rfl, rfl, rfl, rfl, trivial⟩ ⟨hS, by omega, htk2⟩ (by first | omega | (simp only; omega))
                  ·
                    have hc16p : ¬ ((k : Int) < (x.ins.length : Int)) := by simpa using hc16
                    refine W.exit ?_
                    refine X.seq ?_
                    refine X.loop ?_
                    refine X.blk ?_
                    refine N.seq ?_
                    refine W.seq ?_
                    refine W.region ?_
                    refine WL.assign rfl rfl rfl ?_
                    refine WL.nil ?_
                    refine N.seq ?_
                    refine Fin.ret1 rfl (v := .bool true) rfl ?_
                    have e1 : x.ins = y.ins := take_full htk (by omega) (by omega)
                    have e : x = y := dblock_eq (by clear hS; first | assumption | simpa using ‹_› | omega | simp_all) e1 (dterm_eq (by clear hS; first | assumption | simpa using ‹_› | omega | simp_all) (by clear hS; first | assumption | simpa using ‹_› | omega | simp_all) (by clear hS; first | assumption | simpa using ‹_› | omega | simp_all) (by clear hS; first | assumption | simpa using ‹_› | omega | simp_all) (by clear hS; first | assumption | simpa using ‹_› | omega | simp_all) (by clear hS; first | assumption | simpa using ‹_› | omega | simp_all))
                    exact ⟨by rw [decide_eq_true e], hS.below⟩
              ·
                have hg13p : ¬ (x.fin.to = y.fin.to) := by simpa using hg13
                refine WL.skp rfl rfl ?_
                refine WL.skp rfl rfl ?_
                refine WL.skp rfl rfl ?_
                refine WL.skp rfl rfl ?_
                refine WL.skp rfl rfl ?_
                refine WL.skp rfl rfl ?_
                refine WL.skp rfl rfl ?_
                refine WL.pick (v := .bool true) rfl rfl rfl rfl rfl rfl ?_
                refine WL.nil ?_
                refine N.seq ?_
                refine W.condT rfl ?_
                refine W.seq ?_
                refine W.region ?_
                refine WL.assign rfl rfl rfl ?_
                refine WL.nil ?_
                refine N.seq ?_
                refine Fin.ret1 rfl (v := .bool false) rfl ?_
                have hne : ¬ x = y := by
                    intro e; rw [e] at hg13p; simp at hg13p
                exact ⟨by rw [decide_eq_false hne], hS.below⟩
            ·
              have hg12p : ¬ (x.fin.a = y.fin.a) := by simpa using hg12
              refine WL.skp rfl rfl ?_
              refine WL.skp rfl rfl ?_
              refine WL.skp rfl rfl ?_
              refine WL.skp rfl rfl ?_
              refine WL.skp rfl rfl ?_
              refine WL.skp rfl rfl ?_
              refine WL.skp rfl rfl ?_
              refine WL.pick (v := .bool true) rfl rfl rfl rfl rfl rfl ?_
              refine WL.move rfl rfl rfl ?_
              refine WL.skp rfl rfl ?_
              refine WL.skp rfl rfl ?_
              refine WL.skp rfl rfl ?_
              refine WL.skp rfl rfl ?_
              refine WL.skp rfl rfl ?_
              refine WL.skp rfl rfl ?_
              refine WL.skp rfl rfl ?_
              refine WL.pick (v := .bool true) rfl rfl rfl rfl rfl rfl ?_
              refine WL.nil ?_
              refine N.seq ?_
              refine W.condT rfl ?_
              refine W.seq ?_
              refine W.region ?_
              refine WL.assign rfl rfl rfl ?_
              refine WL.nil ?_
              refine N.seq ?_
              refine Fin.ret1 rfl (v := .bool false) rfl ?_
              have hne : ¬ x = y := by
                  intro e; rw [e] at hg12p; simp at hg12p
              exact ⟨by rw [decide_eq_false hne], hS.below⟩
          ·
            have hg11p : ¬ (x.fin.kind = y.fin.kind) := by simpa using hg11
            refine WL.skp rfl rfl ?_
            refine WL.skp rfl rfl ?_
            refine WL.skp rfl rfl ?_
            refine WL.skp rfl rfl ?_
            refine WL.skp rfl rfl ?_
            refine WL.skp rfl rfl ?_
            refine WL.skp rfl rfl ?_
            refine WL.pick (v := .bool true) rfl rfl rfl rfl rfl rfl ?_
            refine WL.move rfl rfl rfl ?_
            refine WL.skp rfl rfl ?_
            refine WL.skp rfl rfl ?_
            refine WL.skp rfl rfl ?_
            refine WL.skp rfl rfl ?_
            refine WL.skp rfl rfl ?_
            refine WL.skp rfl rfl ?_
            refine WL.skp rfl rfl ?_
            refine WL.pick (v := .bool true) rfl rfl rfl rfl rfl rfl ?_
            refine WL.move rfl rfl rfl ?_
            refine WL.skp rfl rfl ?_
            refine WL.skp rfl rfl ?_
            refine WL.skp rfl rfl ?_
            refine WL.skp rfl rfl ?_
            refine WL.skp rfl rfl ?_
            refine WL.skp rfl rfl ?_
            refine WL.skp rfl rfl ?_
            refine WL.pick (v := .bool true) rfl rfl rfl rfl rfl rfl ?_
            refine WL.nil ?_
            refine N.seq ?_
            refine W.condT rfl ?_
            refine W.seq ?_
            refine W.region ?_
            refine WL.assign rfl rfl rfl ?_
            refine WL.nil ?_
            refine N.seq ?_
            refine Fin.ret1 rfl (v := .bool false) rfl ?_
            have hne : ¬ x = y := by
                intro e; rw [e] at hg11p; simp at hg11p
            exact ⟨by rw [decide_eq_false hne], hS.below⟩
        ·
          have hg10p : ¬ ((x.ins.length : Int) = (y.ins.length : Int)) := by simpa using hg10
          refine WL.skp rfl rfl ?_
          refine WL.skp rfl rfl ?_
          refine WL.skp rfl rfl ?_
          refine WL.skp rfl rfl ?_
          refine WL.skp rfl rfl ?_
          refine WL.skp rfl rfl ?_
          refine WL.skp rfl rfl ?_
          refine WL.pick (v := .bool true) rfl rfl rfl rfl rfl rfl ?_
          refine WL.move rfl rfl rfl ?_
          refine WL.skp rfl rfl ?_
          refine WL.skp rfl rfl ?_
          refine WL.skp rfl rfl ?_
          refine WL.skp rfl rfl ?_
          refine WL.skp rfl rfl ?_
          refine WL.skp rfl rfl ?_
          refine WL.skp rfl rfl ?_
          refine WL.pick (v := .bool true) rfl rfl rfl rfl rfl rfl ?_
          refine WL.move rfl rfl rfl ?_
          refine WL.skp rfl rfl ?_
          refine WL.skp rfl rfl ?_
          refine WL.skp rfl rfl ?_
          refine WL.skp rfl rfl ?_
          refine WL.skp rfl rfl ?_
          refine WL.skp rfl rfl ?_
          refine WL.skp rfl rfl ?_
          refine WL.pick (v := .bool true) rfl rfl rfl rfl rfl rfl ?_
          refine WL.move rfl rfl rfl ?_
          refine WL.skp rfl rfl ?_
          refine WL.skp rfl rfl ?_
          refine WL.skp rfl rfl ?_
          refine WL.skp rfl rfl ?_
          refine WL.skp rfl rfl ?_
          refine WL.skp rfl rfl ?_
          refine WL.skp rfl rfl ?_
          refine WL.pick (v := .bool true) rfl rfl rfl rfl rfl rfl ?_
          refine WL.nil ?_
          refine N.seq ?_
          refine W.condT rfl ?_
          refine W.seq ?_
          refine W.region ?_
          refine WL.assign rfl rfl rfl ?_
          refine WL.nil ?_
          refine N.seq ?_
          refine Fin.ret1 rfl (v := .bool false) rfl ?_
          have hne : ¬ x = y := by
              intro e; rw [e] at hg10p; simp at hg10p
          exact ⟨by rw [decide_eq_false hne], hS.below⟩
      ·
        have hg9p : ¬ (x.params = y.params) := by simpa using hg9
        refine WL.skp rfl rfl ?_
        refine WL.skp rfl rfl ?_
        refine WL.skp rfl rfl ?_
        refine WL.skp rfl rfl ?_
        refine WL.skp rfl rfl ?_
        refine WL.skp rfl rfl ?_
        refine WL.skp rfl rfl ?_
        refine WL.pick (v := .bool true) rfl rfl rfl rfl rfl rfl ?_
        refine WL.move rfl rfl rfl ?_
        refine WL.skp rfl rfl ?_
        refine WL.skp rfl rfl ?_
        refine WL.skp rfl rfl ?_
        refine WL.skp rfl rfl ?_
        refine WL.skp rfl rfl ?_
        refine WL.skp rfl rfl ?_
        refine WL.skp rfl rfl ?_
        refine WL.pick (v := .bool true) rfl rfl rfl rfl rfl rfl ?_
        refine WL.move rfl rfl rfl ?_
        refine WL.skp rfl rfl ?_
        refine WL.skp rfl rfl ?_
        refine WL.skp rfl rfl ?_
        refine WL.skp rfl rfl ?_
        refine WL.skp rfl rfl ?_
        refine WL.skp rfl rfl ?_
        refine WL.skp rfl rfl ?_
        refine WL.pick (v := .bool true) rfl rfl rfl rfl rfl rfl ?_
        refine WL.move rfl rfl rfl ?_
        refine WL.skp rfl rfl ?_
        refine WL.skp rfl rfl ?_
        refine WL.skp rfl rfl ?_
        refine WL.skp rfl rfl ?_
        refine WL.skp rfl rfl ?_
        refine WL.skp rfl rfl ?_
        refine WL.skp rfl rfl ?_
        refine WL.pick (v := .bool true) rfl rfl rfl rfl rfl rfl ?_
        refine WL.move rfl rfl rfl ?_
        refine WL.skp rfl rfl ?_
        refine WL.skp rfl rfl ?_
        refine WL.skp rfl rfl ?_
        refine WL.skp rfl rfl ?_
        refine WL.skp rfl rfl ?_
        refine WL.skp rfl rfl ?_
        refine WL.skp rfl rfl ?_
        refine WL.pick (v := .bool true) rfl rfl rfl rfl rfl rfl ?_
        refine WL.nil ?_
        refine N.seq ?_
        refine W.condT rfl ?_
        refine W.seq ?_
        refine W.region ?_
        refine WL.assign rfl rfl rfl ?_
        refine WL.nil ?_
        refine N.seq ?_
        refine Fin.ret1 rfl (v := .bool false) rfl ?_
        have hne : ¬ x = y := by
            intro e; rw [e] at hg9p; simp at hg9p
        exact ⟨by rw [decide_eq_false hne], hS.below⟩
    ·
      have hg8p : ¬ (x.fin.elses = y.fin.elses) := by simpa using hg8
      refine WL.skp rfl rfl ?_
      refine WL.skp rfl rfl ?_
      refine WL.skp rfl rfl ?_
      refine WL.skp rfl rfl ?_
      refine WL.skp rfl rfl ?_
      refine WL.pick (v := .bool true) rfl rfl rfl rfl rfl rfl ?_
      refine WL.move rfl rfl rfl ?_
      refine WL.skp rfl rfl ?_
      refine WL.skp rfl rfl ?_
      refine WL.skp rfl rfl ?_
      refine WL.skp rfl rfl ?_
      refine WL.skp rfl rfl ?_
      refine WL.skp rfl rfl ?_
      refine WL.skp rfl rfl ?_
      refine WL.pick (v := .bool true) rfl rfl rfl rfl rfl rfl ?_
      refine WL.move rfl rfl rfl ?_
      refine WL.skp rfl rfl ?_
      refine WL.skp rfl rfl ?_
      refine WL.skp rfl rfl ?_
      refine WL.skp rfl rfl ?_
      refine WL.skp rfl rfl ?_
      refine WL.skp rfl rfl ?_
      refine WL.skp rfl rfl ?_
      refine WL.pick (v := .bool true) rfl rfl rfl rfl rfl rfl ?_
      refine WL.move rfl rfl rfl ?_
      refine WL.skp rfl rfl ?_
      refine WL.skp rfl rfl ?_
      refine WL.skp rfl rfl ?_
      refine WL.skp rfl rfl ?_
      refine WL.skp rfl rfl ?_
      refine WL.skp rfl rfl ?_
      refine WL.skp rfl rfl ?_
      refine WL.pick (v := .bool true) rfl rfl rfl rfl rfl rfl ?_
      refine WL.move rfl rfl rfl ?_
      refine WL.skp rfl rfl ?_
      refine WL.skp rfl rfl ?_
      refine WL.skp rfl rfl ?_
      refine WL.skp rfl rfl ?_
      refine WL.skp rfl rfl ?_
      refine WL.skp rfl rfl ?_
      refine WL.skp rfl rfl ?_
      refine WL.pick (v := .bool true) rfl rfl rfl rfl rfl rfl ?_
      refine WL.move rfl rfl rfl ?_
      refine WL.skp rfl rfl ?_
      refine WL.skp rfl rfl ?_
      refine WL.skp rfl rfl ?_
      refine WL.skp rfl rfl ?_
      refine WL.skp rfl rfl ?_
      refine WL.skp rfl rfl ?_
      refine WL.skp rfl rfl ?_
      refine WL.pick (v := .bool true) rfl rfl rfl rfl rfl rfl ?_
      refine WL.nil ?_
      refine N.seq ?_
      refine W.condT rfl ?_
      refine W.seq ?_
      refine W.region ?_
      refine WL.assign rfl rfl rfl ?_
      refine WL.nil ?_
      refine N.seq ?_
      refine Fin.ret1 rfl (v := .bool false) rfl ?_
      have hne : ¬ x = y := by
          intro e; rw [e] at hg8p; simp at hg8p
      exact ⟨by rw [decide_eq_false hne], hS.below⟩

end Go.Proofs.Ytokkiaokpfediaa
