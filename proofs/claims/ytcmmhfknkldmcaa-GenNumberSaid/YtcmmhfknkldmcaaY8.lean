/-
  Contracts of the document's machine, for the instructions of a number. No condition beyond those that each theorem states.
-/
import Derived.Test.YtcmmhfknkldmcaaY7
namespace Go.Proofs.Ytcmmhfknkldmcaa
open Go.RowKit
theorem agg_56 : tyAgg Try.prog 56 3 = true := by kernel_rfl
theorem isz_5 : (Try.prog.info? 5).map (·.size) = some 1 := by kernel_rfl
theorem siz_5 : tySize Try.prog 5 1 = true := by kernel_rfl
theorem siz_9 : tySize Try.prog 9 1 = true := by kernel_rfl
theorem chunks_pg1 {cs : List Value} {D : ByteArray} (h : Chunks 3 PgC cs [D]) : cs = pgL D := by
  have h1 : cs.length = 3 := h.1
  have h2 := (h.2 0 D rfl).1
  rw [Nat.zero_mul, List.drop_zero, List.take_of_length_le (by omega)] at h2
  exact h2

set_option maxRecDepth 10000 in
set_option maxHeartbeats 4000000 in
theorem load_ret (D : ByteArray) (hD : D.size = 256) (p : Nat) (hp : p + 4 ≤ 256) (vx : Value) {w : World} {ro : Nat → Prop} (hro : ∀ b, ro b → b < w.heap.size) (hx : SlV ro w 3 PgC vx [D]) : Ret Try.prog 31 #[vx, .int .u64 (p : Int), .int .i64 4, .int .i64 1] w fun v w' => v = .tuple #[.int .u64 ((partN D p 4 : Nat) : Int), .int .i64 0] ∧ Below w.heap.size w w' := by
 have hxz := hx
 obtain ⟨ad, cap, rfl, hxa, hxb, hxc, hxd⟩ := id hx
 have hx0 := hx
 refine Ret.enter (P := Try.prog) (n := 77) (args := [.slice ad 1 cap, .int .u64 (p : Int), .int .i64 4, .int .i64 1]) (σ := [(0, .slice ad 1 cap), (1, .int .u64 (p : Int)), (2, .int .i64 4), (3, .int .i64 1)]) Try.func31 rfl rfl rfl rfl ?_
 have hS := St.start (ro := ro) hro
 have hsub : ∀ b, ro b → ro b ∨ w.heap.size ≤ b := fun _ h => .inl h
 have hj1 : 0 < [D].length := (List.getElem?_eq_some_iff.1 (rfl : [D][0]? = some D)).1
 have hx1 := (rfl : [D][0]? = some D)
 obtain ⟨b1, o1, cs1, hE1, hr1, hl1, hc1, hQ1⟩ := hxd 0 _ (rfl : [D][0]? = some D)
 obtain ⟨rfl, hpd1⟩ := hQ1
 refine W.seq (W.region (WL.assign rfl rfl rfl (WL.assign rfl rfl rfl (WL.nil (N.seq (W.seq (W.region (WL.move rfl rfl rfl ?_))))))))
 refine WL.callF (vs := [.slice ad 1 cap]) Try.func18 (by kernel_rfl) rfl rfl rfl (right1_ret D hD _ (ro := ro) (fun b hb => (hS.snap b hb).1) (hx.keep hS.alike fun _ _ q => q)) ?_
 rintro v w2 ⟨rfl, hbl⟩
 replace hS := hS.grow hbl
 refine WL.assign rfl rfl rfl (WL.nil (N.seq (W.seq (W.seq (W.region (WL.move rfl rfl rfl (WL.bin rfl rfl rfl rfl rfl ?_)))))))
 refine WL.set 20 (v' := .bool false) rfl rfl ?_
 refine WL.move rfl rfl rfl (WL.move rfl rfl rfl (WL.bin rfl rfl rfl rfl rfl ?_))
 refine WL.set 23 (v' := .bool false) rfl rfl ?_
 refine WL.pick (v := .bool false) rfl rfl rfl rfl rfl rfl (WL.move rfl rfl rfl (WL.move rfl rfl rfl (WL.not rfl rfl rfl ?_)))
 refine WL.set 27 (v' := .bool false) rfl rfl ?_
 refine WL.pick (v := .bool false) rfl rfl rfl rfl rfl rfl (WL.nil (N.seq (W.condF rfl (W.skip (N.seq (W.seq (W.region (WL.assign rfl rfl rfl (WL.nil ?_)))))))))
 refine N.seq (W.seq (W.region (WL.assign rfl rfl rfl (WL.nil (N.seq (W.seq (W.seq (W.region (WL.assign rfl rfl rfl ?_)))))))))
 refine WL.nil (N.seq (W.block ?_))
 refine W.loop (α := Nat) (fun (q : Nat) => [(0, .slice ad 1 cap), (1, .int .u64 (p : Int)), (2, .int .i64 4), (3, .int .i64 1), (11, .int .u64 ((partN D p q : Nat) : Int)), (12, .int .u64 ((256 ^ q : Nat) : Int)), (13, .int .i64 (q : Int))]) (fun (q : Nat) u => St w w u ro [] [] ∧ q ≤ 4) (fun (q : Nat) => 4 - q) 0 ⟨rfl, rfl, rfl, rfl, rfl, rfl, rfl, trivial⟩ ⟨hS, Nat.zero_le _⟩ ?_
 clear hS
 rintro q w3 ⟨hS, hq⟩
 refine W.seq (W.seq (W.region (WL.move rfl rfl rfl (WL.move rfl rfl rfl (WL.bin rfl rfl rfl rfl rfl (WL.nil (N.seq ?_)))))))
 refine W.cond rfl (fun hc4 => ?_) (fun hc4 => ?_)
 ·
  have hc4p : (q : Int) < 4 := by simpa using hc4
  refine W.skip (N.seq (W.seq (W.block (W.seq (W.region (WL.move rfl rfl rfl (WL.move rfl rfl rfl ?_)))))))
  refine WL.convInt (by rw [Try.underlying3]; rfl) Try.underlying22 rfl rfl rfl ?_
  refine WL.set 36 (v' := .int .u64 ((q : Nat) : Int)) rfl (congrArg _ (wrapN64 (by omega) (by omega))) ?_
  refine WL.bin rfl rfl rfl rfl rfl ?_
  refine WL.set 37 (v' := .int .u64 ((p + q : Nat) : Int)) rfl (congrArg _ (wrapN64 (by omega) (by omega))) ?_
  refine WL.assign rfl rfl rfl (WL.nil (N.seq (W.seq (W.region (WL.move rfl rfl rfl (WL.move rfl rfl rfl ?_))))))
  refine WL.callF (vs := [.slice ad 1 cap, .int .u64 ((p + q : Nat) : Int)]) Try.func19 (by kernel_rfl) rfl rfl rfl (at1_ret D hD (p + q) (by omega) _ (ro := ro) (fun b hb => (hS.snap b hb).1) (hx.keep hS.alike fun _ _ q => q)) ?_
  rintro v w5 ⟨rfl, hbl⟩
  replace hS := hS.grow hbl
  refine WL.assign rfl rfl rfl (WL.nil (N.seq (W.seq (W.seq (W.region (WL.move rfl rfl rfl (WL.bin rfl rfl rfl rfl rfl ?_)))))))
  refine WL.set 42 (v' := .bool false) rfl rfl ?_
  refine WL.move rfl rfl rfl (WL.move rfl rfl rfl (WL.move rfl rfl rfl (WL.bin rfl rfl rfl rfl rfl ?_)))
  refine WL.set 46 (v' := .bool false) rfl (congrArg Value.bool (show (decide (((p + q : Nat) : Int) < (p : Int))) = false from decide_eq_false (show ¬ (((p + q : Nat) : Int) < (p : Int)) from by omega))) ?_
  refine WL.pick (v := .bool false) rfl rfl rfl rfl rfl rfl (WL.nil (N.seq (W.condF rfl (W.skip (N.seq (W.seq (W.region (WL.move rfl rfl rfl (WL.move rfl rfl rfl ?_)))))))))
  refine WL.indexAddrE (j := 0) Try.underlying29 isz_56 rfl rfl rfl rfl hj1 hE1 (WL.loadN (cs := [.int .u64 0, .int .i64 1, .string D]) agg_56 rfl rfl rfl rfl (hS.roCells hr1 hc1) (WL.move rfl rfl rfl ?_))
  refine WL.callF (vs := [.agg #[.int .u64 0, .int .i64 1, .string D], .int .i64 1]) Try.func42 (by kernel_rfl) rfl rfl rfl (grants_ret D (ro := ro) (fun b hb => (hS.snap b hb).1)) ?_
  rintro v w6 ⟨rfl, hbl⟩
  replace hS := hS.grow hbl
  refine WL.assign rfl rfl rfl (WL.nil (N.seq (W.seq (W.seq (W.region (WL.move rfl rfl rfl (WL.not rfl rfl rfl ?_)))))))
  refine WL.set 55 (v' := .bool false) rfl rfl ?_
  refine WL.nil (N.seq (W.condF rfl (W.skip (N.seq (W.seq ?_)))))
  have hb1 := byteN_lt D (p + q); have hb2 : 256 ^ q ≤ 256 ^ 3 := Nat.pow_le_pow_right (by decide) (by omega); have hb3 : 256 ^ q * byteN D (p + q) ≤ 256 ^ 3 * 255 := Nat.mul_le_mul hb2 (by omega); have hb5 : 256 ^ (q + 1) ≤ 256 ^ 4 := Nat.pow_le_pow_right (by decide) (by omega); have hb6 := partN_lt D p (q + 1)
  refine W.drawL (by kernel_rfl) 18 ((.q (.int .u64 ((partN D p q : Nat) : Int))) :: (.q (.int .u64 ((256 ^ q : Nat) : Int))) :: (.q (.slice ad 1 cap)) :: (.q (.int .i64 0)) :: (.q (.pointer (some ⟨b1, o1 + 0 * 3, none⟩))) :: (.q (.pointer (some ⟨b1, o1 + 0 * 3 + 2, none⟩))) :: (.q (.string D)) :: (.q (.int .u64 ((p + q : Nat) : Int))) :: (.q (.slice ad 1 cap)) :: (.q (.int .i64 0)) :: (.q (.pointer (some ⟨b1, o1 + 0 * 3, none⟩))) :: (.q (.pointer (some ⟨b1, o1 + 0 * 3, none⟩))) :: (.q (.int .u64 0)) :: (.q (.int .u64 ((p + q : Nat) : Int))) :: (.q (.int .u8 ((byteN D (p + q) : Nat) : Int))) :: (.q (.int .u64 ((byteN D (p + q) : Nat) : Int))) :: (.q (.int .u64 ((256 ^ q * byteN D (p + q) : Nat) : Int))) :: (.q (.int .u64 ((partN D p (q + 1) : Nat) : Int))) :: []) (by kernel_rfl) (by kernel_rfl) [(0, .slice ad 1 cap), (1, .int .u64 (p : Int)), (2, .int .i64 4), (3, .int .i64 1), (11, .int .u64 ((partN D p q : Nat) : Int)), (12, .int .u64 ((256 ^ q : Nat) : Int)), (13, .int .i64 (q : Int)), (14, .int .u64 ((p + q : Nat) : Int)), (15, .int .i64 0)] ⟨rfl, rfl, rfl, rfl, rfl, rfl, rfl, rfl, rfl, trivial⟩ (by kernel_rfl) hS ?_ ?_
  ·
   refine And.intro (fun β w hS => ?_) ?_
   ·
    refine WL.sub (σ' := [(11, .int .u64 ((partN D p q : Nat) : Int))]) ⟨rfl, trivial⟩ ?_
    refine WL.move rfl rfl rfl ?_
    exact WL.nil (N.cut () ⟨rfl, trivial⟩ (Below.refl _ _))
   refine And.intro (fun β w hS => ?_) ?_
   ·
    refine WL.sub (σ' := [(12, .int .u64 ((256 ^ q : Nat) : Int))]) ⟨rfl, trivial⟩ ?_
    refine WL.move rfl rfl rfl ?_
    exact WL.nil (N.cut () ⟨rfl, trivial⟩ (Below.refl _ _))
   refine And.intro (fun β w hS => ?_) ?_
   ·
    refine WL.sub (σ' := [(0, .slice ad 1 cap)]) ⟨rfl, trivial⟩ ?_
    refine WL.move rfl rfl rfl ?_
    exact WL.nil (N.cut () ⟨rfl, trivial⟩ (Below.refl _ _))
   refine And.intro (fun β w hS => ?_) ?_
   ·
    refine WL.sub (σ' := [(15, .int .i64 0)]) ⟨rfl, trivial⟩ ?_
    refine WL.move rfl rfl rfl ?_
    exact WL.nil (N.cut () ⟨rfl, trivial⟩ (Below.refl _ _))
   refine And.intro (fun β w hS => ?_) ?_
   ·
    refine WL.sub (σ' := [(58, .slice ad 1 cap), (59, .int .i64 0)]) ⟨rfl, rfl, trivial⟩ ?_
    refine WL.indexAddrE (j := 0) Try.underlying29 isz_56 rfl rfl rfl rfl hj1 hE1 ?_
    exact WL.nil (N.cut () ⟨rfl, trivial⟩ (Below.refl _ _))
   refine And.intro (fun β w hS => ?_) ?_
   ·
    refine WL.sub (σ' := [(60, .pointer (some ⟨b1, o1 + 0 * 3, none⟩))]) ⟨rfl, trivial⟩ ?_
    refine WL.fieldAddr fo_56_2 rfl rfl rfl ?_
    exact WL.nil (N.cut () ⟨rfl, trivial⟩ (Below.refl _ _))
   refine And.intro (fun β w hS => ?_) ?_
   ·
    refine WL.sub (σ' := [(61, .pointer (some ⟨b1, o1 + 0 * 3 + 2, none⟩))]) ⟨rfl, trivial⟩ ?_
    refine WL.load1 (v := .string D) one_9 rfl rfl rfl (hS.roCells hr1 hc1 2 _ rfl) ?_
    exact WL.nil (N.cut () ⟨rfl, trivial⟩ (Below.refl _ _))
   refine And.intro (fun β w hS => ?_) ?_
   ·
    refine WL.sub (σ' := [(14, .int .u64 ((p + q : Nat) : Int))]) ⟨rfl, trivial⟩ ?_
    refine WL.move rfl rfl rfl ?_
    exact WL.nil (N.cut () ⟨rfl, trivial⟩ (Below.refl _ _))
   refine And.intro (fun β w hS => ?_) ?_
   ·
    refine WL.sub (σ' := [(0, .slice ad 1 cap)]) ⟨rfl, trivial⟩ ?_
    refine WL.move rfl rfl rfl ?_
    exact WL.nil (N.cut () ⟨rfl, trivial⟩ (Below.refl _ _))
   refine And.intro (fun β w hS => ?_) ?_
   ·
    refine WL.sub (σ' := [(15, .int .i64 0)]) ⟨rfl, trivial⟩ ?_
    refine WL.move rfl rfl rfl ?_
    exact WL.nil (N.cut () ⟨rfl, trivial⟩ (Below.refl _ _))
   refine And.intro (fun β w hS => ?_) ?_
   ·
    refine WL.sub (σ' := [(64, .slice ad 1 cap), (65, .int .i64 0)]) ⟨rfl, rfl, trivial⟩ ?_
    refine WL.indexAddrE (j := 0) Try.underlying29 isz_56 rfl rfl rfl rfl hj1 hE1 ?_
    exact WL.nil (N.cut () ⟨rfl, trivial⟩ (Below.refl _ _))
   refine And.intro (fun β w hS => ?_) ?_
   ·
    refine WL.sub (σ' := [(66, .pointer (some ⟨b1, o1 + 0 * 3, none⟩))]) ⟨rfl, trivial⟩ ?_
    refine WL.fieldAddr fo_56_0 rfl rfl rfl ?_
    exact WL.nil (N.cut () ⟨rfl, trivial⟩ (Below.refl _ _))
   refine And.intro (fun β w hS => ?_) ?_
   ·
    refine WL.sub (σ' := [(67, .pointer (some ⟨b1, o1 + 0 * 3, none⟩))]) ⟨rfl, trivial⟩ ?_
    refine WL.load1 (v := .int .u64 0) one_22 rfl rfl rfl (hS.roCells hr1 hc1 0 _ rfl) ?_
    exact WL.nil (N.cut () ⟨rfl, trivial⟩ (Below.refl _ _))
   refine And.intro (fun β w hS => ?_) ?_
   ·
    refine WL.sub (σ' := [(63, .int .u64 ((p + q : Nat) : Int)), (68, .int .u64 0)]) ⟨rfl, rfl, trivial⟩ ?_
    refine WL.bin rfl rfl rfl rfl rfl ?_
    refine WL.set 69 (v' := .int .u64 ((p + q : Nat) : Int)) rfl (congrArg _ (wrapN64 (by omega) (by omega))) ?_
    exact WL.nil (N.cut () ⟨rfl, trivial⟩ (Below.refl _ _))
   refine And.intro (fun β w hS => ?_) ?_
   ·
    refine WL.sub (σ' := [(62, .string D), (69, .int .u64 ((p + q : Nat) : Int))]) ⟨rfl, rfl, trivial⟩ ?_
    refine WL.indexStr (v := ((byteN D (p + q) : Nat) : Int)) Try.underlying9 rfl rfl rfl rfl (by omega) (by omega) (congrArg (fun n : Nat => (n : Int)) (byteN_get (by omega))) ?_
    exact WL.nil (N.cut () ⟨rfl, trivial⟩ (Below.refl _ _))
   refine And.intro (fun β w hS => ?_) ?_
   ·
    refine WL.sub (σ' := [(70, .int .u8 ((byteN D (p + q) : Nat) : Int))]) ⟨rfl, trivial⟩ ?_
    refine WL.convInt (by rw [Try.underlying5]; rfl) Try.underlying22 rfl rfl rfl ?_
    refine WL.set 71 (v' := .int .u64 ((byteN D (p + q) : Nat) : Int)) rfl (congrArg _ (wrapN64 (by omega) (by omega))) ?_
    exact WL.nil (N.cut () ⟨rfl, trivial⟩ (Below.refl _ _))
   refine And.intro (fun β w hS => ?_) ?_
   ·
    refine WL.sub (σ' := [(57, .int .u64 ((256 ^ q : Nat) : Int)), (71, .int .u64 ((byteN D (p + q) : Nat) : Int))]) ⟨rfl, rfl, trivial⟩ ?_
    refine WL.bin rfl rfl rfl rfl rfl ?_
    refine WL.set 72 (v' := .int .u64 ((256 ^ q * byteN D (p + q) : Nat) : Int)) rfl (congrArg _ (wrapN64 ((Int.natCast_mul _ _).symm) (Nat.lt_of_le_of_lt hb3 (by decide)))) ?_
    exact WL.nil (N.cut () ⟨rfl, trivial⟩ (Below.refl _ _))
   refine And.intro (fun β w hS => ?_) ?_
   ·
    refine WL.sub (σ' := [(56, .int .u64 ((partN D p q : Nat) : Int)), (72, .int .u64 ((256 ^ q * byteN D (p + q) : Nat) : Int))]) ⟨rfl, rfl, trivial⟩ ?_
    refine WL.bin rfl rfl rfl rfl rfl ?_
    refine WL.set 73 (v' := .int .u64 ((partN D p (q + 1) : Nat) : Int)) rfl (congrArg _ (wrapN64 ((Int.natCast_add _ _).symm) (Nat.lt_of_lt_of_le hb6 (Nat.le_trans hb5 (by decide))))) ?_
    exact WL.nil (N.cut () ⟨rfl, trivial⟩ (Below.refl _ _))
   trivial
  clear hS; intro w7 β hS
  refine WL.sub (σ' := [(0, .slice ad 1 cap), (1, .int .u64 (p : Int)), (2, .int .i64 4), (3, .int .i64 1), (11, .int .u64 ((partN D p q : Nat) : Int)), (12, .int .u64 ((256 ^ q : Nat) : Int)), (13, .int .i64 (q : Int)), (73, .int .u64 ((partN D p (q + 1) : Nat) : Int))]) ⟨rfl, rfl, rfl, rfl, rfl, rfl, rfl, rfl, trivial⟩ ?_
  refine WL.assign rfl rfl rfl (WL.nil (N.seq (W.region (WL.move rfl rfl rfl (WL.bin rfl rfl rfl rfl rfl ?_)))))
  refine WL.set 75 (v' := .int .u64 ((256 ^ (q + 1) : Nat) : Int)) rfl (congrArg _ (wrapN64 (by rw [Nat.pow_succ]; exact (Int.natCast_mul _ _).symm) (Nat.lt_of_le_of_lt hb5 (by decide)))) ?_
  refine WL.assign rfl rfl rfl (WL.nil (N.blk (N.seq (W.region (WL.move rfl rfl rfl ?_)))))
  refine WL.add (c := (q : Int) + 1) rfl rfl rfl rfl (rfl) (by omega) ?_
  refine WL.assign rfl rfl rfl (WL.nil ?_)
  exact N.loop (q + 1) ⟨rfl, rfl, rfl, rfl, rfl, rfl, rfl, trivial⟩ ⟨hS, by omega⟩ (by first | omega | (simp only; omega))
 have hc4p : ¬ ((q : Int) < 4) := by simpa using hc4
 refine W.exit (X.seq (X.loop (X.blk (N.seq (W.seq (W.region (WL.move rfl rfl rfl (WL.assign rfl rfl rfl (WL.assign rfl rfl rfl ?_)))))))))
 refine WL.nil (N.seq ?_)
 refine Fin.ret2 rfl (v := .int .u64 ((partN D p q : Nat) : Int)) (v' := .int .i64 0) rfl rfl ?_
 have hqe : q = 4 := by omega
 subst hqe
 exact ⟨rfl, hS.below⟩

set_option maxRecDepth 10000 in
set_option maxHeartbeats 4000000 in
theorem put_ret (D : ByteArray) (hD : D.size = 256) (to : Nat) (ht : to < 256) (z : UInt8) (vx : Value) {w : World} {ro : Nat → Prop} (hro : ∀ b, ro b → b < w.heap.size) (hx : SlV ro w 3 PgC vx [D]) : Ret Try.prog 20 #[vx, .int .u64 (to : Int), .int .u8 ((z.toNat : Nat) : Int)] w fun v w' => SlV (fun b => w.heap.size ≤ b ∧ b < w'.heap.size) w' 3 PgC v [(setD D to z)] ∧ Below w.heap.size w w' := by
 have hxz := hx
 obtain ⟨ad, cap, rfl, hxa, hxb, hxc, hxd⟩ := id hx
 refine Ret.enter (P := Try.prog) (n := 39) (args := [.slice ad 1 cap, .int .u64 (to : Int), .int .u8 ((z.toNat : Nat) : Int)]) (σ := [(0, .slice ad 1 cap), (1, .int .u64 (to : Int)), (2, .int .u8 ((z.toNat : Nat) : Int))]) Try.func20 rfl rfl rfl rfl ?_
 have hS := St.start (ro := ro) hro
 have hsub : ∀ b, ro b → ro b ∨ w.heap.size ≤ b := fun _ h => .inl h
 refine W.seq (W.region (WL.assign rfl rfl rfl (WL.nil (N.seq (W.seq (W.region (WL.move rfl rfl rfl (WL.move rfl rfl rfl ?_))))))))
 refine WL.callF (vs := [.slice ad 1 cap, .int .u64 (to : Int)]) Try.func19 (by kernel_rfl) rfl rfl rfl (at1_ret D hD (to) (by omega) _ (ro := ro) (fun b hb => (hS.snap b hb).1) (hx.keep hS.alike fun _ _ q => q)) ?_
 rintro v w1 ⟨rfl, hbl⟩
 replace hS := hS.grow hbl
 refine WL.assign rfl rfl rfl (WL.nil (N.seq (W.seq (W.region ?_))))
 refine WL.buildSlice0 Try.underlying29 isz_56 rfl rfl hS ?_
 clear hS; intro w3 b2 hS
 refine WL.move rfl rfl rfl ?_
 obtain ⟨nw, hch, hnw, hsp⟩ := elems_news hxd; have hcn := chunks_pg1 hch; subst hcn
 refine WL.appendRo (r := ⟨.slice (some ⟨b2, 0, none⟩) 0 0, 56, 3, 0, []⟩) (news := pgL D) 32 Try.underlying29 (tyZero_spec zer_56) byt_56 rfl rfl rfl rfl rfl hch.1 (fun e => ⟨by have := hxc e; have := hxa; simp at *; omega, hxc e⟩) ?_ hsp (chunks_all hch (by decide) (fun _ _ q => one_pg q)) rfl rfl hS (by simp only; unfold maxLen; omega) (by simp only; omega) ?_
 ·
  intro bz off e; exact hS.roCells ((hnw bz off e).2 (fun h => by cases h)) (hnw bz off e).1
 clear hS; intro w4 v5 hS hnn
 replace hS := hS.rw0 (show (⟨v5, 56, 3, 1, pgL D⟩ : Row) = _ from rfl)
 have hrow : w4.ownsRow w.heap.size 56 3 v5 (1) _ := hS.rows _ List.mem_cons_self
 obtain ⟨adv5, capv5, rfl, hr1v5, hr2v5, hr3v5⟩ := row_shape hrow
 clear hrow
 obtain ⟨gq6, rfl⟩ : ∃ g, adv5 = some ⟨g, 0, none⟩ := row_some (hS.rows _ (List.mem_of_getElem? (i := 0) rfl)) (by omega)
 refine WL.assign rfl rfl rfl (WL.nil (N.seq (W.seq (W.region (WL.move rfl rfl rfl (WL.move rfl rfl rfl ?_))))))
 refine WL.indexAddr (j := 0) Try.underlying29 isz_56 rfl rfl rfl rfl (by omega) ?_
 refine WL.fieldAddr fo_56_2 rfl rfl rfl (WL.load1 (v := .string D) one_9 rfl rfl rfl ((hS.rowCells (j := 0) 0 rfl (show ((pgL D).drop (0 * 3)).take 3 = [.int .u64 0, .int .i64 1, .string D] from rfl)) 2 _ rfl) ?_)
 refine WL.bytesOf Try.underlying9 Try.underlying49 Try.underlying5 rfl rfl rfl hS ?_
 clear hS; intro w7 bz u capz hu1 hu2 hS
 refine WL.assign rfl rfl rfl (WL.nil (N.seq (W.seq (W.region (WL.move rfl rfl rfl (WL.move rfl rfl rfl (WL.move rfl rfl rfl (WL.move rfl rfl rfl ?_))))))))
 refine WL.indexAddr (j := 0) Try.underlying29 isz_56 rfl rfl rfl rfl (by omega) ?_
 refine WL.fieldAddr fo_56_0 rfl rfl rfl (WL.load1 (v := .int .u64 0) one_22 rfl rfl rfl ((hS.rowCells (j := 0) 0 rfl (show ((pgL D).drop (0 * 3)).take 3 = [.int .u64 0, .int .i64 1, .string D] from rfl)) 0 _ rfl) (WL.bin rfl rfl rfl rfl rfl ?_))
 refine WL.set 29 (v' := .int .u64 ((to : Nat) : Int)) rfl (congrArg _ (wrapN64 (by omega) (by omega))) ?_
 refine WL.move rfl rfl rfl ?_
 refine WL.indexAddr (j := to) Try.underlying49 isz_5 rfl rfl rfl rfl (by omega) ?_
 refine WL.storeByte (u := u) (z := z) 0 rfl rfl rfl siz_5 rfl (by omega) (Nat.le_refl _) hS ?_
 clear hS; intro w8 hS
 replace hS : St w w w8 ro [(bz, byteO (u.set to z) 5 u.length)] [⟨.slice (some ⟨gq6, 0, none⟩) 1 capv5, 56, 3, 1, (pgL D)⟩] := hS
 refine WL.nil (N.seq (W.seq (W.region (WL.move rfl rfl rfl (WL.move rfl rfl rfl (WL.move rfl rfl rfl ?_))))))
 have hse : (⟨((u.set to z).take 256).toArray⟩ : ByteArray) = setD D to z := by unfold setD; rw [List.take_set, ← hD, hu1]
 refine WL.strRow (l := (u.set to z).take 256) Try.underlying49 Try.underlying5 Try.underlying9 rfl rfl rfl (by rw [List.length_take, List.length_set]; omega) (byteO_cells (hS.own _ (List.mem_of_getElem? (i := 0) rfl)) 256) ?_
 refine WL.set 35 (v' := .string (setD D to z)) rfl (congrArg _ hse) ?_
 refine WL.indexAddr (j := 0) Try.underlying29 isz_56 rfl rfl rfl rfl (by omega) ?_
 refine WL.fieldAddr fo_56_2 rfl rfl rfl ?_
 refine WL.storeRow (v := .string (setD D to z)) (cs := [.string (setD D to z)]) rfl rfl rfl rfl siz_9 rfl hS (by simp only [List.length_cons, List.length_nil]; omega) ?_
 clear hS; intro w9 hS
 replace hS := hS.rw0 (show (⟨.slice (some ⟨gq6, 0, none⟩) 1 capv5, 56, 3, 1, pgL (setD D to z)⟩ : Row) = _ from rfl)
 refine WL.nil (N.seq (W.seq (W.region (WL.move rfl rfl rfl (WL.assign rfl rfl rfl (WL.nil (N.seq ?_)))))))
 refine Fin.ret1 rfl (v := .slice (some ⟨gq6, 0, none⟩) 1 capv5) rfl ?_
 exact ⟨row_slv (hS.rows _ List.mem_cons_self) (chunks_pg (by rw [setD_size]; exact hD)) rfl (fun x hx => (hS.keys x (by simp only [keysOf, List.mem_append, List.mem_filterMap]; exact .inr ⟨_, List.mem_cons_self, hx⟩)).imp id (·.1)), hS.below⟩

set_option maxRecDepth 10000 in
set_option maxHeartbeats 4000000 in
theorem fill_ret (D : ByteArray) (hD : D.size = 256) (l : List UInt8) (hl : l.length ≤ 256) (vx : Value) {w : World} {ro : Nat → Prop} (hro : ∀ b, ro b → b < w.heap.size) (hx : SlV ro w 3 PgC vx [D]) : Ret Try.prog 9 #[vx, .int .u64 0, .string ⟨l.toArray⟩] w fun v w' => ∃ x, v = .tuple #[x, .int .i64 0] ∧ SlV (roFrom ro w w') w' 3 PgC x [fillD D l l.length] ∧ Below w.heap.size w w' := by
 have hxz := hx
 obtain ⟨ad, cap, rfl, hxa, hxb, hxc, hxd⟩ := id hx
 refine Ret.enter (P := Try.prog) (n := 45) (args := [.slice ad 1 cap, .int .u64 0, .string ⟨l.toArray⟩]) (σ := [(0, .slice ad 1 cap), (1, .int .u64 0), (2, .string ⟨l.toArray⟩)]) Try.func9 rfl rfl rfl rfl ?_
 have hS := St.start (ro := ro) hro
 have hsub : ∀ b, ro b → ro b ∨ w.heap.size ≤ b := fun _ h => .inl h
 refine W.seq (W.region (WL.assign rfl rfl rfl (WL.assign rfl rfl rfl (WL.nil (N.seq (W.seq (W.region (WL.move rfl rfl rfl ?_))))))))
 refine WL.callF (vs := [.slice ad 1 cap]) Try.func18 (by kernel_rfl) rfl rfl rfl (right1_ret D hD _ (ro := ro) (fun b hb => (hS.snap b hb).1) (hx.keep hS.alike fun _ _ q => q)) ?_
 rintro v w1 ⟨rfl, hbl⟩
 replace hS := hS.grow hbl
 refine WL.assign rfl rfl rfl (WL.nil (N.seq (W.seq (W.seq (W.region (WL.move rfl rfl rfl (WL.not rfl rfl rfl ?_)))))))
 refine WL.set 15 (v' := .bool false) rfl rfl ?_
 refine WL.nil (N.seq (W.condF rfl (W.skip (N.seq (W.seq (W.region (WL.move rfl rfl rfl (WL.assign rfl rfl rfl (WL.nil ?_)))))))))
 refine N.seq (W.seq (W.seq (W.region (WL.assign rfl rfl rfl (WL.nil (N.seq (W.block ?_)))))))
 have hvo0 : SlV ro w 3 PgC (.slice ad 1 cap) [fillD D l 0] := by rw [fillD_zero]; exact hx
 refine W.loop (α := Nat × Value × (Nat → Prop) × World) (fun ⟨q, vo, R2, ws2⟩ => [(0, .slice ad 1 cap), (1, .int .u64 0), (2, .string ⟨l.toArray⟩), (9, vo), (10, .int .i64 (q : Int))]) (fun ⟨q, vo, R2, ws2⟩ u => St w ws2 u R2 [] [] ∧ q ≤ l.length ∧ SlV R2 ws2 3 PgC vo [fillD D l q] ∧ Alike ro w R2 ws2 ∧ (∀ b, R2 b → ro b ∨ w.heap.size ≤ b)) (fun ⟨q, vo, R2, ws2⟩ => l.length - q) (0, (.slice ad 1 cap), ro, w) ⟨rfl, rfl, rfl, rfl, rfl, trivial⟩ ⟨hS, Nat.zero_le _, hvo0, Alike.refl, hsub⟩ ?_
 clear hS
 rintro ⟨q, vo, R2, ws2⟩ w2 ⟨hS, hq, hvo, halL0, hsub⟩
 replace hx := SlV.keep hx halL0 (fun _ _ h => h)
 refine W.seq (W.seq (W.region (WL.move rfl rfl rfl (WL.move rfl rfl rfl (WL.lenStr Try.underlying9 rfl rfl rfl ?_)))))
 refine WL.set 20 (v' := .int .i64 ((l.length : Nat) : Int)) rfl (congrArg _ (by simp [ByteArray.size])) ?_
 refine WL.bin rfl rfl rfl rfl rfl (WL.nil (N.seq ?_))
 refine W.cond rfl (fun hc3 => ?_) (fun hc3 => ?_)
 ·
  have hc3p : (q : Int) < ((l.length : Nat) : Int) := by simpa using hc3
  refine W.skip (N.seq (W.seq (W.block (W.seq (W.region (WL.move rfl rfl rfl (WL.move rfl rfl rfl ?_)))))))
  refine WL.convInt (by rw [Try.underlying3]; rfl) Try.underlying22 rfl rfl rfl ?_
  refine WL.set 26 (v' := .int .u64 ((q : Nat) : Int)) rfl (congrArg _ (wrapN64 (by omega) (by omega))) ?_
  refine WL.bin rfl rfl rfl rfl rfl ?_
  refine WL.set 27 (v' := .int .u64 ((q : Nat) : Int)) rfl (congrArg _ (wrapN64 (by omega) (by omega))) ?_
  refine WL.assign rfl rfl rfl (WL.nil (N.seq (W.seq (W.seq (W.region (WL.move rfl rfl rfl (WL.move rfl rfl rfl ?_)))))))
  refine WL.callF (vs := [.slice ad 1 cap, .int .u64 ((q : Nat) : Int)]) Try.func19 (by kernel_rfl) rfl rfl rfl (at1_ret D hD (q) (by omega) _ (ro := R2) (fun b hb => (hS.snap b hb).1) (hx.keep hS.alike fun _ _ q => q)) ?_
  rintro v w4 ⟨rfl, hbl⟩
  replace hS := hS.grow hbl
  refine WL.bin rfl rfl rfl rfl rfl ?_
  refine WL.set 31 (v' := .bool false) rfl rfl ?_
  refine WL.move rfl rfl rfl (WL.move rfl rfl rfl (WL.move rfl rfl rfl (WL.bin rfl rfl rfl rfl rfl ?_)))
  refine WL.set 35 (v' := .bool false) rfl (congrArg Value.bool (show (decide (((q : Nat) : Int) < 0)) = false from decide_eq_false (show ¬ (((q : Nat) : Int) < 0) from by omega))) ?_
  refine WL.pick (v := .bool false) rfl rfl rfl rfl rfl rfl (WL.nil (N.seq (W.condF rfl (W.skip (N.seq (W.region (WL.move rfl rfl rfl (WL.move rfl rfl rfl (WL.move rfl rfl rfl ?_)))))))))
  refine WL.move rfl rfl rfl ?_
  obtain ⟨z, hz⟩ : ∃ z, l[q]? = some z := ⟨_, List.getElem?_eq_getElem (by omega)⟩
  have hzl := (List.getElem?_eq_some_iff.1 hz)
  refine WL.indexStr (v := ((z.toNat : Nat) : Int)) Try.underlying9 rfl rfl rfl rfl (by omega) (by show ((q : Nat) : Int) < ((l.toArray.size : Nat) : Int); simp; omega) (congrArg (fun n : UInt8 => ((n.toNat : Nat) : Int)) (by obtain ⟨h1, h2⟩ := hzl; exact h2)) ?_
  have hfs := fillD_size hD (show q ≤ l.length by omega) hl
  refine WL.callF (vs := [vo, .int .u64 ((q : Nat) : Int), .int .u8 ((z.toNat : Nat) : Int)]) Try.func20 (by kernel_rfl) rfl rfl rfl ((by have h := put_ret (fillD D l q) hfs q (by omega) z _ (ro := R2) (w := w4) (fun b hb => (hS.snap b hb).1) (hvo.keep hS.alike fun _ _ q => q); rw [fillD_next hD hz hl] at h; exact h)) ?_
  rintro vn w5 ⟨hvn, hbl⟩
  have hal6 := hS.alikeTo hbl (ro' := (roFrom R2 w4 w5)) (fun b hb => .inl hb)
  replace hsub : ∀ b, (roFrom R2 w4 w5) b → ro b ∨ w.heap.size ≤ b := fun b hb => hb.elim (hsub b) (fun h => .inr (Nat.le_trans hS.below.size h.1))
  replace halL0 := halL0.trans hal6
  replace hx := SlV.keep hx hal6 (fun _ _ h => h)
  replace hvo := SlV.keep hvo hal6 (fun _ _ h => h)
  replace hS := hS.readNew hbl
  replace hvn := SlV.keep hvn (ro' := (roFrom R2 w4 w5)) (w' := w5) (Q' := PgC) (fun x hx => ⟨.inr hx, rfl⟩) (fun _ _ h => h)
  have hvo2 := hvn
  refine WL.assign rfl rfl rfl (WL.nil (N.blk (N.seq (W.region (WL.move rfl rfl rfl ?_)))))
  refine WL.add (c := (q : Int) + 1) rfl rfl rfl rfl (rfl) (by omega) ?_
  refine WL.assign rfl rfl rfl (WL.nil ?_)
  exact N.loop (q + 1, vn, (roFrom R2 w4 w5), w5) ⟨rfl, rfl, rfl, rfl, rfl, trivial⟩ ⟨hS, by omega, hvo2, halL0, hsub⟩ (by first | omega | (simp only; omega))
 have hc3p : ¬ ((q : Int) < ((l.length : Nat) : Int)) := by simpa using hc3
 refine W.exit (X.seq (X.loop (X.blk (N.seq (W.seq (W.region (WL.move rfl rfl rfl (WL.assign rfl rfl rfl (WL.assign rfl rfl rfl ?_)))))))))
 refine WL.nil (N.seq ?_)
 refine Fin.ret2 rfl (v := vo) (v' := .int .i64 0) rfl rfl ?_
 have hfin : Alike R2 ws2 (roFrom ro w w2) w2 := fun b hb => ⟨(hsub b hb).elim .inl (fun h => .inr ⟨h, (hS.snap b hb).1⟩), (hS.snap b hb).2⟩
 have hqe : q = l.length := by omega
 subst hqe
 exact ⟨_, rfl, hvo.keep hfin fun _ _ q => q, hS.below⟩

end Go.Proofs.Ytcmmhfknkldmcaa
