/-
  Contracts of the document's machine, for the instructions of a number. No condition beyond those that each theorem states.
-/
import Derived.Test.YtcmmhfknkldmcaaZ1
import Derived.Test.YtcmmhfknkldmcaaM1
namespace Go.Proofs.Ytcmmhfknkldmcaa
open Go.RowKit

theorem wrapN32 {z : Int} {x : Nat} (e : z = (x : Int)) (h : x < 4294967296) : IntKind.u32.wrap z = (x : Int) := by
  subst e; unfold IntKind.wrap; simp only [IntKind.signed, IntKind.bits]
  have : (x : Int) % 2 ^ 32 = x := Int.emod_eq_of_lt (by omega) (by simp; omega)
  simpa using this
theorem wrapN64 {z : Int} {x : Nat} (e : z = (x : Int)) (h : x < 18446744073709551616) : IntKind.u64.wrap z = (x : Int) := by
  subst e; unfold IntKind.wrap; simp only [IntKind.signed, IntKind.bits]
  have : (x : Int) % 2 ^ 64 = x := Int.emod_eq_of_lt (by omega) (by simp; omega)
  simpa using this
theorem wrapN8 {z : Int} {x : Nat} (e : z = (x : Int)) (h : x < 256) : IntKind.u8.wrap z = (x : Int) := by
  subst e; unfold IntKind.wrap; simp only [IntKind.signed, IntKind.bits]
  have : (x : Int) % 2 ^ 8 = x := Int.emod_eq_of_lt (by omega) (by simp; omega)
  simpa using this
theorem wrapNi {z : Int} {x : Nat} (e : z = (x : Int)) (h : x < 9223372036854775808) : IntKind.i64.wrap z = (x : Int) := by
  subst e; exact wrap64 (by omega)
theorem pow2_lt {j m : Nat} (h : j ≤ m) : 2 ^ j ≤ 2 ^ m := Nat.pow_le_pow_right (by decide) h

set_option maxRecDepth 10000 in
set_option maxHeartbeats 4000000 in
theorem formR_ret (k : Nat) (hk : 1 ≤ k ∧ k ≤ 11) {w : World} {ro : Nat → Prop} (hro : ∀ b, ro b → b < w.heap.size) : Ret Try.prog 27 #[.int .i64 (k : Int)] w fun v w' => v = .int .u8 82 ∧ Below w.heap.size w w' := by
 refine Ret.enter (P := Try.prog) (n := 45) (args := [.int .i64 (k : Int)]) (σ := [(0, .int .i64 (k : Int))]) Try.func27 rfl rfl rfl rfl ?_
 have hS := St.start (ro := ro) hro
 refine W.seq (W.region (WL.assign rfl rfl rfl (WL.nil (N.seq (W.seq (W.seq (W.region (WL.move rfl rfl rfl (WL.bin rfl rfl rfl rfl rfl ?_)))))))))
 refine WL.set 4 (v' := .bool true) rfl (congrArg Value.bool (show (decide (1 ≤ (k : Int))) = true from decide_eq_true (show 1 ≤ (k : Int) from by omega))) ?_
 refine WL.move rfl rfl rfl (WL.move rfl rfl rfl (WL.bin rfl rfl rfl rfl rfl ?_))
 refine WL.set 7 (v' := .bool true) rfl (congrArg Value.bool (show (decide ((k : Int) ≤ 11)) = true from decide_eq_true (show (k : Int) ≤ 11 from by omega))) ?_
 refine WL.pick (v := .bool true) rfl rfl rfl rfl rfl rfl (WL.nil (N.seq (W.condT rfl (W.seq (W.region (WL.assign rfl rfl rfl (WL.nil (N.seq ?_))))))))
 refine Fin.ret1 rfl (v := .int .u8 82) rfl ?_
 exact ⟨rfl, hS.below⟩

set_option maxRecDepth 10000 in
set_option maxHeartbeats 4000000 in
theorem formI_ret (k : Nat) (hk : 12 ≤ k ∧ k ≤ 16) {w : World} {ro : Nat → Prop} (hro : ∀ b, ro b → b < w.heap.size) : Ret Try.prog 27 #[.int .i64 (k : Int)] w fun v w' => v = .int .u8 73 ∧ Below w.heap.size w w' := by
 refine Ret.enter (P := Try.prog) (n := 45) (args := [.int .i64 (k : Int)]) (σ := [(0, .int .i64 (k : Int))]) Try.func27 rfl rfl rfl rfl ?_
 have hS := St.start (ro := ro) hro
 refine W.seq (W.region (WL.assign rfl rfl rfl (WL.nil (N.seq (W.seq (W.seq (W.region (WL.move rfl rfl rfl (WL.bin rfl rfl rfl rfl rfl ?_)))))))))
 refine WL.set 4 (v' := .bool true) rfl (congrArg Value.bool (show (decide (1 ≤ (k : Int))) = true from decide_eq_true (show 1 ≤ (k : Int) from by omega))) ?_
 refine WL.move rfl rfl rfl (WL.move rfl rfl rfl (WL.bin rfl rfl rfl rfl rfl ?_))
 refine WL.set 7 (v' := .bool false) rfl (congrArg Value.bool (show (decide ((k : Int) ≤ 11)) = false from decide_eq_false (show ¬ ((k : Int) ≤ 11) from by omega))) ?_
 refine WL.pick (v := .bool false) rfl rfl rfl rfl rfl rfl (WL.nil (N.seq (W.condF rfl (W.skip (N.seq (W.seq (W.seq (W.region (WL.move rfl rfl rfl ?_)))))))))
 refine WL.bin rfl rfl rfl rfl rfl ?_
 refine WL.set 10 (v' := .bool false) rfl (congrArg Value.bool (show (decide ((k : Int) = 17)) = false from decide_eq_false (show ¬ ((k : Int) = 17) from by omega))) ?_
 refine WL.move rfl rfl rfl (WL.move rfl rfl rfl (WL.bin rfl rfl rfl rfl rfl ?_))
 refine WL.set 13 (v' := .bool false) rfl (congrArg Value.bool (show (decide ((k : Int) = 18)) = false from decide_eq_false (show ¬ ((k : Int) = 18) from by omega))) ?_
 refine WL.pick (v := .bool false) rfl rfl rfl rfl rfl rfl (WL.nil (N.seq (W.condF rfl (W.skip (N.seq (W.seq (W.seq (W.region (WL.move rfl rfl rfl ?_)))))))))
 refine WL.bin rfl rfl rfl rfl rfl ?_
 refine WL.set 16 (v' := .bool true) rfl (congrArg Value.bool (show (decide (12 ≤ (k : Int))) = true from decide_eq_true (show 12 ≤ (k : Int) from by omega))) ?_
 refine WL.move rfl rfl rfl (WL.move rfl rfl rfl (WL.bin rfl rfl rfl rfl rfl ?_))
 refine WL.set 19 (v' := .bool true) rfl (congrArg Value.bool (show (decide ((k : Int) ≤ 20)) = true from decide_eq_true (show (k : Int) ≤ 20 from by omega))) ?_
 refine WL.pick (v := .bool true) rfl rfl rfl rfl rfl rfl (WL.move rfl rfl rfl (WL.skp rfl rfl (WL.skp rfl rfl (WL.pick (v := .bool true) rfl rfl rfl rfl rfl rfl (WL.nil (N.seq (W.condT rfl (W.seq (W.region ?_)))))))))
 refine WL.assign rfl rfl rfl (WL.nil (N.seq ?_))
 refine Fin.ret1 rfl (v := .int .u8 73) rfl ?_
 exact ⟨rfl, hS.below⟩

set_option maxRecDepth 10000 in
set_option maxHeartbeats 4000000 in
theorem formH_ret  {w : World} {ro : Nat → Prop} (hro : ∀ b, ro b → b < w.heap.size) : Ret Try.prog 27 #[.int .i64 17] w fun v w' => v = .int .u8 72 ∧ Below w.heap.size w w' := by
 refine Ret.enter (P := Try.prog) (n := 45) (args := [.int .i64 17]) (σ := [(0, .int .i64 17)]) Try.func27 rfl rfl rfl rfl ?_
 have hS := St.start (ro := ro) hro
 refine W.seq (W.region (WL.assign rfl rfl rfl (WL.nil (N.seq (W.seq (W.seq (W.region (WL.move rfl rfl rfl (WL.bin rfl rfl rfl rfl rfl ?_)))))))))
 refine WL.set 4 (v' := .bool true) rfl rfl ?_
 refine WL.move rfl rfl rfl (WL.move rfl rfl rfl (WL.bin rfl rfl rfl rfl rfl ?_))
 refine WL.set 7 (v' := .bool false) rfl rfl ?_
 refine WL.pick (v := .bool false) rfl rfl rfl rfl rfl rfl (WL.nil (N.seq (W.condF rfl (W.skip (N.seq (W.seq (W.seq (W.region (WL.move rfl rfl rfl ?_)))))))))
 refine WL.bin rfl rfl rfl rfl rfl ?_
 refine WL.set 10 (v' := .bool true) rfl rfl ?_
 refine WL.move rfl rfl rfl (WL.skp rfl rfl (WL.skp rfl rfl (WL.pick (v := .bool true) rfl rfl rfl rfl rfl rfl (WL.nil (N.seq (W.condT rfl (W.seq (W.region (WL.assign rfl rfl rfl ?_)))))))))
 refine WL.nil (N.seq ?_)
 refine Fin.ret1 rfl (v := .int .u8 72) rfl ?_
 exact ⟨rfl, hS.below⟩

theorem reg_ret (n : Nat) (h : n ≤ 31) {w : World} {ro : Nat → Prop} (hro : ∀ b, ro b → b < w.heap.size) : Ret Try.prog 41 #[.int .i64 (n : Int)] w fun v w' => v = .bool true ∧ Below w.heap.size w w' := by
 refine Ret.enter (P := Try.prog) (n := 9) (args := [.int .i64 (n : Int)]) (σ := [(0, .int .i64 (n : Int))]) Try.func41 rfl rfl rfl rfl ?_
 have hS := St.start (ro := ro) hro
 refine W.seq (W.region (WL.assign rfl rfl rfl (WL.nil (N.seq (W.seq (W.region (WL.move rfl rfl rfl (WL.bin rfl rfl rfl rfl rfl ?_))))))))
 refine WL.set 4 (v' := .bool true) rfl (congrArg Value.bool (show (decide (0 ≤ (n : Int))) = true from decide_eq_true (show 0 ≤ (n : Int) from by omega))) ?_
 refine WL.move rfl rfl rfl (WL.move rfl rfl rfl (WL.bin rfl rfl rfl rfl rfl ?_))
 refine WL.set 7 (v' := .bool true) rfl (congrArg Value.bool (show (decide ((n : Int) ≤ 31)) = true from decide_eq_true (show (n : Int) ≤ 31 from by omega))) ?_
 refine WL.pick (v := .bool true) rfl rfl rfl rfl rfl rfl (WL.assign rfl rfl rfl (WL.nil (N.seq ?_)))
 refine Fin.ret1 rfl (v := .bool true) rfl ?_
 exact ⟨rfl, hS.below⟩

set_option maxRecDepth 10000 in
set_option maxHeartbeats 4000000 in
theorem pow32_ret (m : Nat) (hm : m ≤ 31) {w : World} {ro : Nat → Prop} (hro : ∀ b, ro b → b < w.heap.size) : Ret Try.prog 29 #[.int .i64 (m : Int)] w fun v w' => v = .int .u32 ((2 ^ m : Nat) : Int) ∧ Below w.heap.size w w' := by
 refine Ret.enter (P := Try.prog) (n := 12) (args := [.int .i64 (m : Int)]) (σ := [(0, .int .i64 (m : Int))]) Try.func29 rfl rfl rfl rfl ?_
 have hS := St.start (ro := ro) hro
 refine W.seq (W.region (WL.assign rfl rfl rfl (WL.nil (N.seq (W.seq (W.region (WL.assign rfl rfl rfl (WL.nil (N.seq ?_)))))))))
 refine W.seq (W.block ?_)
 refine W.loop (α := Nat) (fun (j : Nat) => [(0, .int .i64 ((m - j : Nat) : Int)), (2, .int .u32 0), (3, .int .u32 ((2 ^ j : Nat) : Int))]) (fun (j : Nat) u => St w w u ro [] [] ∧ j ≤ m) (fun (j : Nat) => m - j) 0 ⟨rfl, rfl, rfl, trivial⟩ ⟨hS, Nat.zero_le _⟩ ?_
 clear hS
 rintro j w1 ⟨hS, hj⟩
 refine W.seq (W.seq (W.region (WL.move rfl rfl rfl (WL.bin rfl rfl rfl rfl rfl (WL.nil (N.seq ?_))))))
 refine W.cond rfl (fun hc2 => ?_) (fun hc2 => ?_)
 ·
  have hc2p : 0 < ((m - j : Nat) : Int) := by simpa using hc2
  refine W.skip (N.seq (W.block (W.seq (W.region (WL.move rfl rfl rfl (WL.move rfl rfl rfl ?_))))))
  have h2 := pow2_lt (show j + 1 ≤ 31 by omega); have h3 : (2 : Nat) ^ (j + 1) = 2 ^ j + 2 ^ j := by rw [Nat.pow_succ]; omega
  refine WL.bin rfl rfl rfl rfl rfl ?_
  refine WL.set 8 (v' := .int .u32 ((2 ^ (j + 1) : Nat) : Int)) rfl (congrArg _ (wrapN32 (by omega) (by omega))) ?_
  refine WL.assign rfl rfl rfl (WL.nil (N.seq (W.region (WL.move rfl rfl rfl ?_))))
  refine WL.sub_ (c := ((m - (j + 1) : Nat) : Int)) rfl rfl rfl rfl (by omega) (by omega) ?_
  refine WL.assign rfl rfl rfl (WL.nil (N.blk ?_))
  exact N.loop (j + 1) ⟨rfl, rfl, rfl, trivial⟩ ⟨hS, by omega⟩ (by first | omega | (simp only; omega))
 have hc2p : ¬ (0 < ((m - j : Nat) : Int)) := by simpa using hc2
 refine W.exit (X.seq (X.loop (X.blk (N.seq (W.seq (W.region (WL.move rfl rfl rfl (WL.assign rfl rfl rfl (WL.nil ?_)))))))))
 refine N.seq ?_
 refine Fin.ret1 rfl (v := .int .u32 ((2 ^ j : Nat) : Int)) rfl ?_
 have e : j = m := by omega
 subst e
 exact ⟨rfl, hS.below⟩

set_option maxRecDepth 10000 in
set_option maxHeartbeats 4000000 in
theorem pow64_ret (m : Nat) (hm : m ≤ 63) {w : World} {ro : Nat → Prop} (hro : ∀ b, ro b → b < w.heap.size) : Ret Try.prog 54 #[.int .u64 (m : Int)] w fun v w' => v = .int .u64 ((2 ^ m : Nat) : Int) ∧ Below w.heap.size w w' := by
 refine Ret.enter (P := Try.prog) (n := 12) (args := [.int .u64 (m : Int)]) (σ := [(0, .int .u64 (m : Int))]) Try.func54 rfl rfl rfl rfl ?_
 have hS := St.start (ro := ro) hro
 refine W.seq (W.region (WL.assign rfl rfl rfl (WL.nil (N.seq (W.seq (W.region (WL.assign rfl rfl rfl (WL.nil (N.seq ?_)))))))))
 refine W.seq (W.block ?_)
 refine W.loop (α := Nat) (fun (j : Nat) => [(0, .int .u64 ((m - j : Nat) : Int)), (2, .int .u64 0), (3, .int .u64 ((2 ^ j : Nat) : Int))]) (fun (j : Nat) u => St w w u ro [] [] ∧ j ≤ m) (fun (j : Nat) => m - j) 0 ⟨rfl, rfl, rfl, trivial⟩ ⟨hS, Nat.zero_le _⟩ ?_
 clear hS
 rintro j w1 ⟨hS, hj⟩
 refine W.seq (W.seq (W.region (WL.move rfl rfl rfl (WL.bin rfl rfl rfl rfl rfl (WL.nil (N.seq ?_))))))
 refine W.cond rfl (fun hc2 => ?_) (fun hc2 => ?_)
 ·
  have hc2p : 0 < ((m - j : Nat) : Int) := by simpa using hc2
  refine W.skip (N.seq (W.block (W.seq (W.region (WL.move rfl rfl rfl (WL.move rfl rfl rfl ?_))))))
  have h2 := pow2_lt (show j + 1 ≤ 63 by omega); have h3 : (2 : Nat) ^ (j + 1) = 2 ^ j + 2 ^ j := by rw [Nat.pow_succ]; omega
  refine WL.bin rfl rfl rfl rfl rfl ?_
  refine WL.set 8 (v' := .int .u64 ((2 ^ (j + 1) : Nat) : Int)) rfl (congrArg _ (wrapN64 (by omega) (by omega))) ?_
  refine WL.assign rfl rfl rfl (WL.nil (N.seq (W.region (WL.move rfl rfl rfl (WL.bin rfl rfl rfl rfl rfl ?_)))))
  refine WL.set 10 (v' := .int .u64 ((m - (j + 1) : Nat) : Int)) rfl (congrArg _ (wrapN64 (by omega) (by omega))) ?_
  refine WL.assign rfl rfl rfl (WL.nil (N.blk ?_))
  exact N.loop (j + 1) ⟨rfl, rfl, rfl, trivial⟩ ⟨hS, by omega⟩ (by first | omega | (simp only; omega))
 have hc2p : ¬ (0 < ((m - j : Nat) : Int)) := by simpa using hc2
 refine W.exit (X.seq (X.loop (X.blk (N.seq (W.seq (W.region (WL.move rfl rfl rfl (WL.assign rfl rfl rfl (WL.nil ?_)))))))))
 refine N.seq ?_
 refine Fin.ret1 rfl (v := .int .u64 ((2 ^ j : Nat) : Int)) rfl ?_
 have e : j = m := by omega
 subst e
 exact ⟨rfl, hS.below⟩

set_option maxRecDepth 10000 in
set_option maxHeartbeats 4000000 in
theorem part_ret (x a b : Nat) (hx : x < 4294967296) (ha : a ≤ 31) (hb : b ≤ 31) {w : World} {ro : Nat → Prop} (hro : ∀ b, ro b → b < w.heap.size) : Ret Try.prog 30 #[.int .u32 (x : Int), .int .i64 (a : Int), .int .i64 (b : Int)] w fun v w' => v = .int .u32 ((x / 2 ^ a % 2 ^ b : Nat) : Int) ∧ Below w.heap.size w w' := by
 refine Ret.enter (P := Try.prog) (n := 14) (args := [.int .u32 (x : Int), .int .i64 (a : Int), .int .i64 (b : Int)]) (σ := [(0, .int .u32 (x : Int)), (1, .int .i64 (a : Int)), (2, .int .i64 (b : Int))]) Try.func30 rfl rfl rfl rfl ?_
 have hS := St.start (ro := ro) hro
 refine W.seq (W.region (WL.assign rfl rfl rfl (WL.nil (N.seq (W.seq ?_)))))
 refine W.drawL (by kernel_rfl) 7 ((.q (.int .u32 (x : Int))) :: (.q (.int .i64 (a : Int))) :: (.q (.int .u32 ((2 ^ a : Nat) : Int))) :: (.q (.int .u32 ((x / 2 ^ a : Nat) : Int))) :: (.q (.int .i64 (b : Int))) :: (.q (.int .u32 ((2 ^ b : Nat) : Int))) :: (.q (.int .u32 ((x / 2 ^ a % 2 ^ b : Nat) : Int))) :: []) (by kernel_rfl) (by kernel_rfl) [(0, .int .u32 (x : Int)), (1, .int .i64 (a : Int)), (2, .int .i64 (b : Int)), (6, .int .u32 0)] ⟨rfl, rfl, rfl, rfl, trivial⟩ (by kernel_rfl) hS ?_ ?_
 ·
  refine And.intro (fun β w hS => ?_) ?_
  ·
   refine WL.sub (σ' := [(0, .int .u32 (x : Int))]) ⟨rfl, trivial⟩ ?_
   refine WL.move rfl rfl rfl ?_
   exact WL.nil (N.cut () ⟨rfl, trivial⟩ (Below.refl _ _))
  refine And.intro (fun β w hS => ?_) ?_
  ·
   refine WL.sub (σ' := [(1, .int .i64 (a : Int))]) ⟨rfl, trivial⟩ ?_
   refine WL.move rfl rfl rfl ?_
   exact WL.nil (N.cut () ⟨rfl, trivial⟩ (Below.refl _ _))
  refine And.intro (fun β w hS => ?_) ?_
  ·
   refine WL.sub (σ' := [(8, .int .i64 (a : Int))]) ⟨rfl, trivial⟩ ?_
   refine WL.callF (vs := [.int .i64 (a : Int)]) Try.func29 (by kernel_rfl) rfl rfl rfl (pow32_ret a ha (ro := ro) (fun b hb => (hS.snap b hb).1)) ?_
   rintro v w3 ⟨rfl, hbl⟩
   replace hS := hS.grow hbl
   exact WL.nil (N.cut () ⟨rfl, trivial⟩ hbl)
  refine And.intro (fun β w hS => ?_) ?_
  ·
   refine WL.sub (σ' := [(7, .int .u32 (x : Int)), (9, .int .u32 ((2 ^ a : Nat) : Int))]) ⟨rfl, rfl, trivial⟩ ?_
   have hp1 := Nat.pow_pos (n := a) (show 0 < 2 by decide)
   refine WL.quoC rfl rfl rfl rfl (Int.natCast_ne_zero.2 (Nat.pos_iff_ne_zero.1 hp1)) ?_
   refine WL.set 10 (v' := .int .u32 ((x / 2 ^ a : Nat) : Int)) rfl (congrArg _ (wrapN32 (by rw [Int.tdiv_eq_ediv_of_nonneg (by omega)]; rfl) (by have := Nat.div_le_self x (2 ^ a); omega))) ?_
   exact WL.nil (N.cut () ⟨rfl, trivial⟩ (Below.refl _ _))
  refine And.intro (fun β w hS => ?_) ?_
  ·
   refine WL.sub (σ' := [(2, .int .i64 (b : Int))]) ⟨rfl, trivial⟩ ?_
   refine WL.move rfl rfl rfl ?_
   exact WL.nil (N.cut () ⟨rfl, trivial⟩ (Below.refl _ _))
  refine And.intro (fun β w hS => ?_) ?_
  ·
   refine WL.sub (σ' := [(11, .int .i64 (b : Int))]) ⟨rfl, trivial⟩ ?_
   refine WL.callF (vs := [.int .i64 (b : Int)]) Try.func29 (by kernel_rfl) rfl rfl rfl (pow32_ret b hb (ro := ro) (fun b hb => (hS.snap b hb).1)) ?_
   rintro v w4 ⟨rfl, hbl⟩
   replace hS := hS.grow hbl
   exact WL.nil (N.cut () ⟨rfl, trivial⟩ hbl)
  refine And.intro (fun β w hS => ?_) ?_
  ·
   refine WL.sub (σ' := [(10, .int .u32 ((x / 2 ^ a : Nat) : Int)), (12, .int .u32 ((2 ^ b : Nat) : Int))]) ⟨rfl, rfl, trivial⟩ ?_
   have hp2 := Nat.pow_pos (n := b) (show 0 < 2 by decide)
   refine WL.remC rfl rfl rfl rfl (Int.natCast_ne_zero.2 (Nat.pos_iff_ne_zero.1 hp2)) ?_
   refine WL.set 13 (v' := .int .u32 ((x / 2 ^ a % 2 ^ b : Nat) : Int)) rfl (congrArg _ (by rw [Int.tmod_eq_emod_of_nonneg (Int.natCast_nonneg _)]; rfl)) ?_
   exact WL.nil (N.cut () ⟨rfl, trivial⟩ (Below.refl _ _))
  trivial
 clear hS; intro w5 β hS
 refine WL.sub (σ' := [(6, .int .u32 0), (13, .int .u32 ((x / 2 ^ a % 2 ^ b : Nat) : Int))]) ⟨rfl, rfl, trivial⟩ ?_
 refine WL.assign rfl rfl rfl (WL.nil (N.seq ?_))
 refine Fin.ret1 rfl (v := .int .u32 ((x / 2 ^ a % 2 ^ b : Nat) : Int)) rfl ?_
 exact ⟨rfl, hS.below⟩

end Go.Proofs.Ytcmmhfknkldmcaa
