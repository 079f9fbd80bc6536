/-
  Contracts of the document's machine, for the instructions of a number. No condition beyond those that each theorem states.
-/
import Derived.Test.YtcmmhfknkldmcaaY1
namespace Go.Proofs.Ytcmmhfknkldmcaa
open Go.RowKit
theorem isz_50 : (Try.prog.info? 50).map (·.size) = some 1 := by kernel_rfl
theorem one_50 : tyOne Try.prog 50 = true := by kernel_rfl
theorem zer_50 : tyZero Try.prog 50 = some [.int .u32 0] := by kernel_rfl
theorem f3_arr {k : Nat} (h : k ≤ 31) : (#[.int .u32 0, .int .u32 0, .int .u32 0, .int .u32 1, .int .u32 3, .int .u32 4, .int .u32 5, .int .u32 6, .int .u32 7, .int .u32 0, .int .u32 5, .int .u32 7, .int .u32 0, .int .u32 3, .int .u32 4, .int .u32 6, .int .u32 7, .int .u32 1, .int .u32 5, .int .u32 3, .int .u32 4, .int .u32 3, .int .u32 0, .int .u32 0, .int .u32 1, .int .u32 6, .int .u32 7, .int .u32 0, .int .u32 0, .int .u32 0, .int .u32 0, .int .u32 0] : Array Value)[0 + k * 1]? = some (.int .u32 ((f3n k : Nat) : Int)) := by
  rw [Nat.mul_one, Nat.zero_add, ← Array.getElem?_toList]
  exact f3_at h

set_option maxRecDepth 10000 in
set_option maxHeartbeats 4000000 in
theorem fixedR_ret (k : Nat) (hk : 1 ≤ k ∧ k ≤ 11) {w : World} {ro : Nat → Prop} (hro : ∀ b, ro b → b < w.heap.size) : Ret Try.prog 28 #[.int .i64 (k : Int)] w fun v w' => v = .int .u32 ((baseN k : Nat) : Int) ∧ Below w.heap.size w w' := by
 refine Ret.enter (P := Try.prog) (n := 59) (args := [.int .i64 (k : Int)]) (σ := [(0, .int .i64 (k : Int))]) Try.func28 rfl rfl rfl rfl ?_
 have hS := St.start (ro := ro) hro
 refine W.seq (W.region (WL.assign rfl rfl rfl (WL.nil (N.seq (W.seq (W.region ?_))))))
 refine WL.buildSlice (ps := [(0, .int .u32 0), (1, .int .u32 0), (2, .int .u32 0), (3, .int .u32 1), (4, .int .u32 3), (5, .int .u32 4), (6, .int .u32 5), (7, .int .u32 6), (8, .int .u32 7), (9, .int .u32 0), (10, .int .u32 5), (11, .int .u32 7), (12, .int .u32 0), (13, .int .u32 3), (14, .int .u32 4), (15, .int .u32 6), (16, .int .u32 7), (17, .int .u32 1), (18, .int .u32 5), (19, .int .u32 3), (20, .int .u32 4), (21, .int .u32 3), (22, .int .u32 0), (23, .int .u32 0), (24, .int .u32 1), (25, .int .u32 6), (26, .int .u32 7), (27, .int .u32 0), (28, .int .u32 0), (29, .int .u32 0), (30, .int .u32 0), (31, .int .u32 0)]) (cs := [.int .u32 0, .int .u32 0, .int .u32 0, .int .u32 1, .int .u32 3, .int .u32 4, .int .u32 5, .int .u32 6, .int .u32 7, .int .u32 0, .int .u32 5, .int .u32 7, .int .u32 0, .int .u32 3, .int .u32 4, .int .u32 6, .int .u32 7, .int .u32 1, .int .u32 5, .int .u32 3, .int .u32 4, .int .u32 3, .int .u32 0, .int .u32 0, .int .u32 1, .int .u32 6, .int .u32 7, .int .u32 0, .int .u32 0, .int .u32 0, .int .u32 0, .int .u32 0]) Try.underlying84 (tyZero_spec zer_50) rfl rfl rfl rfl (by kernel_rfl) hS ?_
 clear hS; intro w2 b1 hb_b1 hS
 refine WL.assign rfl rfl rfl (WL.nil (N.seq (W.seq (W.region (WL.assign rfl rfl rfl (WL.nil (N.seq (W.seq (W.seq ?_)))))))))
 refine W.region (WL.move rfl rfl rfl (WL.bin rfl rfl rfl rfl rfl ?_))
 refine WL.set 8 (v' := .bool false) rfl (congrArg Value.bool (show (decide (12 ≤ (k : Int))) = false from decide_eq_false (show ¬ (12 ≤ (k : Int)) from by omega))) ?_
 refine WL.move rfl rfl rfl (WL.skp rfl rfl (WL.skp rfl rfl (WL.pick (v := .bool false) rfl rfl rfl rfl rfl rfl (WL.nil (N.seq (W.condF rfl (W.skip (N.seq (W.seq ?_)))))))))
 refine W.seq (W.region (WL.move rfl rfl rfl (WL.bin rfl rfl rfl rfl rfl ?_)))
 refine WL.set 14 (v' := .bool false) rfl (congrArg Value.bool (show (decide ((k : Int) = 19)) = false from decide_eq_false (show ¬ ((k : Int) = 19) from by omega))) ?_
 refine WL.move rfl rfl rfl (WL.move rfl rfl rfl (WL.bin rfl rfl rfl rfl rfl ?_))
 refine WL.set 17 (v' := .bool false) rfl (congrArg Value.bool (show (decide ((k : Int) = 20)) = false from decide_eq_false (show ¬ ((k : Int) = 20) from by omega))) ?_
 refine WL.pick (v := .bool false) rfl rfl rfl rfl rfl rfl (WL.nil (N.seq (W.condF rfl (W.skip (N.seq (W.seq (W.seq (W.region (WL.move rfl rfl rfl ?_)))))))))
 refine WL.bin rfl rfl rfl rfl rfl ?_
 refine WL.set 20 (v' := .bool false) rfl (congrArg Value.bool (show (decide ((k : Int) = 21)) = false from decide_eq_false (show ¬ ((k : Int) = 21) from by omega))) ?_
 refine WL.move rfl rfl rfl (WL.move rfl rfl rfl (WL.bin rfl rfl rfl rfl rfl ?_))
 refine WL.set 23 (v' := .bool false) rfl (congrArg Value.bool (show (decide ((k : Int) = 22)) = false from decide_eq_false (show ¬ ((k : Int) = 22) from by omega))) ?_
 refine WL.pick (v := .bool false) rfl rfl rfl rfl rfl rfl (WL.nil (N.seq (W.condF rfl (W.skip (N.seq (W.seq (W.seq (W.region (WL.move rfl rfl rfl ?_)))))))))
 refine WL.bin rfl rfl rfl rfl rfl ?_
 refine WL.set 26 (v' := .bool false) rfl (congrArg Value.bool (show (decide (23 ≤ (k : Int))) = false from decide_eq_false (show ¬ (23 ≤ (k : Int)) from by omega))) ?_
 refine WL.move rfl rfl rfl (WL.skp rfl rfl (WL.skp rfl rfl (WL.pick (v := .bool false) rfl rfl rfl rfl rfl rfl (WL.nil (N.seq (W.condF rfl (W.skip (N.seq (W.seq ?_)))))))))
 refine W.seq (W.region (WL.move rfl rfl rfl (WL.bin rfl rfl rfl rfl rfl ?_)))
 refine WL.set 32 (v' := .bool false) rfl (congrArg Value.bool (show (decide ((k : Int) = 27)) = false from decide_eq_false (show ¬ ((k : Int) = 27) from by omega))) ?_
 refine WL.nil (N.seq (W.condF rfl (W.skip (N.seq (W.seq (W.seq (W.region (WL.move rfl rfl rfl (WL.bin rfl rfl rfl rfl rfl ?_)))))))))
 refine WL.set 34 (v' := .bool false) rfl (congrArg Value.bool (show (decide ((k : Int) = 28)) = false from decide_eq_false (show ¬ ((k : Int) = 28) from by omega))) ?_
 refine WL.nil (N.seq (W.condF rfl (W.skip (N.seq (W.seq (W.seq (W.region (WL.move rfl rfl rfl (WL.bin rfl rfl rfl rfl rfl ?_)))))))))
 refine WL.set 36 (v' := .bool false) rfl (congrArg Value.bool (show (decide ((k : Int) = 29)) = false from decide_eq_false (show ¬ ((k : Int) = 29) from by omega))) ?_
 refine WL.nil (N.seq (W.condF rfl (W.skip (N.seq (W.seq (W.seq (W.region (WL.move rfl rfl rfl (WL.bin rfl rfl rfl rfl rfl ?_)))))))))
 refine WL.set 38 (v' := .bool false) rfl (congrArg Value.bool (show (decide ((k : Int) = 30)) = false from decide_eq_false (show ¬ ((k : Int) = 30) from by omega))) ?_
 refine WL.nil (N.seq (W.condF rfl (W.skip (N.seq (W.seq (W.seq (W.region (WL.move rfl rfl rfl (WL.bin rfl rfl rfl rfl rfl ?_)))))))))
 refine WL.set 40 (v' := .bool false) rfl (congrArg Value.bool (show (decide ((k : Int) = 31)) = false from decide_eq_false (show ¬ ((k : Int) = 31) from by omega))) ?_
 refine WL.nil (N.seq (W.condF rfl (W.skip (N.seq (W.seq (W.region (WL.assign rfl rfl rfl (WL.nil (N.seq ?_)))))))))
 refine W.seq (W.seq (W.region (WL.move rfl rfl rfl (WL.bin rfl rfl rfl rfl rfl (WL.nil (N.seq ?_))))))
 refine W.cond rfl (fun hc3 => ?_) (fun hc3 => ?_)
 ·
  have hc3p : (k : Int) = 2 := by simpa using hc3
  refine W.region (WL.assign rfl rfl rfl (WL.nil (N.seq (W.seq (W.seq (W.region (WL.move rfl rfl rfl (WL.bin rfl rfl rfl rfl rfl (WL.move rfl rfl rfl ?_)))))))))
  rcases (Bool.eq_false_or_eq_true (decide (9 ≤ (k : Int)))).symm with hg4 | hg4
  ·
   refine WL.set 44 (v' := .bool false) rfl (by rw [hg4]) ?_
   refine WL.set 45 (v' := .bool false) rfl (by rw [hg4]) ?_
   have hg4p : ¬ (9 ≤ (k : Int)) := by simpa using hg4
   refine WL.skp rfl rfl (WL.skp rfl rfl (WL.pick (v := .bool false) rfl rfl rfl rfl rfl rfl (WL.nil (N.seq (W.condF rfl (W.skip (N.seq (W.seq (W.region ?_)))))))))
   refine WL.move rfl rfl rfl (WL.move rfl rfl rfl (WL.move rfl rfl rfl ?_))
   refine WL.set 51 (v' := .int .i64 ((k : Nat) : Int)) rfl rfl ?_
   refine WL.indexAddr (j := k) Try.underlying84 isz_50 rfl rfl rfl rfl (by omega) ?_
   have hf3 := f3_le k
   refine WL.load1 (v := .int .u32 ((f3n k : Nat) : Int)) one_50 rfl rfl rfl (hS.cell 0 rfl (f3_arr (k := k) (by omega))) (WL.bin rfl rfl rfl rfl rfl ?_)
   refine WL.set 54 (v' := .int .u32 ((4096 * f3n k : Nat) : Int)) rfl (congrArg _ (wrapN32 (by omega) (by omega))) ?_
   refine WL.bin rfl rfl rfl rfl rfl ?_
   refine WL.set 55 (v' := .int .u32 ((51 + 4096 * f3n k : Nat) : Int)) rfl (congrArg _ (wrapN32 (by omega) (by omega))) ?_
   refine WL.move rfl rfl rfl (WL.bin rfl rfl rfl rfl rfl ?_)
   refine WL.set 57 (v' := .int .u32 ((1073741824 : Nat) : Int)) rfl (congrArg _ (wrapN32 (by omega) (by omega))) ?_
   refine WL.bin rfl rfl rfl rfl rfl ?_
   refine WL.set 58 (v' := .int .u32 ((51 + 4096 * f3n k + 1073741824 : Nat) : Int)) rfl (congrArg _ (wrapN32 (by omega) (by omega))) ?_
   refine WL.assign rfl rfl rfl (WL.nil (N.seq ?_))
   refine Fin.ret1 rfl (v := .int .u32 ((51 + 4096 * f3n k + 1073741824 : Nat) : Int)) rfl ?_
   have e9 : baseN k = 51 + 4096 * f3n k + 1073741824 := by unfold baseN; (repeat' split) <;> omega
   rw [e9]
   exact ⟨rfl, hS.below⟩
  refine WL.set 44 (v' := .bool true) rfl (by rw [hg4]) ?_
  refine WL.set 45 (v' := .bool true) rfl (by rw [hg4]) ?_
  have hg4p : 9 ≤ (k : Int) := by simpa using hg4
  refine WL.move rfl rfl rfl (WL.bin rfl rfl rfl rfl rfl ?_)
  refine WL.set 47 (v' := .bool true) rfl (congrArg Value.bool (show (decide ((k : Int) ≤ 11)) = true from decide_eq_true (show (k : Int) ≤ 11 from by omega))) ?_
  refine WL.pick (v := .bool true) rfl rfl rfl rfl rfl rfl (WL.nil (N.seq (W.condT rfl (W.region (WL.assign rfl rfl rfl (WL.nil (N.seq (W.seq (W.region ?_)))))))))
  refine WL.move rfl rfl rfl (WL.move rfl rfl rfl (WL.move rfl rfl rfl ?_))
  refine WL.set 51 (v' := .int .i64 ((k : Nat) : Int)) rfl rfl ?_
  refine WL.indexAddr (j := k) Try.underlying84 isz_50 rfl rfl rfl rfl (by omega) ?_
  have hf3 := f3_le k
  refine WL.load1 (v := .int .u32 ((f3n k : Nat) : Int)) one_50 rfl rfl rfl (hS.cell 0 rfl (f3_arr (k := k) (by omega))) (WL.bin rfl rfl rfl rfl rfl ?_)
  refine WL.set 54 (v' := .int .u32 ((4096 * f3n k : Nat) : Int)) rfl (congrArg _ (wrapN32 (by omega) (by omega))) ?_
  refine WL.bin rfl rfl rfl rfl rfl ?_
  refine WL.set 55 (v' := .int .u32 ((51 + 4096 * f3n k : Nat) : Int)) rfl (congrArg _ (wrapN32 (by omega) (by omega))) ?_
  refine WL.move rfl rfl rfl (WL.bin rfl rfl rfl rfl rfl ?_)
  refine WL.set 57 (v' := .int .u32 ((33554432 : Nat) : Int)) rfl (congrArg _ (wrapN32 (by omega) (by omega))) ?_
  refine WL.bin rfl rfl rfl rfl rfl ?_
  refine WL.set 58 (v' := .int .u32 ((51 + 4096 * f3n k + 33554432 : Nat) : Int)) rfl (congrArg _ (wrapN32 (by omega) (by omega))) ?_
  refine WL.assign rfl rfl rfl (WL.nil (N.seq ?_))
  refine Fin.ret1 rfl (v := .int .u32 ((51 + 4096 * f3n k + 33554432 : Nat) : Int)) rfl ?_
  have e9 : baseN k = 51 + 4096 * f3n k + 33554432 := by unfold baseN; (repeat' split) <;> omega
  rw [e9]
  exact ⟨rfl, hS.below⟩
 have hc3p : ¬ ((k : Int) = 2) := by simpa using hc3
 refine W.skip (N.seq (W.seq (W.seq (W.region (WL.move rfl rfl rfl (WL.bin rfl rfl rfl rfl rfl (WL.move rfl rfl rfl ?_)))))))
 rcases (Bool.eq_false_or_eq_true (decide (9 ≤ (k : Int)))).symm with hg5 | hg5
 ·
  refine WL.set 44 (v' := .bool false) rfl (by rw [hg5]) ?_
  refine WL.set 45 (v' := .bool false) rfl (by rw [hg5]) ?_
  have hg5p : ¬ (9 ≤ (k : Int)) := by simpa using hg5
  refine WL.skp rfl rfl (WL.skp rfl rfl (WL.pick (v := .bool false) rfl rfl rfl rfl rfl rfl (WL.nil (N.seq (W.condF rfl (W.skip (N.seq (W.seq (W.region ?_)))))))))
  refine WL.move rfl rfl rfl (WL.move rfl rfl rfl (WL.move rfl rfl rfl ?_))
  refine WL.set 51 (v' := .int .i64 ((k : Nat) : Int)) rfl rfl ?_
  refine WL.indexAddr (j := k) Try.underlying84 isz_50 rfl rfl rfl rfl (by omega) ?_
  have hf3 := f3_le k
  refine WL.load1 (v := .int .u32 ((f3n k : Nat) : Int)) one_50 rfl rfl rfl (hS.cell 0 rfl (f3_arr (k := k) (by omega))) (WL.bin rfl rfl rfl rfl rfl ?_)
  refine WL.set 54 (v' := .int .u32 ((4096 * f3n k : Nat) : Int)) rfl (congrArg _ (wrapN32 (by omega) (by omega))) ?_
  refine WL.bin rfl rfl rfl rfl rfl ?_
  refine WL.set 55 (v' := .int .u32 ((51 + 4096 * f3n k : Nat) : Int)) rfl (congrArg _ (wrapN32 (by omega) (by omega))) ?_
  refine WL.move rfl rfl rfl (WL.bin rfl rfl rfl rfl rfl ?_)
  refine WL.set 57 (v' := .int .u32 ((0 : Nat) : Int)) rfl (congrArg _ (wrapN32 (by omega) (by omega))) ?_
  refine WL.bin rfl rfl rfl rfl rfl ?_
  refine WL.set 58 (v' := .int .u32 ((51 + 4096 * f3n k + 0 : Nat) : Int)) rfl (congrArg _ (wrapN32 (by omega) (by omega))) ?_
  refine WL.assign rfl rfl rfl (WL.nil (N.seq ?_))
  refine Fin.ret1 rfl (v := .int .u32 ((51 + 4096 * f3n k + 0 : Nat) : Int)) rfl ?_
  have e9 : baseN k = 51 + 4096 * f3n k + 0 := by unfold baseN; (repeat' split) <;> omega
  rw [e9]
  exact ⟨rfl, hS.below⟩
 refine WL.set 44 (v' := .bool true) rfl (by rw [hg5]) ?_
 refine WL.set 45 (v' := .bool true) rfl (by rw [hg5]) ?_
 have hg5p : 9 ≤ (k : Int) := by simpa using hg5
 refine WL.move rfl rfl rfl (WL.bin rfl rfl rfl rfl rfl ?_)
 refine WL.set 47 (v' := .bool true) rfl (congrArg Value.bool (show (decide ((k : Int) ≤ 11)) = true from decide_eq_true (show (k : Int) ≤ 11 from by omega))) ?_
 refine WL.pick (v := .bool true) rfl rfl rfl rfl rfl rfl (WL.nil (N.seq (W.condT rfl (W.region (WL.assign rfl rfl rfl (WL.nil (N.seq (W.seq (W.region ?_)))))))))
 refine WL.move rfl rfl rfl (WL.move rfl rfl rfl (WL.move rfl rfl rfl ?_))
 refine WL.set 51 (v' := .int .i64 ((k : Nat) : Int)) rfl rfl ?_
 refine WL.indexAddr (j := k) Try.underlying84 isz_50 rfl rfl rfl rfl (by omega) ?_
 have hf3 := f3_le k
 refine WL.load1 (v := .int .u32 ((f3n k : Nat) : Int)) one_50 rfl rfl rfl (hS.cell 0 rfl (f3_arr (k := k) (by omega))) (WL.bin rfl rfl rfl rfl rfl ?_)
 refine WL.set 54 (v' := .int .u32 ((4096 * f3n k : Nat) : Int)) rfl (congrArg _ (wrapN32 (by omega) (by omega))) ?_
 refine WL.bin rfl rfl rfl rfl rfl ?_
 refine WL.set 55 (v' := .int .u32 ((51 + 4096 * f3n k : Nat) : Int)) rfl (congrArg _ (wrapN32 (by omega) (by omega))) ?_
 refine WL.move rfl rfl rfl (WL.bin rfl rfl rfl rfl rfl ?_)
 refine WL.set 57 (v' := .int .u32 ((33554432 : Nat) : Int)) rfl (congrArg _ (wrapN32 (by omega) (by omega))) ?_
 refine WL.bin rfl rfl rfl rfl rfl ?_
 refine WL.set 58 (v' := .int .u32 ((51 + 4096 * f3n k + 33554432 : Nat) : Int)) rfl (congrArg _ (wrapN32 (by omega) (by omega))) ?_
 refine WL.assign rfl rfl rfl (WL.nil (N.seq ?_))
 refine Fin.ret1 rfl (v := .int .u32 ((51 + 4096 * f3n k + 33554432 : Nat) : Int)) rfl ?_
 have e9 : baseN k = 51 + 4096 * f3n k + 33554432 := by unfold baseN; (repeat' split) <;> omega
 rw [e9]
 exact ⟨rfl, hS.below⟩

set_option maxRecDepth 10000 in
set_option maxHeartbeats 4000000 in
theorem fixedI_ret (k : Nat) (hk : 12 ≤ k ∧ k ≤ 16) {w : World} {ro : Nat → Prop} (hro : ∀ b, ro b → b < w.heap.size) : Ret Try.prog 28 #[.int .i64 (k : Int)] w fun v w' => v = .int .u32 ((baseN k : Nat) : Int) ∧ Below w.heap.size w w' := by
 refine Ret.enter (P := Try.prog) (n := 59) (args := [.int .i64 (k : Int)]) (σ := [(0, .int .i64 (k : Int))]) Try.func28 rfl rfl rfl rfl ?_
 have hS := St.start (ro := ro) hro
 refine W.seq (W.region (WL.assign rfl rfl rfl (WL.nil (N.seq (W.seq (W.region ?_))))))
 refine WL.buildSlice (ps := [(0, .int .u32 0), (1, .int .u32 0), (2, .int .u32 0), (3, .int .u32 1), (4, .int .u32 3), (5, .int .u32 4), (6, .int .u32 5), (7, .int .u32 6), (8, .int .u32 7), (9, .int .u32 0), (10, .int .u32 5), (11, .int .u32 7), (12, .int .u32 0), (13, .int .u32 3), (14, .int .u32 4), (15, .int .u32 6), (16, .int .u32 7), (17, .int .u32 1), (18, .int .u32 5), (19, .int .u32 3), (20, .int .u32 4), (21, .int .u32 3), (22, .int .u32 0), (23, .int .u32 0), (24, .int .u32 1), (25, .int .u32 6), (26, .int .u32 7), (27, .int .u32 0), (28, .int .u32 0), (29, .int .u32 0), (30, .int .u32 0), (31, .int .u32 0)]) (cs := [.int .u32 0, .int .u32 0, .int .u32 0, .int .u32 1, .int .u32 3, .int .u32 4, .int .u32 5, .int .u32 6, .int .u32 7, .int .u32 0, .int .u32 5, .int .u32 7, .int .u32 0, .int .u32 3, .int .u32 4, .int .u32 6, .int .u32 7, .int .u32 1, .int .u32 5, .int .u32 3, .int .u32 4, .int .u32 3, .int .u32 0, .int .u32 0, .int .u32 1, .int .u32 6, .int .u32 7, .int .u32 0, .int .u32 0, .int .u32 0, .int .u32 0, .int .u32 0]) Try.underlying84 (tyZero_spec zer_50) rfl rfl rfl rfl (by kernel_rfl) hS ?_
 clear hS; intro w2 b1 hb_b1 hS
 refine WL.assign rfl rfl rfl (WL.nil (N.seq (W.seq (W.region (WL.assign rfl rfl rfl (WL.nil (N.seq (W.seq (W.seq ?_)))))))))
 refine W.region (WL.move rfl rfl rfl (WL.bin rfl rfl rfl rfl rfl ?_))
 refine WL.set 8 (v' := .bool true) rfl (congrArg Value.bool (show (decide (12 ≤ (k : Int))) = true from decide_eq_true (show 12 ≤ (k : Int) from by omega))) ?_
 refine WL.move rfl rfl rfl (WL.move rfl rfl rfl (WL.bin rfl rfl rfl rfl rfl ?_))
 refine WL.set 11 (v' := .bool true) rfl (congrArg Value.bool (show (decide ((k : Int) ≤ 18)) = true from decide_eq_true (show (k : Int) ≤ 18 from by omega))) ?_
 refine WL.pick (v := .bool true) rfl rfl rfl rfl rfl rfl (WL.nil (N.seq (W.condT rfl (W.region (WL.assign rfl rfl rfl (WL.nil (N.seq (W.seq (W.seq ?_)))))))))
 refine W.region (WL.move rfl rfl rfl (WL.bin rfl rfl rfl rfl rfl ?_))
 refine WL.set 14 (v' := .bool false) rfl (congrArg Value.bool (show (decide ((k : Int) = 19)) = false from decide_eq_false (show ¬ ((k : Int) = 19) from by omega))) ?_
 refine WL.move rfl rfl rfl (WL.move rfl rfl rfl (WL.bin rfl rfl rfl rfl rfl ?_))
 refine WL.set 17 (v' := .bool false) rfl (congrArg Value.bool (show (decide ((k : Int) = 20)) = false from decide_eq_false (show ¬ ((k : Int) = 20) from by omega))) ?_
 refine WL.pick (v := .bool false) rfl rfl rfl rfl rfl rfl (WL.nil (N.seq (W.condF rfl (W.skip (N.seq (W.seq (W.seq (W.region (WL.move rfl rfl rfl ?_)))))))))
 refine WL.bin rfl rfl rfl rfl rfl ?_
 refine WL.set 20 (v' := .bool false) rfl (congrArg Value.bool (show (decide ((k : Int) = 21)) = false from decide_eq_false (show ¬ ((k : Int) = 21) from by omega))) ?_
 refine WL.move rfl rfl rfl (WL.move rfl rfl rfl (WL.bin rfl rfl rfl rfl rfl ?_))
 refine WL.set 23 (v' := .bool false) rfl (congrArg Value.bool (show (decide ((k : Int) = 22)) = false from decide_eq_false (show ¬ ((k : Int) = 22) from by omega))) ?_
 refine WL.pick (v := .bool false) rfl rfl rfl rfl rfl rfl (WL.nil (N.seq (W.condF rfl (W.skip (N.seq (W.seq (W.seq (W.region (WL.move rfl rfl rfl ?_)))))))))
 refine WL.bin rfl rfl rfl rfl rfl ?_
 refine WL.set 26 (v' := .bool false) rfl (congrArg Value.bool (show (decide (23 ≤ (k : Int))) = false from decide_eq_false (show ¬ (23 ≤ (k : Int)) from by omega))) ?_
 refine WL.move rfl rfl rfl (WL.skp rfl rfl (WL.skp rfl rfl (WL.pick (v := .bool false) rfl rfl rfl rfl rfl rfl (WL.nil (N.seq (W.condF rfl (W.skip (N.seq (W.seq ?_)))))))))
 refine W.seq (W.region (WL.move rfl rfl rfl (WL.bin rfl rfl rfl rfl rfl ?_)))
 refine WL.set 32 (v' := .bool false) rfl (congrArg Value.bool (show (decide ((k : Int) = 27)) = false from decide_eq_false (show ¬ ((k : Int) = 27) from by omega))) ?_
 refine WL.nil (N.seq (W.condF rfl (W.skip (N.seq (W.seq (W.seq (W.region (WL.move rfl rfl rfl (WL.bin rfl rfl rfl rfl rfl ?_)))))))))
 refine WL.set 34 (v' := .bool false) rfl (congrArg Value.bool (show (decide ((k : Int) = 28)) = false from decide_eq_false (show ¬ ((k : Int) = 28) from by omega))) ?_
 refine WL.nil (N.seq (W.condF rfl (W.skip (N.seq (W.seq (W.seq (W.region (WL.move rfl rfl rfl (WL.bin rfl rfl rfl rfl rfl ?_)))))))))
 refine WL.set 36 (v' := .bool false) rfl (congrArg Value.bool (show (decide ((k : Int) = 29)) = false from decide_eq_false (show ¬ ((k : Int) = 29) from by omega))) ?_
 refine WL.nil (N.seq (W.condF rfl (W.skip (N.seq (W.seq (W.seq (W.region (WL.move rfl rfl rfl (WL.bin rfl rfl rfl rfl rfl ?_)))))))))
 refine WL.set 38 (v' := .bool false) rfl (congrArg Value.bool (show (decide ((k : Int) = 30)) = false from decide_eq_false (show ¬ ((k : Int) = 30) from by omega))) ?_
 refine WL.nil (N.seq (W.condF rfl (W.skip (N.seq (W.seq (W.seq (W.region (WL.move rfl rfl rfl (WL.bin rfl rfl rfl rfl rfl ?_)))))))))
 refine WL.set 40 (v' := .bool false) rfl (congrArg Value.bool (show (decide ((k : Int) = 31)) = false from decide_eq_false (show ¬ ((k : Int) = 31) from by omega))) ?_
 refine WL.nil (N.seq (W.condF rfl (W.skip (N.seq (W.seq (W.region (WL.assign rfl rfl rfl (WL.nil (N.seq ?_)))))))))
 refine W.seq (W.seq (W.region (WL.move rfl rfl rfl (WL.bin rfl rfl rfl rfl rfl ?_))))
 refine WL.set 42 (v' := .bool false) rfl (congrArg Value.bool (show (decide ((k : Int) = 2)) = false from decide_eq_false (show ¬ ((k : Int) = 2) from by omega))) ?_
 refine WL.nil (N.seq (W.condF rfl (W.skip (N.seq (W.seq (W.seq (W.region (WL.move rfl rfl rfl (WL.bin rfl rfl rfl rfl rfl ?_)))))))))
 refine WL.set 44 (v' := .bool true) rfl (congrArg Value.bool (show (decide (9 ≤ (k : Int))) = true from decide_eq_true (show 9 ≤ (k : Int) from by omega))) ?_
 refine WL.move rfl rfl rfl (WL.move rfl rfl rfl (WL.bin rfl rfl rfl rfl rfl ?_))
 refine WL.set 47 (v' := .bool false) rfl (congrArg Value.bool (show (decide ((k : Int) ≤ 11)) = false from decide_eq_false (show ¬ ((k : Int) ≤ 11) from by omega))) ?_
 refine WL.pick (v := .bool false) rfl rfl rfl rfl rfl rfl (WL.nil (N.seq (W.condF rfl (W.skip (N.seq (W.seq (W.region (WL.move rfl rfl rfl (WL.move rfl rfl rfl ?_)))))))))
 refine WL.move rfl rfl rfl ?_
 refine WL.set 51 (v' := .int .i64 ((k : Nat) : Int)) rfl rfl ?_
 refine WL.indexAddr (j := k) Try.underlying84 isz_50 rfl rfl rfl rfl (by omega) ?_
 have hf3 := f3_le k
 refine WL.load1 (v := .int .u32 ((f3n k : Nat) : Int)) one_50 rfl rfl rfl (hS.cell 0 rfl (f3_arr (k := k) (by omega))) (WL.bin rfl rfl rfl rfl rfl ?_)
 refine WL.set 54 (v' := .int .u32 ((4096 * f3n k : Nat) : Int)) rfl (congrArg _ (wrapN32 (by omega) (by omega))) ?_
 refine WL.bin rfl rfl rfl rfl rfl ?_
 refine WL.set 55 (v' := .int .u32 ((19 + 4096 * f3n k : Nat) : Int)) rfl (congrArg _ (wrapN32 (by omega) (by omega))) ?_
 refine WL.move rfl rfl rfl (WL.bin rfl rfl rfl rfl rfl ?_)
 refine WL.set 57 (v' := .int .u32 ((0 : Nat) : Int)) rfl (congrArg _ (wrapN32 (by omega) (by omega))) ?_
 refine WL.bin rfl rfl rfl rfl rfl ?_
 refine WL.set 58 (v' := .int .u32 ((19 + 4096 * f3n k + 0 : Nat) : Int)) rfl (congrArg _ (wrapN32 (by omega) (by omega))) ?_
 refine WL.assign rfl rfl rfl (WL.nil (N.seq ?_))
 refine Fin.ret1 rfl (v := .int .u32 ((19 + 4096 * f3n k + 0 : Nat) : Int)) rfl ?_
 have e9 : baseN k = 19 + 4096 * f3n k + 0 := by unfold baseN; (repeat' split) <;> omega
 rw [e9]
 exact ⟨rfl, hS.below⟩

set_option maxRecDepth 10000 in
set_option maxHeartbeats 4000000 in
theorem fixedH_ret  {w : World} {ro : Nat → Prop} (hro : ∀ b, ro b → b < w.heap.size) : Ret Try.prog 28 #[.int .i64 17] w fun v w' => v = .int .u32 ((baseN 17 : Nat) : Int) ∧ Below w.heap.size w w' := by
 refine Ret.enter (P := Try.prog) (n := 59) (args := [.int .i64 17]) (σ := [(0, .int .i64 17)]) Try.func28 rfl rfl rfl rfl ?_
 have hS := St.start (ro := ro) hro
 refine W.seq (W.region (WL.assign rfl rfl rfl (WL.nil (N.seq (W.seq (W.region ?_))))))
 refine WL.buildSlice (ps := [(0, .int .u32 0), (1, .int .u32 0), (2, .int .u32 0), (3, .int .u32 1), (4, .int .u32 3), (5, .int .u32 4), (6, .int .u32 5), (7, .int .u32 6), (8, .int .u32 7), (9, .int .u32 0), (10, .int .u32 5), (11, .int .u32 7), (12, .int .u32 0), (13, .int .u32 3), (14, .int .u32 4), (15, .int .u32 6), (16, .int .u32 7), (17, .int .u32 1), (18, .int .u32 5), (19, .int .u32 3), (20, .int .u32 4), (21, .int .u32 3), (22, .int .u32 0), (23, .int .u32 0), (24, .int .u32 1), (25, .int .u32 6), (26, .int .u32 7), (27, .int .u32 0), (28, .int .u32 0), (29, .int .u32 0), (30, .int .u32 0), (31, .int .u32 0)]) (cs := [.int .u32 0, .int .u32 0, .int .u32 0, .int .u32 1, .int .u32 3, .int .u32 4, .int .u32 5, .int .u32 6, .int .u32 7, .int .u32 0, .int .u32 5, .int .u32 7, .int .u32 0, .int .u32 3, .int .u32 4, .int .u32 6, .int .u32 7, .int .u32 1, .int .u32 5, .int .u32 3, .int .u32 4, .int .u32 3, .int .u32 0, .int .u32 0, .int .u32 1, .int .u32 6, .int .u32 7, .int .u32 0, .int .u32 0, .int .u32 0, .int .u32 0, .int .u32 0]) Try.underlying84 (tyZero_spec zer_50) rfl rfl rfl rfl (by kernel_rfl) hS ?_
 clear hS; intro w2 b1 hb_b1 hS
 refine WL.assign rfl rfl rfl (WL.nil (N.seq (W.seq (W.region (WL.assign rfl rfl rfl (WL.nil (N.seq (W.seq (W.seq ?_)))))))))
 refine W.region (WL.move rfl rfl rfl (WL.bin rfl rfl rfl rfl rfl ?_))
 refine WL.set 8 (v' := .bool true) rfl rfl ?_
 refine WL.move rfl rfl rfl (WL.move rfl rfl rfl (WL.bin rfl rfl rfl rfl rfl ?_))
 refine WL.set 11 (v' := .bool true) rfl rfl ?_
 refine WL.pick (v := .bool true) rfl rfl rfl rfl rfl rfl (WL.nil (N.seq (W.condT rfl (W.region (WL.assign rfl rfl rfl (WL.nil (N.seq (W.seq (W.seq ?_)))))))))
 refine W.region (WL.move rfl rfl rfl (WL.bin rfl rfl rfl rfl rfl ?_))
 refine WL.set 14 (v' := .bool false) rfl rfl ?_
 refine WL.move rfl rfl rfl (WL.move rfl rfl rfl (WL.bin rfl rfl rfl rfl rfl ?_))
 refine WL.set 17 (v' := .bool false) rfl rfl ?_
 refine WL.pick (v := .bool false) rfl rfl rfl rfl rfl rfl (WL.nil (N.seq (W.condF rfl (W.skip (N.seq (W.seq (W.seq (W.region (WL.move rfl rfl rfl ?_)))))))))
 refine WL.bin rfl rfl rfl rfl rfl ?_
 refine WL.set 20 (v' := .bool false) rfl rfl ?_
 refine WL.move rfl rfl rfl (WL.move rfl rfl rfl (WL.bin rfl rfl rfl rfl rfl ?_))
 refine WL.set 23 (v' := .bool false) rfl rfl ?_
 refine WL.pick (v := .bool false) rfl rfl rfl rfl rfl rfl (WL.nil (N.seq (W.condF rfl (W.skip (N.seq (W.seq (W.seq (W.region (WL.move rfl rfl rfl ?_)))))))))
 refine WL.bin rfl rfl rfl rfl rfl ?_
 refine WL.set 26 (v' := .bool false) rfl rfl ?_
 refine WL.move rfl rfl rfl (WL.skp rfl rfl (WL.skp rfl rfl (WL.pick (v := .bool false) rfl rfl rfl rfl rfl rfl (WL.nil (N.seq (W.condF rfl (W.skip (N.seq (W.seq ?_)))))))))
 refine W.seq (W.region (WL.move rfl rfl rfl (WL.bin rfl rfl rfl rfl rfl ?_)))
 refine WL.set 32 (v' := .bool false) rfl rfl ?_
 refine WL.nil (N.seq (W.condF rfl (W.skip (N.seq (W.seq (W.seq (W.region (WL.move rfl rfl rfl (WL.bin rfl rfl rfl rfl rfl ?_)))))))))
 refine WL.set 34 (v' := .bool false) rfl rfl ?_
 refine WL.nil (N.seq (W.condF rfl (W.skip (N.seq (W.seq (W.seq (W.region (WL.move rfl rfl rfl (WL.bin rfl rfl rfl rfl rfl ?_)))))))))
 refine WL.set 36 (v' := .bool false) rfl rfl ?_
 refine WL.nil (N.seq (W.condF rfl (W.skip (N.seq (W.seq (W.seq (W.region (WL.move rfl rfl rfl (WL.bin rfl rfl rfl rfl rfl ?_)))))))))
 refine WL.set 38 (v' := .bool false) rfl rfl ?_
 refine WL.nil (N.seq (W.condF rfl (W.skip (N.seq (W.seq (W.seq (W.region (WL.move rfl rfl rfl (WL.bin rfl rfl rfl rfl rfl ?_)))))))))
 refine WL.set 40 (v' := .bool false) rfl rfl ?_
 refine WL.nil (N.seq (W.condF rfl (W.skip (N.seq (W.seq (W.region (WL.assign rfl rfl rfl (WL.nil (N.seq ?_)))))))))
 refine W.seq (W.seq (W.region (WL.move rfl rfl rfl (WL.bin rfl rfl rfl rfl rfl ?_))))
 refine WL.set 42 (v' := .bool false) rfl rfl ?_
 refine WL.nil (N.seq (W.condF rfl (W.skip (N.seq (W.seq (W.seq (W.region (WL.move rfl rfl rfl (WL.bin rfl rfl rfl rfl rfl ?_)))))))))
 refine WL.set 44 (v' := .bool true) rfl rfl ?_
 refine WL.move rfl rfl rfl (WL.move rfl rfl rfl (WL.bin rfl rfl rfl rfl rfl ?_))
 refine WL.set 47 (v' := .bool false) rfl rfl ?_
 refine WL.pick (v := .bool false) rfl rfl rfl rfl rfl rfl (WL.nil (N.seq (W.condF rfl (W.skip (N.seq (W.seq (W.region (WL.move rfl rfl rfl (WL.move rfl rfl rfl ?_)))))))))
 refine WL.move rfl rfl rfl ?_
 refine WL.indexAddr (j := 17) Try.underlying84 isz_50 rfl rfl rfl rfl (by omega) ?_
 have hf3 := f3_le 17
 refine WL.load1 (v := .int .u32 ((f3n 17 : Nat) : Int)) one_50 rfl rfl rfl (hS.cell 0 rfl (f3_arr (k := 17) (by omega))) (WL.bin rfl rfl rfl rfl rfl ?_)
 refine WL.set 54 (v' := .int .u32 ((4096 * f3n 17 : Nat) : Int)) rfl (congrArg _ (wrapN32 (by omega) (by omega))) ?_
 refine WL.bin rfl rfl rfl rfl rfl ?_
 refine WL.set 55 (v' := .int .u32 ((19 + 4096 * f3n 17 : Nat) : Int)) rfl (congrArg _ (wrapN32 (by omega) (by omega))) ?_
 refine WL.move rfl rfl rfl (WL.bin rfl rfl rfl rfl rfl ?_)
 refine WL.set 57 (v' := .int .u32 ((0 : Nat) : Int)) rfl (congrArg _ (wrapN32 (by omega) (by omega))) ?_
 refine WL.bin rfl rfl rfl rfl rfl ?_
 refine WL.set 58 (v' := .int .u32 ((19 + 4096 * f3n 17 + 0 : Nat) : Int)) rfl (congrArg _ (wrapN32 (by omega) (by omega))) ?_
 refine WL.assign rfl rfl rfl (WL.nil (N.seq ?_))
 refine Fin.ret1 rfl (v := .int .u32 ((19 + 4096 * f3n 17 + 0 : Nat) : Int)) rfl ?_
 have e9 : baseN 17 = 19 + 4096 * f3n 17 + 0 := by unfold baseN; (repeat' split) <;> omega
 rw [e9]
 exact ⟨rfl, hS.below⟩

end Go.Proofs.Ytcmmhfknkldmcaa
