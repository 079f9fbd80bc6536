/-
  Contracts of the document's runs (marlineref07). No condition beyond those that each theorem states.
-/
import Derived.Test.YtdlcmhkfglckfaaL4
import Derived.Test.YtdlcmhkfglckfaaE0
namespace Go.Proofs.Ytdlcmhkfglckfaa
open Go.RowKit

def reckI (op a b : Int) : Int :=
  if op = 3 then IntKind.u64.wrap (a + IntKind.u64.wrap (0 - b)) else
  if op = 2 then IntKind.u64.wrap (a + b) else
  if op = 4 then IntKind.u64.wrap (a * b) else
  if op = 5 then IntKind.u64.wrap ((BitVec.ofInt IntKind.u64.bits a &&& BitVec.ofInt IntKind.u64.bits b).toNat : Int) else
  if op = 6 then IntKind.u64.wrap ((BitVec.ofInt IntKind.u64.bits a ||| BitVec.ofInt IntKind.u64.bits b).toNat : Int) else
  if op = 7 then IntKind.u64.wrap ((BitVec.ofInt IntKind.u64.bits a ^^^ BitVec.ofInt IntKind.u64.bits b).toNat : Int) else
  if op = 8 then IntKind.u64.wrap (a * 2 ^ min (b.tmod 64).toNat IntKind.u64.bits) else
  if op = 9 then a.fdiv (2 ^ min (b.tmod 64).toNat IntKind.u64.bits) else
  if op = 10 then (if a < b then 1 else 0) else
  if op = 11 then (if a = b then 1 else 0) else 0
theorem wrapU_in (x : Int) : inU (IntKind.u64.wrap x) := by
  unfold inU IntKind.wrap
  simp only [IntKind.signed, IntKind.bits]
  have h1 := Int.emod_nonneg x (show (2 : Int) ^ 64 ≠ 0 by decide)
  have h2 := Int.emod_lt_of_pos x (show (0 : Int) < 2 ^ 64 by decide)
  simp
  omega
theorem fdiv_in {a : Int} (h : inU a) (m : Nat) : inU (a.fdiv (2 ^ m)) := by
  obtain ⟨h0, h1⟩ := h
  have hp : (0 : Int) < 2 ^ m := Int.pow_pos (by decide)
  rw [Int.fdiv_eq_ediv_of_nonneg _ (Int.le_of_lt hp)]
  refine ⟨Int.ediv_nonneg h0 (Int.le_of_lt hp), Int.le_trans (Int.ediv_le_self _ h0) h1⟩
theorem reckI_in (op a b : Int) (ha : inU a) : inU (reckI op a b) := by
  unfold reckI
  repeat' split
  all_goals first | exact wrapU_in _ | exact fdiv_in ha _ | (unfold inU; omega)

theorem pow64 {j : Nat} (h : j ≤ 63) : 0 < (2 : Int) ^ j ∧ (2 : Int) ^ j ≤ 9223372036854775808 := by
  refine ⟨Int.pow_pos (by decide), ?_⟩
  have h1 : (2 : Nat) ^ j ≤ 2 ^ 63 := Nat.pow_le_pow_right (by decide) h
  have h2 : ((2 ^ j : Nat) : Int) ≤ ((2 ^ 63 : Nat) : Int) := Int.ofNat_le.2 h1
  rw [Int.natCast_pow] at h2
  simpa using h2
theorem wrapU_id {x : Int} (h : 0 ≤ x ∧ x ≤ 18446744073709551615) : IntKind.u64.wrap x = x := by
  unfold IntKind.wrap
  simp only [IntKind.signed, IntKind.bits]
  have : x % 2 ^ 64 = x := Int.emod_eq_of_lt h.1 (by have := h.2; simp; omega)
  simpa using this

theorem power_ret (m : Nat) (hm : m ≤ 63) {w : World} {ro : Nat → Prop} (hro : ∀ b, ro b → b < w.heap.size) : Ret Try.prog 70 #[.int .u64 (m : Int)] w fun v w' => v = .int .u64 ((2 : Int) ^ m) ∧ Below w.heap.size w w' := by
 refine Ret.enter (P := Try.prog) (n := 12) (args := [.int .u64 (m : Int)]) (σ := [(0, .int .u64 (m : Int))]) Try.func70 rfl rfl rfl rfl ?_
 have hS := St.start (ro := ro) hro
 refine W.seq (W.region (WL.assign rfl rfl rfl (WL.nil (N.seq (W.seq (W.region (WL.assign rfl rfl rfl (WL.nil (N.seq ?_)))))))))
 refine W.seq (W.block ?_)
 refine W.loop (α := Nat) (fun (j : Nat) => [(0, .int .u64 ((m - j : Nat) : Int)), (2, .int .u64 0), (3, .int .u64 ((2 : Int) ^ j))]) (fun (j : Nat) u => St w w u ro [] [] ∧ j ≤ m) (fun (j : Nat) => m - j) 0 ⟨rfl, rfl, rfl, trivial⟩ ⟨hS, Nat.zero_le _⟩ ?_
 clear hS
 rintro j w1 ⟨hS, hj⟩
 refine W.seq (W.seq (W.region (WL.move rfl rfl rfl (WL.bin rfl rfl rfl rfl rfl (WL.nil (N.seq ?_))))))
 refine W.cond rfl (fun hc2 => ?_) (fun hc2 => ?_)
 ·
  have hc2p : 0 < ((m - j : Nat) : Int) := by simpa using hc2
  refine W.skip (N.seq (W.block (W.seq (W.region (WL.move rfl rfl rfl (WL.move rfl rfl rfl (WL.bin rfl rfl rfl rfl rfl ?_)))))))
  refine WL.set 8 (v' := .int .u64 ((2 : Int) ^ (j + 1))) rfl (by have := pow64 (show j + 1 ≤ 63 by omega); rw [Int.pow_succ] at this ⊢; generalize (2 : Int) ^ j = z at this ⊢; rw [wrapU_id (by omega)]; congr 1; omega) ?_
  refine WL.assign rfl rfl rfl (WL.nil (N.seq (W.region (WL.move rfl rfl rfl (WL.bin rfl rfl rfl rfl rfl ?_)))))
  refine WL.set 10 (v' := .int .u64 ((m - (j + 1) : Nat) : Int)) rfl (by rw [wrapU_id (by omega)]; congr 1; omega) ?_
  refine WL.assign rfl rfl rfl (WL.nil (N.blk ?_))
  exact N.loop (j + 1) ⟨rfl, rfl, rfl, trivial⟩ ⟨hS, by omega⟩ (by first | omega | (simp only; omega))
 have hc2p : ¬ (0 < ((m - j : Nat) : Int)) := by simpa using hc2
 refine W.exit (X.seq (X.loop (X.blk (N.seq (W.seq (W.region (WL.move rfl rfl rfl (WL.assign rfl rfl rfl (WL.nil ?_)))))))))
 refine N.seq ?_
 refine Fin.ret1 rfl (v := .int .u64 ((2 : Int) ^ j)) rfl ?_
 have e : m = j := by omega
 subst e
 exact ⟨rfl, hS.below⟩

theorem wrap_sub (a b : Int) : IntKind.u64.wrap (a - b) = IntKind.u64.wrap (a + IntKind.u64.wrap (0 - b)) := by
  unfold IntKind.wrap
  simp only [IntKind.signed, IntKind.bits, Bool.false_and, Bool.false_eq_true, if_false]
  rw [Int.add_emod, Int.emod_emod, ← Int.add_emod]
  congr 1
  omega

theorem rreckon_ret (op a b : Int) (ha : inU a) (hb : inU b) {w : World} {ro : Nat → Prop} (hro : ∀ b, ro b → b < w.heap.size) : Ret Try.prog 66 #[.int .i64 op, .int .u64 a, .int .u64 b] w fun v w' => v = .int .u64 (reckI op a b) ∧ Below w.heap.size w w' := by
 refine Ret.enter (P := Try.prog) (n := 67) (args := [.int .i64 op, .int .u64 a, .int .u64 b]) (σ := [(0, .int .i64 op), (1, .int .u64 a), (2, .int .u64 b)]) Try.func66 rfl rfl rfl rfl ?_
 have hS := St.start (ro := ro) hro
 refine W.seq (W.region (WL.assign rfl rfl rfl (WL.nil (N.seq (W.seq (W.seq (W.region (WL.move rfl rfl rfl (WL.bin rfl rfl rfl rfl rfl ?_)))))))))
 refine WL.nil (N.seq ?_)
 refine W.cond rfl (fun hc1 => ?_) (fun hc1 => ?_)
 ·
  have hc1p : op = 2 := by simpa using hc1
  refine W.seq (W.region (WL.move rfl rfl rfl (WL.move rfl rfl rfl (WL.bin rfl rfl rfl rfl rfl (WL.assign rfl rfl rfl (WL.nil (N.seq ?_)))))))
  refine Fin.ret1 rfl (v := .int .u64 (IntKind.u64.wrap (a + b))) rfl ?_
  refine ⟨?_, hS.below⟩
  congr 1
  obtain rfl := hc1p
  rfl
 have hc1p : ¬ (op = 2) := by simpa using hc1
 refine W.skip (N.seq (W.seq (W.seq (W.region (WL.move rfl rfl rfl (WL.bin rfl rfl rfl rfl rfl (WL.nil (N.seq ?_))))))))
 refine W.cond rfl (fun hc2 => ?_) (fun hc2 => ?_)
 ·
  have hc2p : op = 3 := by simpa using hc2
  refine W.seq (W.region (WL.move rfl rfl rfl (WL.move rfl rfl rfl (WL.bin rfl rfl rfl rfl rfl (WL.assign rfl rfl rfl (WL.nil (N.seq ?_)))))))
  refine Fin.ret1 rfl (v := .int .u64 (IntKind.u64.wrap (a - b))) rfl ?_
  refine ⟨?_, hS.below⟩
  congr 1
  obtain rfl := hc2p
  rw [show reckI 3 a b = IntKind.u64.wrap (a + IntKind.u64.wrap (0 - b)) from rfl]
  exact wrap_sub a b
 have hc2p : ¬ (op = 3) := by simpa using hc2
 refine W.skip (N.seq (W.seq (W.seq (W.region (WL.move rfl rfl rfl (WL.bin rfl rfl rfl rfl rfl (WL.nil (N.seq ?_))))))))
 refine W.cond rfl (fun hc3 => ?_) (fun hc3 => ?_)
 ·
  have hc3p : op = 4 := by simpa using hc3
  refine W.seq (W.region (WL.move rfl rfl rfl (WL.move rfl rfl rfl (WL.bin rfl rfl rfl rfl rfl (WL.assign rfl rfl rfl (WL.nil (N.seq ?_)))))))
  refine Fin.ret1 rfl (v := .int .u64 (IntKind.u64.wrap (a * b))) rfl ?_
  refine ⟨?_, hS.below⟩
  congr 1
  obtain rfl := hc3p
  rfl
 have hc3p : ¬ (op = 4) := by simpa using hc3
 refine W.skip (N.seq (W.seq (W.seq (W.region (WL.move rfl rfl rfl (WL.bin rfl rfl rfl rfl rfl (WL.nil (N.seq ?_))))))))
 refine W.cond rfl (fun hc4 => ?_) (fun hc4 => ?_)
 ·
  have hc4p : op = 5 := by simpa using hc4
  refine W.seq (W.region (WL.move rfl rfl rfl (WL.move rfl rfl rfl (WL.bin rfl rfl rfl rfl rfl (WL.assign rfl rfl rfl (WL.nil (N.seq ?_)))))))
  refine Fin.ret1 rfl (v := .int .u64 (IntKind.u64.wrap ((BitVec.ofInt IntKind.u64.bits a &&& BitVec.ofInt IntKind.u64.bits b).toNat : Int))) rfl ?_
  refine ⟨?_, hS.below⟩
  congr 1
  obtain rfl := hc4p
  rfl
 have hc4p : ¬ (op = 5) := by simpa using hc4
 refine W.skip (N.seq (W.seq (W.seq (W.region (WL.move rfl rfl rfl (WL.bin rfl rfl rfl rfl rfl (WL.nil (N.seq ?_))))))))
 refine W.cond rfl (fun hc5 => ?_) (fun hc5 => ?_)
 ·
  have hc5p : op = 6 := by simpa using hc5
  refine W.seq (W.region (WL.move rfl rfl rfl (WL.move rfl rfl rfl (WL.bin rfl rfl rfl rfl rfl (WL.assign rfl rfl rfl (WL.nil (N.seq ?_)))))))
  refine Fin.ret1 rfl (v := .int .u64 (IntKind.u64.wrap ((BitVec.ofInt IntKind.u64.bits a ||| BitVec.ofInt IntKind.u64.bits b).toNat : Int))) rfl ?_
  refine ⟨?_, hS.below⟩
  congr 1
  obtain rfl := hc5p
  rfl
 have hc5p : ¬ (op = 6) := by simpa using hc5
 refine W.skip (N.seq (W.seq (W.seq (W.region (WL.move rfl rfl rfl (WL.bin rfl rfl rfl rfl rfl (WL.nil (N.seq ?_))))))))
 refine W.cond rfl (fun hc6 => ?_) (fun hc6 => ?_)
 ·
  have hc6p : op = 7 := by simpa using hc6
  refine W.seq (W.region (WL.move rfl rfl rfl (WL.move rfl rfl rfl (WL.bin rfl rfl rfl rfl rfl (WL.assign rfl rfl rfl (WL.nil (N.seq ?_)))))))
  refine Fin.ret1 rfl (v := .int .u64 (IntKind.u64.wrap ((BitVec.ofInt IntKind.u64.bits a ^^^ BitVec.ofInt IntKind.u64.bits b).toNat : Int))) rfl ?_
  refine ⟨?_, hS.below⟩
  congr 1
  obtain rfl := hc6p
  rfl
 have hc6p : ¬ (op = 7) := by simpa using hc6
 refine W.skip (N.seq (W.seq (W.seq (W.region (WL.move rfl rfl rfl (WL.bin rfl rfl rfl rfl rfl (WL.nil (N.seq ?_))))))))
 refine W.cond rfl (fun hc7 => ?_) (fun hc7 => ?_)
 ·
  have hc7p : op = 8 := by simpa using hc7
  refine W.seq (W.region (WL.move rfl rfl rfl (WL.move rfl rfl rfl ?_)))
  refine WL.remC rfl rfl rfl rfl (by decide) ?_
  refine WL.set 41 (v' := .int .u64 (((b % 64).toNat : Nat) : Int)) rfl (by rw [Int.tmod_eq_emod_of_nonneg hb.1]; congr 1; omega) ?_
  refine WL.callF (vs := [.int .u64 (((b % 64).toNat : Nat) : Int)]) Try.func70 (by kernel_rfl) rfl rfl rfl (power_ret (b % 64).toNat (by omega) (ro := ro) (fun b hb => (hS.snap b hb).1)) ?_
  rintro v w8 ⟨rfl, hbl⟩
  replace hS := hS.grow hbl
  refine WL.bin rfl rfl rfl rfl rfl (WL.assign rfl rfl rfl (WL.nil (N.seq ?_)))
  refine Fin.ret1 rfl (v := .int .u64 (IntKind.u64.wrap (a * ((2 : Int) ^ (b % 64).toNat)))) rfl ?_
  refine ⟨?_, hS.below⟩
  congr 1
  obtain rfl := hc7p
  rw [show reckI 8 a b = IntKind.u64.wrap (a * 2 ^ min (b.tmod 64).toNat IntKind.u64.bits) from rfl, Int.tmod_eq_emod_of_nonneg hb.1, Nat.min_eq_left (by simp only [IntKind.bits]; omega)]
 have hc7p : ¬ (op = 8) := by simpa using hc7
 refine W.skip (N.seq (W.seq (W.seq (W.region (WL.move rfl rfl rfl (WL.bin rfl rfl rfl rfl rfl (WL.nil (N.seq ?_))))))))
 refine W.cond rfl (fun hc9 => ?_) (fun hc9 => ?_)
 ·
  have hc9p : op = 9 := by simpa using hc9
  refine W.seq (W.region (WL.move rfl rfl rfl (WL.move rfl rfl rfl ?_)))
  refine WL.remC rfl rfl rfl rfl (by decide) ?_
  refine WL.set 48 (v' := .int .u64 (((b % 64).toNat : Nat) : Int)) rfl (by rw [Int.tmod_eq_emod_of_nonneg hb.1]; congr 1; omega) ?_
  refine WL.callF (vs := [.int .u64 (((b % 64).toNat : Nat) : Int)]) Try.func70 (by kernel_rfl) rfl rfl rfl (power_ret (b % 64).toNat (by omega) (ro := ro) (fun b hb => (hS.snap b hb).1)) ?_
  rintro v w10 ⟨rfl, hbl⟩
  replace hS := hS.grow hbl
  refine WL.quoC rfl rfl rfl rfl (by have := pow64 (show (b % 64).toNat ≤ 63 by omega); omega) ?_
  refine WL.assign rfl rfl rfl (WL.nil (N.seq ?_))
  refine Fin.ret1 rfl (v := .int .u64 (IntKind.u64.wrap (a.tdiv ((2 : Int) ^ (b % 64).toNat)))) rfl ?_
  refine ⟨?_, hS.below⟩
  congr 1
  obtain rfl := hc9p
  rw [show reckI 9 a b = a.fdiv (2 ^ min (b.tmod 64).toNat IntKind.u64.bits) from rfl, Int.tmod_eq_emod_of_nonneg hb.1, Nat.min_eq_left (by simp only [IntKind.bits]; omega)]
  have hp := pow64 (show (b % 64).toNat ≤ 63 by omega)
  rw [Int.tdiv_eq_ediv_of_nonneg ha.1, Int.fdiv_eq_ediv_of_nonneg _ (by omega)]
  have h1 := Int.ediv_nonneg ha.1 (Int.le_of_lt hp.1)
  have h2 := Int.ediv_le_self (2 ^ (b % 64).toNat : Int) ha.1
  exact wrapU_id ⟨h1, Int.le_trans h2 ha.2⟩
 have hc9p : ¬ (op = 9) := by simpa using hc9
 refine W.skip (N.seq (W.seq (W.seq (W.region (WL.move rfl rfl rfl (WL.bin rfl rfl rfl rfl rfl (WL.move rfl rfl rfl ?_)))))))
 cases hg11 : (decide (op = 10))
 ·
  have hg11p : ¬ (op = 10) := by simpa using hg11
  refine WL.skp rfl rfl (WL.skp rfl rfl (WL.skp rfl rfl (WL.pick (v := .bool false) rfl rfl rfl rfl rfl rfl (WL.move rfl rfl rfl (WL.move rfl rfl rfl (WL.bin rfl rfl rfl rfl rfl (WL.move rfl rfl rfl ?_)))))))
  cases hg12 : (decide (op = 11))
  ·
   have hg12p : ¬ (op = 11) := by simpa using hg12
   refine WL.skp rfl rfl (WL.skp rfl rfl (WL.skp rfl rfl (WL.pick (v := .bool false) rfl rfl rfl rfl rfl rfl (WL.pick (v := .bool false) rfl rfl rfl rfl rfl rfl (WL.nil (N.seq (W.condF rfl (W.skip (N.seq ?_)))))))))
   refine W.seq (W.region (WL.assign rfl rfl rfl (WL.nil (N.seq ?_))))
   refine Fin.ret1 rfl (v := .int .u64 0) rfl ?_
   refine ⟨?_, hS.below⟩
   congr 1
   simp_all [reckI]
  have hg12p : op = 11 := by simpa using hg12
  refine WL.move rfl rfl rfl (WL.move rfl rfl rfl (WL.bin rfl rfl rfl rfl rfl (WL.pick (v := .bool (decide (a = b))) rfl rfl rfl rfl rfl rfl (WL.pick (v := .bool (decide (a = b))) rfl rfl rfl rfl rfl rfl (WL.nil (N.seq ?_))))))
  refine W.cond rfl (fun hc13 => ?_) (fun hc13 => ?_)
  ·
   have hc13p : a = b := by simpa using hc13
   refine W.seq (W.region (WL.assign rfl rfl rfl (WL.nil (N.seq ?_))))
   refine Fin.ret1 rfl (v := .int .u64 1) rfl ?_
   refine ⟨?_, hS.below⟩
   congr 1
   simp_all [reckI]
  have hc13p : ¬ (a = b) := by simpa using hc13
  refine W.skip (N.seq (W.seq (W.region (WL.assign rfl rfl rfl (WL.nil (N.seq ?_))))))
  refine Fin.ret1 rfl (v := .int .u64 0) rfl ?_
  refine ⟨?_, hS.below⟩
  congr 1
  simp_all [reckI]
 have hg11p : op = 10 := by simpa using hg11
 refine WL.move rfl rfl rfl (WL.move rfl rfl rfl (WL.bin rfl rfl rfl rfl rfl (WL.pick (v := .bool (decide (a < b))) rfl rfl rfl rfl rfl rfl (WL.move rfl rfl rfl ?_))))
 cases hg14 : (decide (a < b))
 ·
  have hg14p : ¬ (a < b) := by simpa using hg14
  refine WL.move rfl rfl rfl (WL.bin rfl rfl rfl rfl rfl (WL.move rfl rfl rfl ?_))
  cases hg15 : (decide (op = 11))
  ·
   have hg15p : ¬ (op = 11) := by simpa using hg15
   refine WL.skp rfl rfl (WL.skp rfl rfl (WL.skp rfl rfl (WL.pick (v := .bool false) rfl rfl rfl rfl rfl rfl (WL.pick (v := .bool false) rfl rfl rfl rfl rfl rfl (WL.nil (N.seq (W.condF rfl (W.skip (N.seq ?_)))))))))
   refine W.seq (W.region (WL.assign rfl rfl rfl (WL.nil (N.seq ?_))))
   refine Fin.ret1 rfl (v := .int .u64 0) rfl ?_
   refine ⟨?_, hS.below⟩
   congr 1
   simp_all [reckI]
  have hg15p : op = 11 := by simpa using hg15
  refine WL.move rfl rfl rfl (WL.move rfl rfl rfl (WL.bin rfl rfl rfl rfl rfl (WL.pick (v := .bool (decide (a = b))) rfl rfl rfl rfl rfl rfl (WL.pick (v := .bool (decide (a = b))) rfl rfl rfl rfl rfl rfl (WL.nil (N.seq ?_))))))
  refine W.cond rfl (fun hc16 => ?_) (fun hc16 => ?_)
  ·
   have hc16p : a = b := by simpa using hc16
   refine W.seq (W.region (WL.assign rfl rfl rfl (WL.nil (N.seq ?_))))
   refine Fin.ret1 rfl (v := .int .u64 1) rfl ?_
   refine ⟨?_, hS.below⟩
   congr 1
   simp_all [reckI]
  have hc16p : ¬ (a = b) := by simpa using hc16
  refine W.skip (N.seq (W.seq (W.region (WL.assign rfl rfl rfl (WL.nil (N.seq ?_))))))
  refine Fin.ret1 rfl (v := .int .u64 0) rfl ?_
  refine ⟨?_, hS.below⟩
  congr 1
  simp_all [reckI]
 have hg14p : a < b := by simpa using hg14
 refine WL.skp rfl rfl (WL.skp rfl rfl (WL.skp rfl rfl (WL.skp rfl rfl (WL.skp rfl rfl (WL.skp rfl rfl (WL.skp rfl rfl (WL.pick (v := .bool true) rfl rfl rfl rfl rfl rfl (WL.nil (N.seq ?_)))))))))
 refine W.condT rfl (W.seq (W.region (WL.assign rfl rfl rfl (WL.nil (N.seq ?_)))))
 refine Fin.ret1 rfl (v := .int .u64 1) rfl ?_
 refine ⟨?_, hS.below⟩
 congr 1
 simp_all [reckI]

end Go.Proofs.Ytdlcmhkfglckfaa
