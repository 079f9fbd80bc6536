/-
  Contracts of the document's machine, for the instructions of a number. No condition beyond those that each theorem states.
-/
import Derived.Test.YtcmmhfknkldmcaaY2
namespace Go.Proofs.Ytcmmhfknkldmcaa
open Go.RowKit
theorem fo_45_0 : fOff Try.prog 45 0 0 = true := by kernel_rfl
theorem fo_45_1 : fOff Try.prog 45 1 1 = true := by kernel_rfl
theorem fo_45_2 : fOff Try.prog 45 2 2 = true := by kernel_rfl
theorem fo_45_3 : fOff Try.prog 45 3 3 = true := by kernel_rfl
theorem fo_45_4 : fOff Try.prog 45 4 4 = true := by kernel_rfl
theorem base_I {k : Nat} (h : 12 ≤ k ∧ k ≤ 17) : baseN k ≤ 28691 := by
  have : k = 12 ∨ k = 13 ∨ k = 14 ∨ k = 15 ∨ k = 16 ∨ k = 17 := by omega
  rcases this with rfl | rfl | rfl | rfl | rfl | rfl <;> decide

set_option maxRecDepth 10000 in
set_option maxHeartbeats 4000000 in
theorem mayR_ret (k : Nat) (hk : 1 ≤ k ∧ k ≤ 11) (rd a b : Nat) (hrd : rd ≤ 31) (ha : a ≤ 31) (hb : b ≤ 31) {w : World} {ro : Nat → Prop} (hro : ∀ b, ro b → b < w.heap.size) : Ret Try.prog 26 #[.agg #[.int .i64 (k : Int), .int .i64 (rd : Int), .int .i64 (a : Int), .int .i64 (b : Int), .int .i64 0]] w fun v w' => v = .bool true ∧ Below w.heap.size w w' := by
 refine Ret.enter (P := Try.prog) (n := 207) (args := [.agg #[.int .i64 (k : Int), .int .i64 (rd : Int), .int .i64 (a : Int), .int .i64 (b : Int), .int .i64 0]]) (σ := [(0, .agg #[.int .i64 (k : Int), .int .i64 (rd : Int), .int .i64 (a : Int), .int .i64 (b : Int), .int .i64 0])]) Try.func26 rfl rfl rfl rfl ?_
 have hS := St.start (ro := ro) hro
 refine W.seq (W.region ?_)
 refine WL.box (v := .agg #[.int .i64 (k : Int), .int .i64 (rd : Int), .int .i64 (a : Int), .int .i64 (b : Int), .int .i64 0]) (cs := [.int .i64 (k : Int), .int .i64 (rd : Int), .int .i64 (a : Int), .int .i64 (b : Int), .int .i64 0]) rfl rfl rfl rfl hS ?_
 clear hS; intro w2 b1 hb_b1 hS
 refine WL.assign rfl rfl rfl (WL.nil (N.seq (W.seq (W.seq (W.region (WL.fieldAddr fo_45_0 rfl rfl rfl (WL.load1 (v := .int .i64 (k : Int)) one_3 rfl rfl rfl (hS.cell 0 rfl rfl) (WL.bin rfl rfl rfl rfl rfl ?_))))))))
 refine WL.set 9 (v' := .bool false) rfl (congrArg Value.bool (show (decide ((k : Int) < 1)) = false from decide_eq_false (show ¬ ((k : Int) < 1) from by omega))) ?_
 refine WL.move rfl rfl rfl (WL.fieldAddr fo_45_0 rfl rfl rfl (WL.load1 (v := .int .i64 (k : Int)) one_3 rfl rfl rfl (hS.cell 0 rfl rfl) (WL.bin rfl rfl rfl rfl rfl ?_)))
 refine WL.set 13 (v' := .bool false) rfl (congrArg Value.bool (show (decide (31 < (k : Int))) = false from decide_eq_false (show ¬ (31 < (k : Int)) from by omega))) ?_
 refine WL.pick (v := .bool false) rfl rfl rfl rfl rfl rfl (WL.nil (N.seq (W.condF rfl (W.skip (N.seq (W.seq (W.region (WL.fieldAddr fo_45_0 rfl rfl rfl (WL.load1 (v := .int .i64 (k : Int)) one_3 rfl rfl rfl (hS.cell 0 rfl rfl) ?_)))))))))
 refine WL.callF (vs := [.int .i64 (k : Int)]) Try.func27 (by kernel_rfl) rfl rfl rfl (formR_ret k hk (ro := ro) (fun b hb => (hS.snap b hb).1)) ?_
 rintro v w3 ⟨rfl, hbl⟩
 replace hS := hS.grow hbl
 refine WL.assign rfl rfl rfl (WL.nil (N.seq (W.seq (W.region (WL.fieldAddr fo_45_1 rfl rfl rfl (WL.load1 (v := .int .i64 (rd : Int)) one_3 rfl rfl rfl (hS.cell 0 rfl rfl) ?_))))))
 refine WL.callF (vs := [.int .i64 (rd : Int)]) Try.func41 (by kernel_rfl) rfl rfl rfl (reg_ret rd (by omega) (ro := ro) (fun b hb => (hS.snap b hb).1)) ?_
 rintro v w4 ⟨rfl, hbl⟩
 replace hS := hS.grow hbl
 refine WL.assign rfl rfl rfl (WL.nil (N.seq (W.seq (W.region (WL.fieldAddr fo_45_2 rfl rfl rfl (WL.load1 (v := .int .i64 (a : Int)) one_3 rfl rfl rfl (hS.cell 0 rfl rfl) ?_))))))
 refine WL.callF (vs := [.int .i64 (a : Int)]) Try.func41 (by kernel_rfl) rfl rfl rfl (reg_ret a (by omega) (ro := ro) (fun b hb => (hS.snap b hb).1)) ?_
 rintro v w5 ⟨rfl, hbl⟩
 replace hS := hS.grow hbl
 refine WL.assign rfl rfl rfl (WL.nil (N.seq (W.seq (W.region (WL.fieldAddr fo_45_3 rfl rfl rfl (WL.load1 (v := .int .i64 (b : Int)) one_3 rfl rfl rfl (hS.cell 0 rfl rfl) ?_))))))
 refine WL.callF (vs := [.int .i64 (b : Int)]) Try.func41 (by kernel_rfl) rfl rfl rfl (reg_ret b (by omega) (ro := ro) (fun b hb => (hS.snap b hb).1)) ?_
 rintro v w6 ⟨rfl, hbl⟩
 replace hS := hS.grow hbl
 refine WL.assign rfl rfl rfl (WL.nil (N.seq (W.seq (W.seq (W.region (WL.move rfl rfl rfl (WL.bin rfl rfl rfl rfl rfl ?_)))))))
 refine WL.set 28 (v' := .bool true) rfl rfl ?_
 refine WL.nil (N.seq (W.condT rfl (W.seq (W.region (WL.move rfl rfl rfl (WL.move rfl rfl rfl (WL.move rfl rfl rfl (WL.pick (v := .bool true) rfl rfl rfl rfl rfl rfl (WL.move rfl rfl rfl ?_)))))))))
 refine WL.move rfl rfl rfl (WL.pick (v := .bool true) rfl rfl rfl rfl rfl rfl (WL.move rfl rfl rfl (WL.fieldAddr fo_45_4 rfl rfl rfl (WL.load1 (v := .int .i64 0) one_2 rfl rfl rfl (hS.cell 0 rfl rfl) (WL.bin rfl rfl rfl rfl rfl ?_)))))
 refine WL.set 39 (v' := .bool true) rfl rfl ?_
 refine WL.pick (v := .bool true) rfl rfl rfl rfl rfl rfl (WL.assign rfl rfl rfl (WL.nil (N.seq ?_)))
 refine Fin.ret1 rfl (v := .bool true) rfl ?_
 exact ⟨rfl, hS.below⟩

set_option maxRecDepth 10000 in
set_option maxHeartbeats 4000000 in
theorem wordR_ret (k : Nat) (hk : 1 ≤ k ∧ k ≤ 11) (rd a b : Nat) (hrd : rd ≤ 31) (ha : a ≤ 31) (hb : b ≤ 31) {w : World} {ro : Nat → Prop} (hro : ∀ b, ro b → b < w.heap.size) : Ret Try.prog 17 #[.agg #[.int .i64 (k : Int), .int .i64 (rd : Int), .int .i64 (a : Int), .int .i64 (b : Int), .int .i64 0]] w fun v w' => v = .tuple #[.int .u32 ((wordN k rd a b 0 : Nat) : Int), .int .i64 0] ∧ Below w.heap.size w w' := by
 refine Ret.enter (P := Try.prog) (n := 168) (args := [.agg #[.int .i64 (k : Int), .int .i64 (rd : Int), .int .i64 (a : Int), .int .i64 (b : Int), .int .i64 0]]) (σ := [(0, .agg #[.int .i64 (k : Int), .int .i64 (rd : Int), .int .i64 (a : Int), .int .i64 (b : Int), .int .i64 0])]) Try.func17 rfl rfl rfl rfl ?_
 have hS := St.start (ro := ro) hro
 have hbase := base_low hk.2
 refine W.seq (W.region ?_)
 refine WL.box (v := .agg #[.int .i64 (k : Int), .int .i64 (rd : Int), .int .i64 (a : Int), .int .i64 (b : Int), .int .i64 0]) (cs := [.int .i64 (k : Int), .int .i64 (rd : Int), .int .i64 (a : Int), .int .i64 (b : Int), .int .i64 0]) rfl rfl rfl rfl hS ?_
 clear hS; intro w2 b1 hb_b1 hS
 refine WL.assign rfl rfl rfl (WL.assign rfl rfl rfl (WL.nil (N.seq (W.seq (W.region (WL.loadN (cs := [.int .i64 (k : Int), .int .i64 (rd : Int), .int .i64 (a : Int), .int .i64 (b : Int), .int .i64 0]) agg_45 rfl rfl rfl rfl (hS.cells 0 (m := 5) rfl rfl) ?_))))))
 refine WL.callF (vs := [.agg #[.int .i64 (k : Int), .int .i64 (rd : Int), .int .i64 (a : Int), .int .i64 (b : Int), .int .i64 0]]) Try.func26 (by kernel_rfl) rfl rfl rfl (mayR_ret k hk rd a b hrd ha hb (ro := ro) (fun b hb => (hS.snap b hb).1)) ?_
 rintro v w3 ⟨rfl, hbl⟩
 replace hS := hS.grow hbl
 refine WL.assign rfl rfl rfl (WL.nil (N.seq (W.seq (W.seq (W.region (WL.move rfl rfl rfl (WL.not rfl rfl rfl ?_)))))))
 refine WL.set 11 (v' := .bool false) rfl rfl ?_
 refine WL.nil (N.seq (W.condF rfl (W.skip (N.seq (W.seq (W.region (WL.fieldAddr fo_45_0 rfl rfl rfl (WL.load1 (v := .int .i64 (k : Int)) one_3 rfl rfl rfl (hS.cell 0 rfl rfl) ?_))))))))
 refine WL.callF (vs := [.int .i64 (k : Int)]) Try.func27 (by kernel_rfl) rfl rfl rfl (formR_ret k hk (ro := ro) (fun b hb => (hS.snap b hb).1)) ?_
 rintro v w4 ⟨rfl, hbl⟩
 replace hS := hS.grow hbl
 refine WL.assign rfl rfl rfl (WL.nil (N.seq (W.seq (W.region (WL.fieldAddr fo_45_0 rfl rfl rfl (WL.load1 (v := .int .i64 (k : Int)) one_3 rfl rfl rfl (hS.cell 0 rfl rfl) ?_))))))
 refine WL.callF (vs := [.int .i64 (k : Int)]) Try.func28 (by kernel_rfl) rfl rfl rfl (fixedR_ret k hk (ro := ro) (fun b hb => (hS.snap b hb).1)) ?_
 rintro v w5 ⟨rfl, hbl⟩
 replace hS := hS.grow hbl
 refine WL.assign rfl rfl rfl (WL.nil (N.seq (W.seq (W.region (WL.fieldAddr fo_45_4 rfl rfl rfl (WL.load1 (v := .int .i64 0) one_2 rfl rfl rfl (hS.cell 0 rfl rfl) ?_))))))
 refine WL.convInt (by rw [Try.underlying2]; rfl) Try.underlying50 rfl rfl rfl ?_
 refine WL.set 20 (v' := .int .u32 ((0 : Nat) : Int)) rfl (congrArg _ (wrapN32 (by omega) (by omega))) ?_
 refine WL.assign rfl rfl rfl (WL.nil (N.seq (W.seq (W.seq (W.region (WL.move rfl rfl rfl (WL.bin rfl rfl rfl rfl rfl ?_)))))))
 refine WL.set 22 (v' := .bool true) rfl rfl ?_
 refine WL.move rfl rfl rfl (WL.skp rfl rfl (WL.skp rfl rfl (WL.pick (v := .bool true) rfl rfl rfl rfl rfl rfl (WL.move rfl rfl rfl (WL.skp rfl rfl (WL.skp rfl rfl (WL.pick (v := .bool true) rfl rfl rfl rfl rfl rfl (WL.move rfl rfl rfl (WL.skp rfl rfl ?_)))))))))
 refine WL.skp rfl rfl (WL.pick (v := .bool true) rfl rfl rfl rfl rfl rfl (WL.move rfl rfl rfl (WL.skp rfl rfl (WL.skp rfl rfl (WL.pick (v := .bool true) rfl rfl rfl rfl rfl rfl (WL.nil (N.seq (W.condT rfl ?_))))))))
 refine W.drawL (by kernel_rfl) 7 ((.q (.int .u32 ((baseN k : Nat) : Int))) :: (.q (.pointer (some ⟨b1, 1, none⟩))) :: (.q (.int .i64 (rd : Int))) :: (.q (.int .u32 ((rd : Nat) : Int))) :: (.q (.int .u32 128)) :: (.q (.int .u32 ((rd * 128 : Nat) : Int))) :: (.q (.int .u32 ((baseN k + rd * 128 : Nat) : Int))) :: []) (by kernel_rfl) (by kernel_rfl) [(1, .pointer (some ⟨b1, 0, none⟩)), (2, .int .u32 0), (3, .int .i64 0), (5, .int .u8 82), (6, .int .u32 ((baseN k : Nat) : Int)), (7, .int .u32 ((0 : Nat) : Int))] ⟨rfl, rfl, rfl, rfl, rfl, rfl, trivial⟩ (by kernel_rfl) hS ?_ ?_
 ·
  refine And.intro (fun β w hS => ?_) ?_
  ·
   refine WL.sub (σ' := [(6, .int .u32 ((baseN k : Nat) : Int))]) ⟨rfl, trivial⟩ ?_
   refine WL.move rfl rfl rfl ?_
   exact WL.nil (N.cut () ⟨rfl, trivial⟩ (Below.refl _ _))
  refine And.intro (fun β w hS => ?_) ?_
  ·
   refine WL.sub (σ' := [(1, .pointer (some ⟨b1, 0, none⟩))]) ⟨rfl, trivial⟩ ?_
   refine WL.fieldAddr fo_45_1 rfl rfl rfl ?_
   exact WL.nil (N.cut () ⟨rfl, trivial⟩ (Below.refl _ _))
  refine And.intro (fun β w hS => ?_) ?_
  ·
   refine WL.sub (σ' := [(40, .pointer (some ⟨b1, 1, none⟩))]) ⟨rfl, trivial⟩ ?_
   refine WL.load1 (v := .int .i64 (rd : Int)) one_3 rfl rfl rfl (hS.cell 0 rfl rfl) ?_
   exact WL.nil (N.cut () ⟨rfl, trivial⟩ (Below.refl _ _))
  refine And.intro (fun β w hS => ?_) ?_
  ·
   refine WL.sub (σ' := [(41, .int .i64 (rd : Int))]) ⟨rfl, trivial⟩ ?_
   refine WL.convInt (by rw [Try.underlying3]; rfl) Try.underlying50 rfl rfl rfl ?_
   refine WL.set 42 (v' := .int .u32 ((rd : Nat) : Int)) rfl (congrArg _ (wrapN32 (by omega) (by omega))) ?_
   exact WL.nil (N.cut () ⟨rfl, trivial⟩ (Below.refl _ _))
  refine And.intro (fun β w hS => ?_) ?_
  ·
   refine WL.sub (σ' := []) trivial ?_
   refine WL.callF (vs := [.int .i64 7]) Try.func29 (by kernel_rfl) rfl rfl rfl (pow32_ret 7 (by omega) (ro := ro) (fun b hb => (hS.snap b hb).1)) ?_
   rintro v w7 ⟨rfl, hbl⟩
   replace hS := hS.grow hbl
   exact WL.nil (N.cut () ⟨rfl, trivial⟩ hbl)
  refine And.intro (fun β w hS => ?_) ?_
  ·
   refine WL.sub (σ' := [(42, .int .u32 ((rd : Nat) : Int)), (43, .int .u32 128)]) ⟨rfl, rfl, trivial⟩ ?_
   refine WL.bin rfl rfl rfl rfl rfl ?_
   refine WL.set 44 (v' := .int .u32 ((rd * 128 : Nat) : Int)) rfl (congrArg _ (wrapN32 (by omega) (by omega))) ?_
   exact WL.nil (N.cut () ⟨rfl, trivial⟩ (Below.refl _ _))
  refine And.intro (fun β w hS => ?_) ?_
  ·
   refine WL.sub (σ' := [(39, .int .u32 ((baseN k : Nat) : Int)), (44, .int .u32 ((rd * 128 : Nat) : Int))]) ⟨rfl, rfl, trivial⟩ ?_
   refine WL.bin rfl rfl rfl rfl rfl ?_
   refine WL.set 45 (v' := .int .u32 ((baseN k + rd * 128 : Nat) : Int)) rfl (congrArg _ (wrapN32 (by omega) (by omega))) ?_
   exact WL.nil (N.cut () ⟨rfl, trivial⟩ (Below.refl _ _))
  trivial
 clear hS; intro w8 β hS
 refine WL.sub (σ' := [(1, .pointer (some ⟨b1, 0, none⟩)), (2, .int .u32 0), (3, .int .i64 0), (5, .int .u8 82), (6, .int .u32 ((baseN k : Nat) : Int)), (7, .int .u32 ((0 : Nat) : Int)), (45, .int .u32 ((baseN k + rd * 128 : Nat) : Int))]) ⟨rfl, rfl, rfl, rfl, rfl, rfl, rfl, trivial⟩ ?_
 refine WL.assign rfl rfl rfl (WL.nil (N.seq (W.seq (W.seq (W.region (WL.move rfl rfl rfl (WL.bin rfl rfl rfl rfl rfl ?_)))))))
 refine WL.set 47 (v' := .bool true) rfl rfl ?_
 refine WL.move rfl rfl rfl (WL.skp rfl rfl (WL.skp rfl rfl (WL.pick (v := .bool true) rfl rfl rfl rfl rfl rfl (WL.move rfl rfl rfl (WL.skp rfl rfl (WL.skp rfl rfl (WL.pick (v := .bool true) rfl rfl rfl rfl rfl rfl (WL.move rfl rfl rfl (WL.skp rfl rfl ?_)))))))))
 refine WL.skp rfl rfl (WL.pick (v := .bool true) rfl rfl rfl rfl rfl rfl (WL.move rfl rfl rfl (WL.skp rfl rfl (WL.skp rfl rfl (WL.pick (v := .bool true) rfl rfl rfl rfl rfl rfl (WL.nil (N.seq (W.condT rfl ?_))))))))
 refine W.drawL (by kernel_rfl) 7 ((.q (.int .u32 ((baseN k + rd * 128 : Nat) : Int))) :: (.q (.pointer (some ⟨b1, 2, none⟩))) :: (.q (.int .i64 (a : Int))) :: (.q (.int .u32 ((a : Nat) : Int))) :: (.q (.int .u32 32768)) :: (.q (.int .u32 ((a * 32768 : Nat) : Int))) :: (.q (.int .u32 ((baseN k + rd * 128 + a * 32768 : Nat) : Int))) :: []) (by kernel_rfl) (by kernel_rfl) [(1, .pointer (some ⟨b1, 0, none⟩)), (2, .int .u32 0), (3, .int .i64 0), (5, .int .u8 82), (6, .int .u32 ((baseN k + rd * 128 : Nat) : Int)), (7, .int .u32 ((0 : Nat) : Int))] ⟨rfl, rfl, rfl, rfl, rfl, rfl, trivial⟩ (by kernel_rfl) hS ?_ ?_
 ·
  refine And.intro (fun β w hS => ?_) ?_
  ·
   refine WL.sub (σ' := [(6, .int .u32 ((baseN k + rd * 128 : Nat) : Int))]) ⟨rfl, trivial⟩ ?_
   refine WL.move rfl rfl rfl ?_
   exact WL.nil (N.cut () ⟨rfl, trivial⟩ (Below.refl _ _))
  refine And.intro (fun β w hS => ?_) ?_
  ·
   refine WL.sub (σ' := [(1, .pointer (some ⟨b1, 0, none⟩))]) ⟨rfl, trivial⟩ ?_
   refine WL.fieldAddr fo_45_2 rfl rfl rfl ?_
   exact WL.nil (N.cut () ⟨rfl, trivial⟩ (Below.refl _ _))
  refine And.intro (fun β w hS => ?_) ?_
  ·
   refine WL.sub (σ' := [(65, .pointer (some ⟨b1, 2, none⟩))]) ⟨rfl, trivial⟩ ?_
   refine WL.load1 (v := .int .i64 (a : Int)) one_3 rfl rfl rfl (hS.cell 0 rfl rfl) ?_
   exact WL.nil (N.cut () ⟨rfl, trivial⟩ (Below.refl _ _))
  refine And.intro (fun β w hS => ?_) ?_
  ·
   refine WL.sub (σ' := [(66, .int .i64 (a : Int))]) ⟨rfl, trivial⟩ ?_
   refine WL.convInt (by rw [Try.underlying3]; rfl) Try.underlying50 rfl rfl rfl ?_
   refine WL.set 67 (v' := .int .u32 ((a : Nat) : Int)) rfl (congrArg _ (wrapN32 (by omega) (by omega))) ?_
   exact WL.nil (N.cut () ⟨rfl, trivial⟩ (Below.refl _ _))
  refine And.intro (fun β w hS => ?_) ?_
  ·
   refine WL.sub (σ' := []) trivial ?_
   refine WL.callF (vs := [.int .i64 15]) Try.func29 (by kernel_rfl) rfl rfl rfl (pow32_ret 15 (by omega) (ro := ro) (fun b hb => (hS.snap b hb).1)) ?_
   rintro v w10 ⟨rfl, hbl⟩
   replace hS := hS.grow hbl
   exact WL.nil (N.cut () ⟨rfl, trivial⟩ hbl)
  refine And.intro (fun β w hS => ?_) ?_
  ·
   refine WL.sub (σ' := [(67, .int .u32 ((a : Nat) : Int)), (68, .int .u32 32768)]) ⟨rfl, rfl, trivial⟩ ?_
   refine WL.bin rfl rfl rfl rfl rfl ?_
   refine WL.set 69 (v' := .int .u32 ((a * 32768 : Nat) : Int)) rfl (congrArg _ (wrapN32 (by omega) (by omega))) ?_
   exact WL.nil (N.cut () ⟨rfl, trivial⟩ (Below.refl _ _))
  refine And.intro (fun β w hS => ?_) ?_
  ·
   refine WL.sub (σ' := [(64, .int .u32 ((baseN k + rd * 128 : Nat) : Int)), (69, .int .u32 ((a * 32768 : Nat) : Int))]) ⟨rfl, rfl, trivial⟩ ?_
   refine WL.bin rfl rfl rfl rfl rfl ?_
   refine WL.set 70 (v' := .int .u32 ((baseN k + rd * 128 + a * 32768 : Nat) : Int)) rfl (congrArg _ (wrapN32 (by omega) (by omega))) ?_
   exact WL.nil (N.cut () ⟨rfl, trivial⟩ (Below.refl _ _))
  trivial
 clear hS; intro w11 β hS
 refine WL.sub (σ' := [(1, .pointer (some ⟨b1, 0, none⟩)), (2, .int .u32 0), (3, .int .i64 0), (5, .int .u8 82), (6, .int .u32 ((baseN k + rd * 128 : Nat) : Int)), (7, .int .u32 ((0 : Nat) : Int)), (70, .int .u32 ((baseN k + rd * 128 + a * 32768 : Nat) : Int))]) ⟨rfl, rfl, rfl, rfl, rfl, rfl, rfl, trivial⟩ ?_
 refine WL.assign rfl rfl rfl (WL.nil (N.seq (W.seq (W.seq (W.region (WL.move rfl rfl rfl (WL.bin rfl rfl rfl rfl rfl ?_)))))))
 refine WL.set 72 (v' := .bool true) rfl rfl ?_
 refine WL.move rfl rfl rfl (WL.skp rfl rfl (WL.skp rfl rfl (WL.pick (v := .bool true) rfl rfl rfl rfl rfl rfl (WL.move rfl rfl rfl (WL.skp rfl rfl (WL.skp rfl rfl (WL.pick (v := .bool true) rfl rfl rfl rfl rfl rfl (WL.nil (N.seq ?_)))))))))
 refine W.condT rfl ?_
 refine W.drawL (by kernel_rfl) 7 ((.q (.int .u32 ((baseN k + rd * 128 + a * 32768 : Nat) : Int))) :: (.q (.pointer (some ⟨b1, 3, none⟩))) :: (.q (.int .i64 (b : Int))) :: (.q (.int .u32 ((b : Nat) : Int))) :: (.q (.int .u32 1048576)) :: (.q (.int .u32 ((b * 1048576 : Nat) : Int))) :: (.q (.int .u32 ((baseN k + rd * 128 + a * 32768 + b * 1048576 : Nat) : Int))) :: []) (by kernel_rfl) (by kernel_rfl) [(1, .pointer (some ⟨b1, 0, none⟩)), (2, .int .u32 0), (3, .int .i64 0), (5, .int .u8 82), (6, .int .u32 ((baseN k + rd * 128 + a * 32768 : Nat) : Int)), (7, .int .u32 ((0 : Nat) : Int))] ⟨rfl, rfl, rfl, rfl, rfl, rfl, trivial⟩ (by kernel_rfl) hS ?_ ?_
 ·
  refine And.intro (fun β w hS => ?_) ?_
  ·
   refine WL.sub (σ' := [(6, .int .u32 ((baseN k + rd * 128 + a * 32768 : Nat) : Int))]) ⟨rfl, trivial⟩ ?_
   refine WL.move rfl rfl rfl ?_
   exact WL.nil (N.cut () ⟨rfl, trivial⟩ (Below.refl _ _))
  refine And.intro (fun β w hS => ?_) ?_
  ·
   refine WL.sub (σ' := [(1, .pointer (some ⟨b1, 0, none⟩))]) ⟨rfl, trivial⟩ ?_
   refine WL.fieldAddr fo_45_3 rfl rfl rfl ?_
   exact WL.nil (N.cut () ⟨rfl, trivial⟩ (Below.refl _ _))
  refine And.intro (fun β w hS => ?_) ?_
  ·
   refine WL.sub (σ' := [(82, .pointer (some ⟨b1, 3, none⟩))]) ⟨rfl, trivial⟩ ?_
   refine WL.load1 (v := .int .i64 (b : Int)) one_3 rfl rfl rfl (hS.cell 0 rfl rfl) ?_
   exact WL.nil (N.cut () ⟨rfl, trivial⟩ (Below.refl _ _))
  refine And.intro (fun β w hS => ?_) ?_
  ·
   refine WL.sub (σ' := [(83, .int .i64 (b : Int))]) ⟨rfl, trivial⟩ ?_
   refine WL.convInt (by rw [Try.underlying3]; rfl) Try.underlying50 rfl rfl rfl ?_
   refine WL.set 84 (v' := .int .u32 ((b : Nat) : Int)) rfl (congrArg _ (wrapN32 (by omega) (by omega))) ?_
   exact WL.nil (N.cut () ⟨rfl, trivial⟩ (Below.refl _ _))
  refine And.intro (fun β w hS => ?_) ?_
  ·
   refine WL.sub (σ' := []) trivial ?_
   refine WL.callF (vs := [.int .i64 20]) Try.func29 (by kernel_rfl) rfl rfl rfl (pow32_ret 20 (by omega) (ro := ro) (fun b hb => (hS.snap b hb).1)) ?_
   rintro v w13 ⟨rfl, hbl⟩
   replace hS := hS.grow hbl
   exact WL.nil (N.cut () ⟨rfl, trivial⟩ hbl)
  refine And.intro (fun β w hS => ?_) ?_
  ·
   refine WL.sub (σ' := [(84, .int .u32 ((b : Nat) : Int)), (85, .int .u32 1048576)]) ⟨rfl, rfl, trivial⟩ ?_
   refine WL.bin rfl rfl rfl rfl rfl ?_
   refine WL.set 86 (v' := .int .u32 ((b * 1048576 : Nat) : Int)) rfl (congrArg _ (wrapN32 (by omega) (by omega))) ?_
   exact WL.nil (N.cut () ⟨rfl, trivial⟩ (Below.refl _ _))
  refine And.intro (fun β w hS => ?_) ?_
  ·
   refine WL.sub (σ' := [(81, .int .u32 ((baseN k + rd * 128 + a * 32768 : Nat) : Int)), (86, .int .u32 ((b * 1048576 : Nat) : Int))]) ⟨rfl, rfl, trivial⟩ ?_
   refine WL.bin rfl rfl rfl rfl rfl ?_
   refine WL.set 87 (v' := .int .u32 ((baseN k + rd * 128 + a * 32768 + b * 1048576 : Nat) : Int)) rfl (congrArg _ (wrapN32 (by omega) (by omega))) ?_
   exact WL.nil (N.cut () ⟨rfl, trivial⟩ (Below.refl _ _))
  trivial
 clear hS; intro w14 β hS
 refine WL.sub (σ' := [(2, .int .u32 0), (3, .int .i64 0), (5, .int .u8 82), (6, .int .u32 ((baseN k + rd * 128 + a * 32768 : Nat) : Int)), (7, .int .u32 ((0 : Nat) : Int)), (87, .int .u32 ((baseN k + rd * 128 + a * 32768 + b * 1048576 : Nat) : Int))]) ⟨rfl, rfl, rfl, rfl, rfl, rfl, trivial⟩ ?_
 refine WL.assign rfl rfl rfl (WL.nil (N.seq (W.seq (W.seq (W.region (WL.move rfl rfl rfl (WL.bin rfl rfl rfl rfl rfl ?_)))))))
 refine WL.set 89 (v' := .bool false) rfl rfl ?_
 refine WL.move rfl rfl rfl (WL.move rfl rfl rfl (WL.bin rfl rfl rfl rfl rfl ?_))
 refine WL.set 92 (v' := .bool false) rfl rfl ?_
 refine WL.pick (v := .bool false) rfl rfl rfl rfl rfl rfl (WL.nil (N.seq (W.condF rfl (W.skip (N.seq (W.seq (W.seq (W.region (WL.move rfl rfl rfl ?_)))))))))
 refine WL.bin rfl rfl rfl rfl rfl ?_
 refine WL.set 101 (v' := .bool false) rfl rfl ?_
 refine WL.nil (N.seq (W.condF rfl (W.skip (N.seq (W.seq (W.seq (W.region (WL.move rfl rfl rfl (WL.bin rfl rfl rfl rfl rfl ?_)))))))))
 refine WL.set 114 (v' := .bool false) rfl rfl ?_
 refine WL.nil (N.seq (W.condF rfl (W.skip (N.seq (W.seq (W.seq (W.region (WL.move rfl rfl rfl (WL.bin rfl rfl rfl rfl rfl ?_)))))))))
 refine WL.set 137 (v' := .bool false) rfl rfl ?_
 refine WL.nil (N.seq (W.condF rfl (W.skip (N.seq (W.seq (W.seq (W.region (WL.move rfl rfl rfl (WL.bin rfl rfl rfl rfl rfl ?_)))))))))
 refine WL.set 145 (v' := .bool false) rfl rfl ?_
 refine WL.nil (N.seq (W.condF rfl (W.skip (N.seq (W.seq (W.region (WL.move rfl rfl rfl (WL.assign rfl rfl rfl (WL.assign rfl rfl rfl ?_)))))))))
 refine WL.nil (N.seq ?_)
 refine Fin.ret2 rfl (v := .int .u32 ((baseN k + rd * 128 + a * 32768 + b * 1048576 : Nat) : Int)) (v' := .int .i64 0) rfl rfl ?_
 have e9 : wordN k rd a b 0 = baseN k + rd * 128 + a * 32768 + b * 1048576 := by unfold wordN; rw [if_pos (by omega)]
 rw [e9]
 exact ⟨rfl, hS.below⟩

set_option maxRecDepth 10000 in
set_option maxHeartbeats 4000000 in
theorem mayI_ret (k : Nat) (hk : 12 ≤ k ∧ k ≤ 16) (rd a imm : Nat) (hrd : rd ≤ 31) (ha : a ≤ 31) (hi : imm ≤ 2047) {w : World} {ro : Nat → Prop} (hro : ∀ b, ro b → b < w.heap.size) : Ret Try.prog 26 #[.agg #[.int .i64 (k : Int), .int .i64 (rd : Int), .int .i64 (a : Int), .int .i64 0, .int .i64 (imm : Int)]] w fun v w' => v = .bool true ∧ Below w.heap.size w w' := by
 refine Ret.enter (P := Try.prog) (n := 207) (args := [.agg #[.int .i64 (k : Int), .int .i64 (rd : Int), .int .i64 (a : Int), .int .i64 0, .int .i64 (imm : Int)]]) (σ := [(0, .agg #[.int .i64 (k : Int), .int .i64 (rd : Int), .int .i64 (a : Int), .int .i64 0, .int .i64 (imm : Int)])]) Try.func26 rfl rfl rfl rfl ?_
 have hS := St.start (ro := ro) hro
 refine W.seq (W.region ?_)
 refine WL.box (v := .agg #[.int .i64 (k : Int), .int .i64 (rd : Int), .int .i64 (a : Int), .int .i64 0, .int .i64 (imm : Int)]) (cs := [.int .i64 (k : Int), .int .i64 (rd : Int), .int .i64 (a : Int), .int .i64 0, .int .i64 (imm : Int)]) rfl rfl rfl rfl hS ?_
 clear hS; intro w2 b1 hb_b1 hS
 refine WL.assign rfl rfl rfl (WL.nil (N.seq (W.seq (W.seq (W.region (WL.fieldAddr fo_45_0 rfl rfl rfl (WL.load1 (v := .int .i64 (k : Int)) one_3 rfl rfl rfl (hS.cell 0 rfl rfl) (WL.bin rfl rfl rfl rfl rfl ?_))))))))
 refine WL.set 9 (v' := .bool false) rfl (congrArg Value.bool (show (decide ((k : Int) < 1)) = false from decide_eq_false (show ¬ ((k : Int) < 1) from by omega))) ?_
 refine WL.move rfl rfl rfl (WL.fieldAddr fo_45_0 rfl rfl rfl (WL.load1 (v := .int .i64 (k : Int)) one_3 rfl rfl rfl (hS.cell 0 rfl rfl) (WL.bin rfl rfl rfl rfl rfl ?_)))
 refine WL.set 13 (v' := .bool false) rfl (congrArg Value.bool (show (decide (31 < (k : Int))) = false from decide_eq_false (show ¬ (31 < (k : Int)) from by omega))) ?_
 refine WL.pick (v := .bool false) rfl rfl rfl rfl rfl rfl (WL.nil (N.seq (W.condF rfl (W.skip (N.seq (W.seq (W.region (WL.fieldAddr fo_45_0 rfl rfl rfl (WL.load1 (v := .int .i64 (k : Int)) one_3 rfl rfl rfl (hS.cell 0 rfl rfl) ?_)))))))))
 refine WL.callF (vs := [.int .i64 (k : Int)]) Try.func27 (by kernel_rfl) rfl rfl rfl (formI_ret k hk (ro := ro) (fun b hb => (hS.snap b hb).1)) ?_
 rintro v w3 ⟨rfl, hbl⟩
 replace hS := hS.grow hbl
 refine WL.assign rfl rfl rfl (WL.nil (N.seq (W.seq (W.region (WL.fieldAddr fo_45_1 rfl rfl rfl (WL.load1 (v := .int .i64 (rd : Int)) one_3 rfl rfl rfl (hS.cell 0 rfl rfl) ?_))))))
 refine WL.callF (vs := [.int .i64 (rd : Int)]) Try.func41 (by kernel_rfl) rfl rfl rfl (reg_ret rd (by omega) (ro := ro) (fun b hb => (hS.snap b hb).1)) ?_
 rintro v w4 ⟨rfl, hbl⟩
 replace hS := hS.grow hbl
 refine WL.assign rfl rfl rfl (WL.nil (N.seq (W.seq (W.region (WL.fieldAddr fo_45_2 rfl rfl rfl (WL.load1 (v := .int .i64 (a : Int)) one_3 rfl rfl rfl (hS.cell 0 rfl rfl) ?_))))))
 refine WL.callF (vs := [.int .i64 (a : Int)]) Try.func41 (by kernel_rfl) rfl rfl rfl (reg_ret a (by omega) (ro := ro) (fun b hb => (hS.snap b hb).1)) ?_
 rintro v w5 ⟨rfl, hbl⟩
 replace hS := hS.grow hbl
 refine WL.assign rfl rfl rfl (WL.nil (N.seq (W.seq (W.region (WL.fieldAddr fo_45_3 rfl rfl rfl (WL.load1 (v := .int .i64 0) one_3 rfl rfl rfl (hS.cell 0 rfl rfl) ?_))))))
 refine WL.callF (vs := [.int .i64 0]) Try.func41 (by kernel_rfl) rfl rfl rfl (reg_ret 0 (by omega) (ro := ro) (fun b hb => (hS.snap b hb).1)) ?_
 rintro v w6 ⟨rfl, hbl⟩
 replace hS := hS.grow hbl
 refine WL.assign rfl rfl rfl (WL.nil (N.seq (W.seq (W.seq (W.region (WL.move rfl rfl rfl (WL.bin rfl rfl rfl rfl rfl ?_)))))))
 refine WL.set 28 (v' := .bool false) rfl rfl ?_
 refine WL.nil (N.seq (W.condF rfl (W.skip (N.seq (W.seq (W.seq (W.region (WL.move rfl rfl rfl (WL.bin rfl rfl rfl rfl rfl ?_)))))))))
 refine WL.set 42 (v' := .bool true) rfl rfl ?_
 refine WL.nil (N.seq (W.condT rfl (W.seq (W.region (WL.move rfl rfl rfl (WL.move rfl rfl rfl (WL.move rfl rfl rfl (WL.pick (v := .bool true) rfl rfl rfl rfl rfl rfl (WL.move rfl rfl rfl ?_)))))))))
 refine WL.fieldAddr fo_45_3 rfl rfl rfl (WL.load1 (v := .int .i64 0) one_3 rfl rfl rfl (hS.cell 0 rfl rfl) (WL.bin rfl rfl rfl rfl rfl ?_))
 refine WL.set 50 (v' := .bool true) rfl rfl ?_
 refine WL.pick (v := .bool true) rfl rfl rfl rfl rfl rfl (WL.move rfl rfl rfl (WL.fieldAddr fo_45_4 rfl rfl rfl (WL.load1 (v := .int .i64 (imm : Int)) one_2 rfl rfl rfl (hS.cell 0 rfl rfl) (WL.bin rfl rfl rfl rfl rfl ?_))))
 refine WL.set 55 (v' := .bool true) rfl (congrArg Value.bool (show (decide (-2048 ≤ (imm : Int))) = true from decide_eq_true (show -2048 ≤ (imm : Int) from by omega))) ?_
 refine WL.pick (v := .bool true) rfl rfl rfl rfl rfl rfl (WL.move rfl rfl rfl (WL.fieldAddr fo_45_4 rfl rfl rfl (WL.load1 (v := .int .i64 (imm : Int)) one_2 rfl rfl rfl (hS.cell 0 rfl rfl) (WL.bin rfl rfl rfl rfl rfl ?_))))
 refine WL.set 60 (v' := .bool true) rfl (congrArg Value.bool (show (decide ((imm : Int) ≤ 2047)) = true from decide_eq_true (show (imm : Int) ≤ 2047 from by omega))) ?_
 refine WL.pick (v := .bool true) rfl rfl rfl rfl rfl rfl (WL.assign rfl rfl rfl (WL.nil (N.seq ?_)))
 refine Fin.ret1 rfl (v := .bool true) rfl ?_
 exact ⟨rfl, hS.below⟩

set_option maxRecDepth 10000 in
set_option maxHeartbeats 4000000 in
theorem wordI_ret (k : Nat) (hk : 12 ≤ k ∧ k ≤ 16) (rd a imm : Nat) (hrd : rd ≤ 31) (ha : a ≤ 31) (hi : imm ≤ 2047) {w : World} {ro : Nat → Prop} (hro : ∀ b, ro b → b < w.heap.size) : Ret Try.prog 17 #[.agg #[.int .i64 (k : Int), .int .i64 (rd : Int), .int .i64 (a : Int), .int .i64 0, .int .i64 (imm : Int)]] w fun v w' => v = .tuple #[.int .u32 ((wordN k rd a 0 imm : Nat) : Int), .int .i64 0] ∧ Below w.heap.size w w' := by
 refine Ret.enter (P := Try.prog) (n := 168) (args := [.agg #[.int .i64 (k : Int), .int .i64 (rd : Int), .int .i64 (a : Int), .int .i64 0, .int .i64 (imm : Int)]]) (σ := [(0, .agg #[.int .i64 (k : Int), .int .i64 (rd : Int), .int .i64 (a : Int), .int .i64 0, .int .i64 (imm : Int)])]) Try.func17 rfl rfl rfl rfl ?_
 have hS := St.start (ro := ro) hro
 have hbase := base_I (k := k) (by omega)
 refine W.seq (W.region ?_)
 refine WL.box (v := .agg #[.int .i64 (k : Int), .int .i64 (rd : Int), .int .i64 (a : Int), .int .i64 0, .int .i64 (imm : Int)]) (cs := [.int .i64 (k : Int), .int .i64 (rd : Int), .int .i64 (a : Int), .int .i64 0, .int .i64 (imm : Int)]) rfl rfl rfl rfl hS ?_
 clear hS; intro w2 b1 hb_b1 hS
 refine WL.assign rfl rfl rfl (WL.assign rfl rfl rfl (WL.nil (N.seq (W.seq (W.region (WL.loadN (cs := [.int .i64 (k : Int), .int .i64 (rd : Int), .int .i64 (a : Int), .int .i64 0, .int .i64 (imm : Int)]) agg_45 rfl rfl rfl rfl (hS.cells 0 (m := 5) rfl rfl) ?_))))))
 refine WL.callF (vs := [.agg #[.int .i64 (k : Int), .int .i64 (rd : Int), .int .i64 (a : Int), .int .i64 0, .int .i64 (imm : Int)]]) Try.func26 (by kernel_rfl) rfl rfl rfl (mayI_ret k hk rd a imm hrd ha hi (ro := ro) (fun b hb => (hS.snap b hb).1)) ?_
 rintro v w3 ⟨rfl, hbl⟩
 replace hS := hS.grow hbl
 refine WL.assign rfl rfl rfl (WL.nil (N.seq (W.seq (W.seq (W.region (WL.move rfl rfl rfl (WL.not rfl rfl rfl ?_)))))))
 refine WL.set 11 (v' := .bool false) rfl rfl ?_
 refine WL.nil (N.seq (W.condF rfl (W.skip (N.seq (W.seq (W.region (WL.fieldAddr fo_45_0 rfl rfl rfl (WL.load1 (v := .int .i64 (k : Int)) one_3 rfl rfl rfl (hS.cell 0 rfl rfl) ?_))))))))
 refine WL.callF (vs := [.int .i64 (k : Int)]) Try.func27 (by kernel_rfl) rfl rfl rfl (formI_ret k hk (ro := ro) (fun b hb => (hS.snap b hb).1)) ?_
 rintro v w4 ⟨rfl, hbl⟩
 replace hS := hS.grow hbl
 refine WL.assign rfl rfl rfl (WL.nil (N.seq (W.seq (W.region (WL.fieldAddr fo_45_0 rfl rfl rfl (WL.load1 (v := .int .i64 (k : Int)) one_3 rfl rfl rfl (hS.cell 0 rfl rfl) ?_))))))
 refine WL.callF (vs := [.int .i64 (k : Int)]) Try.func28 (by kernel_rfl) rfl rfl rfl (fixedI_ret k hk (ro := ro) (fun b hb => (hS.snap b hb).1)) ?_
 rintro v w5 ⟨rfl, hbl⟩
 replace hS := hS.grow hbl
 refine WL.assign rfl rfl rfl (WL.nil (N.seq (W.seq (W.region (WL.fieldAddr fo_45_4 rfl rfl rfl (WL.load1 (v := .int .i64 (imm : Int)) one_2 rfl rfl rfl (hS.cell 0 rfl rfl) ?_))))))
 refine WL.convInt (by rw [Try.underlying2]; rfl) Try.underlying50 rfl rfl rfl ?_
 refine WL.set 20 (v' := .int .u32 ((imm : Nat) : Int)) rfl (congrArg _ (wrapN32 (by omega) (by omega))) ?_
 refine WL.assign rfl rfl rfl (WL.nil (N.seq (W.seq (W.seq (W.region (WL.move rfl rfl rfl (WL.bin rfl rfl rfl rfl rfl ?_)))))))
 refine WL.set 22 (v' := .bool false) rfl rfl ?_
 refine WL.move rfl rfl rfl (WL.move rfl rfl rfl (WL.bin rfl rfl rfl rfl rfl ?_))
 refine WL.set 25 (v' := .bool true) rfl rfl ?_
 refine WL.pick (v := .bool true) rfl rfl rfl rfl rfl rfl (WL.move rfl rfl rfl (WL.skp rfl rfl (WL.skp rfl rfl (WL.pick (v := .bool true) rfl rfl rfl rfl rfl rfl (WL.move rfl rfl rfl (WL.skp rfl rfl (WL.skp rfl rfl (WL.pick (v := .bool true) rfl rfl rfl rfl rfl rfl (WL.move rfl rfl rfl ?_)))))))))
 refine WL.skp rfl rfl (WL.skp rfl rfl (WL.pick (v := .bool true) rfl rfl rfl rfl rfl rfl (WL.nil (N.seq (W.condT rfl ?_)))))
 refine W.drawL (by kernel_rfl) 7 ((.q (.int .u32 ((baseN k : Nat) : Int))) :: (.q (.pointer (some ⟨b1, 1, none⟩))) :: (.q (.int .i64 (rd : Int))) :: (.q (.int .u32 ((rd : Nat) : Int))) :: (.q (.int .u32 128)) :: (.q (.int .u32 ((rd * 128 : Nat) : Int))) :: (.q (.int .u32 ((baseN k + rd * 128 : Nat) : Int))) :: []) (by kernel_rfl) (by kernel_rfl) [(1, .pointer (some ⟨b1, 0, none⟩)), (2, .int .u32 0), (3, .int .i64 0), (5, .int .u8 73), (6, .int .u32 ((baseN k : Nat) : Int)), (7, .int .u32 ((imm : Nat) : Int))] ⟨rfl, rfl, rfl, rfl, rfl, rfl, trivial⟩ (by kernel_rfl) hS ?_ ?_
 ·
  refine And.intro (fun β w hS => ?_) ?_
  ·
   refine WL.sub (σ' := [(6, .int .u32 ((baseN k : Nat) : Int))]) ⟨rfl, trivial⟩ ?_
   refine WL.move rfl rfl rfl ?_
   exact WL.nil (N.cut () ⟨rfl, trivial⟩ (Below.refl _ _))
  refine And.intro (fun β w hS => ?_) ?_
  ·
   refine WL.sub (σ' := [(1, .pointer (some ⟨b1, 0, none⟩))]) ⟨rfl, trivial⟩ ?_
   refine WL.fieldAddr fo_45_1 rfl rfl rfl ?_
   exact WL.nil (N.cut () ⟨rfl, trivial⟩ (Below.refl _ _))
  refine And.intro (fun β w hS => ?_) ?_
  ·
   refine WL.sub (σ' := [(40, .pointer (some ⟨b1, 1, none⟩))]) ⟨rfl, trivial⟩ ?_
   refine WL.load1 (v := .int .i64 (rd : Int)) one_3 rfl rfl rfl (hS.cell 0 rfl rfl) ?_
   exact WL.nil (N.cut () ⟨rfl, trivial⟩ (Below.refl _ _))
  refine And.intro (fun β w hS => ?_) ?_
  ·
   refine WL.sub (σ' := [(41, .int .i64 (rd : Int))]) ⟨rfl, trivial⟩ ?_
   refine WL.convInt (by rw [Try.underlying3]; rfl) Try.underlying50 rfl rfl rfl ?_
   refine WL.set 42 (v' := .int .u32 ((rd : Nat) : Int)) rfl (congrArg _ (wrapN32 (by omega) (by omega))) ?_
   exact WL.nil (N.cut () ⟨rfl, trivial⟩ (Below.refl _ _))
  refine And.intro (fun β w hS => ?_) ?_
  ·
   refine WL.sub (σ' := []) trivial ?_
   refine WL.callF (vs := [.int .i64 7]) Try.func29 (by kernel_rfl) rfl rfl rfl (pow32_ret 7 (by omega) (ro := ro) (fun b hb => (hS.snap b hb).1)) ?_
   rintro v w7 ⟨rfl, hbl⟩
   replace hS := hS.grow hbl
   exact WL.nil (N.cut () ⟨rfl, trivial⟩ hbl)
  refine And.intro (fun β w hS => ?_) ?_
  ·
   refine WL.sub (σ' := [(42, .int .u32 ((rd : Nat) : Int)), (43, .int .u32 128)]) ⟨rfl, rfl, trivial⟩ ?_
   refine WL.bin rfl rfl rfl rfl rfl ?_
   refine WL.set 44 (v' := .int .u32 ((rd * 128 : Nat) : Int)) rfl (congrArg _ (wrapN32 (by omega) (by omega))) ?_
   exact WL.nil (N.cut () ⟨rfl, trivial⟩ (Below.refl _ _))
  refine And.intro (fun β w hS => ?_) ?_
  ·
   refine WL.sub (σ' := [(39, .int .u32 ((baseN k : Nat) : Int)), (44, .int .u32 ((rd * 128 : Nat) : Int))]) ⟨rfl, rfl, trivial⟩ ?_
   refine WL.bin rfl rfl rfl rfl rfl ?_
   refine WL.set 45 (v' := .int .u32 ((baseN k + rd * 128 : Nat) : Int)) rfl (congrArg _ (wrapN32 (by omega) (by omega))) ?_
   exact WL.nil (N.cut () ⟨rfl, trivial⟩ (Below.refl _ _))
  trivial
 clear hS; intro w8 β hS
 refine WL.sub (σ' := [(1, .pointer (some ⟨b1, 0, none⟩)), (2, .int .u32 0), (3, .int .i64 0), (5, .int .u8 73), (6, .int .u32 ((baseN k : Nat) : Int)), (7, .int .u32 ((imm : Nat) : Int)), (45, .int .u32 ((baseN k + rd * 128 : Nat) : Int))]) ⟨rfl, rfl, rfl, rfl, rfl, rfl, rfl, trivial⟩ ?_
 refine WL.assign rfl rfl rfl (WL.nil (N.seq (W.seq (W.seq (W.region (WL.move rfl rfl rfl (WL.bin rfl rfl rfl rfl rfl ?_)))))))
 refine WL.set 47 (v' := .bool false) rfl rfl ?_
 refine WL.move rfl rfl rfl (WL.move rfl rfl rfl (WL.bin rfl rfl rfl rfl rfl ?_))
 refine WL.set 50 (v' := .bool true) rfl rfl ?_
 refine WL.pick (v := .bool true) rfl rfl rfl rfl rfl rfl (WL.move rfl rfl rfl (WL.skp rfl rfl (WL.skp rfl rfl (WL.pick (v := .bool true) rfl rfl rfl rfl rfl rfl (WL.move rfl rfl rfl (WL.skp rfl rfl (WL.skp rfl rfl (WL.pick (v := .bool true) rfl rfl rfl rfl rfl rfl (WL.move rfl rfl rfl ?_)))))))))
 refine WL.skp rfl rfl (WL.skp rfl rfl (WL.pick (v := .bool true) rfl rfl rfl rfl rfl rfl (WL.nil (N.seq (W.condT rfl ?_)))))
 refine W.drawL (by kernel_rfl) 7 ((.q (.int .u32 ((baseN k + rd * 128 : Nat) : Int))) :: (.q (.pointer (some ⟨b1, 2, none⟩))) :: (.q (.int .i64 (a : Int))) :: (.q (.int .u32 ((a : Nat) : Int))) :: (.q (.int .u32 32768)) :: (.q (.int .u32 ((a * 32768 : Nat) : Int))) :: (.q (.int .u32 ((baseN k + rd * 128 + a * 32768 : Nat) : Int))) :: []) (by kernel_rfl) (by kernel_rfl) [(1, .pointer (some ⟨b1, 0, none⟩)), (2, .int .u32 0), (3, .int .i64 0), (5, .int .u8 73), (6, .int .u32 ((baseN k + rd * 128 : Nat) : Int)), (7, .int .u32 ((imm : Nat) : Int))] ⟨rfl, rfl, rfl, rfl, rfl, rfl, trivial⟩ (by kernel_rfl) hS ?_ ?_
 ·
  refine And.intro (fun β w hS => ?_) ?_
  ·
   refine WL.sub (σ' := [(6, .int .u32 ((baseN k + rd * 128 : Nat) : Int))]) ⟨rfl, trivial⟩ ?_
   refine WL.move rfl rfl rfl ?_
   exact WL.nil (N.cut () ⟨rfl, trivial⟩ (Below.refl _ _))
  refine And.intro (fun β w hS => ?_) ?_
  ·
   refine WL.sub (σ' := [(1, .pointer (some ⟨b1, 0, none⟩))]) ⟨rfl, trivial⟩ ?_
   refine WL.fieldAddr fo_45_2 rfl rfl rfl ?_
   exact WL.nil (N.cut () ⟨rfl, trivial⟩ (Below.refl _ _))
  refine And.intro (fun β w hS => ?_) ?_
  ·
   refine WL.sub (σ' := [(65, .pointer (some ⟨b1, 2, none⟩))]) ⟨rfl, trivial⟩ ?_
   refine WL.load1 (v := .int .i64 (a : Int)) one_3 rfl rfl rfl (hS.cell 0 rfl rfl) ?_
   exact WL.nil (N.cut () ⟨rfl, trivial⟩ (Below.refl _ _))
  refine And.intro (fun β w hS => ?_) ?_
  ·
   refine WL.sub (σ' := [(66, .int .i64 (a : Int))]) ⟨rfl, trivial⟩ ?_
   refine WL.convInt (by rw [Try.underlying3]; rfl) Try.underlying50 rfl rfl rfl ?_
   refine WL.set 67 (v' := .int .u32 ((a : Nat) : Int)) rfl (congrArg _ (wrapN32 (by omega) (by omega))) ?_
   exact WL.nil (N.cut () ⟨rfl, trivial⟩ (Below.refl _ _))
  refine And.intro (fun β w hS => ?_) ?_
  ·
   refine WL.sub (σ' := []) trivial ?_
   refine WL.callF (vs := [.int .i64 15]) Try.func29 (by kernel_rfl) rfl rfl rfl (pow32_ret 15 (by omega) (ro := ro) (fun b hb => (hS.snap b hb).1)) ?_
   rintro v w10 ⟨rfl, hbl⟩
   replace hS := hS.grow hbl
   exact WL.nil (N.cut () ⟨rfl, trivial⟩ hbl)
  refine And.intro (fun β w hS => ?_) ?_
  ·
   refine WL.sub (σ' := [(67, .int .u32 ((a : Nat) : Int)), (68, .int .u32 32768)]) ⟨rfl, rfl, trivial⟩ ?_
   refine WL.bin rfl rfl rfl rfl rfl ?_
   refine WL.set 69 (v' := .int .u32 ((a * 32768 : Nat) : Int)) rfl (congrArg _ (wrapN32 (by omega) (by omega))) ?_
   exact WL.nil (N.cut () ⟨rfl, trivial⟩ (Below.refl _ _))
  refine And.intro (fun β w hS => ?_) ?_
  ·
   refine WL.sub (σ' := [(64, .int .u32 ((baseN k + rd * 128 : Nat) : Int)), (69, .int .u32 ((a * 32768 : Nat) : Int))]) ⟨rfl, rfl, trivial⟩ ?_
   refine WL.bin rfl rfl rfl rfl rfl ?_
   refine WL.set 70 (v' := .int .u32 ((baseN k + rd * 128 + a * 32768 : Nat) : Int)) rfl (congrArg _ (wrapN32 (by omega) (by omega))) ?_
   exact WL.nil (N.cut () ⟨rfl, trivial⟩ (Below.refl _ _))
  trivial
 clear hS; intro w11 β hS
 refine WL.sub (σ' := [(1, .pointer (some ⟨b1, 0, none⟩)), (2, .int .u32 0), (3, .int .i64 0), (5, .int .u8 73), (6, .int .u32 ((baseN k + rd * 128 : Nat) : Int)), (7, .int .u32 ((imm : Nat) : Int)), (70, .int .u32 ((baseN k + rd * 128 + a * 32768 : Nat) : Int))]) ⟨rfl, rfl, rfl, rfl, rfl, rfl, rfl, trivial⟩ ?_
 refine WL.assign rfl rfl rfl (WL.nil (N.seq (W.seq (W.seq (W.region (WL.move rfl rfl rfl (WL.bin rfl rfl rfl rfl rfl ?_)))))))
 refine WL.set 72 (v' := .bool false) rfl rfl ?_
 refine WL.move rfl rfl rfl (WL.move rfl rfl rfl (WL.bin rfl rfl rfl rfl rfl ?_))
 refine WL.set 75 (v' := .bool false) rfl rfl ?_
 refine WL.pick (v := .bool false) rfl rfl rfl rfl rfl rfl (WL.move rfl rfl rfl (WL.move rfl rfl rfl (WL.bin rfl rfl rfl rfl rfl ?_)))
 refine WL.set 79 (v' := .bool false) rfl rfl ?_
 refine WL.pick (v := .bool false) rfl rfl rfl rfl rfl rfl (WL.nil (N.seq (W.condF rfl (W.skip (N.seq (W.seq (W.seq (W.region (WL.move rfl rfl rfl ?_)))))))))
 refine WL.bin rfl rfl rfl rfl rfl ?_
 refine WL.set 89 (v' := .bool true) rfl rfl ?_
 refine WL.move rfl rfl rfl (WL.skp rfl rfl (WL.skp rfl rfl (WL.pick (v := .bool true) rfl rfl rfl rfl rfl rfl (WL.nil (N.seq (W.condT rfl (W.region (WL.move rfl rfl rfl (WL.move rfl rfl rfl ?_)))))))))
 refine WL.callF (vs := [.int .u32 ((imm : Nat) : Int), .int .i64 0, .int .i64 12]) Try.func30 (by kernel_rfl) rfl rfl rfl ((by have h := part_ret imm 0 12 (by omega) (by omega) (by omega) (ro := ro) (w := w11) (fun b hb => (hS.snap b hb).1); rw [show imm / 2 ^ 0 % 2 ^ 12 = imm by omega] at h; exact h)) ?_
 rintro v w12 ⟨rfl, hbl⟩
 replace hS := hS.grow hbl
 refine WL.callF (vs := [.int .i64 20]) Try.func29 (by kernel_rfl) rfl rfl rfl (pow32_ret 20 (by omega) (ro := ro) (fun b hb => (hS.snap b hb).1)) ?_
 rintro v w13 ⟨rfl, hbl⟩
 replace hS := hS.grow hbl
 refine WL.bin rfl rfl rfl rfl rfl ?_
 refine WL.set 98 (v' := .int .u32 ((imm * 1048576 : Nat) : Int)) rfl (congrArg _ (wrapN32 (by omega) (by omega))) ?_
 refine WL.bin rfl rfl rfl rfl rfl ?_
 refine WL.set 99 (v' := .int .u32 ((baseN k + rd * 128 + a * 32768 + imm * 1048576 : Nat) : Int)) rfl (congrArg _ (wrapN32 (by omega) (by omega))) ?_
 refine WL.assign rfl rfl rfl (WL.nil (N.seq (W.seq (W.seq (W.region (WL.move rfl rfl rfl (WL.bin rfl rfl rfl rfl rfl ?_)))))))
 refine WL.set 101 (v' := .bool false) rfl rfl ?_
 refine WL.nil (N.seq (W.condF rfl (W.skip (N.seq (W.seq (W.seq (W.region (WL.move rfl rfl rfl (WL.bin rfl rfl rfl rfl rfl ?_)))))))))
 refine WL.set 114 (v' := .bool false) rfl rfl ?_
 refine WL.nil (N.seq (W.condF rfl (W.skip (N.seq (W.seq (W.seq (W.region (WL.move rfl rfl rfl (WL.bin rfl rfl rfl rfl rfl ?_)))))))))
 refine WL.set 137 (v' := .bool false) rfl rfl ?_
 refine WL.nil (N.seq (W.condF rfl (W.skip (N.seq (W.seq (W.seq (W.region (WL.move rfl rfl rfl (WL.bin rfl rfl rfl rfl rfl ?_)))))))))
 refine WL.set 145 (v' := .bool false) rfl rfl ?_
 refine WL.nil (N.seq (W.condF rfl (W.skip (N.seq (W.seq (W.region (WL.move rfl rfl rfl (WL.assign rfl rfl rfl (WL.assign rfl rfl rfl ?_)))))))))
 refine WL.nil (N.seq ?_)
 refine Fin.ret2 rfl (v := .int .u32 ((baseN k + rd * 128 + a * 32768 + imm * 1048576 : Nat) : Int)) (v' := .int .i64 0) rfl rfl ?_
 have e9 : wordN k rd a 0 imm = baseN k + rd * 128 + a * 32768 + imm * 1048576 := by unfold wordN; rw [if_neg (by omega)]
 rw [e9]
 exact ⟨rfl, hS.below⟩

set_option maxRecDepth 10000 in
set_option maxHeartbeats 4000000 in
theorem mayH_ret  (rd a imm : Nat) (hrd : rd ≤ 31) (ha : a ≤ 31) (hi : imm ≤ 63) {w : World} {ro : Nat → Prop} (hro : ∀ b, ro b → b < w.heap.size) : Ret Try.prog 26 #[.agg #[.int .i64 17, .int .i64 (rd : Int), .int .i64 (a : Int), .int .i64 0, .int .i64 (imm : Int)]] w fun v w' => v = .bool true ∧ Below w.heap.size w w' := by
 refine Ret.enter (P := Try.prog) (n := 207) (args := [.agg #[.int .i64 17, .int .i64 (rd : Int), .int .i64 (a : Int), .int .i64 0, .int .i64 (imm : Int)]]) (σ := [(0, .agg #[.int .i64 17, .int .i64 (rd : Int), .int .i64 (a : Int), .int .i64 0, .int .i64 (imm : Int)])]) Try.func26 rfl rfl rfl rfl ?_
 have hS := St.start (ro := ro) hro
 refine W.seq (W.region ?_)
 refine WL.box (v := .agg #[.int .i64 17, .int .i64 (rd : Int), .int .i64 (a : Int), .int .i64 0, .int .i64 (imm : Int)]) (cs := [.int .i64 17, .int .i64 (rd : Int), .int .i64 (a : Int), .int .i64 0, .int .i64 (imm : Int)]) rfl rfl rfl rfl hS ?_
 clear hS; intro w2 b1 hb_b1 hS
 refine WL.assign rfl rfl rfl (WL.nil (N.seq (W.seq (W.seq (W.region (WL.fieldAddr fo_45_0 rfl rfl rfl (WL.load1 (v := .int .i64 17) one_3 rfl rfl rfl (hS.cell 0 rfl rfl) (WL.bin rfl rfl rfl rfl rfl ?_))))))))
 refine WL.set 9 (v' := .bool false) rfl rfl ?_
 refine WL.move rfl rfl rfl (WL.fieldAddr fo_45_0 rfl rfl rfl (WL.load1 (v := .int .i64 17) one_3 rfl rfl rfl (hS.cell 0 rfl rfl) (WL.bin rfl rfl rfl rfl rfl ?_)))
 refine WL.set 13 (v' := .bool false) rfl rfl ?_
 refine WL.pick (v := .bool false) rfl rfl rfl rfl rfl rfl (WL.nil (N.seq (W.condF rfl (W.skip (N.seq (W.seq (W.region (WL.fieldAddr fo_45_0 rfl rfl rfl (WL.load1 (v := .int .i64 17) one_3 rfl rfl rfl (hS.cell 0 rfl rfl) ?_)))))))))
 refine WL.callF (vs := [.int .i64 17]) Try.func27 (by kernel_rfl) rfl rfl rfl (formH_ret (ro := ro) (fun b hb => (hS.snap b hb).1)) ?_
 rintro v w3 ⟨rfl, hbl⟩
 replace hS := hS.grow hbl
 refine WL.assign rfl rfl rfl (WL.nil (N.seq (W.seq (W.region (WL.fieldAddr fo_45_1 rfl rfl rfl (WL.load1 (v := .int .i64 (rd : Int)) one_3 rfl rfl rfl (hS.cell 0 rfl rfl) ?_))))))
 refine WL.callF (vs := [.int .i64 (rd : Int)]) Try.func41 (by kernel_rfl) rfl rfl rfl (reg_ret rd (by omega) (ro := ro) (fun b hb => (hS.snap b hb).1)) ?_
 rintro v w4 ⟨rfl, hbl⟩
 replace hS := hS.grow hbl
 refine WL.assign rfl rfl rfl (WL.nil (N.seq (W.seq (W.region (WL.fieldAddr fo_45_2 rfl rfl rfl (WL.load1 (v := .int .i64 (a : Int)) one_3 rfl rfl rfl (hS.cell 0 rfl rfl) ?_))))))
 refine WL.callF (vs := [.int .i64 (a : Int)]) Try.func41 (by kernel_rfl) rfl rfl rfl (reg_ret a (by omega) (ro := ro) (fun b hb => (hS.snap b hb).1)) ?_
 rintro v w5 ⟨rfl, hbl⟩
 replace hS := hS.grow hbl
 refine WL.assign rfl rfl rfl (WL.nil (N.seq (W.seq (W.region (WL.fieldAddr fo_45_3 rfl rfl rfl (WL.load1 (v := .int .i64 0) one_3 rfl rfl rfl (hS.cell 0 rfl rfl) ?_))))))
 refine WL.callF (vs := [.int .i64 0]) Try.func41 (by kernel_rfl) rfl rfl rfl (reg_ret 0 (by omega) (ro := ro) (fun b hb => (hS.snap b hb).1)) ?_
 rintro v w6 ⟨rfl, hbl⟩
 replace hS := hS.grow hbl
 refine WL.assign rfl rfl rfl (WL.nil (N.seq (W.seq (W.seq (W.region (WL.move rfl rfl rfl (WL.bin rfl rfl rfl rfl rfl ?_)))))))
 refine WL.set 28 (v' := .bool false) rfl rfl ?_
 refine WL.nil (N.seq (W.condF rfl (W.skip (N.seq (W.seq (W.seq (W.region (WL.move rfl rfl rfl (WL.bin rfl rfl rfl rfl rfl ?_)))))))))
 refine WL.set 42 (v' := .bool false) rfl rfl ?_
 refine WL.nil (N.seq (W.condF rfl (W.skip (N.seq (W.seq (W.seq (W.region (WL.move rfl rfl rfl (WL.bin rfl rfl rfl rfl rfl ?_)))))))))
 refine WL.set 63 (v' := .bool true) rfl rfl ?_
 refine WL.nil (N.seq (W.condT rfl (W.seq (W.region (WL.move rfl rfl rfl (WL.move rfl rfl rfl (WL.move rfl rfl rfl (WL.pick (v := .bool true) rfl rfl rfl rfl rfl rfl (WL.move rfl rfl rfl ?_)))))))))
 refine WL.fieldAddr fo_45_3 rfl rfl rfl (WL.load1 (v := .int .i64 0) one_3 rfl rfl rfl (hS.cell 0 rfl rfl) (WL.bin rfl rfl rfl rfl rfl ?_))
 refine WL.set 71 (v' := .bool true) rfl rfl ?_
 refine WL.pick (v := .bool true) rfl rfl rfl rfl rfl rfl (WL.move rfl rfl rfl (WL.fieldAddr fo_45_4 rfl rfl rfl (WL.load1 (v := .int .i64 (imm : Int)) one_2 rfl rfl rfl (hS.cell 0 rfl rfl) (WL.bin rfl rfl rfl rfl rfl ?_))))
 refine WL.set 76 (v' := .bool true) rfl (congrArg Value.bool (show (decide (0 ≤ (imm : Int))) = true from decide_eq_true (show 0 ≤ (imm : Int) from by omega))) ?_
 refine WL.pick (v := .bool true) rfl rfl rfl rfl rfl rfl (WL.move rfl rfl rfl (WL.fieldAddr fo_45_4 rfl rfl rfl (WL.load1 (v := .int .i64 (imm : Int)) one_2 rfl rfl rfl (hS.cell 0 rfl rfl) (WL.bin rfl rfl rfl rfl rfl ?_))))
 refine WL.set 81 (v' := .bool true) rfl (congrArg Value.bool (show (decide ((imm : Int) ≤ 63)) = true from decide_eq_true (show (imm : Int) ≤ 63 from by omega))) ?_
 refine WL.pick (v := .bool true) rfl rfl rfl rfl rfl rfl (WL.assign rfl rfl rfl (WL.nil (N.seq ?_)))
 refine Fin.ret1 rfl (v := .bool true) rfl ?_
 exact ⟨rfl, hS.below⟩

set_option maxRecDepth 10000 in
set_option maxHeartbeats 4000000 in
theorem wordH_ret  (rd a imm : Nat) (hrd : rd ≤ 31) (ha : a ≤ 31) (hi : imm ≤ 63) {w : World} {ro : Nat → Prop} (hro : ∀ b, ro b → b < w.heap.size) : Ret Try.prog 17 #[.agg #[.int .i64 17, .int .i64 (rd : Int), .int .i64 (a : Int), .int .i64 0, .int .i64 (imm : Int)]] w fun v w' => v = .tuple #[.int .u32 ((wordN 17 rd a 0 imm : Nat) : Int), .int .i64 0] ∧ Below w.heap.size w w' := by
 refine Ret.enter (P := Try.prog) (n := 168) (args := [.agg #[.int .i64 17, .int .i64 (rd : Int), .int .i64 (a : Int), .int .i64 0, .int .i64 (imm : Int)]]) (σ := [(0, .agg #[.int .i64 17, .int .i64 (rd : Int), .int .i64 (a : Int), .int .i64 0, .int .i64 (imm : Int)])]) Try.func17 rfl rfl rfl rfl ?_
 have hS := St.start (ro := ro) hro
 have hbase := base_I (k := 17) (by omega)
 refine W.seq (W.region ?_)
 refine WL.box (v := .agg #[.int .i64 17, .int .i64 (rd : Int), .int .i64 (a : Int), .int .i64 0, .int .i64 (imm : Int)]) (cs := [.int .i64 17, .int .i64 (rd : Int), .int .i64 (a : Int), .int .i64 0, .int .i64 (imm : Int)]) rfl rfl rfl rfl hS ?_
 clear hS; intro w2 b1 hb_b1 hS
 refine WL.assign rfl rfl rfl (WL.assign rfl rfl rfl (WL.nil (N.seq (W.seq (W.region (WL.loadN (cs := [.int .i64 17, .int .i64 (rd : Int), .int .i64 (a : Int), .int .i64 0, .int .i64 (imm : Int)]) agg_45 rfl rfl rfl rfl (hS.cells 0 (m := 5) rfl rfl) ?_))))))
 refine WL.callF (vs := [.agg #[.int .i64 17, .int .i64 (rd : Int), .int .i64 (a : Int), .int .i64 0, .int .i64 (imm : Int)]]) Try.func26 (by kernel_rfl) rfl rfl rfl (mayH_ret rd a imm hrd ha hi (ro := ro) (fun b hb => (hS.snap b hb).1)) ?_
 rintro v w3 ⟨rfl, hbl⟩
 replace hS := hS.grow hbl
 refine WL.assign rfl rfl rfl (WL.nil (N.seq (W.seq (W.seq (W.region (WL.move rfl rfl rfl (WL.not rfl rfl rfl ?_)))))))
 refine WL.set 11 (v' := .bool false) rfl rfl ?_
 refine WL.nil (N.seq (W.condF rfl (W.skip (N.seq (W.seq (W.region (WL.fieldAddr fo_45_0 rfl rfl rfl (WL.load1 (v := .int .i64 17) one_3 rfl rfl rfl (hS.cell 0 rfl rfl) ?_))))))))
 refine WL.callF (vs := [.int .i64 17]) Try.func27 (by kernel_rfl) rfl rfl rfl (formH_ret (ro := ro) (fun b hb => (hS.snap b hb).1)) ?_
 rintro v w4 ⟨rfl, hbl⟩
 replace hS := hS.grow hbl
 refine WL.assign rfl rfl rfl (WL.nil (N.seq (W.seq (W.region (WL.fieldAddr fo_45_0 rfl rfl rfl (WL.load1 (v := .int .i64 17) one_3 rfl rfl rfl (hS.cell 0 rfl rfl) ?_))))))
 refine WL.callF (vs := [.int .i64 17]) Try.func28 (by kernel_rfl) rfl rfl rfl (fixedH_ret (ro := ro) (fun b hb => (hS.snap b hb).1)) ?_
 rintro v w5 ⟨rfl, hbl⟩
 replace hS := hS.grow hbl
 refine WL.assign rfl rfl rfl (WL.nil (N.seq (W.seq (W.region (WL.fieldAddr fo_45_4 rfl rfl rfl (WL.load1 (v := .int .i64 (imm : Int)) one_2 rfl rfl rfl (hS.cell 0 rfl rfl) ?_))))))
 refine WL.convInt (by rw [Try.underlying2]; rfl) Try.underlying50 rfl rfl rfl ?_
 refine WL.set 20 (v' := .int .u32 ((imm : Nat) : Int)) rfl (congrArg _ (wrapN32 (by omega) (by omega))) ?_
 refine WL.assign rfl rfl rfl (WL.nil (N.seq (W.seq (W.seq (W.region (WL.move rfl rfl rfl (WL.bin rfl rfl rfl rfl rfl ?_)))))))
 refine WL.set 22 (v' := .bool false) rfl rfl ?_
 refine WL.move rfl rfl rfl (WL.move rfl rfl rfl (WL.bin rfl rfl rfl rfl rfl ?_))
 refine WL.set 25 (v' := .bool false) rfl rfl ?_
 refine WL.pick (v := .bool false) rfl rfl rfl rfl rfl rfl (WL.move rfl rfl rfl (WL.move rfl rfl rfl (WL.bin rfl rfl rfl rfl rfl ?_)))
 refine WL.set 29 (v' := .bool true) rfl rfl ?_
 refine WL.pick (v := .bool true) rfl rfl rfl rfl rfl rfl (WL.move rfl rfl rfl (WL.skp rfl rfl (WL.skp rfl rfl (WL.pick (v := .bool true) rfl rfl rfl rfl rfl rfl (WL.move rfl rfl rfl (WL.skp rfl rfl (WL.skp rfl rfl (WL.pick (v := .bool true) rfl rfl rfl rfl rfl rfl (WL.nil ?_)))))))))
 refine N.seq (W.condT rfl ?_)
 refine W.drawL (by kernel_rfl) 7 ((.q (.int .u32 ((baseN 17 : Nat) : Int))) :: (.q (.pointer (some ⟨b1, 1, none⟩))) :: (.q (.int .i64 (rd : Int))) :: (.q (.int .u32 ((rd : Nat) : Int))) :: (.q (.int .u32 128)) :: (.q (.int .u32 ((rd * 128 : Nat) : Int))) :: (.q (.int .u32 ((baseN 17 + rd * 128 : Nat) : Int))) :: []) (by kernel_rfl) (by kernel_rfl) [(1, .pointer (some ⟨b1, 0, none⟩)), (2, .int .u32 0), (3, .int .i64 0), (5, .int .u8 72), (6, .int .u32 ((baseN 17 : Nat) : Int)), (7, .int .u32 ((imm : Nat) : Int))] ⟨rfl, rfl, rfl, rfl, rfl, rfl, trivial⟩ (by kernel_rfl) hS ?_ ?_
 ·
  refine And.intro (fun β w hS => ?_) ?_
  ·
   refine WL.sub (σ' := [(6, .int .u32 ((baseN 17 : Nat) : Int))]) ⟨rfl, trivial⟩ ?_
   refine WL.move rfl rfl rfl ?_
   exact WL.nil (N.cut () ⟨rfl, trivial⟩ (Below.refl _ _))
  refine And.intro (fun β w hS => ?_) ?_
  ·
   refine WL.sub (σ' := [(1, .pointer (some ⟨b1, 0, none⟩))]) ⟨rfl, trivial⟩ ?_
   refine WL.fieldAddr fo_45_1 rfl rfl rfl ?_
   exact WL.nil (N.cut () ⟨rfl, trivial⟩ (Below.refl _ _))
  refine And.intro (fun β w hS => ?_) ?_
  ·
   refine WL.sub (σ' := [(40, .pointer (some ⟨b1, 1, none⟩))]) ⟨rfl, trivial⟩ ?_
   refine WL.load1 (v := .int .i64 (rd : Int)) one_3 rfl rfl rfl (hS.cell 0 rfl rfl) ?_
   exact WL.nil (N.cut () ⟨rfl, trivial⟩ (Below.refl _ _))
  refine And.intro (fun β w hS => ?_) ?_
  ·
   refine WL.sub (σ' := [(41, .int .i64 (rd : Int))]) ⟨rfl, trivial⟩ ?_
   refine WL.convInt (by rw [Try.underlying3]; rfl) Try.underlying50 rfl rfl rfl ?_
   refine WL.set 42 (v' := .int .u32 ((rd : Nat) : Int)) rfl (congrArg _ (wrapN32 (by omega) (by omega))) ?_
   exact WL.nil (N.cut () ⟨rfl, trivial⟩ (Below.refl _ _))
  refine And.intro (fun β w hS => ?_) ?_
  ·
   refine WL.sub (σ' := []) trivial ?_
   refine WL.callF (vs := [.int .i64 7]) Try.func29 (by kernel_rfl) rfl rfl rfl (pow32_ret 7 (by omega) (ro := ro) (fun b hb => (hS.snap b hb).1)) ?_
   rintro v w7 ⟨rfl, hbl⟩
   replace hS := hS.grow hbl
   exact WL.nil (N.cut () ⟨rfl, trivial⟩ hbl)
  refine And.intro (fun β w hS => ?_) ?_
  ·
   refine WL.sub (σ' := [(42, .int .u32 ((rd : Nat) : Int)), (43, .int .u32 128)]) ⟨rfl, rfl, trivial⟩ ?_
   refine WL.bin rfl rfl rfl rfl rfl ?_
   refine WL.set 44 (v' := .int .u32 ((rd * 128 : Nat) : Int)) rfl (congrArg _ (wrapN32 (by omega) (by omega))) ?_
   exact WL.nil (N.cut () ⟨rfl, trivial⟩ (Below.refl _ _))
  refine And.intro (fun β w hS => ?_) ?_
  ·
   refine WL.sub (σ' := [(39, .int .u32 ((baseN 17 : Nat) : Int)), (44, .int .u32 ((rd * 128 : Nat) : Int))]) ⟨rfl, rfl, trivial⟩ ?_
   refine WL.bin rfl rfl rfl rfl rfl ?_
   refine WL.set 45 (v' := .int .u32 ((baseN 17 + rd * 128 : Nat) : Int)) rfl (congrArg _ (wrapN32 (by omega) (by omega))) ?_
   exact WL.nil (N.cut () ⟨rfl, trivial⟩ (Below.refl _ _))
  trivial
 clear hS; intro w8 β hS
 refine WL.sub (σ' := [(1, .pointer (some ⟨b1, 0, none⟩)), (2, .int .u32 0), (3, .int .i64 0), (5, .int .u8 72), (6, .int .u32 ((baseN 17 : Nat) : Int)), (7, .int .u32 ((imm : Nat) : Int)), (45, .int .u32 ((baseN 17 + rd * 128 : Nat) : Int))]) ⟨rfl, rfl, rfl, rfl, rfl, rfl, rfl, trivial⟩ ?_
 refine WL.assign rfl rfl rfl (WL.nil (N.seq (W.seq (W.seq (W.region (WL.move rfl rfl rfl (WL.bin rfl rfl rfl rfl rfl ?_)))))))
 refine WL.set 47 (v' := .bool false) rfl rfl ?_
 refine WL.move rfl rfl rfl (WL.move rfl rfl rfl (WL.bin rfl rfl rfl rfl rfl ?_))
 refine WL.set 50 (v' := .bool false) rfl rfl ?_
 refine WL.pick (v := .bool false) rfl rfl rfl rfl rfl rfl (WL.move rfl rfl rfl (WL.move rfl rfl rfl (WL.bin rfl rfl rfl rfl rfl ?_)))
 refine WL.set 54 (v' := .bool true) rfl rfl ?_
 refine WL.pick (v := .bool true) rfl rfl rfl rfl rfl rfl (WL.move rfl rfl rfl (WL.skp rfl rfl (WL.skp rfl rfl (WL.pick (v := .bool true) rfl rfl rfl rfl rfl rfl (WL.move rfl rfl rfl (WL.skp rfl rfl (WL.skp rfl rfl (WL.pick (v := .bool true) rfl rfl rfl rfl rfl rfl (WL.nil ?_)))))))))
 refine N.seq (W.condT rfl ?_)
 refine W.drawL (by kernel_rfl) 7 ((.q (.int .u32 ((baseN 17 + rd * 128 : Nat) : Int))) :: (.q (.pointer (some ⟨b1, 2, none⟩))) :: (.q (.int .i64 (a : Int))) :: (.q (.int .u32 ((a : Nat) : Int))) :: (.q (.int .u32 32768)) :: (.q (.int .u32 ((a * 32768 : Nat) : Int))) :: (.q (.int .u32 ((baseN 17 + rd * 128 + a * 32768 : Nat) : Int))) :: []) (by kernel_rfl) (by kernel_rfl) [(1, .pointer (some ⟨b1, 0, none⟩)), (2, .int .u32 0), (3, .int .i64 0), (5, .int .u8 72), (6, .int .u32 ((baseN 17 + rd * 128 : Nat) : Int)), (7, .int .u32 ((imm : Nat) : Int))] ⟨rfl, rfl, rfl, rfl, rfl, rfl, trivial⟩ (by kernel_rfl) hS ?_ ?_
 ·
  refine And.intro (fun β w hS => ?_) ?_
  ·
   refine WL.sub (σ' := [(6, .int .u32 ((baseN 17 + rd * 128 : Nat) : Int))]) ⟨rfl, trivial⟩ ?_
   refine WL.move rfl rfl rfl ?_
   exact WL.nil (N.cut () ⟨rfl, trivial⟩ (Below.refl _ _))
  refine And.intro (fun β w hS => ?_) ?_
  ·
   refine WL.sub (σ' := [(1, .pointer (some ⟨b1, 0, none⟩))]) ⟨rfl, trivial⟩ ?_
   refine WL.fieldAddr fo_45_2 rfl rfl rfl ?_
   exact WL.nil (N.cut () ⟨rfl, trivial⟩ (Below.refl _ _))
  refine And.intro (fun β w hS => ?_) ?_
  ·
   refine WL.sub (σ' := [(65, .pointer (some ⟨b1, 2, none⟩))]) ⟨rfl, trivial⟩ ?_
   refine WL.load1 (v := .int .i64 (a : Int)) one_3 rfl rfl rfl (hS.cell 0 rfl rfl) ?_
   exact WL.nil (N.cut () ⟨rfl, trivial⟩ (Below.refl _ _))
  refine And.intro (fun β w hS => ?_) ?_
  ·
   refine WL.sub (σ' := [(66, .int .i64 (a : Int))]) ⟨rfl, trivial⟩ ?_
   refine WL.convInt (by rw [Try.underlying3]; rfl) Try.underlying50 rfl rfl rfl ?_
   refine WL.set 67 (v' := .int .u32 ((a : Nat) : Int)) rfl (congrArg _ (wrapN32 (by omega) (by omega))) ?_
   exact WL.nil (N.cut () ⟨rfl, trivial⟩ (Below.refl _ _))
  refine And.intro (fun β w hS => ?_) ?_
  ·
   refine WL.sub (σ' := []) trivial ?_
   refine WL.callF (vs := [.int .i64 15]) Try.func29 (by kernel_rfl) rfl rfl rfl (pow32_ret 15 (by omega) (ro := ro) (fun b hb => (hS.snap b hb).1)) ?_
   rintro v w10 ⟨rfl, hbl⟩
   replace hS := hS.grow hbl
   exact WL.nil (N.cut () ⟨rfl, trivial⟩ hbl)
  refine And.intro (fun β w hS => ?_) ?_
  ·
   refine WL.sub (σ' := [(67, .int .u32 ((a : Nat) : Int)), (68, .int .u32 32768)]) ⟨rfl, rfl, trivial⟩ ?_
   refine WL.bin rfl rfl rfl rfl rfl ?_
   refine WL.set 69 (v' := .int .u32 ((a * 32768 : Nat) : Int)) rfl (congrArg _ (wrapN32 (by omega) (by omega))) ?_
   exact WL.nil (N.cut () ⟨rfl, trivial⟩ (Below.refl _ _))
  refine And.intro (fun β w hS => ?_) ?_
  ·
   refine WL.sub (σ' := [(64, .int .u32 ((baseN 17 + rd * 128 : Nat) : Int)), (69, .int .u32 ((a * 32768 : Nat) : Int))]) ⟨rfl, rfl, trivial⟩ ?_
   refine WL.bin rfl rfl rfl rfl rfl ?_
   refine WL.set 70 (v' := .int .u32 ((baseN 17 + rd * 128 + a * 32768 : Nat) : Int)) rfl (congrArg _ (wrapN32 (by omega) (by omega))) ?_
   exact WL.nil (N.cut () ⟨rfl, trivial⟩ (Below.refl _ _))
  trivial
 clear hS; intro w11 β hS
 refine WL.sub (σ' := [(1, .pointer (some ⟨b1, 0, none⟩)), (2, .int .u32 0), (3, .int .i64 0), (5, .int .u8 72), (6, .int .u32 ((baseN 17 + rd * 128 : Nat) : Int)), (7, .int .u32 ((imm : Nat) : Int)), (70, .int .u32 ((baseN 17 + rd * 128 + a * 32768 : Nat) : Int))]) ⟨rfl, rfl, rfl, rfl, rfl, rfl, rfl, trivial⟩ ?_
 refine WL.assign rfl rfl rfl (WL.nil (N.seq (W.seq (W.seq (W.region (WL.move rfl rfl rfl (WL.bin rfl rfl rfl rfl rfl ?_)))))))
 refine WL.set 72 (v' := .bool false) rfl rfl ?_
 refine WL.move rfl rfl rfl (WL.move rfl rfl rfl (WL.bin rfl rfl rfl rfl rfl ?_))
 refine WL.set 75 (v' := .bool false) rfl rfl ?_
 refine WL.pick (v := .bool false) rfl rfl rfl rfl rfl rfl (WL.move rfl rfl rfl (WL.move rfl rfl rfl (WL.bin rfl rfl rfl rfl rfl ?_)))
 refine WL.set 79 (v' := .bool false) rfl rfl ?_
 refine WL.pick (v := .bool false) rfl rfl rfl rfl rfl rfl (WL.nil (N.seq (W.condF rfl (W.skip (N.seq (W.seq (W.seq (W.region (WL.move rfl rfl rfl ?_)))))))))
 refine WL.bin rfl rfl rfl rfl rfl ?_
 refine WL.set 89 (v' := .bool false) rfl rfl ?_
 refine WL.move rfl rfl rfl (WL.move rfl rfl rfl (WL.bin rfl rfl rfl rfl rfl ?_))
 refine WL.set 92 (v' := .bool true) rfl rfl ?_
 refine WL.pick (v := .bool true) rfl rfl rfl rfl rfl rfl (WL.nil (N.seq (W.condT rfl (W.region (WL.move rfl rfl rfl (WL.move rfl rfl rfl ?_))))))
 refine WL.callF (vs := [.int .u32 ((imm : Nat) : Int), .int .i64 0, .int .i64 12]) Try.func30 (by kernel_rfl) rfl rfl rfl ((by have h := part_ret imm 0 12 (by omega) (by omega) (by omega) (ro := ro) (w := w11) (fun b hb => (hS.snap b hb).1); rw [show imm / 2 ^ 0 % 2 ^ 12 = imm by omega] at h; exact h)) ?_
 rintro v w12 ⟨rfl, hbl⟩
 replace hS := hS.grow hbl
 refine WL.callF (vs := [.int .i64 20]) Try.func29 (by kernel_rfl) rfl rfl rfl (pow32_ret 20 (by omega) (ro := ro) (fun b hb => (hS.snap b hb).1)) ?_
 rintro v w13 ⟨rfl, hbl⟩
 replace hS := hS.grow hbl
 refine WL.bin rfl rfl rfl rfl rfl ?_
 refine WL.set 98 (v' := .int .u32 ((imm * 1048576 : Nat) : Int)) rfl (congrArg _ (wrapN32 (by omega) (by omega))) ?_
 refine WL.bin rfl rfl rfl rfl rfl ?_
 refine WL.set 99 (v' := .int .u32 ((baseN 17 + rd * 128 + a * 32768 + imm * 1048576 : Nat) : Int)) rfl (congrArg _ (wrapN32 (by omega) (by omega))) ?_
 refine WL.assign rfl rfl rfl (WL.nil (N.seq (W.seq (W.seq (W.region (WL.move rfl rfl rfl (WL.bin rfl rfl rfl rfl rfl ?_)))))))
 refine WL.set 101 (v' := .bool false) rfl rfl ?_
 refine WL.nil (N.seq (W.condF rfl (W.skip (N.seq (W.seq (W.seq (W.region (WL.move rfl rfl rfl (WL.bin rfl rfl rfl rfl rfl ?_)))))))))
 refine WL.set 114 (v' := .bool false) rfl rfl ?_
 refine WL.nil (N.seq (W.condF rfl (W.skip (N.seq (W.seq (W.seq (W.region (WL.move rfl rfl rfl (WL.bin rfl rfl rfl rfl rfl ?_)))))))))
 refine WL.set 137 (v' := .bool false) rfl rfl ?_
 refine WL.nil (N.seq (W.condF rfl (W.skip (N.seq (W.seq (W.seq (W.region (WL.move rfl rfl rfl (WL.bin rfl rfl rfl rfl rfl ?_)))))))))
 refine WL.set 145 (v' := .bool false) rfl rfl ?_
 refine WL.nil (N.seq (W.condF rfl (W.skip (N.seq (W.seq (W.region (WL.move rfl rfl rfl (WL.assign rfl rfl rfl (WL.assign rfl rfl rfl ?_)))))))))
 refine WL.nil (N.seq ?_)
 refine Fin.ret2 rfl (v := .int .u32 ((baseN 17 + rd * 128 + a * 32768 + imm * 1048576 : Nat) : Int)) (v' := .int .i64 0) rfl rfl ?_
 have e9 : wordN 17 rd a 0 imm = baseN 17 + rd * 128 + a * 32768 + imm * 1048576 := by unfold wordN; rw [if_neg (by omega)]
 rw [e9]
 exact ⟨rfl, hS.below⟩

end Go.Proofs.Ytcmmhfknkldmcaa
