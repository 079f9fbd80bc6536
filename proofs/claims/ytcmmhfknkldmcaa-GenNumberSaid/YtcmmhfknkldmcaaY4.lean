/-
  Contracts of the document's machine, for the instructions of a number. No condition beyond those that each theorem states.
-/
import Derived.Test.YtcmmhfknkldmcaaY3
namespace Go.Proofs.Ytcmmhfknkldmcaa
open Go.RowKit
theorem siz_45 : tySize Try.prog 45 5 = true := by kernel_rfl
set_option maxRecDepth 10000 in
set_option maxHeartbeats 4000000 in
theorem below_ret (x : Nat) (hx : x ≤ 2047) {w : World} {ro : Nat → Prop} (hro : ∀ b, ro b → b < w.heap.size) : Ret Try.prog 43 #[.int .u32 (x : Int), .int .i64 12] w fun v w' => v = .int .i64 (x : Int) ∧ Below w.heap.size w w' := by
 refine Ret.enter (P := Try.prog) (n := 22) (args := [.int .u32 (x : Int), .int .i64 12]) (σ := [(0, .int .u32 (x : Int)), (1, .int .i64 12)]) Try.func43 rfl rfl rfl rfl ?_
 have hS := St.start (ro := ro) hro
 refine W.seq (W.region (WL.assign rfl rfl rfl (WL.nil (N.seq (W.seq (W.region (WL.move rfl rfl rfl ?_)))))))
 refine WL.convInt (by rw [Try.underlying50]; rfl) Try.underlying2 rfl rfl rfl ?_
 refine WL.set 7 (v' := .int .i64 ((x : Nat) : Int)) rfl (congrArg _ (wrapNi (by omega) (by omega))) ?_
 refine WL.assign rfl rfl rfl (WL.nil (N.seq (W.seq (W.seq (W.region (WL.move rfl rfl rfl (WL.move rfl rfl rfl ?_)))))))
 refine WL.sub_ (c := 11) rfl rfl rfl rfl rfl (by omega) ?_
 refine WL.callF (vs := [.int .i64 11]) Try.func29 (by kernel_rfl) rfl rfl rfl (pow32_ret 11 (by omega) (ro := ro) (fun b hb => (hS.snap b hb).1)) ?_
 rintro v w1 ⟨rfl, hbl⟩
 replace hS := hS.grow hbl
 refine WL.convInt (by rw [Try.underlying50]; rfl) Try.underlying2 rfl rfl rfl ?_
 refine WL.set 12 (v' := .int .i64 ((2048 : Nat) : Int)) rfl (congrArg _ (wrapNi (by omega) (by omega))) ?_
 refine WL.bin rfl rfl rfl rfl rfl ?_
 refine WL.set 13 (v' := .bool false) rfl (congrArg Value.bool (show (decide (((2048 : Nat) : Int) ≤ ((x : Nat) : Int))) = false from decide_eq_false (show ¬ (((2048 : Nat) : Int) ≤ ((x : Nat) : Int)) from by omega))) ?_
 refine WL.nil (N.seq (W.condF rfl (W.skip (N.seq (W.seq (W.region (WL.move rfl rfl rfl (WL.assign rfl rfl rfl (WL.nil ?_)))))))))
 refine N.seq ?_
 refine Fin.ret1 rfl (v := .int .i64 ((x : Nat) : Int)) rfl ?_
 exact ⟨rfl, hS.below⟩

set_option maxRecDepth 10000 in
set_option maxHeartbeats 4000000 in
theorem takeI_ret (rd a imm : Nat) (hrd : rd ≤ 31) (ha : a ≤ 31) (hi : imm ≤ 2047) {w : World} {ro : Nat → Prop} (hro : ∀ b, ro b → b < w.heap.size) : Ret Try.prog 33 #[.int .u32 ((wordN 12 rd a 0 imm : Nat) : Int)] w fun v w' => v = .tuple #[.agg #[.int .i64 12, .int .i64 (rd : Int), .int .i64 (a : Int), .int .i64 0, .int .i64 (imm : Int)], .int .i64 0] ∧ Below w.heap.size w w' := by
 refine Ret.enter (P := Try.prog) (n := 156) (args := [.int .u32 ((wordN 12 rd a 0 imm : Nat) : Int)]) (σ := [(0, .int .u32 ((wordN 12 rd a 0 imm : Nat) : Int))]) Try.func33 rfl rfl rfl rfl ?_
 have hS := St.start (ro := ro) hro
 have hwt := word_take (K := 12) (by omega) hrd ha (show imm ≤ 2047 by omega); have hwl := word_lt (k := 12) (b := 0) (by omega) hrd ha (by omega) (show imm ≤ 2047 by omega)
 refine W.seq (W.region ?_)
 refine WL.alloc (tyZero_spec zer_45) rfl rfl hS ?_
 clear hS; intro w2 b1 hb_b1 hS
 refine WL.assign rfl rfl rfl (WL.nil (N.seq (W.seq (W.seq (W.region (WL.assign rfl rfl rfl (WL.nil (N.seq (W.block ?_)))))))))
 refine W.loop (α := Nat) (fun (k : Nat) => [(0, .int .u32 ((wordN 12 rd a 0 imm : Nat) : Int)), (2, .pointer (some ⟨b1, 0, none⟩)), (4, .int .i64 (k : Int))]) (fun (k : Nat) u => St w w u ro [(b1, .cells #[.int .i64 0, .int .i64 0, .int .i64 0, .int .i64 0, .int .i64 0] 45 (0, 0))] [] ∧ 1 ≤ k ∧ k ≤ 12) (fun (k : Nat) => 12 - k) 1 ⟨rfl, rfl, rfl, trivial⟩ ⟨hS, Nat.le_refl _, by omega⟩ ?_
 clear hS
 rintro k w3 ⟨hS, hk1, hk2⟩
 refine W.seq (W.seq (W.region (WL.move rfl rfl rfl (WL.bin rfl rfl rfl rfl rfl ?_))))
 refine WL.set 10 (v' := .bool true) rfl (congrArg Value.bool (show (decide ((k : Int) ≤ 31)) = true from decide_eq_true (show (k : Int) ≤ 31 from by omega))) ?_
 refine WL.nil (N.seq (W.condT rfl (W.skip (N.seq (W.seq (W.block (W.seq ?_)))))))
 rcases (show k ≤ 11 ∨ k = 12 by omega) with hkc | hkc
 ·
  have hk : 1 ≤ k ∧ k ≤ 11 := by omega
  refine W.region (WL.move rfl rfl rfl ?_)
  refine WL.callF (vs := [.int .i64 (k : Int)]) Try.func27 (by kernel_rfl) rfl rfl rfl (formR_ret k hk (ro := ro) (fun b hb => (hS.snap b hb).1)) ?_
  rintro v w4 ⟨rfl, hbl⟩
  replace hS := hS.grow hbl
  refine WL.assign rfl rfl rfl (WL.nil (N.seq (W.seq (W.region (WL.move rfl rfl rfl ?_)))))
  refine WL.build (ps := [(0, .int .i64 (k : Int))]) (cs := [.int .i64 (k : Int), .int .i64 0, .int .i64 0, .int .i64 0, .int .i64 0]) rfl rfl rfl (by kernel_rfl) ?_
  refine WL.alloc (tyZero_spec zer_45) rfl rfl hS ?_
  clear hS; intro w6 b5 hb_b5 hS
  refine WL.store0 #[.int .i64 (k : Int), .int .i64 0, .int .i64 0, .int .i64 0, .int .i64 0] rfl rfl rfl rfl siz_45 rfl rfl rfl hS ?_
  clear hS; intro w7 hS
  refine WL.nil (N.seq (W.seq (W.seq (W.region (WL.move rfl rfl rfl (WL.bin rfl rfl rfl rfl rfl ?_))))))
  refine WL.set 18 (v' := .bool true) rfl rfl ?_
  refine WL.move rfl rfl rfl (WL.skp rfl rfl (WL.skp rfl rfl (WL.pick (v := .bool true) rfl rfl rfl rfl rfl rfl (WL.move rfl rfl rfl (WL.skp rfl rfl (WL.skp rfl rfl (WL.pick (v := .bool true) rfl rfl rfl rfl rfl rfl (WL.move rfl rfl rfl (WL.skp rfl rfl ?_)))))))))
  refine WL.skp rfl rfl (WL.pick (v := .bool true) rfl rfl rfl rfl rfl rfl (WL.move rfl rfl rfl (WL.skp rfl rfl (WL.skp rfl rfl (WL.pick (v := .bool true) rfl rfl rfl rfl rfl rfl (WL.nil (N.seq (W.condT rfl (W.region ?_)))))))))
  refine WL.move rfl rfl rfl ?_
  refine WL.callF (vs := [.int .u32 ((wordN 12 rd a 0 imm : Nat) : Int), .int .i64 7, .int .i64 5]) Try.func30 (by kernel_rfl) rfl rfl rfl ((by have h := part_ret (wordN 12 rd a 0 imm) 7 5 hwl (by omega) (by omega) (ro := ro) (w := w7) (fun b hb => (hS.snap b hb).1); rw [show (wordN 12 rd a 0 imm) / 2 ^ 7 % 2 ^ 5 = rd from hwt.1] at h; exact h)) ?_
  rintro v w8 ⟨rfl, hbl⟩
  replace hS := hS.grow hbl
  refine WL.convInt (by rw [Try.underlying50]; rfl) Try.underlying3 rfl rfl rfl ?_
  refine WL.set 37 (v' := .int .i64 ((rd : Nat) : Int)) rfl (congrArg _ (wrapNi (by omega) (by omega))) ?_
  refine WL.fieldAddr fo_45_1 rfl rfl rfl ?_
  refine WL.store0 #[.int .i64 (k : Int), .int .i64 ((rd : Nat) : Int), .int .i64 0, .int .i64 0, .int .i64 0] rfl rfl rfl rfl siz_3 rfl rfl rfl hS ?_
  clear hS; intro w9 hS
  refine WL.nil (N.seq (W.seq (W.seq (W.region (WL.move rfl rfl rfl (WL.bin rfl rfl rfl rfl rfl ?_))))))
  refine WL.set 40 (v' := .bool true) rfl rfl ?_
  refine WL.move rfl rfl rfl (WL.skp rfl rfl (WL.skp rfl rfl (WL.pick (v := .bool true) rfl rfl rfl rfl rfl rfl (WL.move rfl rfl rfl (WL.skp rfl rfl (WL.skp rfl rfl (WL.pick (v := .bool true) rfl rfl rfl rfl rfl rfl (WL.move rfl rfl rfl (WL.skp rfl rfl ?_)))))))))
  refine WL.skp rfl rfl (WL.pick (v := .bool true) rfl rfl rfl rfl rfl rfl (WL.move rfl rfl rfl (WL.skp rfl rfl (WL.skp rfl rfl (WL.pick (v := .bool true) rfl rfl rfl rfl rfl rfl (WL.nil (N.seq (W.condT rfl (W.region ?_)))))))))
  refine WL.move rfl rfl rfl ?_
  refine WL.callF (vs := [.int .u32 ((wordN 12 rd a 0 imm : Nat) : Int), .int .i64 15, .int .i64 5]) Try.func30 (by kernel_rfl) rfl rfl rfl ((by have h := part_ret (wordN 12 rd a 0 imm) 15 5 hwl (by omega) (by omega) (ro := ro) (w := w9) (fun b hb => (hS.snap b hb).1); rw [show (wordN 12 rd a 0 imm) / 2 ^ 15 % 2 ^ 5 = a from hwt.2.1] at h; exact h)) ?_
  rintro v w10 ⟨rfl, hbl⟩
  replace hS := hS.grow hbl
  refine WL.convInt (by rw [Try.underlying50]; rfl) Try.underlying3 rfl rfl rfl ?_
  refine WL.set 59 (v' := .int .i64 ((a : Nat) : Int)) rfl (congrArg _ (wrapNi (by omega) (by omega))) ?_
  refine WL.fieldAddr fo_45_2 rfl rfl rfl ?_
  refine WL.store0 #[.int .i64 (k : Int), .int .i64 ((rd : Nat) : Int), .int .i64 ((a : Nat) : Int), .int .i64 0, .int .i64 0] rfl rfl rfl rfl siz_3 rfl rfl rfl hS ?_
  clear hS; intro w11 hS
  refine WL.nil (N.seq (W.seq (W.seq (W.region (WL.move rfl rfl rfl (WL.bin rfl rfl rfl rfl rfl ?_))))))
  refine WL.set 62 (v' := .bool true) rfl rfl ?_
  refine WL.move rfl rfl rfl (WL.skp rfl rfl (WL.skp rfl rfl (WL.pick (v := .bool true) rfl rfl rfl rfl rfl rfl (WL.move rfl rfl rfl (WL.skp rfl rfl (WL.skp rfl rfl (WL.pick (v := .bool true) rfl rfl rfl rfl rfl rfl (WL.nil (N.seq ?_)))))))))
  refine W.condT rfl (W.region (WL.move rfl rfl rfl ?_))
  refine WL.callF (vs := [.int .u32 ((wordN 12 rd a 0 imm : Nat) : Int), .int .i64 20, .int .i64 5]) Try.func30 (by kernel_rfl) rfl rfl rfl ((by have h := part_ret (wordN 12 rd a 0 imm) 20 5 hwl (by omega) (by omega) (ro := ro) (w := w11) (fun b hb => (hS.snap b hb).1); rw [show (wordN 12 rd a 0 imm) / 2 ^ 20 % 2 ^ 5 = imm % 32 from hwt.2.2.1] at h; exact h)) ?_
  rintro v w12 ⟨rfl, hbl⟩
  replace hS := hS.grow hbl
  refine WL.convInt (by rw [Try.underlying50]; rfl) Try.underlying3 rfl rfl rfl ?_
  refine WL.set 73 (v' := .int .i64 ((imm % 32 : Nat) : Int)) rfl (congrArg _ (wrapNi (by omega) (by omega))) ?_
  refine WL.fieldAddr fo_45_3 rfl rfl rfl ?_
  refine WL.store0 #[.int .i64 (k : Int), .int .i64 ((rd : Nat) : Int), .int .i64 ((a : Nat) : Int), .int .i64 ((imm % 32 : Nat) : Int), .int .i64 0] rfl rfl rfl rfl siz_3 rfl rfl rfl hS ?_
  clear hS; intro w13 hS
  refine WL.nil (N.seq (W.seq (W.seq (W.region (WL.move rfl rfl rfl (WL.bin rfl rfl rfl rfl rfl ?_))))))
  refine WL.set 76 (v' := .bool false) rfl rfl ?_
  refine WL.nil (N.seq (W.condF rfl (W.skip (N.seq (W.seq (W.seq (W.region (WL.move rfl rfl rfl (WL.bin rfl rfl rfl rfl rfl ?_)))))))))
  refine WL.set 82 (v' := .bool false) rfl rfl ?_
  refine WL.nil (N.seq (W.condF rfl (W.skip (N.seq (W.seq (W.seq (W.region (WL.move rfl rfl rfl (WL.bin rfl rfl rfl rfl rfl ?_)))))))))
  refine WL.set 88 (v' := .bool false) rfl rfl ?_
  refine WL.nil (N.seq (W.condF rfl (W.skip (N.seq (W.seq (W.seq (W.region (WL.move rfl rfl rfl (WL.bin rfl rfl rfl rfl rfl ?_)))))))))
  refine WL.set 98 (v' := .bool false) rfl rfl ?_
  refine WL.nil (N.seq (W.condF rfl (W.skip (N.seq (W.seq (W.seq (W.region (WL.move rfl rfl rfl (WL.bin rfl rfl rfl rfl rfl ?_)))))))))
  refine WL.set 117 (v' := .bool false) rfl rfl ?_
  refine WL.nil (N.seq (W.condF rfl (W.skip (N.seq (W.seq (W.seq (W.region (WL.move rfl rfl rfl (WL.bin rfl rfl rfl rfl rfl ?_)))))))))
  refine WL.set 124 (v' := .bool false) rfl rfl ?_
  refine WL.nil (N.seq (W.condF rfl (W.skip (N.seq (W.seq (W.region (WL.loadN (cs := [.int .i64 (k : Int), .int .i64 ((rd : Nat) : Int), .int .i64 ((a : Nat) : Int), .int .i64 ((imm % 32 : Nat) : Int), .int .i64 0]) agg_45 rfl rfl rfl rfl (hS.cells 0 (m := 5) rfl rfl) ?_)))))))
  refine WL.callF (vs := [.agg #[.int .i64 (k : Int), .int .i64 ((rd : Nat) : Int), .int .i64 ((a : Nat) : Int), .int .i64 ((imm % 32 : Nat) : Int), .int .i64 0]]) Try.func17 (by kernel_rfl) rfl rfl rfl (wordR_ret k hk rd a (imm % 32) hrd ha (by omega) (ro := ro) (fun b hb => (hS.snap b hb).1)) ?_
  rintro v w14 ⟨rfl, hbl⟩
  replace hS := hS.grow hbl
  refine WL.move rfl rfl rfl (WL.extract (v := .int .u32 ((wordN k rd a (imm % 32) 0 : Nat) : Int)) rfl rfl rfl rfl (WL.extract (v := .int .i64 0) rfl rfl rfl rfl (WL.assign rfl rfl rfl (WL.assign rfl rfl rfl (WL.nil (N.seq (W.seq (W.region (WL.move rfl rfl rfl ?_)))))))))
  refine WL.bin rfl rfl rfl rfl rfl ?_
  refine WL.set 148 (v' := .bool true) rfl rfl ?_
  refine WL.move rfl rfl rfl (WL.move rfl rfl rfl (WL.move rfl rfl rfl (WL.bin rfl rfl rfl rfl rfl ?_)))
  have hne : wordN k rd a (imm % 32) 0 ≠ wordN 12 rd a 0 imm := by have h9 := word_ne (K := 12) (rd := rd) (a := a) (imm := imm) (k := k) (b := imm % 32) (by omega) (by omega) (fun _ => by omega); unfold wordN at h9 ⊢; rw [if_pos hk.2] at h9 ⊢; exact h9
  refine WL.set 152 (v' := .bool false) rfl (congrArg Value.bool (decide_eq_false (by omega))) ?_
  refine WL.pick (v := .bool false) rfl rfl rfl rfl rfl rfl (WL.nil (N.seq (W.condF rfl (W.skip (N.blk (N.seq (W.region (WL.move rfl rfl rfl ?_))))))))
  refine WL.add (c := (k : Int) + 1) rfl rfl rfl rfl (rfl) (by omega) ?_
  refine WL.assign rfl rfl rfl (WL.nil ?_)
  have hS := hS.dropN 1
  exact N.loop (k + 1) ⟨rfl, rfl, rfl, trivial⟩ ⟨hS, by omega, by omega⟩ (by first | omega | (simp only; omega))
 subst hkc
 refine W.region (WL.move rfl rfl rfl ?_)
 refine WL.callF (vs := [.int .i64 ((12 : Nat) : Int)]) Try.func27 (by kernel_rfl) rfl rfl rfl (formI_ret 12 (by omega) (ro := ro) (fun b hb => (hS.snap b hb).1)) ?_
 rintro v w15 ⟨rfl, hbl⟩
 replace hS := hS.grow hbl
 refine WL.assign rfl rfl rfl (WL.nil (N.seq (W.seq (W.region (WL.move rfl rfl rfl ?_)))))
 refine WL.build (ps := [(0, .int .i64 ((12 : Nat) : Int))]) (cs := [.int .i64 ((12 : Nat) : Int), .int .i64 0, .int .i64 0, .int .i64 0, .int .i64 0]) rfl rfl rfl (by kernel_rfl) ?_
 refine WL.alloc (tyZero_spec zer_45) rfl rfl hS ?_
 clear hS; intro w17 b16 hb_b16 hS
 refine WL.store0 #[.int .i64 ((12 : Nat) : Int), .int .i64 0, .int .i64 0, .int .i64 0, .int .i64 0] rfl rfl rfl rfl siz_45 rfl rfl rfl hS ?_
 clear hS; intro w18 hS
 refine WL.nil (N.seq (W.seq (W.seq (W.region (WL.move rfl rfl rfl (WL.bin rfl rfl rfl rfl rfl ?_))))))
 refine WL.set 18 (v' := .bool false) rfl rfl ?_
 refine WL.move rfl rfl rfl (WL.move rfl rfl rfl (WL.bin rfl rfl rfl rfl rfl ?_))
 refine WL.set 21 (v' := .bool true) rfl rfl ?_
 refine WL.pick (v := .bool true) rfl rfl rfl rfl rfl rfl (WL.move rfl rfl rfl (WL.skp rfl rfl (WL.skp rfl rfl (WL.pick (v := .bool true) rfl rfl rfl rfl rfl rfl (WL.move rfl rfl rfl (WL.skp rfl rfl (WL.skp rfl rfl (WL.pick (v := .bool true) rfl rfl rfl rfl rfl rfl (WL.move rfl rfl rfl ?_)))))))))
 refine WL.skp rfl rfl (WL.skp rfl rfl (WL.pick (v := .bool true) rfl rfl rfl rfl rfl rfl (WL.nil (N.seq (W.condT rfl (W.region (WL.move rfl rfl rfl ?_)))))))
 refine WL.callF (vs := [.int .u32 ((wordN 12 rd a 0 imm : Nat) : Int), .int .i64 7, .int .i64 5]) Try.func30 (by kernel_rfl) rfl rfl rfl ((by have h := part_ret (wordN 12 rd a 0 imm) 7 5 hwl (by omega) (by omega) (ro := ro) (w := w18) (fun b hb => (hS.snap b hb).1); rw [show (wordN 12 rd a 0 imm) / 2 ^ 7 % 2 ^ 5 = rd from hwt.1] at h; exact h)) ?_
 rintro v w19 ⟨rfl, hbl⟩
 replace hS := hS.grow hbl
 refine WL.convInt (by rw [Try.underlying50]; rfl) Try.underlying3 rfl rfl rfl ?_
 refine WL.set 37 (v' := .int .i64 ((rd : Nat) : Int)) rfl (congrArg _ (wrapNi (by omega) (by omega))) ?_
 refine WL.fieldAddr fo_45_1 rfl rfl rfl ?_
 refine WL.store0 #[.int .i64 ((12 : Nat) : Int), .int .i64 ((rd : Nat) : Int), .int .i64 0, .int .i64 0, .int .i64 0] rfl rfl rfl rfl siz_3 rfl rfl rfl hS ?_
 clear hS; intro w20 hS
 refine WL.nil (N.seq (W.seq (W.seq (W.region (WL.move rfl rfl rfl (WL.bin rfl rfl rfl rfl rfl ?_))))))
 refine WL.set 40 (v' := .bool false) rfl rfl ?_
 refine WL.move rfl rfl rfl (WL.move rfl rfl rfl (WL.bin rfl rfl rfl rfl rfl ?_))
 refine WL.set 43 (v' := .bool true) rfl rfl ?_
 refine WL.pick (v := .bool true) rfl rfl rfl rfl rfl rfl (WL.move rfl rfl rfl (WL.skp rfl rfl (WL.skp rfl rfl (WL.pick (v := .bool true) rfl rfl rfl rfl rfl rfl (WL.move rfl rfl rfl (WL.skp rfl rfl (WL.skp rfl rfl (WL.pick (v := .bool true) rfl rfl rfl rfl rfl rfl (WL.move rfl rfl rfl ?_)))))))))
 refine WL.skp rfl rfl (WL.skp rfl rfl (WL.pick (v := .bool true) rfl rfl rfl rfl rfl rfl (WL.nil (N.seq (W.condT rfl (W.region (WL.move rfl rfl rfl ?_)))))))
 refine WL.callF (vs := [.int .u32 ((wordN 12 rd a 0 imm : Nat) : Int), .int .i64 15, .int .i64 5]) Try.func30 (by kernel_rfl) rfl rfl rfl ((by have h := part_ret (wordN 12 rd a 0 imm) 15 5 hwl (by omega) (by omega) (ro := ro) (w := w20) (fun b hb => (hS.snap b hb).1); rw [show (wordN 12 rd a 0 imm) / 2 ^ 15 % 2 ^ 5 = a from hwt.2.1] at h; exact h)) ?_
 rintro v w21 ⟨rfl, hbl⟩
 replace hS := hS.grow hbl
 refine WL.convInt (by rw [Try.underlying50]; rfl) Try.underlying3 rfl rfl rfl ?_
 refine WL.set 59 (v' := .int .i64 ((a : Nat) : Int)) rfl (congrArg _ (wrapNi (by omega) (by omega))) ?_
 refine WL.fieldAddr fo_45_2 rfl rfl rfl ?_
 refine WL.store0 #[.int .i64 ((12 : Nat) : Int), .int .i64 ((rd : Nat) : Int), .int .i64 ((a : Nat) : Int), .int .i64 0, .int .i64 0] rfl rfl rfl rfl siz_3 rfl rfl rfl hS ?_
 clear hS; intro w22 hS
 refine WL.nil (N.seq (W.seq (W.seq (W.region (WL.move rfl rfl rfl (WL.bin rfl rfl rfl rfl rfl ?_))))))
 refine WL.set 62 (v' := .bool false) rfl rfl ?_
 refine WL.move rfl rfl rfl (WL.move rfl rfl rfl (WL.bin rfl rfl rfl rfl rfl ?_))
 refine WL.set 65 (v' := .bool false) rfl rfl ?_
 refine WL.pick (v := .bool false) rfl rfl rfl rfl rfl rfl (WL.move rfl rfl rfl (WL.move rfl rfl rfl (WL.bin rfl rfl rfl rfl rfl ?_)))
 refine WL.set 69 (v' := .bool false) rfl rfl ?_
 refine WL.pick (v := .bool false) rfl rfl rfl rfl rfl rfl (WL.nil (N.seq (W.condF rfl (W.skip (N.seq (W.seq (W.seq (W.region (WL.move rfl rfl rfl ?_)))))))))
 refine WL.bin rfl rfl rfl rfl rfl ?_
 refine WL.set 76 (v' := .bool true) rfl rfl ?_
 refine WL.nil (N.seq (W.condT rfl (W.region (WL.move rfl rfl rfl ?_))))
 refine WL.callF (vs := [.int .u32 ((wordN 12 rd a 0 imm : Nat) : Int), .int .i64 20, .int .i64 12]) Try.func30 (by kernel_rfl) rfl rfl rfl ((by have h := part_ret (wordN 12 rd a 0 imm) 20 12 hwl (by omega) (by omega) (ro := ro) (w := w22) (fun b hb => (hS.snap b hb).1); rw [show (wordN 12 rd a 0 imm) / 2 ^ 20 % 2 ^ 12 = imm from hwt.2.2.2] at h; exact h)) ?_
 rintro v w23 ⟨rfl, hbl⟩
 replace hS := hS.grow hbl
 refine WL.callF (vs := [.int .u32 ((imm : Nat) : Int), .int .i64 12]) Try.func43 (by kernel_rfl) rfl rfl rfl (below_ret imm (by omega) (ro := ro) (fun b hb => (hS.snap b hb).1)) ?_
 rintro v w24 ⟨rfl, hbl⟩
 replace hS := hS.grow hbl
 refine WL.fieldAddr fo_45_4 rfl rfl rfl ?_
 refine WL.store0 #[.int .i64 ((12 : Nat) : Int), .int .i64 ((rd : Nat) : Int), .int .i64 ((a : Nat) : Int), .int .i64 0, .int .i64 ((imm : Nat) : Int)] rfl rfl rfl rfl siz_2 rfl rfl rfl hS ?_
 clear hS; intro w25 hS
 refine WL.nil (N.seq (W.seq (W.seq (W.region (WL.move rfl rfl rfl (WL.bin rfl rfl rfl rfl rfl ?_))))))
 refine WL.set 82 (v' := .bool false) rfl rfl ?_
 refine WL.nil (N.seq (W.condF rfl (W.skip (N.seq (W.seq (W.seq (W.region (WL.move rfl rfl rfl (WL.bin rfl rfl rfl rfl rfl ?_)))))))))
 refine WL.set 88 (v' := .bool false) rfl rfl ?_
 refine WL.nil (N.seq (W.condF rfl (W.skip (N.seq (W.seq (W.seq (W.region (WL.move rfl rfl rfl (WL.bin rfl rfl rfl rfl rfl ?_)))))))))
 refine WL.set 98 (v' := .bool false) rfl rfl ?_
 refine WL.nil (N.seq (W.condF rfl (W.skip (N.seq (W.seq (W.seq (W.region (WL.move rfl rfl rfl (WL.bin rfl rfl rfl rfl rfl ?_)))))))))
 refine WL.set 117 (v' := .bool false) rfl rfl ?_
 refine WL.nil (N.seq (W.condF rfl (W.skip (N.seq (W.seq (W.seq (W.region (WL.move rfl rfl rfl (WL.bin rfl rfl rfl rfl rfl ?_)))))))))
 refine WL.set 124 (v' := .bool false) rfl rfl ?_
 refine WL.nil (N.seq (W.condF rfl (W.skip (N.seq (W.seq (W.region (WL.loadN (cs := [.int .i64 ((12 : Nat) : Int), .int .i64 ((rd : Nat) : Int), .int .i64 ((a : Nat) : Int), .int .i64 0, .int .i64 ((imm : Nat) : Int)]) agg_45 rfl rfl rfl rfl (hS.cells 0 (m := 5) rfl rfl) ?_)))))))
 refine WL.callF (vs := [.agg #[.int .i64 ((12 : Nat) : Int), .int .i64 ((rd : Nat) : Int), .int .i64 ((a : Nat) : Int), .int .i64 0, .int .i64 ((imm : Nat) : Int)]]) Try.func17 (by kernel_rfl) rfl rfl rfl (wordI_ret 12 (by omega) rd a imm hrd ha (by omega) (ro := ro) (fun b hb => (hS.snap b hb).1)) ?_
 rintro v w26 ⟨rfl, hbl⟩
 replace hS := hS.grow hbl
 refine WL.move rfl rfl rfl (WL.extract (v := .int .u32 ((wordN 12 rd a 0 imm : Nat) : Int)) rfl rfl rfl rfl (WL.extract (v := .int .i64 0) rfl rfl rfl rfl (WL.assign rfl rfl rfl (WL.assign rfl rfl rfl (WL.nil (N.seq (W.seq (W.region (WL.move rfl rfl rfl ?_)))))))))
 refine WL.bin rfl rfl rfl rfl rfl ?_
 refine WL.set 148 (v' := .bool true) rfl rfl ?_
 refine WL.move rfl rfl rfl (WL.move rfl rfl rfl (WL.move rfl rfl rfl (WL.bin rfl rfl rfl rfl rfl ?_)))
 refine WL.set 152 (v' := .bool true) rfl (congrArg Value.bool (decide_eq_true rfl)) ?_
 refine WL.pick (v := .bool true) rfl rfl rfl rfl rfl rfl (WL.nil (N.seq (W.condT rfl (W.seq (W.region (WL.loadN (cs := [.int .i64 ((12 : Nat) : Int), .int .i64 ((rd : Nat) : Int), .int .i64 ((a : Nat) : Int), .int .i64 0, .int .i64 ((imm : Nat) : Int)]) agg_45 rfl rfl rfl rfl (hS.cells 0 (m := 5) rfl rfl) ?_))))))
 refine WL.store1 #[.int .i64 ((12 : Nat) : Int), .int .i64 ((rd : Nat) : Int), .int .i64 ((a : Nat) : Int), .int .i64 0, .int .i64 ((imm : Nat) : Int)] rfl rfl rfl rfl siz_45 rfl rfl rfl hS ?_
 clear hS; intro w27 hS
 refine WL.assign rfl rfl rfl (WL.nil (N.seq ?_))
 refine Fin.retCT rfl (v := .agg #[.int .i64 ((12 : Nat) : Int), .int .i64 ((rd : Nat) : Int), .int .i64 ((a : Nat) : Int), .int .i64 0, .int .i64 ((imm : Nat) : Int)]) (v' := .int .i64 0) rfl (tyAgg_run agg_45 (cs := [.int .i64 ((12 : Nat) : Int), .int .i64 ((rd : Nat) : Int), .int .i64 ((a : Nat) : Int), .int .i64 0, .int .i64 ((imm : Nat) : Int)]) rfl (hS.cells 1 (m := 5) rfl rfl)) rfl ?_
 exact ⟨rfl, hS.below⟩

set_option maxRecDepth 10000 in
set_option maxHeartbeats 4000000 in
theorem takeH_ret (rd a imm : Nat) (hrd : rd ≤ 31) (ha : a ≤ 31) (hi : imm ≤ 63) {w : World} {ro : Nat → Prop} (hro : ∀ b, ro b → b < w.heap.size) : Ret Try.prog 33 #[.int .u32 ((wordN 17 rd a 0 imm : Nat) : Int)] w fun v w' => v = .tuple #[.agg #[.int .i64 17, .int .i64 (rd : Int), .int .i64 (a : Int), .int .i64 0, .int .i64 (imm : Int)], .int .i64 0] ∧ Below w.heap.size w w' := by
 refine Ret.enter (P := Try.prog) (n := 156) (args := [.int .u32 ((wordN 17 rd a 0 imm : Nat) : Int)]) (σ := [(0, .int .u32 ((wordN 17 rd a 0 imm : Nat) : Int))]) Try.func33 rfl rfl rfl rfl ?_
 have hS := St.start (ro := ro) hro
 have hwt := word_take (K := 17) (by omega) hrd ha (show imm ≤ 2047 by omega); have hwl := word_lt (k := 17) (b := 0) (by omega) hrd ha (by omega) (show imm ≤ 2047 by omega)
 refine W.seq (W.region ?_)
 refine WL.alloc (tyZero_spec zer_45) rfl rfl hS ?_
 clear hS; intro w2 b1 hb_b1 hS
 refine WL.assign rfl rfl rfl (WL.nil (N.seq (W.seq (W.seq (W.region (WL.assign rfl rfl rfl (WL.nil (N.seq (W.block ?_)))))))))
 refine W.loop (α := Nat) (fun (k : Nat) => [(0, .int .u32 ((wordN 17 rd a 0 imm : Nat) : Int)), (2, .pointer (some ⟨b1, 0, none⟩)), (4, .int .i64 (k : Int))]) (fun (k : Nat) u => St w w u ro [(b1, .cells #[.int .i64 0, .int .i64 0, .int .i64 0, .int .i64 0, .int .i64 0] 45 (0, 0))] [] ∧ 1 ≤ k ∧ k ≤ 17) (fun (k : Nat) => 17 - k) 1 ⟨rfl, rfl, rfl, trivial⟩ ⟨hS, Nat.le_refl _, by omega⟩ ?_
 clear hS
 rintro k w3 ⟨hS, hk1, hk2⟩
 refine W.seq (W.seq (W.region (WL.move rfl rfl rfl (WL.bin rfl rfl rfl rfl rfl ?_))))
 refine WL.set 10 (v' := .bool true) rfl (congrArg Value.bool (show (decide ((k : Int) ≤ 31)) = true from decide_eq_true (show (k : Int) ≤ 31 from by omega))) ?_
 refine WL.nil (N.seq (W.condT rfl (W.skip (N.seq (W.seq (W.block (W.seq ?_)))))))
 rcases (show k ≤ 11 ∨ 12 ≤ k ∧ k ≤ 16 ∨ k = 17 by omega) with hkc | hkc | hkc
 ·
  have hk : 1 ≤ k ∧ k ≤ 11 := by omega
  refine W.region (WL.move rfl rfl rfl ?_)
  refine WL.callF (vs := [.int .i64 (k : Int)]) Try.func27 (by kernel_rfl) rfl rfl rfl (formR_ret k hk (ro := ro) (fun b hb => (hS.snap b hb).1)) ?_
  rintro v w4 ⟨rfl, hbl⟩
  replace hS := hS.grow hbl
  refine WL.assign rfl rfl rfl (WL.nil (N.seq (W.seq (W.region (WL.move rfl rfl rfl ?_)))))
  refine WL.build (ps := [(0, .int .i64 (k : Int))]) (cs := [.int .i64 (k : Int), .int .i64 0, .int .i64 0, .int .i64 0, .int .i64 0]) rfl rfl rfl (by kernel_rfl) ?_
  refine WL.alloc (tyZero_spec zer_45) rfl rfl hS ?_
  clear hS; intro w6 b5 hb_b5 hS
  refine WL.store0 #[.int .i64 (k : Int), .int .i64 0, .int .i64 0, .int .i64 0, .int .i64 0] rfl rfl rfl rfl siz_45 rfl rfl rfl hS ?_
  clear hS; intro w7 hS
  refine WL.nil (N.seq (W.seq (W.seq (W.region (WL.move rfl rfl rfl (WL.bin rfl rfl rfl rfl rfl ?_))))))
  refine WL.set 18 (v' := .bool true) rfl rfl ?_
  refine WL.move rfl rfl rfl (WL.skp rfl rfl (WL.skp rfl rfl (WL.pick (v := .bool true) rfl rfl rfl rfl rfl rfl (WL.move rfl rfl rfl (WL.skp rfl rfl (WL.skp rfl rfl (WL.pick (v := .bool true) rfl rfl rfl rfl rfl rfl (WL.move rfl rfl rfl (WL.skp rfl rfl ?_)))))))))
  refine WL.skp rfl rfl (WL.pick (v := .bool true) rfl rfl rfl rfl rfl rfl (WL.move rfl rfl rfl (WL.skp rfl rfl (WL.skp rfl rfl (WL.pick (v := .bool true) rfl rfl rfl rfl rfl rfl (WL.nil (N.seq (W.condT rfl (W.region ?_)))))))))
  refine WL.move rfl rfl rfl ?_
  refine WL.callF (vs := [.int .u32 ((wordN 17 rd a 0 imm : Nat) : Int), .int .i64 7, .int .i64 5]) Try.func30 (by kernel_rfl) rfl rfl rfl ((by have h := part_ret (wordN 17 rd a 0 imm) 7 5 hwl (by omega) (by omega) (ro := ro) (w := w7) (fun b hb => (hS.snap b hb).1); rw [show (wordN 17 rd a 0 imm) / 2 ^ 7 % 2 ^ 5 = rd from hwt.1] at h; exact h)) ?_
  rintro v w8 ⟨rfl, hbl⟩
  replace hS := hS.grow hbl
  refine WL.convInt (by rw [Try.underlying50]; rfl) Try.underlying3 rfl rfl rfl ?_
  refine WL.set 37 (v' := .int .i64 ((rd : Nat) : Int)) rfl (congrArg _ (wrapNi (by omega) (by omega))) ?_
  refine WL.fieldAddr fo_45_1 rfl rfl rfl ?_
  refine WL.store0 #[.int .i64 (k : Int), .int .i64 ((rd : Nat) : Int), .int .i64 0, .int .i64 0, .int .i64 0] rfl rfl rfl rfl siz_3 rfl rfl rfl hS ?_
  clear hS; intro w9 hS
  refine WL.nil (N.seq (W.seq (W.seq (W.region (WL.move rfl rfl rfl (WL.bin rfl rfl rfl rfl rfl ?_))))))
  refine WL.set 40 (v' := .bool true) rfl rfl ?_
  refine WL.move rfl rfl rfl (WL.skp rfl rfl (WL.skp rfl rfl (WL.pick (v := .bool true) rfl rfl rfl rfl rfl rfl (WL.move rfl rfl rfl (WL.skp rfl rfl (WL.skp rfl rfl (WL.pick (v := .bool true) rfl rfl rfl rfl rfl rfl (WL.move rfl rfl rfl (WL.skp rfl rfl ?_)))))))))
  refine WL.skp rfl rfl (WL.pick (v := .bool true) rfl rfl rfl rfl rfl rfl (WL.move rfl rfl rfl (WL.skp rfl rfl (WL.skp rfl rfl (WL.pick (v := .bool true) rfl rfl rfl rfl rfl rfl (WL.nil (N.seq (W.condT rfl (W.region ?_)))))))))
  refine WL.move rfl rfl rfl ?_
  refine WL.callF (vs := [.int .u32 ((wordN 17 rd a 0 imm : Nat) : Int), .int .i64 15, .int .i64 5]) Try.func30 (by kernel_rfl) rfl rfl rfl ((by have h := part_ret (wordN 17 rd a 0 imm) 15 5 hwl (by omega) (by omega) (ro := ro) (w := w9) (fun b hb => (hS.snap b hb).1); rw [show (wordN 17 rd a 0 imm) / 2 ^ 15 % 2 ^ 5 = a from hwt.2.1] at h; exact h)) ?_
  rintro v w10 ⟨rfl, hbl⟩
  replace hS := hS.grow hbl
  refine WL.convInt (by rw [Try.underlying50]; rfl) Try.underlying3 rfl rfl rfl ?_
  refine WL.set 59 (v' := .int .i64 ((a : Nat) : Int)) rfl (congrArg _ (wrapNi (by omega) (by omega))) ?_
  refine WL.fieldAddr fo_45_2 rfl rfl rfl ?_
  refine WL.store0 #[.int .i64 (k : Int), .int .i64 ((rd : Nat) : Int), .int .i64 ((a : Nat) : Int), .int .i64 0, .int .i64 0] rfl rfl rfl rfl siz_3 rfl rfl rfl hS ?_
  clear hS; intro w11 hS
  refine WL.nil (N.seq (W.seq (W.seq (W.region (WL.move rfl rfl rfl (WL.bin rfl rfl rfl rfl rfl ?_))))))
  refine WL.set 62 (v' := .bool true) rfl rfl ?_
  refine WL.move rfl rfl rfl (WL.skp rfl rfl (WL.skp rfl rfl (WL.pick (v := .bool true) rfl rfl rfl rfl rfl rfl (WL.move rfl rfl rfl (WL.skp rfl rfl (WL.skp rfl rfl (WL.pick (v := .bool true) rfl rfl rfl rfl rfl rfl (WL.nil (N.seq ?_)))))))))
  refine W.condT rfl (W.region (WL.move rfl rfl rfl ?_))
  refine WL.callF (vs := [.int .u32 ((wordN 17 rd a 0 imm : Nat) : Int), .int .i64 20, .int .i64 5]) Try.func30 (by kernel_rfl) rfl rfl rfl ((by have h := part_ret (wordN 17 rd a 0 imm) 20 5 hwl (by omega) (by omega) (ro := ro) (w := w11) (fun b hb => (hS.snap b hb).1); rw [show (wordN 17 rd a 0 imm) / 2 ^ 20 % 2 ^ 5 = imm % 32 from hwt.2.2.1] at h; exact h)) ?_
  rintro v w12 ⟨rfl, hbl⟩
  replace hS := hS.grow hbl
  refine WL.convInt (by rw [Try.underlying50]; rfl) Try.underlying3 rfl rfl rfl ?_
  refine WL.set 73 (v' := .int .i64 ((imm % 32 : Nat) : Int)) rfl (congrArg _ (wrapNi (by omega) (by omega))) ?_
  refine WL.fieldAddr fo_45_3 rfl rfl rfl ?_
  refine WL.store0 #[.int .i64 (k : Int), .int .i64 ((rd : Nat) : Int), .int .i64 ((a : Nat) : Int), .int .i64 ((imm % 32 : Nat) : Int), .int .i64 0] rfl rfl rfl rfl siz_3 rfl rfl rfl hS ?_
  clear hS; intro w13 hS
  refine WL.nil (N.seq (W.seq (W.seq (W.region (WL.move rfl rfl rfl (WL.bin rfl rfl rfl rfl rfl ?_))))))
  refine WL.set 76 (v' := .bool false) rfl rfl ?_
  refine WL.nil (N.seq (W.condF rfl (W.skip (N.seq (W.seq (W.seq (W.region (WL.move rfl rfl rfl (WL.bin rfl rfl rfl rfl rfl ?_)))))))))
  refine WL.set 82 (v' := .bool false) rfl rfl ?_
  refine WL.nil (N.seq (W.condF rfl (W.skip (N.seq (W.seq (W.seq (W.region (WL.move rfl rfl rfl (WL.bin rfl rfl rfl rfl rfl ?_)))))))))
  refine WL.set 88 (v' := .bool false) rfl rfl ?_
  refine WL.nil (N.seq (W.condF rfl (W.skip (N.seq (W.seq (W.seq (W.region (WL.move rfl rfl rfl (WL.bin rfl rfl rfl rfl rfl ?_)))))))))
  refine WL.set 98 (v' := .bool false) rfl rfl ?_
  refine WL.nil (N.seq (W.condF rfl (W.skip (N.seq (W.seq (W.seq (W.region (WL.move rfl rfl rfl (WL.bin rfl rfl rfl rfl rfl ?_)))))))))
  refine WL.set 117 (v' := .bool false) rfl rfl ?_
  refine WL.nil (N.seq (W.condF rfl (W.skip (N.seq (W.seq (W.seq (W.region (WL.move rfl rfl rfl (WL.bin rfl rfl rfl rfl rfl ?_)))))))))
  refine WL.set 124 (v' := .bool false) rfl rfl ?_
  refine WL.nil (N.seq (W.condF rfl (W.skip (N.seq (W.seq (W.region (WL.loadN (cs := [.int .i64 (k : Int), .int .i64 ((rd : Nat) : Int), .int .i64 ((a : Nat) : Int), .int .i64 ((imm % 32 : Nat) : Int), .int .i64 0]) agg_45 rfl rfl rfl rfl (hS.cells 0 (m := 5) rfl rfl) ?_)))))))
  refine WL.callF (vs := [.agg #[.int .i64 (k : Int), .int .i64 ((rd : Nat) : Int), .int .i64 ((a : Nat) : Int), .int .i64 ((imm % 32 : Nat) : Int), .int .i64 0]]) Try.func17 (by kernel_rfl) rfl rfl rfl (wordR_ret k hk rd a (imm % 32) hrd ha (by omega) (ro := ro) (fun b hb => (hS.snap b hb).1)) ?_
  rintro v w14 ⟨rfl, hbl⟩
  replace hS := hS.grow hbl
  refine WL.move rfl rfl rfl (WL.extract (v := .int .u32 ((wordN k rd a (imm % 32) 0 : Nat) : Int)) rfl rfl rfl rfl (WL.extract (v := .int .i64 0) rfl rfl rfl rfl (WL.assign rfl rfl rfl (WL.assign rfl rfl rfl (WL.nil (N.seq (W.seq (W.region (WL.move rfl rfl rfl ?_)))))))))
  refine WL.bin rfl rfl rfl rfl rfl ?_
  refine WL.set 148 (v' := .bool true) rfl rfl ?_
  refine WL.move rfl rfl rfl (WL.move rfl rfl rfl (WL.move rfl rfl rfl (WL.bin rfl rfl rfl rfl rfl ?_)))
  have hne : wordN k rd a (imm % 32) 0 ≠ wordN 17 rd a 0 imm := by have h9 := word_ne (K := 17) (rd := rd) (a := a) (imm := imm) (k := k) (b := imm % 32) (by omega) (by omega) (fun _ => by omega); unfold wordN at h9 ⊢; rw [if_pos hk.2] at h9 ⊢; exact h9
  refine WL.set 152 (v' := .bool false) rfl (congrArg Value.bool (decide_eq_false (by omega))) ?_
  refine WL.pick (v := .bool false) rfl rfl rfl rfl rfl rfl (WL.nil (N.seq (W.condF rfl (W.skip (N.blk (N.seq (W.region (WL.move rfl rfl rfl ?_))))))))
  refine WL.add (c := (k : Int) + 1) rfl rfl rfl rfl (rfl) (by omega) ?_
  refine WL.assign rfl rfl rfl (WL.nil ?_)
  have hS := hS.dropN 1
  exact N.loop (k + 1) ⟨rfl, rfl, rfl, trivial⟩ ⟨hS, by omega, by omega⟩ (by first | omega | (simp only; omega))
 ·
  have hk : 12 ≤ k ∧ k ≤ 16 := by omega
  refine W.region (WL.move rfl rfl rfl ?_)
  refine WL.callF (vs := [.int .i64 (k : Int)]) Try.func27 (by kernel_rfl) rfl rfl rfl (formI_ret k hk (ro := ro) (fun b hb => (hS.snap b hb).1)) ?_
  rintro v w15 ⟨rfl, hbl⟩
  replace hS := hS.grow hbl
  refine WL.assign rfl rfl rfl (WL.nil (N.seq (W.seq (W.region (WL.move rfl rfl rfl ?_)))))
  refine WL.build (ps := [(0, .int .i64 (k : Int))]) (cs := [.int .i64 (k : Int), .int .i64 0, .int .i64 0, .int .i64 0, .int .i64 0]) rfl rfl rfl (by kernel_rfl) ?_
  refine WL.alloc (tyZero_spec zer_45) rfl rfl hS ?_
  clear hS; intro w17 b16 hb_b16 hS
  refine WL.store0 #[.int .i64 (k : Int), .int .i64 0, .int .i64 0, .int .i64 0, .int .i64 0] rfl rfl rfl rfl siz_45 rfl rfl rfl hS ?_
  clear hS; intro w18 hS
  refine WL.nil (N.seq (W.seq (W.seq (W.region (WL.move rfl rfl rfl (WL.bin rfl rfl rfl rfl rfl ?_))))))
  refine WL.set 18 (v' := .bool false) rfl rfl ?_
  refine WL.move rfl rfl rfl (WL.move rfl rfl rfl (WL.bin rfl rfl rfl rfl rfl ?_))
  refine WL.set 21 (v' := .bool true) rfl rfl ?_
  refine WL.pick (v := .bool true) rfl rfl rfl rfl rfl rfl (WL.move rfl rfl rfl (WL.skp rfl rfl (WL.skp rfl rfl (WL.pick (v := .bool true) rfl rfl rfl rfl rfl rfl (WL.move rfl rfl rfl (WL.skp rfl rfl (WL.skp rfl rfl (WL.pick (v := .bool true) rfl rfl rfl rfl rfl rfl (WL.move rfl rfl rfl ?_)))))))))
  refine WL.skp rfl rfl (WL.skp rfl rfl (WL.pick (v := .bool true) rfl rfl rfl rfl rfl rfl (WL.nil (N.seq (W.condT rfl (W.region (WL.move rfl rfl rfl ?_)))))))
  refine WL.callF (vs := [.int .u32 ((wordN 17 rd a 0 imm : Nat) : Int), .int .i64 7, .int .i64 5]) Try.func30 (by kernel_rfl) rfl rfl rfl ((by have h := part_ret (wordN 17 rd a 0 imm) 7 5 hwl (by omega) (by omega) (ro := ro) (w := w18) (fun b hb => (hS.snap b hb).1); rw [show (wordN 17 rd a 0 imm) / 2 ^ 7 % 2 ^ 5 = rd from hwt.1] at h; exact h)) ?_
  rintro v w19 ⟨rfl, hbl⟩
  replace hS := hS.grow hbl
  refine WL.convInt (by rw [Try.underlying50]; rfl) Try.underlying3 rfl rfl rfl ?_
  refine WL.set 37 (v' := .int .i64 ((rd : Nat) : Int)) rfl (congrArg _ (wrapNi (by omega) (by omega))) ?_
  refine WL.fieldAddr fo_45_1 rfl rfl rfl ?_
  refine WL.store0 #[.int .i64 (k : Int), .int .i64 ((rd : Nat) : Int), .int .i64 0, .int .i64 0, .int .i64 0] rfl rfl rfl rfl siz_3 rfl rfl rfl hS ?_
  clear hS; intro w20 hS
  refine WL.nil (N.seq (W.seq (W.seq (W.region (WL.move rfl rfl rfl (WL.bin rfl rfl rfl rfl rfl ?_))))))
  refine WL.set 40 (v' := .bool false) rfl rfl ?_
  refine WL.move rfl rfl rfl (WL.move rfl rfl rfl (WL.bin rfl rfl rfl rfl rfl ?_))
  refine WL.set 43 (v' := .bool true) rfl rfl ?_
  refine WL.pick (v := .bool true) rfl rfl rfl rfl rfl rfl (WL.move rfl rfl rfl (WL.skp rfl rfl (WL.skp rfl rfl (WL.pick (v := .bool true) rfl rfl rfl rfl rfl rfl (WL.move rfl rfl rfl (WL.skp rfl rfl (WL.skp rfl rfl (WL.pick (v := .bool true) rfl rfl rfl rfl rfl rfl (WL.move rfl rfl rfl ?_)))))))))
  refine WL.skp rfl rfl (WL.skp rfl rfl (WL.pick (v := .bool true) rfl rfl rfl rfl rfl rfl (WL.nil (N.seq (W.condT rfl (W.region (WL.move rfl rfl rfl ?_)))))))
  refine WL.callF (vs := [.int .u32 ((wordN 17 rd a 0 imm : Nat) : Int), .int .i64 15, .int .i64 5]) Try.func30 (by kernel_rfl) rfl rfl rfl ((by have h := part_ret (wordN 17 rd a 0 imm) 15 5 hwl (by omega) (by omega) (ro := ro) (w := w20) (fun b hb => (hS.snap b hb).1); rw [show (wordN 17 rd a 0 imm) / 2 ^ 15 % 2 ^ 5 = a from hwt.2.1] at h; exact h)) ?_
  rintro v w21 ⟨rfl, hbl⟩
  replace hS := hS.grow hbl
  refine WL.convInt (by rw [Try.underlying50]; rfl) Try.underlying3 rfl rfl rfl ?_
  refine WL.set 59 (v' := .int .i64 ((a : Nat) : Int)) rfl (congrArg _ (wrapNi (by omega) (by omega))) ?_
  refine WL.fieldAddr fo_45_2 rfl rfl rfl ?_
  refine WL.store0 #[.int .i64 (k : Int), .int .i64 ((rd : Nat) : Int), .int .i64 ((a : Nat) : Int), .int .i64 0, .int .i64 0] rfl rfl rfl rfl siz_3 rfl rfl rfl hS ?_
  clear hS; intro w22 hS
  refine WL.nil (N.seq (W.seq (W.seq (W.region (WL.move rfl rfl rfl (WL.bin rfl rfl rfl rfl rfl ?_))))))
  refine WL.set 62 (v' := .bool false) rfl rfl ?_
  refine WL.move rfl rfl rfl (WL.move rfl rfl rfl (WL.bin rfl rfl rfl rfl rfl ?_))
  refine WL.set 65 (v' := .bool false) rfl rfl ?_
  refine WL.pick (v := .bool false) rfl rfl rfl rfl rfl rfl (WL.move rfl rfl rfl (WL.move rfl rfl rfl (WL.bin rfl rfl rfl rfl rfl ?_)))
  refine WL.set 69 (v' := .bool false) rfl rfl ?_
  refine WL.pick (v := .bool false) rfl rfl rfl rfl rfl rfl (WL.nil (N.seq (W.condF rfl (W.skip (N.seq (W.seq (W.seq (W.region (WL.move rfl rfl rfl ?_)))))))))
  refine WL.bin rfl rfl rfl rfl rfl ?_
  refine WL.set 76 (v' := .bool true) rfl rfl ?_
  refine WL.nil (N.seq (W.condT rfl (W.region (WL.move rfl rfl rfl ?_))))
  refine WL.callF (vs := [.int .u32 ((wordN 17 rd a 0 imm : Nat) : Int), .int .i64 20, .int .i64 12]) Try.func30 (by kernel_rfl) rfl rfl rfl ((by have h := part_ret (wordN 17 rd a 0 imm) 20 12 hwl (by omega) (by omega) (ro := ro) (w := w22) (fun b hb => (hS.snap b hb).1); rw [show (wordN 17 rd a 0 imm) / 2 ^ 20 % 2 ^ 12 = imm from hwt.2.2.2] at h; exact h)) ?_
  rintro v w23 ⟨rfl, hbl⟩
  replace hS := hS.grow hbl
  refine WL.callF (vs := [.int .u32 ((imm : Nat) : Int), .int .i64 12]) Try.func43 (by kernel_rfl) rfl rfl rfl (below_ret imm (by omega) (ro := ro) (fun b hb => (hS.snap b hb).1)) ?_
  rintro v w24 ⟨rfl, hbl⟩
  replace hS := hS.grow hbl
  refine WL.fieldAddr fo_45_4 rfl rfl rfl ?_
  refine WL.store0 #[.int .i64 (k : Int), .int .i64 ((rd : Nat) : Int), .int .i64 ((a : Nat) : Int), .int .i64 0, .int .i64 ((imm : Nat) : Int)] rfl rfl rfl rfl siz_2 rfl rfl rfl hS ?_
  clear hS; intro w25 hS
  refine WL.nil (N.seq (W.seq (W.seq (W.region (WL.move rfl rfl rfl (WL.bin rfl rfl rfl rfl rfl ?_))))))
  refine WL.set 82 (v' := .bool false) rfl rfl ?_
  refine WL.nil (N.seq (W.condF rfl (W.skip (N.seq (W.seq (W.seq (W.region (WL.move rfl rfl rfl (WL.bin rfl rfl rfl rfl rfl ?_)))))))))
  refine WL.set 88 (v' := .bool false) rfl rfl ?_
  refine WL.nil (N.seq (W.condF rfl (W.skip (N.seq (W.seq (W.seq (W.region (WL.move rfl rfl rfl (WL.bin rfl rfl rfl rfl rfl ?_)))))))))
  refine WL.set 98 (v' := .bool false) rfl rfl ?_
  refine WL.nil (N.seq (W.condF rfl (W.skip (N.seq (W.seq (W.seq (W.region (WL.move rfl rfl rfl (WL.bin rfl rfl rfl rfl rfl ?_)))))))))
  refine WL.set 117 (v' := .bool false) rfl rfl ?_
  refine WL.nil (N.seq (W.condF rfl (W.skip (N.seq (W.seq (W.seq (W.region (WL.move rfl rfl rfl (WL.bin rfl rfl rfl rfl rfl ?_)))))))))
  refine WL.set 124 (v' := .bool false) rfl rfl ?_
  refine WL.nil (N.seq (W.condF rfl (W.skip (N.seq (W.seq (W.region (WL.loadN (cs := [.int .i64 (k : Int), .int .i64 ((rd : Nat) : Int), .int .i64 ((a : Nat) : Int), .int .i64 0, .int .i64 ((imm : Nat) : Int)]) agg_45 rfl rfl rfl rfl (hS.cells 0 (m := 5) rfl rfl) ?_)))))))
  refine WL.callF (vs := [.agg #[.int .i64 (k : Int), .int .i64 ((rd : Nat) : Int), .int .i64 ((a : Nat) : Int), .int .i64 0, .int .i64 ((imm : Nat) : Int)]]) Try.func17 (by kernel_rfl) rfl rfl rfl (wordI_ret k hk rd a imm hrd ha (by omega) (ro := ro) (fun b hb => (hS.snap b hb).1)) ?_
  rintro v w26 ⟨rfl, hbl⟩
  replace hS := hS.grow hbl
  refine WL.move rfl rfl rfl (WL.extract (v := .int .u32 ((wordN k rd a 0 imm : Nat) : Int)) rfl rfl rfl rfl (WL.extract (v := .int .i64 0) rfl rfl rfl rfl (WL.assign rfl rfl rfl (WL.assign rfl rfl rfl (WL.nil (N.seq (W.seq (W.region (WL.move rfl rfl rfl ?_)))))))))
  refine WL.bin rfl rfl rfl rfl rfl ?_
  refine WL.set 148 (v' := .bool true) rfl rfl ?_
  refine WL.move rfl rfl rfl (WL.move rfl rfl rfl (WL.move rfl rfl rfl (WL.bin rfl rfl rfl rfl rfl ?_)))
  have hne : wordN k rd a 0 imm ≠ wordN 17 rd a 0 imm := by have h9 := word_ne (K := 17) (rd := rd) (a := a) (imm := imm) (k := k) (b := 0) (by omega) (by omega) (fun _ => by omega); exact h9
  refine WL.set 152 (v' := .bool false) rfl (congrArg Value.bool (decide_eq_false (by omega))) ?_
  refine WL.pick (v := .bool false) rfl rfl rfl rfl rfl rfl (WL.nil (N.seq (W.condF rfl (W.skip (N.blk (N.seq (W.region (WL.move rfl rfl rfl ?_))))))))
  refine WL.add (c := (k : Int) + 1) rfl rfl rfl rfl (rfl) (by omega) ?_
  refine WL.assign rfl rfl rfl (WL.nil ?_)
  have hS := hS.dropN 1
  exact N.loop (k + 1) ⟨rfl, rfl, rfl, trivial⟩ ⟨hS, by omega, by omega⟩ (by first | omega | (simp only; omega))
 subst hkc
 refine W.region (WL.move rfl rfl rfl ?_)
 refine WL.callF (vs := [.int .i64 ((17 : Nat) : Int)]) Try.func27 (by kernel_rfl) rfl rfl rfl (formH_ret (ro := ro) (fun b hb => (hS.snap b hb).1)) ?_
 rintro v w27 ⟨rfl, hbl⟩
 replace hS := hS.grow hbl
 refine WL.assign rfl rfl rfl (WL.nil (N.seq (W.seq (W.region (WL.move rfl rfl rfl ?_)))))
 refine WL.build (ps := [(0, .int .i64 ((17 : Nat) : Int))]) (cs := [.int .i64 ((17 : Nat) : Int), .int .i64 0, .int .i64 0, .int .i64 0, .int .i64 0]) rfl rfl rfl (by kernel_rfl) ?_
 refine WL.alloc (tyZero_spec zer_45) rfl rfl hS ?_
 clear hS; intro w29 b28 hb_b28 hS
 refine WL.store0 #[.int .i64 ((17 : Nat) : Int), .int .i64 0, .int .i64 0, .int .i64 0, .int .i64 0] rfl rfl rfl rfl siz_45 rfl rfl rfl hS ?_
 clear hS; intro w30 hS
 refine WL.nil (N.seq (W.seq (W.seq (W.region (WL.move rfl rfl rfl (WL.bin rfl rfl rfl rfl rfl ?_))))))
 refine WL.set 18 (v' := .bool false) rfl rfl ?_
 refine WL.move rfl rfl rfl (WL.move rfl rfl rfl (WL.bin rfl rfl rfl rfl rfl ?_))
 refine WL.set 21 (v' := .bool false) rfl rfl ?_
 refine WL.pick (v := .bool false) rfl rfl rfl rfl rfl rfl (WL.move rfl rfl rfl (WL.move rfl rfl rfl (WL.bin rfl rfl rfl rfl rfl ?_)))
 refine WL.set 25 (v' := .bool true) rfl rfl ?_
 refine WL.pick (v := .bool true) rfl rfl rfl rfl rfl rfl (WL.move rfl rfl rfl (WL.skp rfl rfl (WL.skp rfl rfl (WL.pick (v := .bool true) rfl rfl rfl rfl rfl rfl (WL.move rfl rfl rfl (WL.skp rfl rfl (WL.skp rfl rfl (WL.pick (v := .bool true) rfl rfl rfl rfl rfl rfl (WL.nil ?_)))))))))
 refine N.seq (W.condT rfl (W.region (WL.move rfl rfl rfl ?_)))
 refine WL.callF (vs := [.int .u32 ((wordN 17 rd a 0 imm : Nat) : Int), .int .i64 7, .int .i64 5]) Try.func30 (by kernel_rfl) rfl rfl rfl ((by have h := part_ret (wordN 17 rd a 0 imm) 7 5 hwl (by omega) (by omega) (ro := ro) (w := w30) (fun b hb => (hS.snap b hb).1); rw [show (wordN 17 rd a 0 imm) / 2 ^ 7 % 2 ^ 5 = rd from hwt.1] at h; exact h)) ?_
 rintro v w31 ⟨rfl, hbl⟩
 replace hS := hS.grow hbl
 refine WL.convInt (by rw [Try.underlying50]; rfl) Try.underlying3 rfl rfl rfl ?_
 refine WL.set 37 (v' := .int .i64 ((rd : Nat) : Int)) rfl (congrArg _ (wrapNi (by omega) (by omega))) ?_
 refine WL.fieldAddr fo_45_1 rfl rfl rfl ?_
 refine WL.store0 #[.int .i64 ((17 : Nat) : Int), .int .i64 ((rd : Nat) : Int), .int .i64 0, .int .i64 0, .int .i64 0] rfl rfl rfl rfl siz_3 rfl rfl rfl hS ?_
 clear hS; intro w32 hS
 refine WL.nil (N.seq (W.seq (W.seq (W.region (WL.move rfl rfl rfl (WL.bin rfl rfl rfl rfl rfl ?_))))))
 refine WL.set 40 (v' := .bool false) rfl rfl ?_
 refine WL.move rfl rfl rfl (WL.move rfl rfl rfl (WL.bin rfl rfl rfl rfl rfl ?_))
 refine WL.set 43 (v' := .bool false) rfl rfl ?_
 refine WL.pick (v := .bool false) rfl rfl rfl rfl rfl rfl (WL.move rfl rfl rfl (WL.move rfl rfl rfl (WL.bin rfl rfl rfl rfl rfl ?_)))
 refine WL.set 47 (v' := .bool true) rfl rfl ?_
 refine WL.pick (v := .bool true) rfl rfl rfl rfl rfl rfl (WL.move rfl rfl rfl (WL.skp rfl rfl (WL.skp rfl rfl (WL.pick (v := .bool true) rfl rfl rfl rfl rfl rfl (WL.move rfl rfl rfl (WL.skp rfl rfl (WL.skp rfl rfl (WL.pick (v := .bool true) rfl rfl rfl rfl rfl rfl (WL.nil ?_)))))))))
 refine N.seq (W.condT rfl (W.region (WL.move rfl rfl rfl ?_)))
 refine WL.callF (vs := [.int .u32 ((wordN 17 rd a 0 imm : Nat) : Int), .int .i64 15, .int .i64 5]) Try.func30 (by kernel_rfl) rfl rfl rfl ((by have h := part_ret (wordN 17 rd a 0 imm) 15 5 hwl (by omega) (by omega) (ro := ro) (w := w32) (fun b hb => (hS.snap b hb).1); rw [show (wordN 17 rd a 0 imm) / 2 ^ 15 % 2 ^ 5 = a from hwt.2.1] at h; exact h)) ?_
 rintro v w33 ⟨rfl, hbl⟩
 replace hS := hS.grow hbl
 refine WL.convInt (by rw [Try.underlying50]; rfl) Try.underlying3 rfl rfl rfl ?_
 refine WL.set 59 (v' := .int .i64 ((a : Nat) : Int)) rfl (congrArg _ (wrapNi (by omega) (by omega))) ?_
 refine WL.fieldAddr fo_45_2 rfl rfl rfl ?_
 refine WL.store0 #[.int .i64 ((17 : Nat) : Int), .int .i64 ((rd : Nat) : Int), .int .i64 ((a : Nat) : Int), .int .i64 0, .int .i64 0] rfl rfl rfl rfl siz_3 rfl rfl rfl hS ?_
 clear hS; intro w34 hS
 refine WL.nil (N.seq (W.seq (W.seq (W.region (WL.move rfl rfl rfl (WL.bin rfl rfl rfl rfl rfl ?_))))))
 refine WL.set 62 (v' := .bool false) rfl rfl ?_
 refine WL.move rfl rfl rfl (WL.move rfl rfl rfl (WL.bin rfl rfl rfl rfl rfl ?_))
 refine WL.set 65 (v' := .bool false) rfl rfl ?_
 refine WL.pick (v := .bool false) rfl rfl rfl rfl rfl rfl (WL.move rfl rfl rfl (WL.move rfl rfl rfl (WL.bin rfl rfl rfl rfl rfl ?_)))
 refine WL.set 69 (v' := .bool false) rfl rfl ?_
 refine WL.pick (v := .bool false) rfl rfl rfl rfl rfl rfl (WL.nil (N.seq (W.condF rfl (W.skip (N.seq (W.seq (W.seq (W.region (WL.move rfl rfl rfl ?_)))))))))
 refine WL.bin rfl rfl rfl rfl rfl ?_
 refine WL.set 76 (v' := .bool false) rfl rfl ?_
 refine WL.nil (N.seq (W.condF rfl (W.skip (N.seq (W.seq (W.seq (W.region (WL.move rfl rfl rfl (WL.bin rfl rfl rfl rfl rfl ?_)))))))))
 refine WL.set 82 (v' := .bool true) rfl rfl ?_
 refine WL.nil (N.seq (W.condT rfl (W.region (WL.move rfl rfl rfl ?_))))
 refine WL.callF (vs := [.int .u32 ((wordN 17 rd a 0 imm : Nat) : Int), .int .i64 20, .int .i64 12]) Try.func30 (by kernel_rfl) rfl rfl rfl ((by have h := part_ret (wordN 17 rd a 0 imm) 20 12 hwl (by omega) (by omega) (ro := ro) (w := w34) (fun b hb => (hS.snap b hb).1); rw [show (wordN 17 rd a 0 imm) / 2 ^ 20 % 2 ^ 12 = imm from hwt.2.2.2] at h; exact h)) ?_
 rintro v w35 ⟨rfl, hbl⟩
 replace hS := hS.grow hbl
 refine WL.convInt (by rw [Try.underlying50]; rfl) Try.underlying2 rfl rfl rfl ?_
 refine WL.set 85 (v' := .int .i64 ((imm : Nat) : Int)) rfl (congrArg _ (wrapNi (by omega) (by omega))) ?_
 refine WL.fieldAddr fo_45_4 rfl rfl rfl ?_
 refine WL.store0 #[.int .i64 ((17 : Nat) : Int), .int .i64 ((rd : Nat) : Int), .int .i64 ((a : Nat) : Int), .int .i64 0, .int .i64 ((imm : Nat) : Int)] rfl rfl rfl rfl siz_2 rfl rfl rfl hS ?_
 clear hS; intro w36 hS
 refine WL.nil (N.seq (W.seq (W.seq (W.region (WL.move rfl rfl rfl (WL.bin rfl rfl rfl rfl rfl ?_))))))
 refine WL.set 88 (v' := .bool false) rfl rfl ?_
 refine WL.nil (N.seq (W.condF rfl (W.skip (N.seq (W.seq (W.seq (W.region (WL.move rfl rfl rfl (WL.bin rfl rfl rfl rfl rfl ?_)))))))))
 refine WL.set 98 (v' := .bool false) rfl rfl ?_
 refine WL.nil (N.seq (W.condF rfl (W.skip (N.seq (W.seq (W.seq (W.region (WL.move rfl rfl rfl (WL.bin rfl rfl rfl rfl rfl ?_)))))))))
 refine WL.set 117 (v' := .bool false) rfl rfl ?_
 refine WL.nil (N.seq (W.condF rfl (W.skip (N.seq (W.seq (W.seq (W.region (WL.move rfl rfl rfl (WL.bin rfl rfl rfl rfl rfl ?_)))))))))
 refine WL.set 124 (v' := .bool false) rfl rfl ?_
 refine WL.nil (N.seq (W.condF rfl (W.skip (N.seq (W.seq (W.region (WL.loadN (cs := [.int .i64 ((17 : Nat) : Int), .int .i64 ((rd : Nat) : Int), .int .i64 ((a : Nat) : Int), .int .i64 0, .int .i64 ((imm : Nat) : Int)]) agg_45 rfl rfl rfl rfl (hS.cells 0 (m := 5) rfl rfl) ?_)))))))
 refine WL.callF (vs := [.agg #[.int .i64 ((17 : Nat) : Int), .int .i64 ((rd : Nat) : Int), .int .i64 ((a : Nat) : Int), .int .i64 0, .int .i64 ((imm : Nat) : Int)]]) Try.func17 (by kernel_rfl) rfl rfl rfl (wordH_ret rd a imm hrd ha (by omega) (ro := ro) (fun b hb => (hS.snap b hb).1)) ?_
 rintro v w37 ⟨rfl, hbl⟩
 replace hS := hS.grow hbl
 refine WL.move rfl rfl rfl (WL.extract (v := .int .u32 ((wordN 17 rd a 0 imm : Nat) : Int)) rfl rfl rfl rfl (WL.extract (v := .int .i64 0) rfl rfl rfl rfl (WL.assign rfl rfl rfl (WL.assign rfl rfl rfl (WL.nil (N.seq (W.seq (W.region (WL.move rfl rfl rfl ?_)))))))))
 refine WL.bin rfl rfl rfl rfl rfl ?_
 refine WL.set 148 (v' := .bool true) rfl rfl ?_
 refine WL.move rfl rfl rfl (WL.move rfl rfl rfl (WL.move rfl rfl rfl (WL.bin rfl rfl rfl rfl rfl ?_)))
 refine WL.set 152 (v' := .bool true) rfl (congrArg Value.bool (decide_eq_true rfl)) ?_
 refine WL.pick (v := .bool true) rfl rfl rfl rfl rfl rfl (WL.nil (N.seq (W.condT rfl (W.seq (W.region (WL.loadN (cs := [.int .i64 ((17 : Nat) : Int), .int .i64 ((rd : Nat) : Int), .int .i64 ((a : Nat) : Int), .int .i64 0, .int .i64 ((imm : Nat) : Int)]) agg_45 rfl rfl rfl rfl (hS.cells 0 (m := 5) rfl rfl) ?_))))))
 refine WL.store1 #[.int .i64 ((17 : Nat) : Int), .int .i64 ((rd : Nat) : Int), .int .i64 ((a : Nat) : Int), .int .i64 0, .int .i64 ((imm : Nat) : Int)] rfl rfl rfl rfl siz_45 rfl rfl rfl hS ?_
 clear hS; intro w38 hS
 refine WL.assign rfl rfl rfl (WL.nil (N.seq ?_))
 refine Fin.retCT rfl (v := .agg #[.int .i64 ((17 : Nat) : Int), .int .i64 ((rd : Nat) : Int), .int .i64 ((a : Nat) : Int), .int .i64 0, .int .i64 ((imm : Nat) : Int)]) (v' := .int .i64 0) rfl (tyAgg_run agg_45 (cs := [.int .i64 ((17 : Nat) : Int), .int .i64 ((rd : Nat) : Int), .int .i64 ((a : Nat) : Int), .int .i64 0, .int .i64 ((imm : Nat) : Int)]) rfl (hS.cells 1 (m := 5) rfl rfl)) rfl ?_
 exact ⟨rfl, hS.below⟩

theorem wordOp_ret {r : Int} (x : DOp) (hx : NumOp r x) (hr : 1 ≤ r ∧ r ≤ 31) {w : World} {ro : Nat → Prop} (hro : ∀ b, ro b → b < w.heap.size) : Ret Try.prog 17 #[.agg (opL x).toArray] w fun v w' => v = .tuple #[.int .u32 ((opWord x : Nat) : Int), .int .i64 0] ∧ Below w.heap.size w w' := by
  obtain ⟨hk, hrd, ha, hb, hi, hs⟩ := hx
  obtain ⟨k, rd, a, b, im⟩ := x
  simp only at hk hrd ha hb hi hs
  obtain ⟨n1, rfl⟩ : ∃ n : Nat, rd = (n : Int) := ⟨rd.toNat, by omega⟩
  obtain ⟨n2, rfl⟩ : ∃ n : Nat, a = (n : Int) := ⟨a.toNat, by omega⟩
  obtain ⟨n4, rfl⟩ : ∃ n : Nat, im = (n : Int) := ⟨im.toNat, by omega⟩
  subst hb
  rcases hk with rfl | rfl
  · exact wordI_ret 12 (by omega) n1 n2 n4 (by omega) (by omega) (by omega) hro
  · have := hs rfl; exact wordH_ret n1 n2 n4 (by omega) (by omega) (by omega) hro
theorem takeOp_ret {r : Int} (x : DOp) (hx : NumOp r x) (hr : 1 ≤ r ∧ r ≤ 31) {w : World} {ro : Nat → Prop} (hro : ∀ b, ro b → b < w.heap.size) : Ret Try.prog 33 #[.int .u32 ((opWord x : Nat) : Int)] w fun v w' => v = .tuple #[.agg (opL x).toArray, .int .i64 0] ∧ Below w.heap.size w w' := by
  obtain ⟨hk, hrd, ha, hb, hi, hs⟩ := hx
  obtain ⟨k, rd, a, b, im⟩ := x
  simp only at hk hrd ha hb hi hs
  obtain ⟨n1, rfl⟩ : ∃ n : Nat, rd = (n : Int) := ⟨rd.toNat, by omega⟩
  obtain ⟨n2, rfl⟩ : ∃ n : Nat, a = (n : Int) := ⟨a.toNat, by omega⟩
  obtain ⟨n4, rfl⟩ : ∃ n : Nat, im = (n : Int) := ⟨im.toNat, by omega⟩
  subst hb
  rcases hk with rfl | rfl
  · exact takeI_ret n1 n2 n4 (by omega) (by omega) (by omega) hro
  · have := hs rfl; exact takeH_ret n1 n2 n4 (by omega) (by omega) (by omega) hro

end Go.Proofs.Ytcmmhfknkldmcaa
