/-
  Contracts of the document's machine, for the instructions of a number. No condition beyond those that each theorem states.
-/
import Derived.Test.YtcmmhfknkldmcaaY9
namespace Go.Proofs.Ytcmmhfknkldmcaa
open Go.RowKit
theorem agg_31 : tyAgg Try.prog 31 39 = true := by kernel_rfl
theorem fo_31_0 : fOff Try.prog 31 0 0 = true := by kernel_rfl
theorem fo_31_1 : fOff Try.prog 31 1 32 = true := by kernel_rfl
theorem fo_31_2 : fOff Try.prog 31 2 33 = true := by kernel_rfl
theorem fo_31_5 : fOff Try.prog 31 5 36 = true := by kernel_rfl
theorem fo_31_7 : fOff Try.prog 31 7 38 = true := by kernel_rfl
theorem isz_22 : (Try.prog.info? 22).map (·.size) = some 1 := by kernel_rfl
theorem one_29 : tyOne Try.prog 29 = true := by kernel_rfl
theorem siz_22 : tySize Try.prog 22 1 = true := by kernel_rfl
theorem siz_31 : tySize Try.prog 31 39 = true := by kernel_rfl
theorem zer_31 : tyZero Try.prog 31 = some [.int .u64 0, .int .u64 0, .int .u64 0, .int .u64 0, .int .u64 0, .int .u64 0, .int .u64 0, .int .u64 0, .int .u64 0, .int .u64 0, .int .u64 0, .int .u64 0, .int .u64 0, .int .u64 0, .int .u64 0, .int .u64 0, .int .u64 0, .int .u64 0, .int .u64 0, .int .u64 0, .int .u64 0, .int .u64 0, .int .u64 0, .int .u64 0, .int .u64 0, .int .u64 0, .int .u64 0, .int .u64 0, .int .u64 0, .int .u64 0, .int .u64 0, .int .u64 0, .int .u64 0, .slice none 0 0, .string ⟨#[]⟩, .string ⟨#[]⟩, .int .i64 0, .int .u64 0, .int .u64 0] := by kernel_rfl
set_option maxRecDepth 10000 in
set_option maxHeartbeats 4000000 in
theorem step_ret {r : Int} (x : DOp) (hn : NumOp r x) (hr : 1 ≤ r ∧ r ≤ 31) (D : ByteArray) (hD : D.size = 256) (xs : List Nat) (hxl : xs.length = 32) (h0 : xs[0]? = some 0) (v : Nat) (hax : xs.getD x.a.toNat 0 = if x.a = 0 then 0 else v) (pc : Nat) (hpc : pc + 4 ≤ 256) (hp4 : pc % 4 = 0) (hw : partN D pc 4 = opWord x) (sn : Nat) (hsn : sn < 1000000) (sl : Value) {w : World} {ro : Nat → Prop} (hro : ∀ b, ro b → b < w.heap.size) (hx : SlV ro w 3 PgC sl [D]) : Ret Try.prog 21 #[.agg (machL xs pc sl sn).toArray] w fun z w' => z = .agg (machL (xs.set r.toNat (regN v x)) (pc + 4) sl (sn + 1)).toArray ∧ Below w.heap.size w w' := by
 have hxz := hx
 obtain ⟨ad, cap, rfl, hxa, hxb, hxc, hxd⟩ := id hx
 refine Ret.enter (P := Try.prog) (n := 235) (args := [.agg (machL xs pc (.slice ad 1 cap) sn).toArray]) (σ := [(0, .agg (machL xs pc (.slice ad 1 cap) sn).toArray)]) Try.func21 rfl rfl rfl rfl ?_
 have hS := St.start (ro := ro) hro
 have hki := hn.i; have hkb := hn.b; have hka := hn.a; have hkr := hn.rd
 have hsub : ∀ b, ro b → ro b ∨ w.heap.size ≤ b := fun _ h => .inl h
 refine W.seq (W.region ?_)
 refine WL.box (v := .agg (machL xs pc (.slice ad 1 cap) sn).toArray) (cs := (machL xs pc (.slice ad 1 cap) sn)) rfl rfl rfl rfl hS ?_
 clear hS; intro w2 b1 hb_b1 hS
 refine WL.alloc (tyZero_spec zer_31) rfl rfl hS ?_
 clear hS; intro w4 b3 hb_b3 hS
 replace hS : St w w w4 ro [(b3, .cells (machL (List.replicate 32 0) 0 (.slice none 0 0) 0).toArray 31 (0, 0)), (b1, .cells (machL xs pc (.slice ad 1 cap) sn).toArray 31 (0, 0))] [] := hS
 refine WL.nil (N.seq (W.seq (W.seq (W.region (WL.fieldAddr fo_31_5 rfl rfl rfl (WL.load1 (v := .int .i64 0) one_3 rfl rfl rfl (hS.cell 1 rfl (m_at hxl 4)) (WL.bin rfl rfl rfl rfl rfl ?_)))))))
 refine WL.set 20 (v' := .bool false) rfl rfl ?_
 refine WL.nil (N.seq (W.condF rfl (W.skip (N.seq (W.seq (W.region (WL.fieldAddr fo_31_7 rfl rfl rfl (WL.load1 (v := .int .u64 ((sn : Nat) : Int)) one_22 rfl rfl rfl (hS.cell 1 rfl (m_at hxl 6)) (WL.bin rfl rfl rfl rfl rfl ?_)))))))))
 refine WL.set 24 (v' := .int .u64 ((sn + 1 : Nat) : Int)) rfl (congrArg _ (wrapN64 (by omega) (by omega))) ?_
 refine WL.fieldAddr fo_31_7 rfl rfl rfl ?_
 refine WL.store1 (machL xs pc (.slice ad 1 cap) (sn + 1)).toArray rfl rfl rfl rfl siz_22 rfl (m_ble hxl (show 38 + 1 ≤ 39 by omega)) (m_setst hxl) hS ?_
 clear hS; intro w5 hS
 refine WL.nil (N.seq (W.seq (W.region (WL.fieldAddr fo_31_2 rfl rfl rfl (WL.load1 (v := .slice ad 1 cap) one_29 rfl rfl rfl (hS.cell 1 rfl (m_at hxl 1)) (WL.fieldAddr fo_31_1 rfl rfl rfl (WL.load1 (v := .int .u64 ((pc : Nat) : Int)) one_22 rfl rfl rfl (hS.cell 1 rfl (m_at hxl 0)) ?_)))))))
 refine WL.callF (vs := [.slice ad 1 cap, .int .u64 ((pc : Nat) : Int), .int .i64 4, .int .i64 1]) Try.func31 (by kernel_rfl) rfl rfl rfl ((by have h := load_ret D hD pc hpc _ (ro := ro) (w := w5) (fun b hb => (hS.snap b hb).1) (hx.keep hS.alike fun _ _ q => q); rw [hw] at h; exact h)) ?_
 rintro v w6 ⟨rfl, hbl⟩
 replace hS := hS.grow hbl
 refine WL.move rfl rfl rfl (WL.extract (v := .int .u64 ((opWord x : Nat) : Int)) rfl rfl rfl rfl (WL.extract (v := .int .i64 0) rfl rfl rfl rfl (WL.assign rfl rfl rfl (WL.assign rfl rfl rfl (WL.nil (N.seq (W.seq (W.seq (W.region ?_)))))))))
 refine WL.fieldAddr fo_31_1 rfl rfl rfl (WL.load1 (v := .int .u64 ((pc : Nat) : Int)) one_22 rfl rfl rfl (hS.cell 1 rfl (m_at hxl 0)) ?_)
 refine WL.remC rfl rfl rfl rfl (by decide) ?_
 refine WL.set 36 (v' := .int .u64 0) rfl (congrArg _ (by rw [Int.tmod_eq_emod_of_nonneg (by omega)]; omega)) ?_
 refine WL.bin rfl rfl rfl rfl rfl ?_
 refine WL.set 37 (v' := .bool false) rfl rfl ?_
 refine WL.move rfl rfl rfl (WL.move rfl rfl rfl (WL.bin rfl rfl rfl rfl rfl ?_))
 refine WL.set 40 (v' := .bool false) rfl rfl ?_
 refine WL.pick (v := .bool false) rfl rfl rfl rfl rfl rfl (WL.nil (N.seq (W.condF rfl (W.skip (N.seq (W.seq (W.region (WL.move rfl rfl rfl ?_))))))))
 refine WL.convInt (by rw [Try.underlying22]; rfl) Try.underlying50 rfl rfl rfl ?_
 refine WL.set 46 (v' := .int .u32 ((opWord x : Nat) : Int)) rfl (congrArg _ (wrapN32 (by omega) (opWord_lt hn hr))) ?_
 refine WL.callF (vs := [.int .u32 ((opWord x : Nat) : Int)]) Try.func33 (by kernel_rfl) rfl rfl rfl (takeOp_ret x hn hr (ro := ro) (fun b hb => (hS.snap b hb).1)) ?_
 rintro v w7 ⟨rfl, hbl⟩
 replace hS := hS.grow hbl
 refine WL.move rfl rfl rfl (WL.extract (v := .agg #[.int .i64 x.kind, .int .i64 x.rd, .int .i64 x.a, .int .i64 x.b, .int .i64 x.imm]) rfl rfl rfl rfl (WL.extract (v := .int .i64 0) rfl rfl rfl rfl ?_))
 refine WL.alloc (tyZero_spec zer_45) rfl rfl hS ?_
 clear hS; intro w9 b8 hb_b8 hS
 refine WL.store0 #[.int .i64 x.kind, .int .i64 x.rd, .int .i64 x.a, .int .i64 x.b, .int .i64 x.imm] rfl rfl rfl rfl siz_45 rfl rfl rfl hS ?_
 clear hS; intro w10 hS
 refine WL.assign rfl rfl rfl (WL.nil (N.seq (W.seq (W.seq (W.region (WL.move rfl rfl rfl (WL.bin rfl rfl rfl rfl rfl ?_)))))))
 refine WL.set 51 (v' := .bool false) rfl rfl ?_
 refine WL.nil (N.seq (W.condF rfl (W.skip (N.seq (W.seq (W.region (WL.fieldAddr fo_45_2 rfl rfl rfl (WL.load1 (v := .int .i64 x.a) one_3 rfl rfl rfl (hS.cell 0 rfl rfl) (WL.fieldAddr fo_31_0 rfl rfl rfl ?_)))))))))
 refine WL.set 55 (v' := .int .i64 ((x.a.toNat : Nat) : Int)) rfl (congrArg _ (by omega)) ?_
 refine WL.indexArr (j := x.a.toNat) Try.underlying28 isz_22 rfl rfl rfl rfl (by omega) ?_
 refine WL.load1 (v := .int .u64 ((xs.getD x.a.toNat 0 : Nat) : Int)) one_22 rfl rfl rfl (hS.cell 2 rfl (m_x hxl (by omega))) ?_
 refine WL.set 58 (v' := .int .u64 (((if x.a = 0 then 0 else v) : Nat) : Int)) rfl (congrArg (fun n : Nat => Value.int .u64 (n : Int)) hax) ?_
 refine WL.assign rfl rfl rfl (WL.nil (N.seq (W.seq (W.region (WL.fieldAddr fo_45_3 rfl rfl rfl (WL.load1 (v := .int .i64 x.b) one_3 rfl rfl rfl (hS.cell 0 rfl rfl) (WL.fieldAddr fo_31_0 rfl rfl rfl ?_)))))))
 refine WL.set 60 (v' := .int .i64 ((x.b.toNat : Nat) : Int)) rfl (congrArg _ (by omega)) ?_
 refine WL.indexArr (j := x.b.toNat) Try.underlying28 isz_22 rfl rfl rfl rfl (by omega) ?_
 refine WL.load1 (v := .int .u64 ((xs.getD x.b.toNat 0 : Nat) : Int)) one_22 rfl rfl rfl (hS.cell 2 rfl (m_x hxl (by omega))) (WL.assign rfl rfl rfl (WL.nil (N.seq (W.seq (W.region (WL.fieldAddr fo_45_4 rfl rfl rfl (WL.load1 (v := .int .i64 x.imm) one_2 rfl rfl rfl (hS.cell 0 rfl rfl) ?_)))))))
 refine WL.convInt (by rw [Try.underlying2]; rfl) Try.underlying22 rfl rfl rfl ?_
 refine WL.set 66 (v' := .int .u64 ((x.imm.toNat : Nat) : Int)) rfl (congrArg _ (wrapN64 (by omega) (by omega))) ?_
 refine WL.assign rfl rfl rfl (WL.nil (N.seq (W.seq (W.region (WL.loadN (cs := (machL xs pc (.slice ad 1 cap) (sn + 1))) agg_31 rfl rfl rfl (m_beq hxl) (hS.cells 2 (off := 0) (m := 39) rfl (m_all hxl)) ?_)))))
 refine WL.alloc (tyZero_spec zer_31) rfl rfl hS ?_
 clear hS; intro w12 b11 hb_b11 hS
 replace hS : St w w w12 ro [(b11, .cells (machL (List.replicate 32 0) 0 (.slice none 0 0) 0).toArray 31 (0, 0)), (b8, .cells #[.int .i64 x.kind, .int .i64 x.rd, .int .i64 x.a, .int .i64 x.b, .int .i64 x.imm] 45 (0, 0)), (b3, .cells (machL (List.replicate 32 0) 0 (.slice none 0 0) 0).toArray 31 (0, 0)), (b1, .cells (machL xs pc (.slice ad 1 cap) (sn + 1)).toArray 31 (0, 0))] [] := hS
 refine WL.store0 (machL xs pc (.slice ad 1 cap) (sn + 1)).toArray rfl rfl rfl rfl (m_siz hxl siz_31) (m_one rfl) (show Nat.ble (0 + (machL xs pc (.slice ad 1 cap) (sn + 1)).length) (machL (List.replicate 32 0) 0 (.slice none 0 0) 0).toArray.size = true by rw [m_len hxl]; exact m_ble List.length_replicate (by omega)) (m_whole (m_len List.length_replicate) (m_len hxl)) hS ?_
 clear hS; intro w13 hS
 refine WL.nil (N.seq (W.seq (W.region (WL.fieldAddr fo_31_1 rfl rfl rfl (WL.load1 (v := .int .u64 ((pc : Nat) : Int)) one_22 rfl rfl rfl (hS.cell 3 rfl (m_at hxl 0)) (WL.bin rfl rfl rfl rfl rfl ?_))))))
 refine WL.set 70 (v' := .int .u64 ((pc + 4 : Nat) : Int)) rfl (congrArg _ (wrapN64 (by omega) (by omega))) ?_
 refine WL.fieldAddr fo_31_1 rfl rfl rfl ?_
 refine WL.store0 (machL xs (pc + 4) (.slice ad 1 cap) (sn + 1)).toArray rfl rfl rfl rfl siz_22 rfl (m_ble hxl (show 32 + 1 ≤ 39 by omega)) (m_setpc hxl) hS ?_
 clear hS; intro w14 hS
 refine WL.nil (N.seq (W.seq (W.seq (W.region (WL.fieldAddr fo_45_0 rfl rfl rfl (WL.load1 (v := .int .i64 x.kind) one_3 rfl rfl rfl (hS.cell 1 rfl rfl) (WL.bin rfl rfl rfl rfl rfl ?_)))))))
 refine WL.set 74 (v' := .bool false) rfl (congrArg Value.bool (show (decide (x.kind = 31)) = false from decide_eq_false (show ¬ (x.kind = 31) from by have := hn.k; omega))) ?_
 refine WL.nil (N.seq (W.condF rfl (W.skip (N.seq (W.seq (W.seq (W.region (WL.fieldAddr fo_45_0 rfl rfl rfl (WL.load1 (v := .int .i64 x.kind) one_3 rfl rfl rfl (hS.cell 1 rfl rfl) ?_)))))))))
 refine WL.bin rfl rfl rfl rfl rfl ?_
 refine WL.set 126 (v' := .bool false) rfl (congrArg Value.bool (show (decide (x.kind = 19)) = false from decide_eq_false (show ¬ (x.kind = 19) from by have := hn.k; omega))) ?_
 refine WL.move rfl rfl rfl (WL.fieldAddr fo_45_0 rfl rfl rfl (WL.load1 (v := .int .i64 x.kind) one_3 rfl rfl rfl (hS.cell 1 rfl rfl) (WL.bin rfl rfl rfl rfl rfl ?_)))
 refine WL.set 130 (v' := .bool false) rfl (congrArg Value.bool (show (decide (x.kind = 20)) = false from decide_eq_false (show ¬ (x.kind = 20) from by have := hn.k; omega))) ?_
 refine WL.pick (v := .bool false) rfl rfl rfl rfl rfl rfl (WL.nil (N.seq (W.condF rfl (W.skip (N.seq (W.seq (W.seq (W.region (WL.fieldAddr fo_45_0 rfl rfl rfl ?_)))))))))
 refine WL.load1 (v := .int .i64 x.kind) one_3 rfl rfl rfl (hS.cell 1 rfl rfl) (WL.bin rfl rfl rfl rfl rfl ?_)
 refine WL.set 159 (v' := .bool false) rfl (congrArg Value.bool (show (decide (x.kind = 21)) = false from decide_eq_false (show ¬ (x.kind = 21) from by have := hn.k; omega))) ?_
 refine WL.move rfl rfl rfl (WL.fieldAddr fo_45_0 rfl rfl rfl (WL.load1 (v := .int .i64 x.kind) one_3 rfl rfl rfl (hS.cell 1 rfl rfl) (WL.bin rfl rfl rfl rfl rfl ?_)))
 refine WL.set 163 (v' := .bool false) rfl (congrArg Value.bool (show (decide (x.kind = 22)) = false from decide_eq_false (show ¬ (x.kind = 22) from by have := hn.k; omega))) ?_
 refine WL.pick (v := .bool false) rfl rfl rfl rfl rfl rfl (WL.nil (N.seq (W.condF rfl (W.skip (N.seq (W.seq (W.seq (W.region (WL.fieldAddr fo_45_0 rfl rfl rfl ?_)))))))))
 refine WL.load1 (v := .int .i64 x.kind) one_3 rfl rfl rfl (hS.cell 1 rfl rfl) (WL.bin rfl rfl rfl rfl rfl ?_)
 refine WL.set 188 (v' := .bool false) rfl (congrArg Value.bool (show (decide (23 ≤ x.kind)) = false from decide_eq_false (show ¬ (23 ≤ x.kind) from by have := hn.k; omega))) ?_
 refine WL.move rfl rfl rfl (WL.skp rfl rfl (WL.skp rfl rfl (WL.skp rfl rfl (WL.pick (v := .bool false) rfl rfl rfl rfl rfl rfl (WL.nil (N.seq (W.condF rfl (W.skip (N.seq ?_)))))))))
 refine W.seq ?_
 refine W.drawL (by kernel_rfl) 10 ((.q (.pointer (some ⟨b8, 1, none⟩))) :: (.q (.int .i64 x.rd)) :: (.q (.agg #[.int .i64 x.kind, .int .i64 x.rd, .int .i64 x.a, .int .i64 x.b, .int .i64 x.imm])) :: (.q (.int .u64 (((if x.a = 0 then 0 else v) : Nat) : Int))) :: (.q (.int .u64 ((xs.getD x.b.toNat 0 : Nat) : Int))) :: (.q (.pointer (some ⟨b1, 32, none⟩))) :: (.q (.int .u64 ((pc : Nat) : Int))) :: (.q (.int .u64 ((regN v x : Nat) : Int))) :: (.q (.pointer (some ⟨b11, 0, none⟩))) :: (.q (.pointer (some ⟨b11, 0 + r.toNat * 1, none⟩))) :: []) (by kernel_rfl) (by kernel_rfl) [(1, .pointer (some ⟨b1, 0, none⟩)), (2, .pointer (some ⟨b3, 0, none⟩)), (5, .pointer (some ⟨b8, 0, none⟩)), (7, .int .u64 (((if x.a = 0 then 0 else v) : Nat) : Int)), (8, .int .u64 ((xs.getD x.b.toNat 0 : Nat) : Int)), (9, .int .u64 ((x.imm.toNat : Nat) : Int)), (10, .pointer (some ⟨b11, 0, none⟩))] ⟨rfl, rfl, rfl, rfl, rfl, rfl, rfl, trivial⟩ (by kernel_rfl) hS ?_ ?_
 ·
  refine And.intro (fun β w hS => ?_) ?_
  ·
   refine WL.sub (σ' := [(5, .pointer (some ⟨b8, 0, none⟩))]) ⟨rfl, trivial⟩ ?_
   refine WL.fieldAddr fo_45_1 rfl rfl rfl ?_
   exact WL.nil (N.cut () ⟨rfl, trivial⟩ (Below.refl _ _))
  refine And.intro (fun β w hS => ?_) ?_
  ·
   refine WL.sub (σ' := [(205, .pointer (some ⟨b8, 1, none⟩))]) ⟨rfl, trivial⟩ ?_
   refine WL.load1 (v := .int .i64 x.rd) one_3 rfl rfl rfl (hS.cell 1 rfl rfl) ?_
   exact WL.nil (N.cut () ⟨rfl, trivial⟩ (Below.refl _ _))
  refine And.intro (fun β w hS => ?_) ?_
  ·
   refine WL.sub (σ' := [(5, .pointer (some ⟨b8, 0, none⟩))]) ⟨rfl, trivial⟩ ?_
   refine WL.loadN (cs := [.int .i64 x.kind, .int .i64 x.rd, .int .i64 x.a, .int .i64 x.b, .int .i64 x.imm]) agg_45 rfl rfl rfl rfl (hS.cells 1 (m := 5) rfl rfl) ?_
   exact WL.nil (N.cut () ⟨rfl, trivial⟩ (Below.refl _ _))
  refine And.intro (fun β w hS => ?_) ?_
  ·
   refine WL.sub (σ' := [(7, .int .u64 (((if x.a = 0 then 0 else v) : Nat) : Int))]) ⟨rfl, trivial⟩ ?_
   refine WL.move rfl rfl rfl ?_
   exact WL.nil (N.cut () ⟨rfl, trivial⟩ (Below.refl _ _))
  refine And.intro (fun β w hS => ?_) ?_
  ·
   refine WL.sub (σ' := [(8, .int .u64 ((xs.getD x.b.toNat 0 : Nat) : Int))]) ⟨rfl, trivial⟩ ?_
   refine WL.move rfl rfl rfl ?_
   exact WL.nil (N.cut () ⟨rfl, trivial⟩ (Below.refl _ _))
  refine And.intro (fun β w hS => ?_) ?_
  ·
   refine WL.sub (σ' := [(1, .pointer (some ⟨b1, 0, none⟩))]) ⟨rfl, trivial⟩ ?_
   refine WL.fieldAddr fo_31_1 rfl rfl rfl ?_
   exact WL.nil (N.cut () ⟨rfl, trivial⟩ (Below.refl _ _))
  refine And.intro (fun β w hS => ?_) ?_
  ·
   refine WL.sub (σ' := [(210, .pointer (some ⟨b1, 32, none⟩))]) ⟨rfl, trivial⟩ ?_
   refine WL.load1 (v := .int .u64 ((pc : Nat) : Int)) one_22 rfl rfl rfl (hS.cell 3 rfl (m_at hxl 0)) ?_
   exact WL.nil (N.cut () ⟨rfl, trivial⟩ (Below.refl _ _))
  refine And.intro (fun β w hS => ?_) ?_
  ·
   refine WL.sub (σ' := [(207, .agg #[.int .i64 x.kind, .int .i64 x.rd, .int .i64 x.a, .int .i64 x.b, .int .i64 x.imm]), (208, .int .u64 (((if x.a = 0 then 0 else v) : Nat) : Int)), (209, .int .u64 ((xs.getD x.b.toNat 0 : Nat) : Int)), (211, .int .u64 ((pc : Nat) : Int))]) ⟨rfl, rfl, rfl, rfl, trivial⟩ ?_
   refine WL.callF (vs := [.agg #[.int .i64 x.kind, .int .i64 x.rd, .int .i64 x.a, .int .i64 x.b, .int .i64 x.imm], .int .u64 (((if x.a = 0 then 0 else v) : Nat) : Int), .int .u64 ((xs.getD x.b.toNat 0 : Nat) : Int), .int .u64 ((pc : Nat) : Int)]) Try.func36 (by kernel_rfl) rfl rfl rfl (doesOp_ret x hn hr.1 v _ _ (ro := ro) (fun b hb => (hS.snap b hb).1)) ?_
   rintro v w16 ⟨rfl, hbl⟩
   replace hS := hS.grow hbl
   exact WL.nil (N.cut () ⟨rfl, trivial⟩ hbl)
  refine And.intro (fun β w hS => ?_) ?_
  ·
   refine WL.sub (σ' := [(10, .pointer (some ⟨b11, 0, none⟩))]) ⟨rfl, trivial⟩ ?_
   refine WL.fieldAddr fo_31_0 rfl rfl rfl ?_
   exact WL.nil (N.cut () ⟨rfl, trivial⟩ (Below.refl _ _))
  refine And.intro (fun β w hS => ?_) ?_
  ·
   refine WL.sub (σ' := [(206, .int .i64 x.rd), (213, .pointer (some ⟨b11, 0, none⟩))]) ⟨rfl, rfl, trivial⟩ ?_
   refine WL.set 206 (v' := .int .i64 ((r.toNat : Nat) : Int)) rfl (congrArg _ (by omega)) ?_
   refine WL.indexArr (j := r.toNat) Try.underlying28 isz_22 rfl rfl rfl rfl (by omega) ?_
   exact WL.nil (N.cut () ⟨rfl, trivial⟩ (Below.refl _ _))
  trivial
 clear hS; intro w17 β hS
 refine WL.sub (σ' := [(1, .pointer (some ⟨b1, 0, none⟩)), (2, .pointer (some ⟨b3, 0, none⟩)), (5, .pointer (some ⟨b8, 0, none⟩)), (7, .int .u64 (((if x.a = 0 then 0 else v) : Nat) : Int)), (9, .int .u64 ((x.imm.toNat : Nat) : Int)), (10, .pointer (some ⟨b11, 0, none⟩)), (212, .int .u64 ((regN v x : Nat) : Int)), (214, .pointer (some ⟨b11, 0 + r.toNat * 1, none⟩))]) ⟨rfl, rfl, rfl, rfl, rfl, rfl, rfl, rfl, trivial⟩ ?_
 refine WL.store0 (machL (xs.set r.toNat (regN v x)) (pc + 4) (.slice ad 1 cap) (sn + 1)).toArray rfl rfl rfl rfl siz_22 rfl (m_ble hxl (show 0 + r.toNat * 1 + 1 ≤ 39 by omega)) (m_setx hxl (by omega)) hS ?_
 clear hS; intro w18 hS
 refine WL.nil (N.seq (W.seq (W.region (WL.fieldAddr fo_31_0 rfl rfl rfl ?_))))
 refine WL.indexArr (j := 0) Try.underlying28 isz_22 rfl rfl rfl rfl (by omega) ?_
 refine WL.store0 (machL ((xs.set r.toNat (regN v x)).set 0 0) (pc + 4) (.slice ad 1 cap) (sn + 1)).toArray rfl rfl rfl rfl siz_22 rfl (m_ble (by rw [List.length_set]; exact hxl) (show 0 + 0 * 1 + 1 ≤ 39 by omega)) (m_setx (by rw [List.length_set]; exact hxl) (by omega)) hS ?_
 clear hS; intro w19 hS
 refine WL.nil (N.seq (W.seq (W.seq (W.region (WL.fieldAddr fo_45_0 rfl rfl rfl (WL.load1 (v := .int .i64 x.kind) one_3 rfl rfl rfl (hS.cell 1 rfl rfl) (WL.bin rfl rfl rfl rfl rfl ?_)))))))
 refine WL.set 219 (v' := .bool false) rfl (congrArg Value.bool (show (decide (x.kind = 29)) = false from decide_eq_false (show ¬ (x.kind = 29) from by have := hn.k; omega))) ?_
 refine WL.nil (N.seq (W.condF rfl (W.skip (N.seq (W.seq (W.seq (W.region (WL.fieldAddr fo_45_0 rfl rfl rfl (WL.load1 (v := .int .i64 x.kind) one_3 rfl rfl rfl (hS.cell 1 rfl rfl) ?_)))))))))
 refine WL.bin rfl rfl rfl rfl rfl ?_
 refine WL.set 227 (v' := .bool false) rfl (congrArg Value.bool (show (decide (x.kind = 30)) = false from decide_eq_false (show ¬ (x.kind = 30) from by have := hn.k; omega))) ?_
 refine WL.nil (N.seq (W.condF rfl (W.skip (N.seq (W.seq (W.region (WL.loadN (cs := (machL ((xs.set r.toNat (regN v x)).set 0 0) (pc + 4) (.slice ad 1 cap) (sn + 1))) agg_31 rfl rfl rfl (m_beq (by rw [List.length_set]; exact (by rw [List.length_set]; exact hxl))) (hS.cells 0 (off := 0) (m := 39) rfl (m_all (by rw [List.length_set]; exact (by rw [List.length_set]; exact hxl)))) ?_)))))))
 refine WL.store2 (machL ((xs.set r.toNat (regN v x)).set 0 0) (pc + 4) (.slice ad 1 cap) (sn + 1)).toArray rfl rfl rfl rfl (m_siz (by rw [List.length_set]; exact (by rw [List.length_set]; exact hxl)) siz_31) (m_one rfl) (show Nat.ble (0 + (machL ((xs.set r.toNat (regN v x)).set 0 0) (pc + 4) (.slice ad 1 cap) (sn + 1)).length) (machL (List.replicate 32 0) 0 (.slice none 0 0) 0).toArray.size = true by rw [m_len (by rw [List.length_set]; exact (by rw [List.length_set]; exact hxl))]; exact m_ble List.length_replicate (by omega)) (m_whole (m_len List.length_replicate) (m_len (by rw [List.length_set]; exact (by rw [List.length_set]; exact hxl)))) hS ?_
 clear hS; intro w20 hS
 refine WL.nil (N.seq ?_)
 refine Fin.retC rfl (v := .agg (machL ((xs.set r.toNat (regN v x)).set 0 0) (pc + 4) (.slice ad 1 cap) (sn + 1)).toArray) rfl (tyAgg_run agg_31 (cs := (machL ((xs.set r.toNat (regN v x)).set 0 0) (pc + 4) (.slice ad 1 cap) (sn + 1))) (m_beq (by rw [List.length_set]; exact (by rw [List.length_set]; exact hxl))) (hS.cells 2 (off := 0) (m := 39) rfl (m_all (by rw [List.length_set]; exact (by rw [List.length_set]; exact hxl))))) ?_
 have e9 : (xs.set r.toNat (regN v x)).set 0 0 = xs.set r.toNat (regN v x) := by
  apply List.ext_getElem?
  intro j
  rw [List.getElem?_set, List.getElem?_set]
  by_cases hj : 0 = j
  ·
   subst hj; rw [if_pos rfl, if_pos (by rw [List.length_set]; omega), if_neg (by omega), h0]
  rw [if_neg hj]
 rw [e9]
 exact ⟨rfl, hS.below⟩

end Go.Proofs.Ytcmmhfknkldmcaa
