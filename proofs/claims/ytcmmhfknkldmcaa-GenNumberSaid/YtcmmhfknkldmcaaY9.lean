/-
  Contracts of the document's machine, for the instructions of a number. No condition beyond those that each theorem states.
-/
import Derived.Test.YtcmmhfknkldmcaaY8
namespace Go.Proofs.Ytcmmhfknkldmcaa
open Go.RowKit

theorem wrapM64 {z : Int} {x : Nat} (e : z = (x : Int)) : IntKind.u64.wrap z = ((x % 18446744073709551616 : Nat) : Int) := by
  subst e; unfold IntKind.wrap; simp only [IntKind.signed, IntKind.bits]
  simp
/-- A machine that runs: its registers, where it stands, its memory, how many steps it has done. -/
def machL (xs : List Nat) (pc : Nat) (sl : Value) (st : Nat) : List Value := xs.map (fun (x : Nat) => Value.int .u64 (x : Int)) ++ [.int .u64 (pc : Int), sl, .string ⟨#[]⟩, .string ⟨#[]⟩, .int .i64 0, .int .u64 0, .int .u64 (st : Int)]
section
variable {xs : List Nat} {pc st : Nat} {sl : Value}
theorem m_len (h : xs.length = 32) : (machL xs pc sl st).length = 39 := by simp [machL, h]
theorem m_beq (h : xs.length = 32) : Nat.beq (machL xs pc sl st).length 39 = true := by rw [m_len h]; rfl
theorem m_ble (h : xs.length = 32) {n : Nat} (hn : n ≤ 39) : Nat.ble n (machL xs pc sl st).toArray.size = true := by
  rw [List.size_toArray, m_len h]; exact Nat.ble_eq_true_of_le hn
theorem m_all (h : xs.length = 32) : ((machL xs pc sl st).toArray.toList.drop 0).take 39 = machL xs pc sl st := by
  rw [List.drop_zero]; exact List.take_of_length_le (by simp [m_len h])
theorem m_at (h : xs.length = 32) (k : Nat) : (machL xs pc sl st).toArray[32 + k]? = ([.int .u64 (pc : Int), sl, .string ⟨#[]⟩, .string ⟨#[]⟩, .int .i64 0, .int .u64 0, .int .u64 (st : Int)] : List Value)[k]? := by
  rw [List.getElem?_toArray]; unfold machL
  rw [List.getElem?_append_right (by simp [h])]
  congr 1; simp [h]
theorem m_x (h : xs.length = 32) {j : Nat} (hj : j < 32) : (machL xs pc sl st).toArray[0 + j * 1]? = some (.int .u64 ((xs.getD j 0 : Nat) : Int)) := by
  rw [List.getElem?_toArray, show 0 + j * 1 = j by omega]; unfold machL
  rw [List.getElem?_append_left (by simp [h]; omega), List.getElem?_map, List.getD_eq_getElem?_getD, List.getElem?_eq_getElem (by omega)]
  rfl
theorem m_one (h : sl.oneCell' = true) : (machL xs pc sl st).all (·.oneCell') = true := by
  unfold machL
  rw [List.all_append]
  rw [List.all_map]
  have h1 : (xs.all fun x => (Value.int .u64 (x : Int)).oneCell') = true := List.all_eq_true.2 fun _ _ => rfl
  have h2 : ([.int .u64 (pc : Int), sl, .string ⟨#[]⟩, .string ⟨#[]⟩, .int .i64 0, .int .u64 0, .int .u64 (st : Int)] : List Value).all (·.oneCell') = true := by
    rw [List.all_cons, List.all_cons, h]; rfl
  rw [h2, Bool.and_true]; exact h1
theorem m_set1 {l : List Value} {k : Nat} {v : Value} (h : k < l.length) : (l.toArray.toList.take k ++ [v] ++ l.toArray.toList.drop (k + 1)).toArray = (l.set k v).toArray := by
  rw [List.set_eq_take_append_cons_drop, if_pos h]; simp
theorem m_setx (h : xs.length = 32) {j v : Nat} (hj : j < 32) : ((machL xs pc sl st).toArray.toList.take (0 + j * 1) ++ [Value.int .u64 (v : Int)] ++ (machL xs pc sl st).toArray.toList.drop (0 + j * 1 + 1)).toArray = (machL (xs.set j v) pc sl st).toArray := by
  rw [m_set1 (by rw [m_len h]; omega), show 0 + j * 1 = j by omega]
  unfold machL
  rw [List.set_append_left _ _ (by simp [h]; omega), List.map_set]
theorem m_setpc (h : xs.length = 32) {v : Nat} : ((machL xs pc sl st).toArray.toList.take 32 ++ [Value.int .u64 (v : Int)] ++ (machL xs pc sl st).toArray.toList.drop (32 + 1)).toArray = (machL xs v sl st).toArray := by
  rw [m_set1 (by rw [m_len h]; omega)]
  unfold machL
  rw [List.set_append_right _ _ (by simp [h])]
  simp [h]
theorem m_setsl (h : xs.length = 32) {v : Value} : ((machL xs pc sl st).toArray.toList.take 33 ++ [v] ++ (machL xs pc sl st).toArray.toList.drop (33 + 1)).toArray = (machL xs pc v st).toArray := by
  rw [m_set1 (by rw [m_len h]; omega)]
  unfold machL
  rw [List.set_append_right _ _ (by simp [h])]
  simp [h]
theorem m_setst (h : xs.length = 32) {v : Nat} : ((machL xs pc sl st).toArray.toList.take 38 ++ [Value.int .u64 (v : Int)] ++ (machL xs pc sl st).toArray.toList.drop (38 + 1)).toArray = (machL xs pc sl v).toArray := by
  rw [m_set1 (by rw [m_len h]; omega)]
  unfold machL
  rw [List.set_append_right _ _ (by simp [h])]
  simp [h]
theorem m_whole {c : List Value} (h : c.length = 39) {l : List Value} (hl : l.length = 39) : (c.toArray.toList.take 0 ++ l ++ c.toArray.toList.drop (0 + l.length)).toArray = l.toArray := by
  rw [hl]; simp [List.drop_eq_nil_of_le (show c.length ≤ 39 by omega)]
theorem m_siz {P : Program} {t : Nat} (h : xs.length = 32) (hs : tySize P t 39 = true) : tySize P t (machL xs pc sl st).length = true := by rw [m_len h]; exact hs
end

set_option maxRecDepth 10000 in
set_option maxHeartbeats 4000000 in
theorem reckon1_ret (a b : Nat) {w : World} {ro : Nat → Prop} (hro : ∀ b, ro b → b < w.heap.size) : Ret Try.prog 44 #[.int .i64 1, .int .u64 (a : Int), .int .u64 (b : Int)] w fun v w' => v = .int .u64 (((a + b) % 18446744073709551616 : Nat) : Int) ∧ Below w.heap.size w w' := by
 refine Ret.enter (P := Try.prog) (n := 69) (args := [.int .i64 1, .int .u64 (a : Int), .int .u64 (b : Int)]) (σ := [(0, .int .i64 1), (1, .int .u64 (a : Int)), (2, .int .u64 (b : Int))]) Try.func44 rfl rfl rfl rfl ?_
 have hS := St.start (ro := ro) hro
 refine W.seq (W.region (WL.assign rfl rfl rfl (WL.nil (N.seq (W.seq (W.seq (W.region (WL.move rfl rfl rfl (WL.bin rfl rfl rfl rfl rfl ?_)))))))))
 refine WL.set 8 (v' := .bool true) rfl rfl ?_
 refine WL.nil (N.seq (W.condT rfl (W.seq (W.region (WL.move rfl rfl rfl (WL.move rfl rfl rfl (WL.bin rfl rfl rfl rfl rfl ?_)))))))
 refine WL.set 11 (v' := .int .u64 (((a + b) % 18446744073709551616 : Nat) : Int)) rfl (congrArg _ (wrapM64 ((Int.natCast_add _ _).symm))) ?_
 refine WL.assign rfl rfl rfl (WL.nil (N.seq ?_))
 refine Fin.ret1 rfl (v := .int .u64 (((a + b) % 18446744073709551616 : Nat) : Int)) rfl ?_
 exact ⟨rfl, hS.below⟩

set_option maxRecDepth 10000 in
set_option maxHeartbeats 4000000 in
theorem reckon3_ret (a : Nat) {w : World} {ro : Nat → Prop} (hro : ∀ b, ro b → b < w.heap.size) : Ret Try.prog 44 #[.int .i64 3, .int .u64 (a : Int), .int .u64 ((11 : Nat) : Int)] w fun v w' => v = .int .u64 ((a * 2048 % 18446744073709551616 : Nat) : Int) ∧ Below w.heap.size w w' := by
 refine Ret.enter (P := Try.prog) (n := 69) (args := [.int .i64 3, .int .u64 (a : Int), .int .u64 ((11 : Nat) : Int)]) (σ := [(0, .int .i64 3), (1, .int .u64 (a : Int)), (2, .int .u64 ((11 : Nat) : Int))]) Try.func44 rfl rfl rfl rfl ?_
 have hS := St.start (ro := ro) hro
 refine W.seq (W.region (WL.assign rfl rfl rfl (WL.nil (N.seq (W.seq (W.seq (W.region (WL.move rfl rfl rfl (WL.bin rfl rfl rfl rfl rfl ?_)))))))))
 refine WL.set 8 (v' := .bool false) rfl rfl ?_
 refine WL.nil (N.seq (W.condF rfl (W.skip (N.seq (W.seq (W.seq (W.region (WL.move rfl rfl rfl (WL.bin rfl rfl rfl rfl rfl ?_)))))))))
 refine WL.set 13 (v' := .bool false) rfl rfl ?_
 refine WL.nil (N.seq (W.condF rfl (W.skip (N.seq (W.seq (W.seq (W.region (WL.move rfl rfl rfl (WL.bin rfl rfl rfl rfl rfl ?_)))))))))
 refine WL.set 18 (v' := .bool true) rfl rfl ?_
 refine WL.nil (N.seq (W.condT rfl (W.seq (W.region (WL.move rfl rfl rfl (WL.move rfl rfl rfl ?_))))))
 refine WL.remC rfl rfl rfl rfl (by decide) ?_
 refine WL.set 21 (v' := .int .u64 ((11 : Nat) : Int)) rfl rfl ?_
 refine WL.callF (vs := [.int .u64 ((11 : Nat) : Int)]) Try.func54 (by kernel_rfl) rfl rfl rfl (pow64_ret 11 (by omega) (ro := ro) (fun b hb => (hS.snap b hb).1)) ?_
 rintro v w1 ⟨rfl, hbl⟩
 replace hS := hS.grow hbl
 refine WL.bin rfl rfl rfl rfl rfl ?_
 refine WL.set 23 (v' := .int .u64 ((a * 2048 % 18446744073709551616 : Nat) : Int)) rfl (congrArg _ (wrapM64 ((Int.natCast_mul _ _).symm))) ?_
 refine WL.assign rfl rfl rfl (WL.nil (N.seq ?_))
 refine Fin.ret1 rfl (v := .int .u64 ((a * 2048 % 18446744073709551616 : Nat) : Int)) rfl ?_
 exact ⟨rfl, hS.below⟩

set_option maxRecDepth 10000 in
set_option maxHeartbeats 4000000 in
theorem does12_ret (rd ra : Int) (a im : Nat) (him : im < 9223372036854775808) (b pc : Int) {w : World} {ro : Nat → Prop} (hro : ∀ b, ro b → b < w.heap.size) : Ret Try.prog 36 #[.agg #[.int .i64 12, .int .i64 rd, .int .i64 ra, .int .i64 0, .int .i64 (im : Int)], .int .u64 (a : Int), .int .u64 b, .int .u64 pc] w fun v w' => v = .int .u64 (((a + im) % 18446744073709551616 : Nat) : Int) ∧ Below w.heap.size w w' := by
 refine Ret.enter (P := Try.prog) (n := 65) (args := [.agg #[.int .i64 12, .int .i64 rd, .int .i64 ra, .int .i64 0, .int .i64 (im : Int)], .int .u64 (a : Int), .int .u64 b, .int .u64 pc]) (σ := [(0, .agg #[.int .i64 12, .int .i64 rd, .int .i64 ra, .int .i64 0, .int .i64 (im : Int)]), (1, .int .u64 (a : Int)), (2, .int .u64 b), (3, .int .u64 pc)]) Try.func36 rfl rfl rfl rfl ?_
 have hS := St.start (ro := ro) hro
 refine W.seq (W.region ?_)
 refine WL.box (v := .agg #[.int .i64 12, .int .i64 rd, .int .i64 ra, .int .i64 0, .int .i64 (im : Int)]) (cs := [.int .i64 12, .int .i64 rd, .int .i64 ra, .int .i64 0, .int .i64 (im : Int)]) rfl rfl rfl rfl hS ?_
 clear hS; intro w2 b1 hb_b1 hS
 refine WL.assign rfl rfl rfl (WL.nil (N.seq (W.seq (W.region (WL.fieldAddr fo_45_4 rfl rfl rfl (WL.load1 (v := .int .i64 (im : Int)) one_2 rfl rfl rfl (hS.cell 0 rfl rfl) ?_))))))
 refine WL.convInt (by rw [Try.underlying2]; rfl) Try.underlying22 rfl rfl rfl ?_
 refine WL.set 13 (v' := .int .u64 ((im : Nat) : Int)) rfl (congrArg _ (wrapN64 (by omega) (by omega))) ?_
 refine WL.assign rfl rfl rfl (WL.nil (N.seq (W.seq (W.seq (W.region (WL.fieldAddr fo_45_0 rfl rfl rfl (WL.load1 (v := .int .i64 12) one_3 rfl rfl rfl (hS.cell 0 rfl rfl) (WL.bin rfl rfl rfl rfl rfl ?_))))))))
 refine WL.set 16 (v' := .bool true) rfl rfl ?_
 refine WL.move rfl rfl rfl (WL.fieldAddr fo_45_0 rfl rfl rfl (WL.load1 (v := .int .i64 12) one_3 rfl rfl rfl (hS.cell 0 rfl rfl) (WL.bin rfl rfl rfl rfl rfl ?_)))
 refine WL.set 20 (v' := .bool false) rfl rfl ?_
 refine WL.pick (v := .bool false) rfl rfl rfl rfl rfl rfl (WL.nil (N.seq (W.condF rfl (W.skip (N.seq (W.seq (W.seq (W.region (WL.fieldAddr fo_45_0 rfl rfl rfl ?_)))))))))
 refine WL.load1 (v := .int .i64 12) one_3 rfl rfl rfl (hS.cell 0 rfl rfl) (WL.bin rfl rfl rfl rfl rfl ?_)
 refine WL.set 29 (v' := .bool true) rfl rfl ?_
 refine WL.move rfl rfl rfl (WL.fieldAddr fo_45_0 rfl rfl rfl (WL.load1 (v := .int .i64 12) one_3 rfl rfl rfl (hS.cell 0 rfl rfl) (WL.bin rfl rfl rfl rfl rfl ?_)))
 refine WL.set 33 (v' := .bool true) rfl rfl ?_
 refine WL.pick (v := .bool true) rfl rfl rfl rfl rfl rfl (WL.nil (N.seq (W.condT rfl (W.seq (W.region ?_)))))
 refine WL.buildSlice (ps := [(0, .int .i64 1), (1, .int .i64 4), (2, .int .i64 5), (3, .int .i64 7), (4, .int .i64 8), (5, .int .i64 3), (6, .int .i64 6)]) (cs := [.int .i64 1, .int .i64 4, .int .i64 5, .int .i64 7, .int .i64 8, .int .i64 3, .int .i64 6]) Try.underlying61 (tyZero_spec zer_3) rfl rfl rfl rfl (by kernel_rfl) hS ?_
 clear hS; intro w4 b3 hb_b3 hS
 refine WL.assign rfl rfl rfl (WL.nil (N.seq (W.seq (W.region (WL.move rfl rfl rfl (WL.fieldAddr fo_45_0 rfl rfl rfl (WL.load1 (v := .int .i64 12) one_3 rfl rfl rfl (hS.cell 1 rfl rfl) ?_)))))))
 refine WL.sub_ (c := 0) rfl rfl rfl rfl (rfl) (by omega) ?_
 refine WL.indexAddr (j := 0) Try.underlying61 isz_3 rfl rfl rfl rfl (by omega) ?_
 refine WL.load1 (v := .int .i64 1) one_3 rfl rfl rfl (hS.cell 0 rfl rfl) (WL.move rfl rfl rfl (WL.move rfl rfl rfl ?_))
 refine WL.callF (vs := [.int .i64 1, .int .u64 (a : Int), .int .u64 ((im : Nat) : Int)]) Try.func44 (by kernel_rfl) rfl rfl rfl (reckon1_ret a im (ro := ro) (fun b hb => (hS.snap b hb).1)) ?_
 rintro v w5 ⟨rfl, hbl⟩
 replace hS := hS.grow hbl
 refine WL.assign rfl rfl rfl (WL.nil (N.seq ?_))
 refine Fin.ret1 rfl (v := .int .u64 (((a + im) % 18446744073709551616 : Nat) : Int)) rfl ?_
 exact ⟨rfl, hS.below⟩

set_option maxRecDepth 10000 in
set_option maxHeartbeats 4000000 in
theorem does17_ret (rd ra : Int) (a im : Nat) (him : im < 9223372036854775808) (b pc : Int) {w : World} {ro : Nat → Prop} (hro : ∀ b, ro b → b < w.heap.size) : Ret Try.prog 36 #[.agg #[.int .i64 17, .int .i64 rd, .int .i64 ra, .int .i64 0, .int .i64 11], .int .u64 (a : Int), .int .u64 b, .int .u64 pc] w fun v w' => v = .int .u64 ((a * 2048 % 18446744073709551616 : Nat) : Int) ∧ Below w.heap.size w w' := by
 refine Ret.enter (P := Try.prog) (n := 65) (args := [.agg #[.int .i64 17, .int .i64 rd, .int .i64 ra, .int .i64 0, .int .i64 11], .int .u64 (a : Int), .int .u64 b, .int .u64 pc]) (σ := [(0, .agg #[.int .i64 17, .int .i64 rd, .int .i64 ra, .int .i64 0, .int .i64 11]), (1, .int .u64 (a : Int)), (2, .int .u64 b), (3, .int .u64 pc)]) Try.func36 rfl rfl rfl rfl ?_
 have hS := St.start (ro := ro) hro
 refine W.seq (W.region ?_)
 refine WL.box (v := .agg #[.int .i64 17, .int .i64 rd, .int .i64 ra, .int .i64 0, .int .i64 11]) (cs := [.int .i64 17, .int .i64 rd, .int .i64 ra, .int .i64 0, .int .i64 11]) rfl rfl rfl rfl hS ?_
 clear hS; intro w2 b1 hb_b1 hS
 refine WL.assign rfl rfl rfl (WL.nil (N.seq (W.seq (W.region (WL.fieldAddr fo_45_4 rfl rfl rfl (WL.load1 (v := .int .i64 11) one_2 rfl rfl rfl (hS.cell 0 rfl rfl) ?_))))))
 refine WL.convInt (by rw [Try.underlying2]; rfl) Try.underlying22 rfl rfl rfl ?_
 refine WL.set 13 (v' := .int .u64 ((11 : Nat) : Int)) rfl (congrArg _ (wrapN64 (by omega) (by omega))) ?_
 refine WL.assign rfl rfl rfl (WL.nil (N.seq (W.seq (W.seq (W.region (WL.fieldAddr fo_45_0 rfl rfl rfl (WL.load1 (v := .int .i64 17) one_3 rfl rfl rfl (hS.cell 0 rfl rfl) (WL.bin rfl rfl rfl rfl rfl ?_))))))))
 refine WL.set 16 (v' := .bool true) rfl rfl ?_
 refine WL.move rfl rfl rfl (WL.fieldAddr fo_45_0 rfl rfl rfl (WL.load1 (v := .int .i64 17) one_3 rfl rfl rfl (hS.cell 0 rfl rfl) (WL.bin rfl rfl rfl rfl rfl ?_)))
 refine WL.set 20 (v' := .bool false) rfl rfl ?_
 refine WL.pick (v := .bool false) rfl rfl rfl rfl rfl rfl (WL.nil (N.seq (W.condF rfl (W.skip (N.seq (W.seq (W.seq (W.region (WL.fieldAddr fo_45_0 rfl rfl rfl ?_)))))))))
 refine WL.load1 (v := .int .i64 17) one_3 rfl rfl rfl (hS.cell 0 rfl rfl) (WL.bin rfl rfl rfl rfl rfl ?_)
 refine WL.set 29 (v' := .bool true) rfl rfl ?_
 refine WL.move rfl rfl rfl (WL.fieldAddr fo_45_0 rfl rfl rfl (WL.load1 (v := .int .i64 17) one_3 rfl rfl rfl (hS.cell 0 rfl rfl) (WL.bin rfl rfl rfl rfl rfl ?_)))
 refine WL.set 33 (v' := .bool true) rfl rfl ?_
 refine WL.pick (v := .bool true) rfl rfl rfl rfl rfl rfl (WL.nil (N.seq (W.condT rfl (W.seq (W.region ?_)))))
 refine WL.buildSlice (ps := [(0, .int .i64 1), (1, .int .i64 4), (2, .int .i64 5), (3, .int .i64 7), (4, .int .i64 8), (5, .int .i64 3), (6, .int .i64 6)]) (cs := [.int .i64 1, .int .i64 4, .int .i64 5, .int .i64 7, .int .i64 8, .int .i64 3, .int .i64 6]) Try.underlying61 (tyZero_spec zer_3) rfl rfl rfl rfl (by kernel_rfl) hS ?_
 clear hS; intro w4 b3 hb_b3 hS
 refine WL.assign rfl rfl rfl (WL.nil (N.seq (W.seq (W.region (WL.move rfl rfl rfl (WL.fieldAddr fo_45_0 rfl rfl rfl (WL.load1 (v := .int .i64 17) one_3 rfl rfl rfl (hS.cell 1 rfl rfl) ?_)))))))
 refine WL.sub_ (c := 5) rfl rfl rfl rfl (rfl) (by omega) ?_
 refine WL.indexAddr (j := 5) Try.underlying61 isz_3 rfl rfl rfl rfl (by omega) ?_
 refine WL.load1 (v := .int .i64 3) one_3 rfl rfl rfl (hS.cell 0 rfl rfl) (WL.move rfl rfl rfl (WL.move rfl rfl rfl ?_))
 refine WL.callF (vs := [.int .i64 3, .int .u64 (a : Int), .int .u64 ((11 : Nat) : Int)]) Try.func44 (by kernel_rfl) rfl rfl rfl (reckon3_ret a (ro := ro) (fun b hb => (hS.snap b hb).1)) ?_
 rintro v w5 ⟨rfl, hbl⟩
 replace hS := hS.grow hbl
 refine WL.assign rfl rfl rfl (WL.nil (N.seq ?_))
 refine Fin.ret1 rfl (v := .int .u64 ((a * 2048 % 18446744073709551616 : Nat) : Int)) rfl ?_
 exact ⟨rfl, hS.below⟩

theorem doesOp_ret {r : Int} (x : DOp) (hx : NumOp r x) (hr : 1 ≤ r) (v : Nat) (b pc : Int) {w : World} {ro : Nat → Prop} (hro : ∀ b, ro b → b < w.heap.size) : Ret Try.prog 36 #[.agg (opL x).toArray, .int .u64 (((if x.a = 0 then 0 else v : Nat) : Nat) : Int), .int .u64 b, .int .u64 pc] w fun z w' => z = .int .u64 ((regN v x : Nat) : Int) ∧ Below w.heap.size w w' := by
  obtain ⟨hk, hrd, ha, hb, hi, hs⟩ := hx
  obtain ⟨k, rd, a, b0, im⟩ := x
  simp only at hk hrd ha hb hi hs
  obtain ⟨n4, rfl⟩ : ∃ n : Nat, im = (n : Int) := ⟨im.toNat, by omega⟩
  subst hb
  rcases hk with rfl | rfl
  · refine Calls.mono (does12_ret rd a (if a = 0 then 0 else v) n4 (by omega) b pc hro) ?_
    rintro e w' ⟨z, he, hz, hb⟩
    exact ⟨z, he, by rw [hz]; rfl, hb⟩
  · obtain ⟨h1, h2⟩ := hs rfl
    have h3 : n4 = 11 := by omega
    subst h3
    refine Calls.mono (does17_ret rd a (if a = 0 then 0 else v) 11 (by omega) b pc hro) ?_
    rintro e w' ⟨z, he, hz, hb⟩
    refine ⟨z, he, ?_, hb⟩
    rw [hz]
    have : ¬ a = 0 := by omega
    simp only [this, if_false]
    rfl

end Go.Proofs.Ytcmmhfknkldmcaa
