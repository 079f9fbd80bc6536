/-
  ir.Func, both ways. No condition beyond those that each theorem states.
-/
import Derived.Test.YtdlcmhkfglckfaaIX1
namespace Go.Proofs.Ytdlcmhkfglckfaa
open Go.RowKit

set_option maxHeartbeats 2000000 in
theorem xinst_ret (x : DInst) (cx : List Value) (n : Int) {w : World} {ro : Nat → Prop} (hro : ∀ b, ro b → b < w.heap.size) (hx : InstC ro w cx x) (hok : okInst x) : Ret Try.prog 64 #[.agg cx.toArray, .int .i64 n] w fun v w' => v = .bool (inst5 x n) ∧ Below w.heap.size w w' := by
 have hQx := hx
 obtain ⟨sx, rfl, hsx, hox, hax, hbx, hkx, hnx⟩ := id hx
 obtain ⟨adx, capx, rfl, hsxa, hsxb, hsxc, hsxd⟩ := id hsx
 have hsxm : x.args.length ≤ 9223372036854775807 := by have h1 := hsxa; have h2 := hsxb; unfold maxLen at h2; omega
 refine Ret.enter (P := Try.prog) (n := 91) (args := [.agg #[.int .i64 x.op, .int .i64 x.a, .int .i64 x.b, .int .u64 x.k, .string x.name, .slice adx x.args.length capx], .int .i64 n]) (σ := [(0, .agg #[.int .i64 x.op, .int .i64 x.a, .int .i64 x.b, .int .u64 x.k, .string x.name, .slice adx x.args.length capx]), (1, .int .i64 n)]) Try.func64 rfl rfl rfl rfl ?_
 have hS := St.start (ro := ro) hro
 have hal : x.args.length ≤ 17592186043904 := by have h := hok; unfold okInst reachBytes at h; omega
 refine W.seq (W.region ?_)
 refine WL.box (v := .agg #[.int .i64 x.op, .int .i64 x.a, .int .i64 x.b, .int .u64 x.k, .string x.name, .slice adx x.args.length capx]) (cs := [.int .i64 x.op, .int .i64 x.a, .int .i64 x.b, .int .u64 x.k, .string x.name, .slice adx x.args.length capx]) rfl rfl rfl rfl hS ?_
 clear hS; intro w2 b1 hb_b1 hS
 refine WL.assign rfl rfl rfl (WL.nil (N.seq (W.seq ?_)))
 refine W.cut (α := Bool) (fun (q21 : Bool) => [(2, .pointer (some ⟨b1, 0, none⟩)), (4, .bool false), (21, .bool q21)]) (fun (q21 : Bool) u => St w w u ro [(b1, .cells #[.int .i64 x.op, .int .i64 x.a, .int .i64 x.b, .int .u64 x.k, .string x.name, .slice adx x.args.length capx] 36 (0, 0))] [] ∧ q21 = decide (x.op < 1 ∨ 16 < x.op ∨ below5 (uses5 x) n = false)) ?_ ?_
 ·
  refine W.region (WL.fieldAddr fo_36_0 rfl rfl rfl (WL.load1 (v := .int .i64 x.op) one_3 rfl rfl rfl (hS.cell 0 rfl rfl) (WL.bin rfl rfl rfl rfl rfl (WL.move rfl rfl rfl ?_))))
  cases hg3 : (decide (x.op < 1))
  ·
   have hg3p : ¬ (x.op < 1) := by simpa using hg3
   refine WL.fieldAddr fo_36_0 rfl rfl rfl (WL.load1 (v := .int .i64 x.op) one_3 rfl rfl rfl (hS.cell 0 rfl rfl) (WL.bin rfl rfl rfl rfl rfl (WL.pick (v := .bool (decide (16 < x.op))) rfl rfl rfl rfl rfl rfl (WL.move rfl rfl rfl ?_))))
   cases hg4 : (decide (16 < x.op))
   ·
    have hg4p : ¬ (16 < x.op) := by simpa using hg4
    refine WL.loadN (cs := [.int .i64 x.op, .int .i64 x.a, .int .i64 x.b, .int .u64 x.k, .string x.name, .slice adx x.args.length capx]) agg_36 rfl rfl rfl rfl (hS.cells 0 (m := 6) rfl rfl) ?_
    refine WL.callF (vs := [.agg #[.int .i64 x.op, .int .i64 x.a, .int .i64 x.b, .int .u64 x.k, .string x.name, .slice adx x.args.length capx]]) Try.func32 (by kernel_rfl) rfl rfl rfl (iuses_ret x _ (ro := ro) (fun b hb => (hS.snap b hb).1) (hQx.keep hS.alike) hal) ?_
    rintro v w5 ⟨hus, hbl⟩
    replace hS := hS.grow hbl
    refine WL.move rfl rfl rfl ?_
    refine WL.callF (vs := [v, .int .i64 n]) Try.func67 (by kernel_rfl) rfl rfl rfl (xall_ret (uses5 x) _ n (ro := fun b => w2.heap.size ≤ b ∧ b < w5.heap.size) (fun _ h => h.2) hus) ?_
    rintro v w6 ⟨rfl, hbl⟩
    replace hS := hS.grow hbl
    refine WL.not rfl rfl rfl (WL.pick (v := .bool (!(below5 (uses5 x) n))) rfl rfl rfl rfl rfl rfl (WL.nil ?_))
    exact N.cut (!below5 (uses5 x) n) ⟨rfl, rfl, rfl, trivial⟩ ⟨hS, by rw [Bool.eq_iff_iff]; simp only [Bool.not_eq_true', decide_eq_true_eq]; exact ⟨fun h => .inr (.inr h), fun h => h.elim (fun h => by omega) (fun h => h.elim (fun h => by omega) id)⟩⟩
   have hg4p : 16 < x.op := by simpa using hg4
   refine WL.skp rfl rfl (WL.skp rfl rfl (WL.skp rfl rfl (WL.skp rfl rfl (WL.skp rfl rfl (WL.pick (v := .bool true) rfl rfl rfl rfl rfl rfl (WL.nil ?_))))))
   exact N.cut true ⟨rfl, rfl, rfl, trivial⟩ ⟨hS, (decide_eq_true (by first | (left; omega) | (right; left; omega))).symm⟩
  have hg3p : x.op < 1 := by simpa using hg3
  refine WL.skp rfl rfl (WL.skp rfl rfl (WL.skp rfl rfl (WL.pick (v := .bool true) rfl rfl rfl rfl rfl rfl (WL.move rfl rfl rfl (WL.skp rfl rfl (WL.skp rfl rfl (WL.skp rfl rfl (WL.skp rfl rfl (WL.skp rfl rfl ?_)))))))))
  refine WL.pick (v := .bool true) rfl rfl rfl rfl rfl rfl (WL.nil ?_)
  exact N.cut true ⟨rfl, rfl, rfl, trivial⟩ ⟨hS, (decide_eq_true (by first | (left; omega) | (right; left; omega))).symm⟩
 clear hS
 rintro q21 w7 ⟨hS, hq21⟩
 refine W.cond rfl (fun hc8 => ?_) (fun hc8 => ?_)
 ·
  have hq21v : (x.op < 1 ∨ 16 < x.op ∨ below5 (uses5 x) n = false) := of_decide_eq_true (by rw [← hq21]; simpa using hc8)
  refine W.seq (W.region (WL.assign rfl rfl rfl (WL.nil (N.seq ?_))))
  refine Fin.ret1 rfl (v := .bool false) rfl ?_
  have hbz := hS.below
  clear hS
  refine ⟨?_, hbz⟩
  congr 1
  rw [inst5]
  split
  ·
   rfl
  rename_i h1
  split
  ·
   rfl
  rename_i h2
  exact absurd (h1 (hq21v.elim .inl fun h => h.elim (fun h => .inr (.inl h)) fun h => .inr (.inr (.inl h)))) id
 have hq21v : ¬ (x.op < 1 ∨ 16 < x.op ∨ below5 (uses5 x) n = false) := of_decide_eq_false (by rw [← hq21]; simpa using hc8)
 refine W.skip (N.seq ?_)
 refine W.cut (α := Bool) (fun (q5 : Bool) => [(2, .pointer (some ⟨b1, 0, none⟩)), (4, .bool false), (5, .bool q5)]) (fun (q5 : Bool) u => St w w u ro [(b1, .cells #[.int .i64 x.op, .int .i64 x.a, .int .i64 x.b, .int .u64 x.k, .string x.name, .slice adx x.args.length capx] 36 (0, 0))] [] ∧ q5 = decide (2 ≤ x.op ∧ x.op ≤ 11)) ?_ ?_
 ·
  refine W.region (WL.fieldAddr fo_36_0 rfl rfl rfl (WL.load1 (v := .int .i64 x.op) one_3 rfl rfl rfl (hS.cell 0 rfl rfl) (WL.bin rfl rfl rfl rfl rfl (WL.move rfl rfl rfl ?_))))
  cases hg9 : (decide (2 ≤ x.op))
  ·
   have hg9p : ¬ (2 ≤ x.op) := by simpa using hg9
   refine WL.skp rfl rfl (WL.skp rfl rfl (WL.skp rfl rfl (WL.pick (v := .bool false) rfl rfl rfl rfl rfl rfl (WL.assign rfl rfl rfl (WL.nil ?_)))))
   exact N.cut false ⟨rfl, rfl, rfl, trivial⟩ ⟨hS, (decide_eq_false (by omega)).symm⟩
  have hg9p : 2 ≤ x.op := by simpa using hg9
  refine WL.fieldAddr fo_36_0 rfl rfl rfl (WL.load1 (v := .int .i64 x.op) one_3 rfl rfl rfl (hS.cell 0 rfl rfl) (WL.bin rfl rfl rfl rfl rfl (WL.pick (v := .bool (decide (x.op ≤ 11))) rfl rfl rfl rfl rfl rfl (WL.assign rfl rfl rfl (WL.nil ?_)))))
  exact N.cut (decide (x.op ≤ 11)) ⟨rfl, rfl, rfl, trivial⟩ ⟨hS, decide_eq_decide.2 (by omega)⟩
 clear hS
 rintro q5 w10 ⟨hS, hq5⟩
 refine W.cut (α := Bool) (fun (q6 : Bool) => [(2, .pointer (some ⟨b1, 0, none⟩)), (4, .bool false), (5, .bool q5), (6, .bool q6)]) (fun (q6 : Bool) u => St w w u ro [(b1, .cells #[.int .i64 x.op, .int .i64 x.a, .int .i64 x.b, .int .u64 x.k, .string x.name, .slice adx x.args.length capx] 36 (0, 0))] [] ∧ q6 = decide ((2 ≤ x.op ∧ x.op ≤ 11) ∨ x.op = 13 ∨ x.op = 16)) ?_ ?_
 ·
  refine W.region (WL.move rfl rfl rfl (WL.move rfl rfl rfl ?_))
  cases hg11 : q5
  ·
   have hq5v : ¬ (2 ≤ x.op ∧ x.op ≤ 11) := of_decide_eq_false (by rw [← hq5]; simpa using hg11)
   refine WL.fieldAddr fo_36_0 rfl rfl rfl (WL.load1 (v := .int .i64 x.op) one_3 rfl rfl rfl (hS.cell 0 rfl rfl) (WL.bin rfl rfl rfl rfl rfl (WL.pick (v := .bool (decide (x.op = 13))) rfl rfl rfl rfl rfl rfl (WL.move rfl rfl rfl ?_))))
   cases hg12 : (decide (x.op = 13))
   ·
    have hg12p : ¬ (x.op = 13) := by simpa using hg12
    refine WL.fieldAddr fo_36_0 rfl rfl rfl (WL.load1 (v := .int .i64 x.op) one_3 rfl rfl rfl (hS.cell 0 rfl rfl) (WL.bin rfl rfl rfl rfl rfl (WL.pick (v := .bool (decide (x.op = 16))) rfl rfl rfl rfl rfl rfl (WL.assign rfl rfl rfl (WL.nil ?_)))))
    exact N.cut (decide (x.op = 16)) ⟨rfl, rfl, rfl, rfl, trivial⟩ ⟨hS, decide_eq_decide.2 (by omega)⟩
   have hg12p : x.op = 13 := by simpa using hg12
   refine WL.skp rfl rfl (WL.skp rfl rfl (WL.skp rfl rfl (WL.pick (v := .bool true) rfl rfl rfl rfl rfl rfl (WL.assign rfl rfl rfl (WL.nil ?_)))))
   exact N.cut true ⟨rfl, rfl, rfl, rfl, trivial⟩ ⟨hS, (decide_eq_true (by omega)).symm⟩
  have hq5v : (2 ≤ x.op ∧ x.op ≤ 11) := of_decide_eq_true (by rw [← hq5]; simpa using hg11)
  refine WL.skp rfl rfl (WL.skp rfl rfl (WL.skp rfl rfl (WL.pick (v := .bool true) rfl rfl rfl rfl rfl rfl (WL.move rfl rfl rfl (WL.skp rfl rfl (WL.skp rfl rfl (WL.skp rfl rfl (WL.pick (v := .bool true) rfl rfl rfl rfl rfl rfl (WL.assign rfl rfl rfl ?_)))))))))
  refine WL.nil ?_
  exact N.cut true ⟨rfl, rfl, rfl, rfl, trivial⟩ ⟨hS, (decide_eq_true (by omega)).symm⟩
 clear hS
 rintro q6 w13 ⟨hS, hq6⟩
 refine W.seq (W.block ?_)
 refine W.cut (α := Bool) (fun (q41 : Bool) => [(2, .pointer (some ⟨b1, 0, none⟩)), (4, .bool false), (41, .bool q41)]) (fun (q41 : Bool) u => St w w u ro [(b1, .cells #[.int .i64 x.op, .int .i64 x.a, .int .i64 x.b, .int .u64 x.k, .string x.name, .slice adx x.args.length capx] 36 (0, 0))] [] ∧ q41 = decide ((¬ ((2 ≤ x.op ∧ x.op ≤ 11) ∨ x.op = 13 ∨ x.op = 16) ∧ x.a ≠ 0) ∨ (¬ (2 ≤ x.op ∧ x.op ≤ 11) ∧ x.b ≠ 0))) ?_ ?_
 ·
  refine W.region (WL.move rfl rfl rfl (WL.not rfl rfl rfl (WL.move rfl rfl rfl ?_)))
  cases hg14 : (!q6)
  ·
   have hq6v : ((2 ≤ x.op ∧ x.op ≤ 11) ∨ x.op = 13 ∨ x.op = 16) := of_decide_eq_true (by rw [← hq6]; simpa using hg14)
   refine WL.skp rfl rfl (WL.skp rfl rfl (WL.skp rfl rfl (WL.pick (v := .bool false) rfl rfl rfl rfl rfl rfl (WL.move rfl rfl rfl (WL.move rfl rfl rfl (WL.not rfl rfl rfl (WL.move rfl rfl rfl ?_)))))))
   cases hg15 : (!q5)
   ·
    have hq5v : (2 ≤ x.op ∧ x.op ≤ 11) := of_decide_eq_true (by rw [← hq5]; simpa using hg15)
    refine WL.skp rfl rfl (WL.skp rfl rfl (WL.skp rfl rfl (WL.pick (v := .bool false) rfl rfl rfl rfl rfl rfl (WL.pick (v := .bool false) rfl rfl rfl rfl rfl rfl (WL.assign rfl rfl rfl (WL.nil ?_))))))
    exact N.cut false ⟨rfl, rfl, rfl, trivial⟩ ⟨hS, (decide_eq_false (by omega)).symm⟩
   have hq5v : ¬ (2 ≤ x.op ∧ x.op ≤ 11) := of_decide_eq_false (by rw [← hq5]; simpa using hg15)
   refine WL.fieldAddr fo_36_2 rfl rfl rfl (WL.load1 (v := .int .i64 x.b) one_3 rfl rfl rfl (hS.cell 0 rfl rfl) (WL.bin rfl rfl rfl rfl rfl (WL.pick (v := .bool (!decide (x.b = 0))) rfl rfl rfl rfl rfl rfl (WL.pick (v := .bool (!decide (x.b = 0))) rfl rfl rfl rfl rfl rfl (WL.assign rfl rfl rfl (WL.nil ?_))))))
   exact N.cut (!decide (x.b = 0)) ⟨rfl, rfl, rfl, trivial⟩ ⟨hS, by rw [← decide_not]; exact decide_eq_decide.2 (by omega)⟩
  have hq6v : ¬ ((2 ≤ x.op ∧ x.op ≤ 11) ∨ x.op = 13 ∨ x.op = 16) := of_decide_eq_false (by rw [← hq6]; simpa using hg14)
  refine WL.fieldAddr fo_36_1 rfl rfl rfl (WL.load1 (v := .int .i64 x.a) one_3 rfl rfl rfl (hS.cell 0 rfl rfl) (WL.bin rfl rfl rfl rfl rfl (WL.pick (v := .bool (!decide (x.a = 0))) rfl rfl rfl rfl rfl rfl (WL.move rfl rfl rfl ?_))))
  cases hg16 : (!decide (x.a = 0))
  ·
   have hg16p : x.a = 0 := by simpa using hg16
   refine WL.move rfl rfl rfl (WL.not rfl rfl rfl (WL.move rfl rfl rfl ?_))
   cases hg17 : (!q5)
   ·
    have hq5v : (2 ≤ x.op ∧ x.op ≤ 11) := of_decide_eq_true (by rw [← hq5]; simpa using hg17)
    refine WL.skp rfl rfl (WL.skp rfl rfl (WL.skp rfl rfl (WL.pick (v := .bool false) rfl rfl rfl rfl rfl rfl (WL.pick (v := .bool false) rfl rfl rfl rfl rfl rfl (WL.assign rfl rfl rfl (WL.nil ?_))))))
    exact N.cut false ⟨rfl, rfl, rfl, trivial⟩ ⟨hS, (decide_eq_false (by omega)).symm⟩
   have hq5v : ¬ (2 ≤ x.op ∧ x.op ≤ 11) := of_decide_eq_false (by rw [← hq5]; simpa using hg17)
   refine WL.fieldAddr fo_36_2 rfl rfl rfl (WL.load1 (v := .int .i64 x.b) one_3 rfl rfl rfl (hS.cell 0 rfl rfl) (WL.bin rfl rfl rfl rfl rfl (WL.pick (v := .bool (!decide (x.b = 0))) rfl rfl rfl rfl rfl rfl (WL.pick (v := .bool (!decide (x.b = 0))) rfl rfl rfl rfl rfl rfl (WL.assign rfl rfl rfl (WL.nil ?_))))))
   exact N.cut (!decide (x.b = 0)) ⟨rfl, rfl, rfl, trivial⟩ ⟨hS, by rw [← decide_not]; exact decide_eq_decide.2 (by omega)⟩
  have hg16p : ¬ (x.a = 0) := by simpa using hg16
  refine WL.skp rfl rfl (WL.skp rfl rfl (WL.skp rfl rfl (WL.skp rfl rfl (WL.skp rfl rfl (WL.skp rfl rfl (WL.skp rfl rfl (WL.pick (v := .bool true) rfl rfl rfl rfl rfl rfl (WL.assign rfl rfl rfl (WL.nil ?_)))))))))
  exact N.cut true ⟨rfl, rfl, rfl, trivial⟩ ⟨hS, (decide_eq_true (by omega)).symm⟩
 clear hS
 rintro q41 w18 ⟨hS, hq41⟩
 refine W.cond rfl (fun hc19 => ?_) (fun hc19 => ?_)
 ·
  have hq41v : ((¬ ((2 ≤ x.op ∧ x.op ≤ 11) ∨ x.op = 13 ∨ x.op = 16) ∧ x.a ≠ 0) ∨ (¬ (2 ≤ x.op ∧ x.op ≤ 11) ∧ x.b ≠ 0)) := of_decide_eq_true (by rw [← hq41]; simpa using hc19)
  refine W.seq (W.region (WL.assign rfl rfl rfl (WL.nil (N.seq ?_))))
  refine Fin.ret1 rfl (v := .bool false) rfl ?_
  have hbz := hS.below
  clear hS
  refine ⟨?_, hbz⟩
  congr 1
  rw [inst5]
  split
  ·
   rfl
  rename_i h1
  split
  ·
   rfl
  rename_i h2
  exact absurd (h2 (hq41v.elim .inl fun h => .inr (.inl h))) id
 have hq41v : ¬ ((¬ ((2 ≤ x.op ∧ x.op ≤ 11) ∨ x.op = 13 ∨ x.op = 16) ∧ x.a ≠ 0) ∨ (¬ (2 ≤ x.op ∧ x.op ≤ 11) ∧ x.b ≠ 0)) := of_decide_eq_false (by rw [← hq41]; simpa using hc19)
 refine W.cut (α := Bool) (fun (q58 : Bool) => [(2, .pointer (some ⟨b1, 0, none⟩)), (4, .bool false), (58, .bool q58)]) (fun (q58 : Bool) u => St w w u ro [(b1, .cells #[.int .i64 x.op, .int .i64 x.a, .int .i64 x.b, .int .u64 x.k, .string x.name, .slice adx x.args.length capx] 36 (0, 0))] [] ∧ q58 = decide (x.op ≠ 1 ∧ x.k ≠ 0)) ?_ ?_
 ·
  refine W.region (WL.fieldAddr fo_36_0 rfl rfl rfl (WL.load1 (v := .int .i64 x.op) one_3 rfl rfl rfl (hS.cell 0 rfl rfl) (WL.bin rfl rfl rfl rfl rfl (WL.move rfl rfl rfl ?_))))
  cases hg20 : (!decide (x.op = 1))
  ·
   have hg20p : x.op = 1 := by simpa using hg20
   refine WL.skp rfl rfl (WL.skp rfl rfl (WL.skp rfl rfl (WL.pick (v := .bool false) rfl rfl rfl rfl rfl rfl (WL.assign rfl rfl rfl (WL.nil ?_)))))
   exact N.cut false ⟨rfl, rfl, rfl, trivial⟩ ⟨hS, (decide_eq_false (by omega)).symm⟩
  have hg20p : ¬ (x.op = 1) := by simpa using hg20
  refine WL.fieldAddr fo_36_3 rfl rfl rfl (WL.load1 (v := .int .u64 x.k) one_34 rfl rfl rfl (hS.cell 0 rfl rfl) (WL.bin rfl rfl rfl rfl rfl (WL.pick (v := .bool (!decide (x.k = 0))) rfl rfl rfl rfl rfl rfl (WL.assign rfl rfl rfl (WL.nil ?_)))))
  exact N.cut (!decide (x.k = 0)) ⟨rfl, rfl, rfl, trivial⟩ ⟨hS, by rw [← decide_not]; exact decide_eq_decide.2 (by omega)⟩
 clear hS
 rintro q58 w21 ⟨hS, hq58⟩
 refine W.cond rfl (fun hc22 => ?_) (fun hc22 => ?_)
 ·
  have hq58v : (x.op ≠ 1 ∧ x.k ≠ 0) := of_decide_eq_true (by rw [← hq58]; simpa using hc22)
  refine W.seq (W.region (WL.assign rfl rfl rfl (WL.nil (N.seq ?_))))
  refine Fin.ret1 rfl (v := .bool false) rfl ?_
  have hbz := hS.below
  clear hS
  refine ⟨?_, hbz⟩
  congr 1
  rw [inst5]
  split
  ·
   rfl
  rename_i h1
  split
  ·
   rfl
  rename_i h2
  exact absurd (h2 (.inr (.inr (.inl hq58v)))) id
 have hq58v : ¬ (x.op ≠ 1 ∧ x.k ≠ 0) := of_decide_eq_false (by rw [← hq58]; simpa using hc22)
 refine W.cut (α := Bool) (fun (q67 : Bool) => [(2, .pointer (some ⟨b1, 0, none⟩)), (4, .bool false), (67, .bool q67)]) (fun (q67 : Bool) u => St w w u ro [(b1, .cells #[.int .i64 x.op, .int .i64 x.a, .int .i64 x.b, .int .u64 x.k, .string x.name, .slice adx x.args.length capx] 36 (0, 0))] [] ∧ q67 = decide ((x.op ≠ 14 ∧ 0 < x.args.length) ∨ 6 < x.args.length)) ?_ ?_
 ·
  refine W.region (WL.fieldAddr fo_36_0 rfl rfl rfl (WL.load1 (v := .int .i64 x.op) one_3 rfl rfl rfl (hS.cell 0 rfl rfl) (WL.bin rfl rfl rfl rfl rfl (WL.move rfl rfl rfl ?_))))
  cases hg23 : (!decide (x.op = 14))
  ·
   have hg23p : x.op = 14 := by simpa using hg23
   refine WL.skp rfl rfl (WL.skp rfl rfl (WL.skp rfl rfl (WL.skp rfl rfl (WL.pick (v := .bool false) rfl rfl rfl rfl rfl rfl (WL.move rfl rfl rfl (WL.fieldAddr fo_36_5 rfl rfl rfl (WL.load1 (v := .slice adx x.args.length capx) one_28 rfl rfl rfl (hS.cell 0 rfl rfl) (WL.lenSlice Try.underlying28 rfl rfl rfl (WL.bin rfl rfl rfl rfl rfl ?_)))))))))
   refine WL.pick (v := .bool (decide (6 < (x.args.length : Int)))) rfl rfl rfl rfl rfl rfl (WL.assign rfl rfl rfl (WL.nil ?_))
   exact N.cut (decide (6 < (x.args.length : Int))) ⟨rfl, rfl, rfl, trivial⟩ ⟨hS, decide_eq_decide.2 (by omega)⟩
  have hg23p : ¬ (x.op = 14) := by simpa using hg23
  refine WL.fieldAddr fo_36_5 rfl rfl rfl (WL.load1 (v := .slice adx x.args.length capx) one_28 rfl rfl rfl (hS.cell 0 rfl rfl) (WL.lenSlice Try.underlying28 rfl rfl rfl (WL.bin rfl rfl rfl rfl rfl (WL.pick (v := .bool (decide (0 < (x.args.length : Int)))) rfl rfl rfl rfl rfl rfl (WL.move rfl rfl rfl ?_)))))
  cases hg24 : (decide (0 < (x.args.length : Int)))
  ·
   have hg24p : ¬ (0 < (x.args.length : Int)) := by simpa using hg24
   refine WL.fieldAddr fo_36_5 rfl rfl rfl (WL.load1 (v := .slice adx x.args.length capx) one_28 rfl rfl rfl (hS.cell 0 rfl rfl) (WL.lenSlice Try.underlying28 rfl rfl rfl (WL.bin rfl rfl rfl rfl rfl (WL.pick (v := .bool (decide (6 < (x.args.length : Int)))) rfl rfl rfl rfl rfl rfl (WL.assign rfl rfl rfl (WL.nil ?_))))))
   exact N.cut (decide (6 < (x.args.length : Int))) ⟨rfl, rfl, rfl, trivial⟩ ⟨hS, decide_eq_decide.2 (by omega)⟩
  have hg24p : 0 < (x.args.length : Int) := by simpa using hg24
  refine WL.skp rfl rfl (WL.skp rfl rfl (WL.skp rfl rfl (WL.skp rfl rfl (WL.pick (v := .bool true) rfl rfl rfl rfl rfl rfl (WL.assign rfl rfl rfl (WL.nil ?_))))))
  exact N.cut true ⟨rfl, rfl, rfl, trivial⟩ ⟨hS, (decide_eq_true (by omega)).symm⟩
 clear hS
 rintro q67 w25 ⟨hS, hq67⟩
 refine W.cond rfl (fun hc26 => ?_) (fun hc26 => ?_)
 ·
  have hq67v : ((x.op ≠ 14 ∧ 0 < x.args.length) ∨ 6 < x.args.length) := of_decide_eq_true (by rw [← hq67]; simpa using hc26)
  refine W.seq (W.region (WL.assign rfl rfl rfl (WL.nil (N.seq ?_))))
  refine Fin.ret1 rfl (v := .bool false) rfl ?_
  have hbz := hS.below
  clear hS
  refine ⟨?_, hbz⟩
  congr 1
  rw [inst5]
  split
  ·
   rfl
  rename_i h1
  split
  ·
   rfl
  rename_i h2
  exact absurd (hq67v.elim (fun h => h2 (.inr (.inr (.inr h)))) (fun h => h1 (.inr (.inr (.inr h))))) id
 have hq67v : ¬ ((x.op ≠ 14 ∧ 0 < x.args.length) ∨ 6 < x.args.length) := of_decide_eq_false (by rw [← hq67]; simpa using hc26)
 refine W.skip (N.blk (N.seq (W.seq (W.seq (W.region (WL.loadN (cs := [.int .i64 x.op, .int .i64 x.a, .int .i64 x.b, .int .u64 x.k, .string x.name, .slice adx x.args.length capx]) agg_36 rfl rfl rfl rfl (hS.cells 0 (m := 6) rfl rfl) ?_))))))
 refine WL.callF (vs := [.agg #[.int .i64 x.op, .int .i64 x.a, .int .i64 x.b, .int .u64 x.k, .string x.name, .slice adx x.args.length capx]]) Try.func68 (by kernel_rfl) rfl rfl rfl (irnamed_ret x _ (ro := ro) (fun b hb => (hS.snap b hb).1) (hQx.keep hS.alike)) ?_
 rintro v w27 ⟨rfl, hbl⟩
 replace hS := hS.grow hbl
 refine WL.nil (N.seq ?_)
 refine W.cond rfl (fun hc28 => ?_) (fun hc28 => ?_)
 ·
  refine W.seq (W.region (WL.fieldAddr fo_36_4 rfl rfl rfl (WL.load1 (v := .string x.name) one_9 rfl rfl rfl (hS.cell 0 rfl rfl) ?_)))
  refine WL.callF (vs := [.string x.name]) Try.func54 (by kernel_rfl) rfl rfl rfl (xname_ret x.name hnx (ro := ro) (fun b hb => (hS.snap b hb).1)) ?_
  rintro v w29 ⟨rfl, hbl⟩
  replace hS := hS.grow hbl
  refine WL.assign rfl rfl rfl (WL.nil (N.seq ?_))
  refine Fin.ret1 rfl (v := .bool (name5 x.name)) rfl ?_
  have hbz := hS.below
  clear hS
  refine ⟨?_, hbz⟩
  congr 1
  rw [inst5, if_neg (fun h => h.elim (fun h => hq21v (.inl h)) (fun h => h.elim (fun h => hq21v (.inr (.inl h))) (fun h => h.elim (fun h => hq21v (.inr (.inr h))) (fun h => hq67v (.inr h))))), if_neg (fun h => h.elim (fun h => hq41v (.inl h)) (fun h => h.elim (fun h => hq41v (.inr h)) (fun h => h.elim hq58v (fun h => hq67v (.inl h))))), if_pos hc28]
 refine W.skip (N.seq (W.seq (W.region (WL.fieldAddr fo_36_4 rfl rfl rfl (WL.load1 (v := .string x.name) one_9 rfl rfl rfl (hS.cell 0 rfl rfl) (WL.eqStr rfl rfl rfl rfl (WL.assign rfl rfl rfl (WL.nil (N.seq ?_)))))))))
 refine Fin.ret1 rfl (v := .bool (decide (x.name = ⟨#[]⟩))) rfl ?_
 have hbz := hS.below
 clear hS
 refine ⟨?_, hbz⟩
 congr 1
 rw [inst5, if_neg (fun h => h.elim (fun h => hq21v (.inl h)) (fun h => h.elim (fun h => hq21v (.inr (.inl h))) (fun h => h.elim (fun h => hq21v (.inr (.inr h))) (fun h => hq67v (.inr h))))), if_neg (fun h => h.elim (fun h => hq41v (.inl h)) (fun h => h.elim (fun h => hq41v (.inr h)) (fun h => h.elim hq58v (fun h => hq67v (.inl h))))), if_neg (by rw [hc28]; simp)]

end Go.Proofs.Ytdlcmhkfglckfaa
