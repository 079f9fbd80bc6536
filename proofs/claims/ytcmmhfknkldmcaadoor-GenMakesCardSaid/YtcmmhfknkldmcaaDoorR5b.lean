/-
  Contracts of what is right (marlineref05). No condition beyond those that each theorem states.
-/
import Derived.Test.YtcmmhfknkldmcaaDoorR5a
namespace Go.Proofs.YtcmmhfknkldmcaaDoor
open Go.RowKit
theorem agg_69 : tyAgg Tryd.prog 69 6 = true := by kernel_rfl
theorem fo_24_3 : fOff Tryd.prog 24 3 3 = true := by kernel_rfl
theorem fo_59_0 : fOff Tryd.prog 59 0 0 = true := by kernel_rfl
theorem fo_69_3 : fOff Tryd.prog 69 3 3 = true := by kernel_rfl
theorem fo_69_4 : fOff Tryd.prog 69 4 4 = true := by kernel_rfl
theorem isz_59 : (Tryd.prog.info? 59).map (·.size) = some 8 := by kernel_rfl
theorem one_22 : tyOne Tryd.prog 22 = true := by kernel_rfl
theorem one_52 : tyOne Tryd.prog 52 = true := by kernel_rfl
theorem one_9 : tyOne Tryd.prog 9 = true := by kernel_rfl
def inst5 (x : DInst) (n : Int) : Bool :=
  if x.op < 1 ∨ 16 < x.op ∨ below5 (uses5 x) n = false ∨ 6 < x.args.length then false
  else if (¬ ((2 ≤ x.op ∧ x.op ≤ 11) ∨ x.op = 13 ∨ x.op = 16) ∧ x.a ≠ 0) ∨ (¬ (2 ≤ x.op ∧ x.op ≤ 11) ∧ x.b ≠ 0) ∨ (x.op ≠ 1 ∧ x.k ≠ 0) ∨ (x.op ≠ 14 ∧ 0 < x.args.length) then false
  else if named5 x = true then name5 x.name else decide (x.name = ⟨#[]⟩)

set_option maxHeartbeats 1000000 in
theorem inst5_ret (x : DInst) (cx : List Value) (n : Int) {w : World} {ro : Nat → Prop} (hro : ∀ b, ro b → b < w.heap.size) (hx : InstC ro w cx x) (hok : okInst x) : Ret Tryd.prog 41 #[.agg cx.toArray, .int .i64 n] w fun v w' => v = .bool (inst5 x n) ∧ Below w.heap.size w w' := by
 have hQx := hx
 obtain ⟨sx, rfl, hsx, hox, hax, hbx, hkx, hnx⟩ := id hx
 obtain ⟨adx, capx, rfl, hsxa, hsxb, hsxc, hsxd⟩ := id hsx
 have hsxm : x.args.length ≤ 9223372036854775807 := by have h1 := hsxa; have h2 := hsxb; unfold maxLen at h2; omega
 refine Ret.enter (P := Tryd.prog) (n := 103) (args := [.agg #[.int .i64 x.op, .int .i64 x.a, .int .i64 x.b, .int .u64 x.k, .string x.name, .slice adx x.args.length capx], .int .i64 n]) (σ := [(0, .agg #[.int .i64 x.op, .int .i64 x.a, .int .i64 x.b, .int .u64 x.k, .string x.name, .slice adx x.args.length capx]), (1, .int .i64 n)]) Tryd.func41 rfl rfl rfl rfl ?_
 have hS := St.start (ro := ro) hro
 refine W.seq (W.region ?_)
 refine WL.box (v := .agg #[.int .i64 x.op, .int .i64 x.a, .int .i64 x.b, .int .u64 x.k, .string x.name, .slice adx x.args.length capx]) (cs := [.int .i64 x.op, .int .i64 x.a, .int .i64 x.b, .int .u64 x.k, .string x.name, .slice adx x.args.length capx]) rfl rfl rfl rfl hS ?_
 clear hS; intro w2 b1 hb_b1 hS
 refine WL.assign rfl rfl rfl (WL.nil (N.seq (W.seq (W.region (WL.loadN (cs := [.int .i64 x.op, .int .i64 x.a, .int .i64 x.b, .int .u64 x.k, .string x.name, .slice adx x.args.length capx]) agg_69 rfl rfl rfl rfl (hS.cells 0 (m := 6) rfl rfl) ?_)))))
 refine WL.callF (vs := [.agg #[.int .i64 x.op, .int .i64 x.a, .int .i64 x.b, .int .u64 x.k, .string x.name, .slice adx x.args.length capx]]) Tryd.func60 (by kernel_rfl) rfl rfl rfl (uses5_ret x _ (ro := ro) (fun b hb => (hS.snap b hb).1) (hQx.keep hS.alike) (by unfold okInst reachBytes at hok; omega)) ?_
 rintro v w3 ⟨hus, hbl⟩
 replace hS := hS.grow hbl
 refine WL.move rfl rfl rfl ?_
 refine WL.callF (vs := [v, .int .i64 n]) Tryd.func59 (by kernel_rfl) rfl rfl rfl (below5_ret (uses5 x) _ n (ro := fun b => w2.heap.size ≤ b ∧ b < w3.heap.size) (fun _ h => h.2) hus) ?_
 rintro v w4 ⟨rfl, hbl⟩
 replace hS := hS.grow hbl
 obtain ⟨u5, hu5⟩ : ∃ u, u = below5 (uses5 x) n := ⟨_, rfl⟩
 rw [← hu5]
 refine WL.assign rfl rfl rfl (WL.nil (N.seq (W.seq (W.seq (W.region (WL.fieldAddr fo_69_0 rfl rfl rfl (WL.load1 (v := .int .i64 x.op) one_3 rfl rfl rfl (hS.cell 0 rfl rfl) (WL.bin rfl rfl rfl rfl rfl (WL.move rfl rfl rfl ?_)))))))))
 cases hg5 : (decide (x.op < 1))
 ·
  have hg5p : ¬ (x.op < 1) := by simpa using hg5
  refine WL.fieldAddr fo_69_0 rfl rfl rfl (WL.load1 (v := .int .i64 x.op) one_3 rfl rfl rfl (hS.cell 0 rfl rfl) (WL.bin rfl rfl rfl rfl rfl (WL.pick (v := .bool (decide (16 < x.op))) rfl rfl rfl rfl rfl rfl (WL.move rfl rfl rfl ?_))))
  cases hg6 : (decide (16 < x.op))
  ·
   have hg6p : ¬ (16 < x.op) := by simpa using hg6
   refine WL.move rfl rfl rfl (WL.not rfl rfl rfl (WL.pick (v := .bool (!u5)) rfl rfl rfl rfl rfl rfl (WL.move rfl rfl rfl ?_)))
   cases hg7 : (!u5)
   ·
    refine WL.fieldAddr fo_69_5 rfl rfl rfl (WL.load1 (v := .slice adx x.args.length capx) one_55 rfl rfl rfl (hS.cell 0 rfl rfl) (WL.lenSlice Tryd.underlying55 rfl rfl rfl (WL.bin rfl rfl rfl rfl rfl (WL.pick (v := .bool (decide (6 < (x.args.length : Int)))) rfl rfl rfl rfl rfl rfl (WL.nil (N.seq ?_))))))
    refine W.cond rfl (fun hc8 => ?_) (fun hc8 => ?_)
    ·
     have hc8p : 6 < (x.args.length : Int) := by simpa using hc8
     refine W.seq (W.region (WL.assign rfl rfl rfl (WL.nil (N.seq ?_))))
     refine Fin.ret1 rfl (v := .bool false) rfl ?_
     have hbz := hS.below
     clear hS
     refine ⟨?_, hbz⟩
     congr 1
     rw [inst5, if_pos (by clear hx hQx hsx hsxd hsxa hsxb hsxc; rw [← hu5]; first | omega | (simp_all; done) | (rintro (h | h | h | h) <;> first | omega | (simp_all; done)))]
    have hc8p : ¬ (6 < (x.args.length : Int)) := by simpa using hc8
    refine W.skip (N.seq ?_)
    refine W.cut (α := Bool) (fun (q6 : Bool) => [(2, .pointer (some ⟨b1, 0, none⟩)), (4, .bool false), (6, .bool q6)]) (fun (q6 : Bool) u => St w w u ro [(b1, .cells #[.int .i64 x.op, .int .i64 x.a, .int .i64 x.b, .int .u64 x.k, .string x.name, .slice adx x.args.length capx] 69 (0, 0))] [] ∧ q6 = decide ((2 ≤ x.op ∧ x.op ≤ 11) ∨ x.op = 13 ∨ x.op = 16)) ?_ ?_
    ·
     refine W.region (WL.fieldAddr fo_69_0 rfl rfl rfl (WL.load1 (v := .int .i64 x.op) one_3 rfl rfl rfl (hS.cell 0 rfl rfl) (WL.bin rfl rfl rfl rfl rfl (WL.move rfl rfl rfl ?_))))
     cases hg9 : (decide (2 ≤ x.op))
     ·
      have hg9p : ¬ (2 ≤ x.op) := by simpa using hg9
      refine WL.skp rfl rfl (WL.skp rfl rfl (WL.skp rfl rfl (WL.pick (v := .bool false) rfl rfl rfl rfl rfl rfl (WL.move rfl rfl rfl (WL.fieldAddr fo_69_0 rfl rfl rfl (WL.load1 (v := .int .i64 x.op) one_3 rfl rfl rfl (hS.cell 0 rfl rfl) (WL.bin rfl rfl rfl rfl rfl (WL.pick (v := .bool (decide (x.op = 13))) rfl rfl rfl rfl rfl rfl (WL.move rfl rfl rfl ?_)))))))))
      cases hg10 : (decide (x.op = 13))
      ·
       have hg10p : ¬ (x.op = 13) := by simpa using hg10
       refine WL.fieldAddr fo_69_0 rfl rfl rfl (WL.load1 (v := .int .i64 x.op) one_3 rfl rfl rfl (hS.cell 0 rfl rfl) (WL.bin rfl rfl rfl rfl rfl (WL.pick (v := .bool (decide (x.op = 16))) rfl rfl rfl rfl rfl rfl (WL.assign rfl rfl rfl (WL.nil ?_)))))
       exact N.cut (decide (x.op = 16)) ⟨rfl, rfl, rfl, trivial⟩ ⟨hS, decide_eq_decide.2 (by omega)⟩
      have hg10p : x.op = 13 := by simpa using hg10
      refine WL.skp rfl rfl (WL.skp rfl rfl (WL.skp rfl rfl (WL.pick (v := .bool true) rfl rfl rfl rfl rfl rfl (WL.assign rfl rfl rfl (WL.nil ?_)))))
      exact N.cut true ⟨rfl, rfl, rfl, trivial⟩ ⟨hS, (decide_eq_true (by omega)).symm⟩
     have hg9p : 2 ≤ x.op := by simpa using hg9
     refine WL.fieldAddr fo_69_0 rfl rfl rfl (WL.load1 (v := .int .i64 x.op) one_3 rfl rfl rfl (hS.cell 0 rfl rfl) (WL.bin rfl rfl rfl rfl rfl (WL.pick (v := .bool (decide (x.op ≤ 11))) rfl rfl rfl rfl rfl rfl (WL.move rfl rfl rfl ?_))))
     cases hg11 : (decide (x.op ≤ 11))
     ·
      have hg11p : ¬ (x.op ≤ 11) := by simpa using hg11
      refine WL.fieldAddr fo_69_0 rfl rfl rfl (WL.load1 (v := .int .i64 x.op) one_3 rfl rfl rfl (hS.cell 0 rfl rfl) (WL.bin rfl rfl rfl rfl rfl (WL.pick (v := .bool (decide (x.op = 13))) rfl rfl rfl rfl rfl rfl (WL.move rfl rfl rfl ?_))))
      cases hg12 : (decide (x.op = 13))
      ·
       have hg12p : ¬ (x.op = 13) := by simpa using hg12
       refine WL.fieldAddr fo_69_0 rfl rfl rfl (WL.load1 (v := .int .i64 x.op) one_3 rfl rfl rfl (hS.cell 0 rfl rfl) (WL.bin rfl rfl rfl rfl rfl (WL.pick (v := .bool (decide (x.op = 16))) rfl rfl rfl rfl rfl rfl (WL.assign rfl rfl rfl (WL.nil ?_)))))
       exact N.cut (decide (x.op = 16)) ⟨rfl, rfl, rfl, trivial⟩ ⟨hS, decide_eq_decide.2 (by omega)⟩
      have hg12p : x.op = 13 := by simpa using hg12
      refine WL.skp rfl rfl (WL.skp rfl rfl (WL.skp rfl rfl (WL.pick (v := .bool true) rfl rfl rfl rfl rfl rfl (WL.assign rfl rfl rfl (WL.nil ?_)))))
      exact N.cut true ⟨rfl, rfl, rfl, trivial⟩ ⟨hS, (decide_eq_true (by omega)).symm⟩
     have hg11p : x.op ≤ 11 := by simpa using hg11
     refine WL.skp rfl rfl (WL.skp rfl rfl (WL.skp rfl rfl (WL.pick (v := .bool true) rfl rfl rfl rfl rfl rfl (WL.move rfl rfl rfl (WL.skp rfl rfl (WL.skp rfl rfl (WL.skp rfl rfl (WL.pick (v := .bool true) rfl rfl rfl rfl rfl rfl (WL.assign rfl rfl rfl ?_)))))))))
     refine WL.nil ?_
     exact N.cut true ⟨rfl, rfl, rfl, trivial⟩ ⟨hS, (decide_eq_true (by omega)).symm⟩
    clear hS
    rintro q6 w13 ⟨hS, hq6⟩
    refine W.cut (α := Bool) (fun (q7 : Bool) => [(2, .pointer (some ⟨b1, 0, none⟩)), (4, .bool false), (6, .bool q6), (7, .bool q7)]) (fun (q7 : Bool) u => St w w u ro [(b1, .cells #[.int .i64 x.op, .int .i64 x.a, .int .i64 x.b, .int .u64 x.k, .string x.name, .slice adx x.args.length capx] 69 (0, 0))] [] ∧ q7 = decide (2 ≤ x.op ∧ x.op ≤ 11)) ?_ ?_
    ·
     refine W.region (WL.fieldAddr fo_69_0 rfl rfl rfl (WL.load1 (v := .int .i64 x.op) one_3 rfl rfl rfl (hS.cell 0 rfl rfl) (WL.bin rfl rfl rfl rfl rfl (WL.move rfl rfl rfl ?_))))
     cases hg14 : (decide (2 ≤ x.op))
     ·
      have hg14p : ¬ (2 ≤ x.op) := by simpa using hg14
      refine WL.skp rfl rfl (WL.skp rfl rfl (WL.skp rfl rfl (WL.pick (v := .bool false) rfl rfl rfl rfl rfl rfl (WL.assign rfl rfl rfl (WL.nil ?_)))))
      exact N.cut false ⟨rfl, rfl, rfl, rfl, trivial⟩ ⟨hS, (decide_eq_false (by omega)).symm⟩
     have hg14p : 2 ≤ x.op := by simpa using hg14
     refine WL.fieldAddr fo_69_0 rfl rfl rfl (WL.load1 (v := .int .i64 x.op) one_3 rfl rfl rfl (hS.cell 0 rfl rfl) (WL.bin rfl rfl rfl rfl rfl (WL.pick (v := .bool (decide (x.op ≤ 11))) rfl rfl rfl rfl rfl rfl (WL.assign rfl rfl rfl (WL.nil ?_)))))
     exact N.cut (decide (x.op ≤ 11)) ⟨rfl, rfl, rfl, rfl, trivial⟩ ⟨hS, decide_eq_decide.2 (by omega)⟩
    clear hS
    rintro q7 w15 ⟨hS, hq7⟩
    refine W.seq ?_
    refine W.cut (α := Bool) (fun (q93 : Bool) => [(2, .pointer (some ⟨b1, 0, none⟩)), (4, .bool false), (93, .bool q93)]) (fun (q93 : Bool) u => St w w u ro [(b1, .cells #[.int .i64 x.op, .int .i64 x.a, .int .i64 x.b, .int .u64 x.k, .string x.name, .slice adx x.args.length capx] 69 (0, 0))] [] ∧ q93 = decide ((¬ ((2 ≤ x.op ∧ x.op ≤ 11) ∨ x.op = 13 ∨ x.op = 16) ∧ x.a ≠ 0) ∨ (¬ (2 ≤ x.op ∧ x.op ≤ 11) ∧ x.b ≠ 0) ∨ (x.op ≠ 1 ∧ x.k ≠ 0) ∨ (x.op ≠ 14 ∧ 0 < x.args.length))) ?_ ?_
    ·
     refine W.region (WL.move rfl rfl rfl (WL.not rfl rfl rfl (WL.move rfl rfl rfl ?_)))
     cases hg16 : (!q6)
     ·
      have hq6v : ((2 ≤ x.op ∧ x.op ≤ 11) ∨ x.op = 13 ∨ x.op = 16) := of_decide_eq_true (by rw [← hq6]; simpa using hg16)
      refine WL.skp rfl rfl (WL.skp rfl rfl (WL.skp rfl rfl (WL.pick (v := .bool false) rfl rfl rfl rfl rfl rfl (WL.move rfl rfl rfl (WL.move rfl rfl rfl (WL.not rfl rfl rfl (WL.move rfl rfl rfl ?_)))))))
      cases hg17 : (!q7)
      ·
       have hq7v : (2 ≤ x.op ∧ x.op ≤ 11) := of_decide_eq_true (by rw [← hq7]; simpa using hg17)
       refine WL.skp rfl rfl (WL.skp rfl rfl (WL.skp rfl rfl (WL.pick (v := .bool false) rfl rfl rfl rfl rfl rfl (WL.pick (v := .bool false) rfl rfl rfl rfl rfl rfl (WL.move rfl rfl rfl (WL.fieldAddr fo_69_0 rfl rfl rfl (WL.load1 (v := .int .i64 x.op) one_3 rfl rfl rfl (hS.cell 0 rfl rfl) (WL.bin rfl rfl rfl rfl rfl (WL.move rfl rfl rfl ?_)))))))))
       cases hg18 : (!decide (x.op = 1))
       ·
        have hg18p : x.op = 1 := by simpa using hg18
        refine WL.skp rfl rfl (WL.skp rfl rfl (WL.skp rfl rfl (WL.pick (v := .bool false) rfl rfl rfl rfl rfl rfl (WL.pick (v := .bool false) rfl rfl rfl rfl rfl rfl (WL.move rfl rfl rfl (WL.fieldAddr fo_69_0 rfl rfl rfl (WL.load1 (v := .int .i64 x.op) one_3 rfl rfl rfl (hS.cell 0 rfl rfl) (WL.bin rfl rfl rfl rfl rfl (WL.move rfl rfl rfl ?_)))))))))
        cases hg19 : (!decide (x.op = 14))
        ·
         have hg19p : x.op = 14 := by simpa using hg19
         refine WL.skp rfl rfl (WL.skp rfl rfl (WL.skp rfl rfl (WL.skp rfl rfl (WL.pick (v := .bool false) rfl rfl rfl rfl rfl rfl (WL.pick (v := .bool false) rfl rfl rfl rfl rfl rfl (WL.nil ?_))))))
         exact N.cut false ⟨rfl, rfl, rfl, trivial⟩ ⟨hS, (decide_eq_false (by omega)).symm⟩
        have hg19p : ¬ (x.op = 14) := by simpa using hg19
        refine WL.fieldAddr fo_69_5 rfl rfl rfl (WL.load1 (v := .slice adx x.args.length capx) one_55 rfl rfl rfl (hS.cell 0 rfl rfl) (WL.lenSlice Tryd.underlying55 rfl rfl rfl (WL.bin rfl rfl rfl rfl rfl (WL.pick (v := .bool (decide (0 < (x.args.length : Int)))) rfl rfl rfl rfl rfl rfl (WL.pick (v := .bool (decide (0 < (x.args.length : Int)))) rfl rfl rfl rfl rfl rfl (WL.nil ?_))))))
        exact N.cut (decide (0 < (x.args.length : Int))) ⟨rfl, rfl, rfl, trivial⟩ ⟨hS, decide_eq_decide.2 (by omega)⟩
       have hg18p : ¬ (x.op = 1) := by simpa using hg18
       refine WL.fieldAddr fo_69_3 rfl rfl rfl (WL.load1 (v := .int .u64 x.k) one_52 rfl rfl rfl (hS.cell 0 rfl rfl) (WL.bin rfl rfl rfl rfl rfl (WL.pick (v := .bool (!decide (x.k = 0))) rfl rfl rfl rfl rfl rfl (WL.pick (v := .bool (!decide (x.k = 0))) rfl rfl rfl rfl rfl rfl (WL.move rfl rfl rfl ?_)))))
       cases hg20 : (!decide (x.k = 0))
       ·
        have hg20p : x.k = 0 := by simpa using hg20
        refine WL.fieldAddr fo_69_0 rfl rfl rfl (WL.load1 (v := .int .i64 x.op) one_3 rfl rfl rfl (hS.cell 0 rfl rfl) (WL.bin rfl rfl rfl rfl rfl (WL.move rfl rfl rfl ?_)))
        cases hg21 : (!decide (x.op = 14))
        ·
         have hg21p : x.op = 14 := by simpa using hg21
         refine WL.skp rfl rfl (WL.skp rfl rfl (WL.skp rfl rfl (WL.skp rfl rfl (WL.pick (v := .bool false) rfl rfl rfl rfl rfl rfl (WL.pick (v := .bool false) rfl rfl rfl rfl rfl rfl (WL.nil ?_))))))
         exact N.cut false ⟨rfl, rfl, rfl, trivial⟩ ⟨hS, (decide_eq_false (by omega)).symm⟩
        have hg21p : ¬ (x.op = 14) := by simpa using hg21
        refine WL.fieldAddr fo_69_5 rfl rfl rfl (WL.load1 (v := .slice adx x.args.length capx) one_55 rfl rfl rfl (hS.cell 0 rfl rfl) (WL.lenSlice Tryd.underlying55 rfl rfl rfl (WL.bin rfl rfl rfl rfl rfl (WL.pick (v := .bool (decide (0 < (x.args.length : Int)))) rfl rfl rfl rfl rfl rfl (WL.pick (v := .bool (decide (0 < (x.args.length : Int)))) rfl rfl rfl rfl rfl rfl (WL.nil ?_))))))
        exact N.cut (decide (0 < (x.args.length : Int))) ⟨rfl, rfl, rfl, trivial⟩ ⟨hS, decide_eq_decide.2 (by omega)⟩
       have hg20p : ¬ (x.k = 0) := by simpa using hg20
       refine WL.skp rfl rfl (WL.skp rfl rfl (WL.skp rfl rfl (WL.skp rfl rfl (WL.skp rfl rfl (WL.skp rfl rfl (WL.skp rfl rfl (WL.skp rfl rfl (WL.skp rfl rfl (WL.pick (v := .bool true) rfl rfl rfl rfl rfl rfl ?_)))))))))
       refine WL.nil ?_
       exact N.cut true ⟨rfl, rfl, rfl, trivial⟩ ⟨hS, (decide_eq_true (by omega)).symm⟩
      have hq7v : ¬ (2 ≤ x.op ∧ x.op ≤ 11) := of_decide_eq_false (by rw [← hq7]; simpa using hg17)
      refine WL.fieldAddr fo_69_2 rfl rfl rfl (WL.load1 (v := .int .i64 x.b) one_3 rfl rfl rfl (hS.cell 0 rfl rfl) (WL.bin rfl rfl rfl rfl rfl (WL.pick (v := .bool (!decide (x.b = 0))) rfl rfl rfl rfl rfl rfl (WL.pick (v := .bool (!decide (x.b = 0))) rfl rfl rfl rfl rfl rfl (WL.move rfl rfl rfl ?_)))))
      cases hg22 : (!decide (x.b = 0))
      ·
       have hg22p : x.b = 0 := by simpa using hg22
       refine WL.fieldAddr fo_69_0 rfl rfl rfl (WL.load1 (v := .int .i64 x.op) one_3 rfl rfl rfl (hS.cell 0 rfl rfl) (WL.bin rfl rfl rfl rfl rfl (WL.move rfl rfl rfl ?_)))
       cases hg23 : (!decide (x.op = 1))
       ·
        have hg23p : x.op = 1 := by simpa using hg23
        refine WL.skp rfl rfl (WL.skp rfl rfl (WL.skp rfl rfl (WL.pick (v := .bool false) rfl rfl rfl rfl rfl rfl (WL.pick (v := .bool false) rfl rfl rfl rfl rfl rfl (WL.move rfl rfl rfl (WL.fieldAddr fo_69_0 rfl rfl rfl (WL.load1 (v := .int .i64 x.op) one_3 rfl rfl rfl (hS.cell 0 rfl rfl) (WL.bin rfl rfl rfl rfl rfl (WL.move rfl rfl rfl ?_)))))))))
        cases hg24 : (!decide (x.op = 14))
        ·
         have hg24p : x.op = 14 := by simpa using hg24
         refine WL.skp rfl rfl (WL.skp rfl rfl (WL.skp rfl rfl (WL.skp rfl rfl (WL.pick (v := .bool false) rfl rfl rfl rfl rfl rfl (WL.pick (v := .bool false) rfl rfl rfl rfl rfl rfl (WL.nil ?_))))))
         exact N.cut false ⟨rfl, rfl, rfl, trivial⟩ ⟨hS, (decide_eq_false (by omega)).symm⟩
        have hg24p : ¬ (x.op = 14) := by simpa using hg24
        refine WL.fieldAddr fo_69_5 rfl rfl rfl (WL.load1 (v := .slice adx x.args.length capx) one_55 rfl rfl rfl (hS.cell 0 rfl rfl) (WL.lenSlice Tryd.underlying55 rfl rfl rfl (WL.bin rfl rfl rfl rfl rfl (WL.pick (v := .bool (decide (0 < (x.args.length : Int)))) rfl rfl rfl rfl rfl rfl (WL.pick (v := .bool (decide (0 < (x.args.length : Int)))) rfl rfl rfl rfl rfl rfl (WL.nil ?_))))))
        exact N.cut (decide (0 < (x.args.length : Int))) ⟨rfl, rfl, rfl, trivial⟩ ⟨hS, decide_eq_decide.2 (by omega)⟩
       have hg23p : ¬ (x.op = 1) := by simpa using hg23
       refine WL.fieldAddr fo_69_3 rfl rfl rfl (WL.load1 (v := .int .u64 x.k) one_52 rfl rfl rfl (hS.cell 0 rfl rfl) (WL.bin rfl rfl rfl rfl rfl (WL.pick (v := .bool (!decide (x.k = 0))) rfl rfl rfl rfl rfl rfl (WL.pick (v := .bool (!decide (x.k = 0))) rfl rfl rfl rfl rfl rfl (WL.move rfl rfl rfl ?_)))))
       cases hg25 : (!decide (x.k = 0))
       ·
        have hg25p : x.k = 0 := by simpa using hg25
        refine WL.fieldAddr fo_69_0 rfl rfl rfl (WL.load1 (v := .int .i64 x.op) one_3 rfl rfl rfl (hS.cell 0 rfl rfl) (WL.bin rfl rfl rfl rfl rfl (WL.move rfl rfl rfl ?_)))
        cases hg26 : (!decide (x.op = 14))
        ·
         have hg26p : x.op = 14 := by simpa using hg26
         refine WL.skp rfl rfl (WL.skp rfl rfl (WL.skp rfl rfl (WL.skp rfl rfl (WL.pick (v := .bool false) rfl rfl rfl rfl rfl rfl (WL.pick (v := .bool false) rfl rfl rfl rfl rfl rfl (WL.nil ?_))))))
         exact N.cut false ⟨rfl, rfl, rfl, trivial⟩ ⟨hS, (decide_eq_false (by omega)).symm⟩
        have hg26p : ¬ (x.op = 14) := by simpa using hg26
        refine WL.fieldAddr fo_69_5 rfl rfl rfl (WL.load1 (v := .slice adx x.args.length capx) one_55 rfl rfl rfl (hS.cell 0 rfl rfl) (WL.lenSlice Tryd.underlying55 rfl rfl rfl (WL.bin rfl rfl rfl rfl rfl (WL.pick (v := .bool (decide (0 < (x.args.length : Int)))) rfl rfl rfl rfl rfl rfl (WL.pick (v := .bool (decide (0 < (x.args.length : Int)))) rfl rfl rfl rfl rfl rfl (WL.nil ?_))))))
        exact N.cut (decide (0 < (x.args.length : Int))) ⟨rfl, rfl, rfl, trivial⟩ ⟨hS, decide_eq_decide.2 (by omega)⟩
       have hg25p : ¬ (x.k = 0) := by simpa using hg25
       refine WL.skp rfl rfl (WL.skp rfl rfl (WL.skp rfl rfl (WL.skp rfl rfl (WL.skp rfl rfl (WL.skp rfl rfl (WL.skp rfl rfl (WL.skp rfl rfl (WL.skp rfl rfl (WL.pick (v := .bool true) rfl rfl rfl rfl rfl rfl ?_)))))))))
       refine WL.nil ?_
       exact N.cut true ⟨rfl, rfl, rfl, trivial⟩ ⟨hS, (decide_eq_true (by omega)).symm⟩
      have hg22p : ¬ (x.b = 0) := by simpa using hg22
      refine WL.skp rfl rfl (WL.skp rfl rfl (WL.skp rfl rfl (WL.skp rfl rfl (WL.skp rfl rfl (WL.skp rfl rfl (WL.skp rfl rfl (WL.skp rfl rfl (WL.pick (v := .bool true) rfl rfl rfl rfl rfl rfl (WL.move rfl rfl rfl ?_)))))))))
      refine WL.skp rfl rfl (WL.skp rfl rfl (WL.skp rfl rfl (WL.skp rfl rfl (WL.skp rfl rfl (WL.skp rfl rfl (WL.skp rfl rfl (WL.skp rfl rfl (WL.skp rfl rfl (WL.pick (v := .bool true) rfl rfl rfl rfl rfl rfl ?_)))))))))
      refine WL.nil ?_
      exact N.cut true ⟨rfl, rfl, rfl, trivial⟩ ⟨hS, (decide_eq_true (by omega)).symm⟩
     have hq6v : ¬ ((2 ≤ x.op ∧ x.op ≤ 11) ∨ x.op = 13 ∨ x.op = 16) := of_decide_eq_false (by rw [← hq6]; simpa using hg16)
     refine WL.fieldAddr fo_69_1 rfl rfl rfl (WL.load1 (v := .int .i64 x.a) one_3 rfl rfl rfl (hS.cell 0 rfl rfl) (WL.bin rfl rfl rfl rfl rfl (WL.pick (v := .bool (!decide (x.a = 0))) rfl rfl rfl rfl rfl rfl (WL.move rfl rfl rfl ?_))))
     cases hg27 : (!decide (x.a = 0))
     ·
      have hg27p : x.a = 0 := by simpa using hg27
      refine WL.move rfl rfl rfl (WL.not rfl rfl rfl (WL.move rfl rfl rfl ?_))
      cases hg28 : (!q7)
      ·
       have hq7v : (2 ≤ x.op ∧ x.op ≤ 11) := of_decide_eq_true (by rw [← hq7]; simpa using hg28)
       refine WL.skp rfl rfl (WL.skp rfl rfl (WL.skp rfl rfl (WL.pick (v := .bool false) rfl rfl rfl rfl rfl rfl (WL.pick (v := .bool false) rfl rfl rfl rfl rfl rfl (WL.move rfl rfl rfl (WL.fieldAddr fo_69_0 rfl rfl rfl (WL.load1 (v := .int .i64 x.op) one_3 rfl rfl rfl (hS.cell 0 rfl rfl) (WL.bin rfl rfl rfl rfl rfl (WL.move rfl rfl rfl ?_)))))))))
       cases hg29 : (!decide (x.op = 1))
       ·
        have hg29p : x.op = 1 := by simpa using hg29
        refine WL.skp rfl rfl (WL.skp rfl rfl (WL.skp rfl rfl (WL.pick (v := .bool false) rfl rfl rfl rfl rfl rfl (WL.pick (v := .bool false) rfl rfl rfl rfl rfl rfl (WL.move rfl rfl rfl (WL.fieldAddr fo_69_0 rfl rfl rfl (WL.load1 (v := .int .i64 x.op) one_3 rfl rfl rfl (hS.cell 0 rfl rfl) (WL.bin rfl rfl rfl rfl rfl (WL.move rfl rfl rfl ?_)))))))))
        cases hg30 : (!decide (x.op = 14))
        ·
         have hg30p : x.op = 14 := by simpa using hg30
         refine WL.skp rfl rfl (WL.skp rfl rfl (WL.skp rfl rfl (WL.skp rfl rfl (WL.pick (v := .bool false) rfl rfl rfl rfl rfl rfl (WL.pick (v := .bool false) rfl rfl rfl rfl rfl rfl (WL.nil ?_))))))
         exact N.cut false ⟨rfl, rfl, rfl, trivial⟩ ⟨hS, (decide_eq_false (by omega)).symm⟩
        have hg30p : ¬ (x.op = 14) := by simpa using hg30
        refine WL.fieldAddr fo_69_5 rfl rfl rfl (WL.load1 (v := .slice adx x.args.length capx) one_55 rfl rfl rfl (hS.cell 0 rfl rfl) (WL.lenSlice Tryd.underlying55 rfl rfl rfl (WL.bin rfl rfl rfl rfl rfl (WL.pick (v := .bool (decide (0 < (x.args.length : Int)))) rfl rfl rfl rfl rfl rfl (WL.pick (v := .bool (decide (0 < (x.args.length : Int)))) rfl rfl rfl rfl rfl rfl (WL.nil ?_))))))
        exact N.cut (decide (0 < (x.args.length : Int))) ⟨rfl, rfl, rfl, trivial⟩ ⟨hS, decide_eq_decide.2 (by omega)⟩
       have hg29p : ¬ (x.op = 1) := by simpa using hg29
       refine WL.fieldAddr fo_69_3 rfl rfl rfl (WL.load1 (v := .int .u64 x.k) one_52 rfl rfl rfl (hS.cell 0 rfl rfl) (WL.bin rfl rfl rfl rfl rfl (WL.pick (v := .bool (!decide (x.k = 0))) rfl rfl rfl rfl rfl rfl (WL.pick (v := .bool (!decide (x.k = 0))) rfl rfl rfl rfl rfl rfl (WL.move rfl rfl rfl ?_)))))
       cases hg31 : (!decide (x.k = 0))
       ·
        have hg31p : x.k = 0 := by simpa using hg31
        refine WL.fieldAddr fo_69_0 rfl rfl rfl (WL.load1 (v := .int .i64 x.op) one_3 rfl rfl rfl (hS.cell 0 rfl rfl) (WL.bin rfl rfl rfl rfl rfl (WL.move rfl rfl rfl ?_)))
        cases hg32 : (!decide (x.op = 14))
        ·
         have hg32p : x.op = 14 := by simpa using hg32
         refine WL.skp rfl rfl (WL.skp rfl rfl (WL.skp rfl rfl (WL.skp rfl rfl (WL.pick (v := .bool false) rfl rfl rfl rfl rfl rfl (WL.pick (v := .bool false) rfl rfl rfl rfl rfl rfl (WL.nil ?_))))))
         exact N.cut false ⟨rfl, rfl, rfl, trivial⟩ ⟨hS, (decide_eq_false (by omega)).symm⟩
        have hg32p : ¬ (x.op = 14) := by simpa using hg32
        refine WL.fieldAddr fo_69_5 rfl rfl rfl (WL.load1 (v := .slice adx x.args.length capx) one_55 rfl rfl rfl (hS.cell 0 rfl rfl) (WL.lenSlice Tryd.underlying55 rfl rfl rfl (WL.bin rfl rfl rfl rfl rfl (WL.pick (v := .bool (decide (0 < (x.args.length : Int)))) rfl rfl rfl rfl rfl rfl (WL.pick (v := .bool (decide (0 < (x.args.length : Int)))) rfl rfl rfl rfl rfl rfl (WL.nil ?_))))))
        exact N.cut (decide (0 < (x.args.length : Int))) ⟨rfl, rfl, rfl, trivial⟩ ⟨hS, decide_eq_decide.2 (by omega)⟩
       have hg31p : ¬ (x.k = 0) := by simpa using hg31
       refine WL.skp rfl rfl (WL.skp rfl rfl (WL.skp rfl rfl (WL.skp rfl rfl (WL.skp rfl rfl (WL.skp rfl rfl (WL.skp rfl rfl (WL.skp rfl rfl (WL.skp rfl rfl (WL.pick (v := .bool true) rfl rfl rfl rfl rfl rfl ?_)))))))))
       refine WL.nil ?_
       exact N.cut true ⟨rfl, rfl, rfl, trivial⟩ ⟨hS, (decide_eq_true (by omega)).symm⟩
      have hq7v : ¬ (2 ≤ x.op ∧ x.op ≤ 11) := of_decide_eq_false (by rw [← hq7]; simpa using hg28)
      refine WL.fieldAddr fo_69_2 rfl rfl rfl (WL.load1 (v := .int .i64 x.b) one_3 rfl rfl rfl (hS.cell 0 rfl rfl) (WL.bin rfl rfl rfl rfl rfl (WL.pick (v := .bool (!decide (x.b = 0))) rfl rfl rfl rfl rfl rfl (WL.pick (v := .bool (!decide (x.b = 0))) rfl rfl rfl rfl rfl rfl (WL.move rfl rfl rfl ?_)))))
      cases hg33 : (!decide (x.b = 0))
      ·
       have hg33p : x.b = 0 := by simpa using hg33
       refine WL.fieldAddr fo_69_0 rfl rfl rfl (WL.load1 (v := .int .i64 x.op) one_3 rfl rfl rfl (hS.cell 0 rfl rfl) (WL.bin rfl rfl rfl rfl rfl (WL.move rfl rfl rfl ?_)))
       cases hg34 : (!decide (x.op = 1))
       ·
        have hg34p : x.op = 1 := by simpa using hg34
        refine WL.skp rfl rfl (WL.skp rfl rfl (WL.skp rfl rfl (WL.pick (v := .bool false) rfl rfl rfl rfl rfl rfl (WL.pick (v := .bool false) rfl rfl rfl rfl rfl rfl (WL.move rfl rfl rfl (WL.fieldAddr fo_69_0 rfl rfl rfl (WL.load1 (v := .int .i64 x.op) one_3 rfl rfl rfl (hS.cell 0 rfl rfl) (WL.bin rfl rfl rfl rfl rfl (WL.move rfl rfl rfl ?_)))))))))
        cases hg35 : (!decide (x.op = 14))
        ·
         have hg35p : x.op = 14 := by simpa using hg35
         refine WL.skp rfl rfl (WL.skp rfl rfl (WL.skp rfl rfl (WL.skp rfl rfl (WL.pick (v := .bool false) rfl rfl rfl rfl rfl rfl (WL.pick (v := .bool false) rfl rfl rfl rfl rfl rfl (WL.nil ?_))))))
         exact N.cut false ⟨rfl, rfl, rfl, trivial⟩ ⟨hS, (decide_eq_false (by omega)).symm⟩
        have hg35p : ¬ (x.op = 14) := by simpa using hg35
        refine WL.fieldAddr fo_69_5 rfl rfl rfl (WL.load1 (v := .slice adx x.args.length capx) one_55 rfl rfl rfl (hS.cell 0 rfl rfl) (WL.lenSlice Tryd.underlying55 rfl rfl rfl (WL.bin rfl rfl rfl rfl rfl (WL.pick (v := .bool (decide (0 < (x.args.length : Int)))) rfl rfl rfl rfl rfl rfl (WL.pick (v := .bool (decide (0 < (x.args.length : Int)))) rfl rfl rfl rfl rfl rfl (WL.nil ?_))))))
        exact N.cut (decide (0 < (x.args.length : Int))) ⟨rfl, rfl, rfl, trivial⟩ ⟨hS, decide_eq_decide.2 (by omega)⟩
       have hg34p : ¬ (x.op = 1) := by simpa using hg34
       refine WL.fieldAddr fo_69_3 rfl rfl rfl (WL.load1 (v := .int .u64 x.k) one_52 rfl rfl rfl (hS.cell 0 rfl rfl) (WL.bin rfl rfl rfl rfl rfl (WL.pick (v := .bool (!decide (x.k = 0))) rfl rfl rfl rfl rfl rfl (WL.pick (v := .bool (!decide (x.k = 0))) rfl rfl rfl rfl rfl rfl (WL.move rfl rfl rfl ?_)))))
       cases hg36 : (!decide (x.k = 0))
       ·
        have hg36p : x.k = 0 := by simpa using hg36
        refine WL.fieldAddr fo_69_0 rfl rfl rfl (WL.load1 (v := .int .i64 x.op) one_3 rfl rfl rfl (hS.cell 0 rfl rfl) (WL.bin rfl rfl rfl rfl rfl (WL.move rfl rfl rfl ?_)))
        cases hg37 : (!decide (x.op = 14))
        ·
         have hg37p : x.op = 14 := by simpa using hg37
         refine WL.skp rfl rfl (WL.skp rfl rfl (WL.skp rfl rfl (WL.skp rfl rfl (WL.pick (v := .bool false) rfl rfl rfl rfl rfl rfl (WL.pick (v := .bool false) rfl rfl rfl rfl rfl rfl (WL.nil ?_))))))
         exact N.cut false ⟨rfl, rfl, rfl, trivial⟩ ⟨hS, (decide_eq_false (by omega)).symm⟩
        have hg37p : ¬ (x.op = 14) := by simpa using hg37
        refine WL.fieldAddr fo_69_5 rfl rfl rfl (WL.load1 (v := .slice adx x.args.length capx) one_55 rfl rfl rfl (hS.cell 0 rfl rfl) (WL.lenSlice Tryd.underlying55 rfl rfl rfl (WL.bin rfl rfl rfl rfl rfl (WL.pick (v := .bool (decide (0 < (x.args.length : Int)))) rfl rfl rfl rfl rfl rfl (WL.pick (v := .bool (decide (0 < (x.args.length : Int)))) rfl rfl rfl rfl rfl rfl (WL.nil ?_))))))
        exact N.cut (decide (0 < (x.args.length : Int))) ⟨rfl, rfl, rfl, trivial⟩ ⟨hS, decide_eq_decide.2 (by omega)⟩
       have hg36p : ¬ (x.k = 0) := by simpa using hg36
       refine WL.skp rfl rfl (WL.skp rfl rfl (WL.skp rfl rfl (WL.skp rfl rfl (WL.skp rfl rfl (WL.skp rfl rfl (WL.skp rfl rfl (WL.skp rfl rfl (WL.skp rfl rfl (WL.pick (v := .bool true) rfl rfl rfl rfl rfl rfl ?_)))))))))
       refine WL.nil ?_
       exact N.cut true ⟨rfl, rfl, rfl, trivial⟩ ⟨hS, (decide_eq_true (by omega)).symm⟩
      have hg33p : ¬ (x.b = 0) := by simpa using hg33
      refine WL.skp rfl rfl (WL.skp rfl rfl (WL.skp rfl rfl (WL.skp rfl rfl (WL.skp rfl rfl (WL.skp rfl rfl (WL.skp rfl rfl (WL.skp rfl rfl (WL.pick (v := .bool true) rfl rfl rfl rfl rfl rfl (WL.move rfl rfl rfl ?_)))))))))
      refine WL.skp rfl rfl (WL.skp rfl rfl (WL.skp rfl rfl (WL.skp rfl rfl (WL.skp rfl rfl (WL.skp rfl rfl (WL.skp rfl rfl (WL.skp rfl rfl (WL.skp rfl rfl (WL.pick (v := .bool true) rfl rfl rfl rfl rfl rfl ?_)))))))))
      refine WL.nil ?_
      exact N.cut true ⟨rfl, rfl, rfl, trivial⟩ ⟨hS, (decide_eq_true (by omega)).symm⟩
     have hg27p : ¬ (x.a = 0) := by simpa using hg27
     refine WL.skp rfl rfl (WL.skp rfl rfl (WL.skp rfl rfl (WL.skp rfl rfl (WL.skp rfl rfl (WL.skp rfl rfl (WL.skp rfl rfl (WL.pick (v := .bool true) rfl rfl rfl rfl rfl rfl (WL.move rfl rfl rfl (WL.skp rfl rfl ?_)))))))))
     refine WL.skp rfl rfl (WL.skp rfl rfl (WL.skp rfl rfl (WL.skp rfl rfl (WL.skp rfl rfl (WL.skp rfl rfl (WL.skp rfl rfl (WL.pick (v := .bool true) rfl rfl rfl rfl rfl rfl (WL.move rfl rfl rfl (WL.skp rfl rfl ?_)))))))))
     refine WL.skp rfl rfl (WL.skp rfl rfl (WL.skp rfl rfl (WL.skp rfl rfl (WL.skp rfl rfl (WL.skp rfl rfl (WL.skp rfl rfl (WL.skp rfl rfl (WL.pick (v := .bool true) rfl rfl rfl rfl rfl rfl (WL.nil ?_)))))))))
     exact N.cut true ⟨rfl, rfl, rfl, trivial⟩ ⟨hS, (decide_eq_true (by omega)).symm⟩
    clear hS
    rintro q93 w38 ⟨hS, hq93⟩
    refine W.cond rfl (fun hc39 => ?_) (fun hc39 => ?_)
    ·
     have hq93v : ((¬ ((2 ≤ x.op ∧ x.op ≤ 11) ∨ x.op = 13 ∨ x.op = 16) ∧ x.a ≠ 0) ∨ (¬ (2 ≤ x.op ∧ x.op ≤ 11) ∧ x.b ≠ 0) ∨ (x.op ≠ 1 ∧ x.k ≠ 0) ∨ (x.op ≠ 14 ∧ 0 < x.args.length)) := of_decide_eq_true (by rw [← hq93]; simpa using hc39)
     refine W.seq (W.region (WL.assign rfl rfl rfl (WL.nil (N.seq ?_))))
     refine Fin.ret1 rfl (v := .bool false) rfl ?_
     have hbz := hS.below
     clear hS
     refine ⟨?_, hbz⟩
     congr 1
     rw [inst5, if_neg (by clear hx hQx hsx hsxd hsxa hsxb hsxc; rw [← hu5]; first | omega | (simp_all; done) | (rintro (h | h | h | h) <;> first | omega | (simp_all; done))), if_pos hq93v]
    have hq93v : ¬ ((¬ ((2 ≤ x.op ∧ x.op ≤ 11) ∨ x.op = 13 ∨ x.op = 16) ∧ x.a ≠ 0) ∨ (¬ (2 ≤ x.op ∧ x.op ≤ 11) ∧ x.b ≠ 0) ∨ (x.op ≠ 1 ∧ x.k ≠ 0) ∨ (x.op ≠ 14 ∧ 0 < x.args.length)) := of_decide_eq_false (by rw [← hq93]; simpa using hc39)
    refine W.skip (N.seq (W.seq (W.region (WL.loadN (cs := [.int .i64 x.op, .int .i64 x.a, .int .i64 x.b, .int .u64 x.k, .string x.name, .slice adx x.args.length capx]) agg_69 rfl rfl rfl rfl (hS.cells 0 (m := 6) rfl rfl) ?_))))
    refine WL.callF (vs := [.agg #[.int .i64 x.op, .int .i64 x.a, .int .i64 x.b, .int .u64 x.k, .string x.name, .slice adx x.args.length capx]]) Tryd.func31 (by kernel_rfl) rfl rfl rfl (named5_ret x _ (ro := ro) (fun b hb => (hS.snap b hb).1) (hQx.keep hS.alike)) ?_
    rintro v w40 ⟨rfl, hbl⟩
    replace hS := hS.grow hbl
    refine WL.assign rfl rfl rfl (WL.nil (N.seq (W.seq (W.seq (W.region (WL.move rfl rfl rfl (WL.nil (N.seq ?_))))))))
    refine W.cond rfl (fun hc41 => ?_) (fun hc41 => ?_)
    ·
     refine W.seq (W.region (WL.fieldAddr fo_69_4 rfl rfl rfl (WL.load1 (v := .string x.name) one_9 rfl rfl rfl (hS.cell 0 rfl rfl) ?_)))
     refine WL.callF (vs := [.string x.name]) Tryd.func21 (by kernel_rfl) rfl rfl rfl (name5_ret x.name hnx (ro := ro) (fun b hb => (hS.snap b hb).1)) ?_
     rintro v w42 ⟨rfl, hbl⟩
     replace hS := hS.grow hbl
     refine WL.assign rfl rfl rfl (WL.nil (N.seq ?_))
     refine Fin.ret1 rfl (v := .bool (name5 x.name)) rfl ?_
     have hbz := hS.below
     clear hS
     refine ⟨?_, hbz⟩
     congr 1
     rw [inst5, if_neg (by clear hx hQx hsx hsxd hsxa hsxb hsxc; rw [← hu5]; first | omega | (simp_all; done) | (rintro (h | h | h | h) <;> first | omega | (simp_all; done))), if_neg hq93v, if_pos (by simp_all)]
    refine W.skip (N.seq (W.seq (W.region (WL.fieldAddr fo_69_4 rfl rfl rfl (WL.load1 (v := .string x.name) one_9 rfl rfl rfl (hS.cell 0 rfl rfl) (WL.eqStr rfl rfl rfl rfl (WL.assign rfl rfl rfl (WL.nil (N.seq ?_)))))))))
    refine Fin.ret1 rfl (v := .bool (decide (x.name = ⟨#[]⟩))) rfl ?_
    have hbz := hS.below
    clear hS
    refine ⟨?_, hbz⟩
    congr 1
    rw [inst5, if_neg (by clear hx hQx hsx hsxd hsxa hsxb hsxc; rw [← hu5]; first | omega | (simp_all; done) | (rintro (h | h | h | h) <;> first | omega | (simp_all; done))), if_neg hq93v, if_neg (by simp_all)]
   refine WL.skp rfl rfl (WL.skp rfl rfl (WL.skp rfl rfl (WL.skp rfl rfl (WL.pick (v := .bool true) rfl rfl rfl rfl rfl rfl (WL.nil (N.seq (W.condT rfl (W.seq (W.region ?_)))))))))
   refine WL.assign rfl rfl rfl (WL.nil (N.seq ?_))
   refine Fin.ret1 rfl (v := .bool false) rfl ?_
   have hbz := hS.below
   clear hS
   refine ⟨?_, hbz⟩
   congr 1
   rw [inst5, if_pos (by clear hx hQx hsx hsxd hsxa hsxb hsxc; rw [← hu5]; first | omega | (simp_all; done) | (rintro (h | h | h | h) <;> first | omega | (simp_all; done)))]
  have hg6p : 16 < x.op := by simpa using hg6
  refine WL.skp rfl rfl (WL.skp rfl rfl (WL.pick (v := .bool true) rfl rfl rfl rfl rfl rfl (WL.move rfl rfl rfl (WL.skp rfl rfl (WL.skp rfl rfl (WL.skp rfl rfl (WL.skp rfl rfl (WL.pick (v := .bool true) rfl rfl rfl rfl rfl rfl (WL.nil ?_)))))))))
  refine N.seq (W.condT rfl (W.seq (W.region (WL.assign rfl rfl rfl (WL.nil (N.seq ?_))))))
  refine Fin.ret1 rfl (v := .bool false) rfl ?_
  have hbz := hS.below
  clear hS
  refine ⟨?_, hbz⟩
  congr 1
  rw [inst5, if_pos (by clear hx hQx hsx hsxd hsxa hsxb hsxc; rw [← hu5]; first | omega | (simp_all; done) | (rintro (h | h | h | h) <;> first | omega | (simp_all; done)))]
 have hg5p : x.op < 1 := by simpa using hg5
 refine WL.skp rfl rfl (WL.skp rfl rfl (WL.skp rfl rfl (WL.pick (v := .bool true) rfl rfl rfl rfl rfl rfl (WL.move rfl rfl rfl (WL.skp rfl rfl (WL.skp rfl rfl (WL.pick (v := .bool true) rfl rfl rfl rfl rfl rfl (WL.move rfl rfl rfl (WL.skp rfl rfl ?_)))))))))
 refine WL.skp rfl rfl (WL.skp rfl rfl (WL.skp rfl rfl (WL.pick (v := .bool true) rfl rfl rfl rfl rfl rfl (WL.nil (N.seq (W.condT rfl (W.seq (W.region (WL.assign rfl rfl rfl ?_)))))))))
 refine WL.nil (N.seq ?_)
 refine Fin.ret1 rfl (v := .bool false) rfl ?_
 have hbz := hS.below
 clear hS
 refine ⟨?_, hbz⟩
 congr 1
 rw [inst5, if_pos (by clear hx hQx hsx hsxd hsxa hsxb hsxc; rw [← hu5]; first | omega | (simp_all; done) | (rintro (h | h | h | h) <;> first | omega | (simp_all; done)))]

def goes5 (f : DFunc) (to : Int) (args : List Int) (n : Int) : Bool :=
  if to < 0 then false else match f.blocks[to.toNat]? with
  | some b => if (args.length : Int) = b.params then below5 args n else false
  | none => false

theorem goes5_ret (f : DFunc) (cf : List Value) (to : Int) (args : List Int) (va : Value) (n : Int) {w : World} {ro : Nat → Prop} (hro : ∀ b, ro b → b < w.heap.size) (hx : FuncC ro w cf f) (hy : IntsV ro w va args) : Ret Tryd.prog 42 #[.agg cf.toArray, .int .i64 to, va, .int .i64 n] w fun v w' => v = .bool (goes5 f to args n) ∧ Below w.heap.size w w' := by
 obtain ⟨sb, rfl, hbl, hnm, hbd, hpr⟩ := id hx
 obtain ⟨adb, capb, rfl, hbka, hbkb, hbkc, hbkd⟩ := id hbl
 have hbkm : f.blocks.length ≤ 9223372036854775807 := by have h1 := hbka; have h2 := hbkb; unfold maxLen at h2; omega
 obtain ⟨ada, capa, rfl, hya, hyb, hyc, hyd⟩ := id hy
 have hym : args.length ≤ 9223372036854775807 := by have h1 := hya; have h2 := hyb; unfold maxLen at h2; omega
 refine Ret.enter (P := Tryd.prog) (n := 32) (args := [.agg #[.string f.name, .int .i64 f.bind, .int .i64 f.params, .slice adb f.blocks.length capb], .int .i64 to, .slice ada args.length capa, .int .i64 n]) (σ := [(0, .agg #[.string f.name, .int .i64 f.bind, .int .i64 f.params, .slice adb f.blocks.length capb]), (1, .int .i64 to), (2, .slice ada args.length capa), (3, .int .i64 n)]) Tryd.func42 rfl rfl rfl rfl ?_
 have hS := St.start (ro := ro) hro
 refine W.seq (W.region ?_)
 refine WL.box (v := .agg #[.string f.name, .int .i64 f.bind, .int .i64 f.params, .slice adb f.blocks.length capb]) (cs := [.string f.name, .int .i64 f.bind, .int .i64 f.params, .slice adb f.blocks.length capb]) rfl rfl rfl rfl hS ?_
 clear hS; intro w2 b1 hb_b1 hS
 refine WL.assign rfl rfl rfl (WL.nil (N.seq (W.seq (W.seq (W.region (WL.move rfl rfl rfl (WL.bin rfl rfl rfl rfl rfl (WL.move rfl rfl rfl ?_))))))))
 cases hg3 : (decide (to < 0))
 ·
  have hg3p : ¬ (to < 0) := by simpa using hg3
  refine WL.move rfl rfl rfl (WL.fieldAddr fo_24_3 rfl rfl rfl (WL.load1 (v := .slice adb f.blocks.length capb) one_22 rfl rfl rfl (hS.cell 0 rfl rfl) (WL.lenSlice Tryd.underlying22 rfl rfl rfl (WL.bin rfl rfl rfl rfl rfl (WL.pick (v := .bool (decide ((f.blocks.length : Int) ≤ to))) rfl rfl rfl rfl rfl rfl (WL.move rfl rfl rfl ?_))))))
  cases hg4 : (decide ((f.blocks.length : Int) ≤ to))
  ·
   have hg4p : ¬ ((f.blocks.length : Int) ≤ to) := by simpa using hg4
   refine WL.move rfl rfl rfl (WL.lenSlice Tryd.underlying55 rfl rfl rfl (WL.fieldAddr fo_24_3 rfl rfl rfl (WL.load1 (v := .slice adb f.blocks.length capb) one_22 rfl rfl rfl (hS.cell 0 rfl rfl) (WL.move rfl rfl rfl ?_))))
   refine WL.set 23 (v' := .int .i64 (to.toNat : Int)) rfl (by congr 1; omega) ?_
   have hj5 : to.toNat < f.blocks.length := by omega
   obtain ⟨x5, hx5, b5, o5, cs5, hE5, hr5, _, hc5, hQ5⟩ := opn hbkd hj5
   obtain ⟨si5, tsx5, rfl, hin5, hfin5, hpar5⟩ := id hQ5
   obtain ⟨adi5, capi5, rfl, hin5a, hin5b, hin5c, hin5d⟩ := id hin5
   have hin5m : x5.ins.length ≤ 9223372036854775807 := by have h1 := hin5a; have h2 := hin5b; unfold maxLen at h2; omega
   obtain ⟨sp5, sq5, rfl, ht15, ht25, htk5, hta5, htt5, hte5⟩ := id hfin5
   obtain ⟨adp5, capp5, rfl, htp5a, htp5b, htp5c, htp5d⟩ := id ht15
   have htp5m : x5.fin.args.length ≤ 9223372036854775807 := by have h1 := htp5a; have h2 := htp5b; unfold maxLen at h2; omega
   obtain ⟨adq5, capq5, rfl, htq5a, htq5b, htq5c, htq5d⟩ := id ht25
   have htq5m : x5.fin.elses.length ≤ 9223372036854775807 := by have h1 := htq5a; have h2 := htq5b; unfold maxLen at h2; omega
   refine WL.indexAddrE (j := to.toNat) Tryd.underlying22 isz_59 rfl rfl rfl rfl hj5 hE5 (WL.fieldAddr fo_59_0 rfl rfl rfl (WL.load1 (v := .int .i64 x5.params) one_3 rfl rfl rfl (hS.roCells hr5 hc5 0 _ rfl) (WL.bin rfl rfl rfl rfl rfl (WL.pick (v := .bool (!decide ((args.length : Int) = x5.params))) rfl rfl rfl rfl rfl rfl (WL.nil (N.seq ?_))))))
   refine W.cond rfl (fun hc6 => ?_) (fun hc6 => ?_)
   ·
    have hc6p : ¬ ((args.length : Int) = x5.params) := by simpa using hc6
    refine W.seq (W.region (WL.assign rfl rfl rfl (WL.nil (N.seq ?_))))
    refine Fin.ret1 rfl (v := .bool false) rfl ?_
    have hbz := hS.below
    clear hS
    refine ⟨?_, hbz⟩
    congr 1
    rw [goes5, if_neg (by omega), hx5]
    dsimp only
    rw [if_neg (by omega)]
   have hc6p : (args.length : Int) = x5.params := by simpa using hc6
   refine W.skip (N.seq (W.seq (W.region (WL.move rfl rfl rfl (WL.move rfl rfl rfl ?_)))))
   refine WL.callF (vs := [.slice ada args.length capa, .int .i64 n]) Tryd.func59 (by kernel_rfl) rfl rfl rfl (below5_ret args _ n (ro := ro) (fun b hb => (hS.snap b hb).1) (IntsV.keep hy hS.alike)) ?_
   rintro v w7 ⟨rfl, hbl⟩
   replace hS := hS.grow hbl
   refine WL.assign rfl rfl rfl (WL.nil (N.seq ?_))
   refine Fin.ret1 rfl (v := .bool (below5 args n)) rfl ?_
   have hbz := hS.below
   clear hS
   refine ⟨?_, hbz⟩
   congr 1
   rw [goes5, if_neg (by omega), hx5]
   dsimp only
   rw [if_pos (by omega)]
  have hg4p : (f.blocks.length : Int) ≤ to := by simpa using hg4
  refine WL.skp rfl rfl (WL.skp rfl rfl (WL.skp rfl rfl (WL.skp rfl rfl (WL.skp rfl rfl (WL.skp rfl rfl (WL.skp rfl rfl (WL.skp rfl rfl (WL.skp rfl rfl (WL.pick (v := .bool true) rfl rfl rfl rfl rfl rfl ?_)))))))))
  refine WL.nil (N.seq (W.condT rfl (W.seq (W.region (WL.assign rfl rfl rfl (WL.nil (N.seq ?_)))))))
  refine Fin.ret1 rfl (v := .bool false) rfl ?_
  have hbz := hS.below
  clear hS
  refine ⟨?_, hbz⟩
  congr 1
  rw [goes5, if_neg (by omega), List.getElem?_eq_none (by omega)]
 have hg3p : to < 0 := by simpa using hg3
 refine WL.skp rfl rfl (WL.skp rfl rfl (WL.skp rfl rfl (WL.skp rfl rfl (WL.skp rfl rfl (WL.pick (v := .bool true) rfl rfl rfl rfl rfl rfl (WL.move rfl rfl rfl (WL.skp rfl rfl (WL.skp rfl rfl (WL.skp rfl rfl ?_)))))))))
 refine WL.skp rfl rfl (WL.skp rfl rfl (WL.skp rfl rfl (WL.skp rfl rfl (WL.skp rfl rfl (WL.skp rfl rfl (WL.pick (v := .bool true) rfl rfl rfl rfl rfl rfl (WL.nil (N.seq (W.condT rfl ?_)))))))))
 refine W.seq (W.region (WL.assign rfl rfl rfl (WL.nil (N.seq ?_))))
 refine Fin.ret1 rfl (v := .bool false) rfl ?_
 have hbz := hS.below
 clear hS
 refine ⟨?_, hbz⟩
 congr 1
 rw [goes5, if_pos (by omega)]

end Go.Proofs.YtcmmhfknkldmcaaDoor
