/-
  Contracts of what is right (marlineref05). No condition beyond those that each theorem states.
-/
import Derived.Test.YtcmmhfknkldmcaaDoorA11
namespace Go.Proofs.YtcmmhfknkldmcaaDoor
open Go.RowKit
theorem byt_3 : (Tryd.prog.info? 3).map (·.bytes) = some 8 := by kernel_rfl
theorem fo_69_0 : fOff Tryd.prog 69 0 0 = true := by kernel_rfl
theorem fo_69_1 : fOff Tryd.prog 69 1 1 = true := by kernel_rfl
theorem fo_69_2 : fOff Tryd.prog 69 2 2 = true := by kernel_rfl
theorem fo_69_5 : fOff Tryd.prog 69 5 5 = true := by kernel_rfl
theorem isz_3 : (Tryd.prog.info? 3).map (·.size) = some 1 := by kernel_rfl
theorem one_3 : tyOne Tryd.prog 3 = true := by kernel_rfl
theorem one_55 : tyOne Tryd.prog 55 = true := by kernel_rfl
theorem zer_3 : tyZero Tryd.prog 3 = some [.int .i64 0] := by kernel_rfl
def name5 (s : ByteArray) : Bool := decide (1 ≤ s.size) && decide (s.size ≤ 16)
def named5 (x : DInst) : Bool := decide (x.op = 12) || decide (x.op = 13) || decide (x.op = 14)
def uses5 (x : DInst) : List Int := if 2 ≤ x.op ∧ x.op ≤ 11 then [x.a, x.b] else if x.op = 13 ∨ x.op = 16 then [x.a] else if x.op = 14 then x.args else []
def below5 (l : List Int) (n : Int) : Bool := l.all fun v => decide (0 ≤ v) && decide (v < n)

theorem name5_ret (s : ByteArray) (hs : s.size ≤ maxLen) {w : World} {ro : Nat → Prop} (hro : ∀ b, ro b → b < w.heap.size) : Ret Tryd.prog 21 #[.string s] w fun v w' => v = .bool (name5 s) ∧ Below w.heap.size w w' := by
 refine Ret.enter (P := Tryd.prog) (n := 11) (args := [.string s]) (σ := [(0, .string s)]) Tryd.func21 rfl rfl rfl rfl ?_
 have hS := St.start (ro := ro) hro
 refine W.seq (W.region (WL.assign rfl rfl rfl (WL.nil (N.seq (W.seq (W.region (WL.move rfl rfl rfl (WL.lenStr Tryd.underlying9 rfl rfl rfl (WL.bin rfl rfl rfl rfl rfl ?_)))))))))
 refine WL.move rfl rfl rfl ?_
 cases hg1 : (decide (1 ≤ (s.size : Int)))
 ·
  have hg1p : ¬ (1 ≤ (s.size : Int)) := by simpa using hg1
  refine WL.skp rfl rfl (WL.skp rfl rfl (WL.skp rfl rfl (WL.pick (v := .bool false) rfl rfl rfl rfl rfl rfl (WL.assign rfl rfl rfl (WL.nil (N.seq ?_))))))
  refine Fin.ret1 rfl (v := .bool false) rfl ?_
  have hbz := hS.below
  clear hS
  refine ⟨?_, hbz⟩
  congr 1
  rw [Bool.eq_iff_iff]
  simp only [name5, Bool.and_eq_true, Bool.or_eq_true, decide_eq_true_eq, Bool.not_eq_true', decide_eq_false_iff_not, Bool.false_eq_true, iff_true, true_iff, false_iff, iff_false]
  try simp only [Bool.true_eq_false, Bool.false_eq_true, iff_true, true_iff, false_iff, iff_false, true_and, and_true, or_true, true_or, false_and, and_false, or_false, false_or]
  omega
 have hg1p : 1 ≤ (s.size : Int) := by simpa using hg1
 refine WL.move rfl rfl rfl (WL.lenStr Tryd.underlying9 rfl rfl rfl (WL.bin rfl rfl rfl rfl rfl (WL.pick (v := .bool (decide ((s.size : Int) ≤ 16))) rfl rfl rfl rfl rfl rfl (WL.assign rfl rfl rfl (WL.nil (N.seq ?_))))))
 refine Fin.ret1 rfl (v := .bool (decide ((s.size : Int) ≤ 16))) rfl ?_
 have hbz := hS.below
 clear hS
 refine ⟨?_, hbz⟩
 congr 1
 rw [Bool.eq_iff_iff]
 simp only [name5, Bool.and_eq_true, Bool.or_eq_true, decide_eq_true_eq, Bool.not_eq_true', decide_eq_false_iff_not, Bool.false_eq_true, iff_true, true_iff, false_iff, iff_false]
 try simp only [Bool.true_eq_false, Bool.false_eq_true, iff_true, true_iff, false_iff, iff_false, true_and, and_true, or_true, true_or, false_and, and_false, or_false, false_or]
 omega

theorem named5_ret (x : DInst) (cx : List Value) {w : World} {ro : Nat → Prop} (hro : ∀ b, ro b → b < w.heap.size) (hx : InstC ro w cx x) : Ret Tryd.prog 31 #[.agg cx.toArray] w fun v w' => v = .bool (named5 x) ∧ Below w.heap.size w w' := by
 have hQx := hx
 obtain ⟨sx, rfl, hsx, hox, hax, hbx, hkx, hnx⟩ := id hx
 obtain ⟨adx, capx, rfl, hsxa, hsxb, hsxc, hsxd⟩ := id hsx
 have hsxm : x.args.length ≤ 9223372036854775807 := by have h1 := hsxa; have h2 := hsxb; unfold maxLen at h2; omega
 refine Ret.enter (P := Tryd.prog) (n := 16) (args := [.agg #[.int .i64 x.op, .int .i64 x.a, .int .i64 x.b, .int .u64 x.k, .string x.name, .slice adx x.args.length capx]]) (σ := [(0, .agg #[.int .i64 x.op, .int .i64 x.a, .int .i64 x.b, .int .u64 x.k, .string x.name, .slice adx x.args.length capx])]) Tryd.func31 rfl rfl rfl rfl ?_
 have hS := St.start (ro := ro) hro
 refine W.seq (W.region ?_)
 refine WL.box (v := .agg #[.int .i64 x.op, .int .i64 x.a, .int .i64 x.b, .int .u64 x.k, .string x.name, .slice adx x.args.length capx]) (cs := [.int .i64 x.op, .int .i64 x.a, .int .i64 x.b, .int .u64 x.k, .string x.name, .slice adx x.args.length capx]) rfl rfl rfl rfl hS ?_
 clear hS; intro w2 b1 hb_b1 hS
 refine WL.assign rfl rfl rfl (WL.nil (N.seq (W.seq (W.region (WL.fieldAddr fo_69_0 rfl rfl rfl (WL.load1 (v := .int .i64 x.op) one_3 rfl rfl rfl (hS.cell 0 rfl rfl) (WL.bin rfl rfl rfl rfl rfl (WL.move rfl rfl rfl ?_))))))))
 cases hg3 : (decide (x.op = 12))
 ·
  have hg3p : ¬ (x.op = 12) := by simpa using hg3
  refine WL.fieldAddr fo_69_0 rfl rfl rfl (WL.load1 (v := .int .i64 x.op) one_3 rfl rfl rfl (hS.cell 0 rfl rfl) (WL.bin rfl rfl rfl rfl rfl (WL.pick (v := .bool (decide (x.op = 13))) rfl rfl rfl rfl rfl rfl (WL.move rfl rfl rfl ?_))))
  cases hg4 : (decide (x.op = 13))
  ·
   have hg4p : ¬ (x.op = 13) := by simpa using hg4
   refine WL.fieldAddr fo_69_0 rfl rfl rfl (WL.load1 (v := .int .i64 x.op) one_3 rfl rfl rfl (hS.cell 0 rfl rfl) (WL.bin rfl rfl rfl rfl rfl (WL.pick (v := .bool (decide (x.op = 14))) rfl rfl rfl rfl rfl rfl (WL.assign rfl rfl rfl (WL.nil (N.seq ?_))))))
   refine Fin.ret1 rfl (v := .bool (decide (x.op = 14))) rfl ?_
   have hbz := hS.below
   clear hS
   refine ⟨?_, hbz⟩
   congr 1
   rw [Bool.eq_iff_iff]
   simp only [named5, Bool.and_eq_true, Bool.or_eq_true, decide_eq_true_eq, Bool.not_eq_true', decide_eq_false_iff_not, Bool.false_eq_true, iff_true, true_iff, false_iff, iff_false]
   try simp only [Bool.true_eq_false, Bool.false_eq_true, iff_true, true_iff, false_iff, iff_false, true_and, and_true, or_true, true_or, false_and, and_false, or_false, false_or]
   omega
  have hg4p : x.op = 13 := by simpa using hg4
  refine WL.skp rfl rfl (WL.skp rfl rfl (WL.skp rfl rfl (WL.pick (v := .bool true) rfl rfl rfl rfl rfl rfl (WL.assign rfl rfl rfl (WL.nil (N.seq ?_))))))
  refine Fin.ret1 rfl (v := .bool true) rfl ?_
  have hbz := hS.below
  clear hS
  refine ⟨?_, hbz⟩
  congr 1
  rw [Bool.eq_iff_iff]
  simp only [named5, Bool.and_eq_true, Bool.or_eq_true, decide_eq_true_eq, Bool.not_eq_true', decide_eq_false_iff_not, Bool.false_eq_true, iff_true, true_iff, false_iff, iff_false]
  try simp only [Bool.true_eq_false, Bool.false_eq_true, iff_true, true_iff, false_iff, iff_false, true_and, and_true, or_true, true_or, false_and, and_false, or_false, false_or]
  omega
 have hg3p : x.op = 12 := by simpa using hg3
 refine WL.skp rfl rfl (WL.skp rfl rfl (WL.skp rfl rfl (WL.pick (v := .bool true) rfl rfl rfl rfl rfl rfl (WL.move rfl rfl rfl (WL.skp rfl rfl (WL.skp rfl rfl (WL.skp rfl rfl (WL.pick (v := .bool true) rfl rfl rfl rfl rfl rfl (WL.assign rfl rfl rfl ?_)))))))))
 refine WL.nil (N.seq ?_)
 refine Fin.ret1 rfl (v := .bool true) rfl ?_
 have hbz := hS.below
 clear hS
 refine ⟨?_, hbz⟩
 congr 1
 rw [Bool.eq_iff_iff]
 simp only [named5, Bool.and_eq_true, Bool.or_eq_true, decide_eq_true_eq, Bool.not_eq_true', decide_eq_false_iff_not, Bool.false_eq_true, iff_true, true_iff, false_iff, iff_false]
 try simp only [Bool.true_eq_false, Bool.false_eq_true, iff_true, true_iff, false_iff, iff_false, true_and, and_true, or_true, true_or, false_and, and_false, or_false, false_or]
 omega

theorem uses5_ret (x : DInst) (cx : List Value) {w : World} {ro : Nat → Prop} (hro : ∀ b, ro b → b < w.heap.size) (hx : InstC ro w cx x) (hl : x.args.length ≤ 17592186044415) : Ret Tryd.prog 60 #[.agg cx.toArray] w fun v w' => SlV (fun b => w.heap.size ≤ b ∧ b < w'.heap.size) w' 1 IntC v (uses5 x) ∧ Below w.heap.size w w' := by
 have hQx := hx
 obtain ⟨sx, rfl, hsx, hox, hax, hbx, hkx, hnx⟩ := id hx
 obtain ⟨adx, capx, rfl, hsxa, hsxb, hsxc, hsxd⟩ := id hsx
 have hsxm : x.args.length ≤ 9223372036854775807 := by have h1 := hsxa; have h2 := hsxb; unfold maxLen at h2; omega
 refine Ret.enter (P := Tryd.prog) (n := 34) (args := [.agg #[.int .i64 x.op, .int .i64 x.a, .int .i64 x.b, .int .u64 x.k, .string x.name, .slice adx x.args.length capx]]) (σ := [(0, .agg #[.int .i64 x.op, .int .i64 x.a, .int .i64 x.b, .int .u64 x.k, .string x.name, .slice adx x.args.length capx])]) Tryd.func60 rfl rfl rfl rfl ?_
 have hS := St.start (ro := ro) hro
 refine W.seq (W.region ?_)
 refine WL.box (v := .agg #[.int .i64 x.op, .int .i64 x.a, .int .i64 x.b, .int .u64 x.k, .string x.name, .slice adx x.args.length capx]) (cs := [.int .i64 x.op, .int .i64 x.a, .int .i64 x.b, .int .u64 x.k, .string x.name, .slice adx x.args.length capx]) rfl rfl rfl rfl hS ?_
 clear hS; intro w2 b1 hb_b1 hS
 refine WL.assign rfl rfl rfl (WL.nil (N.seq (W.seq (W.seq (W.region (WL.fieldAddr fo_69_0 rfl rfl rfl (WL.load1 (v := .int .i64 x.op) one_3 rfl rfl rfl (hS.cell 0 rfl rfl) (WL.bin rfl rfl rfl rfl rfl (WL.move rfl rfl rfl ?_)))))))))
 cases hg3 : (decide (2 ≤ x.op))
 ·
  have hg3p : ¬ (2 ≤ x.op) := by simpa using hg3
  refine WL.skp rfl rfl (WL.skp rfl rfl (WL.skp rfl rfl (WL.pick (v := .bool false) rfl rfl rfl rfl rfl rfl (WL.nil (N.seq (W.condF rfl (W.skip (N.seq (W.seq ?_)))))))))
  refine W.seq (W.region (WL.fieldAddr fo_69_0 rfl rfl rfl (WL.load1 (v := .int .i64 x.op) one_3 rfl rfl rfl (hS.cell 0 rfl rfl) (WL.bin rfl rfl rfl rfl rfl (WL.move rfl rfl rfl ?_)))))
  cases hg4 : (decide (x.op = 13))
  ·
   have hg4p : ¬ (x.op = 13) := by simpa using hg4
   refine WL.fieldAddr fo_69_0 rfl rfl rfl (WL.load1 (v := .int .i64 x.op) one_3 rfl rfl rfl (hS.cell 0 rfl rfl) (WL.bin rfl rfl rfl rfl rfl (WL.pick (v := .bool (decide (x.op = 16))) rfl rfl rfl rfl rfl rfl (WL.nil (N.seq ?_)))))
   refine W.cond rfl (fun hc5 => ?_) (fun hc5 => ?_)
   ·
    have hc5p : x.op = 16 := by simpa using hc5
    refine W.seq (W.region (WL.fieldAddr fo_69_1 rfl rfl rfl (WL.load1 (v := .int .i64 x.a) one_3 rfl rfl rfl (hS.cell 0 rfl rfl) ?_)))
    refine WL.buildSlice (ps := [(0, .int .i64 x.a)]) (cs := [.int .i64 x.a]) Tryd.underlying55 (tyZero_spec zer_3) rfl rfl rfl rfl (by kernel_rfl) hS ?_
    clear hS; intro w7 b6 hb_b6 hS
    refine WL.assign rfl rfl rfl (WL.nil (N.seq ?_))
    refine Fin.ret1 rfl (v := .slice (some ⟨b6, 0, none⟩) 1 1) rfl ?_
    have e : uses5 x = [x.a] := by unfold uses5; rw [if_neg (by omega), if_pos (by omega)]
    rw [e]
    exact ⟨slv_blk (hS.own _ List.mem_cons_self) rfl (chunks_ints (l := [x.a]) (by simp; exact hax)) ((hS.keys _ (by simp [keysOf])).imp id (·.1)) rfl (by simp [maxLen]), hS.below⟩
   have hc5p : ¬ (x.op = 16) := by simpa using hc5
   refine W.skip (N.seq (W.seq (W.seq (W.region (WL.fieldAddr fo_69_0 rfl rfl rfl (WL.load1 (v := .int .i64 x.op) one_3 rfl rfl rfl (hS.cell 0 rfl rfl) (WL.bin rfl rfl rfl rfl rfl (WL.nil (N.seq ?_)))))))))
   refine W.cond rfl (fun hc8 => ?_) (fun hc8 => ?_)
   ·
    have hc8p : x.op = 14 := by simpa using hc8
    refine W.seq (W.region ?_)
    refine WL.buildSlice0 Tryd.underlying55 isz_3 rfl rfl hS ?_
    clear hS; intro w10 b9 hS
    refine WL.fieldAddr fo_69_5 rfl rfl rfl (WL.load1 (v := .slice adx x.args.length capx) one_55 rfl rfl rfl (hS.cell 0 rfl rfl) ?_)
    obtain ⟨news, hch, hnw, hsp⟩ := elems_news hsxd
    refine WL.appendRo (r := ⟨.slice (some ⟨b9, 0, none⟩) 0 0, 3, 1, 0, []⟩) (news := news) 8 Tryd.underlying55 (tyZero_spec zer_3) byt_3 rfl rfl rfl rfl rfl (by rw [hch.1]; rfl) (fun e => ⟨by have := hsxc e; omega, hsxc e⟩) ?_ hsp (chunks_all hch (by decide) fun _ _ q => one_ints q) rfl rfl hS (by simp only; unfold maxLen; omega) (by simp only; omega) ?_
    ·
     intro b off e
     by_cases hn0 : news = []
     ·
      subst hn0; intro j v hj; simp at hj
     exact hS.roCells ((hnw b off e).2 hn0) (hnw b off e).1
    clear hS; intro w11 v12 hS hnn
    refine WL.assign rfl rfl rfl (WL.nil (N.seq ?_))
    refine Fin.ret1 rfl (v := v12) rfl ?_
    have e : uses5 x = x.args := by unfold uses5; rw [if_neg (by omega), if_neg (by omega), if_pos (by omega)]
    rw [e]
    refine ⟨row_slv (hS.rows _ List.mem_cons_self) (by simpa using hch) (by simp) (fun b hb => ?_), hS.below⟩
    exact (hS.keys b (by simp only [keysOf, List.mem_append, List.mem_filterMap]; exact .inr ⟨_, List.mem_cons_self, hb⟩)).imp id (·.1)
   have hc8p : ¬ (x.op = 14) := by simpa using hc8
   refine W.skip (N.seq (W.seq (W.region (WL.assign rfl rfl rfl (WL.nil (N.seq ?_))))))
   refine Fin.ret1 rfl (v := .slice none 0 0) rfl ?_
   have e : uses5 x = [] := by unfold uses5; rw [if_neg (by omega), if_neg (by omega), if_neg (by omega)]
   rw [e]; exact ⟨slv_nil, hS.below⟩
  have hg4p : x.op = 13 := by simpa using hg4
  refine WL.skp rfl rfl (WL.skp rfl rfl (WL.skp rfl rfl (WL.pick (v := .bool true) rfl rfl rfl rfl rfl rfl (WL.nil (N.seq (W.condT rfl (W.seq (W.region (WL.fieldAddr fo_69_1 rfl rfl rfl ?_)))))))))
  refine WL.load1 (v := .int .i64 x.a) one_3 rfl rfl rfl (hS.cell 0 rfl rfl) ?_
  refine WL.buildSlice (ps := [(0, .int .i64 x.a)]) (cs := [.int .i64 x.a]) Tryd.underlying55 (tyZero_spec zer_3) rfl rfl rfl rfl (by kernel_rfl) hS ?_
  clear hS; intro w14 b13 hb_b13 hS
  refine WL.assign rfl rfl rfl (WL.nil (N.seq ?_))
  refine Fin.ret1 rfl (v := .slice (some ⟨b13, 0, none⟩) 1 1) rfl ?_
  have e : uses5 x = [x.a] := by unfold uses5; rw [if_neg (by omega), if_pos (by omega)]
  rw [e]
  exact ⟨slv_blk (hS.own _ List.mem_cons_self) rfl (chunks_ints (l := [x.a]) (by simp; exact hax)) ((hS.keys _ (by simp [keysOf])).imp id (·.1)) rfl (by simp [maxLen]), hS.below⟩
 have hg3p : 2 ≤ x.op := by simpa using hg3
 refine WL.fieldAddr fo_69_0 rfl rfl rfl (WL.load1 (v := .int .i64 x.op) one_3 rfl rfl rfl (hS.cell 0 rfl rfl) (WL.bin rfl rfl rfl rfl rfl (WL.pick (v := .bool (decide (x.op ≤ 11))) rfl rfl rfl rfl rfl rfl (WL.nil (N.seq ?_)))))
 refine W.cond rfl (fun hc15 => ?_) (fun hc15 => ?_)
 ·
  have hc15p : x.op ≤ 11 := by simpa using hc15
  refine W.seq (W.region (WL.fieldAddr fo_69_1 rfl rfl rfl (WL.load1 (v := .int .i64 x.a) one_3 rfl rfl rfl (hS.cell 0 rfl rfl) (WL.fieldAddr fo_69_2 rfl rfl rfl (WL.load1 (v := .int .i64 x.b) one_3 rfl rfl rfl (hS.cell 0 rfl rfl) ?_)))))
  refine WL.buildSlice (ps := [(0, .int .i64 x.a), (1, .int .i64 x.b)]) (cs := [.int .i64 x.a, .int .i64 x.b]) Tryd.underlying55 (tyZero_spec zer_3) rfl rfl rfl rfl (by kernel_rfl) hS ?_
  clear hS; intro w17 b16 hb_b16 hS
  refine WL.assign rfl rfl rfl (WL.nil (N.seq ?_))
  refine Fin.ret1 rfl (v := .slice (some ⟨b16, 0, none⟩) 2 2) rfl ?_
  have e : uses5 x = [x.a, x.b] := by unfold uses5; rw [if_pos (by omega)]
  rw [e]
  exact ⟨slv_blk (hS.own _ List.mem_cons_self) rfl (chunks_ints (l := [x.a, x.b]) (by simp; exact ⟨hax, hbx⟩)) ((hS.keys _ (by simp [keysOf])).imp id (·.1)) rfl (by simp [maxLen]), hS.below⟩
 have hc15p : ¬ (x.op ≤ 11) := by simpa using hc15
 refine W.skip (N.seq (W.seq (W.seq (W.region (WL.fieldAddr fo_69_0 rfl rfl rfl (WL.load1 (v := .int .i64 x.op) one_3 rfl rfl rfl (hS.cell 0 rfl rfl) (WL.bin rfl rfl rfl rfl rfl (WL.move rfl rfl rfl ?_))))))))
 cases hg18 : (decide (x.op = 13))
 ·
  have hg18p : ¬ (x.op = 13) := by simpa using hg18
  refine WL.fieldAddr fo_69_0 rfl rfl rfl (WL.load1 (v := .int .i64 x.op) one_3 rfl rfl rfl (hS.cell 0 rfl rfl) (WL.bin rfl rfl rfl rfl rfl (WL.pick (v := .bool (decide (x.op = 16))) rfl rfl rfl rfl rfl rfl (WL.nil (N.seq ?_)))))
  refine W.cond rfl (fun hc19 => ?_) (fun hc19 => ?_)
  ·
   have hc19p : x.op = 16 := by simpa using hc19
   refine W.seq (W.region (WL.fieldAddr fo_69_1 rfl rfl rfl (WL.load1 (v := .int .i64 x.a) one_3 rfl rfl rfl (hS.cell 0 rfl rfl) ?_)))
   refine WL.buildSlice (ps := [(0, .int .i64 x.a)]) (cs := [.int .i64 x.a]) Tryd.underlying55 (tyZero_spec zer_3) rfl rfl rfl rfl (by kernel_rfl) hS ?_
   clear hS; intro w21 b20 hb_b20 hS
   refine WL.assign rfl rfl rfl (WL.nil (N.seq ?_))
   refine Fin.ret1 rfl (v := .slice (some ⟨b20, 0, none⟩) 1 1) rfl ?_
   have e : uses5 x = [x.a] := by unfold uses5; rw [if_neg (by omega), if_pos (by omega)]
   rw [e]
   exact ⟨slv_blk (hS.own _ List.mem_cons_self) rfl (chunks_ints (l := [x.a]) (by simp; exact hax)) ((hS.keys _ (by simp [keysOf])).imp id (·.1)) rfl (by simp [maxLen]), hS.below⟩
  have hc19p : ¬ (x.op = 16) := by simpa using hc19
  refine W.skip (N.seq (W.seq (W.seq (W.region (WL.fieldAddr fo_69_0 rfl rfl rfl (WL.load1 (v := .int .i64 x.op) one_3 rfl rfl rfl (hS.cell 0 rfl rfl) (WL.bin rfl rfl rfl rfl rfl (WL.nil (N.seq ?_)))))))))
  refine W.cond rfl (fun hc22 => ?_) (fun hc22 => ?_)
  ·
   have hc22p : x.op = 14 := by simpa using hc22
   refine W.seq (W.region ?_)
   refine WL.buildSlice0 Tryd.underlying55 isz_3 rfl rfl hS ?_
   clear hS; intro w24 b23 hS
   refine WL.fieldAddr fo_69_5 rfl rfl rfl (WL.load1 (v := .slice adx x.args.length capx) one_55 rfl rfl rfl (hS.cell 0 rfl rfl) ?_)
   obtain ⟨news, hch, hnw, hsp⟩ := elems_news hsxd
   refine WL.appendRo (r := ⟨.slice (some ⟨b23, 0, none⟩) 0 0, 3, 1, 0, []⟩) (news := news) 8 Tryd.underlying55 (tyZero_spec zer_3) byt_3 rfl rfl rfl rfl rfl (by rw [hch.1]; rfl) (fun e => ⟨by have := hsxc e; omega, hsxc e⟩) ?_ hsp (chunks_all hch (by decide) fun _ _ q => one_ints q) rfl rfl hS (by simp only; unfold maxLen; omega) (by simp only; omega) ?_
   ·
    intro b off e
    by_cases hn0 : news = []
    ·
     subst hn0; intro j v hj; simp at hj
    exact hS.roCells ((hnw b off e).2 hn0) (hnw b off e).1
   clear hS; intro w25 v26 hS hnn
   refine WL.assign rfl rfl rfl (WL.nil (N.seq ?_))
   refine Fin.ret1 rfl (v := v26) rfl ?_
   have e : uses5 x = x.args := by unfold uses5; rw [if_neg (by omega), if_neg (by omega), if_pos (by omega)]
   rw [e]
   refine ⟨row_slv (hS.rows _ List.mem_cons_self) (by simpa using hch) (by simp) (fun b hb => ?_), hS.below⟩
   exact (hS.keys b (by simp only [keysOf, List.mem_append, List.mem_filterMap]; exact .inr ⟨_, List.mem_cons_self, hb⟩)).imp id (·.1)
  have hc22p : ¬ (x.op = 14) := by simpa using hc22
  refine W.skip (N.seq (W.seq (W.region (WL.assign rfl rfl rfl (WL.nil (N.seq ?_))))))
  refine Fin.ret1 rfl (v := .slice none 0 0) rfl ?_
  have e : uses5 x = [] := by unfold uses5; rw [if_neg (by omega), if_neg (by omega), if_neg (by omega)]
  rw [e]; exact ⟨slv_nil, hS.below⟩
 have hg18p : x.op = 13 := by simpa using hg18
 refine WL.skp rfl rfl (WL.skp rfl rfl (WL.skp rfl rfl (WL.pick (v := .bool true) rfl rfl rfl rfl rfl rfl (WL.nil (N.seq (W.condT rfl (W.seq (W.region (WL.fieldAddr fo_69_1 rfl rfl rfl ?_)))))))))
 refine WL.load1 (v := .int .i64 x.a) one_3 rfl rfl rfl (hS.cell 0 rfl rfl) ?_
 refine WL.buildSlice (ps := [(0, .int .i64 x.a)]) (cs := [.int .i64 x.a]) Tryd.underlying55 (tyZero_spec zer_3) rfl rfl rfl rfl (by kernel_rfl) hS ?_
 clear hS; intro w28 b27 hb_b27 hS
 refine WL.assign rfl rfl rfl (WL.nil (N.seq ?_))
 refine Fin.ret1 rfl (v := .slice (some ⟨b27, 0, none⟩) 1 1) rfl ?_
 have e : uses5 x = [x.a] := by unfold uses5; rw [if_neg (by omega), if_pos (by omega)]
 rw [e]
 exact ⟨slv_blk (hS.own _ List.mem_cons_self) rfl (chunks_ints (l := [x.a]) (by simp; exact hax)) ((hS.keys _ (by simp [keysOf])).imp id (·.1)) rfl (by simp [maxLen]), hS.below⟩

theorem below5_ret (xs : List Int) (vx : Value) (n : Int) {w : World} {ro : Nat → Prop} (hro : ∀ b, ro b → b < w.heap.size) (hx : IntsV ro w vx xs) : Ret Tryd.prog 59 #[vx, .int .i64 n] w fun v w' => v = .bool (below5 xs n) ∧ Below w.heap.size w w' := by
 obtain ⟨ad, cap, rfl, haa, hab, hac, had⟩ := id hx
 have ham : xs.length ≤ 9223372036854775807 := by have h1 := haa; have h2 := hab; unfold maxLen at h2; omega
 refine Ret.enter (P := Tryd.prog) (n := 25) (args := [.slice ad xs.length cap, .int .i64 n]) (σ := [(0, .slice ad xs.length cap), (1, .int .i64 n)]) Tryd.func59 rfl rfl rfl rfl ?_
 have hS := St.start (ro := ro) hro
 refine W.seq (W.region (WL.assign rfl rfl rfl (WL.nil (N.seq (W.seq (W.seq (W.region (WL.assign rfl rfl rfl (WL.nil ?_)))))))))
 refine N.seq (W.block ?_)
 refine W.loop (α := Nat) (fun (k : Nat) => [(0, .slice ad xs.length cap), (1, .int .i64 n), (5, .int .i64 (k : Int))]) (fun (k : Nat) u => St w w u ro [] [] ∧ k ≤ xs.length ∧ below5 (xs.take k) n = true) (fun (k : Nat) => xs.length - k) 0 ⟨rfl, rfl, rfl, trivial⟩ ⟨hS, Nat.zero_le _, rfl⟩ ?_
 clear hS
 rintro k w1 ⟨hS, hk, htk⟩
 refine W.seq (W.seq (W.region (WL.move rfl rfl rfl (WL.move rfl rfl rfl (WL.lenSlice Tryd.underlying55 rfl rfl rfl (WL.bin rfl rfl rfl rfl rfl (WL.nil (N.seq ?_))))))))
 refine W.cond rfl (fun hc2 => ?_) (fun hc2 => ?_)
 ·
  have hc2p : (k : Int) < (xs.length : Int) := by simpa using hc2
  refine W.skip (N.seq (W.seq (W.block (W.seq (W.region (WL.move rfl rfl rfl (WL.move rfl rfl rfl ?_)))))))
  have hj3 : k < xs.length := by omega
  obtain ⟨x3, hx3, b3, o3, cs3, hE3, hr3, _, hc3, hQ3⟩ := opn had hj3
  obtain ⟨rfl, hi3⟩ := hQ3
  refine WL.indexAddrE (j := k) Tryd.underlying55 isz_3 rfl rfl rfl rfl hj3 hE3 (WL.load1 (v := .int .i64 x3) one_3 rfl rfl rfl (hS.roCells hr3 hc3 0 _ rfl) (WL.bin rfl rfl rfl rfl rfl (WL.move rfl rfl rfl ?_)))
  cases hg4 : (decide (x3 < 0))
  ·
   have hg4p : ¬ (x3 < 0) := by simpa using hg4
   refine WL.move rfl rfl rfl (WL.move rfl rfl rfl (WL.indexAddrE (j := k) Tryd.underlying55 isz_3 rfl rfl rfl rfl hj3 hE3 (WL.load1 (v := .int .i64 x3) one_3 rfl rfl rfl (hS.roCells hr3 hc3 0 _ rfl) (WL.move rfl rfl rfl (WL.bin rfl rfl rfl rfl rfl (WL.pick (v := .bool (decide (n ≤ x3))) rfl rfl rfl rfl rfl rfl (WL.nil (N.seq ?_))))))))
   refine W.cond rfl (fun hc5 => ?_) (fun hc5 => ?_)
   ·
    have hc5p : n ≤ x3 := by simpa using hc5
    refine W.seq (W.region (WL.assign rfl rfl rfl (WL.nil (N.seq ?_))))
    refine Fin.ret1 rfl (v := .bool false) rfl ?_
    have e : below5 xs n = false := by
      unfold below5; rw [List.all_eq_false]; exact ⟨x3, List.mem_of_getElem? hx3, by simp only [Bool.and_eq_true, decide_eq_true_eq]; omega⟩
    exact ⟨by rw [e], hS.below⟩
   have hc5p : ¬ (n ≤ x3) := by simpa using hc5
   refine W.skip (N.blk (N.seq (W.region (WL.move rfl rfl rfl ?_))))
   refine WL.add (c := (k : Int) + 1) rfl rfl rfl rfl (rfl) (by omega) ?_
   refine WL.assign rfl rfl rfl (WL.nil ?_)
   have htk2 : below5 (xs.take (k + 1)) n = true := by
    rw [take_next hx3]; unfold below5 at htk ⊢; rw [List.all_append, htk]; simp only [List.all_cons, List.all_nil, Bool.and_true, Bool.true_and, Bool.and_eq_true, decide_eq_true_eq]; omega
   exact N.loop (k + 1) ⟨rfl, rfl, rfl, trivial⟩ ⟨hS, by omega, htk2⟩ (by first | omega | (simp only; omega))
  have hg4p : x3 < 0 := by simpa using hg4
  refine WL.skp rfl rfl (WL.skp rfl rfl (WL.skp rfl rfl (WL.skp rfl rfl (WL.skp rfl rfl (WL.skp rfl rfl (WL.pick (v := .bool true) rfl rfl rfl rfl rfl rfl (WL.nil (N.seq (W.condT rfl ?_)))))))))
  refine W.seq (W.region (WL.assign rfl rfl rfl (WL.nil (N.seq ?_))))
  refine Fin.ret1 rfl (v := .bool false) rfl ?_
  have e : below5 xs n = false := by
    unfold below5; rw [List.all_eq_false]; exact ⟨x3, List.mem_of_getElem? hx3, by simp only [Bool.and_eq_true, decide_eq_true_eq]; omega⟩
  exact ⟨by rw [e], hS.below⟩
 have hc2p : ¬ ((k : Int) < (xs.length : Int)) := by simpa using hc2
 refine W.exit (X.seq (X.loop (X.blk (N.seq (W.seq (W.region (WL.assign rfl rfl rfl (WL.nil (N.seq ?_)))))))))
 refine Fin.ret1 rfl (v := .bool true) rfl ?_
 have e : k = xs.length := by omega
 rw [e, List.take_length] at htk
 exact ⟨by rw [htk], hS.below⟩

end Go.Proofs.YtcmmhfknkldmcaaDoor
