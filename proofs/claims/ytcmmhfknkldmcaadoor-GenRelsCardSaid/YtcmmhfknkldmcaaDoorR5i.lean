/-
  Contracts of what is right (marlineref05). No condition beyond those that each theorem states.
-/
import Derived.Test.YtcmmhfknkldmcaaDoorA11
namespace Go.Proofs.YtcmmhfknkldmcaaDoor
open Go.RowKit
theorem byt_3 : (Tryd.prog.info? 3).map (·.bytes) = some 8 := by kernel_rfl
theorem fo_69_0 : fOff Tryd.prog 69 0 0 = true := by kernel_rfl
theorem fo_69_1 : fOff Tryd.prog 69 1 1 = true := by kernel_rfl
theorem fo_69_2 : fOff Tryd.prog 69 2 2 = true := by kernel_rfl
theorem fo_69_5 : fOff Tryd.prog 69 5 5 = true := by kernel_rfl
theorem isz_3 : (Tryd.prog.info? 3).map (·.size) = some 1 := by kernel_rfl
theorem one_3 : tyOne Tryd.prog 3 = true := by kernel_rfl
theorem one_55 : tyOne Tryd.prog 55 = true := by kernel_rfl
theorem zer_3 : tyZero Tryd.prog 3 = some [.int .i64 0] := by kernel_rfl
def name5 (s : ByteArray) : Bool := decide (1 ≤ s.size) && decide (s.size ≤ 16)
def named5 (x : DInst) : Bool := decide (x.op = 12) || decide (x.op = 13) || decide (x.op = 14)
def uses5 (x : DInst) : List Int := if 2 ≤ x.op ∧ x.op ≤ 11 then [x.a, x.b] else if x.op = 13 ∨ x.op = 16 then [x.a] else if x.op = 14 then x.args else []
def below5 (l : List Int) (n : Int) : Bool := l.all fun v => decide (0 ≤ v) && decide (v < n)

theorem name5_ret (s : ByteArray) (hs : s.size ≤ maxLen) {w : World} {ro : Nat → Prop} (hro : ∀ b, ro b → b < w.heap.size) : Ret Tryd.prog 21 #[.string s] w fun v w' => v = .bool (name5 s) ∧ Below w.heap.size w w' := by
 refine Ret.enter (P := Tryd.prog) (n := 11) (args := [.string s]) (σ := [(0, .string s)]) Tryd.func21 rfl rfl rfl rfl ?_
 have hS := St.start (ro := ro) hro
 refine W.seq ?_
 refine W.region ?_
 refine WL.assign rfl rfl rfl ?_
 refine WL.nil ?_
 refine N.seq ?_
 refine W.seq ?_
 refine W.region ?_
 refine WL.move rfl rfl rfl ?_
 refine WL.lenStr Tryd.underlying9 rfl rfl rfl ?_
 refine WL.bin rfl rfl rfl rfl rfl ?_
 refine WL.move rfl rfl rfl ?_
 cases hg1 : (decide (1 ≤ (s.size : Int)))
 ·
  have hg1p : ¬ (1 ≤ (s.size : Int)) := by simpa using hg1
  refine WL.skp rfl rfl ?_
  refine WL.skp rfl rfl ?_
  refine WL.skp rfl rfl ?_
  refine WL.pick (v := .bool false) rfl rfl rfl rfl rfl rfl ?_
  refine WL.assign rfl rfl rfl ?_
  refine WL.nil ?_
  refine N.seq ?_
  refine Fin.ret1 rfl (v := .bool false) rfl ?_
  have hbz := hS.below
  clear hS
  refine ⟨?_, hbz⟩
  congr 1
  rw [Bool.eq_iff_iff]
  simp only [name5, Bool.and_eq_true, Bool.or_eq_true, decide_eq_true_eq, Bool.not_eq_true', decide_eq_false_iff_not, Bool.false_eq_true, iff_true, true_iff, false_iff, iff_false]
  try simp only [Bool.true_eq_false, Bool.false_eq_true, iff_true, true_iff, false_iff, iff_false, true_and, and_true, or_true, true_or, false_and, and_false, or_false, false_or]
  omega
 have hg1p : 1 ≤ (s.size : Int) := by simpa using hg1
 refine WL.move rfl rfl rfl ?_
 refine WL.lenStr Tryd.underlying9 rfl rfl rfl ?_
 refine WL.bin rfl rfl rfl rfl rfl ?_
 refine WL.pick (v := .bool (decide ((s.size : Int) ≤ 16))) rfl rfl rfl rfl rfl rfl ?_
 refine WL.assign rfl rfl rfl ?_
 refine WL.nil ?_
 refine N.seq ?_
 refine Fin.ret1 rfl (v := .bool (decide ((s.size : Int) ≤ 16))) rfl ?_
 have hbz := hS.below
 clear hS
 refine ⟨?_, hbz⟩
 congr 1
 rw [Bool.eq_iff_iff]
 simp only [name5, Bool.and_eq_true, Bool.or_eq_true, decide_eq_true_eq, Bool.not_eq_true', decide_eq_false_iff_not, Bool.false_eq_true, iff_true, true_iff, false_iff, iff_false]
 try simp only [Bool.true_eq_false, Bool.false_eq_true, iff_true, true_iff, false_iff, iff_false, true_and, and_true, or_true, true_or, false_and, and_false, or_false, false_or]
 omega

theorem named5_ret (x : DInst) (cx : List Value) {w : World} {ro : Nat → Prop} (hro : ∀ b, ro b → b < w.heap.size) (hx : InstC ro w cx x) : Ret Tryd.prog 31 #[.agg cx.toArray] w fun v w' => v = .bool (named5 x) ∧ Below w.heap.size w w' := by
 have hQx := hx
 obtain ⟨sx, rfl, hsx, hox, hax, hbx, hkx, hnx⟩ := id hx
 obtain ⟨adx, capx, rfl, hsxa, hsxb, hsxc, hsxd⟩ := id hsx
 have hsxm : x.args.length ≤ 9223372036854775807 := by have h1 := hsxa; have h2 := hsxb; unfold maxLen at h2; omega
 refine Ret.enter (P := Tryd.prog) (n := 16) (args := [.agg #[.int .i64 x.op, .int .i64 x.a, .int .i64 x.b, .int .u64 x.k, .string x.name, .slice adx x.args.length capx]]) (σ := [(0, .agg #[.int .i64 x.op, .int .i64 x.a, .int .i64 x.b, .int .u64 x.k, .string x.name, .slice adx x.args.length capx])]) Tryd.func31 rfl rfl rfl rfl ?_
 have hS := St.start (ro := ro) hro
 refine W.seq ?_
 refine W.region ?_
 refine WL.box (v := .agg #[.int .i64 x.op, .int .i64 x.a, .int .i64 x.b, .int .u64 x.k, .string x.name, .slice adx x.args.length capx]) (cs := [.int .i64 x.op, .int .i64 x.a, .int .i64 x.b, .int .u64 x.k, .string x.name, .slice adx x.args.length capx]) rfl rfl rfl rfl hS ?_
 clear hS; intro w2 b1 hb_b1 hS
 refine WL.assign rfl rfl rfl ?_
 refine WL.nil ?_
 refine N.seq ?_
 refine W.seq ?_
 refine W.region ?_
 refine WL.fieldAddr fo_69_0 rfl rfl rfl ?_
 refine WL.load1 (v := .int .i64 x.op) one_3 rfl rfl rfl (hS.cell 0 rfl rfl) ?_
 refine WL.bin rfl rfl rfl rfl rfl ?_
 refine WL.move rfl rfl rfl ?_
 cases hg3 : (decide (x.op = 12))
 ·
  have hg3p : ¬ (x.op = 12) := by simpa using hg3
  refine WL.fieldAddr fo_69_0 rfl rfl rfl ?_
  refine WL.load1 (v := .int .i64 x.op) one_3 rfl rfl rfl (hS.cell 0 rfl rfl) ?_
  refine WL.bin rfl rfl rfl rfl rfl ?_
  refine WL.pick (v := .bool (decide (x.op = 13))) rfl rfl rfl rfl rfl rfl ?_
  refine WL.move rfl rfl rfl ?_
  cases hg4 : (decide (x.op = 13))
  ·
   have hg4p : ¬ (x.op = 13) := by simpa using hg4
   refine WL.fieldAddr fo_69_0 rfl rfl rfl ?_
   refine WL.load1 (v := .int .i64 x.op) one_3 rfl rfl rfl (hS.cell 0 rfl rfl) ?_
   refine WL.bin rfl rfl rfl rfl rfl ?_
   refine WL.pick (v := .bool (decide (x.op = 14))) rfl rfl rfl rfl rfl rfl ?_
   refine WL.assign rfl rfl rfl ?_
   refine WL.nil ?_
   refine N.seq ?_
   refine Fin.ret1 rfl (v := .bool (decide (x.op = 14))) rfl ?_
   have hbz := hS.below
   clear hS
   refine ⟨?_, hbz⟩
   congr 1
   rw [Bool.eq_iff_iff]
   simp only [named5, Bool.and_eq_true, Bool.or_eq_true, decide_eq_true_eq, Bool.not_eq_true', decide_eq_false_iff_not, Bool.false_eq_true, iff_true, true_iff, false_iff, iff_false]
   try simp only [Bool.true_eq_false, Bool.false_eq_true, iff_true, true_iff, false_iff, iff_false, true_and, and_true, or_true, true_or, false_and, and_false, or_false, false_or]
   omega
  have hg4p : x.op = 13 := by simpa using hg4
  refine WL.skp rfl rfl ?_
  refine WL.skp rfl rfl ?_
  refine WL.skp rfl rfl ?_
  refine WL.pick (v := .bool true) rfl rfl rfl rfl rfl rfl ?_
  refine WL.assign rfl rfl rfl ?_
  refine WL.nil ?_
  refine N.seq ?_
  refine Fin.ret1 rfl (v := .bool true) rfl ?_
  have hbz := hS.below
  clear hS
  refine ⟨?_, hbz⟩
  congr 1
  rw [Bool.eq_iff_iff]
  simp only [named5, Bool.and_eq_true, Bool.or_eq_true, decide_eq_true_eq, Bool.not_eq_true', decide_eq_false_iff_not, Bool.false_eq_true, iff_true, true_iff, false_iff, iff_false]
  try simp only [Bool.true_eq_false, Bool.false_eq_true, iff_true, true_iff, false_iff, iff_false, true_and, and_true, or_true, true_or, false_and, and_false, or_false, false_or]
  omega
 have hg3p : x.op = 12 := by simpa using hg3
 refine WL.skp rfl rfl ?_
 refine WL.skp rfl rfl ?_
 refine WL.skp rfl rfl ?_
 refine WL.pick (v := .bool true) rfl rfl rfl rfl rfl rfl ?_
 refine WL.move rfl rfl rfl ?_
 refine WL.skp rfl rfl ?_
 refine WL.skp rfl rfl ?_
 refine WL.skp rfl rfl ?_
 refine WL.pick (v := .bool true) rfl rfl rfl rfl rfl rfl ?_
 refine WL.assign rfl rfl rfl ?_
 refine WL.nil ?_
 refine N.seq ?_
 refine Fin.ret1 rfl (v := .bool true) rfl ?_
 have hbz := hS.below
 clear hS
 refine ⟨?_, hbz⟩
 congr 1
 rw [Bool.eq_iff_iff]
 simp only [named5, Bool.and_eq_true, Bool.or_eq_true, decide_eq_true_eq, Bool.not_eq_true', decide_eq_false_iff_not, Bool.false_eq_true, iff_true, true_iff, false_iff, iff_false]
 try simp only [Bool.true_eq_false, Bool.false_eq_true, iff_true, true_iff, false_iff, iff_false, true_and, and_true, or_true, true_or, false_and, and_false, or_false, false_or]
 omega

theorem uses5_ret (x : DInst) (cx : List Value) {w : World} {ro : Nat → Prop} (hro : ∀ b, ro b → b < w.heap.size) (hx : InstC ro w cx x) (hl : x.args.length ≤ 17592186044415) : Ret Tryd.prog 60 #[.agg cx.toArray] w fun v w' => SlV (fun b => w.heap.size ≤ b ∧ b < w'.heap.size) w' 1 IntC v (uses5 x) ∧ Below w.heap.size w w' := by
 have hQx := hx
 obtain ⟨sx, rfl, hsx, hox, hax, hbx, hkx, hnx⟩ := id hx
 obtain ⟨adx, capx, rfl, hsxa, hsxb, hsxc, hsxd⟩ := id hsx
 have hsxm : x.args.length ≤ 9223372036854775807 := by have h1 := hsxa; have h2 := hsxb; unfold maxLen at h2; omega
 refine Ret.enter (P := Tryd.prog) (n := 34) (args := [.agg #[.int .i64 x.op, .int .i64 x.a, .int .i64 x.b, .int .u64 x.k, .string x.name, .slice adx x.args.length capx]]) (σ := [(0, .agg #[.int .i64 x.op, .int .i64 x.a, .int .i64 x.b, .int .u64 x.k, .string x.name, .slice adx x.args.length capx])]) Tryd.func60 rfl rfl rfl rfl ?_
 have hS := St.start (ro := ro) hro
 refine W.seq ?_
 refine W.region ?_
 refine WL.box (v := .agg #[.int .i64 x.op, .int .i64 x.a, .int .i64 x.b, .int .u64 x.k, .string x.name, .slice adx x.args.length capx]) (cs := [.int .i64 x.op, .int .i64 x.a, .int .i64 x.b, .int .u64 x.k, .string x.name, .slice adx x.args.length capx]) rfl rfl rfl rfl hS ?_
 clear hS; intro w2 b1 hb_b1 hS
 refine WL.assign rfl rfl rfl ?_
 refine WL.nil ?_
 refine N.seq ?_
 refine W.seq ?_
 refine W.seq ?_
 refine W.region ?_
 refine WL.fieldAddr fo_69_0 rfl rfl rfl ?_
 refine WL.load1 (v := .int .i64 x.op) one_3 rfl rfl rfl (hS.cell 0 rfl rfl) ?_
 refine WL.bin rfl rfl rfl rfl rfl ?_
 refine WL.move rfl rfl rfl ?_
 cases hg3 : (decide (2 ≤ x.op))
 ·
  have hg3p : ¬ (2 ≤ x.op) := by simpa using hg3
  refine WL.skp rfl rfl ?_
  refine WL.skp rfl rfl ?_
  refine WL.skp rfl rfl ?_
  refine WL.pick (v := .bool false) rfl rfl rfl rfl rfl rfl ?_
  refine WL.nil ?_
  refine N.seq ?_
  refine W.condF rfl ?_
  refine W.skip ?_
  refine N.seq ?_
  refine W.seq ?_
  refine W.seq ?_
  refine W.region ?_
  refine WL.fieldAddr fo_69_0 rfl rfl rfl ?_
  refine WL.load1 (v := .int .i64 x.op) one_3 rfl rfl rfl (hS.cell 0 rfl rfl) ?_
  refine WL.bin rfl rfl rfl rfl rfl ?_
  refine WL.move rfl rfl rfl ?_
  cases hg4 : (decide (x.op = 13))
  ·
   have hg4p : ¬ (x.op = 13) := by simpa using hg4
   refine WL.fieldAddr fo_69_0 rfl rfl rfl ?_
   refine WL.load1 (v := .int .i64 x.op) one_3 rfl rfl rfl (hS.cell 0 rfl rfl) ?_
   refine WL.bin rfl rfl rfl rfl rfl ?_
   refine WL.pick (v := .bool (decide (x.op = 16))) rfl rfl rfl rfl rfl rfl ?_
   refine WL.nil ?_
   refine N.seq ?_
   refine W.cond rfl (fun hc5 => ?_) (fun hc5 => ?_)
   ·
    have hc5p : x.op = 16 := by simpa using hc5
    refine W.seq ?_
    refine W.region ?_
    refine WL.fieldAddr fo_69_1 rfl rfl rfl ?_
    refine WL.load1 (v := .int .i64 x.a) one_3 rfl rfl rfl (hS.cell 0 rfl rfl) ?_
    refine WL.buildSlice (ps := [(0, .int .i64 x.a)]) (cs := [.int .i64 x.a]) Tryd.underlying55 (tyZero_spec zer_3) rfl rfl rfl rfl (by kernel_rfl) hS ?_
    clear hS; intro w7 b6 hb_b6 hS
    refine WL.assign rfl rfl rfl ?_
    refine WL.nil ?_
    refine N.seq ?_
    refine Fin.ret1 rfl (v := .slice (some ⟨b6, 0, none⟩) 1 1) rfl ?_
    have e : uses5 x = [x.a] := by unfold uses5; rw [if_neg (by omega), if_pos (by omega)]
    rw [e]
    exact ⟨slv_blk (hS.own _ List.mem_cons_self) rfl (chunks_ints (l := [x.a]) (by simp; exact hax)) ((hS.keys _ (by simp [keysOf])).imp id (·.1)) rfl (by simp [maxLen]), hS.below⟩
   have hc5p : ¬ (x.op = 16) := by simpa using hc5
   refine W.skip ?_
   refine N.seq ?_
   refine W.seq ?_
   refine W.seq ?_
   refine W.region ?_
   refine WL.fieldAddr fo_69_0 rfl rfl rfl ?_
   refine WL.load1 (v := .int .i64 x.op) one_3 rfl rfl rfl (hS.cell 0 rfl rfl) ?_
   refine WL.bin rfl rfl rfl rfl rfl ?_
   refine WL.nil ?_
   refine N.seq ?_
   refine W.cond rfl (fun hc8 => ?_) (fun hc8 => ?_)
   ·
    have hc8p : x.op = 14 := by simpa using hc8
    refine W.seq ?_
    refine W.region ?_
    refine WL.buildSlice0 Tryd.underlying55 isz_3 rfl rfl hS ?_
    clear hS; intro w10 b9 hS
    refine WL.fieldAddr fo_69_5 rfl rfl rfl ?_
    refine WL.load1 (v := .slice adx x.args.length capx) one_55 rfl rfl rfl (hS.cell 0 rfl rfl) ?_
    obtain ⟨news, hch, hnw, hsp⟩ := elems_news hsxd
    refine WL.appendRo (r := ⟨.slice (some ⟨b9, 0, none⟩) 0 0, 3, 1, 0, []⟩) (news := news) 8 Tryd.underlying55 (tyZero_spec zer_3) byt_3 rfl rfl rfl rfl rfl (by rw [hch.1]; rfl) (fun e => ⟨by have := hsxc e; omega, hsxc e⟩) ?_ hsp (chunks_all hch (by decide) fun _ _ q => one_ints q) rfl rfl hS (by simp only; unfold maxLen; omega) (by simp only; omega) ?_
    ·
     intro b off e
     by_cases hn0 : news = []
     ·
      subst hn0; intro j v hj; simp at hj
     exact hS.roCells ((hnw b off e).2 hn0) (hnw b off e).1
    clear hS; intro w11 v12 hS hnn
    refine WL.assign rfl rfl rfl ?_
    refine WL.nil ?_
    refine N.seq ?_
    refine Fin.ret1 rfl (v := v12) rfl ?_
    have e : uses5 x = x.args := by unfold uses5; rw [if_neg (by omega), if_neg (by omega), if_pos (by omega)]
    rw [e]
    refine ⟨row_slv (hS.rows _ List.mem_cons_self) (by simpa using hch) (by simp) (fun b hb => ?_), hS.below⟩
    exact (hS.keys b (by simp only [keysOf, List.mem_append, List.mem_filterMap]; exact .inr ⟨_, List.mem_cons_self, hb⟩)).imp id (·.1)
   have hc8p : ¬ (x.op = 14) := by simpa using hc8
   refine W.skip ?_
   refine N.seq ?_
   refine W.seq ?_
   refine W.region ?_
   refine WL.assign rfl rfl rfl ?_
   refine WL.nil ?_
   refine N.seq ?_
   refine Fin.ret1 rfl (v := .slice none 0 0) rfl ?_
   have e : uses5 x = [] := by unfold uses5; rw [if_neg (by omega), if_neg (by omega), if_neg (by omega)]
   rw [e]; exact ⟨slv_nil, hS.below⟩
  have hg4p : x.op = 13 := by simpa using hg4
  refine WL.skp rfl rfl ?_
  refine WL.skp rfl rfl ?_
  refine WL.skp rfl rfl ?_
  refine WL.pick (v := .bool true) rfl rfl rfl rfl rfl rfl ?_
  refine WL.nil ?_
  refine N.seq ?_
  refine W.condT rfl ?_
  refine W.seq ?_
  refine W.region ?_
  refine WL.fieldAddr fo_69_1 rfl rfl rfl ?_
  refine WL.load1 (v := .int .i64 x.a) one_3 rfl rfl rfl (hS.cell 0 rfl rfl) ?_
  refine WL.buildSlice (ps := [(0, .int .i64 x.a)]) (cs := [.int .i64 x.a]) Tryd.underlying55 (tyZero_spec zer_3) rfl rfl rfl rfl (by kernel_rfl) hS ?_
  clear hS; intro w14 b13 hb_b13 hS
  refine WL.assign rfl rfl rfl ?_
  refine WL.nil ?_
  refine N.seq ?_
  refine Fin.ret1 rfl (v := .slice (some ⟨b13, 0, none⟩) 1 1) rfl ?_
  have e : uses5 x = [x.a] := by unfold uses5; rw [if_neg (by omega), if_pos (by omega)]
  rw [e]
  exact ⟨slv_blk (hS.own _ List.mem_cons_self) rfl (chunks_ints (l := [x.a]) (by simp; exact hax)) ((hS.keys _ (by simp [keysOf])).imp id (·.1)) rfl (by simp [maxLen]), hS.below⟩
 have hg3p : 2 ≤ x.op := by simpa using hg3
 refine WL.fieldAddr fo_69_0 rfl rfl rfl ?_
 refine WL.load1 (v := .int .i64 x.op) one_3 rfl rfl rfl (hS.cell 0 rfl rfl) ?_
 refine WL.bin rfl rfl rfl rfl rfl ?_
 refine WL.pick (v := .bool (decide (x.op ≤ 11))) rfl rfl rfl rfl rfl rfl ?_
 refine WL.nil ?_
 refine N.seq ?_
 refine W.cond rfl (fun hc15 => ?_) (fun hc15 => ?_)
 ·
  have hc15p : x.op ≤ 11 := by simpa using hc15
  refine W.seq ?_
  refine W.region ?_
  refine WL.fieldAddr fo_69_1 rfl rfl rfl ?_
  refine WL.load1 (v := .int .i64 x.a) one_3 rfl rfl rfl (hS.cell 0 rfl rfl) ?_
  refine WL.fieldAddr fo_69_2 rfl rfl rfl ?_
  refine WL.load1 (v := .int .i64 x.b) one_3 rfl rfl rfl (hS.cell 0 rfl rfl) ?_
  refine WL.buildSlice (ps := [(0, .int .i64 x.a), (1, .int .i64 x.b)]) (cs := [.int .i64 x.a, .int .i64 x.b]) Tryd.underlying55 (tyZero_spec zer_3) rfl rfl rfl rfl (by kernel_rfl) hS ?_
  clear hS; intro w17 b16 hb_b16 hS
  refine WL.assign rfl rfl rfl ?_
  refine WL.nil ?_
  refine N.seq ?_
  refine Fin.ret1 rfl (v := .slice (some ⟨b16, 0, none⟩) 2 2) rfl ?_
  have e : uses5 x = [x.a, x.b] := by unfold uses5; rw [if_pos (by omega)]
  rw [e]
  exact ⟨slv_blk (hS.own _ List.mem_cons_self) rfl (chunks_ints (l := [x.a, x.b]) (by simp; exact ⟨hax, hbx⟩)) ((hS.keys _ (by simp [keysOf])).imp id (·.1)) rfl (by simp [maxLen]), hS.below⟩
 have hc15p : ¬ (x.op ≤ 11) := by simpa using hc15
 refine W.skip ?_
 refine N.seq ?_
 refine W.seq ?_
 refine W.seq ?_
 refine W.region ?_
 refine WL.fieldAddr fo_69_0 rfl rfl rfl ?_
 refine WL.load1 (v := .int .i64 x.op) one_3 rfl rfl rfl (hS.cell 0 rfl rfl) ?_
 refine WL.bin rfl rfl rfl rfl rfl ?_
 refine WL.move rfl rfl rfl ?_
 cases hg18 : (decide (x.op = 13))
 ·
  have hg18p : ¬ (x.op = 13) := by simpa using hg18
  refine WL.fieldAddr fo_69_0 rfl rfl rfl ?_
  refine WL.load1 (v := .int .i64 x.op) one_3 rfl rfl rfl (hS.cell 0 rfl rfl) ?_
  refine WL.bin rfl rfl rfl rfl rfl ?_
  refine WL.pick (v := .bool (decide (x.op = 16))) rfl rfl rfl rfl rfl rfl ?_
  refine WL.nil ?_
  refine N.seq ?_
  refine W.cond rfl (fun hc19 => ?_) (fun hc19 => ?_)
  ·
   have hc19p : x.op = 16 := by simpa using hc19
   refine W.seq ?_
   refine W.region ?_
   refine WL.fieldAddr fo_69_1 rfl rfl rfl ?_
   refine WL.load1 (v := .int .i64 x.a) one_3 rfl rfl rfl (hS.cell 0 rfl rfl) ?_
   refine WL.buildSlice (ps := [(0, .int .i64 x.a)]) (cs := [.int .i64 x.a]) Tryd.underlying55 (tyZero_spec zer_3) rfl rfl rfl rfl (by kernel_rfl) hS ?_
   clear hS; intro w21 b20 hb_b20 hS
   refine WL.assign rfl rfl rfl ?_
   refine WL.nil ?_
   refine N.seq ?_
   refine Fin.ret1 rfl (v := .slice (some ⟨b20, 0, none⟩) 1 1) rfl ?_
   have e : uses5 x = [x.a] := by unfold uses5; rw [if_neg (by omega), if_pos (by omega)]
   rw [e]
   exact ⟨slv_blk (hS.own _ List.mem_cons_self) rfl (chunks_ints (l := [x.a]) (by simp; exact hax)) ((hS.keys _ (by simp [keysOf])).imp id (·.1)) rfl (by simp [maxLen]), hS.below⟩
  have hc19p : ¬ (x.op = 16) := by simpa using hc19
  refine W.skip ?_
  refine N.seq ?_
  refine W.seq ?_
  refine W.seq ?_
  refine W.region ?_
  refine WL.fieldAddr fo_69_0 rfl rfl rfl ?_
  refine WL.load1 (v := .int .i64 x.op) one_3 rfl rfl rfl (hS.cell 0 rfl rfl) ?_
  refine WL.bin rfl rfl rfl rfl rfl ?_
  refine WL.nil ?_
  refine N.seq ?_
  refine W.cond rfl (fun hc22 => ?_) (fun hc22 => ?_)
  ·
   have hc22p : x.op = 14 := by simpa using hc22
   refine W.seq ?_
   refine W.region ?_
   refine WL.buildSlice0 Tryd.underlying55 isz_3 rfl rfl hS ?_
   clear hS; intro w24 b23 hS
   refine WL.fieldAddr fo_69_5 rfl rfl rfl ?_
   refine WL.load1 (v := .slice adx x.args.length capx) one_55 rfl rfl rfl (hS.cell 0 rfl rfl) ?_
   obtain ⟨news, hch, hnw, hsp⟩ := elems_news hsxd
   refine WL.appendRo (r := ⟨.slice (some ⟨b23, 0, none⟩) 0 0, 3, 1, 0, []⟩) (news := news) 8 Tryd.underlying55 (tyZero_spec zer_3) byt_3 rfl rfl rfl rfl rfl (by rw [hch.1]; rfl) (fun e => ⟨by have := hsxc e; omega, hsxc e⟩) ?_ hsp (chunks_all hch (by decide) fun _ _ q => one_ints q) rfl rfl hS (by simp only; unfold maxLen; omega) (by simp only; omega) ?_
   ·
    intro b off e
    by_cases hn0 : news = []
    ·
     subst hn0; intro j v hj; simp at hj
    exact hS.roCells ((hnw b off e).2 hn0) (hnw b off e).1
   clear hS; intro w25 v26 hS hnn
   refine WL.assign rfl rfl rfl ?_
   refine WL.nil ?_
   refine N.seq ?_
   refine Fin.ret1 rfl (v := v26) rfl ?_
   have e : uses5 x = x.args := by unfold uses5; rw [if_neg (by omega), if_neg (by omega), if_pos (by omega)]
   rw [e]
   refine ⟨row_slv (hS.rows _ List.mem_cons_self) (by simpa using hch) (by simp) (fun b hb => ?_), hS.below⟩
   exact (hS.keys b (by simp only [keysOf, List.mem_append, List.mem_filterMap]; exact .inr ⟨_, List.mem_cons_self, hb⟩)).imp id (·.1)
  have hc22p : ¬ (x.op = 14) := by simpa using hc22
  refine W.skip ?_
  refine N.seq ?_
  refine W.seq ?_
  refine W.region ?_
  refine WL.assign rfl rfl rfl ?_
  refine WL.nil ?_
  refine N.seq ?_
  refine Fin.ret1 rfl (v := .slice none 0 0) rfl ?_
  have e : uses5 x = [] := by unfold uses5; rw [if_neg (by omega), if_neg (by omega), if_neg (by omega)]
  rw [e]; exact ⟨slv_nil, hS.below⟩
 have hg18p : x.op = 13 := by simpa using hg18
 refine WL.skp rfl rfl ?_
 refine WL.skp rfl rfl ?_
 refine WL.skp rfl rfl ?_
 refine WL.pick (v := .bool true) rfl rfl rfl rfl rfl rfl ?_
 refine WL.nil ?_
 refine N.seq ?_
 refine W.condT rfl ?_
 refine W.seq ?_
 refine W.region ?_
 refine WL.fieldAddr fo_69_1 rfl rfl rfl ?_
 refine WL.load1 (v := .int .i64 x.a) one_3 rfl rfl rfl (hS.cell 0 rfl rfl) ?_
 refine WL.buildSlice (ps := [(0, .int .i64 x.a)]) (cs := [.int .i64 x.a]) Tryd.underlying55 (tyZero_spec zer_3) rfl rfl rfl rfl (by kernel_rfl) hS ?_
 clear hS; intro w28 b27 hb_b27 hS
 refine WL.assign rfl rfl rfl ?_
 refine WL.nil ?_
 refine N.seq ?_
 refine Fin.ret1 rfl (v := .slice (some ⟨b27, 0, none⟩) 1 1) rfl ?_
 have e : uses5 x = [x.a] := by unfold uses5; rw [if_neg (by omega), if_pos (by omega)]
 rw [e]
 exact ⟨slv_blk (hS.own _ List.mem_cons_self) rfl (chunks_ints (l := [x.a]) (by simp; exact hax)) ((hS.keys _ (by simp [keysOf])).imp id (·.1)) rfl (by simp [maxLen]), hS.below⟩

theorem below5_ret (xs : List Int) (vx : Value) (n : Int) {w : World} {ro : Nat → Prop} (hro : ∀ b, ro b → b < w.heap.size) (hx : IntsV ro w vx xs) : Ret Tryd.prog 59 #[vx, .int .i64 n] w fun v w' => v = .bool (below5 xs n) ∧ Below w.heap.size w w' := by
 obtain ⟨ad, cap, rfl, haa, hab, hac, had⟩ := id hx
 have ham : xs.length ≤ 9223372036854775807 := by have h1 := haa; have h2 := hab; unfold maxLen at h2; omega
 refine Ret.enter (P := Tryd.prog) (n := 25) (args := [.slice ad xs.length cap, .int .i64 n]) (σ := [(0, .slice ad xs.length cap), (1, .int .i64 n)]) Tryd.func59 rfl rfl rfl rfl ?_
 have hS := St.start (ro := ro) hro
 refine W.seq ?_
 refine W.region ?_
 refine WL.assign rfl rfl rfl ?_
 refine WL.nil ?_
 refine N.seq ?_
 refine W.seq ?_
 refine W.seq ?_
 refine W.region ?_
 refine WL.assign rfl rfl rfl ?_
 refine WL.nil ?_
 refine N.seq ?_
 refine W.block ?_
 refine W.loop (α := Nat) (fun (k : Nat) => [(0, .slice ad xs.length cap), (1, .int .i64 n), (5, .int .i64 (k : Int))]) (fun (k : Nat) u => St w w u ro [] [] ∧ k ≤ xs.length ∧ below5 (xs.take k) n = true) (fun (k : Nat) => xs.length - k) 0 ⟨rfl, rfl, rfl, trivial⟩ ⟨hS, Nat.zero_le _, rfl⟩ ?_
 clear hS
 rintro k w1 ⟨hS, hk, htk⟩
 refine W.seq ?_
 refine W.seq ?_
 refine W.region ?_
 refine WL.move rfl rfl rfl ?_
 refine WL.move rfl rfl rfl ?_
 refine WL.lenSlice Tryd.underlying55 rfl rfl rfl ?_
 refine WL.bin rfl rfl rfl rfl rfl ?_
 refine WL.nil ?_
 refine N.seq ?_
 refine W.cond rfl (fun hc2 => ?_) (fun hc2 => ?_)
 ·
  have hc2p : (k : Int) < (xs.length : Int) := by simpa using hc2
  refine W.skip ?_
  refine N.seq ?_
  refine W.seq ?_
  refine W.block ?_
  refine W.seq ?_
  refine W.region ?_
  refine WL.move rfl rfl rfl ?_
  refine WL.move rfl rfl rfl ?_
  have hj3 : k < xs.length := by omega
  obtain ⟨x3, hx3⟩ : ∃ zz, xs[k]? = some zz := ⟨_, List.getElem?_eq_getElem hj3⟩
  obtain ⟨b3, o3, cs3, hE3, hr3, hl3, hc3, hQ3⟩ := had k _ hx3
  obtain ⟨rfl, hi3⟩ := hQ3
  refine WL.indexAddrE (j := k) Tryd.underlying55 isz_3 rfl rfl rfl rfl hj3 hE3 ?_
  refine WL.load1 (v := .int .i64 x3) one_3 rfl rfl rfl (hS.roCells hr3 hc3 0 _ rfl) ?_
  refine WL.bin rfl rfl rfl rfl rfl ?_
  refine WL.move rfl rfl rfl ?_
  cases hg4 : (decide (x3 < 0))
  ·
   have hg4p : ¬ (x3 < 0) := by simpa using hg4
   refine WL.move rfl rfl rfl ?_
   refine WL.move rfl rfl rfl ?_
   refine WL.indexAddrE (j := k) Tryd.underlying55 isz_3 rfl rfl rfl rfl hj3 hE3 ?_
   refine WL.load1 (v := .int .i64 x3) one_3 rfl rfl rfl (hS.roCells hr3 hc3 0 _ rfl) ?_
   refine WL.move rfl rfl rfl ?_
   refine WL.bin rfl rfl rfl rfl rfl ?_
   refine WL.pick (v := .bool (decide (n ≤ x3))) rfl rfl rfl rfl rfl rfl ?_
   refine WL.nil ?_
   refine N.seq ?_
   refine W.cond rfl (fun hc5 => ?_) (fun hc5 => ?_)
   ·
    have hc5p : n ≤ x3 := by simpa using hc5
    refine W.seq ?_
    refine W.region ?_
    refine WL.assign rfl rfl rfl ?_
    refine WL.nil ?_
    refine N.seq ?_
    refine Fin.ret1 rfl (v := .bool false) rfl ?_
    have e : below5 xs n = false := by
      unfold below5; rw [List.all_eq_false]; exact ⟨x3, List.mem_of_getElem? hx3, by simp only [Bool.and_eq_true, decide_eq_true_eq]; omega⟩
    exact ⟨by rw [e], hS.below⟩
   have hc5p : ¬ (n ≤ x3) := by simpa using hc5
   refine W.skip ?_
   refine N.blk ?_
   refine N.seq ?_
   refine W.region ?_
   refine WL.move rfl rfl rfl ?_
   refine WL.add (c := (k : Int) + 1) rfl rfl rfl rfl (rfl) (by omega) ?_
   refine WL.assign rfl rfl rfl ?_
   refine WL.nil ?_
   have htk2 : below5 (xs.take (k + 1)) n = true := by
    rw [take_next hx3]; unfold below5 at htk ⊢; rw [List.all_append, htk]; simp only [List.all_cons, List.all_nil, Bool.and_true, Bool.true_and, Bool.and_eq_true, decide_eq_true_eq]; omega
   exact N.loop (k + 1) ⟨rfl, rfl, rfl, trivial⟩ ⟨hS, by omega, htk2⟩ (by first | omega | (simp only; omega))
  have hg4p : x3 < 0 := by simpa using hg4
  refine WL.skp rfl rfl ?_
  refine WL.skp rfl rfl ?_
  refine WL.skp rfl rfl ?_
  refine WL.skp rfl rfl ?_
  refine WL.skp rfl rfl ?_
  refine WL.skp rfl rfl ?_
  refine WL.pick (v := .bool true) rfl rfl rfl rfl rfl rfl ?_
  refine WL.nil ?_
  refine N.seq ?_
  refine W.condT rfl ?_
  refine W.seq ?_
  refine W.region ?_
  refine WL.assign rfl rfl rfl ?_
  refine WL.nil ?_
  refine N.seq ?_
  refine Fin.ret1 rfl (v := .bool false) rfl ?_
  have e : below5 xs n = false := by
    unfold below5; rw [List.all_eq_false]; exact ⟨x3, List.mem_of_getElem? hx3, by simp only [Bool.and_eq_true, decide_eq_true_eq]; omega⟩
  exact ⟨by rw [e], hS.below⟩
 have hc2p : ¬ ((k : Int) < (xs.length : Int)) := by simpa using hc2
 refine W.exit ?_
 refine X.seq ?_
 refine X.loop ?_
 refine X.blk ?_
 refine N.seq ?_
 refine W.seq ?_
 refine W.region ?_
 refine WL.assign rfl rfl rfl ?_
 refine WL.nil ?_
 refine N.seq ?_
 refine Fin.ret1 rfl (v := .bool true) rfl ?_
 have e : k = xs.length := by omega
 rw [e, List.take_length] at htk
 exact ⟨by rw [htk], hS.below⟩

end Go.Proofs.YtcmmhfknkldmcaaDoor

namespace Go.Proofs.YtcmmhfknkldmcaaDoor
open Go.RowKit
theorem agg_69 : tyAgg Tryd.prog 69 6 = true := by kernel_rfl
theorem fo_24_3 : fOff Tryd.prog 24 3 3 = true := by kernel_rfl
theorem fo_59_0 : fOff Tryd.prog 59 0 0 = true := by kernel_rfl
theorem fo_69_3 : fOff Tryd.prog 69 3 3 = true := by kernel_rfl
theorem fo_69_4 : fOff Tryd.prog 69 4 4 = true := by kernel_rfl
theorem isz_59 : (Tryd.prog.info? 59).map (·.size) = some 8 := by kernel_rfl
theorem one_22 : tyOne Tryd.prog 22 = true := by kernel_rfl
theorem one_52 : tyOne Tryd.prog 52 = true := by kernel_rfl
theorem one_9 : tyOne Tryd.prog 9 = true := by kernel_rfl
def inst5 (x : DInst) (n : Int) : Bool :=
  if x.op < 1 ∨ 16 < x.op ∨ below5 (uses5 x) n = false ∨ 6 < x.args.length then false
  else if (¬ ((2 ≤ x.op ∧ x.op ≤ 11) ∨ x.op = 13 ∨ x.op = 16) ∧ x.a ≠ 0) ∨ (¬ (2 ≤ x.op ∧ x.op ≤ 11) ∧ x.b ≠ 0) ∨ (x.op ≠ 1 ∧ x.k ≠ 0) ∨ (x.op ≠ 14 ∧ 0 < x.args.length) then false
  else if named5 x = true then name5 x.name else decide (x.name = ⟨#[]⟩)

set_option maxHeartbeats 1000000 in
theorem inst5_ret (x : DInst) (cx : List Value) (n : Int) {w : World} {ro : Nat → Prop} (hro : ∀ b, ro b → b < w.heap.size) (hx : InstC ro w cx x) (hok : okInst x) : Ret Tryd.prog 41 #[.agg cx.toArray, .int .i64 n] w fun v w' => v = .bool (inst5 x n) ∧ Below w.heap.size w w' := by
 have hQx := hx
 obtain ⟨sx, rfl, hsx, hox, hax, hbx, hkx, hnx⟩ := id hx
 obtain ⟨adx, capx, rfl, hsxa, hsxb, hsxc, hsxd⟩ := id hsx
 have hsxm : x.args.length ≤ 9223372036854775807 := by have h1 := hsxa; have h2 := hsxb; unfold maxLen at h2; omega
 refine Ret.enter (P := Tryd.prog) (n := 103) (args := [.agg #[.int .i64 x.op, .int .i64 x.a, .int .i64 x.b, .int .u64 x.k, .string x.name, .slice adx x.args.length capx], .int .i64 n]) (σ := [(0, .agg #[.int .i64 x.op, .int .i64 x.a, .int .i64 x.b, .int .u64 x.k, .string x.name, .slice adx x.args.length capx]), (1, .int .i64 n)]) Tryd.func41 rfl rfl rfl rfl ?_
 have hS := St.start (ro := ro) hro
 refine W.seq ?_
 refine W.region ?_
 refine WL.box (v := .agg #[.int .i64 x.op, .int .i64 x.a, .int .i64 x.b, .int .u64 x.k, .string x.name, .slice adx x.args.length capx]) (cs := [.int .i64 x.op, .int .i64 x.a, .int .i64 x.b, .int .u64 x.k, .string x.name, .slice adx x.args.length capx]) rfl rfl rfl rfl hS ?_
 clear hS; intro w2 b1 hb_b1 hS
 refine WL.assign rfl rfl rfl ?_
 refine WL.nil ?_
 refine N.seq ?_
 refine W.seq ?_
 refine W.region ?_
 refine WL.loadN (cs := [.int .i64 x.op, .int .i64 x.a, .int .i64 x.b, .int .u64 x.k, .string x.name, .slice adx x.args.length capx]) agg_69 rfl rfl rfl rfl (hS.cells 0 (m := 6) rfl rfl) ?_
 refine WL.callF (vs := [.agg #[.int .i64 x.op, .int .i64 x.a, .int .i64 x.b, .int .u64 x.k, .string x.name, .slice adx x.args.length capx]]) Tryd.func60 (by kernel_rfl) rfl rfl rfl (uses5_ret x _ (ro := ro) (fun b hb => (hS.snap b hb).1) (hQx.keep hS.alike) (by unfold okInst reachBytes at hok; omega)) ?_
 rintro v w3 ⟨hus, hbl⟩
 replace hS := hS.grow hbl
 refine WL.move rfl rfl rfl ?_
 refine WL.callF (vs := [v, .int .i64 n]) Tryd.func59 (by kernel_rfl) rfl rfl rfl (below5_ret (uses5 x) _ n (ro := fun b => w2.heap.size ≤ b ∧ b < w3.heap.size) (fun _ h => h.2) hus) ?_
 rintro v w4 ⟨rfl, hbl⟩
 replace hS := hS.grow hbl
 obtain ⟨u5, hu5⟩ : ∃ u, u = below5 (uses5 x) n := ⟨_, rfl⟩
 rw [← hu5]
 refine WL.assign rfl rfl rfl ?_
 refine WL.nil ?_
 refine N.seq ?_
 refine W.seq ?_
 refine W.seq ?_
 refine W.region ?_
 refine WL.fieldAddr fo_69_0 rfl rfl rfl ?_
 refine WL.load1 (v := .int .i64 x.op) one_3 rfl rfl rfl (hS.cell 0 rfl rfl) ?_
 refine WL.bin rfl rfl rfl rfl rfl ?_
 refine WL.move rfl rfl rfl ?_
 cases hg5 : (decide (x.op < 1))
 ·
  have hg5p : ¬ (x.op < 1) := by simpa using hg5
  refine WL.fieldAddr fo_69_0 rfl rfl rfl ?_
  refine WL.load1 (v := .int .i64 x.op) one_3 rfl rfl rfl (hS.cell 0 rfl rfl) ?_
  refine WL.bin rfl rfl rfl rfl rfl ?_
  refine WL.pick (v := .bool (decide (16 < x.op))) rfl rfl rfl rfl rfl rfl ?_
  refine WL.move rfl rfl rfl ?_
  cases hg6 : (decide (16 < x.op))
  ·
   have hg6p : ¬ (16 < x.op) := by simpa using hg6
   refine WL.move rfl rfl rfl ?_
   refine WL.not rfl rfl rfl ?_
   refine WL.pick (v := .bool (!u5)) rfl rfl rfl rfl rfl rfl ?_
   refine WL.move rfl rfl rfl ?_
   cases hg7 : (!u5)
   ·
    refine WL.fieldAddr fo_69_5 rfl rfl rfl ?_
    refine WL.load1 (v := .slice adx x.args.length capx) one_55 rfl rfl rfl (hS.cell 0 rfl rfl) ?_
    refine WL.lenSlice Tryd.underlying55 rfl rfl rfl ?_
    refine WL.bin rfl rfl rfl rfl rfl ?_
    refine WL.pick (v := .bool (decide (6 < (x.args.length : Int)))) rfl rfl rfl rfl rfl rfl ?_
    refine WL.nil ?_
    refine N.seq ?_
    refine W.cond rfl (fun hc8 => ?_) (fun hc8 => ?_)
    ·
     have hc8p : 6 < (x.args.length : Int) := by simpa using hc8
     refine W.seq ?_
     refine W.region ?_
     refine WL.assign rfl rfl rfl ?_
     refine WL.nil ?_
     refine N.seq ?_
     refine Fin.ret1 rfl (v := .bool false) rfl ?_
     have hbz := hS.below
     clear hS
     refine ⟨?_, hbz⟩
     congr 1
     rw [inst5, if_pos (by clear hx hQx hsx hsxd hsxa hsxb hsxc; rw [← hu5]; first | omega | (simp_all; done) | (rintro (h | h | h | h) <;> first | omega | (simp_all; done)))]
    have hc8p : ¬ (6 < (x.args.length : Int)) := by simpa using hc8
    refine W.skip ?_
    refine N.seq ?_
    refine W.seq ?_
    refine W.region ?_
    refine WL.fieldAddr fo_69_0 rfl rfl rfl ?_
    refine WL.load1 (v := .int .i64 x.op) one_3 rfl rfl rfl (hS.cell 0 rfl rfl) ?_
    refine WL.bin rfl rfl rfl rfl rfl ?_
    refine WL.move rfl rfl rfl ?_
    cases hg9 : (decide (2 ≤ x.op))
    ·
     have hg9p : ¬ (2 ≤ x.op) := by simpa using hg9
     refine WL.skp rfl rfl ?_
     refine WL.skp rfl rfl ?_
     refine WL.skp rfl rfl ?_
     refine WL.pick (v := .bool false) rfl rfl rfl rfl rfl rfl ?_
     refine WL.move rfl rfl rfl ?_
     refine WL.fieldAddr fo_69_0 rfl rfl rfl ?_
     refine WL.load1 (v := .int .i64 x.op) one_3 rfl rfl rfl (hS.cell 0 rfl rfl) ?_
     refine WL.bin rfl rfl rfl rfl rfl ?_
     refine WL.pick (v := .bool (decide (x.op = 13))) rfl rfl rfl rfl rfl rfl ?_
     refine WL.move rfl rfl rfl ?_
     cases hg10 : (decide (x.op = 13))
     ·
      have hg10p : ¬ (x.op = 13) := by simpa using hg10
      refine WL.fieldAddr fo_69_0 rfl rfl rfl ?_
      refine WL.load1 (v := .int .i64 x.op) one_3 rfl rfl rfl (hS.cell 0 rfl rfl) ?_
      refine WL.bin rfl rfl rfl rfl rfl ?_
      refine WL.pick (v := .bool (decide (x.op = 16))) rfl rfl rfl rfl rfl rfl ?_
      refine WL.assign rfl rfl rfl ?_
      refine WL.nil ?_
      refine N.seq ?_
      refine W.seq ?_
      refine W.region ?_
      refine WL.fieldAddr fo_69_0 rfl rfl rfl ?_
      refine WL.load1 (v := .int .i64 x.op) one_3 rfl rfl rfl (hS.cell 0 rfl rfl) ?_
      refine WL.bin rfl rfl rfl rfl rfl ?_
      refine WL.set 51 (v' := .bool false) rfl (by rw [hg9]) ?_
      refine WL.move rfl rfl rfl ?_
      refine WL.skp rfl rfl ?_
      refine WL.skp rfl rfl ?_
      refine WL.skp rfl rfl ?_
      refine WL.pick (v := .bool false) rfl rfl rfl rfl rfl rfl ?_
      refine WL.assign rfl rfl rfl ?_
      refine WL.nil ?_
      refine N.seq ?_
      refine W.seq ?_
      refine W.seq ?_
      refine W.region ?_
      refine WL.move rfl rfl rfl ?_
      refine WL.not rfl rfl rfl ?_
      refine WL.move rfl rfl rfl ?_
      cases hg11 : (!(decide (x.op = 16)))
      ·
       have hg11p : x.op = 16 := by simpa using hg11
       refine WL.skp rfl rfl ?_
       refine WL.skp rfl rfl ?_
       refine WL.skp rfl rfl ?_
       refine WL.pick (v := .bool false) rfl rfl rfl rfl rfl rfl ?_
       refine WL.move rfl rfl rfl ?_
       refine WL.move rfl rfl rfl ?_
       refine WL.not rfl rfl rfl ?_
       refine WL.set 66 (v' := .bool true) rfl rfl ?_
       refine WL.move rfl rfl rfl ?_
       refine WL.fieldAddr fo_69_2 rfl rfl rfl ?_
       refine WL.load1 (v := .int .i64 x.b) one_3 rfl rfl rfl (hS.cell 0 rfl rfl) ?_
       refine WL.bin rfl rfl rfl rfl rfl ?_
       refine WL.pick (v := .bool (!decide (x.b = 0))) rfl rfl rfl rfl rfl rfl ?_
       refine WL.pick (v := .bool (!decide (x.b = 0))) rfl rfl rfl rfl rfl rfl ?_
       refine WL.move rfl rfl rfl ?_
       cases hg12 : (!decide (x.b = 0))
       ·
        have hg12p : x.b = 0 := by simpa using hg12
        refine WL.fieldAddr fo_69_0 rfl rfl rfl ?_
        refine WL.load1 (v := .int .i64 x.op) one_3 rfl rfl rfl (hS.cell 0 rfl rfl) ?_
        refine WL.bin rfl rfl rfl rfl rfl ?_
        refine WL.move rfl rfl rfl ?_
        cases hg13 : (!decide (x.op = 1))
        ·
         have hg13p : x.op = 1 := by simpa using hg13
         refine WL.skp rfl rfl ?_
         refine WL.skp rfl rfl ?_
         refine WL.skp rfl rfl ?_
         refine WL.pick (v := .bool false) rfl rfl rfl rfl rfl rfl ?_
         refine WL.pick (v := .bool false) rfl rfl rfl rfl rfl rfl ?_
         refine WL.move rfl rfl rfl ?_
         refine WL.fieldAddr fo_69_0 rfl rfl rfl ?_
         refine WL.load1 (v := .int .i64 x.op) one_3 rfl rfl rfl (hS.cell 0 rfl rfl) ?_
         refine WL.bin rfl rfl rfl rfl rfl ?_
         refine WL.move rfl rfl rfl ?_
         cases hg14 : (!decide (x.op = 14))
         ·
          have hg14p : x.op = 14 := by simpa using hg14
          refine WL.skp rfl rfl ?_
          refine WL.skp rfl rfl ?_
          refine WL.skp rfl rfl ?_
          refine WL.skp rfl rfl ?_
          refine WL.pick (v := .bool false) rfl rfl rfl rfl rfl rfl ?_
          refine WL.pick (v := .bool false) rfl rfl rfl rfl rfl rfl ?_
          refine WL.nil ?_
          refine N.seq ?_
          refine W.condF rfl ?_
          refine W.skip ?_
          refine N.seq ?_
          refine W.seq ?_
          refine W.region ?_
          refine WL.loadN (cs := [.int .i64 x.op, .int .i64 x.a, .int .i64 x.b, .int .u64 x.k, .string x.name, .slice adx x.args.length capx]) agg_69 rfl rfl rfl rfl (hS.cells 0 (m := 6) rfl rfl) ?_
          refine WL.callF (vs := [.agg #[.int .i64 x.op, .int .i64 x.a, .int .i64 x.b, .int .u64 x.k, .string x.name, .slice adx x.args.length capx]]) Tryd.func31 (by kernel_rfl) rfl rfl rfl (named5_ret x _ (ro := ro) (fun b hb => (hS.snap b hb).1) (hQx.keep hS.alike)) ?_
          rintro v w15 ⟨rfl, hbl⟩
          replace hS := hS.grow hbl
          refine WL.assign rfl rfl rfl ?_
          refine WL.nil ?_
          refine N.seq ?_
          refine W.seq ?_
          refine W.seq ?_
          refine W.region ?_
          refine WL.move rfl rfl rfl ?_
          refine WL.nil ?_
          refine N.seq ?_
          refine W.cond rfl (fun hc16 => ?_) (fun hc16 => ?_)
          ·
           refine W.seq ?_
           refine W.region ?_
           refine WL.fieldAddr fo_69_4 rfl rfl rfl ?_
           refine WL.load1 (v := .string x.name) one_9 rfl rfl rfl (hS.cell 0 rfl rfl) ?_
           refine WL.callF (vs := [.string x.name]) Tryd.func21 (by kernel_rfl) rfl rfl rfl (name5_ret x.name hnx (ro := ro) (fun b hb => (hS.snap b hb).1)) ?_
           rintro v w17 ⟨rfl, hbl⟩
           replace hS := hS.grow hbl
           refine WL.assign rfl rfl rfl ?_
           refine WL.nil ?_
           refine N.seq ?_
           refine Fin.ret1 rfl (v := .bool (name5 x.name)) rfl ?_
           have hbz := hS.below
           clear hS
           refine ⟨?_, hbz⟩
           congr 1
           rw [inst5, if_neg (by clear hx hQx hsx hsxd hsxa hsxb hsxc; rw [← hu5]; first | omega | (simp_all; done) | (rintro (h | h | h | h) <;> first | omega | (simp_all; done))), if_neg (by clear hx hQx hsx hsxd hsxa hsxb hsxc hu5; first | omega | (simp_all; done) | (simp_all; omega)), if_pos (by simp_all)]
          refine W.skip ?_
          refine N.seq ?_
          refine W.seq ?_
          refine W.region ?_
          refine WL.fieldAddr fo_69_4 rfl rfl rfl ?_
          refine WL.load1 (v := .string x.name) one_9 rfl rfl rfl (hS.cell 0 rfl rfl) ?_
          refine WL.eqStr rfl rfl rfl rfl ?_
          refine WL.assign rfl rfl rfl ?_
          refine WL.nil ?_
          refine N.seq ?_
          refine Fin.ret1 rfl (v := .bool (decide (x.name = ⟨#[]⟩))) rfl ?_
          have hbz := hS.below
          clear hS
          refine ⟨?_, hbz⟩
          congr 1
          rw [inst5, if_neg (by clear hx hQx hsx hsxd hsxa hsxb hsxc; rw [← hu5]; first | omega | (simp_all; done) | (rintro (h | h | h | h) <;> first | omega | (simp_all; done))), if_neg (by clear hx hQx hsx hsxd hsxa hsxb hsxc hu5; first | omega | (simp_all; done) | (simp_all; omega)), if_neg (by simp_all)]
         have hg14p : ¬ (x.op = 14) := by simpa using hg14
         refine WL.fieldAddr fo_69_5 rfl rfl rfl ?_
         refine WL.load1 (v := .slice adx x.args.length capx) one_55 rfl rfl rfl (hS.cell 0 rfl rfl) ?_
         refine WL.lenSlice Tryd.underlying55 rfl rfl rfl ?_
         refine WL.bin rfl rfl rfl rfl rfl ?_
         refine WL.pick (v := .bool (decide (0 < (x.args.length : Int)))) rfl rfl rfl rfl rfl rfl ?_
         refine WL.pick (v := .bool (decide (0 < (x.args.length : Int)))) rfl rfl rfl rfl rfl rfl ?_
         refine WL.nil ?_
         refine N.seq ?_
         refine W.cond rfl (fun hc18 => ?_) (fun hc18 => ?_)
         ·
          have hc18p : 0 < (x.args.length : Int) := by simpa using hc18
          refine W.seq ?_
          refine W.region ?_
          refine WL.assign rfl rfl rfl ?_
          refine WL.nil ?_
          refine N.seq ?_
          refine Fin.ret1 rfl (v := .bool false) rfl ?_
          have hbz := hS.below
          clear hS
          refine ⟨?_, hbz⟩
          congr 1
          rw [inst5, if_neg (by clear hx hQx hsx hsxd hsxa hsxb hsxc; rw [← hu5]; first | omega | (simp_all; done) | (rintro (h | h | h | h) <;> first | omega | (simp_all; done))), if_pos (by clear hx hQx hsx hsxd hsxa hsxb hsxc hu5; first | omega | (simp_all; done) | (simp_all; omega))]
         have hc18p : ¬ (0 < (x.args.length : Int)) := by simpa using hc18
         refine W.skip ?_
         refine N.seq ?_
         refine W.seq ?_
         refine W.region ?_
         refine WL.loadN (cs := [.int .i64 x.op, .int .i64 x.a, .int .i64 x.b, .int .u64 x.k, .string x.name, .slice adx x.args.length capx]) agg_69 rfl rfl rfl rfl (hS.cells 0 (m := 6) rfl rfl) ?_
         refine WL.callF (vs := [.agg #[.int .i64 x.op, .int .i64 x.a, .int .i64 x.b, .int .u64 x.k, .string x.name, .slice adx x.args.length capx]]) Tryd.func31 (by kernel_rfl) rfl rfl rfl (named5_ret x _ (ro := ro) (fun b hb => (hS.snap b hb).1) (hQx.keep hS.alike)) ?_
         rintro v w19 ⟨rfl, hbl⟩
         replace hS := hS.grow hbl
         refine WL.assign rfl rfl rfl ?_
         refine WL.nil ?_
         refine N.seq ?_
         refine W.seq ?_
         refine W.seq ?_
         refine W.region ?_
         refine WL.move rfl rfl rfl ?_
         refine WL.nil ?_
         refine N.seq ?_
         refine W.cond rfl (fun hc20 => ?_) (fun hc20 => ?_)
         ·
          refine W.seq ?_
          refine W.region ?_
          refine WL.fieldAddr fo_69_4 rfl rfl rfl ?_
          refine WL.load1 (v := .string x.name) one_9 rfl rfl rfl (hS.cell 0 rfl rfl) ?_
          refine WL.callF (vs := [.string x.name]) Tryd.func21 (by kernel_rfl) rfl rfl rfl (name5_ret x.name hnx (ro := ro) (fun b hb => (hS.snap b hb).1)) ?_
          rintro v w21 ⟨rfl, hbl⟩
          replace hS := hS.grow hbl
          refine WL.assign rfl rfl rfl ?_
          refine WL.nil ?_
          refine N.seq ?_
          refine Fin.ret1 rfl (v := .bool (name5 x.name)) rfl ?_
          have hbz := hS.below
          clear hS
          refine ⟨?_, hbz⟩
          congr 1
          rw [inst5, if_neg (by clear hx hQx hsx hsxd hsxa hsxb hsxc; rw [← hu5]; first | omega | (simp_all; done) | (rintro (h | h | h | h) <;> first | omega | (simp_all; done))), if_neg (by clear hx hQx hsx hsxd hsxa hsxb hsxc hu5; first | omega | (simp_all; done) | (simp_all; omega)), if_pos (by simp_all)]
         refine W.skip ?_
         refine N.seq ?_
         refine W.seq ?_
         refine W.region ?_
         refine WL.fieldAddr fo_69_4 rfl rfl rfl ?_
         refine WL.load1 (v := .string x.name) one_9 rfl rfl rfl (hS.cell 0 rfl rfl) ?_
         refine WL.eqStr rfl rfl rfl rfl ?_
         refine WL.assign rfl rfl rfl ?_
         refine WL.nil ?_
         refine N.seq ?_
         refine Fin.ret1 rfl (v := .bool (decide (x.name = ⟨#[]⟩))) rfl ?_
         have hbz := hS.below
         clear hS
         refine ⟨?_, hbz⟩
         congr 1
         rw [inst5, if_neg (by clear hx hQx hsx hsxd hsxa hsxb hsxc; rw [← hu5]; first | omega | (simp_all; done) | (rintro (h | h | h | h) <;> first | omega | (simp_all; done))), if_neg (by clear hx hQx hsx hsxd hsxa hsxb hsxc hu5; first | omega | (simp_all; done) | (simp_all; omega)), if_neg (by simp_all)]
        have hg13p : ¬ (x.op = 1) := by simpa using hg13
        refine WL.fieldAddr fo_69_3 rfl rfl rfl ?_
        refine WL.load1 (v := .int .u64 x.k) one_52 rfl rfl rfl (hS.cell 0 rfl rfl) ?_
        refine WL.bin rfl rfl rfl rfl rfl ?_
        refine WL.pick (v := .bool (!decide (x.k = 0))) rfl rfl rfl rfl rfl rfl ?_
        refine WL.pick (v := .bool (!decide (x.k = 0))) rfl rfl rfl rfl rfl rfl ?_
        refine WL.move rfl rfl rfl ?_
        cases hg22 : (!decide (x.k = 0))
        ·
         have hg22p : x.k = 0 := by simpa using hg22
         refine WL.fieldAddr fo_69_0 rfl rfl rfl ?_
         refine WL.load1 (v := .int .i64 x.op) one_3 rfl rfl rfl (hS.cell 0 rfl rfl) ?_
         refine WL.bin rfl rfl rfl rfl rfl ?_
         refine WL.move rfl rfl rfl ?_
         cases hg23 : (!decide (x.op = 14))
         ·
          have hg23p : x.op = 14 := by simpa using hg23
          refine WL.skp rfl rfl ?_
          refine WL.skp rfl rfl ?_
          refine WL.skp rfl rfl ?_
          refine WL.skp rfl rfl ?_
          refine WL.pick (v := .bool false) rfl rfl rfl rfl rfl rfl ?_
          refine WL.pick (v := .bool false) rfl rfl rfl rfl rfl rfl ?_
          refine WL.nil ?_
          refine N.seq ?_
          refine W.condF rfl ?_
          refine W.skip ?_
          refine N.seq ?_
          refine W.seq ?_
          refine W.region ?_
          refine WL.loadN (cs := [.int .i64 x.op, .int .i64 x.a, .int .i64 x.b, .int .u64 x.k, .string x.name, .slice adx x.args.length capx]) agg_69 rfl rfl rfl rfl (hS.cells 0 (m := 6) rfl rfl) ?_
          refine WL.callF (vs := [.agg #[.int .i64 x.op, .int .i64 x.a, .int .i64 x.b, .int .u64 x.k, .string x.name, .slice adx x.args.length capx]]) Tryd.func31 (by kernel_rfl) rfl rfl rfl (named5_ret x _ (ro := ro) (fun b hb => (hS.snap b hb).1) (hQx.keep hS.alike)) ?_
          rintro v w24 ⟨rfl, hbl⟩
          replace hS := hS.grow hbl
          refine WL.assign rfl rfl rfl ?_
          refine WL.nil ?_
          refine N.seq ?_
          refine W.seq ?_
          refine W.seq ?_
          refine W.region ?_
          refine WL.move rfl rfl rfl ?_
          refine WL.nil ?_
          refine N.seq ?_
          refine W.cond rfl (fun hc25 => ?_) (fun hc25 => ?_)
          ·
           refine W.seq ?_
           refine W.region ?_
           refine WL.fieldAddr fo_69_4 rfl rfl rfl ?_
           refine WL.load1 (v := .string x.name) one_9 rfl rfl rfl (hS.cell 0 rfl rfl) ?_
           refine WL.callF (vs := [.string x.name]) Tryd.func21 (by kernel_rfl) rfl rfl rfl (name5_ret x.name hnx (ro := ro) (fun b hb => (hS.snap b hb).1)) ?_
           rintro v w26 ⟨rfl, hbl⟩
           replace hS := hS.grow hbl
           refine WL.assign rfl rfl rfl ?_
           refine WL.nil ?_
           refine N.seq ?_
           refine Fin.ret1 rfl (v := .bool (name5 x.name)) rfl ?_
           have hbz := hS.below
           clear hS
           refine ⟨?_, hbz⟩
           congr 1
           rw [inst5, if_neg (by clear hx hQx hsx hsxd hsxa hsxb hsxc; rw [← hu5]; first | omega | (simp_all; done) | (rintro (h | h | h | h) <;> first | omega | (simp_all; done))), if_neg (by clear hx hQx hsx hsxd hsxa hsxb hsxc hu5; first | omega | (simp_all; done) | (simp_all; omega)), if_pos (by simp_all)]
          refine W.skip ?_
          refine N.seq ?_
          refine W.seq ?_
          refine W.region ?_
          refine WL.fieldAddr fo_69_4 rfl rfl rfl ?_
          refine WL.load1 (v := .string x.name) one_9 rfl rfl rfl (hS.cell 0 rfl rfl) ?_
          refine WL.eqStr rfl rfl rfl rfl ?_
          refine WL.assign rfl rfl rfl ?_
          refine WL.nil ?_
          refine N.seq ?_
          refine Fin.ret1 rfl (v := .bool (decide (x.name = ⟨#[]⟩))) rfl ?_
          have hbz := hS.below
          clear hS
          refine ⟨?_, hbz⟩
          congr 1
          rw [inst5, if_neg (by clear hx hQx hsx hsxd hsxa hsxb hsxc; rw [← hu5]; first | omega | (simp_all; done) | (rintro (h | h | h | h) <;> first | omega | (simp_all; done))), if_neg (by clear hx hQx hsx hsxd hsxa hsxb hsxc hu5; first | omega | (simp_all; done) | (simp_all; omega)), if_neg (by simp_all)]
         have hg23p : ¬ (x.op = 14) := by simpa using hg23
         refine WL.fieldAddr fo_69_5 rfl rfl rfl ?_
         refine WL.load1 (v := .slice adx x.args.length capx) one_55 rfl rfl rfl (hS.cell 0 rfl rfl) ?_
         refine WL.lenSlice Tryd.underlying55 rfl rfl rfl ?_
         refine WL.bin rfl rfl rfl rfl rfl ?_
         refine WL.pick (v := .bool (decide (0 < (x.args.length : Int)))) rfl rfl rfl rfl rfl rfl ?_
         refine WL.pick (v := .bool (decide (0 < (x.args.length : Int)))) rfl rfl rfl rfl rfl rfl ?_
         refine WL.nil ?_
         refine N.seq ?_
         refine W.cond rfl (fun hc27 => ?_) (fun hc27 => ?_)
         ·
          have hc27p : 0 < (x.args.length : Int) := by simpa using hc27
          refine W.seq ?_
          refine W.region ?_
          refine WL.assign rfl rfl rfl ?_
          refine WL.nil ?_
          refine N.seq ?_
          refine Fin.ret1 rfl (v := .bool false) rfl ?_
          have hbz := hS.below
          clear hS
          refine ⟨?_, hbz⟩
          congr 1
          rw [inst5, if_neg (by clear hx hQx hsx hsxd hsxa hsxb hsxc; rw [← hu5]; first | omega | (simp_all; done) | (rintro (h | h | h | h) <;> first | omega | (simp_all; done))), if_pos (by clear hx hQx hsx hsxd hsxa hsxb hsxc hu5; first | omega | (simp_all; done) | (simp_all; omega))]
         have hc27p : ¬ (0 < (x.args.length : Int)) := by simpa using hc27
         refine W.skip ?_
         refine N.seq ?_
         refine W.seq ?_
         refine W.region ?_
         refine WL.loadN (cs := [.int .i64 x.op, .int .i64 x.a, .int .i64 x.b, .int .u64 x.k, .string x.name, .slice adx x.args.length capx]) agg_69 rfl rfl rfl rfl (hS.cells 0 (m := 6) rfl rfl) ?_
         refine WL.callF (vs := [.agg #[.int .i64 x.op, .int .i64 x.a, .int .i64 x.b, .int .u64 x.k, .string x.name, .slice adx x.args.length capx]]) Tryd.func31 (by kernel_rfl) rfl rfl rfl (named5_ret x _ (ro := ro) (fun b hb => (hS.snap b hb).1) (hQx.keep hS.alike)) ?_
         rintro v w28 ⟨rfl, hbl⟩
         replace hS := hS.grow hbl
         refine WL.assign rfl rfl rfl ?_
         refine WL.nil ?_
         refine N.seq ?_
         refine W.seq ?_
         refine W.seq ?_
         refine W.region ?_
         refine WL.move rfl rfl rfl ?_
         refine WL.nil ?_
         refine N.seq ?_
         refine W.cond rfl (fun hc29 => ?_) (fun hc29 => ?_)
         ·
          refine W.seq ?_
          refine W.region ?_
          refine WL.fieldAddr fo_69_4 rfl rfl rfl ?_
          refine WL.load1 (v := .string x.name) one_9 rfl rfl rfl (hS.cell 0 rfl rfl) ?_
          refine WL.callF (vs := [.string x.name]) Tryd.func21 (by kernel_rfl) rfl rfl rfl (name5_ret x.name hnx (ro := ro) (fun b hb => (hS.snap b hb).1)) ?_
          rintro v w30 ⟨rfl, hbl⟩
          replace hS := hS.grow hbl
          refine WL.assign rfl rfl rfl ?_
          refine WL.nil ?_
          refine N.seq ?_
          refine Fin.ret1 rfl (v := .bool (name5 x.name)) rfl ?_
          have hbz := hS.below
          clear hS
          refine ⟨?_, hbz⟩
          congr 1
          rw [inst5, if_neg (by clear hx hQx hsx hsxd hsxa hsxb hsxc; rw [← hu5]; first | omega | (simp_all; done) | (rintro (h | h | h | h) <;> first | omega | (simp_all; done))), if_neg (by clear hx hQx hsx hsxd hsxa hsxb hsxc hu5; first | omega | (simp_all; done) | (simp_all; omega)), if_pos (by simp_all)]
         refine W.skip ?_
         refine N.seq ?_
         refine W.seq ?_
         refine W.region ?_
         refine WL.fieldAddr fo_69_4 rfl rfl rfl ?_
         refine WL.load1 (v := .string x.name) one_9 rfl rfl rfl (hS.cell 0 rfl rfl) ?_
         refine WL.eqStr rfl rfl rfl rfl ?_
         refine WL.assign rfl rfl rfl ?_
         refine WL.nil ?_
         refine N.seq ?_
         refine Fin.ret1 rfl (v := .bool (decide (x.name = ⟨#[]⟩))) rfl ?_
         have hbz := hS.below
         clear hS
         refine ⟨?_, hbz⟩
         congr 1
         rw [inst5, if_neg (by clear hx hQx hsx hsxd hsxa hsxb hsxc; rw [← hu5]; first | omega | (simp_all; done) | (rintro (h | h | h | h) <;> first | omega | (simp_all; done))), if_neg (by clear hx hQx hsx hsxd hsxa hsxb hsxc hu5; first | omega | (simp_all; done) | (simp_all; omega)), if_neg (by simp_all)]
        have hg22p : ¬ (x.k = 0) := by simpa using hg22
        refine WL.skp rfl rfl ?_
        refine WL.skp rfl rfl ?_
        refine WL.skp rfl rfl ?_
        refine WL.skp rfl rfl ?_
        refine WL.skp rfl rfl ?_
        refine WL.skp rfl rfl ?_
        refine WL.skp rfl rfl ?_
        refine WL.skp rfl rfl ?_
        refine WL.skp rfl rfl ?_
        refine WL.pick (v := .bool true) rfl rfl rfl rfl rfl rfl ?_
        refine WL.nil ?_
        refine N.seq ?_
        refine W.condT rfl ?_
        refine W.seq ?_
        refine W.region ?_
        refine WL.assign rfl rfl rfl ?_
        refine WL.nil ?_
        refine N.seq ?_
        refine Fin.ret1 rfl (v := .bool false) rfl ?_
        have hbz := hS.below
        clear hS
        refine ⟨?_, hbz⟩
        congr 1
        rw [inst5, if_neg (by clear hx hQx hsx hsxd hsxa hsxb hsxc; rw [← hu5]; first | omega | (simp_all; done) | (rintro (h | h | h | h) <;> first | omega | (simp_all; done))), if_pos (by clear hx hQx hsx hsxd hsxa hsxb hsxc hu5; first | omega | (simp_all; done) | (simp_all; omega))]
       have hg12p : ¬ (x.b = 0) := by simpa using hg12
       refine WL.skp rfl rfl ?_
       refine WL.skp rfl rfl ?_
       refine WL.skp rfl rfl ?_
       refine WL.skp rfl rfl ?_
       refine WL.skp rfl rfl ?_
       refine WL.skp rfl rfl ?_
       refine WL.skp rfl rfl ?_
       refine WL.skp rfl rfl ?_
       refine WL.pick (v := .bool true) rfl rfl rfl rfl rfl rfl ?_
       refine WL.move rfl rfl rfl ?_
       refine WL.skp rfl rfl ?_
       refine WL.skp rfl rfl ?_
       refine WL.skp rfl rfl ?_
       refine WL.skp rfl rfl ?_
       refine WL.skp rfl rfl ?_
       refine WL.skp rfl rfl ?_
       refine WL.skp rfl rfl ?_
       refine WL.skp rfl rfl ?_
       refine WL.skp rfl rfl ?_
       refine WL.pick (v := .bool true) rfl rfl rfl rfl rfl rfl ?_
       refine WL.nil ?_
       refine N.seq ?_
       refine W.condT rfl ?_
       refine W.seq ?_
       refine W.region ?_
       refine WL.assign rfl rfl rfl ?_
       refine WL.nil ?_
       refine N.seq ?_
       refine Fin.ret1 rfl (v := .bool false) rfl ?_
       have hbz := hS.below
       clear hS
       refine ⟨?_, hbz⟩
       congr 1
       rw [inst5, if_neg (by clear hx hQx hsx hsxd hsxa hsxb hsxc; rw [← hu5]; first | omega | (simp_all; done) | (rintro (h | h | h | h) <;> first | omega | (simp_all; done))), if_pos (by clear hx hQx hsx hsxd hsxa hsxb hsxc hu5; first | omega | (simp_all; done) | (simp_all; omega))]
      have hg11p : ¬ (x.op = 16) := by simpa using hg11
      refine WL.fieldAddr fo_69_1 rfl rfl rfl ?_
      refine WL.load1 (v := .int .i64 x.a) one_3 rfl rfl rfl (hS.cell 0 rfl rfl) ?_
      refine WL.bin rfl rfl rfl rfl rfl ?_
      refine WL.pick (v := .bool (!decide (x.a = 0))) rfl rfl rfl rfl rfl rfl ?_
      refine WL.move rfl rfl rfl ?_
      cases hg31 : (!decide (x.a = 0))
      ·
       have hg31p : x.a = 0 := by simpa using hg31
       refine WL.move rfl rfl rfl ?_
       refine WL.not rfl rfl rfl ?_
       refine WL.set 66 (v' := .bool true) rfl rfl ?_
       refine WL.move rfl rfl rfl ?_
       refine WL.fieldAddr fo_69_2 rfl rfl rfl ?_
       refine WL.load1 (v := .int .i64 x.b) one_3 rfl rfl rfl (hS.cell 0 rfl rfl) ?_
       refine WL.bin rfl rfl rfl rfl rfl ?_
       refine WL.pick (v := .bool (!decide (x.b = 0))) rfl rfl rfl rfl rfl rfl ?_
       refine WL.pick (v := .bool (!decide (x.b = 0))) rfl rfl rfl rfl rfl rfl ?_
       refine WL.move rfl rfl rfl ?_
       cases hg32 : (!decide (x.b = 0))
       ·
        have hg32p : x.b = 0 := by simpa using hg32
        refine WL.fieldAddr fo_69_0 rfl rfl rfl ?_
        refine WL.load1 (v := .int .i64 x.op) one_3 rfl rfl rfl (hS.cell 0 rfl rfl) ?_
        refine WL.bin rfl rfl rfl rfl rfl ?_
        refine WL.move rfl rfl rfl ?_
        cases hg33 : (!decide (x.op = 1))
        ·
         have hg33p : x.op = 1 := by simpa using hg33
         refine WL.skp rfl rfl ?_
         refine WL.skp rfl rfl ?_
         refine WL.skp rfl rfl ?_
         refine WL.pick (v := .bool false) rfl rfl rfl rfl rfl rfl ?_
         refine WL.pick (v := .bool false) rfl rfl rfl rfl rfl rfl ?_
         refine WL.move rfl rfl rfl ?_
         refine WL.fieldAddr fo_69_0 rfl rfl rfl ?_
         refine WL.load1 (v := .int .i64 x.op) one_3 rfl rfl rfl (hS.cell 0 rfl rfl) ?_
         refine WL.bin rfl rfl rfl rfl rfl ?_
         refine WL.move rfl rfl rfl ?_
         cases hg34 : (!decide (x.op = 14))
         ·
          have hg34p : x.op = 14 := by simpa using hg34
          refine WL.skp rfl rfl ?_
          refine WL.skp rfl rfl ?_
          refine WL.skp rfl rfl ?_
          refine WL.skp rfl rfl ?_
          refine WL.pick (v := .bool false) rfl rfl rfl rfl rfl rfl ?_
          refine WL.pick (v := .bool false) rfl rfl rfl rfl rfl rfl ?_
          refine WL.nil ?_
          refine N.seq ?_
          refine W.condF rfl ?_
          refine W.skip ?_
          refine N.seq ?_
          refine W.seq ?_
          refine W.region ?_
          refine WL.loadN (cs := [.int .i64 x.op, .int .i64 x.a, .int .i64 x.b, .int .u64 x.k, .string x.name, .slice adx x.args.length capx]) agg_69 rfl rfl rfl rfl (hS.cells 0 (m := 6) rfl rfl) ?_
          refine WL.callF (vs := [.agg #[.int .i64 x.op, .int .i64 x.a, .int .i64 x.b, .int .u64 x.k, .string x.name, .slice adx x.args.length capx]]) Tryd.func31 (by kernel_rfl) rfl rfl rfl (named5_ret x _ (ro := ro) (fun b hb => (hS.snap b hb).1) (hQx.keep hS.alike)) ?_
          rintro v w35 ⟨rfl, hbl⟩
          replace hS := hS.grow hbl
          refine WL.assign rfl rfl rfl ?_
          refine WL.nil ?_
          refine N.seq ?_
          refine W.seq ?_
          refine W.seq ?_
          refine W.region ?_
          refine WL.move rfl rfl rfl ?_
          refine WL.nil ?_
          refine N.seq ?_
          refine W.cond rfl (fun hc36 => ?_) (fun hc36 => ?_)
          ·
           refine W.seq ?_
           refine W.region ?_
           refine WL.fieldAddr fo_69_4 rfl rfl rfl ?_
           refine WL.load1 (v := .string x.name) one_9 rfl rfl rfl (hS.cell 0 rfl rfl) ?_
           refine WL.callF (vs := [.string x.name]) Tryd.func21 (by kernel_rfl) rfl rfl rfl (name5_ret x.name hnx (ro := ro) (fun b hb => (hS.snap b hb).1)) ?_
           rintro v w37 ⟨rfl, hbl⟩
           replace hS := hS.grow hbl
           refine WL.assign rfl rfl rfl ?_
           refine WL.nil ?_
           refine N.seq ?_
           refine Fin.ret1 rfl (v := .bool (name5 x.name)) rfl ?_
           have hbz := hS.below
           clear hS
           refine ⟨?_, hbz⟩
           congr 1
           rw [inst5, if_neg (by clear hx hQx hsx hsxd hsxa hsxb hsxc; rw [← hu5]; first | omega | (simp_all; done) | (rintro (h | h | h | h) <;> first | omega | (simp_all; done))), if_neg (by clear hx hQx hsx hsxd hsxa hsxb hsxc hu5; first | omega | (simp_all; done) | (simp_all; omega)), if_pos (by simp_all)]
          refine W.skip ?_
          refine N.seq ?_
          refine W.seq ?_
          refine W.region ?_
          refine WL.fieldAddr fo_69_4 rfl rfl rfl ?_
          refine WL.load1 (v := .string x.name) one_9 rfl rfl rfl (hS.cell 0 rfl rfl) ?_
          refine WL.eqStr rfl rfl rfl rfl ?_
          refine WL.assign rfl rfl rfl ?_
          refine WL.nil ?_
          refine N.seq ?_
          refine Fin.ret1 rfl (v := .bool (decide (x.name = ⟨#[]⟩))) rfl ?_
          have hbz := hS.below
          clear hS
          refine ⟨?_, hbz⟩
          congr 1
          rw [inst5, if_neg (by clear hx hQx hsx hsxd hsxa hsxb hsxc; rw [← hu5]; first | omega | (simp_all; done) | (rintro (h | h | h | h) <;> first | omega | (simp_all; done))), if_neg (by clear hx hQx hsx hsxd hsxa hsxb hsxc hu5; first | omega | (simp_all; done) | (simp_all; omega)), if_neg (by simp_all)]
         have hg34p : ¬ (x.op = 14) := by simpa using hg34
         refine WL.fieldAddr fo_69_5 rfl rfl rfl ?_
         refine WL.load1 (v := .slice adx x.args.length capx) one_55 rfl rfl rfl (hS.cell 0 rfl rfl) ?_
         refine WL.lenSlice Tryd.underlying55 rfl rfl rfl ?_
         refine WL.bin rfl rfl rfl rfl rfl ?_
         refine WL.pick (v := .bool (decide (0 < (x.args.length : Int)))) rfl rfl rfl rfl rfl rfl ?_
         refine WL.pick (v := .bool (decide (0 < (x.args.length : Int)))) rfl rfl rfl rfl rfl rfl ?_
         refine WL.nil ?_
         refine N.seq ?_
         refine W.cond rfl (fun hc38 => ?_) (fun hc38 => ?_)
         ·
          have hc38p : 0 < (x.args.length : Int) := by simpa using hc38
          refine W.seq ?_
          refine W.region ?_
          refine WL.assign rfl rfl rfl ?_
          refine WL.nil ?_
          refine N.seq ?_
          refine Fin.ret1 rfl (v := .bool false) rfl ?_
          have hbz := hS.below
          clear hS
          refine ⟨?_, hbz⟩
          congr 1
          rw [inst5, if_neg (by clear hx hQx hsx hsxd hsxa hsxb hsxc; rw [← hu5]; first | omega | (simp_all; done) | (rintro (h | h | h | h) <;> first | omega | (simp_all; done))), if_pos (by clear hx hQx hsx hsxd hsxa hsxb hsxc hu5; first | omega | (simp_all; done) | (simp_all; omega))]
         have hc38p : ¬ (0 < (x.args.length : Int)) := by simpa using hc38
         refine W.skip ?_
         refine N.seq ?_
         refine W.seq ?_
         refine W.region ?_
         refine WL.loadN (cs := [.int .i64 x.op, .int .i64 x.a, .int .i64 x.b, .int .u64 x.k, .string x.name, .slice adx x.args.length capx]) agg_69 rfl rfl rfl rfl (hS.cells 0 (m := 6) rfl rfl) ?_
         refine WL.callF (vs := [.agg #[.int .i64 x.op, .int .i64 x.a, .int .i64 x.b, .int .u64 x.k, .string x.name, .slice adx x.args.length capx]]) Tryd.func31 (by kernel_rfl) rfl rfl rfl (named5_ret x _ (ro := ro) (fun b hb => (hS.snap b hb).1) (hQx.keep hS.alike)) ?_
         rintro v w39 ⟨rfl, hbl⟩
         replace hS := hS.grow hbl
         refine WL.assign rfl rfl rfl ?_
         refine WL.nil ?_
         refine N.seq ?_
         refine W.seq ?_
         refine W.seq ?_
         refine W.region ?_
         refine WL.move rfl rfl rfl ?_
         refine WL.nil ?_
         refine N.seq ?_
         refine W.cond rfl (fun hc40 => ?_) (fun hc40 => ?_)
         ·
          refine W.seq ?_
          refine W.region ?_
          refine WL.fieldAddr fo_69_4 rfl rfl rfl ?_
          refine WL.load1 (v := .string x.name) one_9 rfl rfl rfl (hS.cell 0 rfl rfl) ?_
          refine WL.callF (vs := [.string x.name]) Tryd.func21 (by kernel_rfl) rfl rfl rfl (name5_ret x.name hnx (ro := ro) (fun b hb => (hS.snap b hb).1)) ?_
          rintro v w41 ⟨rfl, hbl⟩
          replace hS := hS.grow hbl
          refine WL.assign rfl rfl rfl ?_
          refine WL.nil ?_
          refine N.seq ?_
          refine Fin.ret1 rfl (v := .bool (name5 x.name)) rfl ?_
          have hbz := hS.below
          clear hS
          refine ⟨?_, hbz⟩
          congr 1
          rw [inst5, if_neg (by clear hx hQx hsx hsxd hsxa hsxb hsxc; rw [← hu5]; first | omega | (simp_all; done) | (rintro (h | h | h | h) <;> first | omega | (simp_all; done))), if_neg (by clear hx hQx hsx hsxd hsxa hsxb hsxc hu5; first | omega | (simp_all; done) | (simp_all; omega)), if_pos (by simp_all)]
         refine W.skip ?_
         refine N.seq ?_
         refine W.seq ?_
         refine W.region ?_
         refine WL.fieldAddr fo_69_4 rfl rfl rfl ?_
         refine WL.load1 (v := .string x.name) one_9 rfl rfl rfl (hS.cell 0 rfl rfl) ?_
         refine WL.eqStr rfl rfl rfl rfl ?_
         refine WL.assign rfl rfl rfl ?_
         refine WL.nil ?_
         refine N.seq ?_
         refine Fin.ret1 rfl (v := .bool (decide (x.name = ⟨#[]⟩))) rfl ?_
         have hbz := hS.below
         clear hS
         refine ⟨?_, hbz⟩
         congr 1
         rw [inst5, if_neg (by clear hx hQx hsx hsxd hsxa hsxb hsxc; rw [← hu5]; first | omega | (simp_all; done) | (rintro (h | h | h | h) <;> first | omega | (simp_all; done))), if_neg (by clear hx hQx hsx hsxd hsxa hsxb hsxc hu5; first | omega | (simp_all; done) | (simp_all; omega)), if_neg (by simp_all)]
        have hg33p : ¬ (x.op = 1) := by simpa using hg33
        refine WL.fieldAddr fo_69_3 rfl rfl rfl ?_
        refine WL.load1 (v := .int .u64 x.k) one_52 rfl rfl rfl (hS.cell 0 rfl rfl) ?_
        refine WL.bin rfl rfl rfl rfl rfl ?_
        refine WL.pick (v := .bool (!decide (x.k = 0))) rfl rfl rfl rfl rfl rfl ?_
        refine WL.pick (v := .bool (!decide (x.k = 0))) rfl rfl rfl rfl rfl rfl ?_
        refine WL.move rfl rfl rfl ?_
        cases hg42 : (!decide (x.k = 0))
        ·
         have hg42p : x.k = 0 := by simpa using hg42
         refine WL.fieldAddr fo_69_0 rfl rfl rfl ?_
         refine WL.load1 (v := .int .i64 x.op) one_3 rfl rfl rfl (hS.cell 0 rfl rfl) ?_
         refine WL.bin rfl rfl rfl rfl rfl ?_
         refine WL.move rfl rfl rfl ?_
         cases hg43 : (!decide (x.op = 14))
         ·
          have hg43p : x.op = 14 := by simpa using hg43
          refine WL.skp rfl rfl ?_
          refine WL.skp rfl rfl ?_
          refine WL.skp rfl rfl ?_
          refine WL.skp rfl rfl ?_
          refine WL.pick (v := .bool false) rfl rfl rfl rfl rfl rfl ?_
          refine WL.pick (v := .bool false) rfl rfl rfl rfl rfl rfl ?_
          refine WL.nil ?_
          refine N.seq ?_
          refine W.condF rfl ?_
          refine W.skip ?_
          refine N.seq ?_
          refine W.seq ?_
          refine W.region ?_
          refine WL.loadN (cs := [.int .i64 x.op, .int .i64 x.a, .int .i64 x.b, .int .u64 x.k, .string x.name, .slice adx x.args.length capx]) agg_69 rfl rfl rfl rfl (hS.cells 0 (m := 6) rfl rfl) ?_
          refine WL.callF (vs := [.agg #[.int .i64 x.op, .int .i64 x.a, .int .i64 x.b, .int .u64 x.k, .string x.name, .slice adx x.args.length capx]]) Tryd.func31 (by kernel_rfl) rfl rfl rfl (named5_ret x _ (ro := ro) (fun b hb => (hS.snap b hb).1) (hQx.keep hS.alike)) ?_
          rintro v w44 ⟨rfl, hbl⟩
          replace hS := hS.grow hbl
          refine WL.assign rfl rfl rfl ?_
          refine WL.nil ?_
          refine N.seq ?_
          refine W.seq ?_
          refine W.seq ?_
          refine W.region ?_
          refine WL.move rfl rfl rfl ?_
          refine WL.nil ?_
          refine N.seq ?_
          refine W.cond rfl (fun hc45 => ?_) (fun hc45 => ?_)
          ·
           refine W.seq ?_
           refine W.region ?_
           refine WL.fieldAddr fo_69_4 rfl rfl rfl ?_
           refine WL.load1 (v := .string x.name) one_9 rfl rfl rfl (hS.cell 0 rfl rfl) ?_
           refine WL.callF (vs := [.string x.name]) Tryd.func21 (by kernel_rfl) rfl rfl rfl (name5_ret x.name hnx (ro := ro) (fun b hb => (hS.snap b hb).1)) ?_
           rintro v w46 ⟨rfl, hbl⟩
           replace hS := hS.grow hbl
           refine WL.assign rfl rfl rfl ?_
           refine WL.nil ?_
           refine N.seq ?_
           refine Fin.ret1 rfl (v := .bool (name5 x.name)) rfl ?_
           have hbz := hS.below
           clear hS
           refine ⟨?_, hbz⟩
           congr 1
           rw [inst5, if_neg (by clear hx hQx hsx hsxd hsxa hsxb hsxc; rw [← hu5]; first | omega | (simp_all; done) | (rintro (h | h | h | h) <;> first | omega | (simp_all; done))), if_neg (by clear hx hQx hsx hsxd hsxa hsxb hsxc hu5; first | omega | (simp_all; done) | (simp_all; omega)), if_pos (by simp_all)]
          refine W.skip ?_
          refine N.seq ?_
          refine W.seq ?_
          refine W.region ?_
          refine WL.fieldAddr fo_69_4 rfl rfl rfl ?_
          refine WL.load1 (v := .string x.name) one_9 rfl rfl rfl (hS.cell 0 rfl rfl) ?_
          refine WL.eqStr rfl rfl rfl rfl ?_
          refine WL.assign rfl rfl rfl ?_
          refine WL.nil ?_
          refine N.seq ?_
          refine Fin.ret1 rfl (v := .bool (decide (x.name = ⟨#[]⟩))) rfl ?_
          have hbz := hS.below
          clear hS
          refine ⟨?_, hbz⟩
          congr 1
          rw [inst5, if_neg (by clear hx hQx hsx hsxd hsxa hsxb hsxc; rw [← hu5]; first | omega | (simp_all; done) | (rintro (h | h | h | h) <;> first | omega | (simp_all; done))), if_neg (by clear hx hQx hsx hsxd hsxa hsxb hsxc hu5; first | omega | (simp_all; done) | (simp_all; omega)), if_neg (by simp_all)]
         have hg43p : ¬ (x.op = 14) := by simpa using hg43
         refine WL.fieldAddr fo_69_5 rfl rfl rfl ?_
         refine WL.load1 (v := .slice adx x.args.length capx) one_55 rfl rfl rfl (hS.cell 0 rfl rfl) ?_
         refine WL.lenSlice Tryd.underlying55 rfl rfl rfl ?_
         refine WL.bin rfl rfl rfl rfl rfl ?_
         refine WL.pick (v := .bool (decide (0 < (x.args.length : Int)))) rfl rfl rfl rfl rfl rfl ?_
         refine WL.pick (v := .bool (decide (0 < (x.args.length : Int)))) rfl rfl rfl rfl rfl rfl ?_
         refine WL.nil ?_
         refine N.seq ?_
         refine W.cond rfl (fun hc47 => ?_) (fun hc47 => ?_)
         ·
          have hc47p : 0 < (x.args.length : Int) := by simpa using hc47
          refine W.seq ?_
          refine W.region ?_
          refine WL.assign rfl rfl rfl ?_
          refine WL.nil ?_
          refine N.seq ?_
          refine Fin.ret1 rfl (v := .bool false) rfl ?_
          have hbz := hS.below
          clear hS
          refine ⟨?_, hbz⟩
          congr 1
          rw [inst5, if_neg (by clear hx hQx hsx hsxd hsxa hsxb hsxc; rw [← hu5]; first | omega | (simp_all; done) | (rintro (h | h | h | h) <;> first | omega | (simp_all; done))), if_pos (by clear hx hQx hsx hsxd hsxa hsxb hsxc hu5; first | omega | (simp_all; done) | (simp_all; omega))]
         have hc47p : ¬ (0 < (x.args.length : Int)) := by simpa using hc47
         refine W.skip ?_
         refine N.seq ?_
         refine W.seq ?_
         refine W.region ?_
         refine WL.loadN (cs := [.int .i64 x.op, .int .i64 x.a, .int .i64 x.b, .int .u64 x.k, .string x.name, .slice adx x.args.length capx]) agg_69 rfl rfl rfl rfl (hS.cells 0 (m := 6) rfl rfl) ?_
         refine WL.callF (vs := [.agg #[.int .i64 x.op, .int .i64 x.a, .int .i64 x.b, .int .u64 x.k, .string x.name, .slice adx x.args.length capx]]) Tryd.func31 (by kernel_rfl) rfl rfl rfl (named5_ret x _ (ro := ro) (fun b hb => (hS.snap b hb).1) (hQx.keep hS.alike)) ?_
         rintro v w48 ⟨rfl, hbl⟩
         replace hS := hS.grow hbl
         refine WL.assign rfl rfl rfl ?_
         refine WL.nil ?_
         refine N.seq ?_
         refine W.seq ?_
         refine W.seq ?_
         refine W.region ?_
         refine WL.move rfl rfl rfl ?_
         refine WL.nil ?_
         refine N.seq ?_
         refine W.cond rfl (fun hc49 => ?_) (fun hc49 => ?_)
         ·
          refine W.seq ?_
          refine W.region ?_
          refine WL.fieldAddr fo_69_4 rfl rfl rfl ?_
          refine WL.load1 (v := .string x.name) one_9 rfl rfl rfl (hS.cell 0 rfl rfl) ?_
          refine WL.callF (vs := [.string x.name]) Tryd.func21 (by kernel_rfl) rfl rfl rfl (name5_ret x.name hnx (ro := ro) (fun b hb => (hS.snap b hb).1)) ?_
          rintro v w50 ⟨rfl, hbl⟩
          replace hS := hS.grow hbl
          refine WL.assign rfl rfl rfl ?_
          refine WL.nil ?_
          refine N.seq ?_
          refine Fin.ret1 rfl (v := .bool (name5 x.name)) rfl ?_
          have hbz := hS.below
          clear hS
          refine ⟨?_, hbz⟩
          congr 1
          rw [inst5, if_neg (by clear hx hQx hsx hsxd hsxa hsxb hsxc; rw [← hu5]; first | omega | (simp_all; done) | (rintro (h | h | h | h) <;> first | omega | (simp_all; done))), if_neg (by clear hx hQx hsx hsxd hsxa hsxb hsxc hu5; first | omega | (simp_all; done) | (simp_all; omega)), if_pos (by simp_all)]
         refine W.skip ?_
         refine N.seq ?_
         refine W.seq ?_
         refine W.region ?_
         refine WL.fieldAddr fo_69_4 rfl rfl rfl ?_
         refine WL.load1 (v := .string x.name) one_9 rfl rfl rfl (hS.cell 0 rfl rfl) ?_
         refine WL.eqStr rfl rfl rfl rfl ?_
         refine WL.assign rfl rfl rfl ?_
         refine WL.nil ?_
         refine N.seq ?_
         refine Fin.ret1 rfl (v := .bool (decide (x.name = ⟨#[]⟩))) rfl ?_
         have hbz := hS.below
         clear hS
         refine ⟨?_, hbz⟩
         congr 1
         rw [inst5, if_neg (by clear hx hQx hsx hsxd hsxa hsxb hsxc; rw [← hu5]; first | omega | (simp_all; done) | (rintro (h | h | h | h) <;> first | omega | (simp_all; done))), if_neg (by clear hx hQx hsx hsxd hsxa hsxb hsxc hu5; first | omega | (simp_all; done) | (simp_all; omega)), if_neg (by simp_all)]
        have hg42p : ¬ (x.k = 0) := by simpa using hg42
        refine WL.skp rfl rfl ?_
        refine WL.skp rfl rfl ?_
        refine WL.skp rfl rfl ?_
        refine WL.skp rfl rfl ?_
        refine WL.skp rfl rfl ?_
        refine WL.skp rfl rfl ?_
        refine WL.skp rfl rfl ?_
        refine WL.skp rfl rfl ?_
        refine WL.skp rfl rfl ?_
        refine WL.pick (v := .bool true) rfl rfl rfl rfl rfl rfl ?_
        refine WL.nil ?_
        refine N.seq ?_
        refine W.condT rfl ?_
        refine W.seq ?_
        refine W.region ?_
        refine WL.assign rfl rfl rfl ?_
        refine WL.nil ?_
        refine N.seq ?_
        refine Fin.ret1 rfl (v := .bool false) rfl ?_
        have hbz := hS.below
        clear hS
        refine ⟨?_, hbz⟩
        congr 1
        rw [inst5, if_neg (by clear hx hQx hsx hsxd hsxa hsxb hsxc; rw [← hu5]; first | omega | (simp_all; done) | (rintro (h | h | h | h) <;> first | omega | (simp_all; done))), if_pos (by clear hx hQx hsx hsxd hsxa hsxb hsxc hu5; first | omega | (simp_all; done) | (simp_all; omega))]
       have hg32p : ¬ (x.b = 0) := by simpa using hg32
       refine WL.skp rfl rfl ?_
       refine WL.skp rfl rfl ?_
       refine WL.skp rfl rfl ?_
       refine WL.skp rfl rfl ?_
       refine WL.skp rfl rfl ?_
       refine WL.skp rfl rfl ?_
       refine WL.skp rfl rfl ?_
       refine WL.skp rfl rfl ?_
       refine WL.pick (v := .bool true) rfl rfl rfl rfl rfl rfl ?_
       refine WL.move rfl rfl rfl ?_
       refine WL.skp rfl rfl ?_
       refine WL.skp rfl rfl ?_
       refine WL.skp rfl rfl ?_
       refine WL.skp rfl rfl ?_
       refine WL.skp rfl rfl ?_
       refine WL.skp rfl rfl ?_
       refine WL.skp rfl rfl ?_
       refine WL.skp rfl rfl ?_
       refine WL.skp rfl rfl ?_
       refine WL.pick (v := .bool true) rfl rfl rfl rfl rfl rfl ?_
       refine WL.nil ?_
       refine N.seq ?_
       refine W.condT rfl ?_
       refine W.seq ?_
       refine W.region ?_
       refine WL.assign rfl rfl rfl ?_
       refine WL.nil ?_
       refine N.seq ?_
       refine Fin.ret1 rfl (v := .bool false) rfl ?_
       have hbz := hS.below
       clear hS
       refine ⟨?_, hbz⟩
       congr 1
       rw [inst5, if_neg (by clear hx hQx hsx hsxd hsxa hsxb hsxc; rw [← hu5]; first | omega | (simp_all; done) | (rintro (h | h | h | h) <;> first | omega | (simp_all; done))), if_pos (by clear hx hQx hsx hsxd hsxa hsxb hsxc hu5; first | omega | (simp_all; done) | (simp_all; omega))]
      have hg31p : ¬ (x.a = 0) := by simpa using hg31
      refine WL.skp rfl rfl ?_
      refine WL.skp rfl rfl ?_
      refine WL.skp rfl rfl ?_
      refine WL.skp rfl rfl ?_
      refine WL.skp rfl rfl ?_
      refine WL.skp rfl rfl ?_
      refine WL.skp rfl rfl ?_
      refine WL.pick (v := .bool true) rfl rfl rfl rfl rfl rfl ?_
      refine WL.move rfl rfl rfl ?_
      refine WL.skp rfl rfl ?_
      refine WL.skp rfl rfl ?_
      refine WL.skp rfl rfl ?_
      refine WL.skp rfl rfl ?_
      refine WL.skp rfl rfl ?_
      refine WL.skp rfl rfl ?_
      refine WL.skp rfl rfl ?_
      refine WL.skp rfl rfl ?_
      refine WL.pick (v := .bool true) rfl rfl rfl rfl rfl rfl ?_
      refine WL.move rfl rfl rfl ?_
      refine WL.skp rfl rfl ?_
      refine WL.skp rfl rfl ?_
      refine WL.skp rfl rfl ?_
      refine WL.skp rfl rfl ?_
      refine WL.skp rfl rfl ?_
      refine WL.skp rfl rfl ?_
      refine WL.skp rfl rfl ?_
      refine WL.skp rfl rfl ?_
      refine WL.skp rfl rfl ?_
      refine WL.pick (v := .bool true) rfl rfl rfl rfl rfl rfl ?_
      refine WL.nil ?_
      refine N.seq ?_
      refine W.condT rfl ?_
      refine W.seq ?_
      refine W.region ?_
      refine WL.assign rfl rfl rfl ?_
      refine WL.nil ?_
      refine N.seq ?_
      refine Fin.ret1 rfl (v := .bool false) rfl ?_
      have hbz := hS.below
      clear hS
      refine ⟨?_, hbz⟩
      congr 1
      rw [inst5, if_neg (by clear hx hQx hsx hsxd hsxa hsxb hsxc; rw [← hu5]; first | omega | (simp_all; done) | (rintro (h | h | h | h) <;> first | omega | (simp_all; done))), if_pos (by clear hx hQx hsx hsxd hsxa hsxb hsxc hu5; first | omega | (simp_all; done) | (simp_all; omega))]
     have hg10p : x.op = 13 := by simpa using hg10
     refine WL.skp rfl rfl ?_
     refine WL.skp rfl rfl ?_
     refine WL.skp rfl rfl ?_
     refine WL.pick (v := .bool true) rfl rfl rfl rfl rfl rfl ?_
     refine WL.assign rfl rfl rfl ?_
     refine WL.nil ?_
     refine N.seq ?_
     refine W.seq ?_
     refine W.region ?_
     refine WL.fieldAddr fo_69_0 rfl rfl rfl ?_
     refine WL.load1 (v := .int .i64 x.op) one_3 rfl rfl rfl (hS.cell 0 rfl rfl) ?_
     refine WL.bin rfl rfl rfl rfl rfl ?_
     refine WL.set 51 (v' := .bool false) rfl (by rw [hg9]) ?_
     refine WL.move rfl rfl rfl ?_
     refine WL.skp rfl rfl ?_
     refine WL.skp rfl rfl ?_
     refine WL.skp rfl rfl ?_
     refine WL.pick (v := .bool false) rfl rfl rfl rfl rfl rfl ?_
     refine WL.assign rfl rfl rfl ?_
     refine WL.nil ?_
     refine N.seq ?_
     refine W.seq ?_
     refine W.seq ?_
     refine W.region ?_
     refine WL.move rfl rfl rfl ?_
     refine WL.not rfl rfl rfl ?_
     refine WL.set 58 (v' := .bool false) rfl rfl ?_
     refine WL.move rfl rfl rfl ?_
     refine WL.skp rfl rfl ?_
     refine WL.skp rfl rfl ?_
     refine WL.skp rfl rfl ?_
     refine WL.pick (v := .bool false) rfl rfl rfl rfl rfl rfl ?_
     refine WL.move rfl rfl rfl ?_
     refine WL.move rfl rfl rfl ?_
     refine WL.not rfl rfl rfl ?_
     refine WL.set 66 (v' := .bool true) rfl rfl ?_
     refine WL.move rfl rfl rfl ?_
     refine WL.fieldAddr fo_69_2 rfl rfl rfl ?_
     refine WL.load1 (v := .int .i64 x.b) one_3 rfl rfl rfl (hS.cell 0 rfl rfl) ?_
     refine WL.bin rfl rfl rfl rfl rfl ?_
     refine WL.pick (v := .bool (!decide (x.b = 0))) rfl rfl rfl rfl rfl rfl ?_
     refine WL.pick (v := .bool (!decide (x.b = 0))) rfl rfl rfl rfl rfl rfl ?_
     refine WL.move rfl rfl rfl ?_
     cases hg51 : (!decide (x.b = 0))
     ·
      have hg51p : x.b = 0 := by simpa using hg51
      refine WL.fieldAddr fo_69_0 rfl rfl rfl ?_
      refine WL.load1 (v := .int .i64 x.op) one_3 rfl rfl rfl (hS.cell 0 rfl rfl) ?_
      refine WL.bin rfl rfl rfl rfl rfl ?_
      refine WL.move rfl rfl rfl ?_
      cases hg52 : (!decide (x.op = 1))
      ·
       have hg52p : x.op = 1 := by simpa using hg52
       refine WL.skp rfl rfl ?_
       refine WL.skp rfl rfl ?_
       refine WL.skp rfl rfl ?_
       refine WL.pick (v := .bool false) rfl rfl rfl rfl rfl rfl ?_
       refine WL.pick (v := .bool false) rfl rfl rfl rfl rfl rfl ?_
       refine WL.move rfl rfl rfl ?_
       refine WL.fieldAddr fo_69_0 rfl rfl rfl ?_
       refine WL.load1 (v := .int .i64 x.op) one_3 rfl rfl rfl (hS.cell 0 rfl rfl) ?_
       refine WL.bin rfl rfl rfl rfl rfl ?_
       refine WL.move rfl rfl rfl ?_
       cases hg53 : (!decide (x.op = 14))
       ·
        have hg53p : x.op = 14 := by simpa using hg53
        refine WL.skp rfl rfl ?_
        refine WL.skp rfl rfl ?_
        refine WL.skp rfl rfl ?_
        refine WL.skp rfl rfl ?_
        refine WL.pick (v := .bool false) rfl rfl rfl rfl rfl rfl ?_
        refine WL.pick (v := .bool false) rfl rfl rfl rfl rfl rfl ?_
        refine WL.nil ?_
        refine N.seq ?_
        refine W.condF rfl ?_
        refine W.skip ?_
        refine N.seq ?_
        refine W.seq ?_
        refine W.region ?_
        refine WL.loadN (cs := [.int .i64 x.op, .int .i64 x.a, .int .i64 x.b, .int .u64 x.k, .string x.name, .slice adx x.args.length capx]) agg_69 rfl rfl rfl rfl (hS.cells 0 (m := 6) rfl rfl) ?_
        refine WL.callF (vs := [.agg #[.int .i64 x.op, .int .i64 x.a, .int .i64 x.b, .int .u64 x.k, .string x.name, .slice adx x.args.length capx]]) Tryd.func31 (by kernel_rfl) rfl rfl rfl (named5_ret x _ (ro := ro) (fun b hb => (hS.snap b hb).1) (hQx.keep hS.alike)) ?_
        rintro v w54 ⟨rfl, hbl⟩
        replace hS := hS.grow hbl
        refine WL.assign rfl rfl rfl ?_
        refine WL.nil ?_
        refine N.seq ?_
        refine W.seq ?_
        refine W.seq ?_
        refine W.region ?_
        refine WL.move rfl rfl rfl ?_
        refine WL.nil ?_
        refine N.seq ?_
        refine W.cond rfl (fun hc55 => ?_) (fun hc55 => ?_)
        ·
         refine W.seq ?_
         refine W.region ?_
         refine WL.fieldAddr fo_69_4 rfl rfl rfl ?_
         refine WL.load1 (v := .string x.name) one_9 rfl rfl rfl (hS.cell 0 rfl rfl) ?_
         refine WL.callF (vs := [.string x.name]) Tryd.func21 (by kernel_rfl) rfl rfl rfl (name5_ret x.name hnx (ro := ro) (fun b hb => (hS.snap b hb).1)) ?_
         rintro v w56 ⟨rfl, hbl⟩
         replace hS := hS.grow hbl
         refine WL.assign rfl rfl rfl ?_
         refine WL.nil ?_
         refine N.seq ?_
         refine Fin.ret1 rfl (v := .bool (name5 x.name)) rfl ?_
         have hbz := hS.below
         clear hS
         refine ⟨?_, hbz⟩
         congr 1
         rw [inst5, if_neg (by clear hx hQx hsx hsxd hsxa hsxb hsxc; rw [← hu5]; first | omega | (simp_all; done) | (rintro (h | h | h | h) <;> first | omega | (simp_all; done))), if_neg (by clear hx hQx hsx hsxd hsxa hsxb hsxc hu5; first | omega | (simp_all; done) | (simp_all; omega)), if_pos (by simp_all)]
        refine W.skip ?_
        refine N.seq ?_
        refine W.seq ?_
        refine W.region ?_
        refine WL.fieldAddr fo_69_4 rfl rfl rfl ?_
        refine WL.load1 (v := .string x.name) one_9 rfl rfl rfl (hS.cell 0 rfl rfl) ?_
        refine WL.eqStr rfl rfl rfl rfl ?_
        refine WL.assign rfl rfl rfl ?_
        refine WL.nil ?_
        refine N.seq ?_
        refine Fin.ret1 rfl (v := .bool (decide (x.name = ⟨#[]⟩))) rfl ?_
        have hbz := hS.below
        clear hS
        refine ⟨?_, hbz⟩
        congr 1
        rw [inst5, if_neg (by clear hx hQx hsx hsxd hsxa hsxb hsxc; rw [← hu5]; first | omega | (simp_all; done) | (rintro (h | h | h | h) <;> first | omega | (simp_all; done))), if_neg (by clear hx hQx hsx hsxd hsxa hsxb hsxc hu5; first | omega | (simp_all; done) | (simp_all; omega)), if_neg (by simp_all)]
       have hg53p : ¬ (x.op = 14) := by simpa using hg53
       refine WL.fieldAddr fo_69_5 rfl rfl rfl ?_
       refine WL.load1 (v := .slice adx x.args.length capx) one_55 rfl rfl rfl (hS.cell 0 rfl rfl) ?_
       refine WL.lenSlice Tryd.underlying55 rfl rfl rfl ?_
       refine WL.bin rfl rfl rfl rfl rfl ?_
       refine WL.pick (v := .bool (decide (0 < (x.args.length : Int)))) rfl rfl rfl rfl rfl rfl ?_
       refine WL.pick (v := .bool (decide (0 < (x.args.length : Int)))) rfl rfl rfl rfl rfl rfl ?_
       refine WL.nil ?_
       refine N.seq ?_
       refine W.cond rfl (fun hc57 => ?_) (fun hc57 => ?_)
       ·
        have hc57p : 0 < (x.args.length : Int) := by simpa using hc57
        refine W.seq ?_
        refine W.region ?_
        refine WL.assign rfl rfl rfl ?_
        refine WL.nil ?_
        refine N.seq ?_
        refine Fin.ret1 rfl (v := .bool false) rfl ?_
        have hbz := hS.below
        clear hS
        refine ⟨?_, hbz⟩
        congr 1
        rw [inst5, if_neg (by clear hx hQx hsx hsxd hsxa hsxb hsxc; rw [← hu5]; first | omega | (simp_all; done) | (rintro (h | h | h | h) <;> first | omega | (simp_all; done))), if_pos (by clear hx hQx hsx hsxd hsxa hsxb hsxc hu5; first | omega | (simp_all; done) | (simp_all; omega))]
       have hc57p : ¬ (0 < (x.args.length : Int)) := by simpa using hc57
       refine W.skip ?_
       refine N.seq ?_
       refine W.seq ?_
       refine W.region ?_
       refine WL.loadN (cs := [.int .i64 x.op, .int .i64 x.a, .int .i64 x.b, .int .u64 x.k, .string x.name, .slice adx x.args.length capx]) agg_69 rfl rfl rfl rfl (hS.cells 0 (m := 6) rfl rfl) ?_
       refine WL.callF (vs := [.agg #[.int .i64 x.op, .int .i64 x.a, .int .i64 x.b, .int .u64 x.k, .string x.name, .slice adx x.args.length capx]]) Tryd.func31 (by kernel_rfl) rfl rfl rfl (named5_ret x _ (ro := ro) (fun b hb => (hS.snap b hb).1) (hQx.keep hS.alike)) ?_
       rintro v w58 ⟨rfl, hbl⟩
       replace hS := hS.grow hbl
       refine WL.assign rfl rfl rfl ?_
       refine WL.nil ?_
       refine N.seq ?_
       refine W.seq ?_
       refine W.seq ?_
       refine W.region ?_
       refine WL.move rfl rfl rfl ?_
       refine WL.nil ?_
       refine N.seq ?_
       refine W.cond rfl (fun hc59 => ?_) (fun hc59 => ?_)
       ·
        refine W.seq ?_
        refine W.region ?_
        refine WL.fieldAddr fo_69_4 rfl rfl rfl ?_
        refine WL.load1 (v := .string x.name) one_9 rfl rfl rfl (hS.cell 0 rfl rfl) ?_
        refine WL.callF (vs := [.string x.name]) Tryd.func21 (by kernel_rfl) rfl rfl rfl (name5_ret x.name hnx (ro := ro) (fun b hb => (hS.snap b hb).1)) ?_
        rintro v w60 ⟨rfl, hbl⟩
        replace hS := hS.grow hbl
        refine WL.assign rfl rfl rfl ?_
        refine WL.nil ?_
        refine N.seq ?_
        refine Fin.ret1 rfl (v := .bool (name5 x.name)) rfl ?_
        have hbz := hS.below
        clear hS
        refine ⟨?_, hbz⟩
        congr 1
        rw [inst5, if_neg (by clear hx hQx hsx hsxd hsxa hsxb hsxc; rw [← hu5]; first | omega | (simp_all; done) | (rintro (h | h | h | h) <;> first | omega | (simp_all; done))), if_neg (by clear hx hQx hsx hsxd hsxa hsxb hsxc hu5; first | omega | (simp_all; done) | (simp_all; omega)), if_pos (by simp_all)]
       refine W.skip ?_
       refine N.seq ?_
       refine W.seq ?_
       refine W.region ?_
       refine WL.fieldAddr fo_69_4 rfl rfl rfl ?_
       refine WL.load1 (v := .string x.name) one_9 rfl rfl rfl (hS.cell 0 rfl rfl) ?_
       refine WL.eqStr rfl rfl rfl rfl ?_
       refine WL.assign rfl rfl rfl ?_
       refine WL.nil ?_
       refine N.seq ?_
       refine Fin.ret1 rfl (v := .bool (decide (x.name = ⟨#[]⟩))) rfl ?_
       have hbz := hS.below
       clear hS
       refine ⟨?_, hbz⟩
       congr 1
       rw [inst5, if_neg (by clear hx hQx hsx hsxd hsxa hsxb hsxc; rw [← hu5]; first | omega | (simp_all; done) | (rintro (h | h | h | h) <;> first | omega | (simp_all; done))), if_neg (by clear hx hQx hsx hsxd hsxa hsxb hsxc hu5; first | omega | (simp_all; done) | (simp_all; omega)), if_neg (by simp_all)]
      have hg52p : ¬ (x.op = 1) := by simpa using hg52
      refine WL.fieldAddr fo_69_3 rfl rfl rfl ?_
      refine WL.load1 (v := .int .u64 x.k) one_52 rfl rfl rfl (hS.cell 0 rfl rfl) ?_
      refine WL.bin rfl rfl rfl rfl rfl ?_
      refine WL.pick (v := .bool (!decide (x.k = 0))) rfl rfl rfl rfl rfl rfl ?_
      refine WL.pick (v := .bool (!decide (x.k = 0))) rfl rfl rfl rfl rfl rfl ?_
      refine WL.move rfl rfl rfl ?_
      cases hg61 : (!decide (x.k = 0))
      ·
       have hg61p : x.k = 0 := by simpa using hg61
       refine WL.fieldAddr fo_69_0 rfl rfl rfl ?_
       refine WL.load1 (v := .int .i64 x.op) one_3 rfl rfl rfl (hS.cell 0 rfl rfl) ?_
       refine WL.bin rfl rfl rfl rfl rfl ?_
       refine WL.move rfl rfl rfl ?_
       cases hg62 : (!decide (x.op = 14))
       ·
        have hg62p : x.op = 14 := by simpa using hg62
        refine WL.skp rfl rfl ?_
        refine WL.skp rfl rfl ?_
        refine WL.skp rfl rfl ?_
        refine WL.skp rfl rfl ?_
        refine WL.pick (v := .bool false) rfl rfl rfl rfl rfl rfl ?_
        refine WL.pick (v := .bool false) rfl rfl rfl rfl rfl rfl ?_
        refine WL.nil ?_
        refine N.seq ?_
        refine W.condF rfl ?_
        refine W.skip ?_
        refine N.seq ?_
        refine W.seq ?_
        refine W.region ?_
        refine WL.loadN (cs := [.int .i64 x.op, .int .i64 x.a, .int .i64 x.b, .int .u64 x.k, .string x.name, .slice adx x.args.length capx]) agg_69 rfl rfl rfl rfl (hS.cells 0 (m := 6) rfl rfl) ?_
        refine WL.callF (vs := [.agg #[.int .i64 x.op, .int .i64 x.a, .int .i64 x.b, .int .u64 x.k, .string x.name, .slice adx x.args.length capx]]) Tryd.func31 (by kernel_rfl) rfl rfl rfl (named5_ret x _ (ro := ro) (fun b hb => (hS.snap b hb).1) (hQx.keep hS.alike)) ?_
        rintro v w63 ⟨rfl, hbl⟩
        replace hS := hS.grow hbl
        refine WL.assign rfl rfl rfl ?_
        refine WL.nil ?_
        refine N.seq ?_
        refine W.seq ?_
        refine W.seq ?_
        refine W.region ?_
        refine WL.move rfl rfl rfl ?_
        refine WL.nil ?_
        refine N.seq ?_
        refine W.cond rfl (fun hc64 => ?_) (fun hc64 => ?_)
        ·
         refine W.seq ?_
         refine W.region ?_
         refine WL.fieldAddr fo_69_4 rfl rfl rfl ?_
         refine WL.load1 (v := .string x.name) one_9 rfl rfl rfl (hS.cell 0 rfl rfl) ?_
         refine WL.callF (vs := [.string x.name]) Tryd.func21 (by kernel_rfl) rfl rfl rfl (name5_ret x.name hnx (ro := ro) (fun b hb => (hS.snap b hb).1)) ?_
         rintro v w65 ⟨rfl, hbl⟩
         replace hS := hS.grow hbl
         refine WL.assign rfl rfl rfl ?_
         refine WL.nil ?_
         refine N.seq ?_
         refine Fin.ret1 rfl (v := .bool (name5 x.name)) rfl ?_
         have hbz := hS.below
         clear hS
         refine ⟨?_, hbz⟩
         congr 1
         rw [inst5, if_neg (by clear hx hQx hsx hsxd hsxa hsxb hsxc; rw [← hu5]; first | omega | (simp_all; done) | (rintro (h | h | h | h) <;> first | omega | (simp_all; done))), if_neg (by clear hx hQx hsx hsxd hsxa hsxb hsxc hu5; first | omega | (simp_all; done) | (simp_all; omega)), if_pos (by simp_all)]
        refine W.skip ?_
        refine N.seq ?_
        refine W.seq ?_
        refine W.region ?_
        refine WL.fieldAddr fo_69_4 rfl rfl rfl ?_
        refine WL.load1 (v := .string x.name) one_9 rfl rfl rfl (hS.cell 0 rfl rfl) ?_
        refine WL.eqStr rfl rfl rfl rfl ?_
        refine WL.assign rfl rfl rfl ?_
        refine WL.nil ?_
        refine N.seq ?_
        refine Fin.ret1 rfl (v := .bool (decide (x.name = ⟨#[]⟩))) rfl ?_
        have hbz := hS.below
        clear hS
        refine ⟨?_, hbz⟩
        congr 1
        rw [inst5, if_neg (by clear hx hQx hsx hsxd hsxa hsxb hsxc; rw [← hu5]; first | omega | (simp_all; done) | (rintro (h | h | h | h) <;> first | omega | (simp_all; done))), if_neg (by clear hx hQx hsx hsxd hsxa hsxb hsxc hu5; first | omega | (simp_all; done) | (simp_all; omega)), if_neg (by simp_all)]
       have hg62p : ¬ (x.op = 14) := by simpa using hg62
       refine WL.fieldAddr fo_69_5 rfl rfl rfl ?_
       refine WL.load1 (v := .slice adx x.args.length capx) one_55 rfl rfl rfl (hS.cell 0 rfl rfl) ?_
       refine WL.lenSlice Tryd.underlying55 rfl rfl rfl ?_
       refine WL.bin rfl rfl rfl rfl rfl ?_
       refine WL.pick (v := .bool (decide (0 < (x.args.length : Int)))) rfl rfl rfl rfl rfl rfl ?_
       refine WL.pick (v := .bool (decide (0 < (x.args.length : Int)))) rfl rfl rfl rfl rfl rfl ?_
       refine WL.nil ?_
       refine N.seq ?_
       refine W.cond rfl (fun hc66 => ?_) (fun hc66 => ?_)
       ·
        have hc66p : 0 < (x.args.length : Int) := by simpa using hc66
        refine W.seq ?_
        refine W.region ?_
        refine WL.assign rfl rfl rfl ?_
        refine WL.nil ?_
        refine N.seq ?_
        refine Fin.ret1 rfl (v := .bool false) rfl ?_
        have hbz := hS.below
        clear hS
        refine ⟨?_, hbz⟩
        congr 1
        rw [inst5, if_neg (by clear hx hQx hsx hsxd hsxa hsxb hsxc; rw [← hu5]; first | omega | (simp_all; done) | (rintro (h | h | h | h) <;> first | omega | (simp_all; done))), if_pos (by clear hx hQx hsx hsxd hsxa hsxb hsxc hu5; first | omega | (simp_all; done) | (simp_all; omega))]
       have hc66p : ¬ (0 < (x.args.length : Int)) := by simpa using hc66
       refine W.skip ?_
       refine N.seq ?_
       refine W.seq ?_
       refine W.region ?_
       refine WL.loadN (cs := [.int .i64 x.op, .int .i64 x.a, .int .i64 x.b, .int .u64 x.k, .string x.name, .slice adx x.args.length capx]) agg_69 rfl rfl rfl rfl (hS.cells 0 (m := 6) rfl rfl) ?_
       refine WL.callF (vs := [.agg #[.int .i64 x.op, .int .i64 x.a, .int .i64 x.b, .int .u64 x.k, .string x.name, .slice adx x.args.length capx]]) Tryd.func31 (by kernel_rfl) rfl rfl rfl (named5_ret x _ (ro := ro) (fun b hb => (hS.snap b hb).1) (hQx.keep hS.alike)) ?_
       rintro v w67 ⟨rfl, hbl⟩
       replace hS := hS.grow hbl
       refine WL.assign rfl rfl rfl ?_
       refine WL.nil ?_
       refine N.seq ?_
       refine W.seq ?_
       refine W.seq ?_
       refine W.region ?_
       refine WL.move rfl rfl rfl ?_
       refine WL.nil ?_
       refine N.seq ?_
       refine W.cond rfl (fun hc68 => ?_) (fun hc68 => ?_)
       ·
        refine W.seq ?_
        refine W.region ?_
        refine WL.fieldAddr fo_69_4 rfl rfl rfl ?_
        refine WL.load1 (v := .string x.name) one_9 rfl rfl rfl (hS.cell 0 rfl rfl) ?_
        refine WL.callF (vs := [.string x.name]) Tryd.func21 (by kernel_rfl) rfl rfl rfl (name5_ret x.name hnx (ro := ro) (fun b hb => (hS.snap b hb).1)) ?_
        rintro v w69 ⟨rfl, hbl⟩
        replace hS := hS.grow hbl
        refine WL.assign rfl rfl rfl ?_
        refine WL.nil ?_
        refine N.seq ?_
        refine Fin.ret1 rfl (v := .bool (name5 x.name)) rfl ?_
        have hbz := hS.below
        clear hS
        refine ⟨?_, hbz⟩
        congr 1
        rw [inst5, if_neg (by clear hx hQx hsx hsxd hsxa hsxb hsxc; rw [← hu5]; first | omega | (simp_all; done) | (rintro (h | h | h | h) <;> first | omega | (simp_all; done))), if_neg (by clear hx hQx hsx hsxd hsxa hsxb hsxc hu5; first | omega | (simp_all; done) | (simp_all; omega)), if_pos (by simp_all)]
       refine W.skip ?_
       refine N.seq ?_
       refine W.seq ?_
       refine W.region ?_
       refine WL.fieldAddr fo_69_4 rfl rfl rfl ?_
       refine WL.load1 (v := .string x.name) one_9 rfl rfl rfl (hS.cell 0 rfl rfl) ?_
       refine WL.eqStr rfl rfl rfl rfl ?_
       refine WL.assign rfl rfl rfl ?_
       refine WL.nil ?_
       refine N.seq ?_
       refine Fin.ret1 rfl (v := .bool (decide (x.name = ⟨#[]⟩))) rfl ?_
       have hbz := hS.below
       clear hS
       refine ⟨?_, hbz⟩
       congr 1
       rw [inst5, if_neg (by clear hx hQx hsx hsxd hsxa hsxb hsxc; rw [← hu5]; first | omega | (simp_all; done) | (rintro (h | h | h | h) <;> first | omega | (simp_all; done))), if_neg (by clear hx hQx hsx hsxd hsxa hsxb hsxc hu5; first | omega | (simp_all; done) | (simp_all; omega)), if_neg (by simp_all)]
      have hg61p : ¬ (x.k = 0) := by simpa using hg61
      refine WL.skp rfl rfl ?_
      refine WL.skp rfl rfl ?_
      refine WL.skp rfl rfl ?_
      refine WL.skp rfl rfl ?_
      refine WL.skp rfl rfl ?_
      refine WL.skp rfl rfl ?_
      refine WL.skp rfl rfl ?_
      refine WL.skp rfl rfl ?_
      refine WL.skp rfl rfl ?_
      refine WL.pick (v := .bool true) rfl rfl rfl rfl rfl rfl ?_
      refine WL.nil ?_
      refine N.seq ?_
      refine W.condT rfl ?_
      refine W.seq ?_
      refine W.region ?_
      refine WL.assign rfl rfl rfl ?_
      refine WL.nil ?_
      refine N.seq ?_
      refine Fin.ret1 rfl (v := .bool false) rfl ?_
      have hbz := hS.below
      clear hS
      refine ⟨?_, hbz⟩
      congr 1
      rw [inst5, if_neg (by clear hx hQx hsx hsxd hsxa hsxb hsxc; rw [← hu5]; first | omega | (simp_all; done) | (rintro (h | h | h | h) <;> first | omega | (simp_all; done))), if_pos (by clear hx hQx hsx hsxd hsxa hsxb hsxc hu5; first | omega | (simp_all; done) | (simp_all; omega))]
     have hg51p : ¬ (x.b = 0) := by simpa using hg51
     refine WL.skp rfl rfl ?_
     refine WL.skp rfl rfl ?_
     refine WL.skp rfl rfl ?_
     refine WL.skp rfl rfl ?_
     refine WL.skp rfl rfl ?_
     refine WL.skp rfl rfl ?_
     refine WL.skp rfl rfl ?_
     refine WL.skp rfl rfl ?_
     refine WL.pick (v := .bool true) rfl rfl rfl rfl rfl rfl ?_
     refine WL.move rfl rfl rfl ?_
     refine WL.skp rfl rfl ?_
     refine WL.skp rfl rfl ?_
     refine WL.skp rfl rfl ?_
     refine WL.skp rfl rfl ?_
     refine WL.skp rfl rfl ?_
     refine WL.skp rfl rfl ?_
     refine WL.skp rfl rfl ?_
     refine WL.skp rfl rfl ?_
     refine WL.skp rfl rfl ?_
     refine WL.pick (v := .bool true) rfl rfl rfl rfl rfl rfl ?_
     refine WL.nil ?_
     refine N.seq ?_
     refine W.condT rfl ?_
     refine W.seq ?_
     refine W.region ?_
     refine WL.assign rfl rfl rfl ?_
     refine WL.nil ?_
     refine N.seq ?_
     refine Fin.ret1 rfl (v := .bool false) rfl ?_
     have hbz := hS.below
     clear hS
     refine ⟨?_, hbz⟩
     congr 1
     rw [inst5, if_neg (by clear hx hQx hsx hsxd hsxa hsxb hsxc; rw [← hu5]; first | omega | (simp_all; done) | (rintro (h | h | h | h) <;> first | omega | (simp_all; done))), if_pos (by clear hx hQx hsx hsxd hsxa hsxb hsxc hu5; first | omega | (simp_all; done) | (simp_all; omega))]
    have hg9p : 2 ≤ x.op := by simpa using hg9
    refine WL.fieldAddr fo_69_0 rfl rfl rfl ?_
    refine WL.load1 (v := .int .i64 x.op) one_3 rfl rfl rfl (hS.cell 0 rfl rfl) ?_
    refine WL.bin rfl rfl rfl rfl rfl ?_
    refine WL.pick (v := .bool (decide (x.op ≤ 11))) rfl rfl rfl rfl rfl rfl ?_
    refine WL.move rfl rfl rfl ?_
    cases hg70 : (decide (x.op ≤ 11))
    ·
     have hg70p : ¬ (x.op ≤ 11) := by simpa using hg70
     refine WL.fieldAddr fo_69_0 rfl rfl rfl ?_
     refine WL.load1 (v := .int .i64 x.op) one_3 rfl rfl rfl (hS.cell 0 rfl rfl) ?_
     refine WL.bin rfl rfl rfl rfl rfl ?_
     refine WL.pick (v := .bool (decide (x.op = 13))) rfl rfl rfl rfl rfl rfl ?_
     refine WL.move rfl rfl rfl ?_
     cases hg71 : (decide (x.op = 13))
     ·
      have hg71p : ¬ (x.op = 13) := by simpa using hg71
      refine WL.fieldAddr fo_69_0 rfl rfl rfl ?_
      refine WL.load1 (v := .int .i64 x.op) one_3 rfl rfl rfl (hS.cell 0 rfl rfl) ?_
      refine WL.bin rfl rfl rfl rfl rfl ?_
      refine WL.pick (v := .bool (decide (x.op = 16))) rfl rfl rfl rfl rfl rfl ?_
      refine WL.assign rfl rfl rfl ?_
      refine WL.nil ?_
      refine N.seq ?_
      refine W.seq ?_
      refine W.region ?_
      refine WL.fieldAddr fo_69_0 rfl rfl rfl ?_
      refine WL.load1 (v := .int .i64 x.op) one_3 rfl rfl rfl (hS.cell 0 rfl rfl) ?_
      refine WL.bin rfl rfl rfl rfl rfl ?_
      refine WL.set 51 (v' := .bool true) rfl (by rw [hg9]) ?_
      refine WL.move rfl rfl rfl ?_
      refine WL.fieldAddr fo_69_0 rfl rfl rfl ?_
      refine WL.load1 (v := .int .i64 x.op) one_3 rfl rfl rfl (hS.cell 0 rfl rfl) ?_
      refine WL.bin rfl rfl rfl rfl rfl ?_
      refine WL.set 55 (v' := .bool false) rfl (by rw [hg70]) ?_
      refine WL.pick (v := .bool false) rfl rfl rfl rfl rfl rfl ?_
      refine WL.assign rfl rfl rfl ?_
      refine WL.nil ?_
      refine N.seq ?_
      refine W.seq ?_
      refine W.seq ?_
      refine W.region ?_
      refine WL.move rfl rfl rfl ?_
      refine WL.not rfl rfl rfl ?_
      refine WL.move rfl rfl rfl ?_
      cases hg72 : (!(decide (x.op = 16)))
      ·
       have hg72p : x.op = 16 := by simpa using hg72
       refine WL.skp rfl rfl ?_
       refine WL.skp rfl rfl ?_
       refine WL.skp rfl rfl ?_
       refine WL.pick (v := .bool false) rfl rfl rfl rfl rfl rfl ?_
       refine WL.move rfl rfl rfl ?_
       refine WL.move rfl rfl rfl ?_
       refine WL.not rfl rfl rfl ?_
       refine WL.set 66 (v' := .bool true) rfl rfl ?_
       refine WL.move rfl rfl rfl ?_
       refine WL.fieldAddr fo_69_2 rfl rfl rfl ?_
       refine WL.load1 (v := .int .i64 x.b) one_3 rfl rfl rfl (hS.cell 0 rfl rfl) ?_
       refine WL.bin rfl rfl rfl rfl rfl ?_
       refine WL.pick (v := .bool (!decide (x.b = 0))) rfl rfl rfl rfl rfl rfl ?_
       refine WL.pick (v := .bool (!decide (x.b = 0))) rfl rfl rfl rfl rfl rfl ?_
       refine WL.move rfl rfl rfl ?_
       cases hg73 : (!decide (x.b = 0))
       ·
        have hg73p : x.b = 0 := by simpa using hg73
        refine WL.fieldAddr fo_69_0 rfl rfl rfl ?_
        refine WL.load1 (v := .int .i64 x.op) one_3 rfl rfl rfl (hS.cell 0 rfl rfl) ?_
        refine WL.bin rfl rfl rfl rfl rfl ?_
        refine WL.move rfl rfl rfl ?_
        cases hg74 : (!decide (x.op = 1))
        ·
         have hg74p : x.op = 1 := by simpa using hg74
         refine WL.skp rfl rfl ?_
         refine WL.skp rfl rfl ?_
         refine WL.skp rfl rfl ?_
         refine WL.pick (v := .bool false) rfl rfl rfl rfl rfl rfl ?_
         refine WL.pick (v := .bool false) rfl rfl rfl rfl rfl rfl ?_
         refine WL.move rfl rfl rfl ?_
         refine WL.fieldAddr fo_69_0 rfl rfl rfl ?_
         refine WL.load1 (v := .int .i64 x.op) one_3 rfl rfl rfl (hS.cell 0 rfl rfl) ?_
         refine WL.bin rfl rfl rfl rfl rfl ?_
         refine WL.move rfl rfl rfl ?_
         cases hg75 : (!decide (x.op = 14))
         ·
          have hg75p : x.op = 14 := by simpa using hg75
          refine WL.skp rfl rfl ?_
          refine WL.skp rfl rfl ?_
          refine WL.skp rfl rfl ?_
          refine WL.skp rfl rfl ?_
          refine WL.pick (v := .bool false) rfl rfl rfl rfl rfl rfl ?_
          refine WL.pick (v := .bool false) rfl rfl rfl rfl rfl rfl ?_
          refine WL.nil ?_
          refine N.seq ?_
          refine W.condF rfl ?_
          refine W.skip ?_
          refine N.seq ?_
          refine W.seq ?_
          refine W.region ?_
          refine WL.loadN (cs := [.int .i64 x.op, .int .i64 x.a, .int .i64 x.b, .int .u64 x.k, .string x.name, .slice adx x.args.length capx]) agg_69 rfl rfl rfl rfl (hS.cells 0 (m := 6) rfl rfl) ?_
          refine WL.callF (vs := [.agg #[.int .i64 x.op, .int .i64 x.a, .int .i64 x.b, .int .u64 x.k, .string x.name, .slice adx x.args.length capx]]) Tryd.func31 (by kernel_rfl) rfl rfl rfl (named5_ret x _ (ro := ro) (fun b hb => (hS.snap b hb).1) (hQx.keep hS.alike)) ?_
          rintro v w76 ⟨rfl, hbl⟩
          replace hS := hS.grow hbl
          refine WL.assign rfl rfl rfl ?_
          refine WL.nil ?_
          refine N.seq ?_
          refine W.seq ?_
          refine W.seq ?_
          refine W.region ?_
          refine WL.move rfl rfl rfl ?_
          refine WL.nil ?_
          refine N.seq ?_
          refine W.cond rfl (fun hc77 => ?_) (fun hc77 => ?_)
          ·
           refine W.seq ?_
           refine W.region ?_
           refine WL.fieldAddr fo_69_4 rfl rfl rfl ?_
           refine WL.load1 (v := .string x.name) one_9 rfl rfl rfl (hS.cell 0 rfl rfl) ?_
           refine WL.callF (vs := [.string x.name]) Tryd.func21 (by kernel_rfl) rfl rfl rfl (name5_ret x.name hnx (ro := ro) (fun b hb => (hS.snap b hb).1)) ?_
           rintro v w78 ⟨rfl, hbl⟩
           replace hS := hS.grow hbl
           refine WL.assign rfl rfl rfl ?_
           refine WL.nil ?_
           refine N.seq ?_
           refine Fin.ret1 rfl (v := .bool (name5 x.name)) rfl ?_
           have hbz := hS.below
           clear hS
           refine ⟨?_, hbz⟩
           congr 1
           rw [inst5, if_neg (by clear hx hQx hsx hsxd hsxa hsxb hsxc; rw [← hu5]; first | omega | (simp_all; done) | (rintro (h | h | h | h) <;> first | omega | (simp_all; done))), if_neg (by clear hx hQx hsx hsxd hsxa hsxb hsxc hu5; first | omega | (simp_all; done) | (simp_all; omega)), if_pos (by simp_all)]
          refine W.skip ?_
          refine N.seq ?_
          refine W.seq ?_
          refine W.region ?_
          refine WL.fieldAddr fo_69_4 rfl rfl rfl ?_
          refine WL.load1 (v := .string x.name) one_9 rfl rfl rfl (hS.cell 0 rfl rfl) ?_
          refine WL.eqStr rfl rfl rfl rfl ?_
          refine WL.assign rfl rfl rfl ?_
          refine WL.nil ?_
          refine N.seq ?_
          refine Fin.ret1 rfl (v := .bool (decide (x.name = ⟨#[]⟩))) rfl ?_
          have hbz := hS.below
          clear hS
          refine ⟨?_, hbz⟩
          congr 1
          rw [inst5, if_neg (by clear hx hQx hsx hsxd hsxa hsxb hsxc; rw [← hu5]; first | omega | (simp_all; done) | (rintro (h | h | h | h) <;> first | omega | (simp_all; done))), if_neg (by clear hx hQx hsx hsxd hsxa hsxb hsxc hu5; first | omega | (simp_all; done) | (simp_all; omega)), if_neg (by simp_all)]
         have hg75p : ¬ (x.op = 14) := by simpa using hg75
         refine WL.fieldAddr fo_69_5 rfl rfl rfl ?_
         refine WL.load1 (v := .slice adx x.args.length capx) one_55 rfl rfl rfl (hS.cell 0 rfl rfl) ?_
         refine WL.lenSlice Tryd.underlying55 rfl rfl rfl ?_
         refine WL.bin rfl rfl rfl rfl rfl ?_
         refine WL.pick (v := .bool (decide (0 < (x.args.length : Int)))) rfl rfl rfl rfl rfl rfl ?_
         refine WL.pick (v := .bool (decide (0 < (x.args.length : Int)))) rfl rfl rfl rfl rfl rfl ?_
         refine WL.nil ?_
         refine N.seq ?_
         refine W.cond rfl (fun hc79 => ?_) (fun hc79 => ?_)
         ·
          have hc79p : 0 < (x.args.length : Int) := by simpa using hc79
          refine W.seq ?_
          refine W.region ?_
          refine WL.assign rfl rfl rfl ?_
          refine WL.nil ?_
          refine N.seq ?_
          refine Fin.ret1 rfl (v := .bool false) rfl ?_
          have hbz := hS.below
          clear hS
          refine ⟨?_, hbz⟩
          congr 1
          rw [inst5, if_neg (by clear hx hQx hsx hsxd hsxa hsxb hsxc; rw [← hu5]; first | omega | (simp_all; done) | (rintro (h | h | h | h) <;> first | omega | (simp_all; done))), if_pos (by clear hx hQx hsx hsxd hsxa hsxb hsxc hu5; first | omega | (simp_all; done) | (simp_all; omega))]
         have hc79p : ¬ (0 < (x.args.length : Int)) := by simpa using hc79
         refine W.skip ?_
         refine N.seq ?_
         refine W.seq ?_
         refine W.region ?_
         refine WL.loadN (cs := [.int .i64 x.op, .int .i64 x.a, .int .i64 x.b, .int .u64 x.k, .string x.name, .slice adx x.args.length capx]) agg_69 rfl rfl rfl rfl (hS.cells 0 (m := 6) rfl rfl) ?_
         refine WL.callF (vs := [.agg #[.int .i64 x.op, .int .i64 x.a, .int .i64 x.b, .int .u64 x.k, .string x.name, .slice adx x.args.length capx]]) Tryd.func31 (by kernel_rfl) rfl rfl rfl (named5_ret x _ (ro := ro) (fun b hb => (hS.snap b hb).1) (hQx.keep hS.alike)) ?_
         rintro v w80 ⟨rfl, hbl⟩
         replace hS := hS.grow hbl
         refine WL.assign rfl rfl rfl ?_
         refine WL.nil ?_
         refine N.seq ?_
         refine W.seq ?_
         refine W.seq ?_
         refine W.region ?_
         refine WL.move rfl rfl rfl ?_
         refine WL.nil ?_
         refine N.seq ?_
         refine W.cond rfl (fun hc81 => ?_) (fun hc81 => ?_)
         ·
          refine W.seq ?_
          refine W.region ?_
          refine WL.fieldAddr fo_69_4 rfl rfl rfl ?_
          refine WL.load1 (v := .string x.name) one_9 rfl rfl rfl (hS.cell 0 rfl rfl) ?_
          refine WL.callF (vs := [.string x.name]) Tryd.func21 (by kernel_rfl) rfl rfl rfl (name5_ret x.name hnx (ro := ro) (fun b hb => (hS.snap b hb).1)) ?_
          rintro v w82 ⟨rfl, hbl⟩
          replace hS := hS.grow hbl
          refine WL.assign rfl rfl rfl ?_
          refine WL.nil ?_
          refine N.seq ?_
          refine Fin.ret1 rfl (v := .bool (name5 x.name)) rfl ?_
          have hbz := hS.below
          clear hS
          refine ⟨?_, hbz⟩
          congr 1
          rw [inst5, if_neg (by clear hx hQx hsx hsxd hsxa hsxb hsxc; rw [← hu5]; first | omega | (simp_all; done) | (rintro (h | h | h | h) <;> first | omega | (simp_all; done))), if_neg (by clear hx hQx hsx hsxd hsxa hsxb hsxc hu5; first | omega | (simp_all; done) | (simp_all; omega)), if_pos (by simp_all)]
         refine W.skip ?_
         refine N.seq ?_
         refine W.seq ?_
         refine W.region ?_
         refine WL.fieldAddr fo_69_4 rfl rfl rfl ?_
         refine WL.load1 (v := .string x.name) one_9 rfl rfl rfl (hS.cell 0 rfl rfl) ?_
         refine WL.eqStr rfl rfl rfl rfl ?_
         refine WL.assign rfl rfl rfl ?_
         refine WL.nil ?_
         refine N.seq ?_
         refine Fin.ret1 rfl (v := .bool (decide (x.name = ⟨#[]⟩))) rfl ?_
         have hbz := hS.below
         clear hS
         refine ⟨?_, hbz⟩
         congr 1
         rw [inst5, if_neg (by clear hx hQx hsx hsxd hsxa hsxb hsxc; rw [← hu5]; first | omega | (simp_all; done) | (rintro (h | h | h | h) <;> first | omega | (simp_all; done))), if_neg (by clear hx hQx hsx hsxd hsxa hsxb hsxc hu5; first | omega | (simp_all; done) | (simp_all; omega)), if_neg (by simp_all)]
        have hg74p : ¬ (x.op = 1) := by simpa using hg74
        refine WL.fieldAddr fo_69_3 rfl rfl rfl ?_
        refine WL.load1 (v := .int .u64 x.k) one_52 rfl rfl rfl (hS.cell 0 rfl rfl) ?_
        refine WL.bin rfl rfl rfl rfl rfl ?_
        refine WL.pick (v := .bool (!decide (x.k = 0))) rfl rfl rfl rfl rfl rfl ?_
        refine WL.pick (v := .bool (!decide (x.k = 0))) rfl rfl rfl rfl rfl rfl ?_
        refine WL.move rfl rfl rfl ?_
        cases hg83 : (!decide (x.k = 0))
        ·
         have hg83p : x.k = 0 := by simpa using hg83
         refine WL.fieldAddr fo_69_0 rfl rfl rfl ?_
         refine WL.load1 (v := .int .i64 x.op) one_3 rfl rfl rfl (hS.cell 0 rfl rfl) ?_
         refine WL.bin rfl rfl rfl rfl rfl ?_
         refine WL.move rfl rfl rfl ?_
         cases hg84 : (!decide (x.op = 14))
         ·
          have hg84p : x.op = 14 := by simpa using hg84
          refine WL.skp rfl rfl ?_
          refine WL.skp rfl rfl ?_
          refine WL.skp rfl rfl ?_
          refine WL.skp rfl rfl ?_
          refine WL.pick (v := .bool false) rfl rfl rfl rfl rfl rfl ?_
          refine WL.pick (v := .bool false) rfl rfl rfl rfl rfl rfl ?_
          refine WL.nil ?_
          refine N.seq ?_
          refine W.condF rfl ?_
          refine W.skip ?_
          refine N.seq ?_
          refine W.seq ?_
          refine W.region ?_
          refine WL.loadN (cs := [.int .i64 x.op, .int .i64 x.a, .int .i64 x.b, .int .u64 x.k, .string x.name, .slice adx x.args.length capx]) agg_69 rfl rfl rfl rfl (hS.cells 0 (m := 6) rfl rfl) ?_
          refine WL.callF (vs := [.agg #[.int .i64 x.op, .int .i64 x.a, .int .i64 x.b, .int .u64 x.k, .string x.name, .slice adx x.args.length capx]]) Tryd.func31 (by kernel_rfl) rfl rfl rfl (named5_ret x _ (ro := ro) (fun b hb => (hS.snap b hb).1) (hQx.keep hS.alike)) ?_
          rintro v w85 ⟨rfl, hbl⟩
          replace hS := hS.grow hbl
          refine WL.assign rfl rfl rfl ?_
          refine WL.nil ?_
          refine N.seq ?_
          refine W.seq ?_
          refine W.seq ?_
          refine W.region ?_
          refine WL.move rfl rfl rfl ?_
          refine WL.nil ?_
          refine N.seq ?_
          refine W.cond rfl (fun hc86 => ?_) (fun hc86 => ?_)
          ·
           refine W.seq ?_
           refine W.region ?_
           refine WL.fieldAddr fo_69_4 rfl rfl rfl ?_
           refine WL.load1 (v := .string x.name) one_9 rfl rfl rfl (hS.cell 0 rfl rfl) ?_
           refine WL.callF (vs := [.string x.name]) Tryd.func21 (by kernel_rfl) rfl rfl rfl (name5_ret x.name hnx (ro := ro) (fun b hb => (hS.snap b hb).1)) ?_
           rintro v w87 ⟨rfl, hbl⟩
           replace hS := hS.grow hbl
           refine WL.assign rfl rfl rfl ?_
           refine WL.nil ?_
           refine N.seq ?_
           refine Fin.ret1 rfl (v := .bool (name5 x.name)) rfl ?_
           have hbz := hS.below
           clear hS
           refine ⟨?_, hbz⟩
           congr 1
           rw [inst5, if_neg (by clear hx hQx hsx hsxd hsxa hsxb hsxc; rw [← hu5]; first | omega | (simp_all; done) | (rintro (h | h | h | h) <;> first | omega | (simp_all; done))), if_neg (by clear hx hQx hsx hsxd hsxa hsxb hsxc hu5; first | omega | (simp_all; done) | (simp_all; omega)), if_pos (by simp_all)]
          refine W.skip ?_
          refine N.seq ?_
          refine W.seq ?_
          refine W.region ?_
          refine WL.fieldAddr fo_69_4 rfl rfl rfl ?_
          refine WL.load1 (v := .string x.name) one_9 rfl rfl rfl (hS.cell 0 rfl rfl) ?_
          refine WL.eqStr rfl rfl rfl rfl ?_
          refine WL.assign rfl rfl rfl ?_
          refine WL.nil ?_
          refine N.seq ?_
          refine Fin.ret1 rfl (v := .bool (decide (x.name = ⟨#[]⟩))) rfl ?_
          have hbz := hS.below
          clear hS
          refine ⟨?_, hbz⟩
          congr 1
          rw [inst5, if_neg (by clear hx hQx hsx hsxd hsxa hsxb hsxc; rw [← hu5]; first | omega | (simp_all; done) | (rintro (h | h | h | h) <;> first | omega | (simp_all; done))), if_neg (by clear hx hQx hsx hsxd hsxa hsxb hsxc hu5; first | omega | (simp_all; done) | (simp_all; omega)), if_neg (by simp_all)]
         have hg84p : ¬ (x.op = 14) := by simpa using hg84
         refine WL.fieldAddr fo_69_5 rfl rfl rfl ?_
         refine WL.load1 (v := .slice adx x.args.length capx) one_55 rfl rfl rfl (hS.cell 0 rfl rfl) ?_
         refine WL.lenSlice Tryd.underlying55 rfl rfl rfl ?_
         refine WL.bin rfl rfl rfl rfl rfl ?_
         refine WL.pick (v := .bool (decide (0 < (x.args.length : Int)))) rfl rfl rfl rfl rfl rfl ?_
         refine WL.pick (v := .bool (decide (0 < (x.args.length : Int)))) rfl rfl rfl rfl rfl rfl ?_
         refine WL.nil ?_
         refine N.seq ?_
         refine W.cond rfl (fun hc88 => ?_) (fun hc88 => ?_)
         ·
          have hc88p : 0 < (x.args.length : Int) := by simpa using hc88
          refine W.seq ?_
          refine W.region ?_
          refine WL.assign rfl rfl rfl ?_
          refine WL.nil ?_
          refine N.seq ?_
          refine Fin.ret1 rfl (v := .bool false) rfl ?_
          have hbz := hS.below
          clear hS
          refine ⟨?_, hbz⟩
          congr 1
          rw [inst5, if_neg (by clear hx hQx hsx hsxd hsxa hsxb hsxc; rw [← hu5]; first | omega | (simp_all; done) | (rintro (h | h | h | h) <;> first | omega | (simp_all; done))), if_pos (by clear hx hQx hsx hsxd hsxa hsxb hsxc hu5; first | omega | (simp_all; done) | (simp_all; omega))]
         have hc88p : ¬ (0 < (x.args.length : Int)) := by simpa using hc88
         refine W.skip ?_
         refine N.seq ?_
         refine W.seq ?_
         refine W.region ?_
         refine WL.loadN (cs := [.int .i64 x.op, .int .i64 x.a, .int .i64 x.b, .int .u64 x.k, .string x.name, .slice adx x.args.length capx]) agg_69 rfl rfl rfl rfl (hS.cells 0 (m := 6) rfl rfl) ?_
         refine WL.callF (vs := [.agg #[.int .i64 x.op, .int .i64 x.a, .int .i64 x.b, .int .u64 x.k, .string x.name, .slice adx x.args.length capx]]) Tryd.func31 (by kernel_rfl) rfl rfl rfl (named5_ret x _ (ro := ro) (fun b hb => (hS.snap b hb).1) (hQx.keep hS.alike)) ?_
         rintro v w89 ⟨rfl, hbl⟩
         replace hS := hS.grow hbl
         refine WL.assign rfl rfl rfl ?_
         refine WL.nil ?_
         refine N.seq ?_
         refine W.seq ?_
         refine W.seq ?_
         refine W.region ?_
         refine WL.move rfl rfl rfl ?_
         refine WL.nil ?_
         refine N.seq ?_
         refine W.cond rfl (fun hc90 => ?_) (fun hc90 => ?_)
         ·
          refine W.seq ?_
          refine W.region ?_
          refine WL.fieldAddr fo_69_4 rfl rfl rfl ?_
          refine WL.load1 (v := .string x.name) one_9 rfl rfl rfl (hS.cell 0 rfl rfl) ?_
          refine WL.callF (vs := [.string x.name]) Tryd.func21 (by kernel_rfl) rfl rfl rfl (name5_ret x.name hnx (ro := ro) (fun b hb => (hS.snap b hb).1)) ?_
          rintro v w91 ⟨rfl, hbl⟩
          replace hS := hS.grow hbl
          refine WL.assign rfl rfl rfl ?_
          refine WL.nil ?_
          refine N.seq ?_
          refine Fin.ret1 rfl (v := .bool (name5 x.name)) rfl ?_
          have hbz := hS.below
          clear hS
          refine ⟨?_, hbz⟩
          congr 1
          rw [inst5, if_neg (by clear hx hQx hsx hsxd hsxa hsxb hsxc; rw [← hu5]; first | omega | (simp_all; done) | (rintro (h | h | h | h) <;> first | omega | (simp_all; done))), if_neg (by clear hx hQx hsx hsxd hsxa hsxb hsxc hu5; first | omega | (simp_all; done) | (simp_all; omega)), if_pos (by simp_all)]
         refine W.skip ?_
         refine N.seq ?_
         refine W.seq ?_
         refine W.region ?_
         refine WL.fieldAddr fo_69_4 rfl rfl rfl ?_
         refine WL.load1 (v := .string x.name) one_9 rfl rfl rfl (hS.cell 0 rfl rfl) ?_
         refine WL.eqStr rfl rfl rfl rfl ?_
         refine WL.assign rfl rfl rfl ?_
         refine WL.nil ?_
         refine N.seq ?_
         refine Fin.ret1 rfl (v := .bool (decide (x.name = ⟨#[]⟩))) rfl ?_
         have hbz := hS.below
         clear hS
         refine ⟨?_, hbz⟩
         congr 1
         rw [inst5, if_neg (by clear hx hQx hsx hsxd hsxa hsxb hsxc; rw [← hu5]; first | omega | (simp_all; done) | (rintro (h | h | h | h) <;> first | omega | (simp_all; done))), if_neg (by clear hx hQx hsx hsxd hsxa hsxb hsxc hu5; first | omega | (simp_all; done) | (simp_all; omega)), if_neg (by simp_all)]
        have hg83p : ¬ (x.k = 0) := by simpa using hg83
        refine WL.skp rfl rfl ?_
        refine WL.skp rfl rfl ?_
        refine WL.skp rfl rfl ?_
        refine WL.skp rfl rfl ?_
        refine WL.skp rfl rfl ?_
        refine WL.skp rfl rfl ?_
        refine WL.skp rfl rfl ?_
        refine WL.skp rfl rfl ?_
        refine WL.skp rfl rfl ?_
        refine WL.pick (v := .bool true) rfl rfl rfl rfl rfl rfl ?_
        refine WL.nil ?_
        refine N.seq ?_
        refine W.condT rfl ?_
        refine W.seq ?_
        refine W.region ?_
        refine WL.assign rfl rfl rfl ?_
        refine WL.nil ?_
        refine N.seq ?_
        refine Fin.ret1 rfl (v := .bool false) rfl ?_
        have hbz := hS.below
        clear hS
        refine ⟨?_, hbz⟩
        congr 1
        rw [inst5, if_neg (by clear hx hQx hsx hsxd hsxa hsxb hsxc; rw [← hu5]; first | omega | (simp_all; done) | (rintro (h | h | h | h) <;> first | omega | (simp_all; done))), if_pos (by clear hx hQx hsx hsxd hsxa hsxb hsxc hu5; first | omega | (simp_all; done) | (simp_all; omega))]
       have hg73p : ¬ (x.b = 0) := by simpa using hg73
       refine WL.skp rfl rfl ?_
       refine WL.skp rfl rfl ?_
       refine WL.skp rfl rfl ?_
       refine WL.skp rfl rfl ?_
       refine WL.skp rfl rfl ?_
       refine WL.skp rfl rfl ?_
       refine WL.skp rfl rfl ?_
       refine WL.skp rfl rfl ?_
       refine WL.pick (v := .bool true) rfl rfl rfl rfl rfl rfl ?_
       refine WL.move rfl rfl rfl ?_
       refine WL.skp rfl rfl ?_
       refine WL.skp rfl rfl ?_
       refine WL.skp rfl rfl ?_
       refine WL.skp rfl rfl ?_
       refine WL.skp rfl rfl ?_
       refine WL.skp rfl rfl ?_
       refine WL.skp rfl rfl ?_
       refine WL.skp rfl rfl ?_
       refine WL.skp rfl rfl ?_
       refine WL.pick (v := .bool true) rfl rfl rfl rfl rfl rfl ?_
       refine WL.nil ?_
       refine N.seq ?_
       refine W.condT rfl ?_
       refine W.seq ?_
       refine W.region ?_
       refine WL.assign rfl rfl rfl ?_
       refine WL.nil ?_
       refine N.seq ?_
       refine Fin.ret1 rfl (v := .bool false) rfl ?_
       have hbz := hS.below
       clear hS
       refine ⟨?_, hbz⟩
       congr 1
       rw [inst5, if_neg (by clear hx hQx hsx hsxd hsxa hsxb hsxc; rw [← hu5]; first | omega | (simp_all; done) | (rintro (h | h | h | h) <;> first | omega | (simp_all; done))), if_pos (by clear hx hQx hsx hsxd hsxa hsxb hsxc hu5; first | omega | (simp_all; done) | (simp_all; omega))]
      have hg72p : ¬ (x.op = 16) := by simpa using hg72
      refine WL.fieldAddr fo_69_1 rfl rfl rfl ?_
      refine WL.load1 (v := .int .i64 x.a) one_3 rfl rfl rfl (hS.cell 0 rfl rfl) ?_
      refine WL.bin rfl rfl rfl rfl rfl ?_
      refine WL.pick (v := .bool (!decide (x.a = 0))) rfl rfl rfl rfl rfl rfl ?_
      refine WL.move rfl rfl rfl ?_
      cases hg92 : (!decide (x.a = 0))
      ·
       have hg92p : x.a = 0 := by simpa using hg92
       refine WL.move rfl rfl rfl ?_
       refine WL.not rfl rfl rfl ?_
       refine WL.set 66 (v' := .bool true) rfl rfl ?_
       refine WL.move rfl rfl rfl ?_
       refine WL.fieldAddr fo_69_2 rfl rfl rfl ?_
       refine WL.load1 (v := .int .i64 x.b) one_3 rfl rfl rfl (hS.cell 0 rfl rfl) ?_
       refine WL.bin rfl rfl rfl rfl rfl ?_
       refine WL.pick (v := .bool (!decide (x.b = 0))) rfl rfl rfl rfl rfl rfl ?_
       refine WL.pick (v := .bool (!decide (x.b = 0))) rfl rfl rfl rfl rfl rfl ?_
       refine WL.move rfl rfl rfl ?_
       cases hg93 : (!decide (x.b = 0))
       ·
        have hg93p : x.b = 0 := by simpa using hg93
        refine WL.fieldAddr fo_69_0 rfl rfl rfl ?_
        refine WL.load1 (v := .int .i64 x.op) one_3 rfl rfl rfl (hS.cell 0 rfl rfl) ?_
        refine WL.bin rfl rfl rfl rfl rfl ?_
        refine WL.move rfl rfl rfl ?_
        cases hg94 : (!decide (x.op = 1))
        ·
         have hg94p : x.op = 1 := by simpa using hg94
         refine WL.skp rfl rfl ?_
         refine WL.skp rfl rfl ?_
         refine WL.skp rfl rfl ?_
         refine WL.pick (v := .bool false) rfl rfl rfl rfl rfl rfl ?_
         refine WL.pick (v := .bool false) rfl rfl rfl rfl rfl rfl ?_
         refine WL.move rfl rfl rfl ?_
         refine WL.fieldAddr fo_69_0 rfl rfl rfl ?_
         refine WL.load1 (v := .int .i64 x.op) one_3 rfl rfl rfl (hS.cell 0 rfl rfl) ?_
         refine WL.bin rfl rfl rfl rfl rfl ?_
         refine WL.move rfl rfl rfl ?_
         cases hg95 : (!decide (x.op = 14))
         ·
          have hg95p : x.op = 14 := by simpa using hg95
          refine WL.skp rfl rfl ?_
          refine WL.skp rfl rfl ?_
          refine WL.skp rfl rfl ?_
          refine WL.skp rfl rfl ?_
          refine WL.pick (v := .bool false) rfl rfl rfl rfl rfl rfl ?_
          refine WL.pick (v := .bool false) rfl rfl rfl rfl rfl rfl ?_
          refine WL.nil ?_
          refine N.seq ?_
          refine W.condF rfl ?_
          refine W.skip ?_
          refine N.seq ?_
          refine W.seq ?_
          refine W.region ?_
          refine WL.loadN (cs := [.int .i64 x.op, .int .i64 x.a, .int .i64 x.b, .int .u64 x.k, .string x.name, .slice adx x.args.length capx]) agg_69 rfl rfl rfl rfl (hS.cells 0 (m := 6) rfl rfl) ?_
          refine WL.callF (vs := [.agg #[.int .i64 x.op, .int .i64 x.a, .int .i64 x.b, .int .u64 x.k, .string x.name, .slice adx x.args.length capx]]) Tryd.func31 (by kernel_rfl) rfl rfl rfl (named5_ret x _ (ro := ro) (fun b hb => (hS.snap b hb).1) (hQx.keep hS.alike)) ?_
          rintro v w96 ⟨rfl, hbl⟩
          replace hS := hS.grow hbl
          refine WL.assign rfl rfl rfl ?_
          refine WL.nil ?_
          refine N.seq ?_
          refine W.seq ?_
          refine W.seq ?_
          refine W.region ?_
          refine WL.move rfl rfl rfl ?_
          refine WL.nil ?_
          refine N.seq ?_
          refine W.cond rfl (fun hc97 => ?_) (fun hc97 => ?_)
          ·
           refine W.seq ?_
           refine W.region ?_
           refine WL.fieldAddr fo_69_4 rfl rfl rfl ?_
           refine WL.load1 (v := .string x.name) one_9 rfl rfl rfl (hS.cell 0 rfl rfl) ?_
           refine WL.callF (vs := [.string x.name]) Tryd.func21 (by kernel_rfl) rfl rfl rfl (name5_ret x.name hnx (ro := ro) (fun b hb => (hS.snap b hb).1)) ?_
           rintro v w98 ⟨rfl, hbl⟩
           replace hS := hS.grow hbl
           refine WL.assign rfl rfl rfl ?_
           refine WL.nil ?_
           refine N.seq ?_
           refine Fin.ret1 rfl (v := .bool (name5 x.name)) rfl ?_
           have hbz := hS.below
           clear hS
           refine ⟨?_, hbz⟩
           congr 1
           rw [inst5, if_neg (by clear hx hQx hsx hsxd hsxa hsxb hsxc; rw [← hu5]; first | omega | (simp_all; done) | (rintro (h | h | h | h) <;> first | omega | (simp_all; done))), if_neg (by clear hx hQx hsx hsxd hsxa hsxb hsxc hu5; first | omega | (simp_all; done) | (simp_all; omega)), if_pos (by simp_all)]
          refine W.skip ?_
          refine N.seq ?_
          refine W.seq ?_
          refine W.region ?_
          refine WL.fieldAddr fo_69_4 rfl rfl rfl ?_
          refine WL.load1 (v := .string x.name) one_9 rfl rfl rfl (hS.cell 0 rfl rfl) ?_
          refine WL.eqStr rfl rfl rfl rfl ?_
          refine WL.assign rfl rfl rfl ?_
          refine WL.nil ?_
          refine N.seq ?_
          refine Fin.ret1 rfl (v := .bool (decide (x.name = ⟨#[]⟩))) rfl ?_
          have hbz := hS.below
          clear hS
          refine ⟨?_, hbz⟩
          congr 1
          rw [inst5, if_neg (by clear hx hQx hsx hsxd hsxa hsxb hsxc; rw [← hu5]; first | omega | (simp_all; done) | (rintro (h | h | h | h) <;> first | omega | (simp_all; done))), if_neg (by clear hx hQx hsx hsxd hsxa hsxb hsxc hu5; first | omega | (simp_all; done) | (simp_all; omega)), if_neg (by simp_all)]
         have hg95p : ¬ (x.op = 14) := by simpa using hg95
         refine WL.fieldAddr fo_69_5 rfl rfl rfl ?_
         refine WL.load1 (v := .slice adx x.args.length capx) one_55 rfl rfl rfl (hS.cell 0 rfl rfl) ?_
         refine WL.lenSlice Tryd.underlying55 rfl rfl rfl ?_
         refine WL.bin rfl rfl rfl rfl rfl ?_
         refine WL.pick (v := .bool (decide (0 < (x.args.length : Int)))) rfl rfl rfl rfl rfl rfl ?_
         refine WL.pick (v := .bool (decide (0 < (x.args.length : Int)))) rfl rfl rfl rfl rfl rfl ?_
         refine WL.nil ?_
         refine N.seq ?_
         refine W.cond rfl (fun hc99 => ?_) (fun hc99 => ?_)
         ·
          have hc99p : 0 < (x.args.length : Int) := by simpa using hc99
          refine W.seq ?_
          refine W.region ?_
          refine WL.assign rfl rfl rfl ?_
          refine WL.nil ?_
          refine N.seq ?_
          refine Fin.ret1 rfl (v := .bool false) rfl ?_
          have hbz := hS.below
          clear hS
          refine ⟨?_, hbz⟩
          congr 1
          rw [inst5, if_neg (by clear hx hQx hsx hsxd hsxa hsxb hsxc; rw [← hu5]; first | omega | (simp_all; done) | (rintro (h | h | h | h) <;> first | omega | (simp_all; done))), if_pos (by clear hx hQx hsx hsxd hsxa hsxb hsxc hu5; first | omega | (simp_all; done) | (simp_all; omega))]
         have hc99p : ¬ (0 < (x.args.length : Int)) := by simpa using hc99
         refine W.skip ?_
         refine N.seq ?_
         refine W.seq ?_
         refine W.region ?_
         refine WL.loadN (cs := [.int .i64 x.op, .int .i64 x.a, .int .i64 x.b, .int .u64 x.k, .string x.name, .slice adx x.args.length capx]) agg_69 rfl rfl rfl rfl (hS.cells 0 (m := 6) rfl rfl) ?_
         refine WL.callF (vs := [.agg #[.int .i64 x.op, .int .i64 x.a, .int .i64 x.b, .int .u64 x.k, .string x.name, .slice adx x.args.length capx]]) Tryd.func31 (by kernel_rfl) rfl rfl rfl (named5_ret x _ (ro := ro) (fun b hb => (hS.snap b hb).1) (hQx.keep hS.alike)) ?_
         rintro v w100 ⟨rfl, hbl⟩
         replace hS := hS.grow hbl
         refine WL.assign rfl rfl rfl ?_
         refine WL.nil ?_
         refine N.seq ?_
         refine W.seq ?_
         refine W.seq ?_
         refine W.region ?_
         refine WL.move rfl rfl rfl ?_
         refine WL.nil ?_
         refine N.seq ?_
         refine W.cond rfl (fun hc101 => ?_) (fun hc101 => ?_)
         ·
          refine W.seq ?_
          refine W.region ?_
          refine WL.fieldAddr fo_69_4 rfl rfl rfl ?_
          refine WL.load1 (v := .string x.name) one_9 rfl rfl rfl (hS.cell 0 rfl rfl) ?_
          refine WL.callF (vs := [.string x.name]) Tryd.func21 (by kernel_rfl) rfl rfl rfl (name5_ret x.name hnx (ro := ro) (fun b hb => (hS.snap b hb).1)) ?_
          rintro v w102 ⟨rfl, hbl⟩
          replace hS := hS.grow hbl
          refine WL.assign rfl rfl rfl ?_
          refine WL.nil ?_
          refine N.seq ?_
          refine Fin.ret1 rfl (v := .bool (name5 x.name)) rfl ?_
          have hbz := hS.below
          clear hS
          refine ⟨?_, hbz⟩
          congr 1
          rw [inst5, if_neg (by clear hx hQx hsx hsxd hsxa hsxb hsxc; rw [← hu5]; first | omega | (simp_all; done) | (rintro (h | h | h | h) <;> first | omega | (simp_all; done))), if_neg (by clear hx hQx hsx hsxd hsxa hsxb hsxc hu5; first | omega | (simp_all; done) | (simp_all; omega)), if_pos (by simp_all)]
         refine W.skip ?_
         refine N.seq ?_
         refine W.seq ?_
         refine W.region ?_
         refine WL.fieldAddr fo_69_4 rfl rfl rfl ?_
         refine WL.load1 (v := .string x.name) one_9 rfl rfl rfl (hS.cell 0 rfl rfl) ?_
         refine WL.eqStr rfl rfl rfl rfl ?_
         refine WL.assign rfl rfl rfl ?_
         refine WL.nil ?_
         refine N.seq ?_
         refine Fin.ret1 rfl (v := .bool (decide (x.name = ⟨#[]⟩))) rfl ?_
         have hbz := hS.below
         clear hS
         refine ⟨?_, hbz⟩
         congr 1
         rw [inst5, if_neg (by clear hx hQx hsx hsxd hsxa hsxb hsxc; rw [← hu5]; first | omega | (simp_all; done) | (rintro (h | h | h | h) <;> first | omega | (simp_all; done))), if_neg (by clear hx hQx hsx hsxd hsxa hsxb hsxc hu5; first | omega | (simp_all; done) | (simp_all; omega)), if_neg (by simp_all)]
        have hg94p : ¬ (x.op = 1) := by simpa using hg94
        refine WL.fieldAddr fo_69_3 rfl rfl rfl ?_
        refine WL.load1 (v := .int .u64 x.k) one_52 rfl rfl rfl (hS.cell 0 rfl rfl) ?_
        refine WL.bin rfl rfl rfl rfl rfl ?_
        refine WL.pick (v := .bool (!decide (x.k = 0))) rfl rfl rfl rfl rfl rfl ?_
        refine WL.pick (v := .bool (!decide (x.k = 0))) rfl rfl rfl rfl rfl rfl ?_
        refine WL.move rfl rfl rfl ?_
        cases hg103 : (!decide (x.k = 0))
        ·
         have hg103p : x.k = 0 := by simpa using hg103
         refine WL.fieldAddr fo_69_0 rfl rfl rfl ?_
         refine WL.load1 (v := .int .i64 x.op) one_3 rfl rfl rfl (hS.cell 0 rfl rfl) ?_
         refine WL.bin rfl rfl rfl rfl rfl ?_
         refine WL.move rfl rfl rfl ?_
         cases hg104 : (!decide (x.op = 14))
         ·
          have hg104p : x.op = 14 := by simpa using hg104
          refine WL.skp rfl rfl ?_
          refine WL.skp rfl rfl ?_
          refine WL.skp rfl rfl ?_
          refine WL.skp rfl rfl ?_
          refine WL.pick (v := .bool false) rfl rfl rfl rfl rfl rfl ?_
          refine WL.pick (v := .bool false) rfl rfl rfl rfl rfl rfl ?_
          refine WL.nil ?_
          refine N.seq ?_
          refine W.condF rfl ?_
          refine W.skip ?_
          refine N.seq ?_
          refine W.seq ?_
          refine W.region ?_
          refine WL.loadN (cs := [.int .i64 x.op, .int .i64 x.a, .int .i64 x.b, .int .u64 x.k, .string x.name, .slice adx x.args.length capx]) agg_69 rfl rfl rfl rfl (hS.cells 0 (m := 6) rfl rfl) ?_
          refine WL.callF (vs := [.agg #[.int .i64 x.op, .int .i64 x.a, .int .i64 x.b, .int .u64 x.k, .string x.name, .slice adx x.args.length capx]]) Tryd.func31 (by kernel_rfl) rfl rfl rfl (named5_ret x _ (ro := ro) (fun b hb => (hS.snap b hb).1) (hQx.keep hS.alike)) ?_
          rintro v w105 ⟨rfl, hbl⟩
          replace hS := hS.grow hbl
          refine WL.assign rfl rfl rfl ?_
          refine WL.nil ?_
          refine N.seq ?_
          refine W.seq ?_
          refine W.seq ?_
          refine W.region ?_
          refine WL.move rfl rfl rfl ?_
          refine WL.nil ?_
          refine N.seq ?_
          refine W.cond rfl (fun hc106 => ?_) (fun hc106 => ?_)
          ·
           refine W.seq ?_
           refine W.region ?_
           refine WL.fieldAddr fo_69_4 rfl rfl rfl ?_
           refine WL.load1 (v := .string x.name) one_9 rfl rfl rfl (hS.cell 0 rfl rfl) ?_
           refine WL.callF (vs := [.string x.name]) Tryd.func21 (by kernel_rfl) rfl rfl rfl (name5_ret x.name hnx (ro := ro) (fun b hb => (hS.snap b hb).1)) ?_
           rintro v w107 ⟨rfl, hbl⟩
           replace hS := hS.grow hbl
           refine WL.assign rfl rfl rfl ?_
           refine WL.nil ?_
           refine N.seq ?_
           refine Fin.ret1 rfl (v := .bool (name5 x.name)) rfl ?_
           have hbz := hS.below
           clear hS
           refine ⟨?_, hbz⟩
           congr 1
           rw [inst5, if_neg (by clear hx hQx hsx hsxd hsxa hsxb hsxc; rw [← hu5]; first | omega | (simp_all; done) | (rintro (h | h | h | h) <;> first | omega | (simp_all; done))), if_neg (by clear hx hQx hsx hsxd hsxa hsxb hsxc hu5; first | omega | (simp_all; done) | (simp_all; omega)), if_pos (by simp_all)]
          refine W.skip ?_
          refine N.seq ?_
          refine W.seq ?_
          refine W.region ?_
          refine WL.fieldAddr fo_69_4 rfl rfl rfl ?_
          refine WL.load1 (v := .string x.name) one_9 rfl rfl rfl (hS.cell 0 rfl rfl) ?_
          refine WL.eqStr rfl rfl rfl rfl ?_
          refine WL.assign rfl rfl rfl ?_
          refine WL.nil ?_
          refine N.seq ?_
          refine Fin.ret1 rfl (v := .bool (decide (x.name = ⟨#[]⟩))) rfl ?_
          have hbz := hS.below
          clear hS
          refine ⟨?_, hbz⟩
          congr 1
          rw [inst5, if_neg (by clear hx hQx hsx hsxd hsxa hsxb hsxc; rw [← hu5]; first | omega | (simp_all; done) | (rintro (h | h | h | h) <;> first | omega | (simp_all; done))), if_neg (by clear hx hQx hsx hsxd hsxa hsxb hsxc hu5; first | omega | (simp_all; done) | (simp_all; omega)), if_neg (by simp_all)]
         have hg104p : ¬ (x.op = 14) := by simpa using hg104
         refine WL.fieldAddr fo_69_5 rfl rfl rfl ?_
         refine WL.load1 (v := .slice adx x.args.length capx) one_55 rfl rfl rfl (hS.cell 0 rfl rfl) ?_
         refine WL.lenSlice Tryd.underlying55 rfl rfl rfl ?_
         refine WL.bin rfl rfl rfl rfl rfl ?_
         refine WL.pick (v := .bool (decide (0 < (x.args.length : Int)))) rfl rfl rfl rfl rfl rfl ?_
         refine WL.pick (v := .bool (decide (0 < (x.args.length : Int)))) rfl rfl rfl rfl rfl rfl ?_
         refine WL.nil ?_
         refine N.seq ?_
         refine W.cond rfl (fun hc108 => ?_) (fun hc108 => ?_)
         ·
          have hc108p : 0 < (x.args.length : Int) := by simpa using hc108
          refine W.seq ?_
          refine W.region ?_
          refine WL.assign rfl rfl rfl ?_
          refine WL.nil ?_
          refine N.seq ?_
          refine Fin.ret1 rfl (v := .bool false) rfl ?_
          have hbz := hS.below
          clear hS
          refine ⟨?_, hbz⟩
          congr 1
          rw [inst5, if_neg (by clear hx hQx hsx hsxd hsxa hsxb hsxc; rw [← hu5]; first | omega | (simp_all; done) | (rintro (h | h | h | h) <;> first | omega | (simp_all; done))), if_pos (by clear hx hQx hsx hsxd hsxa hsxb hsxc hu5; first | omega | (simp_all; done) | (simp_all; omega))]
         have hc108p : ¬ (0 < (x.args.length : Int)) := by simpa using hc108
         refine W.skip ?_
         refine N.seq ?_
         refine W.seq ?_
         refine W.region ?_
         refine WL.loadN (cs := [.int .i64 x.op, .int .i64 x.a, .int .i64 x.b, .int .u64 x.k, .string x.name, .slice adx x.args.length capx]) agg_69 rfl rfl rfl rfl (hS.cells 0 (m := 6) rfl rfl) ?_
         refine WL.callF (vs := [.agg #[.int .i64 x.op, .int .i64 x.a, .int .i64 x.b, .int .u64 x.k, .string x.name, .slice adx x.args.length capx]]) Tryd.func31 (by kernel_rfl) rfl rfl rfl (named5_ret x _ (ro := ro) (fun b hb => (hS.snap b hb).1) (hQx.keep hS.alike)) ?_
         rintro v w109 ⟨rfl, hbl⟩
         replace hS := hS.grow hbl
         refine WL.assign rfl rfl rfl ?_
         refine WL.nil ?_
         refine N.seq ?_
         refine W.seq ?_
         refine W.seq ?_
         refine W.region ?_
         refine WL.move rfl rfl rfl ?_
         refine WL.nil ?_
         refine N.seq ?_
         refine W.cond rfl (fun hc110 => ?_) (fun hc110 => ?_)
         ·
          refine W.seq ?_
          refine W.region ?_
          refine WL.fieldAddr fo_69_4 rfl rfl rfl ?_
          refine WL.load1 (v := .string x.name) one_9 rfl rfl rfl (hS.cell 0 rfl rfl) ?_
          refine WL.callF (vs := [.string x.name]) Tryd.func21 (by kernel_rfl) rfl rfl rfl (name5_ret x.name hnx (ro := ro) (fun b hb => (hS.snap b hb).1)) ?_
          rintro v w111 ⟨rfl, hbl⟩
          replace hS := hS.grow hbl
          refine WL.assign rfl rfl rfl ?_
          refine WL.nil ?_
          refine N.seq ?_
          refine Fin.ret1 rfl (v := .bool (name5 x.name)) rfl ?_
          have hbz := hS.below
          clear hS
          refine ⟨?_, hbz⟩
          congr 1
          rw [inst5, if_neg (by clear hx hQx hsx hsxd hsxa hsxb hsxc; rw [← hu5]; first | omega | (simp_all; done) | (rintro (h | h | h | h) <;> first | omega | (simp_all; done))), if_neg (by clear hx hQx hsx hsxd hsxa hsxb hsxc hu5; first | omega | (simp_all; done) | (simp_all; omega)), if_pos (by simp_all)]
         refine W.skip ?_
         refine N.seq ?_
         refine W.seq ?_
         refine W.region ?_
         refine WL.fieldAddr fo_69_4 rfl rfl rfl ?_
         refine WL.load1 (v := .string x.name) one_9 rfl rfl rfl (hS.cell 0 rfl rfl) ?_
         refine WL.eqStr rfl rfl rfl rfl ?_
         refine WL.assign rfl rfl rfl ?_
         refine WL.nil ?_
         refine N.seq ?_
         refine Fin.ret1 rfl (v := .bool (decide (x.name = ⟨#[]⟩))) rfl ?_
         have hbz := hS.below
         clear hS
         refine ⟨?_, hbz⟩
         congr 1
         rw [inst5, if_neg (by clear hx hQx hsx hsxd hsxa hsxb hsxc; rw [← hu5]; first | omega | (simp_all; done) | (rintro (h | h | h | h) <;> first | omega | (simp_all; done))), if_neg (by clear hx hQx hsx hsxd hsxa hsxb hsxc hu5; first | omega | (simp_all; done) | (simp_all; omega)), if_neg (by simp_all)]
        have hg103p : ¬ (x.k = 0) := by simpa using hg103
        refine WL.skp rfl rfl ?_
        refine WL.skp rfl rfl ?_
        refine WL.skp rfl rfl ?_
        refine WL.skp rfl rfl ?_
        refine WL.skp rfl rfl ?_
        refine WL.skp rfl rfl ?_
        refine WL.skp rfl rfl ?_
        refine WL.skp rfl rfl ?_
        refine WL.skp rfl rfl ?_
        refine WL.pick (v := .bool true) rfl rfl rfl rfl rfl rfl ?_
        refine WL.nil ?_
        refine N.seq ?_
        refine W.condT rfl ?_
        refine W.seq ?_
        refine W.region ?_
        refine WL.assign rfl rfl rfl ?_
        refine WL.nil ?_
        refine N.seq ?_
        refine Fin.ret1 rfl (v := .bool false) rfl ?_
        have hbz := hS.below
        clear hS
        refine ⟨?_, hbz⟩
        congr 1
        rw [inst5, if_neg (by clear hx hQx hsx hsxd hsxa hsxb hsxc; rw [← hu5]; first | omega | (simp_all; done) | (rintro (h | h | h | h) <;> first | omega | (simp_all; done))), if_pos (by clear hx hQx hsx hsxd hsxa hsxb hsxc hu5; first | omega | (simp_all; done) | (simp_all; omega))]
       have hg93p : ¬ (x.b = 0) := by simpa using hg93
       refine WL.skp rfl rfl ?_
       refine WL.skp rfl rfl ?_
       refine WL.skp rfl rfl ?_
       refine WL.skp rfl rfl ?_
       refine WL.skp rfl rfl ?_
       refine WL.skp rfl rfl ?_
       refine WL.skp rfl rfl ?_
       refine WL.skp rfl rfl ?_
       refine WL.pick (v := .bool true) rfl rfl rfl rfl rfl rfl ?_
       refine WL.move rfl rfl rfl ?_
       refine WL.skp rfl rfl ?_
       refine WL.skp rfl rfl ?_
       refine WL.skp rfl rfl ?_
       refine WL.skp rfl rfl ?_
       refine WL.skp rfl rfl ?_
       refine WL.skp rfl rfl ?_
       refine WL.skp rfl rfl ?_
       refine WL.skp rfl rfl ?_
       refine WL.skp rfl rfl ?_
       refine WL.pick (v := .bool true) rfl rfl rfl rfl rfl rfl ?_
       refine WL.nil ?_
       refine N.seq ?_
       refine W.condT rfl ?_
       refine W.seq ?_
       refine W.region ?_
       refine WL.assign rfl rfl rfl ?_
       refine WL.nil ?_
       refine N.seq ?_
       refine Fin.ret1 rfl (v := .bool false) rfl ?_
       have hbz := hS.below
       clear hS
       refine ⟨?_, hbz⟩
       congr 1
       rw [inst5, if_neg (by clear hx hQx hsx hsxd hsxa hsxb hsxc; rw [← hu5]; first | omega | (simp_all; done) | (rintro (h | h | h | h) <;> first | omega | (simp_all; done))), if_pos (by clear hx hQx hsx hsxd hsxa hsxb hsxc hu5; first | omega | (simp_all; done) | (simp_all; omega))]
      have hg92p : ¬ (x.a = 0) := by simpa using hg92
      refine WL.skp rfl rfl ?_
      refine WL.skp rfl rfl ?_
      refine WL.skp rfl rfl ?_
      refine WL.skp rfl rfl ?_
      refine WL.skp rfl rfl ?_
      refine WL.skp rfl rfl ?_
      refine WL.skp rfl rfl ?_
      refine WL.pick (v := .bool true) rfl rfl rfl rfl rfl rfl ?_
      refine WL.move rfl rfl rfl ?_
      refine WL.skp rfl rfl ?_
      refine WL.skp rfl rfl ?_
      refine WL.skp rfl rfl ?_
      refine WL.skp rfl rfl ?_
      refine WL.skp rfl rfl ?_
      refine WL.skp rfl rfl ?_
      refine WL.skp rfl rfl ?_
      refine WL.skp rfl rfl ?_
      refine WL.pick (v := .bool true) rfl rfl rfl rfl rfl rfl ?_
      refine WL.move rfl rfl rfl ?_
      refine WL.skp rfl rfl ?_
      refine WL.skp rfl rfl ?_
      refine WL.skp rfl rfl ?_
      refine WL.skp rfl rfl ?_
      refine WL.skp rfl rfl ?_
      refine WL.skp rfl rfl ?_
      refine WL.skp rfl rfl ?_
      refine WL.skp rfl rfl ?_
      refine WL.skp rfl rfl ?_
      refine WL.pick (v := .bool true) rfl rfl rfl rfl rfl rfl ?_
      refine WL.nil ?_
      refine N.seq ?_
      refine W.condT rfl ?_
      refine W.seq ?_
      refine W.region ?_
      refine WL.assign rfl rfl rfl ?_
      refine WL.nil ?_
      refine N.seq ?_
      refine Fin.ret1 rfl (v := .bool false) rfl ?_
      have hbz := hS.below
      clear hS
      refine ⟨?_, hbz⟩
      congr 1
      rw [inst5, if_neg (by clear hx hQx hsx hsxd hsxa hsxb hsxc; rw [← hu5]; first | omega | (simp_all; done) | (rintro (h | h | h | h) <;> first | omega | (simp_all; done))), if_pos (by clear hx hQx hsx hsxd hsxa hsxb hsxc hu5; first | omega | (simp_all; done) | (simp_all; omega))]
     have hg71p : x.op = 13 := by simpa using hg71
     refine WL.skp rfl rfl ?_
     refine WL.skp rfl rfl ?_
     refine WL.skp rfl rfl ?_
     refine WL.pick (v := .bool true) rfl rfl rfl rfl rfl rfl ?_
     refine WL.assign rfl rfl rfl ?_
     refine WL.nil ?_
     refine N.seq ?_
     refine W.seq ?_
     refine W.region ?_
     refine WL.fieldAddr fo_69_0 rfl rfl rfl ?_
     refine WL.load1 (v := .int .i64 x.op) one_3 rfl rfl rfl (hS.cell 0 rfl rfl) ?_
     refine WL.bin rfl rfl rfl rfl rfl ?_
     refine WL.set 51 (v' := .bool true) rfl (by rw [hg9]) ?_
     refine WL.move rfl rfl rfl ?_
     refine WL.fieldAddr fo_69_0 rfl rfl rfl ?_
     refine WL.load1 (v := .int .i64 x.op) one_3 rfl rfl rfl (hS.cell 0 rfl rfl) ?_
     refine WL.bin rfl rfl rfl rfl rfl ?_
     refine WL.set 55 (v' := .bool false) rfl (by rw [hg70]) ?_
     refine WL.pick (v := .bool false) rfl rfl rfl rfl rfl rfl ?_
     refine WL.assign rfl rfl rfl ?_
     refine WL.nil ?_
     refine N.seq ?_
     refine W.seq ?_
     refine W.seq ?_
     refine W.region ?_
     refine WL.move rfl rfl rfl ?_
     refine WL.not rfl rfl rfl ?_
     refine WL.set 58 (v' := .bool false) rfl rfl ?_
     refine WL.move rfl rfl rfl ?_
     refine WL.skp rfl rfl ?_
     refine WL.skp rfl rfl ?_
     refine WL.skp rfl rfl ?_
     refine WL.pick (v := .bool false) rfl rfl rfl rfl rfl rfl ?_
     refine WL.move rfl rfl rfl ?_
     refine WL.move rfl rfl rfl ?_
     refine WL.not rfl rfl rfl ?_
     refine WL.set 66 (v' := .bool true) rfl rfl ?_
     refine WL.move rfl rfl rfl ?_
     refine WL.fieldAddr fo_69_2 rfl rfl rfl ?_
     refine WL.load1 (v := .int .i64 x.b) one_3 rfl rfl rfl (hS.cell 0 rfl rfl) ?_
     refine WL.bin rfl rfl rfl rfl rfl ?_
     refine WL.pick (v := .bool (!decide (x.b = 0))) rfl rfl rfl rfl rfl rfl ?_
     refine WL.pick (v := .bool (!decide (x.b = 0))) rfl rfl rfl rfl rfl rfl ?_
     refine WL.move rfl rfl rfl ?_
     cases hg112 : (!decide (x.b = 0))
     ·
      have hg112p : x.b = 0 := by simpa using hg112
      refine WL.fieldAddr fo_69_0 rfl rfl rfl ?_
      refine WL.load1 (v := .int .i64 x.op) one_3 rfl rfl rfl (hS.cell 0 rfl rfl) ?_
      refine WL.bin rfl rfl rfl rfl rfl ?_
      refine WL.move rfl rfl rfl ?_
      cases hg113 : (!decide (x.op = 1))
      ·
       have hg113p : x.op = 1 := by simpa using hg113
       refine WL.skp rfl rfl ?_
       refine WL.skp rfl rfl ?_
       refine WL.skp rfl rfl ?_
       refine WL.pick (v := .bool false) rfl rfl rfl rfl rfl rfl ?_
       refine WL.pick (v := .bool false) rfl rfl rfl rfl rfl rfl ?_
       refine WL.move rfl rfl rfl ?_
       refine WL.fieldAddr fo_69_0 rfl rfl rfl ?_
       refine WL.load1 (v := .int .i64 x.op) one_3 rfl rfl rfl (hS.cell 0 rfl rfl) ?_
       refine WL.bin rfl rfl rfl rfl rfl ?_
       refine WL.move rfl rfl rfl ?_
       cases hg114 : (!decide (x.op = 14))
       ·
        have hg114p : x.op = 14 := by simpa using hg114
        refine WL.skp rfl rfl ?_
        refine WL.skp rfl rfl ?_
        refine WL.skp rfl rfl ?_
        refine WL.skp rfl rfl ?_
        refine WL.pick (v := .bool false) rfl rfl rfl rfl rfl rfl ?_
        refine WL.pick (v := .bool false) rfl rfl rfl rfl rfl rfl ?_
        refine WL.nil ?_
        refine N.seq ?_
        refine W.condF rfl ?_
        refine W.skip ?_
        refine N.seq ?_
        refine W.seq ?_
        refine W.region ?_
        refine WL.loadN (cs := [.int .i64 x.op, .int .i64 x.a, .int .i64 x.b, .int .u64 x.k, .string x.name, .slice adx x.args.length capx]) agg_69 rfl rfl rfl rfl (hS.cells 0 (m := 6) rfl rfl) ?_
        refine WL.callF (vs := [.agg #[.int .i64 x.op, .int .i64 x.a, .int .i64 x.b, .int .u64 x.k, .string x.name, .slice adx x.args.length capx]]) Tryd.func31 (by kernel_rfl) rfl rfl rfl (named5_ret x _ (ro := ro) (fun b hb => (hS.snap b hb).1) (hQx.keep hS.alike)) ?_
        rintro v w115 ⟨rfl, hbl⟩
        replace hS := hS.grow hbl
        refine WL.assign rfl rfl rfl ?_
        refine WL.nil ?_
        refine N.seq ?_
        refine W.seq ?_
        refine W.seq ?_
        refine W.region ?_
        refine WL.move rfl rfl rfl ?_
        refine WL.nil ?_
        refine N.seq ?_
        refine W.cond rfl (fun hc116 => ?_) (fun hc116 => ?_)
        ·
         refine W.seq ?_
         refine W.region ?_
         refine WL.fieldAddr fo_69_4 rfl rfl rfl ?_
         refine WL.load1 (v := .string x.name) one_9 rfl rfl rfl (hS.cell 0 rfl rfl) ?_
         refine WL.callF (vs := [.string x.name]) Tryd.func21 (by kernel_rfl) rfl rfl rfl (name5_ret x.name hnx (ro := ro) (fun b hb => (hS.snap b hb).1)) ?_
         rintro v w117 ⟨rfl, hbl⟩
         replace hS := hS.grow hbl
         refine WL.assign rfl rfl rfl ?_
         refine WL.nil ?_
         refine N.seq ?_
         refine Fin.ret1 rfl (v := .bool (name5 x.name)) rfl ?_
         have hbz := hS.below
         clear hS
         refine ⟨?_, hbz⟩
         congr 1
         rw [inst5, if_neg (by clear hx hQx hsx hsxd hsxa hsxb hsxc; rw [← hu5]; first | omega | (simp_all; done) | (rintro (h | h | h | h) <;> first | omega | (simp_all; done))), if_neg (by clear hx hQx hsx hsxd hsxa hsxb hsxc hu5; first | omega | (simp_all; done) | (simp_all; omega)), if_pos (by simp_all)]
        refine W.skip ?_
        refine N.seq ?_
        refine W.seq ?_
        refine W.region ?_
        refine WL.fieldAddr fo_69_4 rfl rfl rfl ?_
        refine WL.load1 (v := .string x.name) one_9 rfl rfl rfl (hS.cell 0 rfl rfl) ?_
        refine WL.eqStr rfl rfl rfl rfl ?_
        refine WL.assign rfl rfl rfl ?_
        refine WL.nil ?_
        refine N.seq ?_
        refine Fin.ret1 rfl (v := .bool (decide (x.name = ⟨#[]⟩))) rfl ?_
        have hbz := hS.below
        clear hS
        refine ⟨?_, hbz⟩
        congr 1
        rw [inst5, if_neg (by clear hx hQx hsx hsxd hsxa hsxb hsxc; rw [← hu5]; first | omega | (simp_all; done) | (rintro (h | h | h | h) <;> first | omega | (simp_all; done))), if_neg (by clear hx hQx hsx hsxd hsxa hsxb hsxc hu5; first | omega | (simp_all; done) | (simp_all; omega)), if_neg (by simp_all)]
       have hg114p : ¬ (x.op = 14) := by simpa using hg114
       refine WL.fieldAddr fo_69_5 rfl rfl rfl ?_
       refine WL.load1 (v := .slice adx x.args.length capx) one_55 rfl rfl rfl (hS.cell 0 rfl rfl) ?_
       refine WL.lenSlice Tryd.underlying55 rfl rfl rfl ?_
       refine WL.bin rfl rfl rfl rfl rfl ?_
       refine WL.pick (v := .bool (decide (0 < (x.args.length : Int)))) rfl rfl rfl rfl rfl rfl ?_
       refine WL.pick (v := .bool (decide (0 < (x.args.length : Int)))) rfl rfl rfl rfl rfl rfl ?_
       refine WL.nil ?_
       refine N.seq ?_
       refine W.cond rfl (fun hc118 => ?_) (fun hc118 => ?_)
       ·
        have hc118p : 0 < (x.args.length : Int) := by simpa using hc118
        refine W.seq ?_
        refine W.region ?_
        refine WL.assign rfl rfl rfl ?_
        refine WL.nil ?_
        refine N.seq ?_
        refine Fin.ret1 rfl (v := .bool false) rfl ?_
        have hbz := hS.below
        clear hS
        refine ⟨?_, hbz⟩
        congr 1
        rw [inst5, if_neg (by clear hx hQx hsx hsxd hsxa hsxb hsxc; rw [← hu5]; first | omega | (simp_all; done) | (rintro (h | h | h | h) <;> first | omega | (simp_all; done))), if_pos (by clear hx hQx hsx hsxd hsxa hsxb hsxc hu5; first | omega | (simp_all; done) | (simp_all; omega))]
       have hc118p : ¬ (0 < (x.args.length : Int)) := by simpa using hc118
       refine W.skip ?_
       refine N.seq ?_
       refine W.seq ?_
       refine W.region ?_
       refine WL.loadN (cs := [.int .i64 x.op, .int .i64 x.a, .int .i64 x.b, .int .u64 x.k, .string x.name, .slice adx x.args.length capx]) agg_69 rfl rfl rfl rfl (hS.cells 0 (m := 6) rfl rfl) ?_
       refine WL.callF (vs := [.agg #[.int .i64 x.op, .int .i64 x.a, .int .i64 x.b, .int .u64 x.k, .string x.name, .slice adx x.args.length capx]]) Tryd.func31 (by kernel_rfl) rfl rfl rfl (named5_ret x _ (ro := ro) (fun b hb => (hS.snap b hb).1) (hQx.keep hS.alike)) ?_
       rintro v w119 ⟨rfl, hbl⟩
       replace hS := hS.grow hbl
       refine WL.assign rfl rfl rfl ?_
       refine WL.nil ?_
       refine N.seq ?_
       refine W.seq ?_
       refine W.seq ?_
       refine W.region ?_
       refine WL.move rfl rfl rfl ?_
       refine WL.nil ?_
       refine N.seq ?_
       refine W.cond rfl (fun hc120 => ?_) (fun hc120 => ?_)
       ·
        refine W.seq ?_
        refine W.region ?_
        refine WL.fieldAddr fo_69_4 rfl rfl rfl ?_
        refine WL.load1 (v := .string x.name) one_9 rfl rfl rfl (hS.cell 0 rfl rfl) ?_
        refine WL.callF (vs := [.string x.name]) Tryd.func21 (by kernel_rfl) rfl rfl rfl (name5_ret x.name hnx (ro := ro) (fun b hb => (hS.snap b hb).1)) ?_
        rintro v w121 ⟨rfl, hbl⟩
        replace hS := hS.grow hbl
        refine WL.assign rfl rfl rfl ?_
        refine WL.nil ?_
        refine N.seq ?_
        refine Fin.ret1 rfl (v := .bool (name5 x.name)) rfl ?_
        have hbz := hS.below
        clear hS
        refine ⟨?_, hbz⟩
        congr 1
        rw [inst5, if_neg (by clear hx hQx hsx hsxd hsxa hsxb hsxc; rw [← hu5]; first | omega | (simp_all; done) | (rintro (h | h | h | h) <;> first | omega | (simp_all; done))), if_neg (by clear hx hQx hsx hsxd hsxa hsxb hsxc hu5; first | omega | (simp_all; done) | (simp_all; omega)), if_pos (by simp_all)]
       refine W.skip ?_
       refine N.seq ?_
       refine W.seq ?_
       refine W.region ?_
       refine WL.fieldAddr fo_69_4 rfl rfl rfl ?_
       refine WL.load1 (v := .string x.name) one_9 rfl rfl rfl (hS.cell 0 rfl rfl) ?_
       refine WL.eqStr rfl rfl rfl rfl ?_
       refine WL.assign rfl rfl rfl ?_
       refine WL.nil ?_
       refine N.seq ?_
       refine Fin.ret1 rfl (v := .bool (decide (x.name = ⟨#[]⟩))) rfl ?_
       have hbz := hS.below
       clear hS
       refine ⟨?_, hbz⟩
       congr 1
       rw [inst5, if_neg (by clear hx hQx hsx hsxd hsxa hsxb hsxc; rw [← hu5]; first | omega | (simp_all; done) | (rintro (h | h | h | h) <;> first | omega | (simp_all; done))), if_neg (by clear hx hQx hsx hsxd hsxa hsxb hsxc hu5; first | omega | (simp_all; done) | (simp_all; omega)), if_neg (by simp_all)]
      have hg113p : ¬ (x.op = 1) := by simpa using hg113
      refine WL.fieldAddr fo_69_3 rfl rfl rfl ?_
      refine WL.load1 (v := .int .u64 x.k) one_52 rfl rfl rfl (hS.cell 0 rfl rfl) ?_
      refine WL.bin rfl rfl rfl rfl rfl ?_
      refine WL.pick (v := .bool (!decide (x.k = 0))) rfl rfl rfl rfl rfl rfl ?_
      refine WL.pick (v := .bool (!decide (x.k = 0))) rfl rfl rfl rfl rfl rfl ?_
      refine WL.move rfl rfl rfl ?_
      cases hg122 : (!decide (x.k = 0))
      ·
       have hg122p : x.k = 0 := by simpa using hg122
       refine WL.fieldAddr fo_69_0 rfl rfl rfl ?_
       refine WL.load1 (v := .int .i64 x.op) one_3 rfl rfl rfl (hS.cell 0 rfl rfl) ?_
       refine WL.bin rfl rfl rfl rfl rfl ?_
       refine WL.move rfl rfl rfl ?_
       cases hg123 : (!decide (x.op = 14))
       ·
        have hg123p : x.op = 14 := by simpa using hg123
        refine WL.skp rfl rfl ?_
        refine WL.skp rfl rfl ?_
        refine WL.skp rfl rfl ?_
        refine WL.skp rfl rfl ?_
        refine WL.pick (v := .bool false) rfl rfl rfl rfl rfl rfl ?_
        refine WL.pick (v := .bool false) rfl rfl rfl rfl rfl rfl ?_
        refine WL.nil ?_
        refine N.seq ?_
        refine W.condF rfl ?_
        refine W.skip ?_
        refine N.seq ?_
        refine W.seq ?_
        refine W.region ?_
        refine WL.loadN (cs := [.int .i64 x.op, .int .i64 x.a, .int .i64 x.b, .int .u64 x.k, .string x.name, .slice adx x.args.length capx]) agg_69 rfl rfl rfl rfl (hS.cells 0 (m := 6) rfl rfl) ?_
        refine WL.callF (vs := [.agg #[.int .i64 x.op, .int .i64 x.a, .int .i64 x.b, .int .u64 x.k, .string x.name, .slice adx x.args.length capx]]) Tryd.func31 (by kernel_rfl) rfl rfl rfl (named5_ret x _ (ro := ro) (fun b hb => (hS.snap b hb).1) (hQx.keep hS.alike)) ?_
        rintro v w124 ⟨rfl, hbl⟩
        replace hS := hS.grow hbl
        refine WL.assign rfl rfl rfl ?_
        refine WL.nil ?_
        refine N.seq ?_
        refine W.seq ?_
        refine W.seq ?_
        refine W.region ?_
        refine WL.move rfl rfl rfl ?_
        refine WL.nil ?_
        refine N.seq ?_
        refine W.cond rfl (fun hc125 => ?_) (fun hc125 => ?_)
        ·
         refine W.seq ?_
         refine W.region ?_
         refine WL.fieldAddr fo_69_4 rfl rfl rfl ?_
         refine WL.load1 (v := .string x.name) one_9 rfl rfl rfl (hS.cell 0 rfl rfl) ?_
         refine WL.callF (vs := [.string x.name]) Tryd.func21 (by kernel_rfl) rfl rfl rfl (name5_ret x.name hnx (ro := ro) (fun b hb => (hS.snap b hb).1)) ?_
         rintro v w126 ⟨rfl, hbl⟩
         replace hS := hS.grow hbl
         refine WL.assign rfl rfl rfl ?_
         refine WL.nil ?_
         refine N.seq ?_
         refine Fin.ret1 rfl (v := .bool (name5 x.name)) rfl ?_
         have hbz := hS.below
         clear hS
         refine ⟨?_, hbz⟩
         congr 1
         rw [inst5, if_neg (by clear hx hQx hsx hsxd hsxa hsxb hsxc; rw [← hu5]; first | omega | (simp_all; done) | (rintro (h | h | h | h) <;> first | omega | (simp_all; done))), if_neg (by clear hx hQx hsx hsxd hsxa hsxb hsxc hu5; first | omega | (simp_all; done) | (simp_all; omega)), if_pos (by simp_all)]
        refine W.skip ?_
        refine N.seq ?_
        refine W.seq ?_
        refine W.region ?_
        refine WL.fieldAddr fo_69_4 rfl rfl rfl ?_
        refine WL.load1 (v := .string x.name) one_9 rfl rfl rfl (hS.cell 0 rfl rfl) ?_
        refine WL.eqStr rfl rfl rfl rfl ?_
        refine WL.assign rfl rfl rfl ?_
        refine WL.nil ?_
        refine N.seq ?_
        refine Fin.ret1 rfl (v := .bool (decide (x.name = ⟨#[]⟩))) rfl ?_
        have hbz := hS.below
        clear hS
        refine ⟨?_, hbz⟩
        congr 1
        rw [inst5, if_neg (by clear hx hQx hsx hsxd hsxa hsxb hsxc; rw [← hu5]; first | omega | (simp_all; done) | (rintro (h | h | h | h) <;> first | omega | (simp_all; done))), if_neg (by clear hx hQx hsx hsxd hsxa hsxb hsxc hu5; first | omega | (simp_all; done) | (simp_all; omega)), if_neg (by simp_all)]
       have hg123p : ¬ (x.op = 14) := by simpa using hg123
       refine WL.fieldAddr fo_69_5 rfl rfl rfl ?_
       refine WL.load1 (v := .slice adx x.args.length capx) one_55 rfl rfl rfl (hS.cell 0 rfl rfl) ?_
       refine WL.lenSlice Tryd.underlying55 rfl rfl rfl ?_
       refine WL.bin rfl rfl rfl rfl rfl ?_
       refine WL.pick (v := .bool (decide (0 < (x.args.length : Int)))) rfl rfl rfl rfl rfl rfl ?_
       refine WL.pick (v := .bool (decide (0 < (x.args.length : Int)))) rfl rfl rfl rfl rfl rfl ?_
       refine WL.nil ?_
       refine N.seq ?_
       refine W.cond rfl (fun hc127 => ?_) (fun hc127 => ?_)
       ·
        have hc127p : 0 < (x.args.length : Int) := by simpa using hc127
        refine W.seq ?_
        refine W.region ?_
        refine WL.assign rfl rfl rfl ?_
        refine WL.nil ?_
        refine N.seq ?_
        refine Fin.ret1 rfl (v := .bool false) rfl ?_
        have hbz := hS.below
        clear hS
        refine ⟨?_, hbz⟩
        congr 1
        rw [inst5, if_neg (by clear hx hQx hsx hsxd hsxa hsxb hsxc; rw [← hu5]; first | omega | (simp_all; done) | (rintro (h | h | h | h) <;> first | omega | (simp_all; done))), if_pos (by clear hx hQx hsx hsxd hsxa hsxb hsxc hu5; first | omega | (simp_all; done) | (simp_all; omega))]
       have hc127p : ¬ (0 < (x.args.length : Int)) := by simpa using hc127
       refine W.skip ?_
       refine N.seq ?_
       refine W.seq ?_
       refine W.region ?_
       refine WL.loadN (cs := [.int .i64 x.op, .int .i64 x.a, .int .i64 x.b, .int .u64 x.k, .string x.name, .slice adx x.args.length capx]) agg_69 rfl rfl rfl rfl (hS.cells 0 (m := 6) rfl rfl) ?_
       refine WL.callF (vs := [.agg #[.int .i64 x.op, .int .i64 x.a, .int .i64 x.b, .int .u64 x.k, .string x.name, .slice adx x.args.length capx]]) Tryd.func31 (by kernel_rfl) rfl rfl rfl (named5_ret x _ (ro := ro) (fun b hb => (hS.snap b hb).1) (hQx.keep hS.alike)) ?_
       rintro v w128 ⟨rfl, hbl⟩
       replace hS := hS.grow hbl
       refine WL.assign rfl rfl rfl ?_
       refine WL.nil ?_
       refine N.seq ?_
       refine W.seq ?_
       refine W.seq ?_
       refine W.region ?_
       refine WL.move rfl rfl rfl ?_
       refine WL.nil ?_
       refine N.seq ?_
       refine W.cond rfl (fun hc129 => ?_) (fun hc129 => ?_)
       ·
        refine W.seq ?_
        refine W.region ?_
        refine WL.fieldAddr fo_69_4 rfl rfl rfl ?_
        refine WL.load1 (v := .string x.name) one_9 rfl rfl rfl (hS.cell 0 rfl rfl) ?_
        refine WL.callF (vs := [.string x.name]) Tryd.func21 (by kernel_rfl) rfl rfl rfl (name5_ret x.name hnx (ro := ro) (fun b hb => (hS.snap b hb).1)) ?_
        rintro v w130 ⟨rfl, hbl⟩
        replace hS := hS.grow hbl
        refine WL.assign rfl rfl rfl ?_
        refine WL.nil ?_
        refine N.seq ?_
        refine Fin.ret1 rfl (v := .bool (name5 x.name)) rfl ?_
        have hbz := hS.below
        clear hS
        refine ⟨?_, hbz⟩
        congr 1
        rw [inst5, if_neg (by clear hx hQx hsx hsxd hsxa hsxb hsxc; rw [← hu5]; first | omega | (simp_all; done) | (rintro (h | h | h | h) <;> first | omega | (simp_all; done))), if_neg (by clear hx hQx hsx hsxd hsxa hsxb hsxc hu5; first | omega | (simp_all; done) | (simp_all; omega)), if_pos (by simp_all)]
       refine W.skip ?_
       refine N.seq ?_
       refine W.seq ?_
       refine W.region ?_
       refine WL.fieldAddr fo_69_4 rfl rfl rfl ?_
       refine WL.load1 (v := .string x.name) one_9 rfl rfl rfl (hS.cell 0 rfl rfl) ?_
       refine WL.eqStr rfl rfl rfl rfl ?_
       refine WL.assign rfl rfl rfl ?_
       refine WL.nil ?_
       refine N.seq ?_
       refine Fin.ret1 rfl (v := .bool (decide (x.name = ⟨#[]⟩))) rfl ?_
       have hbz := hS.below
       clear hS
       refine ⟨?_, hbz⟩
       congr 1
       rw [inst5, if_neg (by clear hx hQx hsx hsxd hsxa hsxb hsxc; rw [← hu5]; first | omega | (simp_all; done) | (rintro (h | h | h | h) <;> first | omega | (simp_all; done))), if_neg (by clear hx hQx hsx hsxd hsxa hsxb hsxc hu5; first | omega | (simp_all; done) | (simp_all; omega)), if_neg (by simp_all)]
      have hg122p : ¬ (x.k = 0) := by simpa using hg122
      refine WL.skp rfl rfl ?_
      refine WL.skp rfl rfl ?_
      refine WL.skp rfl rfl ?_
      refine WL.skp rfl rfl ?_
      refine WL.skp rfl rfl ?_
      refine WL.skp rfl rfl ?_
      refine WL.skp rfl rfl ?_
      refine WL.skp rfl rfl ?_
      refine WL.skp rfl rfl ?_
      refine WL.pick (v := .bool true) rfl rfl rfl rfl rfl rfl ?_
      refine WL.nil ?_
      refine N.seq ?_
      refine W.condT rfl ?_
      refine W.seq ?_
      refine W.region ?_
      refine WL.assign rfl rfl rfl ?_
      refine WL.nil ?_
      refine N.seq ?_
      refine Fin.ret1 rfl (v := .bool false) rfl ?_
      have hbz := hS.below
      clear hS
      refine ⟨?_, hbz⟩
      congr 1
      rw [inst5, if_neg (by clear hx hQx hsx hsxd hsxa hsxb hsxc; rw [← hu5]; first | omega | (simp_all; done) | (rintro (h | h | h | h) <;> first | omega | (simp_all; done))), if_pos (by clear hx hQx hsx hsxd hsxa hsxb hsxc hu5; first | omega | (simp_all; done) | (simp_all; omega))]
     have hg112p : ¬ (x.b = 0) := by simpa using hg112
     refine WL.skp rfl rfl ?_
     refine WL.skp rfl rfl ?_
     refine WL.skp rfl rfl ?_
     refine WL.skp rfl rfl ?_
     refine WL.skp rfl rfl ?_
     refine WL.skp rfl rfl ?_
     refine WL.skp rfl rfl ?_
     refine WL.skp rfl rfl ?_
     refine WL.pick (v := .bool true) rfl rfl rfl rfl rfl rfl ?_
     refine WL.move rfl rfl rfl ?_
     refine WL.skp rfl rfl ?_
     refine WL.skp rfl rfl ?_
     refine WL.skp rfl rfl ?_
     refine WL.skp rfl rfl ?_
     refine WL.skp rfl rfl ?_
     refine WL.skp rfl rfl ?_
     refine WL.skp rfl rfl ?_
     refine WL.skp rfl rfl ?_
     refine WL.skp rfl rfl ?_
     refine WL.pick (v := .bool true) rfl rfl rfl rfl rfl rfl ?_
     refine WL.nil ?_
     refine N.seq ?_
     refine W.condT rfl ?_
     refine W.seq ?_
     refine W.region ?_
     refine WL.assign rfl rfl rfl ?_
     refine WL.nil ?_
     refine N.seq ?_
     refine Fin.ret1 rfl (v := .bool false) rfl ?_
     have hbz := hS.below
     clear hS
     refine ⟨?_, hbz⟩
     congr 1
     rw [inst5, if_neg (by clear hx hQx hsx hsxd hsxa hsxb hsxc; rw [← hu5]; first | omega | (simp_all; done) | (rintro (h | h | h | h) <;> first | omega | (simp_all; done))), if_pos (by clear hx hQx hsx hsxd hsxa hsxb hsxc hu5; first | omega | (simp_all; done) | (simp_all; omega))]
    have hg70p : x.op ≤ 11 := by simpa using hg70
    refine WL.skp rfl rfl ?_
    refine WL.skp rfl rfl ?_
    refine WL.skp rfl rfl ?_
    refine WL.pick (v := .bool true) rfl rfl rfl rfl rfl rfl ?_
    refine WL.move rfl rfl rfl ?_
    refine WL.skp rfl rfl ?_
    refine WL.skp rfl rfl ?_
    refine WL.skp rfl rfl ?_
    refine WL.pick (v := .bool true) rfl rfl rfl rfl rfl rfl ?_
    refine WL.assign rfl rfl rfl ?_
    refine WL.nil ?_
    refine N.seq ?_
    refine W.seq ?_
    refine W.region ?_
    refine WL.fieldAddr fo_69_0 rfl rfl rfl ?_
    refine WL.load1 (v := .int .i64 x.op) one_3 rfl rfl rfl (hS.cell 0 rfl rfl) ?_
    refine WL.bin rfl rfl rfl rfl rfl ?_
    refine WL.set 51 (v' := .bool true) rfl (by rw [hg9]) ?_
    refine WL.move rfl rfl rfl ?_
    refine WL.fieldAddr fo_69_0 rfl rfl rfl ?_
    refine WL.load1 (v := .int .i64 x.op) one_3 rfl rfl rfl (hS.cell 0 rfl rfl) ?_
    refine WL.bin rfl rfl rfl rfl rfl ?_
    refine WL.set 55 (v' := .bool true) rfl (by rw [hg70]) ?_
    refine WL.pick (v := .bool true) rfl rfl rfl rfl rfl rfl ?_
    refine WL.assign rfl rfl rfl ?_
    refine WL.nil ?_
    refine N.seq ?_
    refine W.seq ?_
    refine W.seq ?_
    refine W.region ?_
    refine WL.move rfl rfl rfl ?_
    refine WL.not rfl rfl rfl ?_
    refine WL.set 58 (v' := .bool false) rfl rfl ?_
    refine WL.move rfl rfl rfl ?_
    refine WL.skp rfl rfl ?_
    refine WL.skp rfl rfl ?_
    refine WL.skp rfl rfl ?_
    refine WL.pick (v := .bool false) rfl rfl rfl rfl rfl rfl ?_
    refine WL.move rfl rfl rfl ?_
    refine WL.move rfl rfl rfl ?_
    refine WL.not rfl rfl rfl ?_
    refine WL.set 66 (v' := .bool false) rfl rfl ?_
    refine WL.move rfl rfl rfl ?_
    refine WL.skp rfl rfl ?_
    refine WL.skp rfl rfl ?_
    refine WL.skp rfl rfl ?_
    refine WL.pick (v := .bool false) rfl rfl rfl rfl rfl rfl ?_
    refine WL.pick (v := .bool false) rfl rfl rfl rfl rfl rfl ?_
    refine WL.move rfl rfl rfl ?_
    refine WL.fieldAddr fo_69_0 rfl rfl rfl ?_
    refine WL.load1 (v := .int .i64 x.op) one_3 rfl rfl rfl (hS.cell 0 rfl rfl) ?_
    refine WL.bin rfl rfl rfl rfl rfl ?_
    refine WL.move rfl rfl rfl ?_
    cases hg131 : (!decide (x.op = 1))
    ·
     have hg131p : x.op = 1 := by simpa using hg131
     refine WL.skp rfl rfl ?_
     refine WL.skp rfl rfl ?_
     refine WL.skp rfl rfl ?_
     refine WL.pick (v := .bool false) rfl rfl rfl rfl rfl rfl ?_
     refine WL.pick (v := .bool false) rfl rfl rfl rfl rfl rfl ?_
     refine WL.move rfl rfl rfl ?_
     refine WL.fieldAddr fo_69_0 rfl rfl rfl ?_
     refine WL.load1 (v := .int .i64 x.op) one_3 rfl rfl rfl (hS.cell 0 rfl rfl) ?_
     refine WL.bin rfl rfl rfl rfl rfl ?_
     refine WL.move rfl rfl rfl ?_
     cases hg132 : (!decide (x.op = 14))
     ·
      have hg132p : x.op = 14 := by simpa using hg132
      refine WL.skp rfl rfl ?_
      refine WL.skp rfl rfl ?_
      refine WL.skp rfl rfl ?_
      refine WL.skp rfl rfl ?_
      refine WL.pick (v := .bool false) rfl rfl rfl rfl rfl rfl ?_
      refine WL.pick (v := .bool false) rfl rfl rfl rfl rfl rfl ?_
      refine WL.nil ?_
      refine N.seq ?_
      refine W.condF rfl ?_
      refine W.skip ?_
      refine N.seq ?_
      refine W.seq ?_
      refine W.region ?_
      refine WL.loadN (cs := [.int .i64 x.op, .int .i64 x.a, .int .i64 x.b, .int .u64 x.k, .string x.name, .slice adx x.args.length capx]) agg_69 rfl rfl rfl rfl (hS.cells 0 (m := 6) rfl rfl) ?_
      refine WL.callF (vs := [.agg #[.int .i64 x.op, .int .i64 x.a, .int .i64 x.b, .int .u64 x.k, .string x.name, .slice adx x.args.length capx]]) Tryd.func31 (by kernel_rfl) rfl rfl rfl (named5_ret x _ (ro := ro) (fun b hb => (hS.snap b hb).1) (hQx.keep hS.alike)) ?_
      rintro v w133 ⟨rfl, hbl⟩
      replace hS := hS.grow hbl
      refine WL.assign rfl rfl rfl ?_
      refine WL.nil ?_
      refine N.seq ?_
      refine W.seq ?_
      refine W.seq ?_
      refine W.region ?_
      refine WL.move rfl rfl rfl ?_
      refine WL.nil ?_
      refine N.seq ?_
      refine W.cond rfl (fun hc134 => ?_) (fun hc134 => ?_)
      ·
       refine W.seq ?_
       refine W.region ?_
       refine WL.fieldAddr fo_69_4 rfl rfl rfl ?_
       refine WL.load1 (v := .string x.name) one_9 rfl rfl rfl (hS.cell 0 rfl rfl) ?_
       refine WL.callF (vs := [.string x.name]) Tryd.func21 (by kernel_rfl) rfl rfl rfl (name5_ret x.name hnx (ro := ro) (fun b hb => (hS.snap b hb).1)) ?_
       rintro v w135 ⟨rfl, hbl⟩
       replace hS := hS.grow hbl
       refine WL.assign rfl rfl rfl ?_
       refine WL.nil ?_
       refine N.seq ?_
       refine Fin.ret1 rfl (v := .bool (name5 x.name)) rfl ?_
       have hbz := hS.below
       clear hS
       refine ⟨?_, hbz⟩
       congr 1
       rw [inst5, if_neg (by clear hx hQx hsx hsxd hsxa hsxb hsxc; rw [← hu5]; first | omega | (simp_all; done) | (rintro (h | h | h | h) <;> first | omega | (simp_all; done))), if_neg (by clear hx hQx hsx hsxd hsxa hsxb hsxc hu5; first | omega | (simp_all; done) | (simp_all; omega)), if_pos (by simp_all)]
      refine W.skip ?_
      refine N.seq ?_
      refine W.seq ?_
      refine W.region ?_
      refine WL.fieldAddr fo_69_4 rfl rfl rfl ?_
      refine WL.load1 (v := .string x.name) one_9 rfl rfl rfl (hS.cell 0 rfl rfl) ?_
      refine WL.eqStr rfl rfl rfl rfl ?_
      refine WL.assign rfl rfl rfl ?_
      refine WL.nil ?_
      refine N.seq ?_
      refine Fin.ret1 rfl (v := .bool (decide (x.name = ⟨#[]⟩))) rfl ?_
      have hbz := hS.below
      clear hS
      refine ⟨?_, hbz⟩
      congr 1
      rw [inst5, if_neg (by clear hx hQx hsx hsxd hsxa hsxb hsxc; rw [← hu5]; first | omega | (simp_all; done) | (rintro (h | h | h | h) <;> first | omega | (simp_all; done))), if_neg (by clear hx hQx hsx hsxd hsxa hsxb hsxc hu5; first | omega | (simp_all; done) | (simp_all; omega)), if_neg (by simp_all)]
     have hg132p : ¬ (x.op = 14) := by simpa using hg132
     refine WL.fieldAddr fo_69_5 rfl rfl rfl ?_
     refine WL.load1 (v := .slice adx x.args.length capx) one_55 rfl rfl rfl (hS.cell 0 rfl rfl) ?_
     refine WL.lenSlice Tryd.underlying55 rfl rfl rfl ?_
     refine WL.bin rfl rfl rfl rfl rfl ?_
     refine WL.pick (v := .bool (decide (0 < (x.args.length : Int)))) rfl rfl rfl rfl rfl rfl ?_
     refine WL.pick (v := .bool (decide (0 < (x.args.length : Int)))) rfl rfl rfl rfl rfl rfl ?_
     refine WL.nil ?_
     refine N.seq ?_
     refine W.cond rfl (fun hc136 => ?_) (fun hc136 => ?_)
     ·
      have hc136p : 0 < (x.args.length : Int) := by simpa using hc136
      refine W.seq ?_
      refine W.region ?_
      refine WL.assign rfl rfl rfl ?_
      refine WL.nil ?_
      refine N.seq ?_
      refine Fin.ret1 rfl (v := .bool false) rfl ?_
      have hbz := hS.below
      clear hS
      refine ⟨?_, hbz⟩
      congr 1
      rw [inst5, if_neg (by clear hx hQx hsx hsxd hsxa hsxb hsxc; rw [← hu5]; first | omega | (simp_all; done) | (rintro (h | h | h | h) <;> first | omega | (simp_all; done))), if_pos (by clear hx hQx hsx hsxd hsxa hsxb hsxc hu5; first | omega | (simp_all; done) | (simp_all; omega))]
     have hc136p : ¬ (0 < (x.args.length : Int)) := by simpa using hc136
     refine W.skip ?_
     refine N.seq ?_
     refine W.seq ?_
     refine W.region ?_
     refine WL.loadN (cs := [.int .i64 x.op, .int .i64 x.a, .int .i64 x.b, .int .u64 x.k, .string x.name, .slice adx x.args.length capx]) agg_69 rfl rfl rfl rfl (hS.cells 0 (m := 6) rfl rfl) ?_
     refine WL.callF (vs := [.agg #[.int .i64 x.op, .int .i64 x.a, .int .i64 x.b, .int .u64 x.k, .string x.name, .slice adx x.args.length capx]]) Tryd.func31 (by kernel_rfl) rfl rfl rfl (named5_ret x _ (ro := ro) (fun b hb => (hS.snap b hb).1) (hQx.keep hS.alike)) ?_
     rintro v w137 ⟨rfl, hbl⟩
     replace hS := hS.grow hbl
     refine WL.assign rfl rfl rfl ?_
     refine WL.nil ?_
     refine N.seq ?_
     refine W.seq ?_
     refine W.seq ?_
     refine W.region ?_
     refine WL.move rfl rfl rfl ?_
     refine WL.nil ?_
     refine N.seq ?_
     refine W.cond rfl (fun hc138 => ?_) (fun hc138 => ?_)
     ·
      refine W.seq ?_
      refine W.region ?_
      refine WL.fieldAddr fo_69_4 rfl rfl rfl ?_
      refine WL.load1 (v := .string x.name) one_9 rfl rfl rfl (hS.cell 0 rfl rfl) ?_
      refine WL.callF (vs := [.string x.name]) Tryd.func21 (by kernel_rfl) rfl rfl rfl (name5_ret x.name hnx (ro := ro) (fun b hb => (hS.snap b hb).1)) ?_
      rintro v w139 ⟨rfl, hbl⟩
      replace hS := hS.grow hbl
      refine WL.assign rfl rfl rfl ?_
      refine WL.nil ?_
      refine N.seq ?_
      refine Fin.ret1 rfl (v := .bool (name5 x.name)) rfl ?_
      have hbz := hS.below
      clear hS
      refine ⟨?_, hbz⟩
      congr 1
      rw [inst5, if_neg (by clear hx hQx hsx hsxd hsxa hsxb hsxc; rw [← hu5]; first | omega | (simp_all; done) | (rintro (h | h | h | h) <;> first | omega | (simp_all; done))), if_neg (by clear hx hQx hsx hsxd hsxa hsxb hsxc hu5; first | omega | (simp_all; done) | (simp_all; omega)), if_pos (by simp_all)]
     refine W.skip ?_
     refine N.seq ?_
     refine W.seq ?_
     refine W.region ?_
     refine WL.fieldAddr fo_69_4 rfl rfl rfl ?_
     refine WL.load1 (v := .string x.name) one_9 rfl rfl rfl (hS.cell 0 rfl rfl) ?_
     refine WL.eqStr rfl rfl rfl rfl ?_
     refine WL.assign rfl rfl rfl ?_
     refine WL.nil ?_
     refine N.seq ?_
     refine Fin.ret1 rfl (v := .bool (decide (x.name = ⟨#[]⟩))) rfl ?_
     have hbz := hS.below
     clear hS
     refine ⟨?_, hbz⟩
     congr 1
     rw [inst5, if_neg (by clear hx hQx hsx hsxd hsxa hsxb hsxc; rw [← hu5]; first | omega | (simp_all; done) | (rintro (h | h | h | h) <;> first | omega | (simp_all; done))), if_neg (by clear hx hQx hsx hsxd hsxa hsxb hsxc hu5; first | omega | (simp_all; done) | (simp_all; omega)), if_neg (by simp_all)]
    have hg131p : ¬ (x.op = 1) := by simpa using hg131
    refine WL.fieldAddr fo_69_3 rfl rfl rfl ?_
    refine WL.load1 (v := .int .u64 x.k) one_52 rfl rfl rfl (hS.cell 0 rfl rfl) ?_
    refine WL.bin rfl rfl rfl rfl rfl ?_
    refine WL.pick (v := .bool (!decide (x.k = 0))) rfl rfl rfl rfl rfl rfl ?_
    refine WL.pick (v := .bool (!decide (x.k = 0))) rfl rfl rfl rfl rfl rfl ?_
    refine WL.move rfl rfl rfl ?_
    cases hg140 : (!decide (x.k = 0))
    ·
     have hg140p : x.k = 0 := by simpa using hg140
     refine WL.fieldAddr fo_69_0 rfl rfl rfl ?_
     refine WL.load1 (v := .int .i64 x.op) one_3 rfl rfl rfl (hS.cell 0 rfl rfl) ?_
     refine WL.bin rfl rfl rfl rfl rfl ?_
     refine WL.move rfl rfl rfl ?_
     cases hg141 : (!decide (x.op = 14))
     ·
      have hg141p : x.op = 14 := by simpa using hg141
      refine WL.skp rfl rfl ?_
      refine WL.skp rfl rfl ?_
      refine WL.skp rfl rfl ?_
      refine WL.skp rfl rfl ?_
      refine WL.pick (v := .bool false) rfl rfl rfl rfl rfl rfl ?_
      refine WL.pick (v := .bool false) rfl rfl rfl rfl rfl rfl ?_
      refine WL.nil ?_
      refine N.seq ?_
      refine W.condF rfl ?_
      refine W.skip ?_
      refine N.seq ?_
      refine W.seq ?_
      refine W.region ?_
      refine WL.loadN (cs := [.int .i64 x.op, .int .i64 x.a, .int .i64 x.b, .int .u64 x.k, .string x.name, .slice adx x.args.length capx]) agg_69 rfl rfl rfl rfl (hS.cells 0 (m := 6) rfl rfl) ?_
      refine WL.callF (vs := [.agg #[.int .i64 x.op, .int .i64 x.a, .int .i64 x.b, .int .u64 x.k, .string x.name, .slice adx x.args.length capx]]) Tryd.func31 (by kernel_rfl) rfl rfl rfl (named5_ret x _ (ro := ro) (fun b hb => (hS.snap b hb).1) (hQx.keep hS.alike)) ?_
      rintro v w142 ⟨rfl, hbl⟩
      replace hS := hS.grow hbl
      refine WL.assign rfl rfl rfl ?_
      refine WL.nil ?_
      refine N.seq ?_
      refine W.seq ?_
      refine W.seq ?_
      refine W.region ?_
      refine WL.move rfl rfl rfl ?_
      refine WL.nil ?_
      refine N.seq ?_
      refine W.cond rfl (fun hc143 => ?_) (fun hc143 => ?_)
      ·
       refine W.seq ?_
       refine W.region ?_
       refine WL.fieldAddr fo_69_4 rfl rfl rfl ?_
       refine WL.load1 (v := .string x.name) one_9 rfl rfl rfl (hS.cell 0 rfl rfl) ?_
       refine WL.callF (vs := [.string x.name]) Tryd.func21 (by kernel_rfl) rfl rfl rfl (name5_ret x.name hnx (ro := ro) (fun b hb => (hS.snap b hb).1)) ?_
       rintro v w144 ⟨rfl, hbl⟩
       replace hS := hS.grow hbl
       refine WL.assign rfl rfl rfl ?_
       refine WL.nil ?_
       refine N.seq ?_
       refine Fin.ret1 rfl (v := .bool (name5 x.name)) rfl ?_
       have hbz := hS.below
       clear hS
       refine ⟨?_, hbz⟩
       congr 1
       rw [inst5, if_neg (by clear hx hQx hsx hsxd hsxa hsxb hsxc; rw [← hu5]; first | omega | (simp_all; done) | (rintro (h | h | h | h) <;> first | omega | (simp_all; done))), if_neg (by clear hx hQx hsx hsxd hsxa hsxb hsxc hu5; first | omega | (simp_all; done) | (simp_all; omega)), if_pos (by simp_all)]
      refine W.skip ?_
      refine N.seq ?_
      refine W.seq ?_
      refine W.region ?_
      refine WL.fieldAddr fo_69_4 rfl rfl rfl ?_
      refine WL.load1 (v := .string x.name) one_9 rfl rfl rfl (hS.cell 0 rfl rfl) ?_
      refine WL.eqStr rfl rfl rfl rfl ?_
      refine WL.assign rfl rfl rfl ?_
      refine WL.nil ?_
      refine N.seq ?_
      refine Fin.ret1 rfl (v := .bool (decide (x.name = ⟨#[]⟩))) rfl ?_
      have hbz := hS.below
      clear hS
      refine ⟨?_, hbz⟩
      congr 1
      rw [inst5, if_neg (by clear hx hQx hsx hsxd hsxa hsxb hsxc; rw [← hu5]; first | omega | (simp_all; done) | (rintro (h | h | h | h) <;> first | omega | (simp_all; done))), if_neg (by clear hx hQx hsx hsxd hsxa hsxb hsxc hu5; first | omega | (simp_all; done) | (simp_all; omega)), if_neg (by simp_all)]
     have hg141p : ¬ (x.op = 14) := by simpa using hg141
     refine WL.fieldAddr fo_69_5 rfl rfl rfl ?_
     refine WL.load1 (v := .slice adx x.args.length capx) one_55 rfl rfl rfl (hS.cell 0 rfl rfl) ?_
     refine WL.lenSlice Tryd.underlying55 rfl rfl rfl ?_
     refine WL.bin rfl rfl rfl rfl rfl ?_
     refine WL.pick (v := .bool (decide (0 < (x.args.length : Int)))) rfl rfl rfl rfl rfl rfl ?_
     refine WL.pick (v := .bool (decide (0 < (x.args.length : Int)))) rfl rfl rfl rfl rfl rfl ?_
     refine WL.nil ?_
     refine N.seq ?_
     refine W.cond rfl (fun hc145 => ?_) (fun hc145 => ?_)
     ·
      have hc145p : 0 < (x.args.length : Int) := by simpa using hc145
      refine W.seq ?_
      refine W.region ?_
      refine WL.assign rfl rfl rfl ?_
      refine WL.nil ?_
      refine N.seq ?_
      refine Fin.ret1 rfl (v := .bool false) rfl ?_
      have hbz := hS.below
      clear hS
      refine ⟨?_, hbz⟩
      congr 1
      rw [inst5, if_neg (by clear hx hQx hsx hsxd hsxa hsxb hsxc; rw [← hu5]; first | omega | (simp_all; done) | (rintro (h | h | h | h) <;> first | omega | (simp_all; done))), if_pos (by clear hx hQx hsx hsxd hsxa hsxb hsxc hu5; first | omega | (simp_all; done) | (simp_all; omega))]
     have hc145p : ¬ (0 < (x.args.length : Int)) := by simpa using hc145
     refine W.skip ?_
     refine N.seq ?_
     refine W.seq ?_
     refine W.region ?_
     refine WL.loadN (cs := [.int .i64 x.op, .int .i64 x.a, .int .i64 x.b, .int .u64 x.k, .string x.name, .slice adx x.args.length capx]) agg_69 rfl rfl rfl rfl (hS.cells 0 (m := 6) rfl rfl) ?_
     refine WL.callF (vs := [.agg #[.int .i64 x.op, .int .i64 x.a, .int .i64 x.b, .int .u64 x.k, .string x.name, .slice adx x.args.length capx]]) Tryd.func31 (by kernel_rfl) rfl rfl rfl (named5_ret x _ (ro := ro) (fun b hb => (hS.snap b hb).1) (hQx.keep hS.alike)) ?_
     rintro v w146 ⟨rfl, hbl⟩
     replace hS := hS.grow hbl
     refine WL.assign rfl rfl rfl ?_
     refine WL.nil ?_
     refine N.seq ?_
     refine W.seq ?_
     refine W.seq ?_
     refine W.region ?_
     refine WL.move rfl rfl rfl ?_
     refine WL.nil ?_
     refine N.seq ?_
     refine W.cond rfl (fun hc147 => ?_) (fun hc147 => ?_)
     ·
      refine W.seq ?_
      refine W.region ?_
      refine WL.fieldAddr fo_69_4 rfl rfl rfl ?_
      refine WL.load1 (v := .string x.name) one_9 rfl rfl rfl (hS.cell 0 rfl rfl) ?_
      refine WL.callF (vs := [.string x.name]) Tryd.func21 (by kernel_rfl) rfl rfl rfl (name5_ret x.name hnx (ro := ro) (fun b hb => (hS.snap b hb).1)) ?_
      rintro v w148 ⟨rfl, hbl⟩
      replace hS := hS.grow hbl
      refine WL.assign rfl rfl rfl ?_
      refine WL.nil ?_
      refine N.seq ?_
      refine Fin.ret1 rfl (v := .bool (name5 x.name)) rfl ?_
      have hbz := hS.below
      clear hS
      refine ⟨?_, hbz⟩
      congr 1
      rw [inst5, if_neg (by clear hx hQx hsx hsxd hsxa hsxb hsxc; rw [← hu5]; first | omega | (simp_all; done) | (rintro (h | h | h | h) <;> first | omega | (simp_all; done))), if_neg (by clear hx hQx hsx hsxd hsxa hsxb hsxc hu5; first | omega | (simp_all; done) | (simp_all; omega)), if_pos (by simp_all)]
     refine W.skip ?_
     refine N.seq ?_
     refine W.seq ?_
     refine W.region ?_
     refine WL.fieldAddr fo_69_4 rfl rfl rfl ?_
     refine WL.load1 (v := .string x.name) one_9 rfl rfl rfl (hS.cell 0 rfl rfl) ?_
     refine WL.eqStr rfl rfl rfl rfl ?_
     refine WL.assign rfl rfl rfl ?_
     refine WL.nil ?_
     refine N.seq ?_
     refine Fin.ret1 rfl (v := .bool (decide (x.name = ⟨#[]⟩))) rfl ?_
     have hbz := hS.below
     clear hS
     refine ⟨?_, hbz⟩
     congr 1
     rw [inst5, if_neg (by clear hx hQx hsx hsxd hsxa hsxb hsxc; rw [← hu5]; first | omega | (simp_all; done) | (rintro (h | h | h | h) <;> first | omega | (simp_all; done))), if_neg (by clear hx hQx hsx hsxd hsxa hsxb hsxc hu5; first | omega | (simp_all; done) | (simp_all; omega)), if_neg (by simp_all)]
    have hg140p : ¬ (x.k = 0) := by simpa using hg140
    refine WL.skp rfl rfl ?_
    refine WL.skp rfl rfl ?_
    refine WL.skp rfl rfl ?_
    refine WL.skp rfl rfl ?_
    refine WL.skp rfl rfl ?_
    refine WL.skp rfl rfl ?_
    refine WL.skp rfl rfl ?_
    refine WL.skp rfl rfl ?_
    refine WL.skp rfl rfl ?_
    refine WL.pick (v := .bool true) rfl rfl rfl rfl rfl rfl ?_
    refine WL.nil ?_
    refine N.seq ?_
    refine W.condT rfl ?_
    refine W.seq ?_
    refine W.region ?_
    refine WL.assign rfl rfl rfl ?_
    refine WL.nil ?_
    refine N.seq ?_
    refine Fin.ret1 rfl (v := .bool false) rfl ?_
    have hbz := hS.below
    clear hS
    refine ⟨?_, hbz⟩
    congr 1
    rw [inst5, if_neg (by clear hx hQx hsx hsxd hsxa hsxb hsxc; rw [← hu5]; first | omega | (simp_all; done) | (rintro (h | h | h | h) <;> first | omega | (simp_all; done))), if_pos (by clear hx hQx hsx hsxd hsxa hsxb hsxc hu5; first | omega | (simp_all; done) | (simp_all; omega))]
   refine WL.skp rfl rfl ?_
   refine WL.skp rfl rfl ?_
   refine WL.skp rfl rfl ?_
   refine WL.skp rfl rfl ?_
   refine WL.pick (v := .bool true) rfl rfl rfl rfl rfl rfl ?_
   refine WL.nil ?_
   refine N.seq ?_
   refine W.condT rfl ?_
   refine W.seq ?_
   refine W.region ?_
   refine WL.assign rfl rfl rfl ?_
   refine WL.nil ?_
   refine N.seq ?_
   refine Fin.ret1 rfl (v := .bool false) rfl ?_
   have hbz := hS.below
   clear hS
   refine ⟨?_, hbz⟩
   congr 1
   rw [inst5, if_pos (by clear hx hQx hsx hsxd hsxa hsxb hsxc; rw [← hu5]; first | omega | (simp_all; done) | (rintro (h | h | h | h) <;> first | omega | (simp_all; done)))]
  have hg6p : 16 < x.op := by simpa using hg6
  refine WL.skp rfl rfl ?_
  refine WL.skp rfl rfl ?_
  refine WL.pick (v := .bool true) rfl rfl rfl rfl rfl rfl ?_
  refine WL.move rfl rfl rfl ?_
  refine WL.skp rfl rfl ?_
  refine WL.skp rfl rfl ?_
  refine WL.skp rfl rfl ?_
  refine WL.skp rfl rfl ?_
  refine WL.pick (v := .bool true) rfl rfl rfl rfl rfl rfl ?_
  refine WL.nil ?_
  refine N.seq ?_
  refine W.condT rfl ?_
  refine W.seq ?_
  refine W.region ?_
  refine WL.assign rfl rfl rfl ?_
  refine WL.nil ?_
  refine N.seq ?_
  refine Fin.ret1 rfl (v := .bool false) rfl ?_
  have hbz := hS.below
  clear hS
  refine ⟨?_, hbz⟩
  congr 1
  rw [inst5, if_pos (by clear hx hQx hsx hsxd hsxa hsxb hsxc; rw [← hu5]; first | omega | (simp_all; done) | (rintro (h | h | h | h) <;> first | omega | (simp_all; done)))]
 have hg5p : x.op < 1 := by simpa using hg5
 refine WL.skp rfl rfl ?_
 refine WL.skp rfl rfl ?_
 refine WL.skp rfl rfl ?_
 refine WL.pick (v := .bool true) rfl rfl rfl rfl rfl rfl ?_
 refine WL.move rfl rfl rfl ?_
 refine WL.skp rfl rfl ?_
 refine WL.skp rfl rfl ?_
 refine WL.pick (v := .bool true) rfl rfl rfl rfl rfl rfl ?_
 refine WL.move rfl rfl rfl ?_
 refine WL.skp rfl rfl ?_
 refine WL.skp rfl rfl ?_
 refine WL.skp rfl rfl ?_
 refine WL.skp rfl rfl ?_
 refine WL.pick (v := .bool true) rfl rfl rfl rfl rfl rfl ?_
 refine WL.nil ?_
 refine N.seq ?_
 refine W.condT rfl ?_
 refine W.seq ?_
 refine W.region ?_
 refine WL.assign rfl rfl rfl ?_
 refine WL.nil ?_
 refine N.seq ?_
 refine Fin.ret1 rfl (v := .bool false) rfl ?_
 have hbz := hS.below
 clear hS
 refine ⟨?_, hbz⟩
 congr 1
 rw [inst5, if_pos (by clear hx hQx hsx hsxd hsxa hsxb hsxc; rw [← hu5]; first | omega | (simp_all; done) | (rintro (h | h | h | h) <;> first | omega | (simp_all; done)))]

def goes5 (f : DFunc) (to : Int) (args : List Int) (n : Int) : Bool :=
  if to < 0 then false else match f.blocks[to.toNat]? with
  | some b => if (args.length : Int) = b.params then below5 args n else false
  | none => false

theorem goes5_ret (f : DFunc) (cf : List Value) (to : Int) (args : List Int) (va : Value) (n : Int) {w : World} {ro : Nat → Prop} (hro : ∀ b, ro b → b < w.heap.size) (hx : FuncC ro w cf f) (hy : IntsV ro w va args) : Ret Tryd.prog 42 #[.agg cf.toArray, .int .i64 to, va, .int .i64 n] w fun v w' => v = .bool (goes5 f to args n) ∧ Below w.heap.size w w' := by
 obtain ⟨sb, rfl, hbl, hnm, hbd, hpr⟩ := id hx
 obtain ⟨adb, capb, rfl, hbka, hbkb, hbkc, hbkd⟩ := id hbl
 have hbkm : f.blocks.length ≤ 9223372036854775807 := by have h1 := hbka; have h2 := hbkb; unfold maxLen at h2; omega
 obtain ⟨ada, capa, rfl, hya, hyb, hyc, hyd⟩ := id hy
 have hym : args.length ≤ 9223372036854775807 := by have h1 := hya; have h2 := hyb; unfold maxLen at h2; omega
 refine Ret.enter (P := Tryd.prog) (n := 32) (args := [.agg #[.string f.name, .int .i64 f.bind, .int .i64 f.params, .slice adb f.blocks.length capb], .int .i64 to, .slice ada args.length capa, .int .i64 n]) (σ := [(0, .agg #[.string f.name, .int .i64 f.bind, .int .i64 f.params, .slice adb f.blocks.length capb]), (1, .int .i64 to), (2, .slice ada args.length capa), (3, .int .i64 n)]) Tryd.func42 rfl rfl rfl rfl ?_
 have hS := St.start (ro := ro) hro
 refine W.seq ?_
 refine W.region ?_
 refine WL.box (v := .agg #[.string f.name, .int .i64 f.bind, .int .i64 f.params, .slice adb f.blocks.length capb]) (cs := [.string f.name, .int .i64 f.bind, .int .i64 f.params, .slice adb f.blocks.length capb]) rfl rfl rfl rfl hS ?_
 clear hS; intro w2 b1 hb_b1 hS
 refine WL.assign rfl rfl rfl ?_
 refine WL.nil ?_
 refine N.seq ?_
 refine W.seq ?_
 refine W.seq ?_
 refine W.region ?_
 refine WL.move rfl rfl rfl ?_
 refine WL.bin rfl rfl rfl rfl rfl ?_
 refine WL.move rfl rfl rfl ?_
 cases hg3 : (decide (to < 0))
 ·
  have hg3p : ¬ (to < 0) := by simpa using hg3
  refine WL.move rfl rfl rfl ?_
  refine WL.fieldAddr fo_24_3 rfl rfl rfl ?_
  refine WL.load1 (v := .slice adb f.blocks.length capb) one_22 rfl rfl rfl (hS.cell 0 rfl rfl) ?_
  refine WL.lenSlice Tryd.underlying22 rfl rfl rfl ?_
  refine WL.bin rfl rfl rfl rfl rfl ?_
  refine WL.pick (v := .bool (decide ((f.blocks.length : Int) ≤ to))) rfl rfl rfl rfl rfl rfl ?_
  refine WL.move rfl rfl rfl ?_
  cases hg4 : (decide ((f.blocks.length : Int) ≤ to))
  ·
   have hg4p : ¬ ((f.blocks.length : Int) ≤ to) := by simpa using hg4
   refine WL.move rfl rfl rfl ?_
   refine WL.lenSlice Tryd.underlying55 rfl rfl rfl ?_
   refine WL.fieldAddr fo_24_3 rfl rfl rfl ?_
   refine WL.load1 (v := .slice adb f.blocks.length capb) one_22 rfl rfl rfl (hS.cell 0 rfl rfl) ?_
   refine WL.move rfl rfl rfl ?_
   refine WL.set 23 (v' := .int .i64 (to.toNat : Int)) rfl (by congr 1; omega) ?_
   have hj5 : to.toNat < f.blocks.length := by omega
   obtain ⟨x5, hx5⟩ : ∃ zz, f.blocks[to.toNat]? = some zz := ⟨_, List.getElem?_eq_getElem hj5⟩
   obtain ⟨b5, o5, cs5, hE5, hr5, hl5, hc5, hQ5⟩ := hbkd to.toNat _ hx5
   obtain ⟨si5, tsx5, rfl, hin5, hfin5, hpar5⟩ := id hQ5
   obtain ⟨adi5, capi5, rfl, hin5a, hin5b, hin5c, hin5d⟩ := id hin5
   have hin5m : x5.ins.length ≤ 9223372036854775807 := by have h1 := hin5a; have h2 := hin5b; unfold maxLen at h2; omega
   obtain ⟨sp5, sq5, rfl, ht15, ht25, htk5, hta5, htt5, hte5⟩ := id hfin5
   obtain ⟨adp5, capp5, rfl, htp5a, htp5b, htp5c, htp5d⟩ := id ht15
   have htp5m : x5.fin.args.length ≤ 9223372036854775807 := by have h1 := htp5a; have h2 := htp5b; unfold maxLen at h2; omega
   obtain ⟨adq5, capq5, rfl, htq5a, htq5b, htq5c, htq5d⟩ := id ht25
   have htq5m : x5.fin.elses.length ≤ 9223372036854775807 := by have h1 := htq5a; have h2 := htq5b; unfold maxLen at h2; omega
   refine WL.indexAddrE (j := to.toNat) Tryd.underlying22 isz_59 rfl rfl rfl rfl hj5 hE5 ?_
   refine WL.fieldAddr fo_59_0 rfl rfl rfl ?_
   refine WL.load1 (v := .int .i64 x5.params) one_3 rfl rfl rfl (hS.roCells hr5 hc5 0 _ rfl) ?_
   refine WL.bin rfl rfl rfl rfl rfl ?_
   refine WL.pick (v := .bool (!decide ((args.length : Int) = x5.params))) rfl rfl rfl rfl rfl rfl ?_
   refine WL.nil ?_
   refine N.seq ?_
   refine W.cond rfl (fun hc6 => ?_) (fun hc6 => ?_)
   ·
    have hc6p : ¬ ((args.length : Int) = x5.params) := by simpa using hc6
    refine W.seq ?_
    refine W.region ?_
    refine WL.assign rfl rfl rfl ?_
    refine WL.nil ?_
    refine N.seq ?_
    refine Fin.ret1 rfl (v := .bool false) rfl ?_
    have hbz := hS.below
    clear hS
    refine ⟨?_, hbz⟩
    congr 1
    rw [goes5, if_neg (by omega), hx5]
    dsimp only
    rw [if_neg (by omega)]
   have hc6p : (args.length : Int) = x5.params := by simpa using hc6
   refine W.skip ?_
   refine N.seq ?_
   refine W.seq ?_
   refine W.region ?_
   refine WL.move rfl rfl rfl ?_
   refine WL.move rfl rfl rfl ?_
   refine WL.callF (vs := [.slice ada args.length capa, .int .i64 n]) Tryd.func59 (by kernel_rfl) rfl rfl rfl (below5_ret args _ n (ro := ro) (fun b hb => (hS.snap b hb).1) (IntsV.keep hy hS.alike)) ?_
   rintro v w7 ⟨rfl, hbl⟩
   replace hS := hS.grow hbl
   refine WL.assign rfl rfl rfl ?_
   refine WL.nil ?_
   refine N.seq ?_
   refine Fin.ret1 rfl (v := .bool (below5 args n)) rfl ?_
   have hbz := hS.below
   clear hS
   refine ⟨?_, hbz⟩
   congr 1
   rw [goes5, if_neg (by omega), hx5]
   dsimp only
   rw [if_pos (by omega)]
  have hg4p : (f.blocks.length : Int) ≤ to := by simpa using hg4
  refine WL.skp rfl rfl ?_
  refine WL.skp rfl rfl ?_
  refine WL.skp rfl rfl ?_
  refine WL.skp rfl rfl ?_
  refine WL.skp rfl rfl ?_
  refine WL.skp rfl rfl ?_
  refine WL.skp rfl rfl ?_
  refine WL.skp rfl rfl ?_
  refine WL.skp rfl rfl ?_
  refine WL.pick (v := .bool true) rfl rfl rfl rfl rfl rfl ?_
  refine WL.nil ?_
  refine N.seq ?_
  refine W.condT rfl ?_
  refine W.seq ?_
  refine W.region ?_
  refine WL.assign rfl rfl rfl ?_
  refine WL.nil ?_
  refine N.seq ?_
  refine Fin.ret1 rfl (v := .bool false) rfl ?_
  have hbz := hS.below
  clear hS
  refine ⟨?_, hbz⟩
  congr 1
  rw [goes5, if_neg (by omega), List.getElem?_eq_none (by omega)]
 have hg3p : to < 0 := by simpa using hg3
 refine WL.skp rfl rfl ?_
 refine WL.skp rfl rfl ?_
 refine WL.skp rfl rfl ?_
 refine WL.skp rfl rfl ?_
 refine WL.skp rfl rfl ?_
 refine WL.pick (v := .bool true) rfl rfl rfl rfl rfl rfl ?_
 refine WL.move rfl rfl rfl ?_
 refine WL.skp rfl rfl ?_
 refine WL.skp rfl rfl ?_
 refine WL.skp rfl rfl ?_
 refine WL.skp rfl rfl ?_
 refine WL.skp rfl rfl ?_
 refine WL.skp rfl rfl ?_
 refine WL.skp rfl rfl ?_
 refine WL.skp rfl rfl ?_
 refine WL.skp rfl rfl ?_
 refine WL.pick (v := .bool true) rfl rfl rfl rfl rfl rfl ?_
 refine WL.nil ?_
 refine N.seq ?_
 refine W.condT rfl ?_
 refine W.seq ?_
 refine W.region ?_
 refine WL.assign rfl rfl rfl ?_
 refine WL.nil ?_
 refine N.seq ?_
 refine Fin.ret1 rfl (v := .bool false) rfl ?_
 have hbz := hS.below
 clear hS
 refine ⟨?_, hbz⟩
 congr 1
 rw [goes5, if_pos (by omega)]

end Go.Proofs.YtcmmhfknkldmcaaDoor

namespace Go.Proofs.YtcmmhfknkldmcaaDoor
open Go.RowKit
theorem agg_24 : tyAgg Tryd.prog 24 4 = true := by kernel_rfl
theorem agg_57 : tyAgg Tryd.prog 57 6 = true := by kernel_rfl
theorem agg_59 : tyAgg Tryd.prog 59 8 = true := by kernel_rfl
theorem fo_57_0 : fOff Tryd.prog 57 0 0 = true := by kernel_rfl
theorem fo_57_1 : fOff Tryd.prog 57 1 1 = true := by kernel_rfl
theorem fo_57_2 : fOff Tryd.prog 57 2 2 = true := by kernel_rfl
theorem fo_57_3 : fOff Tryd.prog 57 3 3 = true := by kernel_rfl
theorem fo_57_4 : fOff Tryd.prog 57 4 4 = true := by kernel_rfl
theorem fo_57_5 : fOff Tryd.prog 57 5 5 = true := by kernel_rfl
theorem fo_59_1 : fOff Tryd.prog 59 1 1 = true := by kernel_rfl
theorem fo_59_2 : fOff Tryd.prog 59 2 2 = true := by kernel_rfl
theorem isz_69 : (Tryd.prog.info? 69).map (·.size) = some 6 := by kernel_rfl
theorem one_54 : tyOne Tryd.prog 54 = true := by kernel_rfl
theorem siz_57 : tySize Tryd.prog 57 6 = true := by kernel_rfl
theorem siz_59 : tySize Tryd.prog 59 8 = true := by kernel_rfl
theorem zer_57 : tyZero Tryd.prog 57 = some [.int .i64 0, .int .i64 0, .int .i64 0, .slice none 0 0, .int .i64 0, .slice none 0 0] := by kernel_rfl
theorem zer_59 : tyZero Tryd.prog 59 = some [.int .i64 0, .slice none 0 0, .int .i64 0, .int .i64 0, .int .i64 0, .slice none 0 0, .int .i64 0, .slice none 0 0] := by kernel_rfl
def allFrom : Int → List DInst → Bool
  | _, [] => true
  | p, x :: r => inst5 x p && allFrom (p + 1) r
theorem allFrom_snoc : ∀ (l : List DInst) (p : Int) (x : DInst), allFrom p (l ++ [x]) = (allFrom p l && inst5 x (p + l.length))
  | [], p, x => by simp [allFrom]
  | y :: r, p, x => by
    simp only [List.cons_append, allFrom, allFrom_snoc r (p + 1) x, Bool.and_assoc, List.length_cons]
    rw [show p + 1 + (r.length : Int) = p + ((r.length + 1 : Nat) : Int) by omega]
theorem allFrom_at : ∀ (l : List DInst) (p : Int) (i : Nat) (x : DInst), allFrom p l = true → l[i]? = some x → inst5 x (p + i) = true
  | [], _, _, _, _, h => by simp at h
  | y :: r, p, 0, x, h, hi => by
    simp only [allFrom, Bool.and_eq_true] at h
    simp only [List.getElem?_cons_zero, Option.some.injEq] at hi
    subst hi; simpa using h.1
  | y :: r, p, i + 1, x, h, hi => by
    simp only [allFrom, Bool.and_eq_true] at h
    have := allFrom_at r (p + 1) i x h.2 (by simpa using hi)
    rwa [show p + 1 + (i : Int) = p + ((i + 1 : Nat) : Int) by omega] at this
def term5 (f : DFunc) (t : DTerm) (n : Int) : Bool :=
  if t.kind = 1 then goes5 f t.to t.args n && decide (t.a = 0) && decide (t.els = 0) && decide (t.elses.length = 0)
  else if t.kind = 2 then (decide (0 ≤ t.a) && decide (t.a < n)) && goes5 f t.to t.args n && goes5 f t.els t.elses n
  else decide (t.kind = 3) && (decide (0 ≤ t.a) && decide (t.a < n)) && decide (t.to = 0) && decide (t.args.length = 0) && decide (t.els = 0) && decide (t.elses.length = 0)
def block5 (f : DFunc) (b : DBlock) : Bool :=
  if b.params < 0 ∨ 6 < b.params ∨ 32 < b.ins.length then false
  else if allFrom b.params b.ins = false then false else term5 f b.fin (b.params + b.ins.length)

set_option maxHeartbeats 1000000 in
theorem block5_ret (f : DFunc) (cf : List Value) (k : Nat) {w : World} {ro : Nat → Prop} (hro : ∀ b, ro b → b < w.heap.size) (hx : FuncC ro w cf f) (hok : okFunc f) (hk : k < f.blocks.length) : Ret Tryd.prog 22 #[.agg cf.toArray, .int .i64 (k : Int)] w fun v w' => ∃ b, f.blocks[k]? = some b ∧ v = .bool (block5 f b) ∧ Below w.heap.size w w' := by
 obtain ⟨sb, rfl, hbl, hnm, hbd, hpr⟩ := id hx
 obtain ⟨adb, capb, rfl, hbka, hbkb, hbkc, hbkd⟩ := id hbl
 have hbkm : f.blocks.length ≤ 9223372036854775807 := by have h1 := hbka; have h2 := hbkb; unfold maxLen at h2; omega
 refine Ret.enter (P := Tryd.prog) (n := 148) (args := [.agg #[.string f.name, .int .i64 f.bind, .int .i64 f.params, .slice adb f.blocks.length capb], .int .i64 (k : Int)]) (σ := [(0, .agg #[.string f.name, .int .i64 f.bind, .int .i64 f.params, .slice adb f.blocks.length capb]), (1, .int .i64 (k : Int))]) Tryd.func22 rfl rfl rfl rfl ?_
 have hS := St.start (ro := ro) hro
 refine W.seq ?_
 refine W.region ?_
 refine WL.box (v := .agg #[.string f.name, .int .i64 f.bind, .int .i64 f.params, .slice adb f.blocks.length capb]) (cs := [.string f.name, .int .i64 f.bind, .int .i64 f.params, .slice adb f.blocks.length capb]) rfl rfl rfl rfl hS ?_
 clear hS; intro w2 b1 hb_b1 hS
 refine WL.assign rfl rfl rfl ?_
 refine WL.nil ?_
 refine N.seq ?_
 refine W.seq ?_
 refine W.region ?_
 refine WL.fieldAddr fo_24_3 rfl rfl rfl ?_
 refine WL.load1 (v := .slice adb f.blocks.length capb) one_22 rfl rfl rfl (hS.cell 0 rfl rfl) ?_
 refine WL.move rfl rfl rfl ?_
 have hj3 : k < f.blocks.length := hk
 obtain ⟨x3, hx3⟩ : ∃ zz, f.blocks[k]? = some zz := ⟨_, List.getElem?_eq_getElem hj3⟩
 obtain ⟨b3, o3, cs3, hE3, hr3, hl3, hc3, hQ3⟩ := hbkd k _ hx3
 obtain ⟨si3, tsx3, rfl, hin3, hfin3, hpar3⟩ := id hQ3
 obtain ⟨adi3, capi3, rfl, hin3a, hin3b, hin3c, hin3d⟩ := id hin3
 have hin3m : x3.ins.length ≤ 9223372036854775807 := by have h1 := hin3a; have h2 := hin3b; unfold maxLen at h2; omega
 obtain ⟨sp3, sq3, rfl, ht13, ht23, htk3, hta3, htt3, hte3⟩ := id hfin3
 obtain ⟨adp3, capp3, rfl, htp3a, htp3b, htp3c, htp3d⟩ := id ht13
 have htp3m : x3.fin.args.length ≤ 9223372036854775807 := by have h1 := htp3a; have h2 := htp3b; unfold maxLen at h2; omega
 obtain ⟨adq3, capq3, rfl, htq3a, htq3b, htq3c, htq3d⟩ := id ht23
 have htq3m : x3.fin.elses.length ≤ 9223372036854775807 := by have h1 := htq3a; have h2 := htq3b; unfold maxLen at h2; omega
 refine WL.indexAddrE (j := k) Tryd.underlying22 isz_59 rfl rfl rfl rfl hj3 hE3 ?_
 refine WL.loadN (cs := [.int .i64 x3.params, .slice adi3 x3.ins.length capi3, .int .i64 x3.fin.kind, .int .i64 x3.fin.a, .int .i64 x3.fin.to, .slice adp3 x3.fin.args.length capp3, .int .i64 x3.fin.els, .slice adq3 x3.fin.elses.length capq3]) agg_59 rfl rfl rfl rfl (hS.roCells hr3 hc3) ?_
 refine WL.alloc (tyZero_spec zer_59) rfl rfl hS ?_
 clear hS; intro w5 b4 hb_b4 hS
 refine WL.store (cs := [.int .i64 x3.params, .slice adi3 x3.ins.length capi3, .int .i64 x3.fin.kind, .int .i64 x3.fin.a, .int .i64 x3.fin.to, .slice adp3 x3.fin.args.length capp3, .int .i64 x3.fin.els, .slice adq3 x3.fin.elses.length capq3]) (c' := #[.int .i64 x3.params, .slice adi3 x3.ins.length capi3, .int .i64 x3.fin.kind, .int .i64 x3.fin.a, .int .i64 x3.fin.to, .slice adp3 x3.fin.args.length capp3, .int .i64 x3.fin.els, .slice adq3 x3.fin.elses.length capq3]) (L' := [(b4, .cells #[.int .i64 x3.params, .slice adi3 x3.ins.length capi3, .int .i64 x3.fin.kind, .int .i64 x3.fin.a, .int .i64 x3.fin.to, .slice adp3 x3.fin.args.length capp3, .int .i64 x3.fin.els, .slice adq3 x3.fin.elses.length capq3] 59 (0, 0)), (b1, .cells #[.string f.name, .int .i64 f.bind, .int .i64 f.params, .slice adb f.blocks.length capb] 24 (0, 0))]) 0 rfl rfl rfl rfl siz_59 rfl rfl rfl rfl rfl hS ?_
 clear hS; intro w6 hS
 refine WL.nil ?_
 refine N.seq ?_
 refine W.seq ?_
 refine W.seq ?_
 refine W.region ?_
 refine WL.fieldAddr fo_59_0 rfl rfl rfl ?_
 refine WL.load1 (v := .int .i64 x3.params) one_3 rfl rfl rfl (hS.cell 0 rfl rfl) ?_
 refine WL.bin rfl rfl rfl rfl rfl ?_
 refine WL.move rfl rfl rfl ?_
 cases hg7 : (decide (x3.params < 0))
 ·
  have hg7p : ¬ (x3.params < 0) := by simpa using hg7
  refine WL.fieldAddr fo_59_0 rfl rfl rfl ?_
  refine WL.load1 (v := .int .i64 x3.params) one_3 rfl rfl rfl (hS.cell 0 rfl rfl) ?_
  refine WL.bin rfl rfl rfl rfl rfl ?_
  refine WL.pick (v := .bool (decide (6 < x3.params))) rfl rfl rfl rfl rfl rfl ?_
  refine WL.move rfl rfl rfl ?_
  cases hg8 : (decide (6 < x3.params))
  ·
   have hg8p : ¬ (6 < x3.params) := by simpa using hg8
   refine WL.fieldAddr fo_59_1 rfl rfl rfl ?_
   refine WL.load1 (v := .slice adi3 x3.ins.length capi3) one_54 rfl rfl rfl (hS.cell 0 rfl rfl) ?_
   refine WL.lenSlice Tryd.underlying54 rfl rfl rfl ?_
   refine WL.bin rfl rfl rfl rfl rfl ?_
   refine WL.pick (v := .bool (decide (32 < (x3.ins.length : Int)))) rfl rfl rfl rfl rfl rfl ?_
   refine WL.nil ?_
   refine N.seq ?_
   refine W.cond rfl (fun hc9 => ?_) (fun hc9 => ?_)
   ·
    have hc9p : 32 < (x3.ins.length : Int) := by simpa using hc9
    refine W.seq ?_
    refine W.region ?_
    refine WL.assign rfl rfl rfl ?_
    refine WL.nil ?_
    refine N.seq ?_
    refine Fin.ret1 rfl (v := .bool false) rfl ?_
    have hbz := hS.below
    clear hS
    refine ⟨x3, hx3, ?_, hbz⟩
    congr 1
    rw [block5, if_pos (by omega)]
   have hc9p : ¬ (32 < (x3.ins.length : Int)) := by simpa using hc9
   refine W.skip ?_
   refine N.seq ?_
   refine W.seq ?_
   refine W.seq ?_
   refine W.region ?_
   refine WL.assign rfl rfl rfl ?_
   refine WL.nil ?_
   refine N.seq ?_
   refine W.block ?_
   refine W.loop (α := Nat) (fun (i : Nat) => [(0, .agg #[.string f.name, .int .i64 f.bind, .int .i64 f.params, .slice adb f.blocks.length capb]), (1, .int .i64 (k : Int)), (2, .pointer (some ⟨b1, 0, none⟩)), (5, .pointer (some ⟨b4, 0, none⟩)), (6, .int .i64 (i : Int)), (14, .pointer (some ⟨b1, 3, none⟩)), (15, .slice adb f.blocks.length capb), (16, .int .i64 (k : Int)), (17, .pointer (some ⟨b3, o3 + k * 8, none⟩)), (18, .agg #[.int .i64 x3.params, .slice adi3 x3.ins.length capi3, .int .i64 x3.fin.kind, .int .i64 x3.fin.a, .int .i64 x3.fin.to, .slice adp3 x3.fin.args.length capp3, .int .i64 x3.fin.els, .slice adq3 x3.fin.elses.length capq3]), (19, .pointer (some ⟨b4, 0, none⟩)), (20, .int .i64 x3.params), (21, .bool false), (22, .bool false), (23, .pointer (some ⟨b4, 0, none⟩)), (24, .int .i64 x3.params), (25, .bool false), (26, .bool false), (27, .bool false), (28, .pointer (some ⟨b4, 1, none⟩)), (29, .slice adi3 x3.ins.length capi3), (30, .int .i64 (x3.ins.length : Int)), (31, .bool (decide (32 < (x3.ins.length : Int)))), (32, .bool (decide (32 < (x3.ins.length : Int))))]) (fun (i : Nat) u => St w w u ro [(b4, .cells #[.int .i64 x3.params, .slice adi3 x3.ins.length capi3, .int .i64 x3.fin.kind, .int .i64 x3.fin.a, .int .i64 x3.fin.to, .slice adp3 x3.fin.args.length capp3, .int .i64 x3.fin.els, .slice adq3 x3.fin.elses.length capq3] 59 (0, 0)), (b1, .cells #[.string f.name, .int .i64 f.bind, .int .i64 f.params, .slice adb f.blocks.length capb] 24 (0, 0))] [] ∧ i ≤ x3.ins.length ∧ allFrom x3.params (x3.ins.take i) = true) (fun (i : Nat) => x3.ins.length - i) 0 ⟨rfl, rfl, rfl, rfl, rfl, rfl, rfl, rfl, rfl, rfl, rfl, rfl, rfl, rfl, rfl, rfl, rfl, rfl, rfl, rfl, rfl, rfl, rfl, rfl, trivial⟩ ⟨hS, Nat.zero_le _, rfl⟩ ?_
   clear hS
   rintro i w10 ⟨hS, hi, htk⟩
   refine W.seq ?_
   refine W.seq ?_
   refine W.region ?_
   refine WL.move rfl rfl rfl ?_
   refine WL.fieldAddr fo_59_1 rfl rfl rfl ?_
   refine WL.load1 (v := .slice adi3 x3.ins.length capi3) one_54 rfl rfl rfl (hS.cell 0 rfl rfl) ?_
   refine WL.lenSlice Tryd.underlying54 rfl rfl rfl ?_
   refine WL.bin rfl rfl rfl rfl rfl ?_
   refine WL.nil ?_
   refine N.seq ?_
   refine W.cond rfl (fun hc11 => ?_) (fun hc11 => ?_)
   ·
    have hc11p : (i : Int) < (x3.ins.length : Int) := by simpa using hc11
    refine W.skip ?_
    refine N.seq ?_
    refine W.seq ?_
    refine W.block ?_
    refine W.seq ?_
    have hj12 : i < x3.ins.length := by omega
    obtain ⟨x12, hx12⟩ : ∃ zz, x3.ins[i]? = some zz := ⟨_, List.getElem?_eq_getElem hj12⟩
    obtain ⟨b12, o12, cs12, hE12, hr12, hl12, hc12, hQ12⟩ := hin3d i _ hx12
    have hQk12 := hQ12
    obtain ⟨sv12, rfl, hs12, ho12, ha12, hb12, hk12, hn12⟩ := hQ12
    obtain ⟨ad12, cap12, rfl, hs12a, hs12b, hs12c, hs12d⟩ := id hs12
    have hs12m : x12.args.length ≤ 9223372036854775807 := by have h1 := hs12a; have h2 := hs12b; unfold maxLen at h2; omega
    refine W.drawL (by kernel_rfl) 10 ((.q (.pointer (some ⟨b4, 1, none⟩))) :: (.q (.slice adi3 x3.ins.length capi3)) :: (.q (.int .i64 (i : Int))) :: (.q (.pointer (some ⟨b12, o12 + i * 6, none⟩))) :: (.q (.agg #[.int .i64 x12.op, .int .i64 x12.a, .int .i64 x12.b, .int .u64 x12.k, .string x12.name, .slice ad12 x12.args.length cap12])) :: (.q (.pointer (some ⟨b4, 0, none⟩))) :: (.q (.int .i64 x3.params)) :: (.q (.int .i64 (i : Int))) :: (.q (.int .i64 (x3.params + (i : Int)))) :: (.q (.bool (inst5 x12 (x3.params + (i : Int))))) :: []) (by kernel_rfl) (by kernel_rfl) [(0, .agg #[.string f.name, .int .i64 f.bind, .int .i64 f.params, .slice adb f.blocks.length capb]), (1, .int .i64 (k : Int)), (2, .pointer (some ⟨b1, 0, none⟩)), (5, .pointer (some ⟨b4, 0, none⟩)), (6, .int .i64 (i : Int)), (14, .pointer (some ⟨b1, 3, none⟩)), (15, .slice adb f.blocks.length capb), (16, .int .i64 (k : Int)), (17, .pointer (some ⟨b3, o3 + k * 8, none⟩)), (18, .agg #[.int .i64 x3.params, .slice adi3 x3.ins.length capi3, .int .i64 x3.fin.kind, .int .i64 x3.fin.a, .int .i64 x3.fin.to, .slice adp3 x3.fin.args.length capp3, .int .i64 x3.fin.els, .slice adq3 x3.fin.elses.length capq3]), (19, .pointer (some ⟨b4, 0, none⟩)), (20, .int .i64 x3.params), (21, .bool false), (22, .bool false), (23, .pointer (some ⟨b4, 0, none⟩)), (24, .int .i64 x3.params), (25, .bool false), (26, .bool false), (27, .bool false), (28, .pointer (some ⟨b4, 1, none⟩)), (29, .slice adi3 x3.ins.length capi3), (30, .int .i64 (x3.ins.length : Int)), (31, .bool (decide (32 < (x3.ins.length : Int)))), (32, .bool (decide (32 < (x3.ins.length : Int)))), (33, .int .i64 (i : Int)), (34, .pointer (some ⟨b4, 1, none⟩)), (35, .slice adi3 x3.ins.length capi3), (36, .int .i64 (x3.ins.length : Int)), (37, .bool (decide ((i : Int) < (x3.ins.length : Int))))] ⟨rfl, rfl, rfl, rfl, rfl, rfl, rfl, rfl, rfl, rfl, rfl, rfl, rfl, rfl, rfl, rfl, rfl, rfl, rfl, rfl, rfl, rfl, rfl, rfl, rfl, rfl, rfl, rfl, rfl, trivial⟩ (by kernel_rfl) hS ?_ ?_
    ·
     refine And.intro (fun β w hS => ?_) ?_
     ·
      refine WL.sub (σ' := [(5, .pointer (some ⟨b4, 0, none⟩))]) ⟨rfl, trivial⟩ ?_
      refine WL.fieldAddr fo_59_1 rfl rfl rfl ?_
      exact WL.nil (N.cut () ⟨rfl, trivial⟩ (Below.refl _ _))
     refine And.intro (fun β w hS => ?_) ?_
     ·
      refine WL.sub (σ' := [(40, .pointer (some ⟨b4, 1, none⟩))]) ⟨rfl, trivial⟩ ?_
      refine WL.load1 (v := .slice adi3 x3.ins.length capi3) one_54 rfl rfl rfl (hS.cell 0 rfl rfl) ?_
      exact WL.nil (N.cut () ⟨rfl, trivial⟩ (Below.refl _ _))
     refine And.intro (fun β w hS => ?_) ?_
     ·
      refine WL.sub (σ' := [(6, .int .i64 (i : Int))]) ⟨rfl, trivial⟩ ?_
      refine WL.move rfl rfl rfl ?_
      exact WL.nil (N.cut () ⟨rfl, trivial⟩ (Below.refl _ _))
     refine And.intro (fun β w hS => ?_) ?_
     ·
      refine WL.sub (σ' := [(41, .slice adi3 x3.ins.length capi3), (42, .int .i64 (i : Int))]) ⟨rfl, rfl, trivial⟩ ?_
      refine WL.indexAddrE (j := i) Tryd.underlying54 isz_69 rfl rfl rfl rfl hj12 hE12 ?_
      exact WL.nil (N.cut () ⟨rfl, trivial⟩ (Below.refl _ _))
     refine And.intro (fun β w hS => ?_) ?_
     ·
      refine WL.sub (σ' := [(43, .pointer (some ⟨b12, o12 + i * 6, none⟩))]) ⟨rfl, trivial⟩ ?_
      refine WL.loadN (cs := [.int .i64 x12.op, .int .i64 x12.a, .int .i64 x12.b, .int .u64 x12.k, .string x12.name, .slice ad12 x12.args.length cap12]) agg_69 rfl rfl rfl rfl (hS.roCells hr12 hc12) ?_
      exact WL.nil (N.cut () ⟨rfl, trivial⟩ (Below.refl _ _))
     refine And.intro (fun β w hS => ?_) ?_
     ·
      refine WL.sub (σ' := [(5, .pointer (some ⟨b4, 0, none⟩))]) ⟨rfl, trivial⟩ ?_
      refine WL.fieldAddr fo_59_0 rfl rfl rfl ?_
      exact WL.nil (N.cut () ⟨rfl, trivial⟩ (Below.refl _ _))
     refine And.intro (fun β w hS => ?_) ?_
     ·
      refine WL.sub (σ' := [(45, .pointer (some ⟨b4, 0, none⟩))]) ⟨rfl, trivial⟩ ?_
      refine WL.load1 (v := .int .i64 x3.params) one_3 rfl rfl rfl (hS.cell 0 rfl rfl) ?_
      exact WL.nil (N.cut () ⟨rfl, trivial⟩ (Below.refl _ _))
     refine And.intro (fun β w hS => ?_) ?_
     ·
      refine WL.sub (σ' := [(6, .int .i64 (i : Int))]) ⟨rfl, trivial⟩ ?_
      refine WL.move rfl rfl rfl ?_
      exact WL.nil (N.cut () ⟨rfl, trivial⟩ (Below.refl _ _))
     refine And.intro (fun β w hS => ?_) ?_
     ·
      refine WL.sub (σ' := [(46, .int .i64 x3.params), (47, .int .i64 (i : Int))]) ⟨rfl, rfl, trivial⟩ ?_
      refine WL.add (c := x3.params + (i : Int)) rfl rfl rfl rfl (rfl) (by omega) ?_
      exact WL.nil (N.cut () ⟨rfl, trivial⟩ (Below.refl _ _))
     refine And.intro (fun β w hS => ?_) ?_
     ·
      refine WL.sub (σ' := [(44, .agg #[.int .i64 x12.op, .int .i64 x12.a, .int .i64 x12.b, .int .u64 x12.k, .string x12.name, .slice ad12 x12.args.length cap12]), (48, .int .i64 (x3.params + (i : Int)))]) ⟨rfl, rfl, trivial⟩ ?_
      refine WL.callF (vs := [.agg #[.int .i64 x12.op, .int .i64 x12.a, .int .i64 x12.b, .int .u64 x12.k, .string x12.name, .slice ad12 x12.args.length cap12], .int .i64 (x3.params + (i : Int))]) Tryd.func41 (by kernel_rfl) rfl rfl rfl (inst5_ret x12 _ (x3.params + (i : Int)) (ro := ro) (fun b hb => (hS.snap b hb).1) (InstC.keep hQk12 hS.alike) ((hok.1 x3 (List.mem_of_getElem? hx3)).1 x12 (List.mem_of_getElem? hx12))) ?_
      rintro v w14 ⟨rfl, hbl⟩
      replace hS := hS.grow hbl
      exact WL.nil (N.cut () ⟨rfl, trivial⟩ hbl)
     trivial
    clear hS; intro w15 β hS
    refine WL.sub (σ' := [(0, .agg #[.string f.name, .int .i64 f.bind, .int .i64 f.params, .slice adb f.blocks.length capb]), (1, .int .i64 (k : Int)), (2, .pointer (some ⟨b1, 0, none⟩)), (5, .pointer (some ⟨b4, 0, none⟩)), (6, .int .i64 (i : Int)), (14, .pointer (some ⟨b1, 3, none⟩)), (15, .slice adb f.blocks.length capb), (16, .int .i64 (k : Int)), (17, .pointer (some ⟨b3, o3 + k * 8, none⟩)), (18, .agg #[.int .i64 x3.params, .slice adi3 x3.ins.length capi3, .int .i64 x3.fin.kind, .int .i64 x3.fin.a, .int .i64 x3.fin.to, .slice adp3 x3.fin.args.length capp3, .int .i64 x3.fin.els, .slice adq3 x3.fin.elses.length capq3]), (19, .pointer (some ⟨b4, 0, none⟩)), (20, .int .i64 x3.params), (21, .bool false), (22, .bool false), (23, .pointer (some ⟨b4, 0, none⟩)), (24, .int .i64 x3.params), (25, .bool false), (26, .bool false), (27, .bool false), (28, .pointer (some ⟨b4, 1, none⟩)), (29, .slice adi3 x3.ins.length capi3), (30, .int .i64 (x3.ins.length : Int)), (31, .bool (decide (32 < (x3.ins.length : Int)))), (32, .bool (decide (32 < (x3.ins.length : Int)))), (33, .int .i64 (i : Int)), (34, .pointer (some ⟨b4, 1, none⟩)), (35, .slice adi3 x3.ins.length capi3), (36, .int .i64 (x3.ins.length : Int)), (37, .bool (decide ((i : Int) < (x3.ins.length : Int)))), (40, .pointer (some ⟨b4, 1, none⟩)), (41, .slice adi3 x3.ins.length capi3), (42, .int .i64 (i : Int)), (43, .pointer (some ⟨b12, o12 + i * 6, none⟩)), (44, .agg #[.int .i64 x12.op, .int .i64 x12.a, .int .i64 x12.b, .int .u64 x12.k, .string x12.name, .slice ad12 x12.args.length cap12]), (45, .pointer (some ⟨b4, 0, none⟩)), (46, .int .i64 x3.params), (47, .int .i64 (i : Int)), (48, .int .i64 (x3.params + (i : Int))), (49, .bool (inst5 x12 (x3.params + (i : Int))))]) ⟨rfl, rfl, rfl, rfl, rfl, rfl, rfl, rfl, rfl, rfl, rfl, rfl, rfl, rfl, rfl, rfl, rfl, rfl, rfl, rfl, rfl, rfl, rfl, rfl, rfl, rfl, rfl, rfl, rfl, rfl, rfl, rfl, rfl, rfl, rfl, rfl, rfl, rfl, rfl, trivial⟩ ?_
    refine WL.assign rfl rfl rfl ?_
    refine WL.nil ?_
    refine N.seq ?_
    refine W.seq ?_
    refine W.region ?_
    refine WL.move rfl rfl rfl ?_
    refine WL.not rfl rfl rfl ?_
    refine WL.nil ?_
    refine N.seq ?_
    refine W.cond rfl (fun hc16 => ?_) (fun hc16 => ?_)
    ·
     refine W.seq ?_
     refine W.region ?_
     refine WL.assign rfl rfl rfl ?_
     refine WL.nil ?_
     refine N.seq ?_
     refine Fin.ret1 rfl (v := .bool false) rfl ?_
     have hbz := hS.below
     clear hS
     refine ⟨x3, hx3, ?_, hbz⟩
     congr 1
     have he : allFrom x3.params x3.ins = false := by
      cases e : allFrom x3.params x3.ins with
      | false => rfl
      | true => rw [allFrom_at _ _ _ _ e hx12] at hc16; simp at hc16
     rw [block5, if_neg (by omega), if_pos he]
    refine W.skip ?_
    refine N.blk ?_
    refine N.seq ?_
    refine W.region ?_
    refine WL.move rfl rfl rfl ?_
    refine WL.add (c := (i : Int) + 1) rfl rfl rfl rfl (rfl) (by omega) ?_
    refine WL.assign rfl rfl rfl ?_
    refine WL.nil ?_
    have htk2 : allFrom x3.params (x3.ins.take (i + 1)) = true := by rw [take_next hx12, allFrom_snoc, htk, List.length_take, Nat.min_eq_left (by omega)]; simpa using hc16
    exact N.loop (i + 1) ⟨rfl, rfl, rfl, rfl, rfl, rfl, rfl, rfl, rfl, rfl, rfl, rfl, rfl, rfl, rfl, rfl, rfl, rfl, rfl, rfl, rfl, rfl, rfl, rfl, trivial⟩ ⟨hS, by omega, htk2⟩ (by first | omega | (simp only; omega))
   have hc11p : ¬ ((i : Int) < (x3.ins.length : Int)) := by simpa using hc11
   refine W.exit ?_
   refine X.seq ?_
   refine X.loop ?_
   refine X.blk ?_
   refine N.seq ?_
   refine W.seq ?_
   refine W.region ?_
   refine WL.fieldAddr fo_59_2 rfl rfl rfl ?_
   refine WL.loadN (cs := [.int .i64 x3.fin.kind, .int .i64 x3.fin.a, .int .i64 x3.fin.to, .slice adp3 x3.fin.args.length capp3, .int .i64 x3.fin.els, .slice adq3 x3.fin.elses.length capq3]) agg_57 rfl rfl rfl rfl (hS.cells 0 (m := 6) rfl rfl) ?_
   refine WL.alloc (tyZero_spec zer_57) rfl rfl hS ?_
   clear hS; intro w18 b17 hb_b17 hS
   refine WL.store (cs := [.int .i64 x3.fin.kind, .int .i64 x3.fin.a, .int .i64 x3.fin.to, .slice adp3 x3.fin.args.length capp3, .int .i64 x3.fin.els, .slice adq3 x3.fin.elses.length capq3]) (c' := #[.int .i64 x3.fin.kind, .int .i64 x3.fin.a, .int .i64 x3.fin.to, .slice adp3 x3.fin.args.length capp3, .int .i64 x3.fin.els, .slice adq3 x3.fin.elses.length capq3]) (L' := [(b17, .cells #[.int .i64 x3.fin.kind, .int .i64 x3.fin.a, .int .i64 x3.fin.to, .slice adp3 x3.fin.args.length capp3, .int .i64 x3.fin.els, .slice adq3 x3.fin.elses.length capq3] 57 (0, 0)), (b4, .cells #[.int .i64 x3.params, .slice adi3 x3.ins.length capi3, .int .i64 x3.fin.kind, .int .i64 x3.fin.a, .int .i64 x3.fin.to, .slice adp3 x3.fin.args.length capp3, .int .i64 x3.fin.els, .slice adq3 x3.fin.elses.length capq3] 59 (0, 0)), (b1, .cells #[.string f.name, .int .i64 f.bind, .int .i64 f.params, .slice adb f.blocks.length capb] 24 (0, 0))]) 0 rfl rfl rfl rfl siz_57 rfl rfl rfl rfl rfl hS ?_
   clear hS; intro w19 hS
   refine WL.nil ?_
   refine N.seq ?_
   refine W.seq ?_
   refine W.region ?_
   refine WL.fieldAddr fo_59_0 rfl rfl rfl ?_
   refine WL.load1 (v := .int .i64 x3.params) one_3 rfl rfl rfl (hS.cell 1 rfl rfl) ?_
   refine WL.fieldAddr fo_59_1 rfl rfl rfl ?_
   refine WL.load1 (v := .slice adi3 x3.ins.length capi3) one_54 rfl rfl rfl (hS.cell 1 rfl rfl) ?_
   refine WL.lenSlice Tryd.underlying54 rfl rfl rfl ?_
   refine WL.add (c := x3.params + (x3.ins.length : Int)) rfl rfl rfl rfl (rfl) (by omega) ?_
   refine WL.assign rfl rfl rfl ?_
   refine WL.nil ?_
   refine N.seq ?_
   refine W.seq ?_
   refine W.seq ?_
   refine W.region ?_
   refine WL.fieldAddr fo_57_0 rfl rfl rfl ?_
   refine WL.load1 (v := .int .i64 x3.fin.kind) one_3 rfl rfl rfl (hS.cell 0 rfl rfl) ?_
   refine WL.bin rfl rfl rfl rfl rfl ?_
   refine WL.nil ?_
   refine N.seq ?_
   refine W.cond rfl (fun hc20 => ?_) (fun hc20 => ?_)
   ·
    have hc20p : x3.fin.kind = 1 := by simpa using hc20
    refine W.seq ?_
    refine W.region ?_
    refine WL.loadN (cs := [.string f.name, .int .i64 f.bind, .int .i64 f.params, .slice adb f.blocks.length capb]) agg_24 rfl rfl rfl rfl (hS.cells 2 (m := 4) rfl rfl) ?_
    refine WL.fieldAddr fo_57_2 rfl rfl rfl ?_
    refine WL.load1 (v := .int .i64 x3.fin.to) one_3 rfl rfl rfl (hS.cell 0 rfl rfl) ?_
    refine WL.fieldAddr fo_57_3 rfl rfl rfl ?_
    refine WL.load1 (v := .slice adp3 x3.fin.args.length capp3) one_55 rfl rfl rfl (hS.cell 0 rfl rfl) ?_
    refine WL.move rfl rfl rfl ?_
    refine WL.callF (vs := [.agg #[.string f.name, .int .i64 f.bind, .int .i64 f.params, .slice adb f.blocks.length capb], .int .i64 x3.fin.to, .slice adp3 x3.fin.args.length capp3, .int .i64 (x3.params + (x3.ins.length : Int))]) Tryd.func42 (by kernel_rfl) rfl rfl rfl (goes5_ret f _ x3.fin.to x3.fin.args _ (x3.params + (x3.ins.length : Int)) (ro := ro) (fun b hb => (hS.snap b hb).1) (FuncC.keep hx hS.alike) (IntsV.keep ht13 hS.alike)) ?_
    rintro v w21 ⟨rfl, hbl⟩
    replace hS := hS.grow hbl
    obtain ⟨u1, hu1⟩ : ∃ u, u = goes5 f x3.fin.to x3.fin.args (x3.params + (x3.ins.length : Int)) := ⟨_, rfl⟩
    rw [← hu1]
    refine WL.assign rfl rfl rfl ?_
    refine WL.nil ?_
    refine N.seq ?_
    refine W.seq ?_
    refine W.region ?_
    refine WL.move rfl rfl rfl ?_
    refine WL.move rfl rfl rfl ?_
    cases hg22 : u1
    ·
     refine WL.skp rfl rfl ?_
     refine WL.skp rfl rfl ?_
     refine WL.skp rfl rfl ?_
     refine WL.pick (v := .bool false) rfl rfl rfl rfl rfl rfl ?_
     refine WL.move rfl rfl rfl ?_
     refine WL.skp rfl rfl ?_
     refine WL.skp rfl rfl ?_
     refine WL.skp rfl rfl ?_
     refine WL.pick (v := .bool false) rfl rfl rfl rfl rfl rfl ?_
     refine WL.move rfl rfl rfl ?_
     refine WL.skp rfl rfl ?_
     refine WL.skp rfl rfl ?_
     refine WL.skp rfl rfl ?_
     refine WL.skp rfl rfl ?_
     refine WL.pick (v := .bool false) rfl rfl rfl rfl rfl rfl ?_
     refine WL.assign rfl rfl rfl ?_
     refine WL.nil ?_
     refine N.seq ?_
     refine Fin.ret1 rfl (v := .bool false) rfl ?_
     have hbz := hS.below
     clear hS
     refine ⟨x3, hx3, ?_, hbz⟩
     congr 1
     have hie : i = x3.ins.length := by omega
     rw [hie, List.take_length] at htk
     rw [block5, if_neg (by omega), if_neg (by simp [htk])]
     rw [term5, if_pos (by omega), ← hu1]
     clear hx hbl hbkd htk
     first | (simp_all; done) | (simp_all; omega) | (rw [Bool.eq_iff_iff]; simp only [Bool.and_eq_true, decide_eq_true_eq, Bool.false_eq_true, false_iff, iff_false]; omega)
    refine WL.fieldAddr fo_57_1 rfl rfl rfl ?_
    refine WL.load1 (v := .int .i64 x3.fin.a) one_3 rfl rfl rfl (hS.cell 0 rfl rfl) ?_
    refine WL.bin rfl rfl rfl rfl rfl ?_
    refine WL.pick (v := .bool (decide (x3.fin.a = 0))) rfl rfl rfl rfl rfl rfl ?_
    refine WL.move rfl rfl rfl ?_
    cases hg23 : (decide (x3.fin.a = 0))
    ·
     have hg23p : ¬ (x3.fin.a = 0) := by simpa using hg23
     refine WL.skp rfl rfl ?_
     refine WL.skp rfl rfl ?_
     refine WL.skp rfl rfl ?_
     refine WL.pick (v := .bool false) rfl rfl rfl rfl rfl rfl ?_
     refine WL.move rfl rfl rfl ?_
     refine WL.skp rfl rfl ?_
     refine WL.skp rfl rfl ?_
     refine WL.skp rfl rfl ?_
     refine WL.skp rfl rfl ?_
     refine WL.pick (v := .bool false) rfl rfl rfl rfl rfl rfl ?_
     refine WL.assign rfl rfl rfl ?_
     refine WL.nil ?_
     refine N.seq ?_
     refine Fin.ret1 rfl (v := .bool false) rfl ?_
     have hbz := hS.below
     clear hS
     refine ⟨x3, hx3, ?_, hbz⟩
     congr 1
     have hie : i = x3.ins.length := by omega
     rw [hie, List.take_length] at htk
     rw [block5, if_neg (by omega), if_neg (by simp [htk])]
     rw [term5, if_pos (by omega), ← hu1]
     clear hx hbl hbkd htk
     first | (simp_all; done) | (simp_all; omega) | (rw [Bool.eq_iff_iff]; simp only [Bool.and_eq_true, decide_eq_true_eq, Bool.false_eq_true, false_iff, iff_false]; omega)
    have hg23p : x3.fin.a = 0 := by simpa using hg23
    refine WL.fieldAddr fo_57_4 rfl rfl rfl ?_
    refine WL.load1 (v := .int .i64 x3.fin.els) one_3 rfl rfl rfl (hS.cell 0 rfl rfl) ?_
    refine WL.bin rfl rfl rfl rfl rfl ?_
    refine WL.pick (v := .bool (decide (x3.fin.els = 0))) rfl rfl rfl rfl rfl rfl ?_
    refine WL.move rfl rfl rfl ?_
    cases hg24 : (decide (x3.fin.els = 0))
    ·
     have hg24p : ¬ (x3.fin.els = 0) := by simpa using hg24
     refine WL.skp rfl rfl ?_
     refine WL.skp rfl rfl ?_
     refine WL.skp rfl rfl ?_
     refine WL.skp rfl rfl ?_
     refine WL.pick (v := .bool false) rfl rfl rfl rfl rfl rfl ?_
     refine WL.assign rfl rfl rfl ?_
     refine WL.nil ?_
     refine N.seq ?_
     refine Fin.ret1 rfl (v := .bool false) rfl ?_
     have hbz := hS.below
     clear hS
     refine ⟨x3, hx3, ?_, hbz⟩
     congr 1
     have hie : i = x3.ins.length := by omega
     rw [hie, List.take_length] at htk
     rw [block5, if_neg (by omega), if_neg (by simp [htk])]
     rw [term5, if_pos (by omega), ← hu1]
     clear hx hbl hbkd htk
     first | (simp_all; done) | (simp_all; omega) | (rw [Bool.eq_iff_iff]; simp only [Bool.and_eq_true, decide_eq_true_eq, Bool.false_eq_true, false_iff, iff_false]; omega)
    have hg24p : x3.fin.els = 0 := by simpa using hg24
    refine WL.fieldAddr fo_57_5 rfl rfl rfl ?_
    refine WL.load1 (v := .slice adq3 x3.fin.elses.length capq3) one_55 rfl rfl rfl (hS.cell 0 rfl rfl) ?_
    refine WL.lenSlice Tryd.underlying55 rfl rfl rfl ?_
    refine WL.bin rfl rfl rfl rfl rfl ?_
    refine WL.pick (v := .bool (decide ((x3.fin.elses.length : Int) = 0))) rfl rfl rfl rfl rfl rfl ?_
    refine WL.assign rfl rfl rfl ?_
    refine WL.nil ?_
    refine N.seq ?_
    refine Fin.ret1 rfl (v := .bool (decide ((x3.fin.elses.length : Int) = 0))) rfl ?_
    have hbz := hS.below
    clear hS
    refine ⟨x3, hx3, ?_, hbz⟩
    congr 1
    have hie : i = x3.ins.length := by omega
    rw [hie, List.take_length] at htk
    rw [block5, if_neg (by omega), if_neg (by simp [htk])]
    rw [term5, if_pos (by omega), ← hu1]
    clear hx hbl hbkd htk
    first | (simp_all; done) | (simp_all; omega) | (rw [Bool.eq_iff_iff]; simp only [Bool.and_eq_true, decide_eq_true_eq, Bool.false_eq_true, false_iff, iff_false]; omega)
   have hc20p : ¬ (x3.fin.kind = 1) := by simpa using hc20
   refine W.skip ?_
   refine N.seq ?_
   refine W.seq ?_
   refine W.region ?_
   refine WL.fieldAddr fo_57_1 rfl rfl rfl ?_
   refine WL.load1 (v := .int .i64 x3.fin.a) one_3 rfl rfl rfl (hS.cell 0 rfl rfl) ?_
   refine WL.bin rfl rfl rfl rfl rfl ?_
   refine WL.move rfl rfl rfl ?_
   cases hg25 : (decide (0 ≤ x3.fin.a))
   ·
    have hg25p : ¬ (0 ≤ x3.fin.a) := by simpa using hg25
    refine WL.skp rfl rfl ?_
    refine WL.skp rfl rfl ?_
    refine WL.skp rfl rfl ?_
    refine WL.skp rfl rfl ?_
    refine WL.pick (v := .bool false) rfl rfl rfl rfl rfl rfl ?_
    refine WL.assign rfl rfl rfl ?_
    refine WL.nil ?_
    refine N.seq ?_
    refine W.seq ?_
    refine W.seq ?_
    refine W.region ?_
    refine WL.fieldAddr fo_57_0 rfl rfl rfl ?_
    refine WL.load1 (v := .int .i64 x3.fin.kind) one_3 rfl rfl rfl (hS.cell 0 rfl rfl) ?_
    refine WL.bin rfl rfl rfl rfl rfl ?_
    refine WL.nil ?_
    refine N.seq ?_
    refine W.cond rfl (fun hc26 => ?_) (fun hc26 => ?_)
    ·
     have hc26p : x3.fin.kind = 2 := by simpa using hc26
     refine W.seq ?_
     refine W.region ?_
     refine WL.loadN (cs := [.string f.name, .int .i64 f.bind, .int .i64 f.params, .slice adb f.blocks.length capb]) agg_24 rfl rfl rfl rfl (hS.cells 2 (m := 4) rfl rfl) ?_
     refine WL.fieldAddr fo_57_2 rfl rfl rfl ?_
     refine WL.load1 (v := .int .i64 x3.fin.to) one_3 rfl rfl rfl (hS.cell 0 rfl rfl) ?_
     refine WL.fieldAddr fo_57_3 rfl rfl rfl ?_
     refine WL.load1 (v := .slice adp3 x3.fin.args.length capp3) one_55 rfl rfl rfl (hS.cell 0 rfl rfl) ?_
     refine WL.move rfl rfl rfl ?_
     refine WL.callF (vs := [.agg #[.string f.name, .int .i64 f.bind, .int .i64 f.params, .slice adb f.blocks.length capb], .int .i64 x3.fin.to, .slice adp3 x3.fin.args.length capp3, .int .i64 (x3.params + (x3.ins.length : Int))]) Tryd.func42 (by kernel_rfl) rfl rfl rfl (goes5_ret f _ x3.fin.to x3.fin.args _ (x3.params + (x3.ins.length : Int)) (ro := ro) (fun b hb => (hS.snap b hb).1) (FuncC.keep hx hS.alike) (IntsV.keep ht13 hS.alike)) ?_
     rintro v w27 ⟨rfl, hbl⟩
     replace hS := hS.grow hbl
     obtain ⟨u1, hu1⟩ : ∃ u, u = goes5 f x3.fin.to x3.fin.args (x3.params + (x3.ins.length : Int)) := ⟨_, rfl⟩
     rw [← hu1]
     refine WL.assign rfl rfl rfl ?_
     refine WL.nil ?_
     refine N.seq ?_
     refine W.seq ?_
     refine W.region ?_
     refine WL.loadN (cs := [.string f.name, .int .i64 f.bind, .int .i64 f.params, .slice adb f.blocks.length capb]) agg_24 rfl rfl rfl rfl (hS.cells 2 (m := 4) rfl rfl) ?_
     refine WL.fieldAddr fo_57_4 rfl rfl rfl ?_
     refine WL.load1 (v := .int .i64 x3.fin.els) one_3 rfl rfl rfl (hS.cell 0 rfl rfl) ?_
     refine WL.fieldAddr fo_57_5 rfl rfl rfl ?_
     refine WL.load1 (v := .slice adq3 x3.fin.elses.length capq3) one_55 rfl rfl rfl (hS.cell 0 rfl rfl) ?_
     refine WL.move rfl rfl rfl ?_
     refine WL.callF (vs := [.agg #[.string f.name, .int .i64 f.bind, .int .i64 f.params, .slice adb f.blocks.length capb], .int .i64 x3.fin.els, .slice adq3 x3.fin.elses.length capq3, .int .i64 (x3.params + (x3.ins.length : Int))]) Tryd.func42 (by kernel_rfl) rfl rfl rfl (goes5_ret f _ x3.fin.els x3.fin.elses _ (x3.params + (x3.ins.length : Int)) (ro := ro) (fun b hb => (hS.snap b hb).1) (FuncC.keep hx hS.alike) (IntsV.keep ht23 hS.alike)) ?_
     rintro v w28 ⟨rfl, hbl⟩
     replace hS := hS.grow hbl
     obtain ⟨u2, hu2⟩ : ∃ u, u = goes5 f x3.fin.els x3.fin.elses (x3.params + (x3.ins.length : Int)) := ⟨_, rfl⟩
     rw [← hu2]
     refine WL.assign rfl rfl rfl ?_
     refine WL.nil ?_
     refine N.seq ?_
     refine W.seq ?_
     refine W.region ?_
     refine WL.move rfl rfl rfl ?_
     refine WL.move rfl rfl rfl ?_
     refine WL.skp rfl rfl ?_
     refine WL.pick (v := .bool false) rfl rfl rfl rfl rfl rfl ?_
     refine WL.move rfl rfl rfl ?_
     refine WL.skp rfl rfl ?_
     refine WL.pick (v := .bool false) rfl rfl rfl rfl rfl rfl ?_
     refine WL.assign rfl rfl rfl ?_
     refine WL.nil ?_
     refine N.seq ?_
     refine Fin.ret1 rfl (v := .bool false) rfl ?_
     have hbz := hS.below
     clear hS
     refine ⟨x3, hx3, ?_, hbz⟩
     congr 1
     have hie : i = x3.ins.length := by omega
     rw [hie, List.take_length] at htk
     rw [block5, if_neg (by omega), if_neg (by simp [htk])]
     rw [term5, if_neg (by omega), if_pos (by omega), ← hu1, ← hu2]
     clear hx hbl hbkd htk
     first | (simp_all; done) | (simp_all; omega) | (rw [Bool.eq_iff_iff]; simp only [Bool.and_eq_true, decide_eq_true_eq, Bool.false_eq_true, false_iff, iff_false]; omega)
    have hc26p : ¬ (x3.fin.kind = 2) := by simpa using hc26
    refine W.skip ?_
    refine N.seq ?_
    refine W.seq ?_
    refine W.region ?_
    refine WL.fieldAddr fo_57_0 rfl rfl rfl ?_
    refine WL.load1 (v := .int .i64 x3.fin.kind) one_3 rfl rfl rfl (hS.cell 0 rfl rfl) ?_
    refine WL.bin rfl rfl rfl rfl rfl ?_
    refine WL.move rfl rfl rfl ?_
    cases hg29 : (decide (x3.fin.kind = 3))
    ·
     have hg29p : ¬ (x3.fin.kind = 3) := by simpa using hg29
     refine WL.skp rfl rfl ?_
     refine WL.pick (v := .bool false) rfl rfl rfl rfl rfl rfl ?_
     refine WL.move rfl rfl rfl ?_
     refine WL.skp rfl rfl ?_
     refine WL.skp rfl rfl ?_
     refine WL.skp rfl rfl ?_
     refine WL.pick (v := .bool false) rfl rfl rfl rfl rfl rfl ?_
     refine WL.move rfl rfl rfl ?_
     refine WL.skp rfl rfl ?_
     refine WL.skp rfl rfl ?_
     refine WL.skp rfl rfl ?_
     refine WL.skp rfl rfl ?_
     refine WL.pick (v := .bool false) rfl rfl rfl rfl rfl rfl ?_
     refine WL.move rfl rfl rfl ?_
     refine WL.skp rfl rfl ?_
     refine WL.skp rfl rfl ?_
     refine WL.skp rfl rfl ?_
     refine WL.pick (v := .bool false) rfl rfl rfl rfl rfl rfl ?_
     refine WL.move rfl rfl rfl ?_
     refine WL.skp rfl rfl ?_
     refine WL.skp rfl rfl ?_
     refine WL.skp rfl rfl ?_
     refine WL.skp rfl rfl ?_
     refine WL.pick (v := .bool false) rfl rfl rfl rfl rfl rfl ?_
     refine WL.assign rfl rfl rfl ?_
     refine WL.nil ?_
     refine N.seq ?_
     refine Fin.ret1 rfl (v := .bool false) rfl ?_
     have hbz := hS.below
     clear hS
     refine ⟨x3, hx3, ?_, hbz⟩
     congr 1
     have hie : i = x3.ins.length := by omega
     rw [hie, List.take_length] at htk
     rw [block5, if_neg (by omega), if_neg (by simp [htk])]
     rw [term5, if_neg (by omega), if_neg (by omega)]
     clear hx hbl hbkd htk
     first | (simp_all; done) | (simp_all; omega) | (rw [Bool.eq_iff_iff]; simp only [Bool.and_eq_true, decide_eq_true_eq, Bool.false_eq_true, false_iff, iff_false]; omega)
    have hg29p : x3.fin.kind = 3 := by simpa using hg29
    refine WL.move rfl rfl rfl ?_
    refine WL.pick (v := .bool false) rfl rfl rfl rfl rfl rfl ?_
    refine WL.move rfl rfl rfl ?_
    refine WL.skp rfl rfl ?_
    refine WL.skp rfl rfl ?_
    refine WL.skp rfl rfl ?_
    refine WL.pick (v := .bool false) rfl rfl rfl rfl rfl rfl ?_
    refine WL.move rfl rfl rfl ?_
    refine WL.skp rfl rfl ?_
    refine WL.skp rfl rfl ?_
    refine WL.skp rfl rfl ?_
    refine WL.skp rfl rfl ?_
    refine WL.pick (v := .bool false) rfl rfl rfl rfl rfl rfl ?_
    refine WL.move rfl rfl rfl ?_
    refine WL.skp rfl rfl ?_
    refine WL.skp rfl rfl ?_
    refine WL.skp rfl rfl ?_
    refine WL.pick (v := .bool false) rfl rfl rfl rfl rfl rfl ?_
    refine WL.move rfl rfl rfl ?_
    refine WL.skp rfl rfl ?_
    refine WL.skp rfl rfl ?_
    refine WL.skp rfl rfl ?_
    refine WL.skp rfl rfl ?_
    refine WL.pick (v := .bool false) rfl rfl rfl rfl rfl rfl ?_
    refine WL.assign rfl rfl rfl ?_
    refine WL.nil ?_
    refine N.seq ?_
    refine Fin.ret1 rfl (v := .bool false) rfl ?_
    have hbz := hS.below
    clear hS
    refine ⟨x3, hx3, ?_, hbz⟩
    congr 1
    have hie : i = x3.ins.length := by omega
    rw [hie, List.take_length] at htk
    rw [block5, if_neg (by omega), if_neg (by simp [htk])]
    rw [term5, if_neg (by omega), if_neg (by omega)]
    clear hx hbl hbkd htk
    first | (simp_all; done) | (simp_all; omega) | (rw [Bool.eq_iff_iff]; simp only [Bool.and_eq_true, decide_eq_true_eq, Bool.false_eq_true, false_iff, iff_false]; omega)
   have hg25p : 0 ≤ x3.fin.a := by simpa using hg25
   refine WL.fieldAddr fo_57_1 rfl rfl rfl ?_
   refine WL.load1 (v := .int .i64 x3.fin.a) one_3 rfl rfl rfl (hS.cell 0 rfl rfl) ?_
   refine WL.move rfl rfl rfl ?_
   refine WL.bin rfl rfl rfl rfl rfl ?_
   refine WL.pick (v := .bool (decide (x3.fin.a < x3.params + (x3.ins.length : Int)))) rfl rfl rfl rfl rfl rfl ?_
   refine WL.assign rfl rfl rfl ?_
   refine WL.nil ?_
   refine N.seq ?_
   refine W.seq ?_
   refine W.seq ?_
   refine W.region ?_
   refine WL.fieldAddr fo_57_0 rfl rfl rfl ?_
   refine WL.load1 (v := .int .i64 x3.fin.kind) one_3 rfl rfl rfl (hS.cell 0 rfl rfl) ?_
   refine WL.bin rfl rfl rfl rfl rfl ?_
   refine WL.nil ?_
   refine N.seq ?_
   refine W.cond rfl (fun hc30 => ?_) (fun hc30 => ?_)
   ·
    have hc30p : x3.fin.kind = 2 := by simpa using hc30
    refine W.seq ?_
    refine W.region ?_
    refine WL.loadN (cs := [.string f.name, .int .i64 f.bind, .int .i64 f.params, .slice adb f.blocks.length capb]) agg_24 rfl rfl rfl rfl (hS.cells 2 (m := 4) rfl rfl) ?_
    refine WL.fieldAddr fo_57_2 rfl rfl rfl ?_
    refine WL.load1 (v := .int .i64 x3.fin.to) one_3 rfl rfl rfl (hS.cell 0 rfl rfl) ?_
    refine WL.fieldAddr fo_57_3 rfl rfl rfl ?_
    refine WL.load1 (v := .slice adp3 x3.fin.args.length capp3) one_55 rfl rfl rfl (hS.cell 0 rfl rfl) ?_
    refine WL.move rfl rfl rfl ?_
    refine WL.callF (vs := [.agg #[.string f.name, .int .i64 f.bind, .int .i64 f.params, .slice adb f.blocks.length capb], .int .i64 x3.fin.to, .slice adp3 x3.fin.args.length capp3, .int .i64 (x3.params + (x3.ins.length : Int))]) Tryd.func42 (by kernel_rfl) rfl rfl rfl (goes5_ret f _ x3.fin.to x3.fin.args _ (x3.params + (x3.ins.length : Int)) (ro := ro) (fun b hb => (hS.snap b hb).1) (FuncC.keep hx hS.alike) (IntsV.keep ht13 hS.alike)) ?_
    rintro v w31 ⟨rfl, hbl⟩
    replace hS := hS.grow hbl
    obtain ⟨u1, hu1⟩ : ∃ u, u = goes5 f x3.fin.to x3.fin.args (x3.params + (x3.ins.length : Int)) := ⟨_, rfl⟩
    rw [← hu1]
    refine WL.assign rfl rfl rfl ?_
    refine WL.nil ?_
    refine N.seq ?_
    refine W.seq ?_
    refine W.region ?_
    refine WL.loadN (cs := [.string f.name, .int .i64 f.bind, .int .i64 f.params, .slice adb f.blocks.length capb]) agg_24 rfl rfl rfl rfl (hS.cells 2 (m := 4) rfl rfl) ?_
    refine WL.fieldAddr fo_57_4 rfl rfl rfl ?_
    refine WL.load1 (v := .int .i64 x3.fin.els) one_3 rfl rfl rfl (hS.cell 0 rfl rfl) ?_
    refine WL.fieldAddr fo_57_5 rfl rfl rfl ?_
    refine WL.load1 (v := .slice adq3 x3.fin.elses.length capq3) one_55 rfl rfl rfl (hS.cell 0 rfl rfl) ?_
    refine WL.move rfl rfl rfl ?_
    refine WL.callF (vs := [.agg #[.string f.name, .int .i64 f.bind, .int .i64 f.params, .slice adb f.blocks.length capb], .int .i64 x3.fin.els, .slice adq3 x3.fin.elses.length capq3, .int .i64 (x3.params + (x3.ins.length : Int))]) Tryd.func42 (by kernel_rfl) rfl rfl rfl (goes5_ret f _ x3.fin.els x3.fin.elses _ (x3.params + (x3.ins.length : Int)) (ro := ro) (fun b hb => (hS.snap b hb).1) (FuncC.keep hx hS.alike) (IntsV.keep ht23 hS.alike)) ?_
    rintro v w32 ⟨rfl, hbl⟩
    replace hS := hS.grow hbl
    obtain ⟨u2, hu2⟩ : ∃ u, u = goes5 f x3.fin.els x3.fin.elses (x3.params + (x3.ins.length : Int)) := ⟨_, rfl⟩
    rw [← hu2]
    refine WL.assign rfl rfl rfl ?_
    refine WL.nil ?_
    refine N.seq ?_
    refine W.seq ?_
    refine W.region ?_
    refine WL.move rfl rfl rfl ?_
    refine WL.move rfl rfl rfl ?_
    cases hg33 : (decide (x3.fin.a < x3.params + (x3.ins.length : Int)))
    ·
     have hg33p : ¬ (x3.fin.a < x3.params + (x3.ins.length : Int)) := by simpa using hg33
     refine WL.skp rfl rfl ?_
     refine WL.pick (v := .bool false) rfl rfl rfl rfl rfl rfl ?_
     refine WL.move rfl rfl rfl ?_
     refine WL.skp rfl rfl ?_
     refine WL.pick (v := .bool false) rfl rfl rfl rfl rfl rfl ?_
     refine WL.assign rfl rfl rfl ?_
     refine WL.nil ?_
     refine N.seq ?_
     refine Fin.ret1 rfl (v := .bool false) rfl ?_
     have hbz := hS.below
     clear hS
     refine ⟨x3, hx3, ?_, hbz⟩
     congr 1
     have hie : i = x3.ins.length := by omega
     rw [hie, List.take_length] at htk
     rw [block5, if_neg (by omega), if_neg (by simp [htk])]
     rw [term5, if_neg (by omega), if_pos (by omega), ← hu1, ← hu2]
     clear hx hbl hbkd htk
     first | (simp_all; done) | (simp_all; omega) | (rw [Bool.eq_iff_iff]; simp only [Bool.and_eq_true, decide_eq_true_eq, Bool.false_eq_true, false_iff, iff_false]; omega)
    have hg33p : x3.fin.a < x3.params + (x3.ins.length : Int) := by simpa using hg33
    refine WL.move rfl rfl rfl ?_
    refine WL.pick (v := .bool u1) rfl rfl rfl rfl rfl rfl ?_
    refine WL.move rfl rfl rfl ?_
    cases hg34 : u1
    ·
     refine WL.skp rfl rfl ?_
     refine WL.pick (v := .bool false) rfl rfl rfl rfl rfl rfl ?_
     refine WL.assign rfl rfl rfl ?_
     refine WL.nil ?_
     refine N.seq ?_
     refine Fin.ret1 rfl (v := .bool false) rfl ?_
     have hbz := hS.below
     clear hS
     refine ⟨x3, hx3, ?_, hbz⟩
     congr 1
     have hie : i = x3.ins.length := by omega
     rw [hie, List.take_length] at htk
     rw [block5, if_neg (by omega), if_neg (by simp [htk])]
     rw [term5, if_neg (by omega), if_pos (by omega), ← hu1, ← hu2]
     clear hx hbl hbkd htk
     first | (simp_all; done) | (simp_all; omega) | (rw [Bool.eq_iff_iff]; simp only [Bool.and_eq_true, decide_eq_true_eq, Bool.false_eq_true, false_iff, iff_false]; omega)
    refine WL.move rfl rfl rfl ?_
    refine WL.pick (v := .bool u2) rfl rfl rfl rfl rfl rfl ?_
    refine WL.assign rfl rfl rfl ?_
    refine WL.nil ?_
    refine N.seq ?_
    refine Fin.ret1 rfl (v := .bool u2) rfl ?_
    have hbz := hS.below
    clear hS
    refine ⟨x3, hx3, ?_, hbz⟩
    congr 1
    have hie : i = x3.ins.length := by omega
    rw [hie, List.take_length] at htk
    rw [block5, if_neg (by omega), if_neg (by simp [htk])]
    rw [term5, if_neg (by omega), if_pos (by omega), ← hu1, ← hu2]
    clear hx hbl hbkd htk
    first | (simp_all; done) | (simp_all; omega) | (rw [Bool.eq_iff_iff]; simp only [Bool.and_eq_true, decide_eq_true_eq, Bool.false_eq_true, false_iff, iff_false]; omega)
   have hc30p : ¬ (x3.fin.kind = 2) := by simpa using hc30
   refine W.skip ?_
   refine N.seq ?_
   refine W.seq ?_
   refine W.region ?_
   refine WL.fieldAddr fo_57_0 rfl rfl rfl ?_
   refine WL.load1 (v := .int .i64 x3.fin.kind) one_3 rfl rfl rfl (hS.cell 0 rfl rfl) ?_
   refine WL.bin rfl rfl rfl rfl rfl ?_
   refine WL.move rfl rfl rfl ?_
   cases hg35 : (decide (x3.fin.kind = 3))
   ·
    have hg35p : ¬ (x3.fin.kind = 3) := by simpa using hg35
    refine WL.skp rfl rfl ?_
    refine WL.pick (v := .bool false) rfl rfl rfl rfl rfl rfl ?_
    refine WL.move rfl rfl rfl ?_
    refine WL.skp rfl rfl ?_
    refine WL.skp rfl rfl ?_
    refine WL.skp rfl rfl ?_
    refine WL.pick (v := .bool false) rfl rfl rfl rfl rfl rfl ?_
    refine WL.move rfl rfl rfl ?_
    refine WL.skp rfl rfl ?_
    refine WL.skp rfl rfl ?_
    refine WL.skp rfl rfl ?_
    refine WL.skp rfl rfl ?_
    refine WL.pick (v := .bool false) rfl rfl rfl rfl rfl rfl ?_
    refine WL.move rfl rfl rfl ?_
    refine WL.skp rfl rfl ?_
    refine WL.skp rfl rfl ?_
    refine WL.skp rfl rfl ?_
    refine WL.pick (v := .bool false) rfl rfl rfl rfl rfl rfl ?_
    refine WL.move rfl rfl rfl ?_
    refine WL.skp rfl rfl ?_
    refine WL.skp rfl rfl ?_
    refine WL.skp rfl rfl ?_
    refine WL.skp rfl rfl ?_
    refine WL.pick (v := .bool false) rfl rfl rfl rfl rfl rfl ?_
    refine WL.assign rfl rfl rfl ?_
    refine WL.nil ?_
    refine N.seq ?_
    refine Fin.ret1 rfl (v := .bool false) rfl ?_
    have hbz := hS.below
    clear hS
    refine ⟨x3, hx3, ?_, hbz⟩
    congr 1
    have hie : i = x3.ins.length := by omega
    rw [hie, List.take_length] at htk
    rw [block5, if_neg (by omega), if_neg (by simp [htk])]
    rw [term5, if_neg (by omega), if_neg (by omega)]
    clear hx hbl hbkd htk
    first | (simp_all; done) | (simp_all; omega) | (rw [Bool.eq_iff_iff]; simp only [Bool.and_eq_true, decide_eq_true_eq, Bool.false_eq_true, false_iff, iff_false]; omega)
   have hg35p : x3.fin.kind = 3 := by simpa using hg35
   refine WL.move rfl rfl rfl ?_
   refine WL.pick (v := .bool (decide (x3.fin.a < x3.params + (x3.ins.length : Int)))) rfl rfl rfl rfl rfl rfl ?_
   refine WL.move rfl rfl rfl ?_
   cases hg36 : (decide (x3.fin.a < x3.params + (x3.ins.length : Int)))
   ·
    have hg36p : ¬ (x3.fin.a < x3.params + (x3.ins.length : Int)) := by simpa using hg36
    refine WL.skp rfl rfl ?_
    refine WL.skp rfl rfl ?_
    refine WL.skp rfl rfl ?_
    refine WL.pick (v := .bool false) rfl rfl rfl rfl rfl rfl ?_
    refine WL.move rfl rfl rfl ?_
    refine WL.skp rfl rfl ?_
    refine WL.skp rfl rfl ?_
    refine WL.skp rfl rfl ?_
    refine WL.skp rfl rfl ?_
    refine WL.pick (v := .bool false) rfl rfl rfl rfl rfl rfl ?_
    refine WL.move rfl rfl rfl ?_
    refine WL.skp rfl rfl ?_
    refine WL.skp rfl rfl ?_
    refine WL.skp rfl rfl ?_
    refine WL.pick (v := .bool false) rfl rfl rfl rfl rfl rfl ?_
    refine WL.move rfl rfl rfl ?_
    refine WL.skp rfl rfl ?_
    refine WL.skp rfl rfl ?_
    refine WL.skp rfl rfl ?_
    refine WL.skp rfl rfl ?_
    refine WL.pick (v := .bool false) rfl rfl rfl rfl rfl rfl ?_
    refine WL.assign rfl rfl rfl ?_
    refine WL.nil ?_
    refine N.seq ?_
    refine Fin.ret1 rfl (v := .bool false) rfl ?_
    have hbz := hS.below
    clear hS
    refine ⟨x3, hx3, ?_, hbz⟩
    congr 1
    have hie : i = x3.ins.length := by omega
    rw [hie, List.take_length] at htk
    rw [block5, if_neg (by omega), if_neg (by simp [htk])]
    rw [term5, if_neg (by omega), if_neg (by omega)]
    clear hx hbl hbkd htk
    first | (simp_all; done) | (simp_all; omega) | (rw [Bool.eq_iff_iff]; simp only [Bool.and_eq_true, decide_eq_true_eq, Bool.false_eq_true, false_iff, iff_false]; omega)
   have hg36p : x3.fin.a < x3.params + (x3.ins.length : Int) := by simpa using hg36
   refine WL.fieldAddr fo_57_2 rfl rfl rfl ?_
   refine WL.load1 (v := .int .i64 x3.fin.to) one_3 rfl rfl rfl (hS.cell 0 rfl rfl) ?_
   refine WL.bin rfl rfl rfl rfl rfl ?_
   refine WL.pick (v := .bool (decide (x3.fin.to = 0))) rfl rfl rfl rfl rfl rfl ?_
   refine WL.move rfl rfl rfl ?_
   cases hg37 : (decide (x3.fin.to = 0))
   ·
    have hg37p : ¬ (x3.fin.to = 0) := by simpa using hg37
    refine WL.skp rfl rfl ?_
    refine WL.skp rfl rfl ?_
    refine WL.skp rfl rfl ?_
    refine WL.skp rfl rfl ?_
    refine WL.pick (v := .bool false) rfl rfl rfl rfl rfl rfl ?_
    refine WL.move rfl rfl rfl ?_
    refine WL.skp rfl rfl ?_
    refine WL.skp rfl rfl ?_
    refine WL.skp rfl rfl ?_
    refine WL.pick (v := .bool false) rfl rfl rfl rfl rfl rfl ?_
    refine WL.move rfl rfl rfl ?_
    refine WL.skp rfl rfl ?_
    refine WL.skp rfl rfl ?_
    refine WL.skp rfl rfl ?_
    refine WL.skp rfl rfl ?_
    refine WL.pick (v := .bool false) rfl rfl rfl rfl rfl rfl ?_
    refine WL.assign rfl rfl rfl ?_
    refine WL.nil ?_
    refine N.seq ?_
    refine Fin.ret1 rfl (v := .bool false) rfl ?_
    have hbz := hS.below
    clear hS
    refine ⟨x3, hx3, ?_, hbz⟩
    congr 1
    have hie : i = x3.ins.length := by omega
    rw [hie, List.take_length] at htk
    rw [block5, if_neg (by omega), if_neg (by simp [htk])]
    rw [term5, if_neg (by omega), if_neg (by omega)]
    clear hx hbl hbkd htk
    first | (simp_all; done) | (simp_all; omega) | (rw [Bool.eq_iff_iff]; simp only [Bool.and_eq_true, decide_eq_true_eq, Bool.false_eq_true, false_iff, iff_false]; omega)
   have hg37p : x3.fin.to = 0 := by simpa using hg37
   refine WL.fieldAddr fo_57_3 rfl rfl rfl ?_
   refine WL.load1 (v := .slice adp3 x3.fin.args.length capp3) one_55 rfl rfl rfl (hS.cell 0 rfl rfl) ?_
   refine WL.lenSlice Tryd.underlying55 rfl rfl rfl ?_
   refine WL.bin rfl rfl rfl rfl rfl ?_
   refine WL.pick (v := .bool (decide ((x3.fin.args.length : Int) = 0))) rfl rfl rfl rfl rfl rfl ?_
   refine WL.move rfl rfl rfl ?_
   cases hg38 : (decide ((x3.fin.args.length : Int) = 0))
   ·
    have hg38p : ¬ ((x3.fin.args.length : Int) = 0) := by simpa using hg38
    refine WL.skp rfl rfl ?_
    refine WL.skp rfl rfl ?_
    refine WL.skp rfl rfl ?_
    refine WL.pick (v := .bool false) rfl rfl rfl rfl rfl rfl ?_
    refine WL.move rfl rfl rfl ?_
    refine WL.skp rfl rfl ?_
    refine WL.skp rfl rfl ?_
    refine WL.skp rfl rfl ?_
    refine WL.skp rfl rfl ?_
    refine WL.pick (v := .bool false) rfl rfl rfl rfl rfl rfl ?_
    refine WL.assign rfl rfl rfl ?_
    refine WL.nil ?_
    refine N.seq ?_
    refine Fin.ret1 rfl (v := .bool false) rfl ?_
    have hbz := hS.below
    clear hS
    refine ⟨x3, hx3, ?_, hbz⟩
    congr 1
    have hie : i = x3.ins.length := by omega
    rw [hie, List.take_length] at htk
    rw [block5, if_neg (by omega), if_neg (by simp [htk])]
    rw [term5, if_neg (by omega), if_neg (by omega)]
    clear hx hbl hbkd htk
    first | (simp_all; done) | (simp_all; omega) | (rw [Bool.eq_iff_iff]; simp only [Bool.and_eq_true, decide_eq_true_eq, Bool.false_eq_true, false_iff, iff_false]; omega)
   have hg38p : (x3.fin.args.length : Int) = 0 := by simpa using hg38
   refine WL.fieldAddr fo_57_4 rfl rfl rfl ?_
   refine WL.load1 (v := .int .i64 x3.fin.els) one_3 rfl rfl rfl (hS.cell 0 rfl rfl) ?_
   refine WL.bin rfl rfl rfl rfl rfl ?_
   refine WL.pick (v := .bool (decide (x3.fin.els = 0))) rfl rfl rfl rfl rfl rfl ?_
   refine WL.move rfl rfl rfl ?_
   cases hg39 : (decide (x3.fin.els = 0))
   ·
    have hg39p : ¬ (x3.fin.els = 0) := by simpa using hg39
    refine WL.skp rfl rfl ?_
    refine WL.skp rfl rfl ?_
    refine WL.skp rfl rfl ?_
    refine WL.skp rfl rfl ?_
    refine WL.pick (v := .bool false) rfl rfl rfl rfl rfl rfl ?_
    refine WL.assign rfl rfl rfl ?_
    refine WL.nil ?_
    refine N.seq ?_
    refine Fin.ret1 rfl (v := .bool false) rfl ?_
    have hbz := hS.below
    clear hS
    refine ⟨x3, hx3, ?_, hbz⟩
    congr 1
    have hie : i = x3.ins.length := by omega
    rw [hie, List.take_length] at htk
    rw [block5, if_neg (by omega), if_neg (by simp [htk])]
    rw [term5, if_neg (by omega), if_neg (by omega)]
    clear hx hbl hbkd htk
    first | (simp_all; done) | (simp_all; omega) | (rw [Bool.eq_iff_iff]; simp only [Bool.and_eq_true, decide_eq_true_eq, Bool.false_eq_true, false_iff, iff_false]; omega)
   have hg39p : x3.fin.els = 0 := by simpa using hg39
   refine WL.fieldAddr fo_57_5 rfl rfl rfl ?_
   refine WL.load1 (v := .slice adq3 x3.fin.elses.length capq3) one_55 rfl rfl rfl (hS.cell 0 rfl rfl) ?_
   refine WL.lenSlice Tryd.underlying55 rfl rfl rfl ?_
   refine WL.bin rfl rfl rfl rfl rfl ?_
   refine WL.pick (v := .bool (decide ((x3.fin.elses.length : Int) = 0))) rfl rfl rfl rfl rfl rfl ?_
   refine WL.assign rfl rfl rfl ?_
   refine WL.nil ?_
   refine N.seq ?_
   refine Fin.ret1 rfl (v := .bool (decide ((x3.fin.elses.length : Int) = 0))) rfl ?_
   have hbz := hS.below
   clear hS
   refine ⟨x3, hx3, ?_, hbz⟩
   congr 1
   have hie : i = x3.ins.length := by omega
   rw [hie, List.take_length] at htk
   rw [block5, if_neg (by omega), if_neg (by simp [htk])]
   rw [term5, if_neg (by omega), if_neg (by omega)]
   clear hx hbl hbkd htk
   first | (simp_all; done) | (simp_all; omega) | (rw [Bool.eq_iff_iff]; simp only [Bool.and_eq_true, decide_eq_true_eq, Bool.false_eq_true, false_iff, iff_false]; omega)
  have hg8p : 6 < x3.params := by simpa using hg8
  refine WL.skp rfl rfl ?_
  refine WL.skp rfl rfl ?_
  refine WL.skp rfl rfl ?_
  refine WL.skp rfl rfl ?_
  refine WL.pick (v := .bool true) rfl rfl rfl rfl rfl rfl ?_
  refine WL.nil ?_
  refine N.seq ?_
  refine W.condT rfl ?_
  refine W.seq ?_
  refine W.region ?_
  refine WL.assign rfl rfl rfl ?_
  refine WL.nil ?_
  refine N.seq ?_
  refine Fin.ret1 rfl (v := .bool false) rfl ?_
  have hbz := hS.below
  clear hS
  refine ⟨x3, hx3, ?_, hbz⟩
  congr 1
  rw [block5, if_pos (by omega)]
 have hg7p : x3.params < 0 := by simpa using hg7
 refine WL.skp rfl rfl ?_
 refine WL.skp rfl rfl ?_
 refine WL.skp rfl rfl ?_
 refine WL.pick (v := .bool true) rfl rfl rfl rfl rfl rfl ?_
 refine WL.move rfl rfl rfl ?_
 refine WL.skp rfl rfl ?_
 refine WL.skp rfl rfl ?_
 refine WL.skp rfl rfl ?_
 refine WL.skp rfl rfl ?_
 refine WL.pick (v := .bool true) rfl rfl rfl rfl rfl rfl ?_
 refine WL.nil ?_
 refine N.seq ?_
 refine W.condT rfl ?_
 refine W.seq ?_
 refine W.region ?_
 refine WL.assign rfl rfl rfl ?_
 refine WL.nil ?_
 refine N.seq ?_
 refine Fin.ret1 rfl (v := .bool false) rfl ?_
 have hbz := hS.below
 clear hS
 refine ⟨x3, hx3, ?_, hbz⟩
 congr 1
 rw [block5, if_pos (by omega)]

end Go.Proofs.YtcmmhfknkldmcaaDoor

namespace Go.Proofs.YtcmmhfknkldmcaaDoor
open Go.RowKit
theorem fo_24_0 : fOff Tryd.prog 24 0 0 = true := by kernel_rfl
theorem fo_24_1 : fOff Tryd.prog 24 1 1 = true := by kernel_rfl
theorem fo_24_2 : fOff Tryd.prog 24 2 2 = true := by kernel_rfl
def func5 (f : DFunc) : Bool :=
  if name5 f.name = false ∨ f.bind < 1 ∨ 3 < f.bind ∨ f.params < 0 ∨ 6 < f.params ∨ 16 < f.blocks.length then false
  else match f.blocks with
  | [] => decide (f.bind ≠ 1)
  | b :: _ => decide (b.params = f.params) && f.blocks.all (block5 f)

theorem func5_ret (f : DFunc) (cf : List Value) {w : World} {ro : Nat → Prop} (hro : ∀ b, ro b → b < w.heap.size) (hx : FuncC ro w cf f) (hok : okFunc f) : Ret Tryd.prog 9 #[.agg cf.toArray] w fun v w' => v = .bool (func5 f) ∧ Below w.heap.size w w' := by
 obtain ⟨sb, rfl, hbl, hnm, hbd, hpr⟩ := id hx
 obtain ⟨adb, capb, rfl, hbka, hbkb, hbkc, hbkd⟩ := id hbl
 have hbkm : f.blocks.length ≤ 9223372036854775807 := by have h1 := hbka; have h2 := hbkb; unfold maxLen at h2; omega
 refine Ret.enter (P := Tryd.prog) (n := 64) (args := [.agg #[.string f.name, .int .i64 f.bind, .int .i64 f.params, .slice adb f.blocks.length capb]]) (σ := [(0, .agg #[.string f.name, .int .i64 f.bind, .int .i64 f.params, .slice adb f.blocks.length capb])]) Tryd.func9 rfl rfl rfl rfl ?_
 have hS := St.start (ro := ro) hro
 refine W.seq ?_
 refine W.region ?_
 refine WL.box (v := .agg #[.string f.name, .int .i64 f.bind, .int .i64 f.params, .slice adb f.blocks.length capb]) (cs := [.string f.name, .int .i64 f.bind, .int .i64 f.params, .slice adb f.blocks.length capb]) rfl rfl rfl rfl hS ?_
 clear hS; intro w2 b1 hb_b1 hS
 refine WL.assign rfl rfl rfl ?_
 refine WL.nil ?_
 refine N.seq ?_
 refine W.seq ?_
 refine W.region ?_
 refine WL.fieldAddr fo_24_0 rfl rfl rfl ?_
 refine WL.load1 (v := .string f.name) one_9 rfl rfl rfl (hS.cell 0 rfl rfl) ?_
 refine WL.callF (vs := [.string f.name]) Tryd.func21 (by kernel_rfl) rfl rfl rfl (name5_ret f.name hnm (ro := ro) (fun b hb => (hS.snap b hb).1)) ?_
 rintro v w3 ⟨rfl, hbl⟩
 replace hS := hS.grow hbl
 obtain ⟨un, hun⟩ : ∃ u, u = name5 f.name := ⟨_, rfl⟩
 rw [← hun]
 refine WL.assign rfl rfl rfl ?_
 refine WL.nil ?_
 refine N.seq ?_
 refine W.seq ?_
 refine W.seq ?_
 refine W.region ?_
 refine WL.move rfl rfl rfl ?_
 refine WL.not rfl rfl rfl ?_
 refine WL.move rfl rfl rfl ?_
 cases hg4 : (!un)
 ·
  refine WL.fieldAddr fo_24_1 rfl rfl rfl ?_
  refine WL.load1 (v := .int .i64 f.bind) one_3 rfl rfl rfl (hS.cell 0 rfl rfl) ?_
  refine WL.bin rfl rfl rfl rfl rfl ?_
  refine WL.pick (v := .bool (decide (f.bind < 1))) rfl rfl rfl rfl rfl rfl ?_
  refine WL.move rfl rfl rfl ?_
  cases hg5 : (decide (f.bind < 1))
  ·
   have hg5p : ¬ (f.bind < 1) := by simpa using hg5
   refine WL.fieldAddr fo_24_1 rfl rfl rfl ?_
   refine WL.load1 (v := .int .i64 f.bind) one_3 rfl rfl rfl (hS.cell 0 rfl rfl) ?_
   refine WL.bin rfl rfl rfl rfl rfl ?_
   refine WL.pick (v := .bool (decide (3 < f.bind))) rfl rfl rfl rfl rfl rfl ?_
   refine WL.move rfl rfl rfl ?_
   cases hg6 : (decide (3 < f.bind))
   ·
    have hg6p : ¬ (3 < f.bind) := by simpa using hg6
    refine WL.fieldAddr fo_24_2 rfl rfl rfl ?_
    refine WL.load1 (v := .int .i64 f.params) one_3 rfl rfl rfl (hS.cell 0 rfl rfl) ?_
    refine WL.bin rfl rfl rfl rfl rfl ?_
    refine WL.pick (v := .bool (decide (f.params < 0))) rfl rfl rfl rfl rfl rfl ?_
    refine WL.move rfl rfl rfl ?_
    cases hg7 : (decide (f.params < 0))
    ·
     have hg7p : ¬ (f.params < 0) := by simpa using hg7
     refine WL.fieldAddr fo_24_2 rfl rfl rfl ?_
     refine WL.load1 (v := .int .i64 f.params) one_3 rfl rfl rfl (hS.cell 0 rfl rfl) ?_
     refine WL.bin rfl rfl rfl rfl rfl ?_
     refine WL.pick (v := .bool (decide (6 < f.params))) rfl rfl rfl rfl rfl rfl ?_
     refine WL.move rfl rfl rfl ?_
     cases hg8 : (decide (6 < f.params))
     ·
      have hg8p : ¬ (6 < f.params) := by simpa using hg8
      refine WL.fieldAddr fo_24_3 rfl rfl rfl ?_
      refine WL.load1 (v := .slice adb f.blocks.length capb) one_22 rfl rfl rfl (hS.cell 0 rfl rfl) ?_
      refine WL.lenSlice Tryd.underlying22 rfl rfl rfl ?_
      refine WL.bin rfl rfl rfl rfl rfl ?_
      refine WL.pick (v := .bool (decide (16 < (f.blocks.length : Int)))) rfl rfl rfl rfl rfl rfl ?_
      refine WL.nil ?_
      refine N.seq ?_
      refine W.cond rfl (fun hc9 => ?_) (fun hc9 => ?_)
      ·
       have hc9p : 16 < (f.blocks.length : Int) := by simpa using hc9
       refine W.seq ?_
       refine W.region ?_
       refine WL.assign rfl rfl rfl ?_
       refine WL.nil ?_
       refine N.seq ?_
       refine Fin.ret1 rfl (v := .bool false) rfl ?_
       have hbz := hS.below
       clear hS
       refine ⟨?_, hbz⟩
       congr 1
       rw [func5, if_pos (by clear hx hbl; rw [← hun]; first | omega | (simp_all; done) | (rintro (h | h | h | h | h | h) <;> first | omega | (simp_all; done)))]
      have hc9p : ¬ (16 < (f.blocks.length : Int)) := by simpa using hc9
      refine W.skip ?_
      refine N.seq ?_
      refine W.seq ?_
      refine W.seq ?_
      refine W.region ?_
      refine WL.fieldAddr fo_24_3 rfl rfl rfl ?_
      refine WL.load1 (v := .slice adb f.blocks.length capb) one_22 rfl rfl rfl (hS.cell 0 rfl rfl) ?_
      refine WL.lenSlice Tryd.underlying22 rfl rfl rfl ?_
      refine WL.bin rfl rfl rfl rfl rfl ?_
      refine WL.nil ?_
      refine N.seq ?_
      refine W.cond rfl (fun hc10 => ?_) (fun hc10 => ?_)
      ·
       have hc10p : (f.blocks.length : Int) = 0 := by simpa using hc10
       refine W.seq ?_
       refine W.region ?_
       refine WL.fieldAddr fo_24_1 rfl rfl rfl ?_
       refine WL.load1 (v := .int .i64 f.bind) one_3 rfl rfl rfl (hS.cell 0 rfl rfl) ?_
       refine WL.bin rfl rfl rfl rfl rfl ?_
       refine WL.assign rfl rfl rfl ?_
       refine WL.nil ?_
       refine N.seq ?_
       refine Fin.ret1 rfl (v := .bool (!decide (f.bind = 1))) rfl ?_
       have hbz := hS.below
       clear hS
       refine ⟨?_, hbz⟩
       congr 1
       have he : f.blocks = [] := List.eq_nil_of_length_eq_zero (by omega)
       rw [func5, if_neg (by clear hx hbl; rw [← hun]; first | omega | (simp_all; done) | (rintro (h | h | h | h | h | h) <;> first | omega | (simp_all; done))), he]
       clear hx hbl; first | (simp_all; done) | (rw [Bool.eq_iff_iff]; simp only [decide_eq_true_eq, Bool.not_eq_true', decide_eq_false_iff_not]; omega)
      have hc10p : ¬ ((f.blocks.length : Int) = 0) := by simpa using hc10
      refine W.skip ?_
      refine N.seq ?_
      refine W.seq ?_
      refine W.seq ?_
      have hj11 : 0 < f.blocks.length := by omega
      obtain ⟨x11, hx11⟩ : ∃ zz, f.blocks[0]? = some zz := ⟨_, List.getElem?_eq_getElem hj11⟩
      obtain ⟨b11, o11, cs11, hE11, hr11, hl11, hc11, hQ11⟩ := hbkd 0 _ hx11
      obtain ⟨si11, tsx11, rfl, hin11, hfin11, hpar11⟩ := id hQ11
      obtain ⟨adi11, capi11, rfl, hin11a, hin11b, hin11c, hin11d⟩ := id hin11
      have hin11m : x11.ins.length ≤ 9223372036854775807 := by have h1 := hin11a; have h2 := hin11b; unfold maxLen at h2; omega
      obtain ⟨sp11, sq11, rfl, ht111, ht211, htk11, hta11, htt11, hte11⟩ := id hfin11
      obtain ⟨adp11, capp11, rfl, htp11a, htp11b, htp11c, htp11d⟩ := id ht111
      have htp11m : x11.fin.args.length ≤ 9223372036854775807 := by have h1 := htp11a; have h2 := htp11b; unfold maxLen at h2; omega
      obtain ⟨adq11, capq11, rfl, htq11a, htq11b, htq11c, htq11d⟩ := id ht211
      have htq11m : x11.fin.elses.length ≤ 9223372036854775807 := by have h1 := htq11a; have h2 := htq11b; unfold maxLen at h2; omega
      refine W.drawL (by kernel_rfl) 8 ((.q (.pointer (some ⟨b1, 3, none⟩))) :: (.q (.slice adb f.blocks.length capb)) :: (.q (.pointer (some ⟨b11, o11 + 0 * 8, none⟩))) :: (.q (.pointer (some ⟨b11, o11 + 0 * 8, none⟩))) :: (.q (.int .i64 x11.params)) :: (.q (.pointer (some ⟨b1, 2, none⟩))) :: (.q (.int .i64 f.params)) :: (.q (.bool (!decide (x11.params = f.params)))) :: []) (by kernel_rfl) (by kernel_rfl) [(0, .agg #[.string f.name, .int .i64 f.bind, .int .i64 f.params, .slice adb f.blocks.length capb]), (1, .pointer (some ⟨b1, 0, none⟩)), (2, .bool false), (3, .bool un), (6, .pointer (some ⟨b1, 0, none⟩)), (7, .string f.name), (8, .bool un), (9, .bool un), (10, .bool false), (11, .bool false), (12, .pointer (some ⟨b1, 1, none⟩)), (13, .int .i64 f.bind), (14, .bool false), (15, .bool false), (16, .bool false), (17, .pointer (some ⟨b1, 1, none⟩)), (18, .int .i64 f.bind), (19, .bool false), (20, .bool false), (21, .bool false), (22, .pointer (some ⟨b1, 2, none⟩)), (23, .int .i64 f.params), (24, .bool false), (25, .bool false), (26, .bool false), (27, .pointer (some ⟨b1, 2, none⟩)), (28, .int .i64 f.params), (29, .bool false), (30, .bool false), (31, .bool false), (32, .pointer (some ⟨b1, 3, none⟩)), (33, .slice adb f.blocks.length capb), (34, .int .i64 (f.blocks.length : Int)), (35, .bool (decide (16 < (f.blocks.length : Int)))), (36, .bool (decide (16 < (f.blocks.length : Int)))), (37, .pointer (some ⟨b1, 3, none⟩)), (38, .slice adb f.blocks.length capb), (39, .int .i64 (f.blocks.length : Int)), (40, .bool (decide ((f.blocks.length : Int) = 0)))] ⟨rfl, rfl, rfl, rfl, rfl, rfl, rfl, rfl, rfl, rfl, rfl, rfl, rfl, rfl, rfl, rfl, rfl, rfl, rfl, rfl, rfl, rfl, rfl, rfl, rfl, rfl, rfl, rfl, rfl, rfl, rfl, rfl, rfl, rfl, rfl, rfl, rfl, rfl, rfl, trivial⟩ (by kernel_rfl) hS ?_ ?_
      ·
       refine And.intro (fun β w hS => ?_) ?_
       ·
        refine WL.sub (σ' := [(1, .pointer (some ⟨b1, 0, none⟩))]) ⟨rfl, trivial⟩ ?_
        refine WL.fieldAddr fo_24_3 rfl rfl rfl ?_
        exact WL.nil (N.cut () ⟨rfl, trivial⟩ (Below.refl _ _))
       refine And.intro (fun β w hS => ?_) ?_
       ·
        refine WL.sub (σ' := [(44, .pointer (some ⟨b1, 3, none⟩))]) ⟨rfl, trivial⟩ ?_
        refine WL.load1 (v := .slice adb f.blocks.length capb) one_22 rfl rfl rfl (hS.cell 0 rfl rfl) ?_
        exact WL.nil (N.cut () ⟨rfl, trivial⟩ (Below.refl _ _))
       refine And.intro (fun β w hS => ?_) ?_
       ·
        refine WL.sub (σ' := [(45, .slice adb f.blocks.length capb)]) ⟨rfl, trivial⟩ ?_
        refine WL.indexAddrE (j := 0) Tryd.underlying22 isz_59 rfl rfl rfl rfl hj11 hE11 ?_
        exact WL.nil (N.cut () ⟨rfl, trivial⟩ (Below.refl _ _))
       refine And.intro (fun β w hS => ?_) ?_
       ·
        refine WL.sub (σ' := [(46, .pointer (some ⟨b11, o11 + 0 * 8, none⟩))]) ⟨rfl, trivial⟩ ?_
        refine WL.fieldAddr fo_59_0 rfl rfl rfl ?_
        exact WL.nil (N.cut () ⟨rfl, trivial⟩ (Below.refl _ _))
       refine And.intro (fun β w hS => ?_) ?_
       ·
        refine WL.sub (σ' := [(47, .pointer (some ⟨b11, o11 + 0 * 8, none⟩))]) ⟨rfl, trivial⟩ ?_
        refine WL.load1 (v := .int .i64 x11.params) one_3 rfl rfl rfl (hS.roCells hr11 hc11 0 _ rfl) ?_
        exact WL.nil (N.cut () ⟨rfl, trivial⟩ (Below.refl _ _))
       refine And.intro (fun β w hS => ?_) ?_
       ·
        refine WL.sub (σ' := [(1, .pointer (some ⟨b1, 0, none⟩))]) ⟨rfl, trivial⟩ ?_
        refine WL.fieldAddr fo_24_2 rfl rfl rfl ?_
        exact WL.nil (N.cut () ⟨rfl, trivial⟩ (Below.refl _ _))
       refine And.intro (fun β w hS => ?_) ?_
       ·
        refine WL.sub (σ' := [(49, .pointer (some ⟨b1, 2, none⟩))]) ⟨rfl, trivial⟩ ?_
        refine WL.load1 (v := .int .i64 f.params) one_3 rfl rfl rfl (hS.cell 0 rfl rfl) ?_
        exact WL.nil (N.cut () ⟨rfl, trivial⟩ (Below.refl _ _))
       refine And.intro (fun β w hS => ?_) ?_
       ·
        refine WL.sub (σ' := [(48, .int .i64 x11.params), (50, .int .i64 f.params)]) ⟨rfl, rfl, trivial⟩ ?_
        refine WL.bin rfl rfl rfl rfl rfl ?_
        exact WL.nil (N.cut () ⟨rfl, trivial⟩ (Below.refl _ _))
       trivial
      clear hS; intro w12 β hS
      refine WL.sub (σ' := [(0, .agg #[.string f.name, .int .i64 f.bind, .int .i64 f.params, .slice adb f.blocks.length capb]), (1, .pointer (some ⟨b1, 0, none⟩)), (2, .bool false), (3, .bool un), (6, .pointer (some ⟨b1, 0, none⟩)), (7, .string f.name), (8, .bool un), (9, .bool un), (10, .bool false), (11, .bool false), (12, .pointer (some ⟨b1, 1, none⟩)), (13, .int .i64 f.bind), (14, .bool false), (15, .bool false), (16, .bool false), (17, .pointer (some ⟨b1, 1, none⟩)), (18, .int .i64 f.bind), (19, .bool false), (20, .bool false), (21, .bool false), (22, .pointer (some ⟨b1, 2, none⟩)), (23, .int .i64 f.params), (24, .bool false), (25, .bool false), (26, .bool false), (27, .pointer (some ⟨b1, 2, none⟩)), (28, .int .i64 f.params), (29, .bool false), (30, .bool false), (31, .bool false), (32, .pointer (some ⟨b1, 3, none⟩)), (33, .slice adb f.blocks.length capb), (34, .int .i64 (f.blocks.length : Int)), (35, .bool (decide (16 < (f.blocks.length : Int)))), (36, .bool (decide (16 < (f.blocks.length : Int)))), (37, .pointer (some ⟨b1, 3, none⟩)), (38, .slice adb f.blocks.length capb), (39, .int .i64 (f.blocks.length : Int)), (40, .bool (decide ((f.blocks.length : Int) = 0))), (44, .pointer (some ⟨b1, 3, none⟩)), (45, .slice adb f.blocks.length capb), (46, .pointer (some ⟨b11, o11 + 0 * 8, none⟩)), (47, .pointer (some ⟨b11, o11 + 0 * 8, none⟩)), (48, .int .i64 x11.params), (49, .pointer (some ⟨b1, 2, none⟩)), (50, .int .i64 f.params), (51, .bool (!decide (x11.params = f.params)))]) ⟨rfl, rfl, rfl, rfl, rfl, rfl, rfl, rfl, rfl, rfl, rfl, rfl, rfl, rfl, rfl, rfl, rfl, rfl, rfl, rfl, rfl, rfl, rfl, rfl, rfl, rfl, rfl, rfl, rfl, rfl, rfl, rfl, rfl, rfl, rfl, rfl, rfl, rfl, rfl, rfl, rfl, rfl, rfl, rfl, rfl, rfl, rfl, trivial⟩ ?_
      refine WL.nil ?_
      refine N.seq ?_
      refine W.cond rfl (fun hc13 => ?_) (fun hc13 => ?_)
      ·
       have hc13p : ¬ (x11.params = f.params) := by simpa using hc13
       refine W.seq ?_
       refine W.region ?_
       refine WL.assign rfl rfl rfl ?_
       refine WL.nil ?_
       refine N.seq ?_
       refine Fin.ret1 rfl (v := .bool false) rfl ?_
       have hbz := hS.below
       clear hS
       refine ⟨?_, hbz⟩
       congr 1
       obtain ⟨b0, r0, he⟩ : ∃ b r, f.blocks = b :: r := by
                  cases e : f.blocks with
                  | nil => rw [e] at hx11; simp at hx11
                  | cons b r => exact ⟨b, r, rfl⟩
       have hb0 : b0 = x11 := by rw [he] at hx11; simpa using hx11
       subst hb0
       have hf : func5 f = (decide (b0.params = f.params) && f.blocks.all (block5 f)) := by
                  rw [func5, if_neg (by clear hx hbl; rw [← hun]; first | omega | (simp_all; done) | (rintro (h | h | h | h | h | h) <;> first | omega | (simp_all; done)))]
                  split
                  ·
                   rename_i e; rw [he] at e; cases e
                  rename_i e; rw [he] at e; cases e; rfl
       rw [hf]
       rw [decide_eq_false (by omega)]; rfl
      have hc13p : x11.params = f.params := by simpa using hc13
      refine W.skip ?_
      refine N.seq ?_
      refine W.seq ?_
      refine W.seq ?_
      refine W.region ?_
      refine WL.assign rfl rfl rfl ?_
      refine WL.nil ?_
      refine N.seq ?_
      refine W.block ?_
      refine W.loop (α := Nat) (fun (k : Nat) => [(0, .agg #[.string f.name, .int .i64 f.bind, .int .i64 f.params, .slice adb f.blocks.length capb]), (1, .pointer (some ⟨b1, 0, none⟩)), (3, .bool un), (4, .int .i64 (k : Int)), (6, .pointer (some ⟨b1, 0, none⟩)), (7, .string f.name), (8, .bool un), (9, .bool un), (10, .bool false), (11, .bool false), (12, .pointer (some ⟨b1, 1, none⟩)), (13, .int .i64 f.bind), (14, .bool false), (15, .bool false), (16, .bool false), (17, .pointer (some ⟨b1, 1, none⟩)), (18, .int .i64 f.bind), (19, .bool false), (20, .bool false), (21, .bool false), (22, .pointer (some ⟨b1, 2, none⟩)), (23, .int .i64 f.params), (24, .bool false), (25, .bool false), (26, .bool false), (27, .pointer (some ⟨b1, 2, none⟩)), (28, .int .i64 f.params), (29, .bool false), (30, .bool false), (31, .bool false), (32, .pointer (some ⟨b1, 3, none⟩)), (33, .slice adb f.blocks.length capb), (34, .int .i64 (f.blocks.length : Int)), (35, .bool (decide (16 < (f.blocks.length : Int)))), (36, .bool (decide (16 < (f.blocks.length : Int)))), (37, .pointer (some ⟨b1, 3, none⟩)), (38, .slice adb f.blocks.length capb), (39, .int .i64 (f.blocks.length : Int)), (40, .bool (decide ((f.blocks.length : Int) = 0))), (44, .pointer (some ⟨b1, 3, none⟩)), (45, .slice adb f.blocks.length capb), (46, .pointer (some ⟨b11, o11 + 0 * 8, none⟩)), (47, .pointer (some ⟨b11, o11 + 0 * 8, none⟩)), (48, .int .i64 x11.params), (49, .pointer (some ⟨b1, 2, none⟩)), (50, .int .i64 f.params), (51, .bool (!decide (x11.params = f.params)))]) (fun (k : Nat) u => St w w u ro [(b1, .cells #[.string f.name, .int .i64 f.bind, .int .i64 f.params, .slice adb f.blocks.length capb] 24 (0, 0))] [] ∧ k ≤ f.blocks.length ∧ (f.blocks.take k).all (block5 f) = true) (fun (k : Nat) => f.blocks.length - k) 0 ⟨rfl, rfl, rfl, rfl, rfl, rfl, rfl, rfl, rfl, rfl, rfl, rfl, rfl, rfl, rfl, rfl, rfl, rfl, rfl, rfl, rfl, rfl, rfl, rfl, rfl, rfl, rfl, rfl, rfl, rfl, rfl, rfl, rfl, rfl, rfl, rfl, rfl, rfl, rfl, rfl, rfl, rfl, rfl, rfl, rfl, rfl, rfl, trivial⟩ ⟨hS, Nat.zero_le _, by simp⟩ ?_
      clear hS
      rintro k w14 ⟨hS, hk, htk⟩
      refine W.seq ?_
      refine W.seq ?_
      refine W.region ?_
      refine WL.move rfl rfl rfl ?_
      refine WL.fieldAddr fo_24_3 rfl rfl rfl ?_
      refine WL.load1 (v := .slice adb f.blocks.length capb) one_22 rfl rfl rfl (hS.cell 0 rfl rfl) ?_
      refine WL.lenSlice Tryd.underlying22 rfl rfl rfl ?_
      refine WL.bin rfl rfl rfl rfl rfl ?_
      refine WL.nil ?_
      refine N.seq ?_
      refine W.cond rfl (fun hc15 => ?_) (fun hc15 => ?_)
      ·
       have hc15p : (k : Int) < (f.blocks.length : Int) := by simpa using hc15
       refine W.skip ?_
       refine N.seq ?_
       refine W.seq ?_
       refine W.block ?_
       refine W.seq ?_
       refine W.region ?_
       refine WL.loadN (cs := [.string f.name, .int .i64 f.bind, .int .i64 f.params, .slice adb f.blocks.length capb]) agg_24 rfl rfl rfl rfl (hS.cells 0 (m := 4) rfl rfl) ?_
       refine WL.move rfl rfl rfl ?_
       refine WL.callF (vs := [.agg #[.string f.name, .int .i64 f.bind, .int .i64 f.params, .slice adb f.blocks.length capb], .int .i64 (k : Int)]) Tryd.func22 (by kernel_rfl) rfl rfl rfl (block5_ret f _ k (ro := ro) (fun b hb => (hS.snap b hb).1) (FuncC.keep hx hS.alike) hok (by omega)) ?_
       rintro v w17 ⟨b16, hb16, rfl, hbl⟩
       replace hS := hS.grow hbl
       refine WL.assign rfl rfl rfl ?_
       refine WL.nil ?_
       refine N.seq ?_
       refine W.seq ?_
       refine W.region ?_
       refine WL.move rfl rfl rfl ?_
       refine WL.not rfl rfl rfl ?_
       refine WL.nil ?_
       refine N.seq ?_
       refine W.cond rfl (fun hc18 => ?_) (fun hc18 => ?_)
       ·
        refine W.seq ?_
        refine W.region ?_
        refine WL.assign rfl rfl rfl ?_
        refine WL.nil ?_
        refine N.seq ?_
        refine Fin.ret1 rfl (v := .bool false) rfl ?_
        have hbz := hS.below
        clear hS
        refine ⟨?_, hbz⟩
        congr 1
        obtain ⟨b0, r0, he⟩ : ∃ b r, f.blocks = b :: r := by
                     cases e : f.blocks with
                     | nil => rw [e] at hx11; simp at hx11
                     | cons b r => exact ⟨b, r, rfl⟩
        have hb0 : b0 = x11 := by rw [he] at hx11; simpa using hx11
        subst hb0
        have hf : func5 f = (decide (b0.params = f.params) && f.blocks.all (block5 f)) := by
                     rw [func5, if_neg (by clear hx hbl; rw [← hun]; first | omega | (simp_all; done) | (rintro (h | h | h | h | h | h) <;> first | omega | (simp_all; done)))]
                     split
                     ·
                      rename_i e; rw [he] at e; cases e
                     rename_i e; rw [he] at e; cases e; rfl
        rw [hf]
        have hn : f.blocks.all (block5 f) = false := by rw [List.all_eq_false]; exact ⟨b16, List.mem_of_getElem? hb16, by simpa using hc18⟩
        rw [hn, Bool.and_false]
       refine W.skip ?_
       refine N.blk ?_
       refine N.seq ?_
       refine W.region ?_
       refine WL.move rfl rfl rfl ?_
       refine WL.add (c := (k : Int) + 1) rfl rfl rfl rfl (rfl) (by omega) ?_
       refine WL.assign rfl rfl rfl ?_
       refine WL.nil ?_
       have htk2 : (f.blocks.take (k + 1)).all (block5 f) = true := by rw [take_next hb16, List.all_append, htk]; simpa using hc18
       exact N.loop (k + 1) ⟨rfl, rfl, rfl, rfl, rfl, rfl, rfl, rfl, rfl, rfl, rfl, rfl, rfl, rfl, rfl, rfl, rfl, rfl, rfl, rfl, rfl, rfl, rfl, rfl, rfl, rfl, rfl, rfl, rfl, rfl, rfl, rfl, rfl, rfl, rfl, rfl, rfl, rfl, rfl, rfl, rfl, rfl, rfl, rfl, rfl, rfl, rfl, trivial⟩ ⟨hS, by omega, htk2⟩ (by first | omega | (simp only; omega))
      have hc15p : ¬ ((k : Int) < (f.blocks.length : Int)) := by simpa using hc15
      refine W.exit ?_
      refine X.seq ?_
      refine X.loop ?_
      refine X.blk ?_
      refine N.seq ?_
      refine W.seq ?_
      refine W.region ?_
      refine WL.assign rfl rfl rfl ?_
      refine WL.nil ?_
      refine N.seq ?_
      refine Fin.ret1 rfl (v := .bool true) rfl ?_
      have hbz := hS.below
      clear hS
      refine ⟨?_, hbz⟩
      congr 1
      obtain ⟨b0, r0, he⟩ : ∃ b r, f.blocks = b :: r := by
                  cases e : f.blocks with
                  | nil => rw [e] at hx11; simp at hx11
                  | cons b r => exact ⟨b, r, rfl⟩
      have hb0 : b0 = x11 := by rw [he] at hx11; simpa using hx11
      subst hb0
      have hf : func5 f = (decide (b0.params = f.params) && f.blocks.all (block5 f)) := by
                  rw [func5, if_neg (by clear hx hbl; rw [← hun]; first | omega | (simp_all; done) | (rintro (h | h | h | h | h | h) <;> first | omega | (simp_all; done)))]
                  split
                  ·
                   rename_i e; rw [he] at e; cases e
                  rename_i e; rw [he] at e; cases e; rfl
      rw [hf]
      have hke : k = f.blocks.length := by omega
      rw [hke, List.take_length] at htk
      rw [htk, decide_eq_true (by omega)]; rfl
     have hg8p : 6 < f.params := by simpa using hg8
     refine WL.skp rfl rfl ?_
     refine WL.skp rfl rfl ?_
     refine WL.skp rfl rfl ?_
     refine WL.skp rfl rfl ?_
     refine WL.pick (v := .bool true) rfl rfl rfl rfl rfl rfl ?_
     refine WL.nil ?_
     refine N.seq ?_
     refine W.condT rfl ?_
     refine W.seq ?_
     refine W.region ?_
     refine WL.assign rfl rfl rfl ?_
     refine WL.nil ?_
     refine N.seq ?_
     refine Fin.ret1 rfl (v := .bool false) rfl ?_
     have hbz := hS.below
     clear hS
     refine ⟨?_, hbz⟩
     congr 1
     rw [func5, if_pos (by clear hx hbl; rw [← hun]; first | omega | (simp_all; done) | (rintro (h | h | h | h | h | h) <;> first | omega | (simp_all; done)))]
    have hg7p : f.params < 0 := by simpa using hg7
    refine WL.skp rfl rfl ?_
    refine WL.skp rfl rfl ?_
    refine WL.skp rfl rfl ?_
    refine WL.pick (v := .bool true) rfl rfl rfl rfl rfl rfl ?_
    refine WL.move rfl rfl rfl ?_
    refine WL.skp rfl rfl ?_
    refine WL.skp rfl rfl ?_
    refine WL.skp rfl rfl ?_
    refine WL.skp rfl rfl ?_
    refine WL.pick (v := .bool true) rfl rfl rfl rfl rfl rfl ?_
    refine WL.nil ?_
    refine N.seq ?_
    refine W.condT rfl ?_
    refine W.seq ?_
    refine W.region ?_
    refine WL.assign rfl rfl rfl ?_
    refine WL.nil ?_
    refine N.seq ?_
    refine Fin.ret1 rfl (v := .bool false) rfl ?_
    have hbz := hS.below
    clear hS
    refine ⟨?_, hbz⟩
    congr 1
    rw [func5, if_pos (by clear hx hbl; rw [← hun]; first | omega | (simp_all; done) | (rintro (h | h | h | h | h | h) <;> first | omega | (simp_all; done)))]
   have hg6p : 3 < f.bind := by simpa using hg6
   refine WL.skp rfl rfl ?_
   refine WL.skp rfl rfl ?_
   refine WL.skp rfl rfl ?_
   refine WL.pick (v := .bool true) rfl rfl rfl rfl rfl rfl ?_
   refine WL.move rfl rfl rfl ?_
   refine WL.skp rfl rfl ?_
   refine WL.skp rfl rfl ?_
   refine WL.skp rfl rfl ?_
   refine WL.pick (v := .bool true) rfl rfl rfl rfl rfl rfl ?_
   refine WL.move rfl rfl rfl ?_
   refine WL.skp rfl rfl ?_
   refine WL.skp rfl rfl ?_
   refine WL.skp rfl rfl ?_
   refine WL.skp rfl rfl ?_
   refine WL.pick (v := .bool true) rfl rfl rfl rfl rfl rfl ?_
   refine WL.nil ?_
   refine N.seq ?_
   refine W.condT rfl ?_
   refine W.seq ?_
   refine W.region ?_
   refine WL.assign rfl rfl rfl ?_
   refine WL.nil ?_
   refine N.seq ?_
   refine Fin.ret1 rfl (v := .bool false) rfl ?_
   have hbz := hS.below
   clear hS
   refine ⟨?_, hbz⟩
   congr 1
   rw [func5, if_pos (by clear hx hbl; rw [← hun]; first | omega | (simp_all; done) | (rintro (h | h | h | h | h | h) <;> first | omega | (simp_all; done)))]
  have hg5p : f.bind < 1 := by simpa using hg5
  refine WL.skp rfl rfl ?_
  refine WL.skp rfl rfl ?_
  refine WL.skp rfl rfl ?_
  refine WL.pick (v := .bool true) rfl rfl rfl rfl rfl rfl ?_
  refine WL.move rfl rfl rfl ?_
  refine WL.skp rfl rfl ?_
  refine WL.skp rfl rfl ?_
  refine WL.skp rfl rfl ?_
  refine WL.pick (v := .bool true) rfl rfl rfl rfl rfl rfl ?_
  refine WL.move rfl rfl rfl ?_
  refine WL.skp rfl rfl ?_
  refine WL.skp rfl rfl ?_
  refine WL.skp rfl rfl ?_
  refine WL.pick (v := .bool true) rfl rfl rfl rfl rfl rfl ?_
  refine WL.move rfl rfl rfl ?_
  refine WL.skp rfl rfl ?_
  refine WL.skp rfl rfl ?_
  refine WL.skp rfl rfl ?_
  refine WL.skp rfl rfl ?_
  refine WL.pick (v := .bool true) rfl rfl rfl rfl rfl rfl ?_
  refine WL.nil ?_
  refine N.seq ?_
  refine W.condT rfl ?_
  refine W.seq ?_
  refine W.region ?_
  refine WL.assign rfl rfl rfl ?_
  refine WL.nil ?_
  refine N.seq ?_
  refine Fin.ret1 rfl (v := .bool false) rfl ?_
  have hbz := hS.below
  clear hS
  refine ⟨?_, hbz⟩
  congr 1
  rw [func5, if_pos (by clear hx hbl; rw [← hun]; first | omega | (simp_all; done) | (rintro (h | h | h | h | h | h) <;> first | omega | (simp_all; done)))]
 refine WL.skp rfl rfl ?_
 refine WL.skp rfl rfl ?_
 refine WL.skp rfl rfl ?_
 refine WL.pick (v := .bool true) rfl rfl rfl rfl rfl rfl ?_
 refine WL.move rfl rfl rfl ?_
 refine WL.skp rfl rfl ?_
 refine WL.skp rfl rfl ?_
 refine WL.skp rfl rfl ?_
 refine WL.pick (v := .bool true) rfl rfl rfl rfl rfl rfl ?_
 refine WL.move rfl rfl rfl ?_
 refine WL.skp rfl rfl ?_
 refine WL.skp rfl rfl ?_
 refine WL.skp rfl rfl ?_
 refine WL.pick (v := .bool true) rfl rfl rfl rfl rfl rfl ?_
 refine WL.move rfl rfl rfl ?_
 refine WL.skp rfl rfl ?_
 refine WL.skp rfl rfl ?_
 refine WL.skp rfl rfl ?_
 refine WL.pick (v := .bool true) rfl rfl rfl rfl rfl rfl ?_
 refine WL.move rfl rfl rfl ?_
 refine WL.skp rfl rfl ?_
 refine WL.skp rfl rfl ?_
 refine WL.skp rfl rfl ?_
 refine WL.skp rfl rfl ?_
 refine WL.pick (v := .bool true) rfl rfl rfl rfl rfl rfl ?_
 refine WL.nil ?_
 refine N.seq ?_
 refine W.condT rfl ?_
 refine W.seq ?_
 refine W.region ?_
 refine WL.assign rfl rfl rfl ?_
 refine WL.nil ?_
 refine N.seq ?_
 refine Fin.ret1 rfl (v := .bool false) rfl ?_
 have hbz := hS.below
 clear hS
 refine ⟨?_, hbz⟩
 congr 1
 rw [func5, if_pos (by clear hx hbl; rw [← hun]; first | omega | (simp_all; done) | (rintro (h | h | h | h | h | h) <;> first | omega | (simp_all; done)))]

end Go.Proofs.YtcmmhfknkldmcaaDoor

namespace Go.Proofs.YtcmmhfknkldmcaaDoor
open Go.RowKit

theorem func5_all {f : DFunc} (h : func5 f = true) : f.blocks.length ≤ 16 ∧ ∀ b ∈ f.blocks, block5 f b = true := by
  unfold func5 at h
  split at h
  · cases h
  rename_i h1
  refine ⟨by omega, ?_⟩
  split at h
  · rename_i e; rw [e]; intro b hb; cases hb
  · simp only [Bool.and_eq_true, List.all_eq_true] at h
    exact h.2
theorem block5_all {f : DFunc} {b : DBlock} (h : block5 f b = true) : 0 ≤ b.params ∧ b.params ≤ 6 ∧ b.ins.length ≤ 32 := by
  unfold block5 at h
  split at h
  · cases h
  · omega
theorem goes5_all {f : DFunc} {to : Int} {args : List Int} {n : Int} (h : goes5 f to args n = true) (hf : func5 f = true) : args.length ≤ 6 ∧ (∀ v ∈ args, 0 ≤ v ∧ v < n) ∧ 0 ≤ to ∧ to < f.blocks.length := by
  unfold goes5 at h
  split at h
  · cases h
  rename_i h0
  split at h
  · rename_i b hb
    split at h
    · rename_i hl
      have h1 := block5_all ((func5_all hf).2 b (List.mem_of_getElem? hb))
      refine ⟨by omega, fun v hv => ?_, by omega, ?_⟩
      · unfold below5 at h
        have := List.all_eq_true.1 h v hv
        simp only [Bool.and_eq_true, decide_eq_true_eq] at this
        exact this
      · have := (List.getElem?_eq_some_iff.1 hb).1
        omega
    · cases h
  · cases h
theorem inst5_all {x : DInst} {n : Int} (h : inst5 x n = true) : x.args.length ≤ 6 ∧ (∀ v ∈ uses5 x, 0 ≤ v ∧ v < n) ∧ 1 ≤ x.op ∧ x.op ≤ 16 := by
  unfold inst5 at h
  split at h
  · cases h
  rename_i h1
  have h2 : below5 (uses5 x) n = true := by cases e : below5 (uses5 x) n with
    | true => rfl
    | false => exact absurd (.inr (.inr (.inl e))) h1
  refine ⟨by omega, fun v hv => ?_, by omega, by omega⟩
  have := List.all_eq_true.1 h2 v hv
  simp only [Bool.and_eq_true, decide_eq_true_eq] at this
  exact this
/-- What is right of a block's end. -/
theorem term5_all {f : DFunc} {t : DTerm} {n : Int} (h : term5 f t n = true) (hf : func5 f = true) : t.args.length ≤ 6 ∧ t.elses.length ≤ 6 ∧ (∀ v ∈ t.args, 0 ≤ v ∧ v < n) ∧ (∀ v ∈ t.elses, 0 ≤ v ∧ v < n) ∧ 1 ≤ t.kind ∧ t.kind ≤ 3 ∧ (t.kind ≠ 1 → 0 ≤ t.a ∧ t.a < n) ∧
    (t.kind ≠ 3 → 0 ≤ t.to ∧ t.to < f.blocks.length) ∧ (t.kind = 2 → 0 ≤ t.els ∧ t.els < f.blocks.length) := by
  unfold term5 at h
  split at h
  · rename_i h1
    simp only [Bool.and_eq_true, decide_eq_true_eq] at h
    obtain ⟨⟨⟨hg, ha⟩, he⟩, hl⟩ := h
    obtain ⟨g1, g2, g3, g4⟩ := goes5_all hg hf
    have hl' : t.elses = [] := List.eq_nil_of_length_eq_zero hl
    exact ⟨g1, by omega, g2, (by rw [hl']; intro v hv; cases hv), by omega, by omega, fun h => absurd h1 h, fun _ => ⟨g3, g4⟩, fun h => by omega⟩
  · split at h
    · rename_i h1 h2
      simp only [Bool.and_eq_true, decide_eq_true_eq] at h
      obtain ⟨⟨⟨a1, a2⟩, hg⟩, he⟩ := h
      obtain ⟨g1, g2, g3, g4⟩ := goes5_all hg hf
      obtain ⟨e1, e2, e3, e4⟩ := goes5_all he hf
      exact ⟨g1, e1, g2, e2, by omega, by omega, fun _ => ⟨a1, a2⟩, fun _ => ⟨g3, g4⟩, fun _ => ⟨e3, e4⟩⟩
    · rename_i h1 h2
      simp only [Bool.and_eq_true, decide_eq_true_eq] at h
      obtain ⟨⟨⟨⟨⟨k3, a1, a2⟩, _⟩, hl1⟩, _⟩, hl2⟩ := h
      have l1 : t.args = [] := List.eq_nil_of_length_eq_zero hl1
      have l2 : t.elses = [] := List.eq_nil_of_length_eq_zero hl2
      exact ⟨by omega, by omega, (by rw [l1]; intro v hv; cases hv), (by rw [l2]; intro v hv; cases hv), by omega, by omega, fun _ => ⟨a1, a2⟩, fun h => absurd k3 h, fun h => absurd h h2⟩
theorem block5_more {f : DFunc} {b : DBlock} (h : block5 f b = true) : allFrom b.params b.ins = true ∧ term5 f b.fin (b.params + b.ins.length) = true := by
  unfold block5 at h
  split at h
  · cases h
  split at h
  · cases h
  rename_i h2
  exact ⟨by cases e : allFrom b.params b.ins <;> simp_all, h⟩

end Go.Proofs.YtcmmhfknkldmcaaDoor
