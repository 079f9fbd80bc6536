/-
  Contracts of layer 12 (fold). No condition beyond those that each theorem states.
-/
import Derived.Test.YtokkiaokpfediaaA8
namespace Go.Proofs.Ytokkiaokpfediaa
open Go.RowKit
theorem agg_32 : tyAgg Try.prog 32 6 = true := by kernel_rfl
theorem agg_59 : tyAgg Try.prog 59 2 = true := by kernel_rfl
theorem byt_32 : (Try.prog.info? 32).map (·.bytes) = some 72 := by kernel_rfl
theorem byt_59 : (Try.prog.info? 59).map (·.bytes) = some 16 := by kernel_rfl
theorem fo_29_0 : fOff Try.prog 29 0 0 = true := by kernel_rfl
theorem fo_29_1 : fOff Try.prog 29 1 1 = true := by kernel_rfl
theorem fo_32_0 : fOff Try.prog 32 0 0 = true := by kernel_rfl
theorem fo_32_1 : fOff Try.prog 32 1 1 = true := by kernel_rfl
theorem fo_32_2 : fOff Try.prog 32 2 2 = true := by kernel_rfl
theorem fo_32_3 : fOff Try.prog 32 3 3 = true := by kernel_rfl
theorem fo_59_0 : fOff Try.prog 59 0 0 = true := by kernel_rfl
theorem fo_59_1 : fOff Try.prog 59 1 1 = true := by kernel_rfl
theorem isz_32 : (Try.prog.info? 32).map (·.size) = some 6 := by kernel_rfl
theorem isz_59 : (Try.prog.info? 59).map (·.size) = some 2 := by kernel_rfl
theorem one_22 : tyOne Try.prog 22 = true := by kernel_rfl
theorem one_24 : tyOne Try.prog 24 = true := by kernel_rfl
theorem one_3 : tyOne Try.prog 3 = true := by kernel_rfl
theorem one_4 : tyOne Try.prog 4 = true := by kernel_rfl
theorem one_55 : tyOne Try.prog 55 = true := by kernel_rfl
theorem siz_32 : tySize Try.prog 32 6 = true := by kernel_rfl
theorem siz_55 : tySize Try.prog 55 1 = true := by kernel_rfl
theorem siz_59 : tySize Try.prog 59 2 = true := by kernel_rfl
theorem zer_32 : tyZero Try.prog 32 = some [.int .i64 0, .int .i64 0, .int .i64 0, .int .u64 0, .string ⟨#[]⟩, .slice none 0 0] := by kernel_rfl
theorem zer_55 : tyZero Try.prog 55 = some [.slice none 0 0] := by kernel_rfl
theorem zer_59 : tyZero Try.prog 59 = some [.int .u64 0, .bool false] := by kernel_rfl
theorem one_ret (b : Bool) {w : World} {ro : Nat → Prop} (hro : ∀ b, ro b → b < w.heap.size) : Ret Try.prog 43 #[.bool b] w fun v w' => v = .int .u64 (if b then 1 else 0) ∧ Below w.heap.size w w' := by
 refine Ret.enter (P := Try.prog) (n := 4) (args := [.bool b]) (σ := [(0, .bool b)]) Try.func43 rfl rfl rfl rfl ?_
 have hS := St.start (ro := ro) hro
 refine W.seq (W.region (WL.assign rfl rfl rfl (WL.nil (N.seq (W.seq (W.seq (W.region (WL.move rfl rfl rfl (WL.nil ?_)))))))))
 refine N.seq ?_
 refine W.cond rfl (fun hc1 => ?_) (fun hc1 => ?_)
 ·
  refine W.seq (W.region (WL.assign rfl rfl rfl (WL.nil (N.seq ?_))))
  refine Fin.ret1 rfl (v := .int .u64 1) rfl ?_
  simp_all [Below.refl]
 refine W.skip (N.seq (W.seq (W.region (WL.assign rfl rfl rfl (WL.nil (N.seq ?_))))))
 refine Fin.ret1 rfl (v := .int .u64 0) rfl ?_
 simp_all [Below.refl]

theorem two_ret (op : Int) {w : World} {ro : Nat → Prop} (hro : ∀ b, ro b → b < w.heap.size) : Ret Try.prog 35 #[.int .i64 op] w fun v w' => v = .bool (decide (2 ≤ op) && decide (op ≤ 11)) ∧ Below w.heap.size w w' := by
 refine Ret.enter (P := Try.prog) (n := 9) (args := [.int .i64 op]) (σ := [(0, .int .i64 op)]) Try.func35 rfl rfl rfl rfl ?_
 have hS := St.start (ro := ro) hro
 refine W.seq (W.region (WL.assign rfl rfl rfl (WL.nil (N.seq (W.seq (W.region (WL.move rfl rfl rfl (WL.bin rfl rfl rfl rfl rfl (WL.move rfl rfl rfl ?_)))))))))
 cases hg1 : (decide (2 ≤ op))
 ·
  have hg1p : ¬ (2 ≤ op) := by simpa using hg1
  refine WL.skp rfl rfl (WL.skp rfl rfl (WL.pick (v := .bool false) rfl rfl rfl rfl rfl rfl (WL.assign rfl rfl rfl (WL.nil (N.seq ?_)))))
  refine Fin.ret1 rfl (v := .bool false) rfl ?_
  exact ⟨by simp_all, hS.below⟩
 have hg1p : 2 ≤ op := by simpa using hg1
 refine WL.move rfl rfl rfl (WL.bin rfl rfl rfl rfl rfl ?_)
 refine WL.pick (v := .bool (decide (op ≤ 11))) rfl rfl rfl rfl rfl rfl ?_
 refine WL.assign rfl rfl rfl (WL.nil (N.seq ?_))
 refine Fin.ret1 rfl (v := .bool (decide (op ≤ 11))) rfl ?_
 exact ⟨by simp_all, hS.below⟩

def KnownC (cs : List Value) (x : Int × Bool) : Prop := cs = [.int .u64 x.1, .bool x.2] ∧ inU x.1
def katG (ks : List (Int × Bool)) (i : Int) : Int × Bool := if 0 ≤ i then ks.getD i.toNat (0, false) else (0, false)
theorem katG_in {ks : List (Int × Bool)} {j : Nat} (hj : j < ks.length) : katG ks (j : Int) = ks[j] := by
  simp [katG, List.getD, List.getElem?_eq_getElem hj]
theorem katG_out {ks : List (Int × Bool)} {i : Int} (hi : i < 0 ∨ (ks.length : Int) ≤ i) : katG ks i = (0, false) := by
  unfold katG
  split
  · simp only [List.getD, List.getElem?_eq_none (show ks.length ≤ i.toNat by omega), Option.getD_none]
  · rfl

theorem at_ret (i : Int) (bl : Nat) (ad : Option Addr) (cap len : Nat) (ks : List (Int × Bool)) (hlen : len = ks.length) {w : World} {ro : Nat → Prop} (hro : ∀ b, ro b → b < w.heap.size) (hbl : ro bl) (hcl : CellsAt w bl 0 [.slice ad len cap]) (hks : Elems ro w 2 KnownC ad ks) : Ret Try.prog 34 #[.int .i64 i, .pointer (some ⟨bl, 0, none⟩)] w fun v w' => v = .agg #[.int .u64 (katG ks i).1, .bool (katG ks i).2] ∧ Below w.heap.size w w' := by
 subst hlen
 refine Ret.enter (P := Try.prog) (n := 17) (args := [.int .i64 i, .pointer (some ⟨bl, 0, none⟩)]) (σ := [(0, .int .i64 i), (1, .pointer (some ⟨bl, 0, none⟩))]) Try.func34 rfl rfl rfl rfl ?_
 have hS := St.start (ro := ro) hro
 refine W.seq (W.region ?_)
 refine WL.alloc (tyZero_spec zer_59) rfl rfl hS ?_
 clear hS; intro w2 b1 hb_b1 hS
 refine WL.nil (N.seq (W.seq (W.seq (W.region (WL.move rfl rfl rfl (WL.bin rfl rfl rfl rfl rfl (WL.move rfl rfl rfl ?_)))))))
 cases hg3 : (decide (i < 0))
 ·
  have hg3p : ¬ (i < 0) := by simpa using hg3
  refine WL.move rfl rfl rfl ?_
  refine WL.load1 (v := .slice ad ks.length cap) one_55 rfl rfl rfl (hS.roCells hbl hcl 0 _ rfl) ?_
  refine WL.lenSlice Try.underlying55 rfl rfl rfl ?_
  refine WL.bin rfl rfl rfl rfl rfl ?_
  refine WL.pick (v := .bool (decide ((ks.length : Int) ≤ i))) rfl rfl rfl rfl rfl rfl ?_
  refine WL.nil (N.seq ?_)
  refine W.cond rfl (fun hc4 => ?_) (fun hc4 => ?_)
  ·
   have hc4p : (ks.length : Int) ≤ i := by simpa using hc4
   refine W.seq (W.region ?_)
   refine WL.build (ps := []) (cs := [.int .u64 0, .bool false]) rfl rfl rfl (by kernel_rfl) ?_
   refine WL.store (cs := [.int .u64 0, .bool false]) (c' := #[.int .u64 0, .bool false]) (L' := [(b1, .cells #[.int .u64 0, .bool false] 59 (0, 0))]) 0 rfl rfl rfl rfl siz_59 rfl rfl rfl rfl rfl hS ?_
   clear hS; intro w5 hS
   refine WL.nil (N.seq ?_)
   refine Fin.retC rfl (v := .agg #[.int .u64 0, .bool false]) rfl (tyAgg_run agg_59 (cs := [.int .u64 0, .bool false]) rfl (hS.cells 0 (m := 2) rfl rfl)) ?_
   refine ⟨?_, hS.below⟩
   rw [katG_out (by omega)]
  have hc4p : ¬ ((ks.length : Int) ≤ i) := by simpa using hc4
  refine W.skip (N.seq (W.seq (W.region ?_)))
  refine WL.load1 (v := .slice ad ks.length cap) one_55 rfl rfl rfl (hS.roCells hbl hcl 0 _ rfl) ?_
  refine WL.move rfl rfl rfl ?_
  have hi0 : 0 ≤ i := by omega
  obtain ⟨j, rfl⟩ := Int.eq_ofNat_of_zero_le hi0
  have hj : j < ks.length := by omega
  obtain ⟨b, off, cs, hE, hrb, hcl_, hca, hQ⟩ := hks j _ (List.getElem?_eq_getElem hj)
  obtain ⟨rfl, hku⟩ := hQ
  refine WL.indexAddrE Try.underlying55 isz_59 rfl rfl rfl (i := .tmp 14) rfl hj hE ?_
  refine WL.loadN (cs := [.int .u64 (ks[j].1), .bool (ks[j].2)]) agg_59 rfl rfl rfl rfl (hS.roCells hrb hca) ?_
  refine WL.store (cs := [.int .u64 (ks[j].1), .bool (ks[j].2)]) (c' := #[.int .u64 (ks[j].1), .bool (ks[j].2)]) (L' := [(b1, .cells #[.int .u64 (ks[j].1), .bool (ks[j].2)] 59 (0, 0))]) 0 rfl rfl rfl rfl siz_59 rfl rfl rfl rfl rfl hS ?_
  clear hS; intro w6 hS
  refine WL.nil (N.seq ?_)
  refine Fin.retC rfl (v := .agg #[.int .u64 (ks[j].1), .bool (ks[j].2)]) rfl (tyAgg_run agg_59 (cs := [.int .u64 (ks[j].1), .bool (ks[j].2)]) rfl (hS.cells 0 (m := 2) rfl rfl)) ?_
  refine ⟨?_, hS.below⟩
  rw [katG_in hj]
 have hg3p : i < 0 := by simpa using hg3
 refine WL.skp rfl rfl (WL.skp rfl rfl (WL.skp rfl rfl (WL.skp rfl rfl (WL.pick (v := .bool true) rfl rfl rfl rfl rfl rfl (WL.nil (N.seq (W.condT rfl (W.seq (W.region ?_)))))))))
 refine WL.build (ps := []) (cs := [.int .u64 0, .bool false]) rfl rfl rfl (by kernel_rfl) ?_
 refine WL.store (cs := [.int .u64 0, .bool false]) (c' := #[.int .u64 0, .bool false]) (L' := [(b1, .cells #[.int .u64 0, .bool false] 59 (0, 0))]) 0 rfl rfl rfl rfl siz_59 rfl rfl rfl rfl rfl hS ?_
 clear hS; intro w7 hS
 refine WL.nil (N.seq ?_)
 refine Fin.retC rfl (v := .agg #[.int .u64 0, .bool false]) rfl (tyAgg_run agg_59 (cs := [.int .u64 0, .bool false]) rfl (hS.cells 0 (m := 2) rfl rfl)) ?_
 refine ⟨?_, hS.below⟩
 rw [katG_out (by omega)]

def reckI (op a b : Int) : Int :=
  if op = 3 then IntKind.u64.wrap (a + IntKind.u64.wrap (0 - b)) else
  if op = 2 then IntKind.u64.wrap (a + b) else
  if op = 4 then IntKind.u64.wrap (a * b) else
  if op = 5 then IntKind.u64.wrap ((BitVec.ofInt IntKind.u64.bits a &&& BitVec.ofInt IntKind.u64.bits b).toNat : Int) else
  if op = 6 then IntKind.u64.wrap ((BitVec.ofInt IntKind.u64.bits a ||| BitVec.ofInt IntKind.u64.bits b).toNat : Int) else
  if op = 7 then IntKind.u64.wrap ((BitVec.ofInt IntKind.u64.bits a ^^^ BitVec.ofInt IntKind.u64.bits b).toNat : Int) else
  if op = 8 then IntKind.u64.wrap (a * 2 ^ min (b.tmod 64).toNat IntKind.u64.bits) else
  if op = 9 then a.fdiv (2 ^ min (b.tmod 64).toNat IntKind.u64.bits) else
  if op = 10 then (if a < b then 1 else 0) else
  if op = 11 then (if a = b then 1 else 0) else 0

theorem reckon_ret (op a b : Int) (hb0 : 0 ≤ b) {w : World} {ro : Nat → Prop} (hro : ∀ b, ro b → b < w.heap.size) : Ret Try.prog 36 #[.int .i64 op, .int .u64 a, .int .u64 b] w fun v w' => v = .int .u64 (reckI op a b) ∧ Below w.heap.size w w' := by
 refine Ret.enter (P := Try.prog) (n := 61) (args := [.int .i64 op, .int .u64 a, .int .u64 b]) (σ := [(0, .int .i64 op), (1, .int .u64 a), (2, .int .u64 b)]) Try.func36 rfl rfl rfl rfl ?_
 have hS := St.start (ro := ro) hro
 refine W.seq (W.region (WL.assign rfl rfl rfl (WL.nil (N.seq (W.seq (W.seq (W.region (WL.move rfl rfl rfl (WL.nil ?_)))))))))
 refine N.seq (W.block (W.seq (W.block (W.seq (W.block (W.seq (W.block (W.seq (W.block ?_)))))))))
 refine W.seq (W.block (W.seq (W.block (W.seq (W.block (W.seq (W.block (W.seq (W.block ?_)))))))))
 refine W.seq (W.block (W.seq (W.seq (W.seq (W.region (WL.bin rfl rfl rfl rfl rfl (WL.assign rfl rfl rfl (WL.nil (N.seq ?_)))))))))
 refine W.cond rfl (fun hc1 => ?_) (fun hc1 => ?_)
 ·
  have hc1p : op = 3 := by simpa using hc1
  refine W.exit (X.seq (X.seq (X.blk (N.seq (W.region (WL.move rfl rfl rfl ?_))))))
  refine WL.neg rfl rfl rfl ?_
  refine WL.assign rfl rfl rfl (WL.nil (N.blk (N.seq (W.seq (W.seq (W.region (WL.move rfl rfl rfl (WL.move rfl rfl rfl (WL.bin rfl rfl rfl rfl rfl ?_)))))))))
  refine WL.assign rfl rfl rfl (WL.nil (N.seq ?_))
  refine Fin.ret1 rfl (v := .int .u64 (IntKind.u64.wrap (a + (IntKind.u64.wrap (0 - b))))) rfl ?_
  refine ⟨?_, hS.below⟩
  simp [reckI, hc1p]
 have hc1p : ¬ (op = 3) := by simpa using hc1
 refine W.skip (N.seq (W.seq (W.seq (W.region (WL.bin rfl rfl rfl rfl rfl (WL.assign rfl rfl rfl (WL.nil (N.seq ?_))))))))
 refine W.cond rfl (fun hc2 => ?_) (fun hc2 => ?_)
 ·
  have hc2p : op = 2 := by simpa using hc2
  refine W.exit (X.seq (X.seq (X.blk_ne rfl (X.seq (X.blk (N.seq (W.seq (W.seq (W.region ?_)))))))))
  refine WL.move rfl rfl rfl (WL.move rfl rfl rfl (WL.bin rfl rfl rfl rfl rfl (WL.assign rfl rfl rfl (WL.nil (N.seq ?_)))))
  refine Fin.ret1 rfl (v := .int .u64 (IntKind.u64.wrap (a + b))) rfl ?_
  refine ⟨?_, hS.below⟩
  simp [reckI, hc1p, hc2p]
 have hc2p : ¬ (op = 2) := by simpa using hc2
 refine W.skip (N.seq (W.seq (W.seq (W.region (WL.bin rfl rfl rfl rfl rfl (WL.assign rfl rfl rfl (WL.nil (N.seq ?_))))))))
 refine W.cond rfl (fun hc3 => ?_) (fun hc3 => ?_)
 ·
  have hc3p : op = 4 := by simpa using hc3
  refine W.exit (X.seq (X.seq (X.blk_ne rfl (X.seq (X.blk_ne rfl (X.seq (X.blk (N.seq (W.seq ?_)))))))))
  refine W.seq (W.region (WL.move rfl rfl rfl (WL.move rfl rfl rfl (WL.bin rfl rfl rfl rfl rfl (WL.assign rfl rfl rfl (WL.nil (N.seq ?_)))))))
  refine Fin.ret1 rfl (v := .int .u64 (IntKind.u64.wrap (a * b))) rfl ?_
  refine ⟨?_, hS.below⟩
  simp [reckI, hc1p, hc2p, hc3p]
 have hc3p : ¬ (op = 4) := by simpa using hc3
 refine W.skip (N.seq (W.seq (W.seq (W.region (WL.bin rfl rfl rfl rfl rfl (WL.assign rfl rfl rfl (WL.nil (N.seq ?_))))))))
 refine W.cond rfl (fun hc4 => ?_) (fun hc4 => ?_)
 ·
  have hc4p : op = 5 := by simpa using hc4
  refine W.exit (X.seq (X.seq (X.blk_ne rfl (X.seq (X.blk_ne rfl (X.seq (X.blk_ne rfl (X.seq (X.blk ?_)))))))))
  refine N.seq (W.seq (W.seq (W.region (WL.move rfl rfl rfl (WL.move rfl rfl rfl (WL.bin rfl rfl rfl rfl rfl (WL.assign rfl rfl rfl (WL.nil (N.seq ?_)))))))))
  refine Fin.ret1 rfl (v := .int .u64 (IntKind.u64.wrap ((BitVec.ofInt IntKind.u64.bits a &&& BitVec.ofInt IntKind.u64.bits b).toNat : Int))) rfl ?_
  refine ⟨?_, hS.below⟩
  simp [reckI, hc1p, hc2p, hc3p, hc4p]
 have hc4p : ¬ (op = 5) := by simpa using hc4
 refine W.skip (N.seq (W.seq (W.seq (W.region (WL.bin rfl rfl rfl rfl rfl (WL.assign rfl rfl rfl (WL.nil (N.seq ?_))))))))
 refine W.cond rfl (fun hc5 => ?_) (fun hc5 => ?_)
 ·
  have hc5p : op = 6 := by simpa using hc5
  refine W.exit (X.seq (X.seq (X.blk_ne rfl (X.seq (X.blk_ne rfl (X.seq (X.blk_ne rfl (X.seq (X.blk_ne rfl ?_)))))))))
  refine X.seq (X.blk (N.seq (W.seq (W.seq (W.region (WL.move rfl rfl rfl (WL.move rfl rfl rfl (WL.bin rfl rfl rfl rfl rfl (WL.assign rfl rfl rfl ?_)))))))))
  refine WL.nil (N.seq ?_)
  refine Fin.ret1 rfl (v := .int .u64 (IntKind.u64.wrap ((BitVec.ofInt IntKind.u64.bits a ||| BitVec.ofInt IntKind.u64.bits b).toNat : Int))) rfl ?_
  refine ⟨?_, hS.below⟩
  simp [reckI, hc1p, hc2p, hc3p, hc4p, hc5p]
 have hc5p : ¬ (op = 6) := by simpa using hc5
 refine W.skip (N.seq (W.seq (W.seq (W.region (WL.bin rfl rfl rfl rfl rfl (WL.assign rfl rfl rfl (WL.nil (N.seq ?_))))))))
 refine W.cond rfl (fun hc6 => ?_) (fun hc6 => ?_)
 ·
  have hc6p : op = 7 := by simpa using hc6
  refine W.exit (X.seq (X.seq (X.blk_ne rfl (X.seq (X.blk_ne rfl (X.seq (X.blk_ne rfl (X.seq (X.blk_ne rfl ?_)))))))))
  refine X.seq (X.blk_ne rfl (X.seq (X.blk (N.seq (W.seq (W.seq (W.region (WL.move rfl rfl rfl (WL.move rfl rfl rfl ?_)))))))))
  refine WL.bin rfl rfl rfl rfl rfl (WL.assign rfl rfl rfl (WL.nil (N.seq ?_)))
  refine Fin.ret1 rfl (v := .int .u64 (IntKind.u64.wrap ((BitVec.ofInt IntKind.u64.bits a ^^^ BitVec.ofInt IntKind.u64.bits b).toNat : Int))) rfl ?_
  refine ⟨?_, hS.below⟩
  simp [reckI, hc1p, hc2p, hc3p, hc4p, hc5p, hc6p]
 have hc6p : ¬ (op = 7) := by simpa using hc6
 refine W.skip (N.seq (W.seq (W.seq (W.region (WL.bin rfl rfl rfl rfl rfl (WL.assign rfl rfl rfl (WL.nil (N.seq ?_))))))))
 refine W.cond rfl (fun hc7 => ?_) (fun hc7 => ?_)
 ·
  have hc7p : op = 8 := by simpa using hc7
  refine W.exit (X.seq (X.seq (X.blk_ne rfl (X.seq (X.blk_ne rfl (X.seq (X.blk_ne rfl (X.seq (X.blk_ne rfl ?_)))))))))
  refine X.seq (X.blk_ne rfl (X.seq (X.blk_ne rfl (X.seq (X.blk (N.seq (W.seq (W.seq (W.region ?_)))))))))
  refine WL.move rfl rfl rfl (WL.move rfl rfl rfl ?_)
  refine WL.remC rfl rfl rfl rfl (by decide) ?_
  refine WL.shl rfl rfl rfl rfl (by exact Int.tmod_nonneg _ hb0) ?_
  refine WL.assign rfl rfl rfl (WL.nil (N.seq ?_))
  refine Fin.ret1 rfl (v := .int .u64 (IntKind.u64.wrap (a * 2 ^ min (b.tmod 64).toNat IntKind.u64.bits))) rfl ?_
  refine ⟨?_, hS.below⟩
  simp [reckI, hc1p, hc2p, hc3p, hc4p, hc5p, hc6p, hc7p]
 have hc7p : ¬ (op = 8) := by simpa using hc7
 refine W.skip (N.seq (W.seq (W.seq (W.region (WL.bin rfl rfl rfl rfl rfl (WL.assign rfl rfl rfl (WL.nil (N.seq ?_))))))))
 refine W.cond rfl (fun hc8 => ?_) (fun hc8 => ?_)
 ·
  have hc8p : op = 9 := by simpa using hc8
  refine W.exit (X.seq (X.seq (X.blk_ne rfl (X.seq (X.blk_ne rfl (X.seq (X.blk_ne rfl (X.seq (X.blk_ne rfl ?_)))))))))
  refine X.seq (X.blk_ne rfl (X.seq (X.blk_ne rfl (X.seq (X.blk_ne rfl (X.seq (X.blk (N.seq (W.seq ?_)))))))))
  refine W.seq (W.region (WL.move rfl rfl rfl (WL.move rfl rfl rfl ?_)))
  refine WL.remC rfl rfl rfl rfl (by decide) ?_
  refine WL.shr rfl rfl rfl rfl (by exact Int.tmod_nonneg _ hb0) ?_
  refine WL.assign rfl rfl rfl (WL.nil (N.seq ?_))
  refine Fin.ret1 rfl (v := .int .u64 (a.fdiv (2 ^ min (b.tmod 64).toNat IntKind.u64.bits))) rfl ?_
  refine ⟨?_, hS.below⟩
  simp [reckI, hc1p, hc2p, hc3p, hc4p, hc5p, hc6p, hc7p, hc8p]
 have hc8p : ¬ (op = 9) := by simpa using hc8
 refine W.skip (N.seq (W.seq (W.seq (W.region (WL.bin rfl rfl rfl rfl rfl (WL.assign rfl rfl rfl (WL.nil (N.seq ?_))))))))
 refine W.cond rfl (fun hc9 => ?_) (fun hc9 => ?_)
 ·
  have hc9p : op = 10 := by simpa using hc9
  refine W.exit (X.seq (X.seq (X.blk_ne rfl (X.seq (X.blk_ne rfl (X.seq (X.blk_ne rfl (X.seq (X.blk_ne rfl ?_)))))))))
  refine X.seq (X.blk_ne rfl (X.seq (X.blk_ne rfl (X.seq (X.blk_ne rfl (X.seq (X.blk_ne rfl (X.seq (X.blk ?_)))))))))
  refine N.seq (W.seq (W.seq (W.region (WL.move rfl rfl rfl (WL.move rfl rfl rfl (WL.bin rfl rfl rfl rfl rfl ?_))))))
  refine WL.callF (vs := [.bool (decide (a < b))]) Try.func43 (by kernel_rfl) rfl rfl rfl (one_ret (decide (a < b)) (ro := ro) (fun b hb => (hS.snap b hb).1)) ?_
  rintro v w10 ⟨rfl, hbl⟩
  replace hS := hS.grow hbl
  refine WL.assign rfl rfl rfl (WL.nil (N.seq ?_))
  refine Fin.ret1 rfl (v := .int .u64 (if decide (a < b) then 1 else 0)) rfl ?_
  refine ⟨?_, hS.below⟩
  simp [reckI, hc1p, hc2p, hc3p, hc4p, hc5p, hc6p, hc7p, hc8p, hc9p]
 have hc9p : ¬ (op = 10) := by simpa using hc9
 refine W.skip (N.seq (W.seq (W.region (WL.bin rfl rfl rfl rfl rfl (WL.assign rfl rfl rfl (WL.nil (N.seq ?_)))))))
 refine W.cond rfl (fun hc11 => ?_) (fun hc11 => ?_)
 ·
  have hc11p : op = 11 := by simpa using hc11
  refine W.exit (X.seq (X.blk_ne rfl (X.seq (X.blk_ne rfl (X.seq (X.blk_ne rfl (X.seq (X.blk_ne rfl (X.seq ?_)))))))))
  refine X.blk_ne rfl (X.seq (X.blk_ne rfl (X.seq (X.blk_ne rfl (X.seq (X.blk_ne rfl (X.seq (X.blk_ne rfl (X.seq ?_)))))))))
  refine X.blk (N.seq (W.seq (W.seq (W.region (WL.move rfl rfl rfl (WL.move rfl rfl rfl (WL.bin rfl rfl rfl rfl rfl ?_)))))))
  refine WL.callF (vs := [.bool (decide (a = b))]) Try.func43 (by kernel_rfl) rfl rfl rfl (one_ret (decide (a = b)) (ro := ro) (fun b hb => (hS.snap b hb).1)) ?_
  rintro v w12 ⟨rfl, hbl⟩
  replace hS := hS.grow hbl
  refine WL.assign rfl rfl rfl (WL.nil (N.seq ?_))
  refine Fin.ret1 rfl (v := .int .u64 (if decide (a = b) then 1 else 0)) rfl ?_
  refine ⟨?_, hS.below⟩
  simp [reckI, hc1p, hc2p, hc3p, hc4p, hc5p, hc6p, hc7p, hc8p, hc9p, hc11p]
 have hc11p : ¬ (op = 11) := by simpa using hc11
 refine W.skip (N.seq (W.exit (X.blk_ne rfl (X.seq (X.blk_ne rfl (X.seq (X.blk_ne rfl (X.seq (X.blk_ne rfl ?_)))))))))
 refine X.seq (X.blk_ne rfl (X.seq (X.blk_ne rfl (X.seq (X.blk_ne rfl (X.seq (X.blk_ne rfl (X.seq (X.blk_ne rfl ?_)))))))))
 refine X.seq (X.blk_ne rfl (X.seq (X.blk (N.seq (W.seq (W.region (WL.assign rfl rfl rfl (WL.nil (N.seq ?_)))))))))
 refine Fin.ret1 rfl (v := .int .u64 0) rfl ?_
 refine ⟨?_, hS.below⟩
 simp [reckI, hc1p, hc2p, hc3p, hc4p, hc5p, hc6p, hc7p, hc8p, hc9p, hc11p]

def kc (k : Int × Bool) : List Value := [.int .u64 k.1, .bool k.2]
def stepK (l : List (Int × Bool)) (x : DInst) : Int × Bool :=
  if x.op = 1 then (x.k, true) else
  if ((decide (2 ≤ x.op) && decide (x.op ≤ 11)) = true ∧ (katG l x.a).2 = true) ∧ (katG l x.b).2 = true then (reckI x.op (katG l x.a).1 (katG l x.b).1, true) else (0, false)
def valsF : List (Int × Bool) → List DInst → List (Int × Bool)
  | l, [] => l
  | l, x :: r => valsF (l ++ [stepK l x]) r
theorem valsF_snoc : ∀ (l : List (Int × Bool)) (r : List DInst) (x : DInst), valsF l (r ++ [x]) = valsF l r ++ [stepK (valsF l r) x]
  | l, [], x => rfl
  | l, y :: r, x => valsF_snoc (l ++ [stepK l y]) r x
theorem valsF_length : ∀ (l : List (Int × Bool)) (r : List DInst), (valsF l r).length = l.length + r.length
  | l, [] => rfl
  | l, y :: r => by simp only [valsF, valsF_length, List.length_append, List.length_cons, List.length_nil]; omega
def vals0 (b : DBlock) : List (Int × Bool) := List.replicate b.params.toNat (0, false)
def vals (b : DBlock) : List (Int × Bool) := valsF (vals0 b) b.ins
theorem wrapU_in (x : Int) : inU (IntKind.u64.wrap x) := by
  unfold inU IntKind.wrap
  simp only [IntKind.signed, IntKind.bits]
  have h1 := Int.emod_nonneg x (show (2 : Int) ^ 64 ≠ 0 by decide)
  have h2 := Int.emod_lt_of_pos x (show (0 : Int) < 2 ^ 64 by decide)
  simp
  omega
theorem fdiv_in {a : Int} (h : inU a) (m : Nat) : inU (a.fdiv (2 ^ m)) := by
  obtain ⟨h0, h1⟩ := h
  have hp : (0 : Int) < 2 ^ m := Int.pow_pos (by decide)
  rw [Int.fdiv_eq_ediv_of_nonneg _ (Int.le_of_lt hp)]
  refine ⟨Int.ediv_nonneg h0 (Int.le_of_lt hp), Int.le_trans (Int.ediv_le_self _ h0) h1⟩
theorem reckI_in (op a b : Int) (ha : inU a) : inU (reckI op a b) := by
  unfold reckI
  repeat' split
  all_goals first | exact wrapU_in _ | exact fdiv_in ha _ | (unfold inU; omega)
theorem katG_inU {l : List (Int × Bool)} (h : ∀ k ∈ l, inU k.1) (i : Int) : inU (katG l i).1 := by
  unfold katG
  split
  · rw [List.getD_eq_getElem?_getD]
    cases hc : l[i.toNat]? with
    | none => unfold inU; simp
    | some x => exact h x (List.mem_of_getElem? hc)
  · unfold inU; simp
theorem stepK_in {l : List (Int × Bool)} {x : DInst} (h : ∀ k ∈ l, inU k.1) (hx : inU x.k) : inU (stepK l x).1 := by
  unfold stepK
  repeat' split
  · exact hx
  · exact reckI_in _ _ _ (katG_inU h _)
  · unfold inU; simp
theorem vals_in {ins : List DInst} (hx : ∀ x ∈ ins, inU x.k) : ∀ (l : List (Int × Bool)), (∀ k ∈ l, inU k.1) → ∀ k ∈ valsF l ins, inU k.1 := by
  induction ins with
  | nil => intro l h; exact h
  | cons x r ih =>
    intro l h
    refine ih (fun y hy => hx y (List.mem_cons_of_mem _ hy)) _ fun k hk => ?_
    rcases List.mem_append.1 hk with h1 | h1
    · exact h k h1
    · rw [List.mem_singleton.1 h1]; exact stepK_in h (hx x List.mem_cons_self)
theorem vals0_in (b : DBlock) : ∀ k ∈ vals0 b, inU k.1 := fun k hk => by
  rw [(List.mem_replicate.1 hk).2]; unfold inU; simp
theorem insU {ro : Nat → Prop} {w : World} {sz : Nat} {ad : Option Addr} {ins : List DInst} (h : Elems ro w sz (InstC ro w) ad ins) : ∀ x ∈ ins, inU x.k := fun x hx => by
  obtain ⟨i, hi⟩ := List.mem_iff_getElem?.1 hx
  obtain ⟨_, _, _, _, _, _, _, sv, _, _, _, _, _, hk, _⟩ := h i x hi
  exact hk

set_option maxRecDepth 10000 in
theorem values_ret (b : DBlock) (cs : List Value) {w : World} {ro : Nat → Prop} (hro : ∀ b, ro b → b < w.heap.size) (hb : BlockC ro w cs b) (hp : b.params ≤ 1000) (hl : b.ins.length ≤ 1954687338211) : Ret Try.prog 19 #[.agg cs.toArray] w fun v w' => SlV (fun x => w.heap.size ≤ x ∧ x < w'.heap.size) w' 2 KnownC v (vals b) ∧ Below w.heap.size w w' := by
 obtain ⟨si, tsx, rfl, hin, hfin, hpar⟩ := id hb
 obtain ⟨adi, capi, rfl, hina, hinb, hinc, hind⟩ := id hin
 have hinm : b.ins.length ≤ 9223372036854775807 := by have h1 := hina; have h2 := hinb; unfold maxLen at h2; omega
 obtain ⟨sp, sq, rfl, ht1, ht2, htk, hta, htt, hte⟩ := id hfin
 obtain ⟨adp, capp, rfl, htpa, htpb, htpc, htpd⟩ := id ht1
 have htpm : b.fin.args.length ≤ 9223372036854775807 := by have h1 := htpa; have h2 := htpb; unfold maxLen at h2; omega
 obtain ⟨adq, capq, rfl, htqa, htqb, htqc, htqd⟩ := id ht2
 have htqm : b.fin.elses.length ≤ 9223372036854775807 := by have h1 := htqa; have h2 := htqb; unfold maxLen at h2; omega
 refine Ret.enter (P := Try.prog) (n := 64) (args := [.agg #[.int .i64 b.params, .slice adi b.ins.length capi, .int .i64 b.fin.kind, .int .i64 b.fin.a, .int .i64 b.fin.to, .slice adp b.fin.args.length capp, .int .i64 b.fin.els, .slice adq b.fin.elses.length capq]]) (σ := [(0, .agg #[.int .i64 b.params, .slice adi b.ins.length capi, .int .i64 b.fin.kind, .int .i64 b.fin.a, .int .i64 b.fin.to, .slice adp b.fin.args.length capp, .int .i64 b.fin.els, .slice adq b.fin.elses.length capq])]) Try.func19 rfl rfl rfl rfl ?_
 have hS := St.start (ro := ro) hro
 refine W.seq (W.region ?_)
 refine WL.box (v := .agg #[.int .i64 b.params, .slice adi b.ins.length capi, .int .i64 b.fin.kind, .int .i64 b.fin.a, .int .i64 b.fin.to, .slice adp b.fin.args.length capp, .int .i64 b.fin.els, .slice adq b.fin.elses.length capq]) (cs := [.int .i64 b.params, .slice adi b.ins.length capi, .int .i64 b.fin.kind, .int .i64 b.fin.a, .int .i64 b.fin.to, .slice adp b.fin.args.length capp, .int .i64 b.fin.els, .slice adq b.fin.elses.length capq]) rfl rfl rfl rfl hS ?_
 clear hS; intro w2 b1 hb_b1 hS
 refine WL.assign rfl rfl rfl (WL.nil (N.seq (W.seq (W.region ?_))))
 refine WL.fieldAddr fo_29_0 rfl rfl rfl ?_
 refine WL.load1 (v := .int .i64 b.params) one_3 rfl rfl rfl (hS.cell 0 rfl rfl) ?_
 refine WL.max2 rfl rfl rfl rfl ?_
 refine WL.set 12 (v' := .int .i64 (b.params.toNat : Int)) rfl (by congr 1; split <;> omega) ?_
 refine WL.makeSlice (m := b.params.toNat) 16 Try.underlying55 (tyZero_spec zer_59) byt_59 rfl rfl rfl rfl rfl hS (by unfold maxLen; omega) (by omega) ?_
 clear hS; intro w4 b3 hS
 refine WL.alloc (tyZero_spec zer_55) rfl rfl hS ?_
 clear hS; intro w6 b5 hb_b5 hS
 refine WL.store (cs := [.slice (some ⟨b3, 0, none⟩) b.params.toNat b.params.toNat]) (c' := #[.slice (some ⟨b3, 0, none⟩) b.params.toNat b.params.toNat]) (L' := [(b5, .cells #[.slice (some ⟨b3, 0, none⟩) b.params.toNat b.params.toNat] 55 (0, 0)), (b1, .cells #[.int .i64 b.params, .slice adi b.ins.length capi, .int .i64 b.fin.kind, .int .i64 b.fin.a, .int .i64 b.fin.to, .slice adp b.fin.args.length capp, .int .i64 b.fin.els, .slice adq b.fin.elses.length capq] 29 (0, 0))]) 0 rfl rfl rfl rfl siz_55 rfl rfl rfl rfl rfl hS ?_
 clear hS; intro w7 hS
 refine WL.nil (N.seq (W.seq (W.region ?_)))
 refine WL.makeFunc (vs := #[.pointer (some ⟨b5, 0, none⟩)]) rfl rfl rfl ?_
 refine WL.assign rfl rfl rfl (WL.nil (N.seq (W.seq (W.seq (W.region ?_)))))
 refine WL.fieldAddr fo_29_1 rfl rfl rfl ?_
 refine WL.load1 (v := .slice adi b.ins.length capi) one_24 rfl rfl rfl (hS.cell 1 rfl rfl) ?_
 refine WL.lenSlice Try.underlying24 rfl rfl rfl ?_
 refine WL.move rfl rfl rfl (WL.nil (N.seq (W.block ?_)))
 have e0 : (List.replicate b.params.toNat [Value.int .u64 0, Value.bool false]).flatten = ((valsF (vals0 b) (b.ins.take 0)).map kc).flatten := by simp [valsF, vals0, kc]
 rw [e0] at hS
 refine W.loop (α := Nat × Value) (fun ⟨k, v⟩ => [(0, .agg #[.int .i64 b.params, .slice adi b.ins.length capi, .int .i64 b.fin.kind, .int .i64 b.fin.a, .int .i64 b.fin.to, .slice adp b.fin.args.length capp, .int .i64 b.fin.els, .slice adq b.fin.elses.length capq]), (1, .pointer (some ⟨b1, 0, none⟩)), (2, .slice none 0 0), (3, .pointer (some ⟨b5, 0, none⟩)), (4, .func (.func 34) #[] #[.pointer (some ⟨b5, 0, none⟩)]), (10, .pointer (some ⟨b1, 0, none⟩)), (11, .int .i64 b.params), (12, .int .i64 (b.params.toNat : Int)), (13, .slice (some ⟨b3, 0, none⟩) b.params.toNat b.params.toNat), (14, .func (.func 34) #[] #[.pointer (some ⟨b5, 0, none⟩)]), (15, .pointer (some ⟨b1, 1, none⟩)), (16, .slice adi b.ins.length capi), (17, .int .i64 (b.ins.length : Int)), (18, .int .i64 (k : Int))]) (fun ⟨k, v⟩ u => St w w u ro [(b5, .cells #[v] 55 (0, 0)), (b1, .cells #[.int .i64 b.params, .slice adi b.ins.length capi, .int .i64 b.fin.kind, .int .i64 b.fin.a, .int .i64 b.fin.to, .slice adp b.fin.args.length capp, .int .i64 b.fin.els, .slice adq b.fin.elses.length capq] 29 (0, 0))] [⟨v, 59, 2, b.params.toNat + k, ((valsF (vals0 b) (b.ins.take k)).map kc).flatten⟩] ∧ k ≤ b.ins.length) (fun ⟨k, v⟩ => b.ins.length - k) (0, .slice (some ⟨b3, 0, none⟩) b.params.toNat b.params.toNat) ⟨rfl, rfl, rfl, rfl, rfl, rfl, rfl, rfl, rfl, rfl, rfl, rfl, rfl, rfl, trivial⟩ ⟨hS, Nat.zero_le _⟩ ?_
 clear hS
 rintro ⟨k, v⟩ w8 ⟨hS, hk⟩
 have hrow : w8.ownsRow w.heap.size 59 2 v (b.params.toNat + k) _ := hS.rows _ List.mem_cons_self
 obtain ⟨adv, capv, rfl, hv1, hv2, hv3⟩ := row_shape hrow
 clear hrow
 have hks : ∀ x ∈ (valsF (vals0 b) (b.ins.take k)), inU x.1 := vals_in (fun x hx => insU hind x (List.mem_of_mem_take hx)) _ (vals0_in b)
 have hkl : (valsF (vals0 b) (b.ins.take k)).length = b.params.toNat + k := by rw [valsF_length]; simp [vals0]; omega
 refine W.seq (W.region (WL.bin rfl rfl rfl rfl rfl (WL.nil (N.seq (W.seq ?_)))))
 refine W.cond rfl (fun hc9 => ?_) (fun hc9 => ?_)
 ·
  have hc9p : (k : Int) < (b.ins.length : Int) := by simpa using hc9
  refine W.skip (N.seq (W.seq (W.block (W.seq (W.region ?_)))))
  have hj10 : k < b.ins.length := by omega
  obtain ⟨x10, hx10⟩ : ∃ zz, b.ins[k]? = some zz := ⟨_, List.getElem?_eq_getElem hj10⟩
  obtain ⟨b10, o10, cs10, hE10, hr10, hl10, hc10, hQ10⟩ := hind k _ hx10
  have hQk10 := hQ10
  obtain ⟨sv10, rfl, hs10, ho10, ha10, hb10, hk10, hn10⟩ := hQ10
  obtain ⟨ad10, cap10, rfl, hs10a, hs10b, hs10c, hs10d⟩ := id hs10
  have hs10m : x10.args.length ≤ 9223372036854775807 := by have h1 := hs10a; have h2 := hs10b; unfold maxLen at h2; omega
  refine WL.indexAddrE (j := k) Try.underlying24 isz_32 rfl rfl rfl rfl hj10 hE10 ?_
  refine WL.loadN (cs := [.int .i64 x10.op, .int .i64 x10.a, .int .i64 x10.b, .int .u64 x10.k, .string x10.name, .slice ad10 x10.args.length cap10]) agg_32 rfl rfl rfl rfl (hS.roCells hr10 hc10) ?_
  refine WL.alloc (tyZero_spec zer_32) rfl rfl hS ?_
  clear hS; intro w12 b11 hb_b11 hS
  refine WL.store (cs := [.int .i64 x10.op, .int .i64 x10.a, .int .i64 x10.b, .int .u64 x10.k, .string x10.name, .slice ad10 x10.args.length cap10]) (c' := #[.int .i64 x10.op, .int .i64 x10.a, .int .i64 x10.b, .int .u64 x10.k, .string x10.name, .slice ad10 x10.args.length cap10]) (L' := [(b11, .cells #[.int .i64 x10.op, .int .i64 x10.a, .int .i64 x10.b, .int .u64 x10.k, .string x10.name, .slice ad10 x10.args.length cap10] 32 (0, 0)), (b5, .cells #[.slice adv (b.params.toNat + k) capv] 55 (0, 0)), (b1, .cells #[.int .i64 b.params, .slice adi b.ins.length capi, .int .i64 b.fin.kind, .int .i64 b.fin.a, .int .i64 b.fin.to, .slice adp b.fin.args.length capp, .int .i64 b.fin.els, .slice adq b.fin.elses.length capq] 29 (0, 0))]) 0 rfl rfl rfl rfl siz_32 rfl rfl rfl rfl rfl hS ?_
  clear hS; intro w13 hS
  refine WL.nil (N.seq (W.seq (W.region ?_)))
  refine WL.build (ps := []) (cs := [.int .u64 0, .bool false]) rfl rfl rfl (by kernel_rfl) ?_
  refine WL.alloc (tyZero_spec zer_59) rfl rfl hS ?_
  clear hS; intro w15 b14 hb_b14 hS
  refine WL.store (cs := [.int .u64 0, .bool false]) (c' := #[.int .u64 0, .bool false]) (L' := [(b14, .cells #[.int .u64 0, .bool false] 59 (0, 0)), (b11, .cells #[.int .i64 x10.op, .int .i64 x10.a, .int .i64 x10.b, .int .u64 x10.k, .string x10.name, .slice ad10 x10.args.length cap10] 32 (0, 0)), (b5, .cells #[.slice adv (b.params.toNat + k) capv] 55 (0, 0)), (b1, .cells #[.int .i64 b.params, .slice adi b.ins.length capi, .int .i64 b.fin.kind, .int .i64 b.fin.a, .int .i64 b.fin.to, .slice adp b.fin.args.length capp, .int .i64 b.fin.els, .slice adq b.fin.elses.length capq] 29 (0, 0))]) 0 rfl rfl rfl rfl siz_59 rfl rfl rfl rfl rfl hS ?_
  clear hS; intro w16 hS
  refine WL.nil (N.seq ?_)
  refine W.cut (α := (Int × Bool)) (fun (kx : Int × Bool) => [(0, .agg #[.int .i64 b.params, .slice adi b.ins.length capi, .int .i64 b.fin.kind, .int .i64 b.fin.a, .int .i64 b.fin.to, .slice adp b.fin.args.length capp, .int .i64 b.fin.els, .slice adq b.fin.elses.length capq]), (1, .pointer (some ⟨b1, 0, none⟩)), (2, .slice none 0 0), (3, .pointer (some ⟨b5, 0, none⟩)), (4, .func (.func 34) #[] #[.pointer (some ⟨b5, 0, none⟩)]), (6, .pointer (some ⟨b11, 0, none⟩)), (7, .pointer (some ⟨b14, 0, none⟩)), (10, .pointer (some ⟨b1, 0, none⟩)), (11, .int .i64 b.params), (12, .int .i64 (b.params.toNat : Int)), (13, .slice (some ⟨b3, 0, none⟩) b.params.toNat b.params.toNat), (14, .func (.func 34) #[] #[.pointer (some ⟨b5, 0, none⟩)]), (15, .pointer (some ⟨b1, 1, none⟩)), (16, .slice adi b.ins.length capi), (17, .int .i64 (b.ins.length : Int)), (18, .int .i64 (k : Int)), (19, .bool (decide ((k : Int) < (b.ins.length : Int)))), (20, .pointer (some ⟨b10, o10 + k * 6, none⟩)), (21, .agg #[.int .i64 x10.op, .int .i64 x10.a, .int .i64 x10.b, .int .u64 x10.k, .string x10.name, .slice ad10 x10.args.length cap10]), (22, .agg #[.int .u64 0, .bool false])]) (fun (kx : Int × Bool) u => St w w u ro [(b14, .cells #[.int .u64 kx.1, .bool kx.2] 59 (0, 0)), (b11, .cells #[.int .i64 x10.op, .int .i64 x10.a, .int .i64 x10.b, .int .u64 x10.k, .string x10.name, .slice ad10 x10.args.length cap10] 32 (0, 0)), (b5, .cells #[.slice adv (b.params.toNat + k) capv] 55 (0, 0)), (b1, .cells #[.int .i64 b.params, .slice adi b.ins.length capi, .int .i64 b.fin.kind, .int .i64 b.fin.a, .int .i64 b.fin.to, .slice adp b.fin.args.length capp, .int .i64 b.fin.els, .slice adq b.fin.elses.length capq] 29 (0, 0))] [⟨.slice adv (b.params.toNat + k) capv, 59, 2, b.params.toNat + k, ((valsF (vals0 b) (b.ins.take k)).map kc).flatten⟩] ∧ kx = stepK (valsF (vals0 b) (b.ins.take k)) x10) ?_ ?_
  ·
   refine W.seq ?_
   refine W.drawL (by kernel_rfl) 10 ((.q (.func (.func 34) #[] #[.pointer (some ⟨b5, 0, none⟩)])) :: (.q (.pointer (some ⟨b11, 1, none⟩))) :: (.q (.int .i64 x10.a)) :: (.q (.agg #[.int .u64 ((katG (valsF (vals0 b) (b.ins.take k)) x10.a).1), .bool ((katG (valsF (vals0 b) (b.ins.take k)) x10.a).2)])) :: (.q (.func (.func 34) #[] #[.pointer (some ⟨b5, 0, none⟩)])) :: (.q (.pointer (some ⟨b11, 2, none⟩))) :: (.q (.int .i64 x10.b)) :: (.q (.agg #[.int .u64 ((katG (valsF (vals0 b) (b.ins.take k)) x10.b).1), .bool ((katG (valsF (vals0 b) (b.ins.take k)) x10.b).2)])) :: (.a 59 [.int .u64 0, .bool false]) :: (.a 59 [.int .u64 0, .bool false]) :: []) (by kernel_rfl) (by kernel_rfl) [(0, .agg #[.int .i64 b.params, .slice adi b.ins.length capi, .int .i64 b.fin.kind, .int .i64 b.fin.a, .int .i64 b.fin.to, .slice adp b.fin.args.length capp, .int .i64 b.fin.els, .slice adq b.fin.elses.length capq]), (1, .pointer (some ⟨b1, 0, none⟩)), (2, .slice none 0 0), (3, .pointer (some ⟨b5, 0, none⟩)), (4, .func (.func 34) #[] #[.pointer (some ⟨b5, 0, none⟩)]), (6, .pointer (some ⟨b11, 0, none⟩)), (7, .pointer (some ⟨b14, 0, none⟩)), (10, .pointer (some ⟨b1, 0, none⟩)), (11, .int .i64 b.params), (12, .int .i64 (b.params.toNat : Int)), (13, .slice (some ⟨b3, 0, none⟩) b.params.toNat b.params.toNat), (14, .func (.func 34) #[] #[.pointer (some ⟨b5, 0, none⟩)]), (15, .pointer (some ⟨b1, 1, none⟩)), (16, .slice adi b.ins.length capi), (17, .int .i64 (b.ins.length : Int)), (18, .int .i64 (k : Int)), (19, .bool (decide ((k : Int) < (b.ins.length : Int)))), (20, .pointer (some ⟨b10, o10 + k * 6, none⟩)), (21, .agg #[.int .i64 x10.op, .int .i64 x10.a, .int .i64 x10.b, .int .u64 x10.k, .string x10.name, .slice ad10 x10.args.length cap10]), (22, .agg #[.int .u64 0, .bool false])] ⟨rfl, rfl, rfl, rfl, rfl, rfl, rfl, rfl, rfl, rfl, rfl, rfl, rfl, rfl, rfl, rfl, rfl, rfl, rfl, rfl, trivial⟩ (by kernel_rfl) hS ?_ ?_
   ·
    refine And.intro (fun β w hS => ?_) ?_
    ·
     refine WL.sub (σ' := [(4, .func (.func 34) #[] #[.pointer (some ⟨b5, 0, none⟩)])]) ⟨rfl, trivial⟩ ?_
     refine WL.move rfl rfl rfl ?_
     exact WL.nil (N.cut () ⟨rfl, trivial⟩ (Below.refl _ _))
    refine And.intro (fun β w hS => ?_) ?_
    ·
     refine WL.sub (σ' := [(6, .pointer (some ⟨b11, 0, none⟩))]) ⟨rfl, trivial⟩ ?_
     refine WL.fieldAddr fo_32_1 rfl rfl rfl ?_
     exact WL.nil (N.cut () ⟨rfl, trivial⟩ (Below.refl _ _))
    refine And.intro (fun β w hS => ?_) ?_
    ·
     refine WL.sub (σ' := [(24, .pointer (some ⟨b11, 1, none⟩))]) ⟨rfl, trivial⟩ ?_
     refine WL.load1 (v := .int .i64 x10.a) one_3 rfl rfl rfl (hS.cell 1 rfl rfl) ?_
     exact WL.nil (N.cut () ⟨rfl, trivial⟩ (Below.refl _ _))
    refine And.intro (fun β w hS => ?_) ?_
    ·
     refine WL.sub (σ' := [(23, .func (.func 34) #[] #[.pointer (some ⟨b5, 0, none⟩)]), (25, .int .i64 x10.a)]) ⟨rfl, rfl, trivial⟩ ?_
     have hel : Elems (fun x => x < w.heap.size) w 2 KnownC adv (valsF (vals0 b) (b.ins.take k)) := row_elems (hS.rows _ List.mem_cons_self) rfl (fun _ => rfl) (show 0 < 2 by decide) (fun x hx => ⟨rfl, hks x hx⟩) (fun x hx => ((hS.rows _ List.mem_cons_self).lt x hx).2)
     refine WL.callV (vs := [.int .i64 x10.a]) (cs := #[.pointer (some ⟨b5, 0, none⟩)]) Try.func34 (by kernel_rfl) rfl rfl rfl rfl (at_ret (x10.a) b5 adv capv _ (valsF (vals0 b) (b.ins.take k)) hkl.symm (ro := fun x => x < w.heap.size) (fun _ h => h) (hS.keys b5 (by simp [keysOf])).2.1 (hS.cells 2 (m := 1) rfl rfl) hel) ?_
     rintro v w19 ⟨rfl, hbl⟩
     replace hS := hS.grow hbl
     exact WL.nil (N.cut () ⟨rfl, trivial⟩ hbl)
    refine And.intro (fun β w hS => ?_) ?_
    ·
     refine WL.sub (σ' := [(4, .func (.func 34) #[] #[.pointer (some ⟨b5, 0, none⟩)])]) ⟨rfl, trivial⟩ ?_
     refine WL.move rfl rfl rfl ?_
     exact WL.nil (N.cut () ⟨rfl, trivial⟩ (Below.refl _ _))
    refine And.intro (fun β w hS => ?_) ?_
    ·
     refine WL.sub (σ' := [(6, .pointer (some ⟨b11, 0, none⟩))]) ⟨rfl, trivial⟩ ?_
     refine WL.fieldAddr fo_32_2 rfl rfl rfl ?_
     exact WL.nil (N.cut () ⟨rfl, trivial⟩ (Below.refl _ _))
    refine And.intro (fun β w hS => ?_) ?_
    ·
     refine WL.sub (σ' := [(28, .pointer (some ⟨b11, 2, none⟩))]) ⟨rfl, trivial⟩ ?_
     refine WL.load1 (v := .int .i64 x10.b) one_3 rfl rfl rfl (hS.cell 1 rfl rfl) ?_
     exact WL.nil (N.cut () ⟨rfl, trivial⟩ (Below.refl _ _))
    refine And.intro (fun β w hS => ?_) ?_
    ·
     refine WL.sub (σ' := [(27, .func (.func 34) #[] #[.pointer (some ⟨b5, 0, none⟩)]), (29, .int .i64 x10.b)]) ⟨rfl, rfl, trivial⟩ ?_
     have hel : Elems (fun x => x < w.heap.size) w 2 KnownC adv (valsF (vals0 b) (b.ins.take k)) := row_elems (hS.rows _ List.mem_cons_self) rfl (fun _ => rfl) (show 0 < 2 by decide) (fun x hx => ⟨rfl, hks x hx⟩) (fun x hx => ((hS.rows _ List.mem_cons_self).lt x hx).2)
     refine WL.callV (vs := [.int .i64 x10.b]) (cs := #[.pointer (some ⟨b5, 0, none⟩)]) Try.func34 (by kernel_rfl) rfl rfl rfl rfl (at_ret (x10.b) b5 adv capv _ (valsF (vals0 b) (b.ins.take k)) hkl.symm (ro := fun x => x < w.heap.size) (fun _ h => h) (hS.keys b5 (by simp [keysOf])).2.1 (hS.cells 2 (m := 1) rfl rfl) hel) ?_
     rintro v w20 ⟨rfl, hbl⟩
     replace hS := hS.grow hbl
     exact WL.nil (N.cut () ⟨rfl, trivial⟩ hbl)
    refine And.intro ⟨rfl, rfl, tyZero_spec zer_59⟩ ?_
    refine And.intro ⟨rfl, rfl, tyZero_spec zer_59⟩ ?_
    trivial
   clear hS; intro w21 β hS
   obtain ⟨b22, hb22⟩ : ∃ x, β 8 = x := ⟨_, rfl⟩
   obtain ⟨b23, hb23⟩ : ∃ x, β 9 = x := ⟨_, rfl⟩
   replace hS : St w w w21 ro [(b22, .cells #[.int .u64 0, .bool false] 59 (0, 0)), (b23, .cells #[.int .u64 0, .bool false] 59 (0, 0)), (b14, .cells #[.int .u64 0, .bool false] 59 (0, 0)), (b11, .cells #[.int .i64 x10.op, .int .i64 x10.a, .int .i64 x10.b, .int .u64 x10.k, .string x10.name, .slice ad10 x10.args.length cap10] 32 (0, 0)), (b5, .cells #[.slice adv (b.params.toNat + k) capv] 55 (0, 0)), (b1, .cells #[.int .i64 b.params, .slice adi b.ins.length capi, .int .i64 b.fin.kind, .int .i64 b.fin.a, .int .i64 b.fin.to, .slice adp b.fin.args.length capp, .int .i64 b.fin.els, .slice adq b.fin.elses.length capq] 29 (0, 0))] [⟨.slice adv (b.params.toNat + k) capv, 59, 2, b.params.toNat + k, ((valsF (vals0 b) (b.ins.take k)).map kc).flatten⟩] := by rw [← hb22, ← hb23]; exact hS
   refine WL.sub (σ' := [(0, .agg #[.int .i64 b.params, .slice adi b.ins.length capi, .int .i64 b.fin.kind, .int .i64 b.fin.a, .int .i64 b.fin.to, .slice adp b.fin.args.length capp, .int .i64 b.fin.els, .slice adq b.fin.elses.length capq]), (1, .pointer (some ⟨b1, 0, none⟩)), (2, .slice none 0 0), (3, .pointer (some ⟨b5, 0, none⟩)), (4, .func (.func 34) #[] #[.pointer (some ⟨b5, 0, none⟩)]), (6, .pointer (some ⟨b11, 0, none⟩)), (7, .pointer (some ⟨b14, 0, none⟩)), (8, .pointer (some ⟨b22, 0, none⟩)), (9, .pointer (some ⟨b23, 0, none⟩)), (10, .pointer (some ⟨b1, 0, none⟩)), (11, .int .i64 b.params), (12, .int .i64 (b.params.toNat : Int)), (13, .slice (some ⟨b3, 0, none⟩) b.params.toNat b.params.toNat), (14, .func (.func 34) #[] #[.pointer (some ⟨b5, 0, none⟩)]), (15, .pointer (some ⟨b1, 1, none⟩)), (16, .slice adi b.ins.length capi), (17, .int .i64 (b.ins.length : Int)), (18, .int .i64 (k : Int)), (19, .bool (decide ((k : Int) < (b.ins.length : Int)))), (20, .pointer (some ⟨b10, o10 + k * 6, none⟩)), (21, .agg #[.int .i64 x10.op, .int .i64 x10.a, .int .i64 x10.b, .int .u64 x10.k, .string x10.name, .slice ad10 x10.args.length cap10]), (22, .agg #[.int .u64 0, .bool false]), (23, .func (.func 34) #[] #[.pointer (some ⟨b5, 0, none⟩)]), (24, .pointer (some ⟨b11, 1, none⟩)), (25, .int .i64 x10.a), (26, .agg #[.int .u64 ((katG (valsF (vals0 b) (b.ins.take k)) x10.a).1), .bool ((katG (valsF (vals0 b) (b.ins.take k)) x10.a).2)]), (27, .func (.func 34) #[] #[.pointer (some ⟨b5, 0, none⟩)]), (28, .pointer (some ⟨b11, 2, none⟩)), (29, .int .i64 x10.b), (30, .agg #[.int .u64 ((katG (valsF (vals0 b) (b.ins.take k)) x10.b).1), .bool ((katG (valsF (vals0 b) (b.ins.take k)) x10.b).2)])]) ⟨rfl, rfl, rfl, rfl, rfl, rfl, rfl, by rw [← hb22]; rfl, by rw [← hb23]; rfl, rfl, rfl, rfl, rfl, rfl, rfl, rfl, rfl, rfl, rfl, rfl, rfl, rfl, rfl, rfl, rfl, rfl, rfl, rfl, rfl, rfl, trivial⟩ ?_
   refine WL.store (cs := [.int .u64 ((katG (valsF (vals0 b) (b.ins.take k)) x10.a).1), .bool ((katG (valsF (vals0 b) (b.ins.take k)) x10.a).2)]) (c' := #[.int .u64 ((katG (valsF (vals0 b) (b.ins.take k)) x10.a).1), .bool ((katG (valsF (vals0 b) (b.ins.take k)) x10.a).2)]) (L' := [(b22, .cells #[.int .u64 ((katG (valsF (vals0 b) (b.ins.take k)) x10.a).1), .bool ((katG (valsF (vals0 b) (b.ins.take k)) x10.a).2)] 59 (0, 0)), (b23, .cells #[.int .u64 0, .bool false] 59 (0, 0)), (b14, .cells #[.int .u64 0, .bool false] 59 (0, 0)), (b11, .cells #[.int .i64 x10.op, .int .i64 x10.a, .int .i64 x10.b, .int .u64 x10.k, .string x10.name, .slice ad10 x10.args.length cap10] 32 (0, 0)), (b5, .cells #[.slice adv (b.params.toNat + k) capv] 55 (0, 0)), (b1, .cells #[.int .i64 b.params, .slice adi b.ins.length capi, .int .i64 b.fin.kind, .int .i64 b.fin.a, .int .i64 b.fin.to, .slice adp b.fin.args.length capp, .int .i64 b.fin.els, .slice adq b.fin.elses.length capq] 29 (0, 0))]) 0 rfl rfl rfl rfl siz_59 rfl rfl rfl rfl rfl hS ?_
   clear hS; intro w24 hS
   refine WL.store (cs := [.int .u64 ((katG (valsF (vals0 b) (b.ins.take k)) x10.b).1), .bool ((katG (valsF (vals0 b) (b.ins.take k)) x10.b).2)]) (c' := #[.int .u64 ((katG (valsF (vals0 b) (b.ins.take k)) x10.b).1), .bool ((katG (valsF (vals0 b) (b.ins.take k)) x10.b).2)]) (L' := [(b22, .cells #[.int .u64 ((katG (valsF (vals0 b) (b.ins.take k)) x10.a).1), .bool ((katG (valsF (vals0 b) (b.ins.take k)) x10.a).2)] 59 (0, 0)), (b23, .cells #[.int .u64 ((katG (valsF (vals0 b) (b.ins.take k)) x10.b).1), .bool ((katG (valsF (vals0 b) (b.ins.take k)) x10.b).2)] 59 (0, 0)), (b14, .cells #[.int .u64 0, .bool false] 59 (0, 0)), (b11, .cells #[.int .i64 x10.op, .int .i64 x10.a, .int .i64 x10.b, .int .u64 x10.k, .string x10.name, .slice ad10 x10.args.length cap10] 32 (0, 0)), (b5, .cells #[.slice adv (b.params.toNat + k) capv] 55 (0, 0)), (b1, .cells #[.int .i64 b.params, .slice adi b.ins.length capi, .int .i64 b.fin.kind, .int .i64 b.fin.a, .int .i64 b.fin.to, .slice adp b.fin.args.length capp, .int .i64 b.fin.els, .slice adq b.fin.elses.length capq] 29 (0, 0))]) 1 rfl rfl rfl rfl siz_59 rfl rfl rfl rfl rfl hS ?_
   clear hS; intro w25 hS
   refine WL.nil (N.seq (W.block (W.seq (W.region ?_))))
   refine WL.fieldAddr fo_32_0 rfl rfl rfl ?_
   refine WL.load1 (v := .int .i64 x10.op) one_3 rfl rfl rfl (hS.cell 3 rfl rfl) ?_
   refine WL.bin rfl rfl rfl rfl rfl (WL.assign rfl rfl rfl (WL.nil (N.seq ?_)))
   refine W.cond rfl (fun hc26 => ?_) (fun hc26 => ?_)
   ·
    have hc26p : x10.op = 1 := by simpa using hc26
    refine W.region ?_
    refine WL.fieldAddr fo_32_3 rfl rfl rfl ?_
    refine WL.load1 (v := .int .u64 x10.k) one_22 rfl rfl rfl (hS.cell 3 rfl rfl) ?_
    refine WL.build (ps := [(0, .int .u64 x10.k), (1, .bool true)]) (cs := [.int .u64 x10.k, .bool true]) rfl rfl rfl (by kernel_rfl) ?_
    refine WL.store (cs := [.int .u64 x10.k, .bool true]) (c' := #[.int .u64 x10.k, .bool true]) (L' := [(b22, .cells #[.int .u64 ((katG (valsF (vals0 b) (b.ins.take k)) x10.a).1), .bool ((katG (valsF (vals0 b) (b.ins.take k)) x10.a).2)] 59 (0, 0)), (b23, .cells #[.int .u64 ((katG (valsF (vals0 b) (b.ins.take k)) x10.b).1), .bool ((katG (valsF (vals0 b) (b.ins.take k)) x10.b).2)] 59 (0, 0)), (b14, .cells #[.int .u64 x10.k, .bool true] 59 (0, 0)), (b11, .cells #[.int .i64 x10.op, .int .i64 x10.a, .int .i64 x10.b, .int .u64 x10.k, .string x10.name, .slice ad10 x10.args.length cap10] 32 (0, 0)), (b5, .cells #[.slice adv (b.params.toNat + k) capv] 55 (0, 0)), (b1, .cells #[.int .i64 b.params, .slice adi b.ins.length capi, .int .i64 b.fin.kind, .int .i64 b.fin.a, .int .i64 b.fin.to, .slice adp b.fin.args.length capp, .int .i64 b.fin.els, .slice adq b.fin.elses.length capq] 29 (0, 0))]) 2 rfl rfl rfl rfl siz_59 rfl rfl rfl rfl rfl hS ?_
    clear hS; intro w27 hS
    refine WL.nil (N.blk ?_)
    have hS := hS.dropN 2
    have hkx : (x10.k, true) = stepK (valsF (vals0 b) (b.ins.take k)) x10 := by simp [stepK, hc9p, hc26p]
    exact N.cut (x10.k, true) ⟨rfl, rfl, rfl, rfl, rfl, rfl, rfl, rfl, rfl, rfl, rfl, rfl, rfl, rfl, rfl, rfl, rfl, rfl, rfl, rfl, trivial⟩ ⟨hS, hkx⟩
   have hc26p : ¬ (x10.op = 1) := by simpa using hc26
   refine W.seq (W.region ?_)
   refine WL.fieldAddr fo_32_0 rfl rfl rfl ?_
   refine WL.load1 (v := .int .i64 x10.op) one_3 rfl rfl rfl (hS.cell 3 rfl rfl) ?_
   refine WL.callF (vs := [.int .i64 x10.op]) Try.func35 (by kernel_rfl) rfl rfl rfl (two_ret (x10.op) (ro := ro) (fun b hb => (hS.snap b hb).1)) ?_
   rintro v w28 ⟨rfl, hbl⟩
   replace hS := hS.grow hbl
   refine WL.move rfl rfl rfl ?_
   cases hg29 : (decide (2 ≤ x10.op) && decide (x10.op ≤ 11))
   ·
    have hg29p : ¬ ((2 ≤ x10.op) && decide (x10.op ≤ 11)) := by simpa using hg29
    refine WL.skp rfl rfl (WL.skp rfl rfl (WL.pick (v := .bool false) rfl rfl rfl rfl rfl rfl (WL.move rfl rfl rfl (WL.skp rfl rfl (WL.skp rfl rfl (WL.pick (v := .bool false) rfl rfl rfl rfl rfl rfl (WL.assign rfl rfl rfl (WL.nil (N.seq ?_)))))))))
    refine W.condF rfl (W.skip (N.blk ?_))
    have hS := hS.dropN 2
    have hkx : (0, false) = stepK (valsF (vals0 b) (b.ins.take k)) x10 := by simp [stepK, hc9p, hc26p, hg29p]
    exact N.cut (0, false) ⟨rfl, rfl, rfl, rfl, rfl, rfl, rfl, rfl, rfl, rfl, rfl, rfl, rfl, rfl, rfl, rfl, rfl, rfl, rfl, rfl, trivial⟩ ⟨hS, hkx⟩
   have hg29p : (2 ≤ x10.op) && decide (x10.op ≤ 11) := by simpa using hg29
   refine WL.fieldAddr fo_59_1 rfl rfl rfl ?_
   refine WL.load1 (v := .bool ((katG (valsF (vals0 b) (b.ins.take k)) x10.a).2)) one_4 rfl rfl rfl (hS.cell 0 rfl rfl) ?_
   refine WL.pick (v := .bool ((katG (valsF (vals0 b) (b.ins.take k)) x10.a).2)) rfl rfl rfl rfl rfl rfl ?_
   refine WL.move rfl rfl rfl ?_
   cases hg30 : ((katG (valsF (vals0 b) (b.ins.take k)) x10.a).2)
   ·
    refine WL.skp rfl rfl (WL.skp rfl rfl (WL.pick (v := .bool false) rfl rfl rfl rfl rfl rfl (WL.assign rfl rfl rfl (WL.nil (N.seq (W.condF rfl (W.skip (N.blk ?_))))))))
    have hS := hS.dropN 2
    have hkx : (0, false) = stepK (valsF (vals0 b) (b.ins.take k)) x10 := by simp [stepK, hc9p, hc26p, hg29p, hg30]
    exact N.cut (0, false) ⟨rfl, rfl, rfl, rfl, rfl, rfl, rfl, rfl, rfl, rfl, rfl, rfl, rfl, rfl, rfl, rfl, rfl, rfl, rfl, rfl, trivial⟩ ⟨hS, hkx⟩
   refine WL.fieldAddr fo_59_1 rfl rfl rfl ?_
   refine WL.load1 (v := .bool ((katG (valsF (vals0 b) (b.ins.take k)) x10.b).2)) one_4 rfl rfl rfl (hS.cell 1 rfl rfl) ?_
   refine WL.pick (v := .bool ((katG (valsF (vals0 b) (b.ins.take k)) x10.b).2)) rfl rfl rfl rfl rfl rfl ?_
   refine WL.assign rfl rfl rfl (WL.nil (N.seq ?_))
   refine W.cond rfl (fun hc31 => ?_) (fun hc31 => ?_)
   ·
    refine W.region ?_
    refine WL.fieldAddr fo_32_0 rfl rfl rfl ?_
    refine WL.load1 (v := .int .i64 x10.op) one_3 rfl rfl rfl (hS.cell 3 rfl rfl) ?_
    refine WL.fieldAddr fo_59_0 rfl rfl rfl ?_
    refine WL.load1 (v := .int .u64 ((katG (valsF (vals0 b) (b.ins.take k)) x10.a).1)) one_22 rfl rfl rfl (hS.cell 0 rfl rfl) ?_
    refine WL.fieldAddr fo_59_0 rfl rfl rfl ?_
    refine WL.load1 (v := .int .u64 ((katG (valsF (vals0 b) (b.ins.take k)) x10.b).1)) one_22 rfl rfl rfl (hS.cell 1 rfl rfl) ?_
    refine WL.callF (vs := [.int .i64 x10.op, .int .u64 ((katG (valsF (vals0 b) (b.ins.take k)) x10.a).1), .int .u64 ((katG (valsF (vals0 b) (b.ins.take k)) x10.b).1)]) Try.func36 (by kernel_rfl) rfl rfl rfl (reckon_ret (x10.op) ((katG (valsF (vals0 b) (b.ins.take k)) x10.a).1) ((katG (valsF (vals0 b) (b.ins.take k)) x10.b).1) (katG_inU hks _).1 (ro := ro) (fun b hb => (hS.snap b hb).1)) ?_
    rintro v w32 ⟨rfl, hbl⟩
    replace hS := hS.grow hbl
    refine WL.build (ps := [(0, .int .u64 (reckI x10.op ((katG (valsF (vals0 b) (b.ins.take k)) x10.a).1) ((katG (valsF (vals0 b) (b.ins.take k)) x10.b).1))), (1, .bool true)]) (cs := [.int .u64 (reckI x10.op ((katG (valsF (vals0 b) (b.ins.take k)) x10.a).1) ((katG (valsF (vals0 b) (b.ins.take k)) x10.b).1)), .bool true]) rfl rfl rfl (by kernel_rfl) ?_
    refine WL.store (cs := [.int .u64 (reckI x10.op ((katG (valsF (vals0 b) (b.ins.take k)) x10.a).1) ((katG (valsF (vals0 b) (b.ins.take k)) x10.b).1)), .bool true]) (c' := #[.int .u64 (reckI x10.op ((katG (valsF (vals0 b) (b.ins.take k)) x10.a).1) ((katG (valsF (vals0 b) (b.ins.take k)) x10.b).1)), .bool true]) (L' := [(b22, .cells #[.int .u64 ((katG (valsF (vals0 b) (b.ins.take k)) x10.a).1), .bool ((katG (valsF (vals0 b) (b.ins.take k)) x10.a).2)] 59 (0, 0)), (b23, .cells #[.int .u64 ((katG (valsF (vals0 b) (b.ins.take k)) x10.b).1), .bool ((katG (valsF (vals0 b) (b.ins.take k)) x10.b).2)] 59 (0, 0)), (b14, .cells #[.int .u64 (reckI x10.op ((katG (valsF (vals0 b) (b.ins.take k)) x10.a).1) ((katG (valsF (vals0 b) (b.ins.take k)) x10.b).1)), .bool true] 59 (0, 0)), (b11, .cells #[.int .i64 x10.op, .int .i64 x10.a, .int .i64 x10.b, .int .u64 x10.k, .string x10.name, .slice ad10 x10.args.length cap10] 32 (0, 0)), (b5, .cells #[.slice adv (b.params.toNat + k) capv] 55 (0, 0)), (b1, .cells #[.int .i64 b.params, .slice adi b.ins.length capi, .int .i64 b.fin.kind, .int .i64 b.fin.a, .int .i64 b.fin.to, .slice adp b.fin.args.length capp, .int .i64 b.fin.els, .slice adq b.fin.elses.length capq] 29 (0, 0))]) 2 rfl rfl rfl rfl siz_59 rfl rfl rfl rfl rfl hS ?_
    clear hS; intro w33 hS
    refine WL.nil (N.blk ?_)
    have hS := hS.dropN 2
    have hkx : (reckI x10.op ((katG (valsF (vals0 b) (b.ins.take k)) x10.a).1) ((katG (valsF (vals0 b) (b.ins.take k)) x10.b).1), true) = stepK (valsF (vals0 b) (b.ins.take k)) x10 := by simp [stepK, hc9p, hc26p, hg29p, hg30, hc31]
    exact N.cut (reckI x10.op ((katG (valsF (vals0 b) (b.ins.take k)) x10.a).1) ((katG (valsF (vals0 b) (b.ins.take k)) x10.b).1), true) ⟨rfl, rfl, rfl, rfl, rfl, rfl, rfl, rfl, rfl, rfl, rfl, rfl, rfl, rfl, rfl, rfl, rfl, rfl, rfl, rfl, trivial⟩ ⟨hS, hkx⟩
   refine W.skip (N.blk ?_)
   have hS := hS.dropN 2
   have hkx : (0, false) = stepK (valsF (vals0 b) (b.ins.take k)) x10 := by simp [stepK, hc9p, hc26p, hg29p, hg30, hc31]
   exact N.cut (0, false) ⟨rfl, rfl, rfl, rfl, rfl, rfl, rfl, rfl, rfl, rfl, rfl, rfl, rfl, rfl, rfl, rfl, rfl, rfl, rfl, rfl, trivial⟩ ⟨hS, hkx⟩
  clear hS
  rintro kx w34 ⟨hS, hkx⟩
  refine W.region ?_
  refine WL.load1 (v := .slice adv (b.params.toNat + k) capv) one_55 rfl rfl rfl (hS.cell 2 rfl rfl) ?_
  refine WL.loadN (cs := [.int .u64 kx.1, .bool kx.2]) agg_59 rfl rfl rfl rfl (hS.cells 0 (m := 2) rfl rfl) ?_
  refine WL.buildSlice (ps := [(0, .agg #[.int .u64 kx.1, .bool kx.2])]) (cs := [.int .u64 kx.1, .bool kx.2]) Try.underlying55 (tyZero_spec zer_59) rfl rfl rfl rfl (by kernel_rfl) hS ?_
  clear hS; intro w36 b35 hb_b35 hS
  refine WL.append (r := ⟨.slice adv (b.params.toNat + k) capv, 59, 2, b.params.toNat + k, ((valsF (vals0 b) (b.ins.take k)).map kc).flatten⟩) (cs := [.int .u64 kx.1, .bool kx.2]) 16 Try.underlying55 (tyZero_spec zer_59) byt_59 rfl rfl rfl rfl rfl rfl rfl rfl rfl hS (by unfold maxLen; simp only; omega) (by simp only; omega) ?_
  clear hS; intro w37 v38 hn_v38 hS
  have hrow : w37.ownsRow w.heap.size 59 2 v38 (b.params.toNat + k + 1) _ := hS.rows _ List.mem_cons_self
  obtain ⟨av38, cv38, rfl, hc1_v38, hc2_v38, hc3_v38⟩ := row_shape hrow
  clear hrow
  refine WL.store (cs := [.slice av38 (b.params.toNat + k + 1) cv38]) (c' := #[.slice av38 (b.params.toNat + k + 1) cv38]) (L' := [(b14, .cells #[.int .u64 kx.1, .bool kx.2] 59 (0, 0)), (b11, .cells #[.int .i64 x10.op, .int .i64 x10.a, .int .i64 x10.b, .int .u64 x10.k, .string x10.name, .slice ad10 x10.args.length cap10] 32 (0, 0)), (b5, .cells #[.slice av38 (b.params.toNat + k + 1) cv38] 55 (0, 0)), (b1, .cells #[.int .i64 b.params, .slice adi b.ins.length capi, .int .i64 b.fin.kind, .int .i64 b.fin.a, .int .i64 b.fin.to, .slice adp b.fin.args.length capp, .int .i64 b.fin.els, .slice adq b.fin.elses.length capq] 29 (0, 0))]) 2 rfl rfl rfl rfl siz_55 rfl rfl rfl rfl rfl hS ?_
  clear hS; intro w39 hS
  refine WL.nil (N.blk (N.seq (W.region ?_)))
  refine WL.add (c := (k : Int) + 1) rfl rfl rfl rfl (rfl) (by omega) ?_
  refine WL.move rfl rfl rfl (WL.nil ?_)
  have hS := hS.dropN 2
  have hSx := hS
  rw [show (((valsF (vals0 b) (b.ins.take k)).map kc).flatten ++ [Value.int .u64 kx.1, Value.bool kx.2]) = ((valsF (vals0 b) (b.ins.take (k + 1))).map kc).flatten by rw [take_next hx10, valsF_snoc, ← hkx]; simp [kc]] at hSx
  exact N.loop (k + 1, .slice av38 (b.params.toNat + k + 1) cv38) ⟨rfl, rfl, rfl, rfl, rfl, rfl, rfl, rfl, rfl, rfl, rfl, rfl, rfl, rfl, trivial⟩ ⟨hSx, by omega⟩ (by simp only; omega)
 have hc9p : ¬ ((k : Int) < (b.ins.length : Int)) := by simpa using hc9
 refine W.exit (X.seq (X.loop (X.blk (N.seq (W.seq (W.region ?_))))))
 refine WL.load1 (v := .slice adv (b.params.toNat + k) capv) one_55 rfl rfl rfl (hS.cell 0 rfl rfl) ?_
 refine WL.assign rfl rfl rfl (WL.nil (N.seq ?_))
 refine Fin.ret1 rfl (v := .slice adv (b.params.toNat + k) capv) rfl ?_
 have hk2 : k = b.ins.length := by omega
 subst hk2
 rw [List.take_length] at *
 refine ⟨rowSl (hS.rows _ List.mem_cons_self) rfl (fun _ => rfl) (show 0 < 2 by decide) hkl.symm (fun x hx => ⟨rfl, hks x hx⟩) (fun x hx => ?_), hS.below⟩
 have := hS.keys x (by simp only [keysOf, List.mem_append, List.mem_filterMap]; exact .inr ⟨_, List.mem_cons_self, hx⟩)
 exact ⟨this.1, this.2.1⟩

theorem cloneInst_ret {α : Type} {Q : List Value → α → Prop} (ad : Option Addr) (cap : Nat) (xs : List α) {w : World} {ro : Nat → Prop} (hro : ∀ b, ro b → b < w.heap.size) (hel : Elems ro w 6 Q ad xs) (hcap : xs.length ≤ cap) (hnil : ad = none → cap = 0) (hone : ∀ c x, Q c x → ∀ u ∈ c, u.oneCell' = true) (hmx : xs.length ≤ maxLen) (hby : xs.length * 72 ≤ 140737488355328) : Ret Try.prog 20 #[.slice ad xs.length cap] w fun v w' => ∃ cs, w'.ownsRow w.heap.size 32 6 v xs.length cs ∧ Chunks 6 Q cs xs ∧ Below w.heap.size w w' := by
 refine Ret.enter (P := Try.prog) (n := 8) (args := [.slice ad xs.length cap]) (σ := [(0, .slice ad xs.length cap)]) Try.func20 rfl rfl rfl rfl ?_
 have hS := St.start (ro := ro) hro
 obtain ⟨news, hch, hnw, hsp⟩ := elems_news hel
 refine W.seq (W.region (WL.assign rfl rfl rfl (WL.nil (N.seq (W.seq (W.seq (W.region (WL.move rfl rfl rfl ?_))))))))
 refine WL.eqNil Try.underlying24 rfl rfl rfl rfl ?_
 refine WL.nil (N.seq ?_)
 refine W.cond rfl (fun hc1 => ?_) (fun hc1 => ?_)
 ·
  refine W.seq (W.region (WL.assign rfl rfl rfl (WL.nil (N.seq ?_))))
  refine Fin.ret1 rfl (v := .slice none 0 0) rfl ?_
  have hx0 : xs = [] := by
    cases ad with
    | none => exact List.eq_nil_of_length_eq_zero (by have := hnil rfl; omega)
    | some a => simp at hc1
  subst hx0
  exact ⟨[], World.ownsRow_nil _ _ _ _, Chunks.nil, hS.below⟩
 refine W.skip (N.seq (W.seq (W.region ?_)))
 refine WL.buildSlice0 Try.underlying24 isz_32 rfl rfl hS ?_
 clear hS; intro w3 b2 hS
 refine WL.move rfl rfl rfl ?_
 refine WL.appendRo (r := ⟨.slice (some ⟨b2, 0, none⟩) 0 0, 32, 6, 0, []⟩) (news := news) 72 Try.underlying24 (tyZero_spec zer_32) byt_32 rfl rfl rfl rfl rfl hch.1 (fun e => ⟨by have := hnil e; omega, hnil e⟩) ?_ hsp (chunks_all hch (by decide) hone) rfl rfl hS (by simp only; omega) (by simp only; omega) ?_
 ·
  intro b off e
  by_cases hn0 : news = []
  ·
   subst hn0; intro j v hj; simp at hj
  exact hS.roCells ((hnw b off e).2 hn0) (hnw b off e).1
 clear hS; intro w4 v5 hS hnn
 refine WL.assign rfl rfl rfl (WL.nil (N.seq ?_))
 refine Fin.ret1 rfl (v := v5) rfl ?_
 refine ⟨news, ?_, hch, hS.below⟩
 have := hS.rows _ List.mem_cons_self
 simpa using this

end Go.Proofs.Ytokkiaokpfediaa
