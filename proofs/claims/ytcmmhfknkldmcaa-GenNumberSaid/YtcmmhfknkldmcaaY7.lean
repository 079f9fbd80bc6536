/-
  Contracts of the document's machine, for the instructions of a number. No condition beyond those that each theorem states.
-/
import Derived.Test.YtcmmhfknkldmcaaY6
namespace Go.Proofs.Ytcmmhfknkldmcaa
open Go.RowKit
theorem byt_56 : (Try.prog.info? 56).map (·.bytes) = some 32 := by kernel_rfl
theorem zer_56 : tyZero Try.prog 56 = some [.int .u64 0, .int .i64 0, .string ⟨#[]⟩] := by kernel_rfl
set_option maxRecDepth 10000 in
set_option maxHeartbeats 4000000 in
theorem map_ret {w : World} {ro : Nat → Prop} (hro : ∀ b, ro b → b < w.heap.size) : Ret Try.prog 8 #[.slice none 0 0, .int .u64 0, .int .i64 1, .int .i64 1] w fun v w' => ∃ x, v = .tuple #[x, .int .i64 0] ∧ SlV (fun b => w.heap.size ≤ b ∧ b < w'.heap.size) w' 3 PgC x [zeroD] ∧ Below w.heap.size w w' := by
 refine Ret.enter (P := Try.prog) (n := 129) (args := [.slice none 0 0, .int .u64 0, .int .i64 1, .int .i64 1]) (σ := [(0, .slice none 0 0), (1, .int .u64 0), (2, .int .i64 1), (3, .int .i64 1)]) Try.func8 rfl rfl rfl rfl ?_
 have hS := St.start (ro := ro) hro
 refine W.seq (W.region (WL.assign rfl rfl rfl (WL.assign rfl rfl rfl (WL.nil (N.seq (W.seq (W.region (WL.move rfl rfl rfl ?_))))))))
 refine WL.callF (vs := [.slice none 0 0]) Try.func18 (by kernel_rfl) rfl rfl rfl (right0_ret (ro := ro) (fun b hb => (hS.snap b hb).1)) ?_
 rintro v w1 ⟨rfl, hbl⟩
 replace hS := hS.grow hbl
 refine WL.assign rfl rfl rfl (WL.nil (N.seq (W.seq (W.seq (W.region (WL.move rfl rfl rfl (WL.not rfl rfl rfl ?_)))))))
 refine WL.set 19 (v' := .bool false) rfl rfl ?_
 refine WL.move rfl rfl rfl (WL.move rfl rfl rfl ?_)
 refine WL.remC rfl rfl rfl rfl (by decide) ?_
 refine WL.set 22 (v' := .int .u64 0) rfl (rfl) ?_
 refine WL.bin rfl rfl rfl rfl rfl ?_
 refine WL.set 23 (v' := .bool false) rfl rfl ?_
 refine WL.pick (v := .bool false) rfl rfl rfl rfl rfl rfl (WL.move rfl rfl rfl (WL.move rfl rfl rfl (WL.bin rfl rfl rfl rfl rfl ?_)))
 refine WL.set 27 (v' := .bool false) rfl rfl ?_
 refine WL.pick (v := .bool false) rfl rfl rfl rfl rfl rfl (WL.move rfl rfl rfl (WL.move rfl rfl rfl (WL.bin rfl rfl rfl rfl rfl ?_)))
 refine WL.set 31 (v' := .bool false) rfl rfl ?_
 refine WL.pick (v := .bool false) rfl rfl rfl rfl rfl rfl (WL.move rfl rfl rfl (WL.move rfl rfl rfl (WL.bin rfl rfl rfl rfl rfl ?_)))
 refine WL.set 35 (v' := .bool false) rfl rfl ?_
 refine WL.pick (v := .bool false) rfl rfl rfl rfl rfl rfl (WL.move rfl rfl rfl (WL.move rfl rfl rfl (WL.bin rfl rfl rfl rfl rfl ?_)))
 refine WL.set 39 (v' := .bool false) rfl rfl ?_
 refine WL.pick (v := .bool false) rfl rfl rfl rfl rfl rfl (WL.nil (N.seq (W.condF rfl (W.skip (N.seq (W.seq (W.seq (W.region (WL.move rfl rfl rfl ?_)))))))))
 refine WL.quoC rfl rfl rfl rfl (by decide) ?_
 refine WL.set 43 (v' := .int .u64 ((0 : Nat) : Int)) rfl (congrArg _ (wrapN64 (rfl) (by omega))) ?_
 refine WL.move rfl rfl rfl ?_
 refine WL.convInt (by rw [Try.underlying3]; rfl) Try.underlying22 rfl rfl rfl ?_
 refine WL.set 45 (v' := .int .u64 ((1 : Nat) : Int)) rfl (congrArg _ (wrapN64 (by omega) (by omega))) ?_
 refine WL.bin rfl rfl rfl rfl rfl ?_
 refine WL.set 46 (v' := .int .u64 ((1 : Nat) : Int)) rfl (congrArg _ (wrapN64 (by omega) (by omega))) ?_
 refine WL.bin rfl rfl rfl rfl rfl ?_
 refine WL.set 47 (v' := .bool false) rfl (congrArg Value.bool (show (decide (72057594037927936 < ((1 : Nat) : Int))) = false from decide_eq_false (show ¬ (72057594037927936 < ((1 : Nat) : Int)) from by omega))) ?_
 refine WL.nil (N.seq (W.condF rfl (W.skip (N.seq (W.seq (W.seq (W.region (WL.assign rfl rfl rfl (WL.nil ?_)))))))))
 refine N.seq (W.block ?_)
 refine W.loop (α := Nat) (fun (i : Nat) => [(0, .slice none 0 0), (1, .int .u64 0), (2, .int .i64 1), (3, .int .i64 1), (11, .int .i64 (i : Int))]) (fun (i : Nat) u => St w w u ro [] [] ∧ i ≤ 1) (fun (i : Nat) => 1 - i) 0 ⟨rfl, rfl, rfl, rfl, rfl, trivial⟩ ⟨hS, Nat.zero_le _⟩ ?_
 clear hS
 rintro i w2 ⟨hS, hi⟩
 refine W.seq (W.seq (W.region (WL.move rfl rfl rfl (WL.move rfl rfl rfl (WL.bin rfl rfl rfl rfl rfl (WL.nil (N.seq ?_)))))))
 refine W.cond rfl (fun hc3 => ?_) (fun hc3 => ?_)
 ·
  have hc3p : (i : Int) < 1 := by simpa using hc3
  refine W.skip (N.seq (W.seq (W.block (W.seq (W.region (WL.move rfl rfl rfl (WL.move rfl rfl rfl (WL.move rfl rfl rfl ?_))))))))
  refine WL.convInt (by rw [Try.underlying3]; rfl) Try.underlying22 rfl rfl rfl ?_
  refine WL.set 57 (v' := .int .u64 ((i : Nat) : Int)) rfl (congrArg _ (wrapN64 (by omega) (by omega))) ?_
  refine WL.bin rfl rfl rfl rfl rfl ?_
  refine WL.set 58 (v' := .int .u64 ((256 * i : Nat) : Int)) rfl (congrArg _ (wrapN64 (by omega) (by omega))) ?_
  refine WL.bin rfl rfl rfl rfl rfl ?_
  refine WL.set 59 (v' := .int .u64 ((256 * i : Nat) : Int)) rfl (congrArg _ (wrapN64 (by omega) (by omega))) ?_
  refine WL.callF (vs := [.slice none 0 0, .int .u64 ((256 * i : Nat) : Int)]) Try.func19 (by kernel_rfl) rfl rfl rfl (at0_ret _ (ro := ro) (fun b hb => (hS.snap b hb).1)) ?_
  rintro v w4 ⟨rfl, hbl⟩
  replace hS := hS.grow hbl
  refine WL.bin rfl rfl rfl rfl rfl ?_
  refine WL.set 61 (v' := .bool false) rfl rfl ?_
  refine WL.nil (N.seq (W.condF rfl (W.skip (N.blk (N.seq (W.region (WL.move rfl rfl rfl ?_)))))))
  refine WL.add (c := (i : Int) + 1) rfl rfl rfl rfl (rfl) (by omega) ?_
  refine WL.assign rfl rfl rfl (WL.nil ?_)
  exact N.loop (i + 1) ⟨rfl, rfl, rfl, rfl, rfl, trivial⟩ ⟨hS, by omega⟩ (by first | omega | (simp only; omega))
 have hc3p : ¬ ((i : Int) < 1) := by simpa using hc3
 refine W.exit (X.seq (X.loop (X.blk (N.seq (W.seq (W.seq (W.region (WL.move rfl rfl rfl (WL.lenSlice Try.underlying29 rfl rfl rfl ?_)))))))))
 refine WL.move rfl rfl rfl ?_
 refine WL.add (c := 1) rfl rfl rfl rfl (rfl) (by omega) ?_
 refine WL.bin rfl rfl rfl rfl rfl ?_
 refine WL.set 67 (v' := .bool false) rfl rfl ?_
 refine WL.nil (N.seq (W.condF rfl (W.skip (N.seq (W.seq (W.region (WL.assign rfl rfl rfl (WL.nil (N.seq ?_)))))))))
 refine W.seq (W.seq (W.region (WL.assign rfl rfl rfl (WL.nil (N.seq (W.block ?_))))))
 refine W.loop (α := Unit) (fun _ => [(0, .slice none 0 0), (1, .int .u64 0), (2, .int .i64 1), (3, .int .i64 1), (12, .slice none 0 0), (13, .int .i64 0)]) (fun _ u => St w w u ro [] [] ∧ True) (fun _ => 0) () ⟨rfl, rfl, rfl, rfl, rfl, rfl, trivial⟩ ⟨hS, trivial⟩ ?_
 clear hS
 rintro ⟨⟩ w5 ⟨hS, _⟩
 refine W.seq (W.seq (W.region (WL.move rfl rfl rfl (WL.move rfl rfl rfl (WL.lenSlice Try.underlying29 rfl rfl rfl (WL.bin rfl rfl rfl rfl rfl ?_))))))
 refine WL.set 72 (v' := .bool false) rfl rfl ?_
 refine WL.move rfl rfl rfl (WL.skp rfl rfl (WL.skp rfl rfl (WL.skp rfl rfl (WL.skp rfl rfl (WL.skp rfl rfl (WL.skp rfl rfl (WL.skp rfl rfl (WL.pick (v := .bool false) rfl rfl rfl rfl rfl rfl (WL.nil ?_)))))))))
 refine N.seq (W.condF rfl (W.exit (X.seq (X.loop (X.blk (N.seq (W.seq (W.seq (W.region ?_)))))))))
 refine WL.assign rfl rfl rfl (WL.nil (N.seq (W.block ?_)))
 replace hS := hS.row0 56 3
 refine W.loop (α := Nat × Value × List Value) (fun ⟨j, v, cs⟩ => [(0, .slice none 0 0), (1, .int .u64 0), (2, .int .i64 1), (3, .int .i64 1), (12, v), (14, .int .i64 (j : Int))]) (fun ⟨j, v, cs⟩ u => St w w u ro [] [⟨v, 56, 3, j, cs⟩] ∧ j ≤ 1 ∧ cs = (List.replicate j (pgL zeroD)).flatten) (fun ⟨j, v, cs⟩ => 1 - j) (0, (.slice none 0 0), []) ⟨rfl, rfl, rfl, rfl, rfl, rfl, trivial⟩ ⟨hS, Nat.zero_le _, rfl⟩ ?_
 clear hS
 rintro ⟨j, v, cs⟩ w6 ⟨hS, hi, hcs⟩
 have hrow : w6.ownsRow w.heap.size 56 3 v (j) _ := hS.rows _ List.mem_cons_self
 obtain ⟨adv, capv, rfl, hr1v, hr2v, hr3v⟩ := row_shape hrow
 clear hrow
 refine W.seq (W.seq (W.region (WL.move rfl rfl rfl (WL.move rfl rfl rfl (WL.bin rfl rfl rfl rfl rfl (WL.nil (N.seq ?_)))))))
 refine W.cond rfl (fun hc7 => ?_) (fun hc7 => ?_)
 ·
  have hc7p : (j : Int) < 1 := by simpa using hc7
  refine W.skip (N.seq (W.seq (W.block (W.region (WL.move rfl rfl rfl (WL.move rfl rfl rfl (WL.move rfl rfl rfl ?_)))))))
  refine WL.convInt (by rw [Try.underlying3]; rfl) Try.underlying22 rfl rfl rfl ?_
  refine WL.set 99 (v' := .int .u64 ((j : Nat) : Int)) rfl (congrArg _ (wrapN64 (by omega) (by omega))) ?_
  refine WL.bin rfl rfl rfl rfl rfl ?_
  refine WL.set 100 (v' := .int .u64 ((256 * j : Nat) : Int)) rfl (congrArg _ (wrapN64 (by omega) (by omega))) ?_
  refine WL.bin rfl rfl rfl rfl rfl ?_
  refine WL.set 101 (v' := .int .u64 0) rfl (congrArg _ (wrapN64 (x := 0) (by omega) (by omega))) ?_
  refine WL.move rfl rfl rfl ?_
  refine WL.makeSlice (m := 256) 1 Try.underlying49 (tyZero_spec zer_5) byt_5 rfl rfl rfl rfl rfl hS (by unfold maxLen; omega) (by omega) ?_
  clear hS; intro w9 b8 hS
  refine WL.strRow (l := List.replicate 256 (0 : UInt8)) Try.underlying49 Try.underlying5 Try.underlying9 rfl rfl rfl List.length_replicate.symm (by rw [bCells_zero]; exact hS.rowAll 0 rfl) ?_
  refine WL.set 104 (v' := .string zeroD) rfl rfl ?_
  replace hS := hS.dropR 1
  refine WL.build (ps := [(0, .int .u64 0), (1, .int .i64 1), (2, .string zeroD)]) (cs := [.int .u64 0, .int .i64 1, .string zeroD]) rfl rfl rfl (by kernel_rfl) ?_
  refine WL.buildSlice (ps := [(0, .agg #[.int .u64 0, .int .i64 1, .string zeroD])]) (cs := [.int .u64 0, .int .i64 1, .string zeroD]) Try.underlying29 (tyZero_spec zer_56) rfl rfl rfl rfl (by kernel_rfl) hS ?_
  clear hS; intro w11 b10 hb_b10 hS
  refine WL.append (r := ⟨.slice adv j capv, 56, 3, j, cs⟩) (cs := [.int .u64 0, .int .i64 1, .string zeroD]) 32 Try.underlying29 (tyZero_spec zer_56) byt_56 rfl rfl rfl rfl rfl rfl rfl rfl rfl hS (by unfold maxLen; simp only; omega) (by simp only; omega) ?_
  clear hS; intro w12 v13 hn_v13 hS
  have hrow : w12.ownsRow w.heap.size 56 3 v13 (j + 1) _ := hS.rows _ List.mem_cons_self
  obtain ⟨av13, cv13, rfl, hc1_v13, hc2_v13, hc3_v13⟩ := row_shape hrow
  clear hrow
  refine WL.assign rfl rfl rfl (WL.nil (N.blk (N.seq (W.region (WL.move rfl rfl rfl ?_)))))
  refine WL.add (c := (j : Int) + 1) rfl rfl rfl rfl (rfl) (by omega) ?_
  refine WL.assign rfl rfl rfl (WL.nil ?_)
  have hcs2 : cs ++ ([.int .u64 0, .int .i64 1, .string zeroD] : List Value) = (List.replicate (j + 1) (pgL zeroD)).flatten := by rw [hcs, show j = 0 by omega]; rfl
  exact N.loop (j + 1, .slice av13 (j + 1) cv13, cs ++ ([.int .u64 0, .int .i64 1, .string zeroD] : List Value)) ⟨rfl, rfl, rfl, rfl, rfl, rfl, trivial⟩ ⟨hS, by omega, hcs2⟩ (by first | omega | (simp only; omega))
 have hc7p : ¬ ((j : Int) < 1) := by simpa using hc7
 refine W.exit (X.seq (X.loop (X.blk (N.seq (W.seq (W.seq (W.region (WL.assign rfl rfl rfl (WL.nil ?_)))))))))
 refine N.seq (W.block ?_)
 refine W.loop (α := Unit) (fun _ => [(0, .slice none 0 0), (1, .int .u64 0), (12, .slice adv j capv), (15, .int .i64 0)]) (fun _ u => St w w u ro [] [⟨.slice adv j capv, 56, 3, j, cs⟩] ∧ True) (fun _ => 0) () ⟨rfl, rfl, rfl, rfl, trivial⟩ ⟨hS, trivial⟩ ?_
 clear hS
 rintro ⟨⟩ w14 ⟨hS, _⟩
 refine W.seq (W.seq (W.region (WL.move rfl rfl rfl (WL.move rfl rfl rfl (WL.lenSlice Try.underlying29 rfl rfl rfl (WL.bin rfl rfl rfl rfl rfl ?_))))))
 refine WL.set 111 (v' := .bool false) rfl rfl ?_
 refine WL.nil (N.seq (W.condF rfl (W.exit (X.seq (X.loop (X.blk (N.seq (W.seq (W.region ?_)))))))))
 refine WL.move rfl rfl rfl (WL.assign rfl rfl rfl (WL.assign rfl rfl rfl (WL.nil (N.seq ?_))))
 refine Fin.ret2 rfl (v := .slice adv j capv) (v' := .int .i64 0) rfl rfl ?_
 have hie : j = 1 := by omega
 subst hie
 have hcs1 : cs = pgL zeroD := by rw [hcs]; rfl
 subst hcs1
 exact ⟨_, rfl, row_slv (hS.rows _ List.mem_cons_self) (chunks_pg zeroD_size) rfl (fun x hx => (hS.keys x (by simp only [keysOf, List.mem_append, List.mem_filterMap]; exact .inr ⟨_, List.mem_cons_self, hx⟩)).imp id (·.1)), hS.below⟩

end Go.Proofs.Ytcmmhfknkldmcaa
