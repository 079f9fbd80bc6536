/-
  Contracts of the document's machine, for the instructions of a number. No condition beyond those that each theorem states.
-/
import Derived.Test.YtcmmhfknkldmcaaY4
import Derived.Test.YtcmmhfknkldmcaaA34
namespace Go.Proofs.Ytcmmhfknkldmcaa
open Go.RowKit
theorem byt_5 : (Try.prog.info? 5).map (·.bytes) = some 1 := by kernel_rfl
theorem zer_5 : tyZero Try.prog 5 = some [.int .u8 0] := by kernel_rfl
theorem b8_wrap {z : Int} {n : Nat} (e : z = (n : Int)) (h : n < 256) : IntKind.u8.wrap z = ((b8 n).toNat : Int) := by
  rw [wrapN8 e h]; unfold b8; rw [UInt8.toNat_ofNat']; omega
theorem opWord_lt {r : Int} {x : DOp} (hx : NumOp r x) (hr : 1 ≤ r ∧ r ≤ 31) : opWord x < 4294967296 := by
  have h1 := hx.i
  have h2 := hx.rd
  have h3 := hx.a
  exact word_lt (by rcases hx.k with h | h <;> rw [h] <;> decide) (by omega) (by rcases h3 with h | h <;> rw [h] <;> omega) (by omega) (by omega)

set_option maxRecDepth 10000 in
set_option maxHeartbeats 4000000 in
theorem bytes_ret (r : Int) (l : List DOp) (hn : ∀ o ∈ l, NumOp r o) (hr : 1 ≤ r ∧ r ≤ 31) (h0 : 0 < l.length) (h1 : l.length ≤ 1000) (vx : Value) {w : World} {ro : Nat → Prop} (hro : ∀ b, ro b → b < w.heap.size) (hx : SlV ro w 5 OpC vx l) : Ret Try.prog 7 #[vx] w fun v w' => v = .tuple #[.string ⟨(opsBytes l).toArray⟩, .int .i64 0] ∧ Below w.heap.size w w' := by
 obtain ⟨ad, cap, rfl, hxa, hxb, hxc, hxd⟩ := id hx
 have hxm : l.length ≤ 9223372036854775807 := by have h1 := hxa; have h2 := hxb; unfold maxLen at h2; omega
 refine Ret.enter (P := Try.prog) (n := 44) (args := [.slice ad l.length cap]) (σ := [(0, .slice ad l.length cap)]) Try.func7 rfl rfl rfl rfl ?_
 have hS := St.start (ro := ro) hro
 have hsub : ∀ b, ro b → ro b ∨ w.heap.size ≤ b := fun _ h => .inl h
 refine W.seq (W.region (WL.assign rfl rfl rfl (WL.assign rfl rfl rfl (WL.nil (N.seq (W.seq (W.region (WL.assign rfl rfl rfl (WL.nil ?_)))))))))
 refine N.seq (W.seq (W.seq (W.region (WL.assign rfl rfl rfl (WL.nil (N.seq (W.block ?_)))))))
 replace hS := hS.row0 5 1
 refine W.loop (α := Nat × Value × List Value) (fun ⟨i, v, cs⟩ => [(0, .slice ad l.length cap), (4, v), (5, .int .i64 (i : Int))]) (fun ⟨i, v, cs⟩ u => St w w u ro [] [⟨v, 5, 1, 4 * i, cs⟩] ∧ i ≤ l.length ∧ cs = bCells (opsBytes (l.take i))) (fun ⟨i, v, cs⟩ => l.length - i) (0, (.slice none 0 0), []) ⟨rfl, rfl, rfl, trivial⟩ ⟨hS, Nat.zero_le _, rfl⟩ ?_
 clear hS
 rintro ⟨i, v, cs⟩ w1 ⟨hS, hi, hcs⟩
 have hrow : w1.ownsRow w.heap.size 5 1 v (4 * i) _ := hS.rows _ List.mem_cons_self
 obtain ⟨adv, capv, rfl, hr1v, hr2v, hr3v⟩ := row_shape hrow
 clear hrow
 refine W.seq (W.seq (W.region (WL.move rfl rfl rfl (WL.move rfl rfl rfl (WL.lenSlice Try.underlying24 rfl rfl rfl (WL.bin rfl rfl rfl rfl rfl (WL.nil (N.seq ?_))))))))
 refine W.cond rfl (fun hc2 => ?_) (fun hc2 => ?_)
 ·
  have hc2p : (i : Int) < (l.length : Int) := by simpa using hc2
  refine W.skip (N.seq (W.seq (W.block (W.seq (W.region (WL.move rfl rfl rfl (WL.move rfl rfl rfl ?_)))))))
  have hj3 : i < l.length := by omega
  obtain ⟨x3, hx3, b3, o3, cs3, hE3, hr3, _, hc3, hQ3⟩ := opn hxd hj3
  obtain ⟨rfl, hop3⟩ := hQ3
  refine WL.indexAddrE (j := i) Try.underlying24 isz_45 rfl rfl rfl rfl hj3 hE3 (WL.loadN (cs := [.int .i64 x3.kind, .int .i64 x3.rd, .int .i64 x3.a, .int .i64 x3.b, .int .i64 x3.imm]) agg_45 rfl rfl rfl rfl (hS.roCells hr3 hc3) ?_)
  have hnum := hn _ (List.mem_of_getElem? hx3); have hwl := opWord_lt hnum hr
  refine WL.callF (vs := [.agg #[.int .i64 x3.kind, .int .i64 x3.rd, .int .i64 x3.a, .int .i64 x3.b, .int .i64 x3.imm]]) Try.func17 (by kernel_rfl) rfl rfl rfl (wordOp_ret x3 hnum hr (ro := ro) (fun b hb => (hS.snap b hb).1)) ?_
  rintro v w4 ⟨rfl, hbl⟩
  replace hS := hS.grow hbl
  refine WL.move rfl rfl rfl (WL.extract (v := .int .u32 ((opWord x3 : Nat) : Int)) rfl rfl rfl rfl (WL.extract (v := .int .i64 0) rfl rfl rfl rfl (WL.assign rfl rfl rfl (WL.assign rfl rfl rfl (WL.nil (N.seq (W.seq (W.seq (W.region ?_)))))))))
  refine WL.move rfl rfl rfl (WL.bin rfl rfl rfl rfl rfl ?_)
  refine WL.set 23 (v' := .bool false) rfl rfl ?_
  refine WL.nil (N.seq (W.condF rfl (W.skip (N.seq (W.region (WL.move rfl rfl rfl (WL.move rfl rfl rfl ?_)))))))
  refine WL.remC rfl rfl rfl rfl (by decide) ?_
  refine WL.set 27 (v' := .int .u32 ((opWord x3 % 256 : Nat) : Int)) rfl (congrArg _ (by rw [Int.tmod_eq_emod_of_nonneg (by omega)]; omega)) ?_
  refine WL.convInt (by rw [Try.underlying50]; rfl) Try.underlying5 rfl rfl rfl ?_
  refine WL.set 28 (v' := .int .u8 ((b8 (opWord x3 % 256)).toNat : Int)) rfl (congrArg _ (b8_wrap (by omega) (by omega))) ?_
  refine WL.move rfl rfl rfl ?_
  refine WL.quoC rfl rfl rfl rfl (by decide) ?_
  refine WL.set 30 (v' := .int .u32 ((opWord x3 / 256 : Nat) : Int)) rfl (congrArg _ (wrapN32 (by rw [Int.tdiv_eq_ediv_of_nonneg (by omega)]; omega) (by omega))) ?_
  refine WL.remC rfl rfl rfl rfl (by decide) ?_
  refine WL.set 31 (v' := .int .u32 ((opWord x3 / 256 % 256 : Nat) : Int)) rfl (congrArg _ (by rw [Int.tmod_eq_emod_of_nonneg (by omega)]; omega)) ?_
  refine WL.convInt (by rw [Try.underlying50]; rfl) Try.underlying5 rfl rfl rfl ?_
  refine WL.set 32 (v' := .int .u8 ((b8 (opWord x3 / 256 % 256)).toNat : Int)) rfl (congrArg _ (b8_wrap (by omega) (by omega))) ?_
  refine WL.move rfl rfl rfl ?_
  refine WL.quoC rfl rfl rfl rfl (by decide) ?_
  refine WL.set 34 (v' := .int .u32 ((opWord x3 / 65536 : Nat) : Int)) rfl (congrArg _ (wrapN32 (by rw [Int.tdiv_eq_ediv_of_nonneg (by omega)]; omega) (by omega))) ?_
  refine WL.remC rfl rfl rfl rfl (by decide) ?_
  refine WL.set 35 (v' := .int .u32 ((opWord x3 / 65536 % 256 : Nat) : Int)) rfl (congrArg _ (by rw [Int.tmod_eq_emod_of_nonneg (by omega)]; omega)) ?_
  refine WL.convInt (by rw [Try.underlying50]; rfl) Try.underlying5 rfl rfl rfl ?_
  refine WL.set 36 (v' := .int .u8 ((b8 (opWord x3 / 65536 % 256)).toNat : Int)) rfl (congrArg _ (b8_wrap (by omega) (by omega))) ?_
  refine WL.move rfl rfl rfl ?_
  refine WL.quoC rfl rfl rfl rfl (by decide) ?_
  refine WL.set 38 (v' := .int .u32 ((opWord x3 / 16777216 : Nat) : Int)) rfl (congrArg _ (wrapN32 (by rw [Int.tdiv_eq_ediv_of_nonneg (by omega)]; omega) (by omega))) ?_
  refine WL.convInt (by rw [Try.underlying50]; rfl) Try.underlying5 rfl rfl rfl ?_
  refine WL.set 39 (v' := .int .u8 ((b8 (opWord x3 / 16777216)).toNat : Int)) rfl (congrArg _ (b8_wrap (by omega) (by omega))) ?_
  refine WL.buildSlice (ps := [(0, .int .u8 ((b8 (opWord x3 % 256)).toNat : Int)), (1, .int .u8 ((b8 (opWord x3 / 256 % 256)).toNat : Int)), (2, .int .u8 ((b8 (opWord x3 / 65536 % 256)).toNat : Int)), (3, .int .u8 ((b8 (opWord x3 / 16777216)).toNat : Int))]) (cs := [.int .u8 ((b8 (opWord x3 % 256)).toNat : Int), .int .u8 ((b8 (opWord x3 / 256 % 256)).toNat : Int), .int .u8 ((b8 (opWord x3 / 65536 % 256)).toNat : Int), .int .u8 ((b8 (opWord x3 / 16777216)).toNat : Int)]) Try.underlying49 (tyZero_spec zer_5) rfl rfl rfl rfl (by kernel_rfl) hS ?_
  clear hS; intro w6 b5 hb_b5 hS
  refine WL.append (r := ⟨.slice adv (4 * i) capv, 5, 1, 4 * i, cs⟩) (cs := [.int .u8 ((b8 (opWord x3 % 256)).toNat : Int), .int .u8 ((b8 (opWord x3 / 256 % 256)).toNat : Int), .int .u8 ((b8 (opWord x3 / 65536 % 256)).toNat : Int), .int .u8 ((b8 (opWord x3 / 16777216)).toNat : Int)]) 1 Try.underlying49 (tyZero_spec zer_5) byt_5 rfl rfl rfl rfl rfl rfl rfl rfl rfl hS (by unfold maxLen; simp only; omega) (by simp only; omega) ?_
  clear hS; intro w7 v8 hn_v8 hS
  have hrow : w7.ownsRow w.heap.size 5 1 v8 (4 * i + 4) _ := hS.rows _ List.mem_cons_self
  obtain ⟨av8, cv8, rfl, hc1_v8, hc2_v8, hc3_v8⟩ := row_shape hrow
  clear hrow
  refine WL.assign rfl rfl rfl (WL.nil (N.blk (N.seq (W.region (WL.move rfl rfl rfl ?_)))))
  refine WL.add (c := (i : Int) + 1) rfl rfl rfl rfl (rfl) (by omega) ?_
  refine WL.assign rfl rfl rfl (WL.nil ?_)
  have hcs2 : cs ++ ([.int .u8 ((b8 (opWord x3 % 256)).toNat : Int), .int .u8 ((b8 (opWord x3 / 256 % 256)).toNat : Int), .int .u8 ((b8 (opWord x3 / 65536 % 256)).toNat : Int), .int .u8 ((b8 (opWord x3 / 16777216)).toNat : Int)] : List Value) = bCells (opsBytes (l.take (i + 1))) := by rw [take_next hx3]; unfold opsBytes at hcs ⊢; rw [List.flatMap_append, bCells_app, ← hcs]; simp [bCells, wBytes]
  replace hS := hS.rw0 (show (⟨.slice av8 (4 * i + 4) cv8, 5, 1, 4 * (i + 1), cs ++ ([.int .u8 ((b8 (opWord x3 % 256)).toNat : Int), .int .u8 ((b8 (opWord x3 / 256 % 256)).toNat : Int), .int .u8 ((b8 (opWord x3 / 65536 % 256)).toNat : Int), .int .u8 ((b8 (opWord x3 / 16777216)).toNat : Int)] : List Value)⟩ : Row) = ⟨.slice av8 (4 * i + 4) cv8, 5, 1, 4 * i + 4, cs ++ ([.int .u8 ((b8 (opWord x3 % 256)).toNat : Int), .int .u8 ((b8 (opWord x3 / 256 % 256)).toNat : Int), .int .u8 ((b8 (opWord x3 / 65536 % 256)).toNat : Int), .int .u8 ((b8 (opWord x3 / 16777216)).toNat : Int)] : List Value)⟩ by rw [show 4 * (i + 1) = 4 * i + 4 by omega])
  exact N.loop (i + 1, .slice av8 (4 * i + 4) cv8, cs ++ ([.int .u8 ((b8 (opWord x3 % 256)).toNat : Int), .int .u8 ((b8 (opWord x3 / 256 % 256)).toNat : Int), .int .u8 ((b8 (opWord x3 / 65536 % 256)).toNat : Int), .int .u8 ((b8 (opWord x3 / 16777216)).toNat : Int)] : List Value)) ⟨rfl, rfl, rfl, trivial⟩ ⟨hS, by omega, hcs2⟩ (by first | omega | (simp only; omega))
 have hc2p : ¬ ((i : Int) < (l.length : Int)) := by simpa using hc2
 refine W.exit (X.seq (X.loop (X.blk (N.seq (W.seq (W.region (WL.move rfl rfl rfl ?_)))))))
 have hie : i = l.length := by omega
 subst hie
 rw [List.take_length] at hcs
 subst hcs
 obtain ⟨gb, rfl⟩ : ∃ g, adv = some ⟨g, 0, none⟩ := row_some (hS.rows _ List.mem_cons_self) (by omega)
 refine WL.strRow Try.underlying49 Try.underlying5 Try.underlying9 rfl rfl rfl (opsBytes_len l).symm (hS.rowAll 0 rfl) ?_
 refine WL.assign rfl rfl rfl (WL.assign rfl rfl rfl (WL.nil (N.seq ?_)))
 refine Fin.ret2 rfl (v := .string ⟨(opsBytes l).toArray⟩) (v' := .int .i64 0) rfl rfl ?_
 exact ⟨rfl, hS.below⟩

end Go.Proofs.Ytcmmhfknkldmcaa
