/-
  Contracts of the document's runs (marlineref07). No condition beyond those that each theorem states.
-/
import Derived.Test.YtdlcmhkfglckfaaE1
namespace Go.Proofs.Ytdlcmhkfglckfaa
open Go.RowKit
theorem agg_84 : tyAgg Try.prog 84 8 = true := by kernel_rfl
theorem byt_34 : (Try.prog.info? 34).map (·.bytes) = some 8 := by kernel_rfl
theorem fo_58_4 : fOff Try.prog 58 4 4 = true := by kernel_rfl
theorem fo_84_0 : fOff Try.prog 84 0 0 = true := by kernel_rfl
theorem fo_84_2 : fOff Try.prog 84 2 7 = true := by kernel_rfl
theorem isz_34 : (Try.prog.info? 34).map (·.size) = some 1 := by kernel_rfl
theorem siz_84 : tySize Try.prog 84 8 = true := by kernel_rfl
theorem zer_34 : tyZero Try.prog 34 = some [.int .u64 0] := by kernel_rfl
theorem zer_84 : tyZero Try.prog 84 = some [.bool false, .int .u64 0, .string ⟨#[]⟩, .int .i64 0, .int .i64 0, .int .i64 0, .slice none 0 0, .int .i64 0] := by kernel_rfl
theorem step7_ret (Y Y' : DW) (ga : Option Addr) (gn gc : Nat) (fuel : Int) (hY : step7 Y fuel = Y') {w : World} {ro : Nat → Prop} (hro : ∀ b, ro b → b < w.heap.size) (hb : 0 ≤ Y.t.steps ∧ Y.t.steps ≤ 100000000) : Ret Try.prog 59 #[.agg #[.bool Y.t.ended, .int .u64 Y.t.code, .string Y.t.out, .int .i64 Y.t.read, .int .i64 Y.t.steps, .int .i64 Y.t.deep, .slice ga gn gc, .int .i64 Y.bad], .int .i64 fuel] w fun v w' => v = .agg #[.bool Y'.t.ended, .int .u64 Y'.t.code, .string Y'.t.out, .int .i64 Y'.t.read, .int .i64 Y'.t.steps, .int .i64 Y'.t.deep, .slice ga gn gc, .int .i64 Y'.bad] ∧ Below w.heap.size w w' := by
 refine Ret.enter (P := Try.prog) (n := 19) (args := [.agg #[.bool Y.t.ended, .int .u64 Y.t.code, .string Y.t.out, .int .i64 Y.t.read, .int .i64 Y.t.steps, .int .i64 Y.t.deep, .slice ga gn gc, .int .i64 Y.bad], .int .i64 fuel]) (σ := [(0, .agg #[.bool Y.t.ended, .int .u64 Y.t.code, .string Y.t.out, .int .i64 Y.t.read, .int .i64 Y.t.steps, .int .i64 Y.t.deep, .slice ga gn gc, .int .i64 Y.bad]), (1, .int .i64 fuel)]) Try.func59 rfl rfl rfl rfl ?_
 have hS := St.start (ro := ro) hro
 refine W.seq (W.region ?_)
 refine WL.box (v := .agg #[.bool Y.t.ended, .int .u64 Y.t.code, .string Y.t.out, .int .i64 Y.t.read, .int .i64 Y.t.steps, .int .i64 Y.t.deep, .slice ga gn gc, .int .i64 Y.bad]) (cs := [.bool Y.t.ended, .int .u64 Y.t.code, .string Y.t.out, .int .i64 Y.t.read, .int .i64 Y.t.steps, .int .i64 Y.t.deep, .slice ga gn gc, .int .i64 Y.bad]) rfl rfl rfl rfl hS ?_
 clear hS; intro w2 b1 hb_b1 hS
 refine WL.alloc (tyZero_spec zer_84) rfl rfl hS ?_
 clear hS; intro w4 b3 hb_b3 hS
 refine WL.nil (N.seq (W.seq (W.seq (W.region (WL.fieldAddr fo_84_0 rfl rfl rfl (WL.fieldAddr fo_58_4 rfl rfl rfl (WL.load1 (v := .int .i64 Y.t.steps) one_3 rfl rfl rfl (hS.cell 1 rfl rfl) (WL.move rfl rfl rfl (WL.bin rfl rfl rfl rfl rfl ?_)))))))))
 refine WL.nil (N.seq ?_)
 refine W.cond rfl (fun hc5 => ?_) (fun hc5 => ?_)
 ·
  have hc5p : Y.t.steps = fuel := by simpa using hc5
  refine W.seq (W.region (WL.fieldAddr fo_84_2 rfl rfl rfl ?_))
  refine WL.store (L' := [(b3, .cells #[.bool false, .int .u64 0, .string ⟨#[]⟩, .int .i64 0, .int .i64 0, .int .i64 0, .slice none 0 0, .int .i64 0] 84 (0, 0)), (b1, .cells #[.bool Y.t.ended, .int .u64 Y.t.code, .string Y.t.out, .int .i64 Y.t.read, .int .i64 Y.t.steps, .int .i64 Y.t.deep, .slice ga gn gc, .int .i64 12] 84 (0, 0))]) 1 rfl rfl rfl rfl siz_3 rfl rfl rfl rfl rfl hS ?_
  clear hS; intro w6 hS
  refine WL.nil (N.seq (W.seq (W.region (WL.loadN (cs := [.bool Y.t.ended, .int .u64 Y.t.code, .string Y.t.out, .int .i64 Y.t.read, .int .i64 Y.t.steps, .int .i64 Y.t.deep, .slice ga gn gc, .int .i64 12]) agg_84 rfl rfl rfl rfl (hS.cells 1 (m := 8) rfl rfl) ?_))))
  refine WL.store (L' := [(b3, .cells #[.bool Y.t.ended, .int .u64 Y.t.code, .string Y.t.out, .int .i64 Y.t.read, .int .i64 Y.t.steps, .int .i64 Y.t.deep, .slice ga gn gc, .int .i64 12] 84 (0, 0)), (b1, .cells #[.bool Y.t.ended, .int .u64 Y.t.code, .string Y.t.out, .int .i64 Y.t.read, .int .i64 Y.t.steps, .int .i64 Y.t.deep, .slice ga gn gc, .int .i64 12] 84 (0, 0))]) 0 rfl rfl rfl rfl siz_84 rfl rfl rfl rfl rfl hS ?_
  clear hS; intro w7 hS
  refine WL.nil (N.seq ?_)
  refine Fin.retC rfl (v := .agg #[.bool Y.t.ended, .int .u64 Y.t.code, .string Y.t.out, .int .i64 Y.t.read, .int .i64 Y.t.steps, .int .i64 Y.t.deep, .slice ga gn gc, .int .i64 12]) rfl (tyAgg_run agg_84 (cs := [.bool Y.t.ended, .int .u64 Y.t.code, .string Y.t.out, .int .i64 Y.t.read, .int .i64 Y.t.steps, .int .i64 Y.t.deep, .slice ga gn gc, .int .i64 12]) rfl (hS.cells 0 (m := 8) rfl rfl)) ?_
  have e : step7 Y fuel = { Y with bad := 12 } := by rw [step7, if_pos hc5p]
  rw [← hY, e]
  exact ⟨rfl, hS.below⟩
 have hc5p : ¬ (Y.t.steps = fuel) := by simpa using hc5
 refine W.skip (N.seq (W.seq (W.region (WL.fieldAddr fo_84_0 rfl rfl rfl (WL.fieldAddr fo_58_4 rfl rfl rfl (WL.load1 (v := .int .i64 Y.t.steps) one_3 rfl rfl rfl (hS.cell 1 rfl rfl) ?_))))))
 refine WL.add (c := Y.t.steps + 1) rfl rfl rfl rfl (rfl) (by omega) ?_
 refine WL.fieldAddr fo_84_0 rfl rfl rfl (WL.fieldAddr fo_58_4 rfl rfl rfl ?_)
 refine WL.store (L' := [(b3, .cells #[.bool false, .int .u64 0, .string ⟨#[]⟩, .int .i64 0, .int .i64 0, .int .i64 0, .slice none 0 0, .int .i64 0] 84 (0, 0)), (b1, .cells #[.bool Y.t.ended, .int .u64 Y.t.code, .string Y.t.out, .int .i64 Y.t.read, .int .i64 (Y.t.steps + 1), .int .i64 Y.t.deep, .slice ga gn gc, .int .i64 Y.bad] 84 (0, 0))]) 1 rfl rfl rfl rfl siz_3 rfl rfl rfl rfl rfl hS ?_
 clear hS; intro w8 hS
 refine WL.nil (N.seq (W.seq (W.region (WL.loadN (cs := [.bool Y.t.ended, .int .u64 Y.t.code, .string Y.t.out, .int .i64 Y.t.read, .int .i64 (Y.t.steps + 1), .int .i64 Y.t.deep, .slice ga gn gc, .int .i64 Y.bad]) agg_84 rfl rfl rfl rfl (hS.cells 1 (m := 8) rfl rfl) ?_))))
 refine WL.store (L' := [(b3, .cells #[.bool Y.t.ended, .int .u64 Y.t.code, .string Y.t.out, .int .i64 Y.t.read, .int .i64 (Y.t.steps + 1), .int .i64 Y.t.deep, .slice ga gn gc, .int .i64 Y.bad] 84 (0, 0)), (b1, .cells #[.bool Y.t.ended, .int .u64 Y.t.code, .string Y.t.out, .int .i64 Y.t.read, .int .i64 (Y.t.steps + 1), .int .i64 Y.t.deep, .slice ga gn gc, .int .i64 Y.bad] 84 (0, 0))]) 0 rfl rfl rfl rfl siz_84 rfl rfl rfl rfl rfl hS ?_
 clear hS; intro w9 hS
 refine WL.nil (N.seq ?_)
 refine Fin.retC rfl (v := .agg #[.bool Y.t.ended, .int .u64 Y.t.code, .string Y.t.out, .int .i64 Y.t.read, .int .i64 (Y.t.steps + 1), .int .i64 Y.t.deep, .slice ga gn gc, .int .i64 Y.bad]) rfl (tyAgg_run agg_84 (cs := [.bool Y.t.ended, .int .u64 Y.t.code, .string Y.t.out, .int .i64 Y.t.read, .int .i64 (Y.t.steps + 1), .int .i64 Y.t.deep, .slice ga gn gc, .int .i64 Y.bad]) rfl (hS.cells 0 (m := 8) rfl rfl)) ?_
 have e : step7 Y fuel = { Y with t := { Y.t with steps := Y.t.steps + 1 } } := by rw [step7, if_neg hc5p]
 rw [← hY, e]
 exact ⟨rfl, hS.below⟩

theorem pick7_ret (vals l : List Int) (vv vl : Value) {w : World} {ro : Nat → Prop} (hro : ∀ b, ro b → b < w.heap.size) (hv : SlV ro w 1 U64C vv vals) (hl : IntsV ro w vl l) (hi : ∀ x ∈ l, 0 ≤ x ∧ x < vals.length) (hn : l.length ≤ 1000000) : Ret Try.prog 60 #[vv, vl] w fun v w' => SlV (fun b => w.heap.size ≤ b ∧ b < w'.heap.size) w' 1 U64C v (pick7 vals l) ∧ Below w.heap.size w w' := by
 obtain ⟨ads, caps, rfl, hva, hvb, hvc, hvd⟩ := id hv
 have hvm : vals.length ≤ 9223372036854775807 := by have h1 := hva; have h2 := hvb; unfold maxLen at h2; omega
 obtain ⟨adl, capl, rfl, hla, hlb, hlc, hld⟩ := id hl
 have hlm : l.length ≤ 9223372036854775807 := by have h1 := hla; have h2 := hlb; unfold maxLen at h2; omega
 refine Ret.enter (P := Try.prog) (n := 24) (args := [.slice ads vals.length caps, .slice adl l.length capl]) (σ := [(0, .slice ads vals.length caps), (1, .slice adl l.length capl)]) Try.func60 rfl rfl rfl rfl ?_
 have hS := St.start (ro := ro) hro
 refine W.seq (W.region (WL.assign rfl rfl rfl (WL.nil (N.seq (W.seq (W.region (WL.assign rfl rfl rfl (WL.nil (N.seq ?_)))))))))
 refine W.seq (W.seq (W.region (WL.assign rfl rfl rfl (WL.nil (N.seq (W.block ?_))))))
 replace hS := hS.row0 34 1
 refine W.loop (α := Nat × Value × List Value) (fun ⟨k, v, cs⟩ => [(0, .slice ads vals.length caps), (1, .slice adl l.length capl), (4, .slice none 0 0), (5, v), (6, .int .i64 (k : Int))]) (fun ⟨k, v, cs⟩ u => St w w u ro [] [⟨v, 34, 1, k, cs⟩] ∧ k ≤ l.length ∧ Chunks 1 U64C cs (pick7 vals (l.take k))) (fun ⟨k, v, cs⟩ => l.length - k) (0, (.slice none 0 0), []) ⟨rfl, rfl, rfl, rfl, rfl, trivial⟩ ⟨hS, Nat.zero_le _, Chunks.nil⟩ ?_
 clear hS
 rintro ⟨k, v, cs⟩ w1 ⟨hS, hk, hch⟩
 have hrow : w1.ownsRow w.heap.size 34 1 v (k) _ := hS.rows _ List.mem_cons_self
 obtain ⟨adv, capv, rfl, hr1v, hr2v, hr3v⟩ := row_shape hrow
 clear hrow
 refine W.seq (W.seq (W.region (WL.move rfl rfl rfl (WL.move rfl rfl rfl (WL.lenSlice Try.underlying28 rfl rfl rfl (WL.bin rfl rfl rfl rfl rfl (WL.nil (N.seq ?_))))))))
 refine W.cond rfl (fun hc2 => ?_) (fun hc2 => ?_)
 ·
  have hc2p : (k : Int) < (l.length : Int) := by simpa using hc2
  refine W.skip (N.seq (W.seq (W.block (W.region (WL.move rfl rfl rfl (WL.move rfl rfl rfl (WL.move rfl rfl rfl (WL.move rfl rfl rfl ?_))))))))
  have hj3 : k < l.length := by omega
  obtain ⟨x3, hx3⟩ : ∃ zz, l[k]? = some zz := ⟨_, List.getElem?_eq_getElem hj3⟩
  obtain ⟨b3, o3, cs3, hE3, hr3, hl3, hc3, hQ3⟩ := hld k _ hx3
  obtain ⟨rfl, hi3⟩ := hQ3
  refine WL.indexAddrE (j := k) Try.underlying28 isz_3 rfl rfl rfl rfl hj3 hE3 (WL.load1 (v := .int .i64 x3) one_3 rfl rfl rfl (hS.roCells hr3 hc3 0 _ rfl) ?_)
  have hb3 := hi _ (List.mem_of_getElem? hx3)
  refine WL.set 18 (v' := .int .i64 (x3.toNat : Int)) rfl (by rw [Int.toNat_of_nonneg hb3.1]) ?_
  have hj4 : x3.toNat < vals.length := by omega
  obtain ⟨x4, hx4⟩ : ∃ zz, vals[x3.toNat]? = some zz := ⟨_, List.getElem?_eq_getElem hj4⟩
  obtain ⟨b4, o4, cs4, hE4, hr4, hl4, hc4, hQ4⟩ := hvd x3.toNat _ hx4
  obtain ⟨rfl, hu4⟩ := hQ4
  refine WL.indexAddrE (j := x3.toNat) Try.underlying82 isz_34 rfl rfl rfl rfl hj4 hE4 (WL.load1 (v := .int .u64 x4) one_34 rfl rfl rfl (hS.roCells hr4 hc4 0 _ rfl) ?_)
  refine WL.buildSlice (ps := [(0, .int .u64 x4)]) (cs := [.int .u64 x4]) Try.underlying82 (tyZero_spec zer_34) rfl rfl rfl rfl (by kernel_rfl) hS ?_
  clear hS; intro w6 b5 hb_b5 hS
  refine WL.append (r := ⟨.slice adv k capv, 34, 1, k, cs⟩) (cs := [.int .u64 x4]) 8 Try.underlying82 (tyZero_spec zer_34) byt_34 rfl rfl rfl rfl rfl rfl rfl rfl rfl hS (by unfold maxLen; simp only; omega) (by simp only; omega) ?_
  clear hS; intro w7 v8 hn_v8 hS
  have hrow : w7.ownsRow w.heap.size 34 1 v8 (k + 1) _ := hS.rows _ List.mem_cons_self
  obtain ⟨av8, cv8, rfl, hc1_v8, hc2_v8, hc3_v8⟩ := row_shape hrow
  clear hrow
  refine WL.assign rfl rfl rfl (WL.nil (N.blk (N.seq (W.region (WL.move rfl rfl rfl ?_)))))
  refine WL.add (c := (k : Int) + 1) rfl rfl rfl rfl (rfl) (by omega) ?_
  refine WL.assign rfl rfl rfl (WL.nil ?_)
  have hpk : pick7 vals (l.take (k + 1)) = pick7 vals (l.take k) ++ [x4] := by rw [take_next hx3, pick7, List.map_append]; show _ ++ [vals.getD x3.toNat 0] = _ ++ [_]; rw [List.getD_eq_getElem?_getD, hx4]; rfl
  have hch2 : Chunks 1 U64C (cs ++ ([.int .u64 x4] : List Value)) (pick7 vals (l.take (k + 1))) := by rw [hpk]; exact hch.snoc rfl ⟨rfl, hu4⟩
  exact N.loop (k + 1, .slice av8 (k + 1) cv8, cs ++ ([.int .u64 x4] : List Value)) ⟨rfl, rfl, rfl, rfl, rfl, trivial⟩ ⟨hS, by omega, hch2⟩ (by first | omega | (simp only; omega))
 have hc2p : ¬ ((k : Int) < (l.length : Int)) := by simpa using hc2
 refine W.exit (X.seq (X.loop (X.blk (N.seq (W.seq (W.region (WL.move rfl rfl rfl (WL.assign rfl rfl rfl (WL.nil ?_)))))))))
 refine N.seq ?_
 refine Fin.ret1 rfl (v := .slice adv k capv) rfl ?_
 have hke : k = l.length := by omega
 subst hke
 rw [List.take_length] at hch
 refine ⟨row_slv (hS.rows _ List.mem_cons_self) hch (by simp [pick7]) (fun x hx => ?_), hS.below⟩
 exact (hS.keys x (by simp only [keysOf, List.mem_append, List.mem_filterMap]; exact .inr ⟨_, List.mem_cons_self, hx⟩)).imp id (·.1)

end Go.Proofs.Ytdlcmhkfglckfaa
