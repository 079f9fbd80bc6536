/-
  Contracts of layer 9 (resolve). No condition beyond those that each theorem states.
-/
import Derived.Test.YtapjejjmhmdmdaaDoorZ12
namespace Go.Proofs.YtapjejjmhmdmdaaDoor
open Go.RowKit
theorem byt_60 : (Tryd.prog.info? 60).map (·.bytes) = some 48 := by kernel_rfl
theorem fo_60_0 : fOff Tryd.prog 60 0 0 = true := by kernel_rfl
theorem isz_60 : (Tryd.prog.info? 60).map (·.size) = some 6 := by kernel_rfl
theorem zer_60 : tyZero Tryd.prog 60 = some [.string ⟨#[]⟩, .int .i64 0, .bool false, .int .i64 0, .bool false, .bool false] := by kernel_rfl
set_option maxRecDepth 10000 in
set_option maxHeartbeats 4000000 in
theorem rItems_ret (ms : List DMod) (vx : Value) {w : World} {ro : Nat → Prop} (hro : ∀ b, ro b → b < w.heap.size) (hx : SlV ro w 2 (ModC ro w) vx ms) (hmx : (items9 ms).length ≤ 1048576) : Ret Tryd.prog 23 #[vx] w fun v w' => SlV (fun b => w.heap.size ≤ b ∧ b < w'.heap.size) w' 6 ItemC v (items9 ms) ∧ Below w.heap.size w w' := by
 have hxo := hx
 obtain ⟨adl, capl, rfl, hla, hlb, hlc, hld⟩ := hxo
 have hlm : ms.length ≤ 9223372036854775807 := slv_len hx
 refine Ret.enter (P := Tryd.prog) (n := 86) (args := [.slice adl ms.length capl]) (σ := [(0, .slice adl ms.length capl)]) Tryd.func23 rfl rfl rfl rfl ?_
 have hS := St.start (ro := ro) hro
 refine W.seq (W.region (WL.assign rfl rfl rfl (WL.nil (N.seq (W.seq (W.region (WL.assign rfl rfl rfl (WL.nil (N.seq ?_)))))))))
 refine W.seq (W.seq (W.region (WL.assign rfl rfl rfl (WL.nil (N.seq (W.block ?_))))))
 replace hS := hS.row0 60 6
 refine W.loop (α := Nat × Value × List Value × Nat) (fun ⟨i, v, cs, q⟩ => [(0, .slice adl ms.length capl), (2, .slice none 0 0), (3, v), (4, .int .i64 (i : Int))]) (fun ⟨i, v, cs, q⟩ u => St w w u ro [] [⟨v, 60, 6, q, cs⟩] ∧ i ≤ ms.length ∧ Chunks 6 ItemC cs (items9 (ms.take i)) ∧ q = (items9 (ms.take i)).length) (fun ⟨i, v, cs, q⟩ => ms.length - i) (0, (.slice none 0 0), [], 0) ⟨rfl, rfl, rfl, rfl, trivial⟩ ⟨hS, Nat.zero_le _, Chunks.nil, rfl⟩ ?_
 clear hS
 rintro ⟨i, v, cs, q⟩ w1 ⟨hS, hi, hch, hq⟩
 have hrow : w1.ownsRow w.heap.size 60 6 v (q) _ := hS.rows _ List.mem_cons_self
 obtain ⟨adv, capv, rfl, hr1v, hr2v, hr3v⟩ := row_shape hrow
 clear hrow
 refine W.seq (W.seq (W.region (WL.move rfl rfl rfl (WL.move rfl rfl rfl (WL.lenSlice Tryd.underlying22 rfl rfl rfl (WL.bin rfl rfl rfl rfl rfl (WL.nil (N.seq ?_))))))))
 refine W.cond rfl (fun hc2 => ?_) (fun hc2 => ?_)
 ·
  have hc2p : (i : Int) < (ms.length : Int) := by simpa using hc2
  refine W.skip (N.seq (W.seq (W.block (W.seq (W.seq (W.region (WL.assign rfl rfl rfl (WL.nil (N.seq ?_)))))))))
  refine W.block ?_
  have hj3 : i < ms.length := by omega
  obtain ⟨x3, hx3⟩ : ∃ zz, ms[i]? = some zz := ⟨_, List.getElem?_eq_getElem hj3⟩
  obtain ⟨b3, o3, cs3, hE3, hr3, hl3, hc3, hQ3⟩ := hld i _ hx3
  obtain ⟨sf3, sg3, rfl, hfs3, hgs3⟩ := id hQ3
  obtain ⟨adf3, capf3, rfl, hfs3a, hfs3b, hfs3c, hfs3d⟩ := id hfs3
  have hfs3m : x3.funcs.length ≤ 9223372036854775807 := by have h1 := hfs3a; have h2 := hfs3b; unfold maxLen at h2; omega
  obtain ⟨adg3, capg3, rfl, hgs3a, hgs3b, hgs3c, hgs3d⟩ := id hgs3
  have hgs3m : x3.globs.length ≤ 9223372036854775807 := by have h1 := hgs3a; have h2 := hgs3b; unfold maxLen at h2; omega
  have hmi : inI (i : Int) := by unfold inI; omega
  refine W.loop (α := Nat × Value × List Value × Nat) (fun ⟨kf, v1, cs1, q1⟩ => [(0, .slice adl ms.length capl), (2, .slice none 0 0), (3, v1), (4, .int .i64 (i : Int)), (5, .int .i64 (kf : Int))]) (fun ⟨kf, v1, cs1, q1⟩ u => St w w u ro [] [⟨v1, 60, 6, q1, cs1⟩] ∧ kf ≤ x3.funcs.length ∧ Chunks 6 ItemC cs1 (items9 (ms.take i) ++ fItems i (x3.funcs.take kf)) ∧ q1 = (items9 (ms.take i) ++ fItems i (x3.funcs.take kf)).length) (fun ⟨kf, v1, cs1, q1⟩ => x3.funcs.length - kf) (0, .slice adv q capv, cs, q) ⟨rfl, rfl, rfl, rfl, rfl, trivial⟩ ⟨hS, Nat.zero_le _, by simpa [fItems] using hch, by simpa [fItems] using hq⟩ ?_
  clear hS
  rintro ⟨kf, v1, cs1, q1⟩ w4 ⟨hS, hkf, hch1, hq1⟩
  have hrow : w4.ownsRow w.heap.size 60 6 v1 (q1) _ := hS.rows _ List.mem_cons_self
  obtain ⟨adv1, capv1, rfl, hr1v1, hr2v1, hr3v1⟩ := row_shape hrow
  clear hrow
  refine W.seq (W.seq (W.region (WL.move rfl rfl rfl (WL.move rfl rfl rfl (WL.move rfl rfl rfl (WL.indexAddrE (j := i) Tryd.underlying22 isz_32 rfl rfl rfl rfl hj3 hE3 (WL.fieldAddr fo_32_0 rfl rfl rfl (WL.load1 (v := .slice adf3 x3.funcs.length capf3) one_29 rfl rfl rfl (hS.roCells hr3 hc3 0 _ rfl) (WL.lenSlice Tryd.underlying29 rfl rfl rfl ?_)))))))))
  refine WL.bin rfl rfl rfl rfl rfl (WL.nil (N.seq ?_))
  refine W.cond rfl (fun hc5 => ?_) (fun hc5 => ?_)
  ·
   have hc5p : (kf : Int) < (x3.funcs.length : Int) := by simpa using hc5
   refine W.skip (N.seq (W.seq (W.block (W.seq (W.region (WL.move rfl rfl rfl (WL.move rfl rfl rfl (WL.indexAddrE (j := i) Tryd.underlying22 isz_32 rfl rfl rfl rfl hj3 hE3 (WL.fieldAddr fo_32_0 rfl rfl rfl ?_)))))))))
   refine WL.load1 (v := .slice adf3 x3.funcs.length capf3) one_29 rfl rfl rfl (hS.roCells hr3 hc3 0 _ rfl) (WL.move rfl rfl rfl ?_)
   have hj6 : kf < x3.funcs.length := by omega
   obtain ⟨x6, hx6⟩ : ∃ zz, x3.funcs[kf]? = some zz := ⟨_, List.getElem?_eq_getElem hj6⟩
   obtain ⟨b6, o6, cs6, hE6, hr6, hl6, hc6, hQ6⟩ := hfs3d kf _ hx6
   obtain ⟨sb6, rfl, hbl6, hnm6, hbd6, hpr6⟩ := id hQ6
   obtain ⟨adb6, capb6, rfl, hbk6a, hbk6b, hbk6c, hbk6d⟩ := id hbl6
   have hbk6m : x6.blocks.length ≤ 9223372036854775807 := by have h1 := hbk6a; have h2 := hbk6b; unfold maxLen at h2; omega
   refine WL.indexAddrE (j := kf) Tryd.underlying29 isz_35 rfl rfl rfl rfl hj6 hE6 (WL.loadN (cs := [.string x6.name, .int .i64 x6.bind, .int .i64 x6.params, .slice adb6 x6.blocks.length capb6]) agg_35 rfl rfl rfl rfl (hS.roCells hr6 hc6) ?_)
   refine WL.alloc (tyZero_spec zer_35) rfl rfl hS ?_
   clear hS; intro w8 b7 hb_b7 hS
   refine WL.store (L' := [(b7, .cells #[.string x6.name, .int .i64 x6.bind, .int .i64 x6.params, .slice adb6 x6.blocks.length capb6] 35 (0, 0))]) 0 rfl rfl rfl rfl siz_35 rfl rfl rfl rfl rfl hS ?_
   clear hS; intro w9 hS
   refine WL.nil (N.seq (W.seq (W.region (WL.fieldAddr fo_35_1 rfl rfl rfl (WL.load1 (v := .int .i64 x6.bind) one_3 rfl rfl rfl (hS.cell 0 rfl rfl) (WL.bin rfl rfl rfl rfl rfl (WL.nil (N.seq ?_))))))))
   refine W.cond rfl (fun hc10 => ?_) (fun hc10 => ?_)
   ·
    have hc10p : ¬ (x6.bind = 1) := by simpa using hc10
    refine W.region (WL.move rfl rfl rfl (WL.fieldAddr fo_35_0 rfl rfl rfl (WL.load1 (v := .string x6.name) one_9 rfl rfl rfl (hS.cell 0 rfl rfl) (WL.move rfl rfl rfl (WL.fieldAddr fo_35_2 rfl rfl rfl (WL.load1 (v := .int .i64 x6.params) one_3 rfl rfl rfl (hS.cell 0 rfl rfl) (WL.fieldAddr fo_35_3 rfl rfl rfl (WL.load1 (v := .slice adb6 x6.blocks.length capb6) one_33 rfl rfl rfl (hS.cell 0 rfl rfl) (WL.lenSlice Tryd.underlying33 rfl rfl rfl ?_)))))))))
    refine WL.bin rfl rfl rfl rfl rfl (WL.fieldAddr fo_35_1 rfl rfl rfl (WL.load1 (v := .int .i64 x6.bind) one_3 rfl rfl rfl (hS.cell 0 rfl rfl) (WL.bin rfl rfl rfl rfl rfl ?_)))
    refine WL.build (ps := [(0, .string x6.name), (1, .int .i64 (i : Int)), (2, .bool true), (3, .int .i64 x6.params), (4, .bool (decide (0 < (x6.blocks.length : Int)))), (5, .bool (decide (x6.bind = 2)))]) (cs := [.string x6.name, .int .i64 (i : Int), .bool true, .int .i64 x6.params, .bool (decide (0 < (x6.blocks.length : Int))), .bool (decide (x6.bind = 2))]) rfl rfl rfl (by kernel_rfl) ?_
    refine WL.buildSlice (ps := [(0, .agg #[.string x6.name, .int .i64 (i : Int), .bool true, .int .i64 x6.params, .bool (decide (0 < (x6.blocks.length : Int))), .bool (decide (x6.bind = 2))])]) (cs := [.string x6.name, .int .i64 (i : Int), .bool true, .int .i64 x6.params, .bool (decide (0 < (x6.blocks.length : Int))), .bool (decide (x6.bind = 2))]) Tryd.underlying57 (tyZero_spec zer_60) rfl rfl rfl rfl (by kernel_rfl) hS ?_
    clear hS; intro w12 b11 hb_b11 hS
    have hle : q1 + 1 ≤ 1048576 := by have h := (prefix_f hx3 hx6 hc10p).length_le; rw [List.length_append, ← hq1] at h; simp only [List.length_cons, List.length_nil] at h; omega
    refine WL.append (r := ⟨.slice adv1 q1 capv1, 60, 6, q1, cs1⟩) (cs := [.string x6.name, .int .i64 (i : Int), .bool true, .int .i64 x6.params, .bool (decide (0 < (x6.blocks.length : Int))), .bool (decide (x6.bind = 2))]) 48 Tryd.underlying57 (tyZero_spec zer_60) byt_60 rfl rfl rfl rfl rfl rfl rfl rfl rfl hS (by unfold maxLen; simp only; omega) (by simp only; omega) ?_
    clear hS; intro w13 v14 hn_v14 hS
    have hrow : w13.ownsRow w.heap.size 60 6 v14 (q1 + 1) _ := hS.rows _ List.mem_cons_self
    obtain ⟨av14, cv14, rfl, hc1_v14, hc2_v14, hc3_v14⟩ := row_shape hrow
    clear hrow
    refine WL.assign rfl rfl rfl (WL.nil (N.blk (N.seq (W.region (WL.move rfl rfl rfl ?_)))))
    refine WL.add (c := (kf : Int) + 1) rfl rfl rfl rfl (rfl) (by omega) ?_
    refine WL.assign rfl rfl rfl (WL.nil ?_)
    have hS := hS.dropN 1
    have hch9 : Chunks 6 ItemC (cs1 ++ ([.string x6.name, .int .i64 (i : Int), .bool true, .int .i64 x6.params, .bool (decide (0 < (x6.blocks.length : Int))), .bool (decide (x6.bind = 2))] : List Value)) (items9 (ms.take i) ++ fItems i (x3.funcs.take (kf + 1))) := by rw [fItems_yes hx6 hc10p, ← List.append_assoc]; exact hch1.snoc rfl ⟨rfl, hnm6, hmi, hpr6⟩
    have hq9 : q1 + 1 = (items9 (ms.take i) ++ fItems i (x3.funcs.take (kf + 1))).length := by rw [fItems_yes hx6 hc10p, ← List.append_assoc, List.length_append, ← hq1]; rfl
    exact N.loop (kf + 1, .slice av14 (q1 + 1) cv14, cs1 ++ ([.string x6.name, .int .i64 (i : Int), .bool true, .int .i64 x6.params, .bool (decide (0 < (x6.blocks.length : Int))), .bool (decide (x6.bind = 2))] : List Value), q1 + 1) ⟨rfl, rfl, rfl, rfl, rfl, trivial⟩ ⟨hS, by omega, hch9, hq9⟩ (by first | omega | (simp only; omega))
   have hc10p : x6.bind = 1 := by simpa using hc10
   refine W.skip (N.blk (N.seq (W.region (WL.move rfl rfl rfl ?_))))
   refine WL.add (c := (kf : Int) + 1) rfl rfl rfl rfl (rfl) (by omega) ?_
   refine WL.assign rfl rfl rfl (WL.nil ?_)
   have hS := hS.dropN 1
   exact N.loop (kf + 1, .slice adv1 q1 capv1, cs1, q1) ⟨rfl, rfl, rfl, rfl, rfl, trivial⟩ ⟨hS, by omega, by rw [fItems_no hx6 hc10p]; exact hch1, by rw [fItems_no hx6 hc10p]; exact hq1⟩ (by first | omega | (simp only; omega))
  have hc5p : ¬ ((kf : Int) < (x3.funcs.length : Int)) := by simpa using hc5
  refine W.exit (X.seq (X.loop (X.blk (N.seq (W.seq (W.region (WL.assign rfl rfl rfl (WL.nil (N.seq ?_)))))))))
  refine W.block ?_
  have hmi : inI (i : Int) := by unfold inI; omega
  rw [show kf = x3.funcs.length by omega, List.take_length] at hch1 hq1
  refine W.loop (α := Nat × Value × List Value × Nat) (fun ⟨kg, v2, cs2, q2⟩ => [(0, .slice adl ms.length capl), (2, .slice none 0 0), (3, v2), (4, .int .i64 (i : Int)), (7, .int .i64 (kg : Int))]) (fun ⟨kg, v2, cs2, q2⟩ u => St w w u ro [] [⟨v2, 60, 6, q2, cs2⟩] ∧ kg ≤ x3.globs.length ∧ Chunks 6 ItemC cs2 (items9 (ms.take i) ++ fItems i x3.funcs ++ gItems i (x3.globs.take kg)) ∧ q2 = (items9 (ms.take i) ++ fItems i x3.funcs ++ gItems i (x3.globs.take kg)).length) (fun ⟨kg, v2, cs2, q2⟩ => x3.globs.length - kg) (0, .slice adv1 q1 capv1, cs1, q1) ⟨rfl, rfl, rfl, rfl, rfl, trivial⟩ ⟨hS, Nat.zero_le _, by simpa [gItems] using hch1, by simpa [gItems] using hq1⟩ ?_
  clear hS
  rintro ⟨kg, v2, cs2, q2⟩ w15 ⟨hS, hkg, hch2, hq2⟩
  have hrow : w15.ownsRow w.heap.size 60 6 v2 (q2) _ := hS.rows _ List.mem_cons_self
  obtain ⟨adv2, capv2, rfl, hr1v2, hr2v2, hr3v2⟩ := row_shape hrow
  clear hrow
  refine W.seq (W.seq (W.region (WL.move rfl rfl rfl (WL.move rfl rfl rfl (WL.move rfl rfl rfl (WL.indexAddrE (j := i) Tryd.underlying22 isz_32 rfl rfl rfl rfl hj3 hE3 (WL.fieldAddr fo_32_1 rfl rfl rfl (WL.load1 (v := .slice adg3 x3.globs.length capg3) one_30 rfl rfl rfl (hS.roCells hr3 hc3 1 _ rfl) (WL.lenSlice Tryd.underlying30 rfl rfl rfl ?_)))))))))
  refine WL.bin rfl rfl rfl rfl rfl (WL.nil (N.seq ?_))
  refine W.cond rfl (fun hc16 => ?_) (fun hc16 => ?_)
  ·
   have hc16p : (kg : Int) < (x3.globs.length : Int) := by simpa using hc16
   refine W.skip (N.seq (W.seq (W.block (W.seq (W.region (WL.move rfl rfl rfl (WL.move rfl rfl rfl (WL.indexAddrE (j := i) Tryd.underlying22 isz_32 rfl rfl rfl rfl hj3 hE3 (WL.fieldAddr fo_32_1 rfl rfl rfl ?_)))))))))
   refine WL.load1 (v := .slice adg3 x3.globs.length capg3) one_30 rfl rfl rfl (hS.roCells hr3 hc3 1 _ rfl) (WL.move rfl rfl rfl ?_)
   have hj17 : kg < x3.globs.length := by omega
   obtain ⟨x17, hx17⟩ : ∃ zz, x3.globs[kg]? = some zz := ⟨_, List.getElem?_eq_getElem hj17⟩
   obtain ⟨b17, o17, cs17, hE17, hr17, hl17, hc17, hQ17⟩ := hgs3d kg _ hx17
   obtain ⟨rfl, hgn17, hgb17, hgi17⟩ := hQ17
   refine WL.indexAddrE (j := kg) Tryd.underlying30 isz_38 rfl rfl rfl rfl hj17 hE17 (WL.loadN (cs := [.string x17.name, .int .i64 x17.bind, .bool x17.here, .int .u64 x17.init]) agg_38 rfl rfl rfl rfl (hS.roCells hr17 hc17) ?_)
   refine WL.alloc (tyZero_spec zer_38) rfl rfl hS ?_
   clear hS; intro w19 b18 hb_b18 hS
   refine WL.store (L' := [(b18, .cells #[.string x17.name, .int .i64 x17.bind, .bool x17.here, .int .u64 x17.init] 38 (0, 0))]) 0 rfl rfl rfl rfl siz_38 rfl rfl rfl rfl rfl hS ?_
   clear hS; intro w20 hS
   refine WL.nil (N.seq (W.seq (W.region (WL.fieldAddr fo_38_1 rfl rfl rfl (WL.load1 (v := .int .i64 x17.bind) one_3 rfl rfl rfl (hS.cell 0 rfl rfl) (WL.bin rfl rfl rfl rfl rfl (WL.nil (N.seq ?_))))))))
   refine W.cond rfl (fun hc21 => ?_) (fun hc21 => ?_)
   ·
    have hc21p : ¬ (x17.bind = 1) := by simpa using hc21
    refine W.region (WL.move rfl rfl rfl (WL.fieldAddr fo_38_0 rfl rfl rfl (WL.load1 (v := .string x17.name) one_9 rfl rfl rfl (hS.cell 0 rfl rfl) (WL.move rfl rfl rfl (WL.fieldAddr fo_38_2 rfl rfl rfl (WL.load1 (v := .bool x17.here) one_4 rfl rfl rfl (hS.cell 0 rfl rfl) (WL.fieldAddr fo_38_1 rfl rfl rfl (WL.load1 (v := .int .i64 x17.bind) one_3 rfl rfl rfl (hS.cell 0 rfl rfl) (WL.bin rfl rfl rfl rfl rfl ?_)))))))))
    refine WL.build (ps := [(0, .string x17.name), (1, .int .i64 (i : Int)), (4, .bool x17.here), (5, .bool (decide (x17.bind = 2)))]) (cs := [.string x17.name, .int .i64 (i : Int), .bool false, .int .i64 0, .bool x17.here, .bool (decide (x17.bind = 2))]) rfl rfl rfl (by kernel_rfl) ?_
    refine WL.buildSlice (ps := [(0, .agg #[.string x17.name, .int .i64 (i : Int), .bool false, .int .i64 0, .bool x17.here, .bool (decide (x17.bind = 2))])]) (cs := [.string x17.name, .int .i64 (i : Int), .bool false, .int .i64 0, .bool x17.here, .bool (decide (x17.bind = 2))]) Tryd.underlying57 (tyZero_spec zer_60) rfl rfl rfl rfl (by kernel_rfl) hS ?_
    clear hS; intro w23 b22 hb_b22 hS
    have hle : q2 + 1 ≤ 1048576 := by have h := (prefix_g hx3 hx17 hc21p).length_le; rw [List.length_append, ← hq2] at h; simp only [List.length_cons, List.length_nil] at h; omega
    refine WL.append (r := ⟨.slice adv2 q2 capv2, 60, 6, q2, cs2⟩) (cs := [.string x17.name, .int .i64 (i : Int), .bool false, .int .i64 0, .bool x17.here, .bool (decide (x17.bind = 2))]) 48 Tryd.underlying57 (tyZero_spec zer_60) byt_60 rfl rfl rfl rfl rfl rfl rfl rfl rfl hS (by unfold maxLen; simp only; omega) (by simp only; omega) ?_
    clear hS; intro w24 v25 hn_v25 hS
    have hrow : w24.ownsRow w.heap.size 60 6 v25 (q2 + 1) _ := hS.rows _ List.mem_cons_self
    obtain ⟨av25, cv25, rfl, hc1_v25, hc2_v25, hc3_v25⟩ := row_shape hrow
    clear hrow
    refine WL.assign rfl rfl rfl (WL.nil (N.blk (N.seq (W.region (WL.move rfl rfl rfl ?_)))))
    refine WL.add (c := (kg : Int) + 1) rfl rfl rfl rfl (rfl) (by omega) ?_
    refine WL.assign rfl rfl rfl (WL.nil ?_)
    have hS := hS.dropN 1
    have hch9 : Chunks 6 ItemC (cs2 ++ ([.string x17.name, .int .i64 (i : Int), .bool false, .int .i64 0, .bool x17.here, .bool (decide (x17.bind = 2))] : List Value)) (items9 (ms.take i) ++ fItems i x3.funcs ++ gItems i (x3.globs.take (kg + 1))) := by rw [gItems_yes hx17 hc21p, ← List.append_assoc]; exact hch2.snoc rfl ⟨rfl, hgn17, hmi, inI0⟩
    have hq9 : q2 + 1 = (items9 (ms.take i) ++ fItems i x3.funcs ++ gItems i (x3.globs.take (kg + 1))).length := by rw [gItems_yes hx17 hc21p, ← List.append_assoc, List.length_append, ← hq2]; rfl
    exact N.loop (kg + 1, .slice av25 (q2 + 1) cv25, cs2 ++ ([.string x17.name, .int .i64 (i : Int), .bool false, .int .i64 0, .bool x17.here, .bool (decide (x17.bind = 2))] : List Value), q2 + 1) ⟨rfl, rfl, rfl, rfl, rfl, trivial⟩ ⟨hS, by omega, hch9, hq9⟩ (by first | omega | (simp only; omega))
   have hc21p : x17.bind = 1 := by simpa using hc21
   refine W.skip (N.blk (N.seq (W.region (WL.move rfl rfl rfl ?_))))
   refine WL.add (c := (kg : Int) + 1) rfl rfl rfl rfl (rfl) (by omega) ?_
   refine WL.assign rfl rfl rfl (WL.nil ?_)
   have hS := hS.dropN 1
   exact N.loop (kg + 1, .slice adv2 q2 capv2, cs2, q2) ⟨rfl, rfl, rfl, rfl, rfl, trivial⟩ ⟨hS, by omega, by rw [gItems_no hx17 hc21p]; exact hch2, by rw [gItems_no hx17 hc21p]; exact hq2⟩ (by first | omega | (simp only; omega))
  have hc16p : ¬ ((kg : Int) < (x3.globs.length : Int)) := by simpa using hc16
  refine W.exit (X.seq (X.loop (X.blk (N.blk (N.seq (W.region (WL.move rfl rfl rfl ?_)))))))
  refine WL.add (c := (i : Int) + 1) rfl rfl rfl rfl (rfl) (by omega) ?_
  refine WL.assign rfl rfl rfl (WL.nil ?_)
  rw [show kg = x3.globs.length by omega, List.take_length] at hch2 hq2
  have hch9 : Chunks 6 ItemC cs2 (items9 (ms.take (i + 1))) := by rw [items9_next hx3, mItems, ← List.append_assoc]; exact hch2
  have hq9 : q2 = (items9 (ms.take (i + 1))).length := by rw [items9_next hx3, mItems, ← List.append_assoc]; exact hq2
  exact N.loop (i + 1, .slice adv2 q2 capv2, cs2, q2) ⟨rfl, rfl, rfl, rfl, trivial⟩ ⟨hS, by omega, hch9, hq9⟩ (by first | omega | (simp only; omega))
 have hc2p : ¬ ((i : Int) < (ms.length : Int)) := by simpa using hc2
 refine W.exit (X.seq (X.loop (X.blk (N.seq (W.seq (W.region (WL.move rfl rfl rfl (WL.assign rfl rfl rfl (WL.nil ?_)))))))))
 refine N.seq ?_
 refine Fin.ret1 rfl (v := .slice adv q capv) rfl ?_
 have e : i = ms.length := by omega
 rw [e, List.take_length] at hch hq
 refine ⟨row_slv (hS.rows _ List.mem_cons_self) hch hq (fun x hx => ?_), hS.below⟩
 exact (hS.keys x (by simp only [keysOf, List.mem_append, List.mem_filterMap]; exact .inr ⟨_, List.mem_cons_self, hx⟩)).imp id (·.1)

theorem any_mem (l : List ByteArray) (s : ByteArray) : (l.any fun y => decide (y = s)) = decide (s ∈ l) := by
  rw [Bool.eq_iff_iff]; simp

set_option maxRecDepth 10000 in
set_option maxHeartbeats 4000000 in
theorem rNames_ret (ms : List DMod) (vx : Value) {w : World} {ro : Nat → Prop} (hro : ∀ b, ro b → b < w.heap.size) (hx : SlV ro w 2 (ModC ro w) vx ms) (hmx : (items9 ms).length ≤ 1048576) : Ret Tryd.prog 11 #[vx] w fun v w' => SlV (fun b => w.heap.size ≤ b ∧ b < w'.heap.size) w' 1 StrC v (nms9 (items9 ms)) ∧ Below w.heap.size w w' := by
 have hxo := hx
 obtain ⟨adl, capl, rfl, hla, hlb, hlc, hld⟩ := hxo
 have hlm : ms.length ≤ 9223372036854775807 := slv_len hx
 refine Ret.enter (P := Tryd.prog) (n := 46) (args := [.slice adl ms.length capl]) (σ := [(0, .slice adl ms.length capl)]) Tryd.func11 rfl rfl rfl rfl ?_
 have hS := St.start (ro := ro) hro
 have hsub : ∀ b, ro b → ro b ∨ w.heap.size ≤ b := fun _ h => .inl h
 refine W.seq (W.region (WL.assign rfl rfl rfl (WL.nil (N.seq (W.seq (W.region (WL.move rfl rfl rfl ?_)))))))
 refine WL.callF (vs := [.slice adl ms.length capl]) Tryd.func23 (by kernel_rfl) rfl rfl rfl (rItems_ret ms _ (ro := ro) (fun b hb => (hS.snap b hb).1) (SlV.keep hx hS.alike (fun _ _ q => q.keep hS.alike)) hmx) ?_
 rintro vi w1 ⟨hiv, hbl⟩
 have hal2 := hS.alikeTo hbl (ro' := (roFrom ro w w1)) (fun b hb => .inl hb)
 replace hx := SlV.keep hx hal2 (fun _ _ h => h.keep hal2)
 replace hS := hS.readNew hbl
 obtain ⟨xs, hxs⟩ : ∃ xs, xs = items9 ms := ⟨_, rfl⟩
 rw [← hxs] at hiv
 replace hiv := SlV.keep hiv (ro' := (roFrom ro w w1)) (w' := w1) (Q' := ItemC) (fun x hx => ⟨.inr hx, rfl⟩) (fun _ _ h => h)
 have hxl : xs.length ≤ 1048576 := by rw [hxs]; exact hmx
 obtain ⟨adi, capi, rfl, hia, hib, hic, hid⟩ := id hiv
 have him : xs.length ≤ 9223372036854775807 := by have h1 := hia; have h2 := hib; unfold maxLen at h2; omega
 refine WL.assign rfl rfl rfl (WL.nil (N.seq (W.seq (W.region (WL.assign rfl rfl rfl (WL.nil (N.seq (W.seq (W.seq ?_)))))))))
 refine W.region (WL.assign rfl rfl rfl (WL.nil (N.seq (W.block ?_))))
 replace hS := hS.row0 9 1
 refine W.loop (α := Nat × Value × List Value × Nat) (fun ⟨i, v, cs, q⟩ => [(2, .slice none 0 0), (3, .slice adi xs.length capi), (4, v), (5, .int .i64 (i : Int))]) (fun ⟨i, v, cs, q⟩ u => St w w1 u (roFrom ro w w1) [] [⟨v, 9, 1, q, cs⟩] ∧ i ≤ xs.length ∧ Chunks 1 StrC cs (nms9 (xs.take i)) ∧ q = (nms9 (xs.take i)).length) (fun ⟨i, v, cs, q⟩ => xs.length - i) (0, (.slice none 0 0), [], 0) ⟨rfl, rfl, rfl, rfl, trivial⟩ ⟨hS, Nat.zero_le _, Chunks.nil, rfl⟩ ?_
 clear hS
 rintro ⟨i, v, cs, q⟩ w3 ⟨hS, hi, hch, hq⟩
 have hrow : w3.ownsRow w.heap.size 9 1 v (q) _ := hS.rows _ List.mem_cons_self
 obtain ⟨adv, capv, rfl, hr1v, hr2v, hr3v⟩ := row_shape hrow
 clear hrow
 refine W.seq (W.seq (W.region (WL.move rfl rfl rfl (WL.move rfl rfl rfl (WL.lenSlice Tryd.underlying57 rfl rfl rfl (WL.bin rfl rfl rfl rfl rfl (WL.nil (N.seq ?_))))))))
 refine W.cond rfl (fun hc4 => ?_) (fun hc4 => ?_)
 ·
  have hc4p : (i : Int) < (xs.length : Int) := by simpa using hc4
  refine W.skip (N.seq (W.seq (W.block (W.seq (W.region (WL.assign rfl rfl rfl (WL.nil (N.seq (W.seq ?_)))))))))
  refine W.seq (W.region (WL.assign rfl rfl rfl (WL.nil (N.seq (W.block ?_)))))
  have hj5 : i < xs.length := by omega
  obtain ⟨x5, hx5⟩ : ∃ zz, xs[i]? = some zz := ⟨_, List.getElem?_eq_getElem hj5⟩
  obtain ⟨b5, o5, cs5, hE5, hr5, hl5, hc5, hQ5⟩ := hid i _ hx5
  obtain ⟨rfl, hin5, him5, hip5⟩ := hQ5
  have hql : q ≤ 1048576 := by have h := nms9_length (xs.take i); have h2 := List.length_take_le i xs; omega
  refine W.loop (α := Nat × Bool) (fun ⟨k, hd⟩ => [(2, .slice none 0 0), (3, .slice adi xs.length capi), (4, .slice adv q capv), (5, .int .i64 (i : Int)), (6, .bool hd), (7, .int .i64 (k : Int))]) (fun ⟨k, hd⟩ u => St w w1 u (roFrom ro w w1) [] [⟨.slice adv q capv, 9, 1, q, cs⟩] ∧ k ≤ q ∧ hd = ((nms9 (xs.take i)).take k).any fun y => decide (y = x5.name)) (fun ⟨k, hd⟩ => q - k) (0, false) ⟨rfl, rfl, rfl, rfl, rfl, rfl, trivial⟩ ⟨hS, Nat.zero_le _, by simp⟩ ?_
  clear hS
  rintro ⟨k, hd⟩ w6 ⟨hS, hk, hb⟩
  refine W.seq (W.seq (W.region (WL.move rfl rfl rfl (WL.move rfl rfl rfl (WL.lenSlice Tryd.underlying25 rfl rfl rfl (WL.bin rfl rfl rfl rfl rfl (WL.nil (N.seq ?_))))))))
  refine W.cond rfl (fun hc7 => ?_) (fun hc7 => ?_)
  ·
   have hc7p : (k : Int) < (q : Int) := by simpa using hc7
   refine W.skip (N.seq (W.seq (W.block ?_)))
   obtain ⟨gq9, rfl⟩ : ∃ g, adv = some ⟨g, 0, none⟩ := row_some (hS.rows _ (List.mem_of_getElem? (i := 0) rfl)) (by omega)
   have hj8 : k < (nms9 (xs.take i)).length := by omega
   obtain ⟨x8, hx8⟩ : ∃ zz, (nms9 (xs.take i))[k]? = some zz := ⟨_, List.getElem?_eq_getElem hj8⟩
   have hQ8 := hch.2 k _ hx8
   generalize hk8 : (cs.drop (k * 1)).take 1 = c8 at hQ8
   obtain ⟨rfl, hsz8⟩ := hQ8
   rcases (Bool.eq_false_or_eq_true hd).symm with hg10 | hg10
   ·
    refine W.set 6 (v' := .bool false) rfl (by rw [hg10]) ?_
    refine W.drawL (by kernel_rfl) 13 ((.q (.bool false)) :: (.q (.bool false)) :: (.q (.slice (some ⟨gq9, 0, none⟩) q capv)) :: (.q (.int .i64 (k : Int))) :: (.q (.pointer (some ⟨gq9, 0 + k * 1, none⟩))) :: (.q (.string x8)) :: (.q (.slice adi xs.length capi)) :: (.q (.int .i64 (i : Int))) :: (.q (.pointer (some ⟨b5, o5 + i * 6, none⟩))) :: (.q (.pointer (some ⟨b5, o5 + i * 6, none⟩))) :: (.q (.string x5.name)) :: (.q (.bool (decide (x8 = x5.name)))) :: (.q (.bool (decide (x8 = x5.name)))) :: []) (by kernel_rfl) (by kernel_rfl) [(2, .slice none 0 0), (3, .slice adi xs.length capi), (4, .slice (some ⟨gq9, 0, none⟩) q capv), (5, .int .i64 (i : Int)), (6, .bool false), (7, .int .i64 (k : Int))] ⟨rfl, rfl, rfl, rfl, rfl, rfl, trivial⟩ (by kernel_rfl) hS ?_ ?_
    ·
     refine And.intro (fun β w hS => ?_) ?_
     ·
      refine WL.sub (σ' := [(6, .bool false)]) ⟨rfl, trivial⟩ ?_
      refine WL.move rfl rfl rfl ?_
      exact WL.nil (N.cut () ⟨rfl, trivial⟩ (Below.refl _ _))
     refine And.intro (fun β w hS => ?_) ?_
     ·
      refine WL.sub (σ' := [(22, .bool false)]) ⟨rfl, trivial⟩ ?_
      refine WL.move rfl rfl rfl ?_
      exact WL.nil (N.cut () ⟨rfl, trivial⟩ (Below.refl _ _))
     refine And.intro (fun β w hS => ?_) ?_
     ·
      refine WL.sub (σ' := [(4, .slice (some ⟨gq9, 0, none⟩) q capv), (23, .bool false)]) ⟨rfl, rfl, trivial⟩ ?_
      refine WL.move rfl rfl rfl ?_
      exact WL.nil (N.cut () ⟨rfl, trivial⟩ (Below.refl _ _))
     refine And.intro (fun β w hS => ?_) ?_
     ·
      refine WL.sub (σ' := [(7, .int .i64 (k : Int)), (23, .bool false)]) ⟨rfl, rfl, trivial⟩ ?_
      refine WL.move rfl rfl rfl ?_
      exact WL.nil (N.cut () ⟨rfl, trivial⟩ (Below.refl _ _))
     refine And.intro (fun β w hS => ?_) ?_
     ·
      refine WL.sub (σ' := [(23, .bool false), (24, .slice (some ⟨gq9, 0, none⟩) q capv), (25, .int .i64 (k : Int))]) ⟨rfl, rfl, rfl, trivial⟩ ?_
      refine WL.indexAddr (j := k) Tryd.underlying25 isz_9 rfl rfl rfl rfl (by omega) ?_
      exact WL.nil (N.cut () ⟨rfl, trivial⟩ (Below.refl _ _))
     refine And.intro (fun β w hS => ?_) ?_
     ·
      refine WL.sub (σ' := [(23, .bool false), (26, .pointer (some ⟨gq9, 0 + k * 1, none⟩))]) ⟨rfl, rfl, trivial⟩ ?_
      refine WL.load1 (v := .string x8) one_9 rfl rfl rfl ((hS.rowCells 0 rfl hk8) 0 _ rfl) ?_
      exact WL.nil (N.cut () ⟨rfl, trivial⟩ (Below.refl _ _))
     refine And.intro (fun β w hS => ?_) ?_
     ·
      refine WL.sub (σ' := [(3, .slice adi xs.length capi), (23, .bool false)]) ⟨rfl, rfl, trivial⟩ ?_
      refine WL.move rfl rfl rfl ?_
      exact WL.nil (N.cut () ⟨rfl, trivial⟩ (Below.refl _ _))
     refine And.intro (fun β w hS => ?_) ?_
     ·
      refine WL.sub (σ' := [(5, .int .i64 (i : Int)), (23, .bool false)]) ⟨rfl, rfl, trivial⟩ ?_
      refine WL.move rfl rfl rfl ?_
      exact WL.nil (N.cut () ⟨rfl, trivial⟩ (Below.refl _ _))
     refine And.intro (fun β w hS => ?_) ?_
     ·
      refine WL.sub (σ' := [(23, .bool false), (28, .slice adi xs.length capi), (29, .int .i64 (i : Int))]) ⟨rfl, rfl, rfl, trivial⟩ ?_
      refine WL.indexAddrE (j := i) Tryd.underlying57 isz_60 rfl rfl rfl rfl hj5 hE5 ?_
      exact WL.nil (N.cut () ⟨rfl, trivial⟩ (Below.refl _ _))
     refine And.intro (fun β w hS => ?_) ?_
     ·
      refine WL.sub (σ' := [(23, .bool false), (30, .pointer (some ⟨b5, o5 + i * 6, none⟩))]) ⟨rfl, rfl, trivial⟩ ?_
      refine WL.fieldAddr fo_60_0 rfl rfl rfl ?_
      exact WL.nil (N.cut () ⟨rfl, trivial⟩ (Below.refl _ _))
     refine And.intro (fun β w hS => ?_) ?_
     ·
      refine WL.sub (σ' := [(23, .bool false), (31, .pointer (some ⟨b5, o5 + i * 6, none⟩))]) ⟨rfl, rfl, trivial⟩ ?_
      refine WL.load1 (v := .string x5.name) one_9 rfl rfl rfl (hS.roCells hr5 hc5 0 _ rfl) ?_
      exact WL.nil (N.cut () ⟨rfl, trivial⟩ (Below.refl _ _))
     refine And.intro (fun β w hS => ?_) ?_
     ·
      refine WL.sub (σ' := [(23, .bool false), (27, .string x8), (32, .string x5.name)]) ⟨rfl, rfl, rfl, trivial⟩ ?_
      refine WL.eqStr rfl rfl rfl rfl ?_
      exact WL.nil (N.cut () ⟨rfl, trivial⟩ (Below.refl _ _))
     refine And.intro (fun β w hS => ?_) ?_
     ·
      refine WL.sub (σ' := [(23, .bool false), (33, .bool (decide (x8 = x5.name)))]) ⟨rfl, rfl, trivial⟩ ?_
      refine WL.pick (v := .bool (decide (x8 = x5.name))) rfl rfl rfl rfl rfl rfl ?_
      exact WL.nil (N.cut () ⟨rfl, trivial⟩ (Below.refl _ _))
     trivial
    clear hS; intro w11 β hS
    refine WL.sub (σ' := [(2, .slice none 0 0), (3, .slice adi xs.length capi), (4, .slice (some ⟨gq9, 0, none⟩) q capv), (5, .int .i64 (i : Int)), (6, .bool false), (7, .int .i64 (k : Int)), (34, .bool (decide (x8 = x5.name)))]) (Sub.ofEq (by kernel_rfl)) ?_
    refine WL.assign rfl rfl rfl (WL.nil (N.blk (N.seq (W.region (WL.move rfl rfl rfl ?_)))))
    refine WL.add (c := (k : Int) + 1) rfl rfl rfl rfl (rfl) (by omega) ?_
    refine WL.assign rfl rfl rfl (WL.nil ?_)
    have hb2 : (decide (x8 = x5.name) : Bool) = ((nms9 (xs.take i)).take (k + 1)).any fun y => decide (y = x5.name) := by rw [take_next hx8, List.any_append, ← hb]; simp [hc7p, hg10]
    exact N.loop (k + 1, decide (x8 = x5.name)) ⟨rfl, rfl, rfl, rfl, rfl, rfl, trivial⟩ ⟨hS, by omega, hb2⟩ (by first | omega | (simp only; omega))
   refine W.set 6 (v' := .bool true) rfl (by rw [hg10]) ?_
   refine W.drawL (by kernel_rfl) 13 ((.q (.bool true)) :: (.q (.bool true)) :: (.q undef) :: (.q undef) :: (.q undef) :: (.q undef) :: (.q undef) :: (.q undef) :: (.q undef) :: (.q undef) :: (.q undef) :: (.q undef) :: (.q (.bool true)) :: []) (by kernel_rfl) (by kernel_rfl) [(2, .slice none 0 0), (3, .slice adi xs.length capi), (4, .slice (some ⟨gq9, 0, none⟩) q capv), (5, .int .i64 (i : Int)), (6, .bool true), (7, .int .i64 (k : Int))] ⟨rfl, rfl, rfl, rfl, rfl, rfl, trivial⟩ (by kernel_rfl) hS ?_ ?_
   ·
    refine And.intro (fun β w hS => ?_) ?_
    ·
     refine WL.sub (σ' := [(6, .bool true)]) ⟨rfl, trivial⟩ ?_
     refine WL.move rfl rfl rfl ?_
     exact WL.nil (N.cut () ⟨rfl, trivial⟩ (Below.refl _ _))
    refine And.intro (fun β w hS => ?_) ?_
    ·
     refine WL.sub (σ' := [(22, .bool true)]) ⟨rfl, trivial⟩ ?_
     refine WL.move rfl rfl rfl ?_
     exact WL.nil (N.cut () ⟨rfl, trivial⟩ (Below.refl _ _))
    refine And.intro (fun β w hS => ?_) ?_
    ·
     refine WL.sub (σ' := [(4, .slice (some ⟨gq9, 0, none⟩) q capv), (23, .bool true)]) ⟨rfl, rfl, trivial⟩ ?_
     refine WL.skp rfl rfl ?_
     exact WL.nil (N.cut () ⟨rfl, trivial⟩ (Below.refl _ _))
    refine And.intro (fun β w hS => ?_) ?_
    ·
     refine WL.sub (σ' := [(7, .int .i64 (k : Int)), (23, .bool true)]) ⟨rfl, rfl, trivial⟩ ?_
     refine WL.skp rfl rfl ?_
     exact WL.nil (N.cut () ⟨rfl, trivial⟩ (Below.refl _ _))
    refine And.intro (fun β w hS => ?_) ?_
    ·
     refine WL.sub (σ' := [(23, .bool true), (24, undef), (25, undef)]) ⟨rfl, rfl, rfl, trivial⟩ ?_
     refine WL.skp rfl rfl ?_
     exact WL.nil (N.cut () ⟨rfl, trivial⟩ (Below.refl _ _))
    refine And.intro (fun β w hS => ?_) ?_
    ·
     refine WL.sub (σ' := [(23, .bool true), (26, undef)]) ⟨rfl, rfl, trivial⟩ ?_
     refine WL.skp rfl rfl ?_
     exact WL.nil (N.cut () ⟨rfl, trivial⟩ (Below.refl _ _))
    refine And.intro (fun β w hS => ?_) ?_
    ·
     refine WL.sub (σ' := [(3, .slice adi xs.length capi), (23, .bool true)]) ⟨rfl, rfl, trivial⟩ ?_
     refine WL.skp rfl rfl ?_
     exact WL.nil (N.cut () ⟨rfl, trivial⟩ (Below.refl _ _))
    refine And.intro (fun β w hS => ?_) ?_
    ·
     refine WL.sub (σ' := [(5, .int .i64 (i : Int)), (23, .bool true)]) ⟨rfl, rfl, trivial⟩ ?_
     refine WL.skp rfl rfl ?_
     exact WL.nil (N.cut () ⟨rfl, trivial⟩ (Below.refl _ _))
    refine And.intro (fun β w hS => ?_) ?_
    ·
     refine WL.sub (σ' := [(23, .bool true), (28, undef), (29, undef)]) ⟨rfl, rfl, rfl, trivial⟩ ?_
     refine WL.skp rfl rfl ?_
     exact WL.nil (N.cut () ⟨rfl, trivial⟩ (Below.refl _ _))
    refine And.intro (fun β w hS => ?_) ?_
    ·
     refine WL.sub (σ' := [(23, .bool true), (30, undef)]) ⟨rfl, rfl, trivial⟩ ?_
     refine WL.skp rfl rfl ?_
     exact WL.nil (N.cut () ⟨rfl, trivial⟩ (Below.refl _ _))
    refine And.intro (fun β w hS => ?_) ?_
    ·
     refine WL.sub (σ' := [(23, .bool true), (31, undef)]) ⟨rfl, rfl, trivial⟩ ?_
     refine WL.skp rfl rfl ?_
     exact WL.nil (N.cut () ⟨rfl, trivial⟩ (Below.refl _ _))
    refine And.intro (fun β w hS => ?_) ?_
    ·
     refine WL.sub (σ' := [(23, .bool true), (27, undef), (32, undef)]) ⟨rfl, rfl, rfl, trivial⟩ ?_
     refine WL.skp rfl rfl ?_
     exact WL.nil (N.cut () ⟨rfl, trivial⟩ (Below.refl _ _))
    refine And.intro (fun β w hS => ?_) ?_
    ·
     refine WL.sub (σ' := [(23, .bool true), (33, undef)]) ⟨rfl, rfl, trivial⟩ ?_
     refine WL.pick (v := .bool true) rfl rfl rfl rfl rfl rfl ?_
     exact WL.nil (N.cut () ⟨rfl, trivial⟩ (Below.refl _ _))
    trivial
   clear hS; intro w12 β hS
   refine WL.sub (σ' := [(2, .slice none 0 0), (3, .slice adi xs.length capi), (4, .slice (some ⟨gq9, 0, none⟩) q capv), (5, .int .i64 (i : Int)), (6, .bool true), (7, .int .i64 (k : Int)), (34, .bool true)]) (Sub.ofEq (by kernel_rfl)) ?_
   refine WL.assign rfl rfl rfl (WL.nil (N.blk (N.seq (W.region (WL.move rfl rfl rfl ?_)))))
   refine WL.add (c := (k : Int) + 1) rfl rfl rfl rfl (rfl) (by omega) ?_
   refine WL.assign rfl rfl rfl (WL.nil ?_)
   have hb2 : (true : Bool) = ((nms9 (xs.take i)).take (k + 1)).any fun y => decide (y = x5.name) := by rw [take_next hx8, List.any_append, ← hb]; simp [hc7p, hg10]
   exact N.loop (k + 1, true) ⟨rfl, rfl, rfl, rfl, rfl, rfl, trivial⟩ ⟨hS, by omega, hb2⟩ (by first | omega | (simp only; omega))
  have hc7p : ¬ ((k : Int) < (q : Int)) := by simpa using hc7
  refine W.exit (X.seq (X.loop (X.blk (N.seq (W.seq (W.region (WL.move rfl rfl rfl (WL.not rfl rfl rfl (WL.nil ?_)))))))))
  refine N.seq ?_
  refine W.cond rfl (fun hc13 => ?_) (fun hc13 => ?_)
  ·
   refine W.region (WL.move rfl rfl rfl (WL.move rfl rfl rfl (WL.move rfl rfl rfl (WL.indexAddrE (j := i) Tryd.underlying57 isz_60 rfl rfl rfl rfl hj5 hE5 (WL.fieldAddr fo_60_0 rfl rfl rfl (WL.load1 (v := .string x5.name) one_9 rfl rfl rfl (hS.roCells hr5 hc5 0 _ rfl) ?_))))))
   refine WL.buildSlice (ps := [(0, .string x5.name)]) (cs := [.string x5.name]) Tryd.underlying25 (tyZero_spec zer_9) rfl rfl rfl rfl (by kernel_rfl) hS ?_
   clear hS; intro w15 b14 hb_b14 hS
   have hle : q + 1 ≤ 1048577 := by omega
   refine WL.append (r := ⟨.slice adv q capv, 9, 1, q, cs⟩) (cs := [.string x5.name]) 16 Tryd.underlying25 (tyZero_spec zer_9) byt_9 rfl rfl rfl rfl rfl rfl rfl rfl rfl hS (by unfold maxLen; simp only; omega) (by simp only; omega) ?_
   clear hS; intro w16 v17 hn_v17 hS
   have hrow : w16.ownsRow w.heap.size 9 1 v17 (q + 1) _ := hS.rows _ List.mem_cons_self
   obtain ⟨av17, cv17, rfl, hc1_v17, hc2_v17, hc3_v17⟩ := row_shape hrow
   clear hrow
   refine WL.assign rfl rfl rfl (WL.nil (N.blk (N.seq (W.region (WL.move rfl rfl rfl ?_)))))
   refine WL.add (c := (i : Int) + 1) rfl rfl rfl rfl (rfl) (by omega) ?_
   refine WL.assign rfl rfl rfl (WL.nil ?_)
   have hin : ¬ x5.name ∈ nms9 (xs.take i) := by rw [hb, show k = (nms9 (xs.take i)).length by omega, List.take_length, any_mem] at hc13; simpa using hc13
   have hch9 : Chunks 1 StrC (cs ++ ([.string x5.name] : List Value)) (nms9 (xs.take (i + 1))) := by rw [take_next hx5, nms9_snoc, if_neg hin]; exact hch.snoc rfl ⟨rfl, hin5⟩
   have hq9 : q + 1 = (nms9 (xs.take (i + 1))).length := by rw [take_next hx5, nms9_snoc, if_neg hin, List.length_append, ← hq]; rfl
   exact N.loop (i + 1, .slice av17 (q + 1) cv17, cs ++ ([.string x5.name] : List Value), q + 1) ⟨rfl, rfl, rfl, rfl, trivial⟩ ⟨hS, by omega, hch9, hq9⟩ (by first | omega | (simp only; omega))
  refine W.skip (N.blk (N.seq (W.region (WL.move rfl rfl rfl ?_))))
  refine WL.add (c := (i : Int) + 1) rfl rfl rfl rfl (rfl) (by omega) ?_
  refine WL.assign rfl rfl rfl (WL.nil ?_)
  have hin : x5.name ∈ nms9 (xs.take i) := by rw [hb, show k = (nms9 (xs.take i)).length by omega, List.take_length, any_mem] at hc13; simpa using hc13
  exact N.loop (i + 1, .slice adv q capv, cs, q) ⟨rfl, rfl, rfl, rfl, trivial⟩ ⟨hS, by omega, by rw [take_next hx5, nms9_snoc, if_pos hin]; exact hch, by rw [take_next hx5, nms9_snoc, if_pos hin]; exact hq⟩ (by first | omega | (simp only; omega))
 have hc4p : ¬ ((i : Int) < (xs.length : Int)) := by simpa using hc4
 refine W.exit (X.seq (X.loop (X.blk (N.seq (W.seq (W.region (WL.move rfl rfl rfl (WL.assign rfl rfl rfl (WL.nil ?_)))))))))
 refine N.seq ?_
 refine Fin.ret1 rfl (v := .slice adv q capv) rfl ?_
 have e : i = xs.length := by omega
 rw [e, List.take_length, hxs] at hch hq
 refine ⟨row_slv (hS.rows _ List.mem_cons_self) hch hq (fun x hx => ?_), hS.below⟩
 exact (hS.keys x (by simp only [keysOf, List.mem_append, List.mem_filterMap]; exact .inr ⟨_, List.mem_cons_self, hx⟩)).imp id (·.1)

end Go.Proofs.YtapjejjmhmdmdaaDoor
