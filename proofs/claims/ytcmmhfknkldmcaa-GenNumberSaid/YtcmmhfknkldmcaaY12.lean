/-
  Contracts of the document's machine, for the instructions of a number. No condition beyond those that each theorem states.
-/
import Derived.Test.YtcmmhfknkldmcaaY11
namespace Go.Proofs.Ytcmmhfknkldmcaa
open Go.RowKit
theorem siz_29 : tySize Try.prog 29 1 = true := by kernel_rfl
set_option maxRecDepth 10000 in
set_option maxHeartbeats 4000000 in
theorem genNumberN_ret (r : Int) (k0 was0 : Nat) (hri : inI r) (hk0 : k0 < 18446744073709551616) {w : World} {ro : Nat → Prop} (hro : ∀ b, ro b → b < w.heap.size) : Ret Try.prog 3 #[.int .i64 r, .int .u64 (k0 : Int), .int .u64 ((was0 : Nat) : Int)] w fun v w' => v = .bool true ∧ Below w.heap.size w w' := by
 refine Ret.enter (P := Try.prog) (n := 80) (args := [.int .i64 r, .int .u64 (k0 : Int), .int .u64 ((was0 : Nat) : Int)]) (σ := [(0, .int .i64 r), (1, .int .u64 (k0 : Int)), (2, .int .u64 ((was0 : Nat) : Int))]) Try.func3 rfl rfl rfl rfl ?_
 have hS := St.start (ro := ro) hro
 have hsub : ∀ b, ro b → ro b ∨ w.heap.size ≤ b := fun _ h => .inl h
 refine W.seq (W.region (WL.assign rfl rfl rfl (WL.nil (N.seq (W.seq (W.region ?_))))))
 refine WL.callF (vs := []) Try.func5 (by kernel_rfl) rfl rfl rfl (shown17_ret (ro := ro) (fun b hb => (hS.snap b hb).1)) ?_
 rintro v w1 ⟨rfl, hbl⟩
 replace hS := hS.grow hbl
 refine WL.assign rfl rfl rfl (WL.nil (N.seq (W.seq (W.seq (W.region (WL.move rfl rfl rfl (WL.bin rfl rfl rfl rfl rfl (WL.move rfl rfl rfl ?_))))))))
 rcases (Bool.eq_false_or_eq_true (decide (r < 1))).symm with hg2 | hg2
 ·
  refine WL.set 14 (v' := .bool false) rfl (by rw [hg2]) ?_
  refine WL.set 15 (v' := .bool false) rfl (by rw [hg2]) ?_
  have hg2p : ¬ (r < 1) := by simpa using hg2
  refine WL.move rfl rfl rfl (WL.bin rfl rfl rfl rfl rfl (WL.pick (v := .bool (decide (31 < r))) rfl rfl rfl rfl rfl rfl (WL.nil (N.seq ?_))))
  refine W.cond rfl (fun hc3 => ?_) (fun hc3 => ?_)
  ·
   have hc3p : 31 < r := by simpa using hc3
   refine W.seq (W.region (WL.move rfl rfl rfl (WL.assign rfl rfl rfl (WL.nil (N.seq ?_)))))
   refine Fin.ret1 rfl (v := .bool true) rfl ?_
   exact ⟨rfl, hS.below⟩
  have hc3p : ¬ (31 < r) := by simpa using hc3
  refine W.skip (N.seq (W.seq (W.region (WL.move rfl rfl rfl (WL.move rfl rfl rfl ?_)))))
  have hrr : 1 ≤ r ∧ r ≤ 31 := (by omega); have hll := lit_len (r := r) hk0; have hnum := lit_num r k0; have hbl := opsBytes_len (lit r k0)
  refine WL.callF (vs := [.int .i64 r, .int .u64 (k0 : Int)]) Try.func6 (by kernel_rfl) rfl rfl rfl (lit_ret r k0 hri hk0 (ro := ro) (fun b hb => (hS.snap b hb).1)) ?_
  rintro vl w4 ⟨hvl, hbl⟩
  replace hS := hS.readNew hbl
  replace hvl := SlV.keep hvl (ro' := (roFrom ro w1 w4)) (w' := w4) (Q' := OpC) (fun x hx => ⟨.inr hx, rfl⟩) (fun _ _ h => h)
  obtain ⟨adl, capadl, rfl, hvla, hvlb, hvlc, hvld⟩ := id hvl
  have hvlm : (lit r k0).length ≤ 9223372036854775807 := by have h1 := hvla; have h2 := hvlb; unfold maxLen at h2; omega
  refine WL.assign rfl rfl rfl (WL.nil (N.seq (W.seq (W.region (WL.move rfl rfl rfl ?_)))))
  refine WL.callF (vs := [.slice adl ((lit r k0).length) capadl]) Try.func7 (by kernel_rfl) rfl rfl rfl (bytes_ret r (lit r k0) hnum hrr hll.2 (by omega) _ (ro := (roFrom ro w1 w4)) (fun b hb => (hS.snap b hb).1) (hvl.keep hS.alike fun _ _ q => q)) ?_
  rintro v w6 ⟨rfl, hbl⟩
  replace hS := hS.grow hbl
  refine WL.move rfl rfl rfl (WL.extract (v := .string ⟨(opsBytes (lit r k0)).toArray⟩) rfl rfl rfl rfl (WL.extract (v := .int .i64 0) rfl rfl rfl rfl (WL.assign rfl rfl rfl (WL.assign rfl rfl rfl (WL.nil (N.seq (W.seq (W.seq (W.region ?_)))))))))
  refine WL.move rfl rfl rfl (WL.bin rfl rfl rfl rfl rfl ?_)
  refine WL.set 29 (v' := .bool false) rfl rfl ?_
  refine WL.move rfl rfl rfl (WL.move rfl rfl rfl (WL.lenSlice Try.underlying24 rfl rfl rfl (WL.bin rfl rfl rfl rfl rfl ?_)))
  refine WL.set 33 (v' := .bool false) rfl (congrArg Value.bool (show (decide (12 < ((lit r k0).length : Int))) = false from decide_eq_false (show ¬ (12 < ((lit r k0).length : Int)) from by omega))) ?_
  refine WL.pick (v := .bool false) rfl rfl rfl rfl rfl rfl (WL.nil (N.seq (W.condF rfl (W.skip (N.seq (W.seq (W.region ?_)))))))
  refine WL.build (ps := []) (cs := [.int .u64 0, .int .u64 0, .int .u64 0, .int .u64 0, .int .u64 0, .int .u64 0, .int .u64 0, .int .u64 0, .int .u64 0, .int .u64 0, .int .u64 0, .int .u64 0, .int .u64 0, .int .u64 0, .int .u64 0, .int .u64 0, .int .u64 0, .int .u64 0, .int .u64 0, .int .u64 0, .int .u64 0, .int .u64 0, .int .u64 0, .int .u64 0, .int .u64 0, .int .u64 0, .int .u64 0, .int .u64 0, .int .u64 0, .int .u64 0, .int .u64 0, .int .u64 0, .int .u64 0, .slice none 0 0, .string ⟨#[]⟩, .string ⟨#[]⟩, .int .i64 0, .int .u64 0, .int .u64 0]) rfl rfl rfl (by kernel_rfl) ?_
  refine WL.set 35 (v' := .agg (machL (List.replicate 32 0) 0 (.slice none 0 0) 0).toArray) rfl rfl ?_
  refine WL.alloc (tyZero_spec zer_31) rfl rfl hS ?_
  clear hS; intro w8 b7 hb_b7 hS
  replace hS : St w w4 w8 (roFrom ro w1 w4) [(b7, .cells (machL (List.replicate 32 0) 0 (.slice none 0 0) 0).toArray 31 (0, 0))] [] := hS
  refine WL.store0 (machL (List.replicate 32 0) 0 (.slice none 0 0) 0).toArray rfl rfl rfl rfl (m_siz List.length_replicate siz_31) (m_one rfl) (show Nat.ble (0 + (machL (List.replicate 32 0) 0 (.slice none 0 0) 0).length) (machL (List.replicate 32 0) 0 (.slice none 0 0) 0).toArray.size = true by rw [m_len List.length_replicate]; exact m_ble List.length_replicate (by omega)) (m_whole (m_len List.length_replicate) (m_len List.length_replicate)) hS ?_
  clear hS; intro w9 hS
  refine WL.nil (N.seq (W.seq (W.region ?_)))
  refine WL.callF (vs := [.slice none 0 0, .int .u64 0, .int .i64 1, .int .i64 1]) Try.func8 (by kernel_rfl) rfl rfl rfl (map_ret (ro := (roFrom ro w1 w4)) (fun b hb => (hS.snap b hb).1)) ?_
  rintro v w10 ⟨xm, rfl, hvm, hbl⟩
  replace hS := hS.readNew hbl
  replace hvm := SlV.keep hvm (ro' := (roFrom (roFrom ro w1 w4) w9 w10)) (w' := w10) (Q' := PgC) (fun x hx => ⟨.inr hx, rfl⟩) (fun _ _ h => h)
  have hvmz := hvm
  obtain ⟨adm, capm, rfl, hvma, hvmb, hvmc, hvmd⟩ := id hvm
  refine WL.move rfl rfl rfl (WL.extract (v := .slice adm 1 capm) rfl rfl rfl rfl (WL.extract (v := .int .i64 0) rfl rfl rfl rfl (WL.fieldAddr fo_31_2 rfl rfl rfl ?_)))
  refine WL.store0 (machL (List.replicate 32 0) 0 (.slice adm 1 capm) 0).toArray rfl rfl rfl rfl siz_29 rfl (m_ble List.length_replicate (show 33 + 1 ≤ 39 by omega)) (m_setsl List.length_replicate) hS ?_
  clear hS; intro w12 hS
  refine WL.nil (N.seq (W.seq (W.region (WL.fieldAddr fo_31_2 rfl rfl rfl (WL.load1 (v := .slice adm 1 capm) one_29 rfl rfl rfl (hS.cell 0 rfl (m_at List.length_replicate 1)) (WL.move rfl rfl rfl ?_))))))
  refine WL.callF (vs := [.slice adm 1 capm, .int .u64 0, .string ⟨(opsBytes (lit r k0)).toArray⟩]) Try.func9 (by kernel_rfl) rfl rfl rfl (fill_ret zeroD zeroD_size (opsBytes (lit r k0)) (by omega) _ (ro := (roFrom (roFrom ro w1 w4) w9 w10)) (fun b hb => (hS.snap b hb).1) (hvm.keep hS.alike fun _ _ q => q)) ?_
  rintro v w13 ⟨xf, rfl, hvf, hbl⟩
  replace hS := hS.readNew hbl
  have hvfz := hvf
  obtain ⟨adf, capf, rfl, hvfa, hvfb, hvfc, hvfd⟩ := id hvf
  refine WL.move rfl rfl rfl (WL.extract (v := .slice adf 1 capf) rfl rfl rfl rfl (WL.extract (v := .int .i64 0) rfl rfl rfl rfl (WL.fieldAddr fo_31_2 rfl rfl rfl ?_)))
  refine WL.store0 (machL (List.replicate 32 0) 0 (.slice adf 1 capf) 0).toArray rfl rfl rfl rfl siz_29 rfl (m_ble List.length_replicate (show 33 + 1 ≤ 39 by omega)) (m_setsl List.length_replicate) hS ?_
  clear hS; intro w15 hS
  refine WL.nil (N.seq (W.seq (W.region (WL.move rfl rfl rfl (WL.move rfl rfl rfl (WL.fieldAddr fo_31_0 rfl rfl rfl ?_))))))
  refine WL.set 49 (v' := .int .i64 ((r.toNat : Nat) : Int)) rfl (congrArg _ (by omega)) ?_
  refine WL.indexArr (j := r.toNat) Try.underlying28 isz_22 rfl rfl rfl rfl (by omega) ?_
  refine WL.store0 (machL ((List.replicate 32 0).set r.toNat was0) 0 (.slice adf 1 capf) 0).toArray rfl rfl rfl rfl siz_22 rfl (m_ble List.length_replicate (show 0 + r.toNat * 1 + 1 ≤ 39 by omega)) (m_setx List.length_replicate (by omega)) hS ?_
  clear hS; intro w16 hS
  refine WL.nil (N.seq (W.seq (W.region (WL.loadN (cs := (machL ((List.replicate 32 0).set r.toNat was0) 0 (.slice adf 1 capf) 0)) agg_31 rfl rfl rfl (m_beq (by rw [List.length_set]; exact List.length_replicate)) (hS.cells 0 (off := 0) (m := 39) rfl (m_all (by rw [List.length_set]; exact List.length_replicate))) (WL.move rfl rfl rfl (WL.lenSlice Try.underlying24 rfl rfl rfl ?_))))))
  refine WL.callF (vs := [.agg (machL ((List.replicate 32 0).set r.toNat was0) 0 (.slice adf 1 capf) 0).toArray, .int .i64 ((lit r k0).length : Int)]) Try.func10 (by kernel_rfl) rfl rfl rfl ((by have h := run_ret (lit r k0) hnum hrr (fillD zeroD (opsBytes (lit r k0)) (opsBytes (lit r k0)).length) (fillD_size zeroD_size (Nat.le_refl _) (by omega)) (by omega) (fun i x hi => fetch hnum hrr zeroD hi) was0 _ (ro := (roFrom (roFrom (roFrom ro w1 w4) w9 w10) w12 w13)) (w := w16) (fun b hb => (hS.snap b hb).1) (hvf.keep hS.alike fun _ _ q => q); rw [reg_lit hrr.1 was0 k0 hk0] at h; exact h)) ?_
  rintro v w17 ⟨rfl, hbl⟩
  replace hS := hS.grow hbl
  refine WL.store0 (machL ((List.replicate 32 0).set r.toNat k0) (4 * (lit r k0).length) (.slice adf 1 capf) ((lit r k0).length)).toArray rfl rfl rfl rfl (m_siz (by rw [List.length_set]; exact List.length_replicate) siz_31) (m_one rfl) (show Nat.ble (0 + (machL ((List.replicate 32 0).set r.toNat k0) (4 * (lit r k0).length) (.slice adf 1 capf) ((lit r k0).length)).length) (machL ((List.replicate 32 0).set r.toNat was0) 0 (.slice adf 1 capf) 0).toArray.size = true by rw [m_len (by rw [List.length_set]; exact List.length_replicate)]; exact m_ble (by rw [List.length_set]; exact List.length_replicate) (by omega)) (m_whole (m_len (by rw [List.length_set]; exact List.length_replicate)) (m_len (by rw [List.length_set]; exact List.length_replicate))) hS ?_
  clear hS; intro w18 hS
  refine WL.nil (N.seq (W.seq (W.region (WL.move rfl rfl rfl (WL.move rfl rfl rfl (WL.fieldAddr fo_31_5 rfl rfl rfl (WL.load1 (v := .int .i64 0) one_3 rfl rfl rfl (hS.cell 0 rfl (m_at (by rw [List.length_set]; exact List.length_replicate) 4)) (WL.bin rfl rfl rfl rfl rfl ?_))))))))
  refine WL.set 61 (v' := .bool true) rfl rfl ?_
  refine WL.pick (v := .bool true) rfl rfl rfl rfl rfl rfl (WL.move rfl rfl rfl (WL.move rfl rfl rfl (WL.fieldAddr fo_31_0 rfl rfl rfl ?_)))
  refine WL.set 64 (v' := .int .i64 ((r.toNat : Nat) : Int)) rfl (congrArg _ (by omega)) ?_
  refine WL.indexArr (j := r.toNat) Try.underlying28 isz_22 rfl rfl rfl rfl (by omega) ?_
  refine WL.load1 (v := .int .u64 ((((List.replicate 32 0).set r.toNat k0).getD r.toNat 0 : Nat) : Int)) one_22 rfl rfl rfl (hS.cell 0 rfl (m_x (by rw [List.length_set]; exact List.length_replicate) (by omega))) ?_
  refine WL.set 67 (v' := .int .u64 ((k0 : Nat) : Int)) rfl (congrArg (fun n : Nat => Value.int .u64 (n : Int)) (getD_set (by rw [List.length_replicate]; omega))) ?_
  refine WL.move rfl rfl rfl (WL.bin rfl rfl rfl rfl rfl ?_)
  refine WL.set 69 (v' := .bool true) rfl (congrArg Value.bool (show (decide (((k0 : Nat) : Int) = (k0 : Int))) = true from decide_eq_true (show ((k0 : Nat) : Int) = (k0 : Int) from rfl))) ?_
  refine WL.pick (v := .bool true) rfl rfl rfl rfl rfl rfl (WL.move rfl rfl rfl (WL.fieldAddr fo_31_1 rfl rfl rfl (WL.load1 (v := .int .u64 ((4 * (lit r k0).length : Nat) : Int)) one_22 rfl rfl rfl (hS.cell 0 rfl (m_at (by rw [List.length_set]; exact List.length_replicate) 0)) (WL.move rfl rfl rfl (WL.lenSlice Try.underlying24 rfl rfl rfl ?_)))))
  refine WL.mul (c := 4 * ((lit r k0).length : Int)) rfl rfl rfl rfl (rfl) (by omega) ?_
  refine WL.convInt (by rw [Try.underlying3]; rfl) Try.underlying22 rfl rfl rfl ?_
  refine WL.set 77 (v' := .int .u64 ((4 * (lit r k0).length : Nat) : Int)) rfl (congrArg _ (wrapN64 (by omega) (by omega))) ?_
  refine WL.bin rfl rfl rfl rfl rfl ?_
  refine WL.set 78 (v' := .bool true) rfl (congrArg Value.bool (show (decide (((4 * (lit r k0).length : Nat) : Int) = ((4 * (lit r k0).length : Nat) : Int))) = true from decide_eq_true (show ((4 * (lit r k0).length : Nat) : Int) = ((4 * (lit r k0).length : Nat) : Int) from rfl))) ?_
  refine WL.pick (v := .bool true) rfl rfl rfl rfl rfl rfl (WL.assign rfl rfl rfl (WL.nil (N.seq ?_)))
  refine Fin.ret1 rfl (v := .bool true) rfl ?_
  exact ⟨rfl, hS.below⟩
 refine WL.set 14 (v' := .bool true) rfl (by rw [hg2]) ?_
 refine WL.set 15 (v' := .bool true) rfl (by rw [hg2]) ?_
 have hg2p : r < 1 := by simpa using hg2
 refine WL.skp rfl rfl (WL.skp rfl rfl (WL.pick (v := .bool true) rfl rfl rfl rfl rfl rfl (WL.nil (N.seq (W.condT rfl (W.seq (W.region (WL.move rfl rfl rfl (WL.assign rfl rfl rfl ?_)))))))))
 refine WL.nil (N.seq ?_)
 refine Fin.ret1 rfl (v := .bool true) rfl ?_
 exact ⟨rfl, hS.below⟩

theorem genNumber_ret (r k was : Int) (hri : inI r) (hku : inU k) (hwu : inU was) {w : World} {ro : Nat → Prop} (hro : ∀ b, ro b → b < w.heap.size) : Ret Try.prog 3 #[.int .i64 r, .int .u64 k, .int .u64 was] w fun v w' => v = .bool true ∧ Below w.heap.size w w' := by
  obtain ⟨k0, rfl⟩ : ∃ k0 : Nat, k = (k0 : Int) := ⟨k.toNat, by unfold inU at hku; omega⟩
  obtain ⟨w0, rfl⟩ : ∃ w0 : Nat, was = (w0 : Int) := ⟨was.toNat, by unfold inU at hwu; omega⟩
  exact genNumberN_ret r k0 w0 hri (by unfold inU at hku; omega) hro

end Go.Proofs.Ytcmmhfknkldmcaa
