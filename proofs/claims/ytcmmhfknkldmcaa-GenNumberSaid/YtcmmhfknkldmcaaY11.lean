/-
  Contracts of the document's machine, for the instructions of a number. No condition beyond those that each theorem states.
-/
import Derived.Test.YtcmmhfknkldmcaaY10
namespace Go.Proofs.Ytcmmhfknkldmcaa
open Go.RowKit

theorem byte_fill {l : List UInt8} {D : ByteArray} {j : Nat} {z : UInt8} (h : l[j]? = some z) : byteN (fillD D l l.length) j = z.toNat := by
  unfold byteN fillD
  rw [List.take_length, List.toList_toArray, List.getD_eq_getElem?_getD, List.getElem?_append_left (List.getElem?_eq_some_iff.1 h).1, h]
  rfl
theorem fetch {r : Int} {l : List DOp} (hn : ∀ o ∈ l, NumOp r o) (hr : 1 ≤ r ∧ r ≤ 31) (D : ByteArray) {i : Nat} {x : DOp} (h : l[i]? = some x) : partN (fillD D (opsBytes l) (opsBytes l).length) (4 * i) 4 = opWord x := by
  have hw := opWord_lt (hn x (List.mem_of_getElem? h)) hr
  have e0 := byte_fill (D := D) ((opsBytes_at h 0 (by omega)).trans rfl)
  have e1 := byte_fill (D := D) ((opsBytes_at h 1 (by omega)).trans rfl)
  have e2 := byte_fill (D := D) ((opsBytes_at h 2 (by omega)).trans rfl)
  have e3 := byte_fill (D := D) ((opsBytes_at h 3 (by omega)).trans rfl)
  have c0 : (b8 (opWord x % 256)).toNat = opWord x % 256 := by unfold b8; rw [UInt8.toNat_ofNat']; omega
  have c1 : (b8 (opWord x / 256 % 256)).toNat = opWord x / 256 % 256 := by unfold b8; rw [UInt8.toNat_ofNat']; omega
  have c2 : (b8 (opWord x / 65536 % 256)).toNat = opWord x / 65536 % 256 := by unfold b8; rw [UInt8.toNat_ofNat']; omega
  have c3 : (b8 (opWord x / 16777216)).toNat = opWord x / 16777216 := by unfold b8; rw [UInt8.toNat_ofNat']; omega
  simp only [partN]
  rw [e0, e1, e2, e3, c0, c1, c2, c3]
  omega
theorem reg_get {r a : Int} {v : Nat} (hr : 1 ≤ r ∧ r ≤ 31) (ha : a = 0 ∨ a = r) : ((List.replicate 32 0).set r.toNat v).getD a.toNat 0 = if a = 0 then 0 else v := by
  rcases ha with h | h
  · rw [if_pos h, h, List.getD_eq_getElem?_getD, List.getElem?_set_ne (by show r.toNat ≠ 0; omega)]; rfl
  · rw [if_neg (by omega), h, List.getD_eq_getElem?_getD, List.getElem?_set, if_pos rfl, if_pos (by rw [List.length_replicate]; omega)]; rfl
theorem getD_set {R : List Nat} {j v : Nat} (h : j < R.length) : (R.set j v).getD j 0 = v := by
  rw [List.getD_eq_getElem?_getD, List.getElem?_set, if_pos rfl, if_pos h]; rfl

set_option maxRecDepth 10000 in
set_option maxHeartbeats 4000000 in
theorem run_ret {r : Int} (l : List DOp) (hn : ∀ o ∈ l, NumOp r o) (hr : 1 ≤ r ∧ r ≤ 31) (D : ByteArray) (hD : D.size = 256) (hl : 4 * l.length ≤ 256) (hf : ∀ i x, l[i]? = some x → partN D (4 * i) 4 = opWord x) (was : Nat) (sl : Value) {w : World} {ro : Nat → Prop} (hro : ∀ b, ro b → b < w.heap.size) (hx : SlV ro w 3 PgC sl [D]) : Ret Try.prog 10 #[.agg (machL ((List.replicate 32 0).set r.toNat was) 0 sl 0).toArray, .int .i64 ((l.length : Nat) : Int)] w fun z w' => z = .agg (machL ((List.replicate 32 0).set r.toNat (l.foldl regN was)) (4 * l.length) sl l.length).toArray ∧ Below w.heap.size w w' := by
 have hxz := hx
 obtain ⟨ad, cap, rfl, hxa, hxb, hxc, hxd⟩ := id hx
 refine Ret.enter (P := Try.prog) (n := 14) (args := [.agg (machL ((List.replicate 32 0).set r.toNat was) 0 (.slice ad 1 cap) 0).toArray, .int .i64 ((l.length : Nat) : Int)]) (σ := [(0, .agg (machL ((List.replicate 32 0).set r.toNat was) 0 (.slice ad 1 cap) 0).toArray), (1, .int .i64 ((l.length : Nat) : Int))]) Try.func10 rfl rfl rfl rfl ?_
 have hS := St.start (ro := ro) hro
 have hsub : ∀ b, ro b → ro b ∨ w.heap.size ≤ b := fun _ h => .inl h
 refine W.seq (W.region ?_)
 refine WL.box (v := .agg (machL ((List.replicate 32 0).set r.toNat was) 0 (.slice ad 1 cap) 0).toArray) (cs := (machL ((List.replicate 32 0).set r.toNat was) 0 (.slice ad 1 cap) 0)) rfl rfl rfl rfl hS ?_
 clear hS; intro w2 b1 hb_b1 hS
 refine WL.alloc (tyZero_spec zer_31) rfl rfl hS ?_
 clear hS; intro w4 b3 hb_b3 hS
 replace hS : St w w w4 ro [(b3, .cells (machL (List.replicate 32 0) 0 (.slice none 0 0) 0).toArray 31 (0, 0)), (b1, .cells (machL ((List.replicate 32 0).set r.toNat was) 0 (.slice ad 1 cap) 0).toArray 31 (0, 0))] [] := hS
 refine WL.nil (N.seq (W.seq (W.seq (W.region (WL.assign rfl rfl rfl (WL.nil (N.seq (W.block ?_))))))))
 refine W.loop (α := Nat) (fun (i : Nat) => [(1, .int .i64 ((l.length : Nat) : Int)), (2, .pointer (some ⟨b1, 0, none⟩)), (4, .pointer (some ⟨b3, 0, none⟩)), (5, .int .i64 (i : Int))]) (fun (i : Nat) u => St w w u ro [(b3, .cells (machL (List.replicate 32 0) 0 (.slice none 0 0) 0).toArray 31 (0, 0)), (b1, .cells (machL ((List.replicate 32 0).set r.toNat ((l.take i).foldl regN was)) (4 * i) (.slice ad 1 cap) i).toArray 31 (0, 0))] [] ∧ i ≤ l.length) (fun (i : Nat) => l.length - i) 0 ⟨rfl, rfl, rfl, rfl, trivial⟩ ⟨hS, Nat.zero_le _⟩ ?_
 clear hS
 rintro i w5 ⟨hS, hi⟩
 refine W.seq (W.seq (W.region (WL.move rfl rfl rfl (WL.move rfl rfl rfl (WL.bin rfl rfl rfl rfl rfl (WL.nil (N.seq ?_)))))))
 refine W.cond rfl (fun hc6 => ?_) (fun hc6 => ?_)
 ·
  have hc6p : (i : Int) < ((l.length : Nat) : Int) := by simpa using hc6
  refine W.skip (N.seq (W.seq (W.block (W.region (WL.loadN (cs := (machL ((List.replicate 32 0).set r.toNat ((l.take i).foldl regN was)) (4 * i) (.slice ad 1 cap) i)) agg_31 rfl rfl rfl (m_beq (by rw [List.length_set]; exact List.length_replicate)) (hS.cells 1 (off := 0) (m := 39) rfl (m_all (by rw [List.length_set]; exact List.length_replicate))) ?_)))))
  obtain ⟨x, hxi⟩ : ∃ x, l[i]? = some x := ⟨_, List.getElem?_eq_getElem (by omega)⟩
  have hnum := hn _ (List.mem_of_getElem? hxi)
  have hax := reg_get (v := (l.take i).foldl regN was) hr hnum.a
  have hset : ((List.replicate 32 0).set r.toNat ((l.take i).foldl regN was)).set r.toNat (regN ((l.take i).foldl regN was) x) = (List.replicate 32 0).set r.toNat ((l.take (i + 1)).foldl regN was) := by rw [List.set_set, take_next hxi, List.foldl_append]; rfl
  refine WL.callF (vs := [.agg (machL ((List.replicate 32 0).set r.toNat ((l.take i).foldl regN was)) (4 * i) (.slice ad 1 cap) i).toArray]) Try.func21 (by kernel_rfl) rfl rfl rfl ((by have h := step_ret x hnum hr D hD ((List.replicate 32 0).set r.toNat ((l.take i).foldl regN was)) (by rw [List.length_set]; exact List.length_replicate) (by rw [List.getElem?_set_ne (by omega)]; rfl) ((l.take i).foldl regN was) hax (4 * i) (by omega) (by omega) (hf i x hxi) i (by omega) _ (ro := ro) (w := w5) (fun b hb => (hS.snap b hb).1) (hx.keep hS.alike fun _ _ q => q); rw [hset, show 4 * i + 4 = 4 * (i + 1) by omega] at h; exact h)) ?_
  rintro v w7 ⟨rfl, hbl⟩
  replace hS := hS.grow hbl
  refine WL.store1 (machL ((List.replicate 32 0).set r.toNat ((l.take (i + 1)).foldl regN was)) (4 * (i + 1)) (.slice ad 1 cap) (i + 1)).toArray rfl rfl rfl rfl (m_siz (by rw [List.length_set]; exact List.length_replicate) siz_31) (m_one rfl) (show Nat.ble (0 + (machL ((List.replicate 32 0).set r.toNat ((l.take (i + 1)).foldl regN was)) (4 * (i + 1)) (.slice ad 1 cap) (i + 1)).length) (machL ((List.replicate 32 0).set r.toNat ((l.take i).foldl regN was)) (4 * i) (.slice ad 1 cap) i).toArray.size = true by rw [m_len (by rw [List.length_set]; exact List.length_replicate)]; exact m_ble (by rw [List.length_set]; exact List.length_replicate) (by omega)) (m_whole (m_len (by rw [List.length_set]; exact List.length_replicate)) (m_len (by rw [List.length_set]; exact List.length_replicate))) hS ?_
  clear hS; intro w8 hS
  refine WL.nil (N.blk (N.seq (W.region (WL.move rfl rfl rfl ?_))))
  refine WL.add (c := (i : Int) + 1) rfl rfl rfl rfl (rfl) (by omega) ?_
  refine WL.assign rfl rfl rfl (WL.nil ?_)
  exact N.loop (i + 1) ⟨rfl, rfl, rfl, rfl, trivial⟩ ⟨hS, by omega⟩ (by first | omega | (simp only; omega))
 have hc6p : ¬ ((i : Int) < ((l.length : Nat) : Int)) := by simpa using hc6
 refine W.exit (X.seq (X.loop (X.blk (N.seq (W.seq (W.region (WL.loadN (cs := (machL ((List.replicate 32 0).set r.toNat ((l.take i).foldl regN was)) (4 * i) (.slice ad 1 cap) i)) agg_31 rfl rfl rfl (m_beq (by rw [List.length_set]; exact List.length_replicate)) (hS.cells 1 (off := 0) (m := 39) rfl (m_all (by rw [List.length_set]; exact List.length_replicate))) ?_)))))))
 refine WL.store0 (machL ((List.replicate 32 0).set r.toNat ((l.take i).foldl regN was)) (4 * i) (.slice ad 1 cap) i).toArray rfl rfl rfl rfl (m_siz (by rw [List.length_set]; exact List.length_replicate) siz_31) (m_one rfl) (show Nat.ble (0 + (machL ((List.replicate 32 0).set r.toNat ((l.take i).foldl regN was)) (4 * i) (.slice ad 1 cap) i).length) (machL (List.replicate 32 0) 0 (.slice none 0 0) 0).toArray.size = true by rw [m_len (by rw [List.length_set]; exact List.length_replicate)]; exact m_ble List.length_replicate (by omega)) (m_whole (m_len List.length_replicate) (m_len (by rw [List.length_set]; exact List.length_replicate))) hS ?_
 clear hS; intro w9 hS
 refine WL.nil (N.seq ?_)
 refine Fin.retC rfl (v := .agg (machL ((List.replicate 32 0).set r.toNat ((l.take i).foldl regN was)) (4 * i) (.slice ad 1 cap) i).toArray) rfl (tyAgg_run agg_31 (cs := (machL ((List.replicate 32 0).set r.toNat ((l.take i).foldl regN was)) (4 * i) (.slice ad 1 cap) i)) (m_beq (by rw [List.length_set]; exact List.length_replicate)) (hS.cells 0 (off := 0) (m := 39) rfl (m_all (by rw [List.length_set]; exact List.length_replicate)))) ?_
 have hie : i = l.length := by omega
 subst hie
 rw [List.take_length]
 exact ⟨rfl, hS.below⟩

end Go.Proofs.Ytcmmhfknkldmcaa
