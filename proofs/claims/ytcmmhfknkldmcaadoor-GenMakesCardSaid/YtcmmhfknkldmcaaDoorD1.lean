/-
  Contracts of layer 17 (gen). No condition beyond those that each theorem states.
-/
import Derived.Test.YtcmmhfknkldmcaaDoorM4
namespace Go.Proofs.YtcmmhfknkldmcaaDoor
open Go.RowKit

theorem rload_ret (r s : Int) (hr : -1000 ≤ r ∧ r ≤ 1000) (hs : -1000000 ≤ s ∧ s ≤ 1000000) {w : World} {ro : Nat → Prop} (hro : ∀ b, ro b → b < w.heap.size) : Ret Tryd.prog 72 #[.int .i64 r, .int .i64 s] w fun v w' => v = .agg (opL (ld r s)).toArray ∧ Below w.heap.size w w' := by
 refine Ret.enter (P := Tryd.prog) (n := 10) (args := [.int .i64 r, .int .i64 s]) (σ := [(0, .int .i64 r), (1, .int .i64 s)]) Tryd.func72 rfl rfl rfl rfl ?_
 have hS := St.start (ro := ro) hro
 refine W.seq (W.region ?_)
 refine WL.alloc (tyZero_spec zer_36) rfl rfl hS ?_
 clear hS; intro w2 b1 hb_b1 hS
 refine WL.nil (N.seq (W.seq (W.region (WL.move rfl rfl rfl (WL.move rfl rfl rfl ?_)))))
 refine WL.mul (c := 8 * s) rfl rfl rfl rfl (rfl) (by omega) ?_
 refine WL.add (c := 8 + (8 * s)) rfl rfl rfl rfl (rfl) (by omega) ?_
 refine WL.build (ps := [(0, .int .i64 19), (1, .int .i64 r), (2, .int .i64 2), (4, .int .i64 (8 + (8 * s)))]) (cs := [.int .i64 19, .int .i64 r, .int .i64 2, .int .i64 0, .int .i64 (8 + (8 * s))]) rfl rfl rfl (by kernel_rfl) ?_
 refine WL.store0 #[.int .i64 19, .int .i64 r, .int .i64 2, .int .i64 0, .int .i64 (8 + (8 * s))] rfl rfl rfl rfl siz_36 rfl rfl rfl hS ?_
 clear hS; intro w3 hS
 refine WL.nil (N.seq ?_)
 refine Fin.retC rfl (v := .agg #[.int .i64 19, .int .i64 r, .int .i64 2, .int .i64 0, .int .i64 (8 + (8 * s))]) rfl (tyAgg_run agg_36 (cs := [.int .i64 19, .int .i64 r, .int .i64 2, .int .i64 0, .int .i64 (8 + (8 * s))]) rfl (hS.cells 0 (m := 5) rfl rfl)) ?_
 exact ⟨rfl, hS.below⟩

theorem rsave_ret (r s : Int) (hr : -1000 ≤ r ∧ r ≤ 1000) (hs : -1000000 ≤ s ∧ s ≤ 1000000) {w : World} {ro : Nat → Prop} (hro : ∀ b, ro b → b < w.heap.size) : Ret Tryd.prog 54 #[.int .i64 r, .int .i64 s] w fun v w' => v = .agg (opL (sv r s)).toArray ∧ Below w.heap.size w w' := by
 refine Ret.enter (P := Tryd.prog) (n := 10) (args := [.int .i64 r, .int .i64 s]) (σ := [(0, .int .i64 r), (1, .int .i64 s)]) Tryd.func54 rfl rfl rfl rfl ?_
 have hS := St.start (ro := ro) hro
 refine W.seq (W.region ?_)
 refine WL.alloc (tyZero_spec zer_36) rfl rfl hS ?_
 clear hS; intro w2 b1 hb_b1 hS
 refine WL.nil (N.seq (W.seq (W.region (WL.move rfl rfl rfl (WL.move rfl rfl rfl ?_)))))
 refine WL.mul (c := 8 * s) rfl rfl rfl rfl (rfl) (by omega) ?_
 refine WL.add (c := 8 + (8 * s)) rfl rfl rfl rfl (rfl) (by omega) ?_
 refine WL.build (ps := [(0, .int .i64 21), (2, .int .i64 2), (3, .int .i64 r), (4, .int .i64 (8 + (8 * s)))]) (cs := [.int .i64 21, .int .i64 0, .int .i64 2, .int .i64 r, .int .i64 (8 + (8 * s))]) rfl rfl rfl (by kernel_rfl) ?_
 refine WL.store0 #[.int .i64 21, .int .i64 0, .int .i64 2, .int .i64 r, .int .i64 (8 + (8 * s))] rfl rfl rfl rfl siz_36 rfl rfl rfl hS ?_
 clear hS; intro w3 hS
 refine WL.nil (N.seq ?_)
 refine Fin.retC rfl (v := .agg #[.int .i64 21, .int .i64 0, .int .i64 2, .int .i64 r, .int .i64 (8 + (8 * s))]) rfl (tyAgg_run agg_36 (cs := [.int .i64 21, .int .i64 0, .int .i64 2, .int .i64 r, .int .i64 (8 + (8 * s))]) rfl (hS.cells 0 (m := 5) rfl rfl)) ?_
 exact ⟨rfl, hS.below⟩

set_option maxRecDepth 10000 in
set_option maxHeartbeats 1000000 in
theorem rhand_ret (slots args : List Int) (mn : Int) (vx vy : Value) {w : World} {ro : Nat → Prop} (hro : ∀ b, ro b → b < w.heap.size) (hx : IntsV ro w vx slots) (hy : IntsV ro w vy args) (hin : ∀ v ∈ args, 0 ≤ v ∧ v < (slots.length : Int)) (hsb : ∀ x ∈ slots, 0 ≤ x ∧ x ≤ 1000) (hmn : 0 ≤ mn ∧ mn ≤ 1000) (hl : args.length ≤ 1000) : Ret Tryd.prog 73 #[vx, vy, .int .i64 mn] w fun v w' => SlV (fun b => w.heap.size ≤ b ∧ b < w'.heap.size) w' 5 OpC v (hand17 slots mn args) ∧ Below w.heap.size w w' := by
 obtain ⟨ads, caps, rfl, hxa, hxb, hxc, hxd⟩ := id hx
 have hxm : slots.length ≤ 9223372036854775807 := by have h1 := hxa; have h2 := hxb; unfold maxLen at h2; omega
 obtain ⟨ada, capa, rfl, hya, hyb, hyc, hyd⟩ := id hy
 have hym : args.length ≤ 9223372036854775807 := by have h1 := hya; have h2 := hyb; unfold maxLen at h2; omega
 refine Ret.enter (P := Tryd.prog) (n := 47) (args := [.slice ads slots.length caps, .slice ada args.length capa, .int .i64 mn]) (σ := [(0, .slice ads slots.length caps), (1, .slice ada args.length capa), (2, .int .i64 mn)]) Tryd.func73 rfl rfl rfl rfl ?_
 have hS := St.start (ro := ro) hro
 refine W.seq (W.region (WL.assign rfl rfl rfl (WL.nil (N.seq (W.seq (W.region (WL.assign rfl rfl rfl (WL.nil (N.seq ?_)))))))))
 refine W.seq (W.seq (W.region (WL.assign rfl rfl rfl (WL.nil (N.seq (W.block ?_))))))
 replace hS := hS.row0 36 5
 refine W.loop (α := Nat × Value × List Value) (fun ⟨k, v0, cs⟩ => [(0, .slice ads slots.length caps), (1, .slice ada args.length capa), (2, .int .i64 mn), (6, .slice none 0 0), (7, v0), (8, .int .i64 (k : Int))]) (fun ⟨k, v0, cs⟩ u => St w w u ro [] [⟨v0, 36, 5, 2 * k, cs⟩] ∧ k ≤ args.length ∧ Chunks 5 OpC cs (handA slots mn (args.take k))) (fun ⟨k, v0, cs⟩ => args.length - k) (0, (.slice none 0 0), []) ⟨rfl, rfl, rfl, rfl, rfl, rfl, trivial⟩ ⟨hS, Nat.zero_le _, Chunks.nil⟩ ?_
 clear hS
 rintro ⟨k, v0, cs⟩ w1 ⟨hS, hk, hch⟩
 have hrow : w1.ownsRow w.heap.size 36 5 v0 (2 * k) _ := hS.rows _ List.mem_cons_self
 obtain ⟨adv0, capv0, rfl, hr1v0, hr2v0, hr3v0⟩ := row_shape hrow
 clear hrow
 refine W.seq (W.seq (W.region (WL.move rfl rfl rfl (WL.move rfl rfl rfl (WL.lenSlice Tryd.underlying55 rfl rfl rfl (WL.bin rfl rfl rfl rfl rfl (WL.nil (N.seq ?_))))))))
 refine W.cond rfl (fun hc2 => ?_) (fun hc2 => ?_)
 ·
  have hc2p : (k : Int) < (args.length : Int) := by simpa using hc2
  refine W.skip (N.seq (W.seq (W.block (W.region (WL.move rfl rfl rfl (WL.move rfl rfl rfl (WL.move rfl rfl rfl (WL.move rfl rfl rfl ?_))))))))
  have hj3 : k < args.length := by omega
  obtain ⟨x3, hx3, b3, o3, cs3, hE3, hr3, _, hc3, hQ3⟩ := opn hyd hj3
  obtain ⟨rfl, hi3⟩ := hQ3
  refine WL.indexAddrE (j := k) Tryd.underlying55 isz_3 rfl rfl rfl rfl hj3 hE3 (WL.load1 (v := .int .i64 x3) one_3 rfl rfl rfl (hS.roCells hr3 hc3 0 _ rfl) ?_)
  have hin3 := hin x3 (List.mem_of_getElem? hx3)
  refine WL.set 21 (v' := .int .i64 (x3.toNat : Int)) rfl (by congr 1; omega) ?_
  have hj4 : x3.toNat < slots.length := by omega
  obtain ⟨x4, hx4, b4, o4, cs4, hE4, hr4, _, hc4, hQ4⟩ := opn hxd hj4
  obtain ⟨rfl, hi4⟩ := hQ4
  refine WL.indexAddrE (j := x3.toNat) Tryd.underlying55 isz_3 rfl rfl rfl rfl hj4 hE4 (WL.load1 (v := .int .i64 x4) one_3 rfl rfl rfl (hS.roCells hr4 hc4 0 _ rfl) ?_)
  have hbs := hsb x4 (List.mem_of_getElem? hx4)
  refine WL.callF (vs := [.int .i64 5, .int .i64 x4]) Tryd.func72 (by kernel_rfl) rfl rfl rfl (rload_ret 5 x4 (by omega) (by omega) (ro := ro) (fun b hb => (hS.snap b hb).1)) ?_
  rintro v w5 ⟨rfl, hbl⟩
  replace hS := hS.grow hbl
  refine WL.move rfl rfl rfl (WL.move rfl rfl rfl ?_)
  refine WL.add (c := mn + (k : Int)) rfl rfl rfl rfl (rfl) (by omega) ?_
  refine WL.callF (vs := [.int .i64 5, .int .i64 (mn + (k : Int))]) Tryd.func54 (by kernel_rfl) rfl rfl rfl (rsave_ret 5 (mn + (k : Int)) (by omega) (by omega) (ro := ro) (fun b hb => (hS.snap b hb).1)) ?_
  rintro v w6 ⟨rfl, hbl⟩
  replace hS := hS.grow hbl
  refine WL.buildSlice (ps := [(0, .agg #[.int .i64 19, .int .i64 5, .int .i64 2, .int .i64 0, .int .i64 (8 + 8 * x4)]), (1, .agg #[.int .i64 21, .int .i64 0, .int .i64 2, .int .i64 5, .int .i64 (8 + 8 * (mn + (k : Int)))])]) (cs := [.int .i64 19, .int .i64 5, .int .i64 2, .int .i64 0, .int .i64 (8 + 8 * x4), .int .i64 21, .int .i64 0, .int .i64 2, .int .i64 5, .int .i64 (8 + 8 * (mn + (k : Int)))]) Tryd.underlying27 (tyZero_spec zer_36) rfl rfl rfl rfl (by kernel_rfl) hS ?_
  clear hS; intro w8 b7 hb_b7 hS
  refine WL.append (r := ⟨.slice adv0 (2 * k) capv0, 36, 5, 2 * k, cs⟩) (cs := [.int .i64 19, .int .i64 5, .int .i64 2, .int .i64 0, .int .i64 (8 + 8 * x4), .int .i64 21, .int .i64 0, .int .i64 2, .int .i64 5, .int .i64 (8 + 8 * (mn + (k : Int)))]) 40 Tryd.underlying27 (tyZero_spec zer_36) byt_36 rfl rfl rfl rfl rfl rfl rfl rfl rfl hS (by unfold maxLen; simp only; omega) (by simp only; omega) ?_
  clear hS; intro w9 v10 hn_v10 hS
  have hrow : w9.ownsRow w.heap.size 36 5 v10 (2 * k + 2) _ := hS.rows _ List.mem_cons_self
  obtain ⟨av10, cv10, rfl, hc1_v10, hc2_v10, hc3_v10⟩ := row_shape hrow
  clear hrow
  refine WL.assign rfl rfl rfl (WL.nil (N.blk (N.seq (W.region (WL.move rfl rfl rfl ?_)))))
  refine WL.add (c := (k : Int) + 1) rfl rfl rfl rfl (rfl) (by omega) ?_
  refine WL.assign rfl rfl rfl (WL.nil ?_)
  have hch2 : Chunks 5 OpC (cs ++ ([.int .i64 19, .int .i64 5, .int .i64 2, .int .i64 0, .int .i64 (8 + 8 * x4), .int .i64 21, .int .i64 0, .int .i64 2, .int .i64 5, .int .i64 (8 + 8 * (mn + (k : Int)))] : List Value)) (handA slots mn (args.take (k + 1))) := by rw [handA_next hx3, slotAt_some hx4]; rw [show cs ++ ([.int .i64 19, .int .i64 5, .int .i64 2, .int .i64 0, .int .i64 (8 + 8 * x4), .int .i64 21, .int .i64 0, .int .i64 2, .int .i64 5, .int .i64 (8 + 8 * (mn + (k : Int)))] : List Value) = (cs ++ opL (ld 5 x4)) ++ opL (sv 5 (mn + (k : Int))) by simp [opL, ld, sv]]; exact (hch.snoc rfl ⟨rfl, okld (by omega) (by omega)⟩).snoc rfl ⟨rfl, oksv (by omega) (by omega)⟩
  exact N.loop (k + 1, .slice av10 (2 * k + 2) cv10, cs ++ ([.int .i64 19, .int .i64 5, .int .i64 2, .int .i64 0, .int .i64 (8 + 8 * x4), .int .i64 21, .int .i64 0, .int .i64 2, .int .i64 5, .int .i64 (8 + 8 * (mn + (k : Int)))] : List Value)) ⟨rfl, rfl, rfl, rfl, rfl, rfl, trivial⟩ ⟨hS, by omega, hch2⟩ (by first | omega | (simp only; omega))
 have hc2p : ¬ ((k : Int) < (args.length : Int)) := by simpa using hc2
 refine W.exit (X.seq (X.loop (X.blk (N.seq (W.seq (W.seq (W.region (WL.assign rfl rfl rfl (WL.nil ?_)))))))))
 refine N.seq (W.block ?_)
 have hke : k = args.length := by omega
 subst hke
 rw [List.take_length] at hch
 refine W.loop (α := Nat × Value × List Value) (fun ⟨j, v1, cs⟩ => [(1, .slice ada args.length capa), (2, .int .i64 mn), (6, .slice none 0 0), (7, v1), (9, .int .i64 (j : Int))]) (fun ⟨j, v1, cs⟩ u => St w w u ro [] [⟨v1, 36, 5, 2 * args.length + 2 * j, cs⟩] ∧ j ≤ args.length ∧ Chunks 5 OpC cs (handA slots mn args ++ handB mn j)) (fun ⟨j, v1, cs⟩ => args.length - j) (0, .slice adv0 (2 * args.length) capv0, cs) ⟨rfl, rfl, rfl, rfl, rfl, trivial⟩ ⟨hS, Nat.zero_le _, by simpa [handB] using hch⟩ ?_
 clear hS
 rintro ⟨j, v1, cs⟩ w11 ⟨hS, hj, hch⟩
 have hrow : w11.ownsRow w.heap.size 36 5 v1 (2 * args.length + 2 * j) _ := hS.rows _ List.mem_cons_self
 obtain ⟨adv1, capv1, rfl, hr1v1, hr2v1, hr3v1⟩ := row_shape hrow
 clear hrow
 refine W.seq (W.seq (W.region (WL.move rfl rfl rfl (WL.move rfl rfl rfl (WL.lenSlice Tryd.underlying55 rfl rfl rfl (WL.bin rfl rfl rfl rfl rfl (WL.nil (N.seq ?_))))))))
 refine W.cond rfl (fun hc12 => ?_) (fun hc12 => ?_)
 ·
  have hc12p : (j : Int) < (args.length : Int) := by simpa using hc12
  refine W.skip (N.seq (W.seq (W.block (W.region (WL.move rfl rfl rfl (WL.move rfl rfl rfl (WL.move rfl rfl rfl ?_)))))))
  refine WL.add (c := mn + (j : Int)) rfl rfl rfl rfl (rfl) (by omega) ?_
  refine WL.callF (vs := [.int .i64 5, .int .i64 (mn + (j : Int))]) Tryd.func72 (by kernel_rfl) rfl rfl rfl (rload_ret 5 (mn + (j : Int)) (by omega) (by omega) (ro := ro) (fun b hb => (hS.snap b hb).1)) ?_
  rintro v w13 ⟨rfl, hbl⟩
  replace hS := hS.grow hbl
  refine WL.move rfl rfl rfl ?_
  refine WL.callF (vs := [.int .i64 5, .int .i64 (j : Int)]) Tryd.func54 (by kernel_rfl) rfl rfl rfl (rsave_ret 5 (j : Int) (by omega) (by omega) (ro := ro) (fun b hb => (hS.snap b hb).1)) ?_
  rintro v w14 ⟨rfl, hbl⟩
  replace hS := hS.grow hbl
  refine WL.buildSlice (ps := [(0, .agg #[.int .i64 19, .int .i64 5, .int .i64 2, .int .i64 0, .int .i64 (8 + 8 * (mn + (j : Int)))]), (1, .agg #[.int .i64 21, .int .i64 0, .int .i64 2, .int .i64 5, .int .i64 (8 + 8 * (j : Int))])]) (cs := [.int .i64 19, .int .i64 5, .int .i64 2, .int .i64 0, .int .i64 (8 + 8 * (mn + (j : Int))), .int .i64 21, .int .i64 0, .int .i64 2, .int .i64 5, .int .i64 (8 + 8 * (j : Int))]) Tryd.underlying27 (tyZero_spec zer_36) rfl rfl rfl rfl (by kernel_rfl) hS ?_
  clear hS; intro w16 b15 hb_b15 hS
  refine WL.append (r := ⟨.slice adv1 (2 * args.length + 2 * j) capv1, 36, 5, 2 * args.length + 2 * j, cs⟩) (cs := [.int .i64 19, .int .i64 5, .int .i64 2, .int .i64 0, .int .i64 (8 + 8 * (mn + (j : Int))), .int .i64 21, .int .i64 0, .int .i64 2, .int .i64 5, .int .i64 (8 + 8 * (j : Int))]) 40 Tryd.underlying27 (tyZero_spec zer_36) byt_36 rfl rfl rfl rfl rfl rfl rfl rfl rfl hS (by unfold maxLen; simp only; omega) (by simp only; omega) ?_
  clear hS; intro w17 v18 hn_v18 hS
  have hrow : w17.ownsRow w.heap.size 36 5 v18 (2 * args.length + 2 * j + 2) _ := hS.rows _ List.mem_cons_self
  obtain ⟨av18, cv18, rfl, hc1_v18, hc2_v18, hc3_v18⟩ := row_shape hrow
  clear hrow
  refine WL.assign rfl rfl rfl (WL.nil (N.blk (N.seq (W.region (WL.move rfl rfl rfl ?_)))))
  refine WL.add (c := (j : Int) + 1) rfl rfl rfl rfl (rfl) (by omega) ?_
  refine WL.assign rfl rfl rfl (WL.nil ?_)
  have hch2 : Chunks 5 OpC (cs ++ ([.int .i64 19, .int .i64 5, .int .i64 2, .int .i64 0, .int .i64 (8 + 8 * (mn + (j : Int))), .int .i64 21, .int .i64 0, .int .i64 2, .int .i64 5, .int .i64 (8 + 8 * (j : Int))] : List Value)) (handA slots mn args ++ handB mn (j + 1)) := by rw [handB_next, ← List.append_assoc, ← List.append_assoc]; rw [show cs ++ ([.int .i64 19, .int .i64 5, .int .i64 2, .int .i64 0, .int .i64 (8 + 8 * (mn + (j : Int))), .int .i64 21, .int .i64 0, .int .i64 2, .int .i64 5, .int .i64 (8 + 8 * (j : Int))] : List Value) = (cs ++ opL (ld 5 (mn + (j : Int)))) ++ opL (sv 5 (j : Int)) by simp [opL, ld, sv]]; exact (hch.snoc rfl ⟨rfl, okld (by omega) (by omega)⟩).snoc rfl ⟨rfl, oksv (by omega) (by omega)⟩
  exact N.loop (j + 1, .slice av18 (2 * args.length + 2 * j + 2) cv18, cs ++ ([.int .i64 19, .int .i64 5, .int .i64 2, .int .i64 0, .int .i64 (8 + 8 * (mn + (j : Int))), .int .i64 21, .int .i64 0, .int .i64 2, .int .i64 5, .int .i64 (8 + 8 * (j : Int))] : List Value)) ⟨rfl, rfl, rfl, rfl, rfl, trivial⟩ ⟨hS, by omega, hch2⟩ (by first | omega | (simp only; omega))
 have hc12p : ¬ ((j : Int) < (args.length : Int)) := by simpa using hc12
 refine W.exit (X.seq (X.loop (X.blk (N.seq (W.seq (W.region (WL.move rfl rfl rfl (WL.assign rfl rfl rfl (WL.nil ?_)))))))))
 refine N.seq ?_
 refine Fin.ret1 rfl (v := .slice adv1 (2 * args.length + 2 * j) capv1) rfl ?_
 have hje : j = args.length := by omega
 rw [hje] at hch
 refine ⟨row_slv (hS.rows _ List.mem_cons_self) hch (by rw [hand17_len]; simp only; omega) (fun x hx => ?_), hS.below⟩
 exact (hS.keys x (by simp only [keysOf, List.mem_append, List.mem_filterMap]; exact .inr ⟨_, List.mem_cons_self, hx⟩)).imp id (·.1)

end Go.Proofs.YtcmmhfknkldmcaaDoor
