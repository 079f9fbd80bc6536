/-
  Contracts of layer 17 (gen). No condition beyond those that each theorem states.
-/
import Derived.Test.YtcmmhfknkldmcaaDoorM2
namespace Go.Proofs.YtcmmhfknkldmcaaDoor
open Go.RowKit

theorem wrapU17 {x : Nat} (h : x < 18446744073709551616) : IntKind.u64.wrap (x : Int) = (x : Int) := by
  unfold IntKind.wrap
  simp only [IntKind.signed, IntKind.bits]
  have : (x : Int) % 2 ^ 64 = x := Int.emod_eq_of_lt (by omega) (by simp; omega)
  simpa using this
theorem litE_snoc {r d : Int} {E : List Int} (h : 0 < E.length) : litE r (E ++ [d]) = litE r E ++ litS r d := by
  cases E with
  | nil => simp at h
  | cons e E => unfold litE; simp [List.flatMap_append]
theorem lit_more {r : Int} {k : Nat} (h : ¬ k < 2048) : lit r k = lit r (k / 2048) ++ litS r ((k % 2048 : Nat) : Int) := by
  unfold lit
  rw [litD_more (by omega), List.reverse_cons, litE_snoc (by rw [List.length_reverse]; exact litD_pos _)]
theorem lit_one {r : Int} {k : Nat} (h : k < 2048) : lit r k = [⟨12, r, 0, 0, (k : Int)⟩] := by
  unfold lit
  rw [litD_last (by omega), show k % 2048 = k by omega]
  rfl

set_option maxRecDepth 10000 in
set_option maxHeartbeats 4000000 in
theorem rlit_step (r : Int) (k0 : Nat) (hr : inI r) (hk0 : k0 < 18446744073709551616) (ih : ∀ k1 : Nat, k1 < k0 → ∀ {w : World} {ro : Nat → Prop} (hro : ∀ b, ro b → b < w.heap.size), Ret Tryd.prog 71 #[.int .i64 r, .int .u64 (k1 : Int)] w fun v w' => ∃ cs, w'.ownsRow w.heap.size 36 5 v (lit r k1).length cs ∧ Chunks 5 OpC cs (lit r k1) ∧ (∀ b, v.ownBlock = some b → w.heap.size ≤ b ∧ b < w'.heap.size) ∧ Below w.heap.size w w') {w : World} {ro : Nat → Prop} (hro : ∀ b, ro b → b < w.heap.size) : Ret Tryd.prog 71 #[.int .i64 r, .int .u64 (k0 : Int)] w fun v w' => ∃ cs, w'.ownsRow w.heap.size 36 5 v (lit r k0).length cs ∧ Chunks 5 OpC cs (lit r k0) ∧ (∀ b, v.ownBlock = some b → w.heap.size ≤ b ∧ b < w'.heap.size) ∧ Below w.heap.size w w' := by
 refine Ret.enter (P := Tryd.prog) (n := 35) (args := [.int .i64 r, .int .u64 (k0 : Int)]) (σ := [(0, .int .i64 r), (1, .int .u64 (k0 : Int))]) Tryd.func71 rfl rfl rfl rfl ?_
 have hS := St.start (ro := ro) hro
 refine W.seq (W.region (WL.assign rfl rfl rfl (WL.nil (N.seq (W.seq (W.seq (W.region (WL.move rfl rfl rfl (WL.bin rfl rfl rfl rfl rfl ?_)))))))))
 refine WL.nil (N.seq ?_)
 refine W.cond rfl (fun hc1 => ?_) (fun hc1 => ?_)
 ·
  have hc1p : (k0 : Int) < 2048 := by simpa using hc1
  refine W.seq (W.region (WL.move rfl rfl rfl (WL.move rfl rfl rfl ?_)))
  refine WL.convInt (by rw [Tryd.underlying52]; rfl) Tryd.underlying2 rfl rfl rfl ?_
  refine WL.set 10 (v' := .int .i64 (k0 : Int)) rfl (congrArg _ (wrap64 (by omega))) ?_
  refine WL.build (ps := [(0, .int .i64 12), (1, .int .i64 r), (4, .int .i64 (k0 : Int))]) (cs := [.int .i64 12, .int .i64 r, .int .i64 0, .int .i64 0, .int .i64 (k0 : Int)]) rfl rfl rfl (by kernel_rfl) ?_
  refine WL.buildSlice (ps := [(0, .agg #[.int .i64 12, .int .i64 r, .int .i64 0, .int .i64 0, .int .i64 (k0 : Int)])]) (cs := [.int .i64 12, .int .i64 r, .int .i64 0, .int .i64 0, .int .i64 (k0 : Int)]) Tryd.underlying27 (tyZero_spec zer_36) rfl rfl rfl rfl (by kernel_rfl) hS ?_
  clear hS; intro w3 b2 hb_b2 hS
  replace hS := hS.toRow (n := 1) (cap := 1) (sz := 5) (xs := [.int .i64 12, .int .i64 r, .int .i64 0, .int .i64 0, .int .i64 (k0 : Int)]) rfl rfl (Nat.le_refl _) (by decide)
  refine WL.assign rfl rfl rfl (WL.nil (N.seq ?_))
  refine Fin.ret1 rfl (v := .slice (some ⟨b2, 0, none⟩) 1 1) rfl ?_
  have hl1 := lit_one (r := r) (show k0 < 2048 by omega)
  have hl9 : (lit r k0).length = 1 := by rw [hl1]; rfl
  have hch9 : Chunks 5 OpC ([.int .i64 12, .int .i64 r, .int .i64 0, .int .i64 0, .int .i64 (k0 : Int)]) (lit r k0) := by rw [hl1]; exact Chunks.snoc (sz := 5) (Q := OpC) Chunks.nil (x := (⟨12, r, 0, 0, (k0 : Int)⟩ : DOp)) (c := [.int .i64 12, .int .i64 r, .int .i64 0, .int .i64 0, .int .i64 (k0 : Int)]) rfl ⟨rfl, okO (inK (by omega)) hr (inK (by omega)) (inK (by omega)) (inK (by omega))⟩
  exact ⟨_, by rw [hl9]; exact hS.rows _ List.mem_cons_self, hch9, fun x hx => (hS.keys x (by simp only [keysOf, List.mem_append, List.mem_filterMap]; exact .inr ⟨_, List.mem_cons_self, hx⟩)).imp id (·.1), hS.below⟩
 have hc1p : ¬ ((k0 : Int) < 2048) := by simpa using hc1
 refine W.skip (N.seq (W.seq (W.region (WL.move rfl rfl rfl (WL.move rfl rfl rfl ?_)))))
 have hk2 : ¬ k0 < 2048 := by have h := hc1p; omega
 have hll := lit_len (r := r) hk0; have hl2 := lit_len (r := r) (k := k0 / 2048) (by omega); have hlm := lit_more (r := r) hk2; have hls := litS_len r ((k0 % 2048 : Nat) : Int)
 refine WL.quoC rfl rfl rfl rfl (by decide) ?_
 refine WL.set 15 (v' := .int .u64 ((k0 / 2048 : Nat) : Int)) rfl (congrArg _ (wrapU17 (x := k0 / 2048) (by omega))) ?_
 refine WL.callF (vs := [.int .i64 r, .int .u64 ((k0 / 2048 : Nat) : Int)]) Tryd.func71 (by kernel_rfl) rfl rfl rfl (ih (k0 / 2048) (by omega) (ro := ro) (fun b hb => (hS.snap b hb).1)) ?_
 rintro v w4 ⟨cr, how, hcr, _, hbl⟩
 replace hS := hS.callRow hbl how
 obtain ⟨adr, capr, rfl, _, _, _⟩ := row_shape how
 refine WL.move rfl rfl rfl (WL.move rfl rfl rfl ?_)
 refine WL.build (ps := [(0, .int .i64 17), (1, .int .i64 r), (2, .int .i64 r), (4, .int .i64 11)]) (cs := [.int .i64 17, .int .i64 r, .int .i64 r, .int .i64 0, .int .i64 11]) rfl rfl rfl (by kernel_rfl) ?_
 refine WL.buildSlice (ps := [(0, .agg #[.int .i64 17, .int .i64 r, .int .i64 r, .int .i64 0, .int .i64 11])]) (cs := [.int .i64 17, .int .i64 r, .int .i64 r, .int .i64 0, .int .i64 11]) Tryd.underlying27 (tyZero_spec zer_36) rfl rfl rfl rfl (by kernel_rfl) hS ?_
 clear hS; intro w6 b5 hb_b5 hS
 have hle1 : (lit r (k0 / 2048)).length + 1 ≤ 1000 := by omega
 refine WL.append (r := ⟨.slice adr ((lit r (k0 / 2048)).length) capr, 36, 5, (lit r (k0 / 2048)).length, cr⟩) (cs := [.int .i64 17, .int .i64 r, .int .i64 r, .int .i64 0, .int .i64 11]) 40 Tryd.underlying27 (tyZero_spec zer_36) byt_36 rfl rfl rfl rfl rfl rfl rfl rfl rfl hS (by unfold maxLen; simp only; omega) (by simp only; omega) ?_
 clear hS; intro w7 v8 hn_v8 hS
 have hrow : w7.ownsRow w.heap.size 36 5 v8 ((lit r (k0 / 2048)).length + 1) _ := hS.rows _ List.mem_cons_self
 obtain ⟨av8, cv8, rfl, hc1_v8, hc2_v8, hc3_v8⟩ := row_shape hrow
 clear hrow
 refine WL.assign rfl rfl rfl (WL.nil (N.seq (W.seq (W.seq (W.region (WL.move rfl rfl rfl ?_))))))
 refine WL.remC rfl rfl rfl rfl (by decide) ?_
 refine WL.set 23 (v' := .int .u64 ((k0 % 2048 : Nat) : Int)) rfl rfl ?_
 refine WL.bin rfl rfl rfl rfl rfl (WL.nil (N.seq ?_))
 refine W.cond rfl (fun hc9 => ?_) (fun hc9 => ?_)
 ·
  have hc9p : 0 < ((k0 % 2048 : Nat) : Int) := by simpa using hc9
  refine W.region (WL.move rfl rfl rfl (WL.move rfl rfl rfl (WL.move rfl rfl rfl (WL.move rfl rfl rfl ?_))))
  refine WL.remC rfl rfl rfl rfl (by decide) ?_
  refine WL.set 29 (v' := .int .u64 ((k0 % 2048 : Nat) : Int)) rfl rfl ?_
  refine WL.convInt (by rw [Tryd.underlying52]; rfl) Tryd.underlying2 rfl rfl rfl ?_
  refine WL.set 30 (v' := .int .i64 ((k0 % 2048 : Nat) : Int)) rfl (congrArg _ (wrap64 (by omega))) ?_
  refine WL.build (ps := [(0, .int .i64 12), (1, .int .i64 r), (2, .int .i64 r), (4, .int .i64 ((k0 % 2048 : Nat) : Int))]) (cs := [.int .i64 12, .int .i64 r, .int .i64 r, .int .i64 0, .int .i64 ((k0 % 2048 : Nat) : Int)]) rfl rfl rfl (by kernel_rfl) ?_
  refine WL.buildSlice (ps := [(0, .agg #[.int .i64 12, .int .i64 r, .int .i64 r, .int .i64 0, .int .i64 ((k0 % 2048 : Nat) : Int)])]) (cs := [.int .i64 12, .int .i64 r, .int .i64 r, .int .i64 0, .int .i64 ((k0 % 2048 : Nat) : Int)]) Tryd.underlying27 (tyZero_spec zer_36) rfl rfl rfl rfl (by kernel_rfl) hS ?_
  clear hS; intro w11 b10 hb_b10 hS
  have hle2 : (lit r (k0 / 2048)).length + 2 ≤ 1000 := by omega
  refine WL.append (r := ⟨.slice av8 ((lit r (k0 / 2048)).length + 1) cv8, 36, 5, (lit r (k0 / 2048)).length + 1, cr ++ ([.int .i64 17, .int .i64 r, .int .i64 r, .int .i64 0, .int .i64 11] : List Value)⟩) (cs := [.int .i64 12, .int .i64 r, .int .i64 r, .int .i64 0, .int .i64 ((k0 % 2048 : Nat) : Int)]) 40 Tryd.underlying27 (tyZero_spec zer_36) byt_36 rfl rfl rfl rfl rfl rfl rfl rfl rfl hS (by unfold maxLen; simp only; omega) (by simp only; omega) ?_
  clear hS; intro w12 v13 hn_v13 hS
  have hrow : w12.ownsRow w.heap.size 36 5 v13 ((lit r (k0 / 2048)).length + 1 + 1) _ := hS.rows _ List.mem_cons_self
  obtain ⟨av13, cv13, rfl, hc1_v13, hc2_v13, hc3_v13⟩ := row_shape hrow
  clear hrow
  refine WL.assign rfl rfl rfl (WL.nil (N.seq (W.seq (W.region (WL.move rfl rfl rfl (WL.assign rfl rfl rfl (WL.nil (N.seq ?_))))))))
  refine Fin.ret1 rfl (v := .slice av13 ((lit r (k0 / 2048)).length + 1 + 1) cv13) rfl ?_
  have hs9 : litS r ((k0 % 2048 : Nat) : Int) = [⟨17, r, r, 0, 11⟩, ⟨12, r, r, 0, ((k0 % 2048 : Nat) : Int)⟩] := by unfold litS; rw [if_neg (by omega)]
  have hl9 : (lit r k0).length = (lit r (k0 / 2048)).length + 1 + 1 := by rw [hlm, hs9, List.length_append]; rfl
  have hch9 : Chunks 5 OpC (cr ++ ([.int .i64 17, .int .i64 r, .int .i64 r, .int .i64 0, .int .i64 11] : List Value) ++ ([.int .i64 12, .int .i64 r, .int .i64 r, .int .i64 0, .int .i64 ((k0 % 2048 : Nat) : Int)] : List Value)) (lit r k0) := by rw [hlm, hs9]; have h := (hcr.snoc (x := (⟨17, r, r, 0, 11⟩ : DOp)) (c := [.int .i64 17, .int .i64 r, .int .i64 r, .int .i64 0, .int .i64 11]) rfl ⟨rfl, okO (inK (by omega)) hr hr (inK (by omega)) (inK (by omega))⟩).snoc (x := (⟨12, r, r, 0, ((k0 % 2048 : Nat) : Int)⟩ : DOp)) (c := [.int .i64 12, .int .i64 r, .int .i64 r, .int .i64 0, .int .i64 ((k0 % 2048 : Nat) : Int)]) rfl ⟨rfl, okO (inK (by omega)) hr hr (inK (by omega)) (inK (by omega))⟩; simpa using h
  exact ⟨_, by rw [hl9]; exact hS.rows _ List.mem_cons_self, hch9, fun x hx => (hS.keys x (by simp only [keysOf, List.mem_append, List.mem_filterMap]; exact .inr ⟨_, List.mem_cons_self, hx⟩)).imp id (·.1), hS.below⟩
 have hc9p : ¬ (0 < ((k0 % 2048 : Nat) : Int)) := by simpa using hc9
 refine W.skip (N.seq (W.seq (W.region (WL.move rfl rfl rfl (WL.assign rfl rfl rfl (WL.nil (N.seq ?_)))))))
 refine Fin.ret1 rfl (v := .slice av8 ((lit r (k0 / 2048)).length + 1) cv8) rfl ?_
 have hs9 : litS r ((k0 % 2048 : Nat) : Int) = [⟨17, r, r, 0, 11⟩] := by unfold litS; rw [if_pos (by omega)]
 have hl9 : (lit r k0).length = (lit r (k0 / 2048)).length + 1 := by rw [hlm, hs9, List.length_append]; rfl
 have hch9 : Chunks 5 OpC (cr ++ ([.int .i64 17, .int .i64 r, .int .i64 r, .int .i64 0, .int .i64 11] : List Value)) (lit r k0) := by rw [hlm, hs9]; exact (hcr.snoc (x := (⟨17, r, r, 0, 11⟩ : DOp)) (c := [.int .i64 17, .int .i64 r, .int .i64 r, .int .i64 0, .int .i64 11]) rfl ⟨rfl, okO (inK (by omega)) hr hr (inK (by omega)) (inK (by omega))⟩)
 exact ⟨_, by rw [hl9]; exact hS.rows _ List.mem_cons_self, hch9, fun x hx => (hS.keys x (by simp only [keysOf, List.mem_append, List.mem_filterMap]; exact .inr ⟨_, List.mem_cons_self, hx⟩)).imp id (·.1), hS.below⟩

theorem rlit_ret (r : Int) (k0 : Nat) (hr : inI r) : k0 < 18446744073709551616 → ∀ {w : World} {ro : Nat → Prop} (hro : ∀ b, ro b → b < w.heap.size), Ret Tryd.prog 71 #[.int .i64 r, .int .u64 (k0 : Int)] w fun v w' => ∃ cs, w'.ownsRow w.heap.size 36 5 v (lit r k0).length cs ∧ Chunks 5 OpC cs (lit r k0) ∧ (∀ b, v.ownBlock = some b → w.heap.size ≤ b ∧ b < w'.heap.size) ∧ Below w.heap.size w w' := by
  induction k0 using Nat.strongRecOn with
  | _ k ih => exact fun hk {w} {ro} hro => rlit_step r k hr hk (fun k1 h => ih k1 h (by omega)) hro

end Go.Proofs.YtcmmhfknkldmcaaDoor

namespace Go.Proofs.YtcmmhfknkldmcaaDoor
open Go.RowKit

set_option maxRecDepth 10000 in
set_option maxHeartbeats 4000000 in
theorem same01_ret (xs ys : List DOp) (vx vy : Value) {w : World} {ro : Nat → Prop} (hro : ∀ b, ro b → b < w.heap.size) (hx : SlV ro w 5 OpC vx xs) (hy : SlV ro w 5 OpC vy ys) : Ret Tryd.prog 38 #[vx, vy] w fun v w' => v = .bool (decide (xs = ys)) ∧ Below w.heap.size w w' := by
 obtain ⟨ada, capa, rfl, hxa, hxb, hxc, hxd⟩ := id hx
 have hxm : xs.length ≤ 9223372036854775807 := by have h1 := hxa; have h2 := hxb; unfold maxLen at h2; omega
 obtain ⟨adb, capb, rfl, hya, hyb, hyc, hyd⟩ := id hy
 have hym : ys.length ≤ 9223372036854775807 := by have h1 := hya; have h2 := hyb; unfold maxLen at h2; omega
 refine Ret.enter (P := Tryd.prog) (n := 26) (args := [.slice ada xs.length capa, .slice adb ys.length capb]) (σ := [(0, .slice ada xs.length capa), (1, .slice adb ys.length capb)]) Tryd.func38 rfl rfl rfl rfl ?_
 have hS := St.start (ro := ro) hro
 have hsub : ∀ b, ro b → ro b ∨ w.heap.size ≤ b := fun _ h => .inl h
 refine W.seq (W.region (WL.assign rfl rfl rfl (WL.nil (N.seq (W.seq (W.seq (W.region (WL.move rfl rfl rfl (WL.lenSlice Tryd.underlying27 rfl rfl rfl ?_)))))))))
 refine WL.move rfl rfl rfl (WL.lenSlice Tryd.underlying27 rfl rfl rfl (WL.bin rfl rfl rfl rfl rfl (WL.nil (N.seq ?_))))
 refine W.cond rfl (fun hc1 => ?_) (fun hc1 => ?_)
 ·
  have hc1p : ¬ ((xs.length : Int) = (ys.length : Int)) := by simpa using hc1
  refine W.seq (W.region (WL.assign rfl rfl rfl (WL.nil (N.seq ?_))))
  refine Fin.ret1 rfl (v := .bool false) rfl ?_
  have e : xs ≠ ys := by intro e; subst e; exact absurd hc1p (by simp)
  exact ⟨by rw [decide_eq_false e], hS.below⟩
 have hc1p : (xs.length : Int) = (ys.length : Int) := by simpa using hc1
 refine W.skip (N.seq (W.seq (W.seq (W.region (WL.assign rfl rfl rfl (WL.nil (N.seq (W.block ?_))))))))
 refine W.loop (α := Nat) (fun (i : Nat) => [(0, .slice ada xs.length capa), (1, .slice adb ys.length capb), (5, .int .i64 (i : Int))]) (fun (i : Nat) u => St w w u ro [] [] ∧ i ≤ xs.length ∧ xs.take i = ys.take i) (fun (i : Nat) => xs.length - i) 0 ⟨rfl, rfl, rfl, trivial⟩ ⟨hS, Nat.zero_le _, rfl⟩ ?_
 clear hS
 rintro i w2 ⟨hS, hil, htk⟩
 refine W.seq (W.seq (W.region (WL.move rfl rfl rfl (WL.move rfl rfl rfl (WL.lenSlice Tryd.underlying27 rfl rfl rfl (WL.bin rfl rfl rfl rfl rfl (WL.nil (N.seq ?_))))))))
 refine W.cond rfl (fun hc3 => ?_) (fun hc3 => ?_)
 ·
  have hc3p : (i : Int) < (xs.length : Int) := by simpa using hc3
  refine W.skip (N.seq (W.seq (W.block (W.seq ?_))))
  have hj4 : i < xs.length := by omega
  obtain ⟨x4, hx4, b4, o4, cs4, hE4, hr4, _, hc4, hQ4⟩ := opn hxd hj4
  obtain ⟨rfl, hop4⟩ := hQ4
  have hj5 : i < ys.length := by omega
  obtain ⟨x5, hx5, b5, o5, cs5, hE5, hr5, _, hc5, hQ5⟩ := opn hyd hj5
  obtain ⟨rfl, hop5⟩ := hQ5
  refine W.drawL (by kernel_rfl) 9 ((.q (.slice ada xs.length capa)) :: (.q (.int .i64 (i : Int))) :: (.q (.pointer (some ⟨b4, o4 + i * 5, none⟩))) :: (.q (.agg #[.int .i64 x4.kind, .int .i64 x4.rd, .int .i64 x4.a, .int .i64 x4.b, .int .i64 x4.imm])) :: (.q (.slice adb ys.length capb)) :: (.q (.int .i64 (i : Int))) :: (.q (.pointer (some ⟨b5, o5 + i * 5, none⟩))) :: (.q (.agg #[.int .i64 x5.kind, .int .i64 x5.rd, .int .i64 x5.a, .int .i64 x5.b, .int .i64 x5.imm])) :: (.q (.bool (!(decide (x4 = x5))))) :: []) (by kernel_rfl) (by kernel_rfl) [(0, .slice ada xs.length capa), (1, .slice adb ys.length capb), (5, .int .i64 (i : Int))] ⟨rfl, rfl, rfl, trivial⟩ (by kernel_rfl) hS ?_ ?_
  ·
   refine And.intro (fun β w hS => ?_) ?_
   ·
    refine WL.sub (σ' := [(0, .slice ada xs.length capa)]) ⟨rfl, trivial⟩ ?_
    refine WL.move rfl rfl rfl ?_
    exact WL.nil (N.cut () ⟨rfl, trivial⟩ (Below.refl _ _))
   refine And.intro (fun β w hS => ?_) ?_
   ·
    refine WL.sub (σ' := [(5, .int .i64 (i : Int))]) ⟨rfl, trivial⟩ ?_
    refine WL.move rfl rfl rfl ?_
    exact WL.nil (N.cut () ⟨rfl, trivial⟩ (Below.refl _ _))
   refine And.intro (fun β w hS => ?_) ?_
   ·
    refine WL.sub (σ' := [(17, .slice ada xs.length capa), (18, .int .i64 (i : Int))]) ⟨rfl, rfl, trivial⟩ ?_
    refine WL.indexAddrE (j := i) Tryd.underlying27 isz_36 rfl rfl rfl rfl hj4 hE4 ?_
    exact WL.nil (N.cut () ⟨rfl, trivial⟩ (Below.refl _ _))
   refine And.intro (fun β w hS => ?_) ?_
   ·
    refine WL.sub (σ' := [(19, .pointer (some ⟨b4, o4 + i * 5, none⟩))]) ⟨rfl, trivial⟩ ?_
    refine WL.loadN (cs := [.int .i64 x4.kind, .int .i64 x4.rd, .int .i64 x4.a, .int .i64 x4.b, .int .i64 x4.imm]) agg_36 rfl rfl rfl rfl (hS.roCells hr4 hc4) ?_
    exact WL.nil (N.cut () ⟨rfl, trivial⟩ (Below.refl _ _))
   refine And.intro (fun β w hS => ?_) ?_
   ·
    refine WL.sub (σ' := [(1, .slice adb ys.length capb)]) ⟨rfl, trivial⟩ ?_
    refine WL.move rfl rfl rfl ?_
    exact WL.nil (N.cut () ⟨rfl, trivial⟩ (Below.refl _ _))
   refine And.intro (fun β w hS => ?_) ?_
   ·
    refine WL.sub (σ' := [(5, .int .i64 (i : Int))]) ⟨rfl, trivial⟩ ?_
    refine WL.move rfl rfl rfl ?_
    exact WL.nil (N.cut () ⟨rfl, trivial⟩ (Below.refl _ _))
   refine And.intro (fun β w hS => ?_) ?_
   ·
    refine WL.sub (σ' := [(21, .slice adb ys.length capb), (22, .int .i64 (i : Int))]) ⟨rfl, rfl, trivial⟩ ?_
    refine WL.indexAddrE (j := i) Tryd.underlying27 isz_36 rfl rfl rfl rfl hj5 hE5 ?_
    exact WL.nil (N.cut () ⟨rfl, trivial⟩ (Below.refl _ _))
   refine And.intro (fun β w hS => ?_) ?_
   ·
    refine WL.sub (σ' := [(23, .pointer (some ⟨b5, o5 + i * 5, none⟩))]) ⟨rfl, trivial⟩ ?_
    refine WL.loadN (cs := [.int .i64 x5.kind, .int .i64 x5.rd, .int .i64 x5.a, .int .i64 x5.b, .int .i64 x5.imm]) agg_36 rfl rfl rfl rfl (hS.roCells hr5 hc5) ?_
    exact WL.nil (N.cut () ⟨rfl, trivial⟩ (Below.refl _ _))
   refine And.intro (fun β w hS => ?_) ?_
   ·
    refine WL.sub (σ' := [(20, .agg #[.int .i64 x4.kind, .int .i64 x4.rd, .int .i64 x4.a, .int .i64 x4.b, .int .i64 x4.imm]), (24, .agg #[.int .i64 x5.kind, .int .i64 x5.rd, .int .i64 x5.a, .int .i64 x5.b, .int .i64 x5.imm])]) ⟨rfl, rfl, trivial⟩ ?_
    refine WL.neAgg (decide (x4 = x5)) opFields Tryd.stoodInHeld36 Tryd.eqGuardType36 (eqOpT x4 x5) rfl rfl rfl rfl ?_
    exact WL.nil (N.cut () ⟨rfl, trivial⟩ (Below.refl _ _))
   trivial
  clear hS; intro w6 β hS
  refine WL.sub (σ' := [(0, .slice ada xs.length capa), (1, .slice adb ys.length capb), (5, .int .i64 (i : Int)), (25, .bool (!(decide (x4 = x5))))]) ⟨rfl, rfl, rfl, rfl, trivial⟩ ?_
  refine WL.nil (N.seq ?_)
  refine W.cond rfl (fun hc7 => ?_) (fun hc7 => ?_)
  ·
   have hc7p : ¬ (x4 = x5) := by simpa using hc7
   refine W.seq (W.region (WL.assign rfl rfl rfl (WL.nil (N.seq ?_))))
   refine Fin.ret1 rfl (v := .bool false) rfl ?_
   have e : xs ≠ ys := by intro e; subst e; rw [hx4] at hx5; have h := hc7p; simp_all
   exact ⟨by rw [decide_eq_false e], hS.below⟩
  have hc7p : x4 = x5 := by simpa using hc7
  refine W.skip (N.blk (N.seq (W.region (WL.move rfl rfl rfl ?_))))
  refine WL.add (c := (i : Int) + 1) rfl rfl rfl rfl (rfl) (by omega) ?_
  refine WL.assign rfl rfl rfl (WL.nil ?_)
  have hab : x4 = x5 := by simpa using hc7p
  exact N.loop (i + 1) ⟨rfl, rfl, rfl, trivial⟩ ⟨hS, by omega, by rw [take_next hx4, take_next hx5, htk, hab]⟩ (by first | omega | (simp only; omega))
 have hc3p : ¬ ((i : Int) < (xs.length : Int)) := by simpa using hc3
 refine W.exit (X.seq (X.loop (X.blk (N.seq (W.seq (W.region (WL.assign rfl rfl rfl (WL.nil (N.seq ?_)))))))))
 refine Fin.ret1 rfl (v := .bool true) rfl ?_
 have e : xs = ys := by have h1 : xs.take i = xs := List.take_of_length_le (by omega); have h2 : ys.take i = ys := List.take_of_length_le (by omega); rw [← h1, htk, h2]
 exact ⟨by rw [decide_eq_true e], hS.below⟩

end Go.Proofs.YtcmmhfknkldmcaaDoor
