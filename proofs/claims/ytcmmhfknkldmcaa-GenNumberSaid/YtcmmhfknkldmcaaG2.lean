/-
  Contracts of layer 17 (gen). No condition beyond those that each theorem states.
-/
import Derived.Test.YtcmmhfknkldmcaaG1
namespace Go.Proofs.Ytcmmhfknkldmcaa
open Go.RowKit
theorem byt_2 : (Try.prog.info? 2).map (·.bytes) = some 8 := by kernel_rfl
theorem byt_45 : (Try.prog.info? 45).map (·.bytes) = some 40 := by kernel_rfl
theorem zer_2 : tyZero Try.prog 2 = some [.int .i64 0] := by kernel_rfl
theorem zer_45 : tyZero Try.prog 45 = some [.int .i64 0, .int .i64 0, .int .i64 0, .int .i64 0, .int .i64 0] := by kernel_rfl
theorem litD_len {k n : Nat} : k * 2048 ^ n < 18446744073709551616 → n ≤ 5 → (n = 0 ∨ k ≠ 0) → (litD k).length + n ≤ 6 := by
  induction h : 6 - n generalizing k n with
  | zero => intro _ h2 _; omega
  | succ m ih =>
    intro h1 h2 h3
    by_cases hk : k / 2048 = 0
    · rw [litD_last hk]; simp; omega
    · rw [litD_more hk, List.length_cons]
      have h4 := litNext h1
      have h5 := litLen hk h4
      have := ih (k := k / 2048) (n := n + 1) (by omega) h4 (by omega) (.inr hk)
      omega
theorem litD_in {k : Nat} : ∀ x ∈ litD k, 0 ≤ x ∧ x < 2048 := by
  induction k using Nat.strongRecOn with
  | _ k ih =>
    intro x hx
    by_cases hk : k / 2048 = 0
    · rw [litD_last hk] at hx
      simp only [List.mem_cons, List.not_mem_nil, or_false] at hx
      subst hx; omega
    · rw [litD_more hk] at hx
      rcases List.mem_cons.1 hx with rfl | hx
      · omega
      · exact ih (k / 2048) (Nat.div_lt_self (by omega) (by decide)) x hx
theorem litS_len (r d : Int) : (litS r d).length ≤ 2 := by unfold litS; split <;> simp
theorem litF_len (r : Int) : ∀ (l : List Int), (l.flatMap (litS r)).length ≤ 2 * l.length
  | [] => by simp
  | d :: l => by have := litF_len r l; have := litS_len r d; simp only [List.flatMap_cons, List.length_append, List.length_cons]; omega
theorem lit_len {r : Int} {k : Nat} (hk : k < 18446744073709551616) : (lit r k).length ≤ 11 ∧ 0 < (lit r k).length := by
  have h1 := litD_len (k := k) (n := 0) (by simpa using hk) (by omega) (.inl rfl)
  have h2 := litF_len r ((litD k).reverse.drop 1)
  have h3 := litD_pos k
  unfold lit litE
  simp only [List.length_cons, List.length_drop, List.length_reverse] at *
  omega

set_option maxRecDepth 10000 in
set_option maxHeartbeats 4000000 in
theorem lit_ret (r : Int) (k0 : Nat) (hr : inI r) (hk0 : k0 < 18446744073709551616) {w : World} {ro : Nat → Prop} (hro : ∀ b, ro b → b < w.heap.size) : Ret Try.prog 6 #[.int .i64 r, .int .u64 (k0 : Int)] w fun v w' => SlV (fun b => w.heap.size ≤ b ∧ b < w'.heap.size) w' 5 OpC v (lit r k0) ∧ Below w.heap.size w w' := by
 refine Ret.enter (P := Try.prog) (n := 51) (args := [.int .i64 r, .int .u64 (k0 : Int)]) (σ := [(0, .int .i64 r), (1, .int .u64 (k0 : Int))]) Try.func6 rfl rfl rfl rfl ?_
 have hS := St.start (ro := ro) hro
 have hsub : ∀ b, ro b → ro b ∨ w.heap.size ≤ b := fun _ h => .inl h
 refine W.seq (W.region (WL.assign rfl rfl rfl (WL.nil (N.seq (W.seq (W.region (WL.assign rfl rfl rfl (WL.nil (N.seq ?_)))))))))
 refine W.seq (W.block ?_)
 replace hS := hS.row0 2 1
 refine W.loop (α := List Int × Nat × Value × Nat) (fun ⟨ds, kk, v, q⟩ => [(0, .int .i64 r), (1, .int .u64 (kk : Int)), (4, .slice none 0 0), (5, v)]) (fun ⟨ds, kk, v, q⟩ u => St w w u ro [] [⟨v, 2, 1, q, (iCells ds)⟩] ∧ q = ds.length ∧ litD k0 = ds ++ litD kk ∧ kk * 2048 ^ ds.length < 18446744073709551616 ∧ (ds = [] ∨ kk ≠ 0)) (fun ⟨ds, kk, v, q⟩ => kk) ([], k0, (.slice none 0 0), 0) ⟨rfl, rfl, rfl, rfl, trivial⟩ ⟨hS, rfl, rfl, by simpa using hk0, .inl rfl⟩ ?_
 clear hS
 rintro ⟨ds, kk, v, q⟩ w1 ⟨hS, hq, hD, hkb, hd0⟩
 have hrow : w1.ownsRow w.heap.size 2 1 v (q) _ := hS.rows _ List.mem_cons_self
 obtain ⟨adv, capv, rfl, hr1v, hr2v, hr3v⟩ := row_shape hrow
 clear hrow
 have hkl : kk < 18446744073709551616 := Nat.lt_of_le_of_lt (Nat.le_mul_of_pos_right kk (Nat.pow_pos (by decide))) hkb
 have hdl : ds.length ≤ 5 := by rcases hd0 with h | h; rw [h]; decide; exact litLen h hkb
 refine W.block (W.seq (W.region (WL.move rfl rfl rfl (WL.move rfl rfl rfl (WL.bin rfl rfl rfl rfl rfl ?_)))))
 refine WL.set 11 (v' := .int .u64 ((kk % 2048 : Nat) : Int)) rfl (congrArg _ (and2047 hkl)) ?_
 refine WL.convInt (by rw [Try.underlying22]; rfl) Try.underlying2 rfl rfl rfl ?_
 refine WL.set 12 (v' := .int .i64 ((kk % 2048 : Nat) : Int)) rfl (congrArg _ (wrap64 (by omega))) ?_
 refine WL.buildSlice (ps := [(0, .int .i64 ((kk % 2048 : Nat) : Int))]) (cs := [.int .i64 ((kk % 2048 : Nat) : Int)]) Try.underlying46 (tyZero_spec zer_2) rfl rfl rfl rfl (by kernel_rfl) hS ?_
 clear hS; intro w3 b2 hb_b2 hS
 have hle : q + 1 ≤ 6 := by omega
 refine WL.append (r := ⟨.slice adv q capv, 2, 1, q, (iCells ds)⟩) (cs := [.int .i64 ((kk % 2048 : Nat) : Int)]) 8 Try.underlying46 (tyZero_spec zer_2) byt_2 rfl rfl rfl rfl rfl rfl rfl rfl rfl hS (by unfold maxLen; simp only; omega) (by simp only; omega) ?_
 clear hS; intro w4 v5 hn_v5 hS
 have hrow : w4.ownsRow w.heap.size 2 1 v5 (q + 1) _ := hS.rows _ List.mem_cons_self
 obtain ⟨av5, cv5, rfl, hc1_v5, hc2_v5, hc3_v5⟩ := row_shape hrow
 clear hrow
 replace hS : St w w w4 ro [] [⟨.slice av5 (q + 1) cv5, 2, 1, q + 1, (iCells (ds ++ [((kk % 2048 : Nat) : Int)]))⟩] := by have h := hS; unfold iCells at h ⊢; rw [List.map_append]; exact h
 refine WL.assign rfl rfl rfl (WL.nil (N.seq (W.seq (W.region (WL.move rfl rfl rfl ?_)))))
 refine WL.shr rfl rfl rfl rfl (by omega) ?_
 refine WL.set 16 (v' := .int .u64 ((kk / 2048 : Nat) : Int)) rfl (congrArg _ (by rw [show (2 : Int) ^ min (11 : Int).toNat IntKind.u64.bits = 2048 by decide, Int.fdiv_eq_ediv_of_nonneg _ (by decide)]; rfl)) ?_
 refine WL.assign rfl rfl rfl (WL.nil (N.seq (W.seq (W.region (WL.move rfl rfl rfl (WL.bin rfl rfl rfl rfl rfl (WL.nil (N.seq ?_))))))))
 refine W.cond rfl (fun hc6 => ?_) (fun hc6 => ?_)
 ·
  have hc6p : ((kk / 2048 : Nat) : Int) = 0 := by simpa using hc6
  refine W.exit (X.blk_ne rfl (X.loop (X.blk (N.seq (W.seq (W.region (WL.move rfl rfl rfl ?_)))))))
  have hkz : kk / 2048 = 0 := by have h := hc6p; omega
  have hDl := litD_len (k := k0) (n := 0) (by simpa using hk0) (by omega) (.inl rfl)
  have hDe : ds ++ [((kk % 2048 : Nat) : Int)] = litD k0 := by rw [hD, litD_last hkz]
  rw [hDe] at hS
  have hql : (litD k0).length = q + 1 := by rw [← hDe, List.length_append, ← hq]; rfl
  obtain ⟨gq7, rfl⟩ : ∃ g, av5 = some ⟨g, 0, none⟩ := row_some (hS.rows _ (List.mem_of_getElem? (i := 0) rfl)) (by omega)
  refine WL.callF (vs := [.slice (some ⟨gq7, 0, none⟩) (q + 1) cv5]) Try.func16 (by kernel_rfl) rfl rfl rfl (rev_ret gq7 (q + 1) cv5 (litD k0) hql (by omega) hS) ?_
  clear hS; rintro v w8 ⟨rfl, hS⟩
  obtain ⟨E, hE⟩ : ∃ E, E = (litD k0).reverse := ⟨_, rfl⟩
  have hEl : q + 1 = E.length := by rw [hE, List.length_reverse, hql]
  rw [← hE, hEl] at hS
  have hE6 : E.length ≤ 6 := by omega
  have hE0 : 0 < E.length := by omega
  have hEin : ∀ x ∈ E, 0 ≤ x ∧ x < 2048 := fun x hx => litD_in x (by rw [hE] at hx; exact List.mem_reverse.1 hx)
  refine WL.set 5 (v' := .slice (some ⟨gq7, 0, none⟩) E.length cv5) rfl (by rw [hEl]) ?_
  have hrow10 := hS.rows _ List.mem_cons_self
  replace hS := hS.giveRow
  have hsv : SlV (fun x => ro x ∨ (.slice (some ⟨gq7, 0, none⟩) E.length cv5 : Value).ownBlock = some x) w8 1 RawC (.slice (some ⟨gq7, 0, none⟩) E.length cv5) E := row_slv hrow10 (iCells_raw E) rfl (fun b hb => .inr hb)
  have hed : Elems (fun x => ro x ∨ (.slice (some ⟨gq7, 0, none⟩) E.length cv5 : Value).ownBlock = some x) w8 1 RawC (some ⟨gq7, 0, none⟩) E := by obtain ⟨_, _, e, _, _, _, h⟩ := id hsv; cases e; exact h
  refine WL.nil (N.seq (W.seq (W.region (WL.move rfl rfl rfl (WL.move rfl rfl rfl ?_)))))
  have hj11 : 0 < E.length := hE0
  obtain ⟨x11, hx11, b11, o11, cs11, hE11, hr11, _, hc11, hQ11⟩ := opn hed hj11
  cases hQ11
  refine WL.indexAddrE (j := 0) Try.underlying46 isz_2 rfl rfl rfl rfl hj11 hE11 (WL.load1 (v := .int .i64 x11) one_2 rfl rfl rfl (hS.roCells hr11 hc11 0 _ rfl) ?_)
  refine WL.build (ps := [(0, .int .i64 12), (1, .int .i64 r), (4, .int .i64 x11)]) (cs := [.int .i64 12, .int .i64 r, .int .i64 0, .int .i64 0, .int .i64 x11]) rfl rfl rfl (by kernel_rfl) ?_
  refine WL.buildSlice (ps := [(0, .agg #[.int .i64 12, .int .i64 r, .int .i64 0, .int .i64 0, .int .i64 x11])]) (cs := [.int .i64 12, .int .i64 r, .int .i64 0, .int .i64 0, .int .i64 x11]) Try.underlying24 (tyZero_spec zer_45) rfl rfl rfl rfl (by kernel_rfl) hS ?_
  clear hS; intro w13 b12 hb_b12 hS
  replace hS := hS.toRow (n := 1) (cap := 1) (sz := 5) (xs := [.int .i64 12, .int .i64 r, .int .i64 0, .int .i64 0, .int .i64 x11]) rfl rfl (Nat.le_refl _) (by decide)
  refine WL.assign rfl rfl rfl (WL.nil (N.seq (W.seq (W.seq (W.region (WL.move rfl rfl rfl ?_))))))
  refine WL.sliceFrom (l := 1) Try.underlying46 isz_2 rfl rfl rfl rfl (by omega) ?_
  have hsT := slv_from hsv 1 (by omega)
  obtain ⟨T, hT⟩ : ∃ T, T = E.drop 1 := ⟨_, rfl⟩
  rw [← hT] at hsT
  obtain ⟨adT, capT, eT, hTa, hTb, hTc, hTd⟩ := hsT
  have hTl : T.length + 1 = E.length := by rw [hT, List.length_drop]; omega
  refine WL.set 28 (v' := .slice adT T.length capT) rfl eT ?_
  refine WL.lenSlice Try.underlying46 rfl rfl rfl (WL.move rfl rfl rfl (WL.nil (N.seq (W.block ?_))))
  have hx0e : E.getD 0 0 = x11 := by rw [List.getD_eq_getElem?_getD, hx11]; rfl
  have hx0b := hEin _ (List.mem_of_getElem? hx11)
  have hch0 : Chunks 5 OpC ([.int .i64 12, .int .i64 r, .int .i64 0, .int .i64 0, .int .i64 x11]) (⟨12, r, 0, 0, x11⟩ :: (T.take 0).flatMap (litS r)) := by simpa using Chunks.snoc (sz := 5) (Q := OpC) Chunks.nil (x := (⟨12, r, 0, 0, x11⟩ : DOp)) (c := [.int .i64 12, .int .i64 r, .int .i64 0, .int .i64 0, .int .i64 x11]) rfl ⟨rfl, okO (inK (by omega)) hr (inK (by omega)) (inK (by omega)) (inK (by omega))⟩
  refine W.loop (α := Nat × Value × List Value × Nat) (fun ⟨i, vo, co, q⟩ => [(0, .int .i64 r), (6, vo), (28, .slice adT T.length capT), (29, .int .i64 (T.length : Int)), (30, .int .i64 (i : Int))]) (fun ⟨i, vo, co, q⟩ u => St w w8 u (fun x => ro x ∨ (.slice (some ⟨gq7, 0, none⟩) E.length cv5 : Value).ownBlock = some x) [] [⟨vo, 45, 5, q, co⟩] ∧ i ≤ T.length ∧ Chunks 5 OpC co (⟨12, r, 0, 0, x11⟩ :: (T.take i).flatMap (litS r)) ∧ q = (⟨12, r, 0, 0, x11⟩ :: (T.take i).flatMap (litS r) : List DOp).length) (fun ⟨i, vo, co, q⟩ => T.length - i) (0, .slice (some ⟨b12, 0, none⟩) 1 1, [.int .i64 12, .int .i64 r, .int .i64 0, .int .i64 0, .int .i64 x11], 1) ⟨rfl, rfl, rfl, rfl, rfl, trivial⟩ ⟨hS, Nat.zero_le _, hch0, by simp⟩ ?_
  clear hS
  rintro ⟨i, vo, co, q⟩ w14 ⟨hS, hi, hch, hq⟩
  have hrow : w14.ownsRow w.heap.size 45 5 vo (q) _ := hS.rows _ List.mem_cons_self
  obtain ⟨advo, capvo, rfl, hr1vo, hr2vo, hr3vo⟩ := row_shape hrow
  clear hrow
  refine W.seq (W.region (WL.bin rfl rfl rfl rfl rfl (WL.nil (N.seq (W.seq ?_)))))
  refine W.cond rfl (fun hc15 => ?_) (fun hc15 => ?_)
  ·
   have hc15p : (i : Int) < (T.length : Int) := by simpa using hc15
   refine W.skip (N.seq (W.seq (W.block (W.seq (W.region ?_)))))
   have hj16 : i < T.length := by omega
   obtain ⟨x16, hx16, b16, o16, cs16, hE16, hr16, _, hc16, hQ16⟩ := opn hTd hj16
   cases hQ16
   refine WL.indexAddrE (j := i) Try.underlying46 isz_2 rfl rfl rfl rfl hj16 hE16 (WL.load1 (v := .int .i64 x16) one_2 rfl rfl rfl (hS.roCells hr16 hc16 0 _ rfl) (WL.assign rfl rfl rfl (WL.nil (N.seq (W.seq (W.region (WL.move rfl rfl rfl (WL.move rfl rfl rfl (WL.move rfl rfl rfl ?_)))))))))
   refine WL.build (ps := [(0, .int .i64 17), (1, .int .i64 r), (2, .int .i64 r), (4, .int .i64 11)]) (cs := [.int .i64 17, .int .i64 r, .int .i64 r, .int .i64 0, .int .i64 11]) rfl rfl rfl (by kernel_rfl) ?_
   refine WL.buildSlice (ps := [(0, .agg #[.int .i64 17, .int .i64 r, .int .i64 r, .int .i64 0, .int .i64 11])]) (cs := [.int .i64 17, .int .i64 r, .int .i64 r, .int .i64 0, .int .i64 11]) Try.underlying24 (tyZero_spec zer_45) rfl rfl rfl rfl (by kernel_rfl) hS ?_
   clear hS; intro w18 b17 hb_b17 hS
   have hle1 : q + 1 ≤ 13 := by have h := litF_len r (T.take i); have h2 := List.length_take_le i T; rw [List.length_cons] at hq; omega
   refine WL.append (r := ⟨.slice advo q capvo, 45, 5, q, co⟩) (cs := [.int .i64 17, .int .i64 r, .int .i64 r, .int .i64 0, .int .i64 11]) 40 Try.underlying24 (tyZero_spec zer_45) byt_45 rfl rfl rfl rfl rfl rfl rfl rfl rfl hS (by unfold maxLen; simp only; omega) (by simp only; omega) ?_
   clear hS; intro w19 v20 hn_v20 hS
   have hrow : w19.ownsRow w.heap.size 45 5 v20 (q + 1) _ := hS.rows _ List.mem_cons_self
   obtain ⟨av20, cv20, rfl, hc1_v20, hc2_v20, hc3_v20⟩ := row_shape hrow
   clear hrow
   refine WL.assign rfl rfl rfl (WL.nil (N.seq (W.seq (W.region (WL.move rfl rfl rfl (WL.bin rfl rfl rfl rfl rfl (WL.nil (N.seq ?_))))))))
   refine W.cond rfl (fun hc21 => ?_) (fun hc21 => ?_)
   ·
    have hc21p : ¬ (x16 = 0) := by simpa using hc21
    refine W.region (WL.move rfl rfl rfl (WL.move rfl rfl rfl (WL.move rfl rfl rfl (WL.move rfl rfl rfl ?_))))
    refine WL.build (ps := [(0, .int .i64 12), (1, .int .i64 r), (2, .int .i64 r), (4, .int .i64 x16)]) (cs := [.int .i64 12, .int .i64 r, .int .i64 r, .int .i64 0, .int .i64 x16]) rfl rfl rfl (by kernel_rfl) ?_
    refine WL.buildSlice (ps := [(0, .agg #[.int .i64 12, .int .i64 r, .int .i64 r, .int .i64 0, .int .i64 x16])]) (cs := [.int .i64 12, .int .i64 r, .int .i64 r, .int .i64 0, .int .i64 x16]) Try.underlying24 (tyZero_spec zer_45) rfl rfl rfl rfl (by kernel_rfl) hS ?_
    clear hS; intro w23 b22 hb_b22 hS
    have hle2 : q + 2 ≤ 13 := by have h := litF_len r (T.take i); have h2 := List.length_take_le i T; rw [List.length_cons] at hq; omega
    refine WL.append (r := ⟨.slice av20 (q + 1) cv20, 45, 5, q + 1, co ++ ([.int .i64 17, .int .i64 r, .int .i64 r, .int .i64 0, .int .i64 11] : List Value)⟩) (cs := [.int .i64 12, .int .i64 r, .int .i64 r, .int .i64 0, .int .i64 x16]) 40 Try.underlying24 (tyZero_spec zer_45) byt_45 rfl rfl rfl rfl rfl rfl rfl rfl rfl hS (by unfold maxLen; simp only; omega) (by simp only; omega) ?_
    clear hS; intro w24 v25 hn_v25 hS
    have hrow : w24.ownsRow w.heap.size 45 5 v25 (q + 1 + 1) _ := hS.rows _ List.mem_cons_self
    obtain ⟨av25, cv25, rfl, hc1_v25, hc2_v25, hc3_v25⟩ := row_shape hrow
    clear hrow
    refine WL.assign rfl rfl rfl (WL.nil (N.blk (N.seq (W.region ?_))))
    refine WL.add (c := (i : Int) + 1) rfl rfl rfl rfl (rfl) (by omega) ?_
    refine WL.move rfl rfl rfl (WL.nil ?_)
    have hxb := hEin x16 (by rw [hT] at hx16; exact List.mem_of_mem_drop (List.mem_of_getElem? hx16))
    have hch9 : Chunks 5 OpC (co ++ ([.int .i64 17, .int .i64 r, .int .i64 r, .int .i64 0, .int .i64 11] : List Value) ++ ([.int .i64 12, .int .i64 r, .int .i64 r, .int .i64 0, .int .i64 x16] : List Value)) (⟨12, r, 0, 0, x11⟩ :: (T.take (i + 1)).flatMap (litS r)) := by have h := (hch.snoc (x := (⟨17, r, r, 0, 11⟩ : DOp)) (c := [.int .i64 17, .int .i64 r, .int .i64 r, .int .i64 0, .int .i64 11]) rfl ⟨rfl, okO (inK (by omega)) hr hr (inK (by omega)) (inK (by omega))⟩).snoc (x := (⟨12, r, r, 0, x16⟩ : DOp)) (c := [.int .i64 12, .int .i64 r, .int .i64 r, .int .i64 0, .int .i64 x16]) rfl ⟨rfl, okO (inK (by omega)) hr hr (inK (by omega)) (inK (by omega))⟩; rw [take_next hx16, List.flatMap_append]; simp only [List.flatMap_cons, List.flatMap_nil, List.append_nil, litS]; rw [if_neg hc21p]; simpa using h
    have hq9 : q + 2 = (⟨12, r, 0, 0, x11⟩ :: (T.take (i + 1)).flatMap (litS r) : List DOp).length := by rw [take_next hx16, List.flatMap_append]; simp only [List.flatMap_cons, List.flatMap_nil, List.append_nil, litS]; rw [if_neg hc21p]; simp only [List.length_cons, List.length_append, List.length_nil] at hq ⊢; omega
    exact N.loop (i + 1, .slice av25 (q + 1 + 1) cv25, co ++ ([.int .i64 17, .int .i64 r, .int .i64 r, .int .i64 0, .int .i64 11] : List Value) ++ ([.int .i64 12, .int .i64 r, .int .i64 r, .int .i64 0, .int .i64 x16] : List Value), q + 2) ⟨rfl, rfl, rfl, rfl, rfl, trivial⟩ ⟨hS, by omega, hch9, hq9⟩ (by first | omega | (simp only; omega))
   have hc21p : x16 = 0 := by simpa using hc21
   refine W.skip (N.blk (N.seq (W.region ?_)))
   refine WL.add (c := (i : Int) + 1) rfl rfl rfl rfl (rfl) (by omega) ?_
   refine WL.move rfl rfl rfl (WL.nil ?_)
   have hxb := hEin x16 (by rw [hT] at hx16; exact List.mem_of_mem_drop (List.mem_of_getElem? hx16))
   have hch9 : Chunks 5 OpC (co ++ ([.int .i64 17, .int .i64 r, .int .i64 r, .int .i64 0, .int .i64 11] : List Value)) (⟨12, r, 0, 0, x11⟩ :: (T.take (i + 1)).flatMap (litS r)) := by have h := hch.snoc (x := (⟨17, r, r, 0, 11⟩ : DOp)) (c := [.int .i64 17, .int .i64 r, .int .i64 r, .int .i64 0, .int .i64 11]) rfl ⟨rfl, okO (inK (by omega)) hr hr (inK (by omega)) (inK (by omega))⟩; rw [take_next hx16, List.flatMap_append]; simp only [List.flatMap_cons, List.flatMap_nil, List.append_nil, litS]; rw [if_pos hc21p]; simpa using h
   have hq9 : q + 1 = (⟨12, r, 0, 0, x11⟩ :: (T.take (i + 1)).flatMap (litS r) : List DOp).length := by rw [take_next hx16, List.flatMap_append]; simp only [List.flatMap_cons, List.flatMap_nil, List.append_nil, litS]; rw [if_pos hc21p]; simp only [List.length_cons, List.length_append, List.length_nil] at hq ⊢; omega
   exact N.loop (i + 1, .slice av20 (q + 1) cv20, co ++ ([.int .i64 17, .int .i64 r, .int .i64 r, .int .i64 0, .int .i64 11] : List Value), q + 1) ⟨rfl, rfl, rfl, rfl, rfl, trivial⟩ ⟨hS, by omega, hch9, hq9⟩ (by first | omega | (simp only; omega))
  have hc15p : ¬ ((i : Int) < (T.length : Int)) := by simpa using hc15
  refine W.exit (X.seq (X.loop (X.blk (N.seq (W.seq (W.region (WL.move rfl rfl rfl (WL.assign rfl rfl rfl (WL.nil ?_)))))))))
  refine N.seq ?_
  refine Fin.ret1 rfl (v := .slice advo q capvo) rfl ?_
  rw [show i = T.length by omega, List.take_length] at hch hq
  have he : lit r k0 = ⟨12, r, 0, 0, x11⟩ :: T.flatMap (litS r) := by unfold lit litE; rw [← hE, hx0e, ← hT]
  rw [← he] at hch hq
  refine ⟨row_slv (hS.rows _ List.mem_cons_self) hch (by show q = _; exact hq) (fun x hx => ?_), hS.below⟩
  exact (hS.keys x (by simp only [keysOf, List.mem_append, List.mem_filterMap]; exact .inr ⟨_, List.mem_cons_self, hx⟩)).imp id (·.1)
 have hc6p : ¬ (((kk / 2048 : Nat) : Int) = 0) := by simpa using hc6
 refine W.skip (N.blk ?_)
 have hkz : ¬ kk / 2048 = 0 := by have h := hc6p; omega
 have hD9 : litD k0 = (ds ++ [((kk % 2048 : Nat) : Int)]) ++ litD (kk / 2048) := by rw [hD, litD_more hkz, List.append_assoc]; rfl
 exact N.loop (ds ++ [((kk % 2048 : Nat) : Int)], kk / 2048, .slice av5 (q + 1) cv5, q + 1) ⟨rfl, rfl, rfl, rfl, trivial⟩ ⟨hS, by rw [List.length_append, ← hq]; rfl, hD9, by rw [List.length_append]; exact litNext hkb, .inr hkz⟩ (by simp only; exact Nat.div_lt_self (by omega) (by decide))

end Go.Proofs.Ytcmmhfknkldmcaa
