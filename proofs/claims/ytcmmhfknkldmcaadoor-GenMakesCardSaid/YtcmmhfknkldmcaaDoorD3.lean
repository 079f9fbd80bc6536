/-
  Contracts of layer 17 (gen). No condition beyond those that each theorem states.
-/
import Derived.Test.YtcmmhfknkldmcaaDoorD2
namespace Go.Proofs.YtcmmhfknkldmcaaDoor
open Go.RowKit
theorem fo_99_2 : fOff Tryd.prog 99 2 2 = true := by kernel_rfl
theorem fo_99_3 : fOff Tryd.prog 99 3 3 = true := by kernel_rfl
theorem one_rel {c : List Value} {x : DRel} (h : RelC c x) : ∀ u ∈ c, u.oneCell' = true := by
  rw [h.1]; intro u hu
  simp only [relL, List.mem_cons, List.not_mem_nil, or_false] at hu
  rcases hu with rfl | rfl | rfl <;> rfl

set_option maxRecDepth 10000 in
set_option maxHeartbeats 4000000 in
theorem rend_ret (slots : List Int) (t : DTerm) (mn fr : Int) (vsl : Value) (ct : List Value) {w : World} {ro : Nat → Prop} (hro : ∀ b, ro b → b < w.heap.size) (ht : TermC ro w ct t) (hsl : SlV ro w 1 IntC vsl slots) (hua : ∀ v ∈ t.args, 0 ≤ v ∧ v < slots.length) (hue : ∀ v ∈ t.elses, 0 ≤ v ∧ v < slots.length) (huv : t.kind ≠ 1 → 0 ≤ t.a ∧ t.a < slots.length) (hkd : t.kind = 1 ∨ t.kind = 2 ∨ t.kind = 3) (hsb : ∀ z ∈ slots, 0 ≤ z ∧ z ≤ 1000) (hmn : 0 ≤ mn ∧ mn ≤ 1000) (hal : t.args.length ≤ 6) (hel : t.elses.length ≤ 6) (hpk : POk (tail17 slots mn fr t)) : Ret Tryd.prog 58 #[.agg ct.toArray, vsl, .int .i64 mn, .int .i64 fr] w fun v w' => ∃ cs, v = .agg cs.toArray ∧ PieceC (fun b => w.heap.size ≤ b ∧ b < w'.heap.size) w' cs (tail17 slots mn fr t) ∧ Below w.heap.size w w' := by
 obtain ⟨sp, sq, rfl, ht1, ht2, htk, hta, htt, hte⟩ := id ht
 obtain ⟨adp, capp, rfl, htpa, htpb, htpc, htpd⟩ := id ht1
 have htpm : t.args.length ≤ 9223372036854775807 := by have h1 := htpa; have h2 := htpb; unfold maxLen at h2; omega
 obtain ⟨adq, capq, rfl, htqa, htqb, htqc, htqd⟩ := id ht2
 have htqm : t.elses.length ≤ 9223372036854775807 := by have h1 := htqa; have h2 := htqb; unfold maxLen at h2; omega
 obtain ⟨ads, caps, rfl, hsla, hslb, hslc, hsld⟩ := id hsl
 have hslm : slots.length ≤ 9223372036854775807 := by have h1 := hsla; have h2 := hslb; unfold maxLen at h2; omega
 refine Ret.enter (P := Tryd.prog) (n := 104) (args := [.agg #[.int .i64 t.kind, .int .i64 t.a, .int .i64 t.to, .slice adp t.args.length capp, .int .i64 t.els, .slice adq t.elses.length capq], .slice ads slots.length caps, .int .i64 mn, .int .i64 fr]) (σ := [(0, .agg #[.int .i64 t.kind, .int .i64 t.a, .int .i64 t.to, .slice adp t.args.length capp, .int .i64 t.els, .slice adq t.elses.length capq]), (1, .slice ads slots.length caps), (2, .int .i64 mn), (3, .int .i64 fr)]) Tryd.func58 rfl rfl rfl rfl ?_
 have hS := St.start (ro := ro) hro
 have hhl := hand17_len slots mn t.args; have hhe := hand17_len slots mn t.elses
 have hsub : ∀ b, ro b → ro b ∨ w.heap.size ≤ b := fun _ h => .inl h
 refine W.seq (W.region ?_)
 refine WL.box (v := .agg #[.int .i64 t.kind, .int .i64 t.a, .int .i64 t.to, .slice adp t.args.length capp, .int .i64 t.els, .slice adq t.elses.length capq]) (cs := [.int .i64 t.kind, .int .i64 t.a, .int .i64 t.to, .slice adp t.args.length capp, .int .i64 t.els, .slice adq t.elses.length capq]) rfl rfl rfl rfl hS ?_
 clear hS; intro w2 b1 hb_b1 hS
 refine WL.alloc (tyZero_spec zer_99) rfl rfl hS ?_
 clear hS; intro w4 b3 hb_b3 hS
 refine WL.nil (N.seq (W.seq (W.region ?_)))
 refine WL.build (ps := []) (cs := [.slice none 0 0, .slice none 0 0, .slice none 0 0, .slice none 0 0]) rfl rfl rfl (by kernel_rfl) ?_
 refine WL.alloc (tyZero_spec zer_99) rfl rfl hS ?_
 clear hS; intro w6 b5 hb_b5 hS
 refine WL.store0 #[.slice none 0 0, .slice none 0 0, .slice none 0 0, .slice none 0 0] rfl rfl rfl rfl siz_99 rfl rfl rfl hS ?_
 clear hS; intro w7 hS
 refine WL.nil (N.seq (W.seq (W.seq (W.region (WL.fieldAddr fo_57_0 rfl rfl rfl (WL.load1 (v := .int .i64 t.kind) one_3 rfl rfl rfl (hS.cell 2 rfl rfl) (WL.bin rfl rfl rfl rfl rfl (WL.nil (N.seq ?_)))))))))
 refine W.cond rfl (fun hc8 => ?_) (fun hc8 => ?_)
 ·
  have hc8p : t.kind = 3 := by simpa using hc8
  refine W.seq (W.region (WL.move rfl rfl rfl (WL.fieldAddr fo_57_1 rfl rfl rfl (WL.load1 (v := .int .i64 t.a) one_3 rfl rfl rfl (hS.cell 2 rfl rfl) ?_))))
  have hv_a := huv (by omega)
  have hvn_a : ((t.a.toNat : Nat) : Int) = t.a := by omega
  refine WL.set 17 (v' := .int .i64 (t.a.toNat : Int)) rfl (congrArg _ (by omega)) ?_
  have hj9 : t.a.toNat < slots.length := by omega
  obtain ⟨x9, hx9, b9, o9, cs9, hE9, hr9, _, hc9, hQ9⟩ := opn hsld hj9
  obtain ⟨rfl, hi9⟩ := hQ9
  refine WL.indexAddrE (j := t.a.toNat) Tryd.underlying55 isz_3 rfl rfl rfl rfl hj9 hE9 (WL.load1 (v := .int .i64 x9) one_3 rfl rfl rfl (hS.roCells hr9 hc9 0 _ rfl) ?_)
  have hsb_a := hsb _ (List.mem_of_getElem? hx9); have hsl_a := slotAt_some hx9
  refine WL.callF (vs := [.int .i64 10, .int .i64 x9]) Tryd.func72 (by kernel_rfl) rfl rfl rfl (rload_ret 10 x9 (by omega) (by omega) (ro := ro) (fun b hb => (hS.snap b hb).1)) ?_
  rintro v w10 ⟨rfl, hbl⟩
  replace hS := hS.grow hbl
  refine WL.build (ps := [(0, .int .i64 19), (1, .int .i64 1), (2, .int .i64 2)]) (cs := [.int .i64 19, .int .i64 1, .int .i64 2, .int .i64 0, .int .i64 0]) rfl rfl rfl (by kernel_rfl) ?_
  refine WL.move rfl rfl rfl ?_
  refine WL.build (ps := [(0, .int .i64 12), (1, .int .i64 2), (2, .int .i64 2), (4, .int .i64 fr)]) (cs := [.int .i64 12, .int .i64 2, .int .i64 2, .int .i64 0, .int .i64 fr]) rfl rfl rfl (by kernel_rfl) ?_
  refine WL.build (ps := [(0, .int .i64 30), (2, .int .i64 1)]) (cs := [.int .i64 30, .int .i64 0, .int .i64 1, .int .i64 0, .int .i64 0]) rfl rfl rfl (by kernel_rfl) ?_
  refine WL.buildSlice (ps := [(0, .agg #[.int .i64 19, .int .i64 10, .int .i64 2, .int .i64 0, .int .i64 (8 + 8 * x9)]), (1, .agg #[.int .i64 19, .int .i64 1, .int .i64 2, .int .i64 0, .int .i64 0]), (2, .agg #[.int .i64 12, .int .i64 2, .int .i64 2, .int .i64 0, .int .i64 fr]), (3, .agg #[.int .i64 30, .int .i64 0, .int .i64 1, .int .i64 0, .int .i64 0])]) (cs := [.int .i64 19, .int .i64 10, .int .i64 2, .int .i64 0, .int .i64 (8 + 8 * x9), .int .i64 19, .int .i64 1, .int .i64 2, .int .i64 0, .int .i64 0, .int .i64 12, .int .i64 2, .int .i64 2, .int .i64 0, .int .i64 fr, .int .i64 30, .int .i64 0, .int .i64 1, .int .i64 0, .int .i64 0]) Tryd.underlying27 (tyZero_spec zer_36) rfl rfl rfl rfl (by kernel_rfl) hS ?_
  clear hS; intro w12 b11 hb_b11 hS
  refine WL.fieldAddr fo_99_0 rfl rfl rfl ?_
  refine WL.store1 #[.slice (some ⟨b11, 0, none⟩) 4 4, .slice none 0 0, .slice none 0 0, .slice none 0 0] rfl rfl rfl rfl siz_27 rfl rfl rfl hS ?_
  clear hS; intro w13 hS
  refine WL.nil (N.seq (W.seq (W.region (WL.loadN (cs := [.slice (some ⟨b11, 0, none⟩) 4 4, .slice none 0 0, .slice none 0 0, .slice none 0 0]) agg_99 rfl rfl rfl rfl (hS.cells 1 (m := 4) rfl rfl) ?_))))
  refine WL.store2 #[.slice (some ⟨b11, 0, none⟩) 4 4, .slice none 0 0, .slice none 0 0, .slice none 0 0] rfl rfl rfl rfl siz_99 rfl rfl rfl hS ?_
  clear hS; intro w14 hS
  refine WL.nil (N.seq ?_)
  refine Fin.retC rfl (v := .agg #[.slice (some ⟨b11, 0, none⟩) 4 4, .slice none 0 0, .slice none 0 0, .slice none 0 0]) rfl (tyAgg_run agg_99 (cs := [.slice (some ⟨b11, 0, none⟩) 4 4, .slice none 0 0, .slice none 0 0, .slice none 0 0]) rfl (hS.cells 2 (m := 4) rfl rfl)) ?_
  replace hS := hS.toRow (n := 4) (cap := 4) (sz := 5) (xs := [.int .i64 19, .int .i64 10, .int .i64 2, .int .i64 0, .int .i64 (8 + 8 * x9), .int .i64 19, .int .i64 1, .int .i64 2, .int .i64 0, .int .i64 0, .int .i64 12, .int .i64 2, .int .i64 2, .int .i64 0, .int .i64 fr, .int .i64 30, .int .i64 0, .int .i64 1, .int .i64 0, .int .i64 0]) rfl rfl (Nat.le_refl _) (by decide)
  have hg : tail17 slots mn fr t = ⟨[ld 10 (slotAt slots t.a), ⟨19, 1, 2, 0, 0⟩, ⟨12, 2, 2, 0, fr⟩, ⟨30, 0, 1, 0, 0⟩], [], [], []⟩ := by unfold tail17; rw [if_pos (by omega)]
  have hrw0 : ([.int .i64 19, .int .i64 10, .int .i64 2, .int .i64 0, .int .i64 (8 + 8 * x9), .int .i64 19, .int .i64 1, .int .i64 2, .int .i64 0, .int .i64 0, .int .i64 12, .int .i64 2, .int .i64 2, .int .i64 0, .int .i64 fr, .int .i64 30, .int .i64 0, .int .i64 1, .int .i64 0, .int .i64 0] : List Value) = oCells (tail17 slots mn fr t).ops := by rw [hg]; simp [oCells, ld, jal, opL, hsl_a]
  have hn0 : 4 = (tail17 slots mn fr t).ops.length := by rw [hg]; simp; try omega
  have H0 : SlV (fun b => w.heap.size ≤ b ∧ b < w14.heap.size) w14 5 OpC (.slice (some ⟨b11, 0, none⟩) 4 4) (tail17 slots mn fr t).ops := row_slv (hS.rows _ (List.mem_of_getElem? (i := 0) rfl)) (by show Chunks 5 OpC ([.int .i64 19, .int .i64 10, .int .i64 2, .int .i64 0, .int .i64 (8 + 8 * x9), .int .i64 19, .int .i64 1, .int .i64 2, .int .i64 0, .int .i64 0, .int .i64 12, .int .i64 2, .int .i64 2, .int .i64 0, .int .i64 fr, .int .i64 30, .int .i64 0, .int .i64 1, .int .i64 0, .int .i64 0]) _; rw [hrw0]; exact hpk.oC) hn0 (fun y hy => (hS.keys y (by simp only [keysOf, List.mem_append, List.mem_filterMap]; exact .inr ⟨_, List.mem_of_getElem? (i := 0) rfl, hy⟩)).imp id (·.1))
  have H1 : SlV (fun b => w.heap.size ≤ b ∧ b < w14.heap.size) w14 3 RelC (.slice none 0 0) (tail17 slots mn fr t).rels := by rw [hg]; exact slv_nil
  have H2 : SlV (fun b => w.heap.size ≤ b ∧ b < w14.heap.size) w14 1 IntC (.slice none 0 0) (tail17 slots mn fr t).frm := by rw [hg]; exact slv_nil
  have H3 : SlV (fun b => w.heap.size ≤ b ∧ b < w14.heap.size) w14 1 IntC (.slice none 0 0) (tail17 slots mn fr t).blk := by rw [hg]; exact slv_nil
  exact ⟨_, rfl, ⟨_, _, _, _, rfl, H0, H1, H2, H3⟩, hS.below⟩
 have hc8p : ¬ (t.kind = 3) := by simpa using hc8
 refine W.skip (N.seq (W.seq (W.region (WL.move rfl rfl rfl (WL.fieldAddr fo_57_3 rfl rfl rfl (WL.load1 (v := .slice adp t.args.length capp) one_55 rfl rfl rfl (hS.cell 2 rfl rfl) (WL.move rfl rfl rfl ?_)))))))
 refine WL.callF (vs := [.slice ads slots.length caps, .slice adp t.args.length capp, .int .i64 mn]) Tryd.func73 (by kernel_rfl) rfl rfl rfl (rhand_ret slots t.args mn _ _ (ro := ro) (fun b hb => (hS.snap b hb).1) (hsl.keep hS.alike fun _ _ q => q) (SlV.keep ht1 hS.alike fun _ _ q => q) hua hsb hmn (by omega)) ?_
 rintro vh w15 ⟨hvh, hbl⟩
 have hal16 := hS.alikeTo hbl (ro' := (roFrom ro w7 w15)) (fun b hb => .inl hb)
 replace ht2 := SlV.keep ht2 hal16 (fun _ _ h => h)
 replace hsld := hsld.keep hal16 (fun _ _ h => h)
 replace hsl := SlV.keep hsl hal16 (fun _ _ h => h)
 replace hS := hS.readNew hbl
 replace hvh := SlV.keep hvh (ro' := (roFrom ro w7 w15)) (w' := w15) (Q' := OpC) (fun x hx => ⟨.inr hx, rfl⟩) (fun _ _ h => h)
 obtain ⟨adh, capadh, rfl, hvha, hvhb, hvhc, hvhd⟩ := id hvh
 have hvhm : (hand17 slots mn t.args).length ≤ 9223372036854775807 := by have h1 := hvha; have h2 := hvhb; unfold maxLen at h2; omega
 refine WL.assign rfl rfl rfl (WL.nil (N.seq (W.seq (W.seq (W.region (WL.fieldAddr fo_57_0 rfl rfl rfl (WL.load1 (v := .int .i64 t.kind) one_3 rfl rfl rfl (hS.cell 2 rfl rfl) (WL.bin rfl rfl rfl rfl rfl (WL.nil ?_)))))))))
 refine N.seq ?_
 refine W.cond rfl (fun hc17 => ?_) (fun hc17 => ?_)
 ·
  have hc17p : t.kind = 2 := by simpa using hc17
  refine W.region (WL.move rfl rfl rfl (WL.fieldAddr fo_57_1 rfl rfl rfl (WL.load1 (v := .int .i64 t.a) one_3 rfl rfl rfl (hS.cell 2 rfl rfl) ?_)))
  have hv_a := huv (by omega)
  have hvn_a : ((t.a.toNat : Nat) : Int) = t.a := by omega
  refine WL.set 38 (v' := .int .i64 (t.a.toNat : Int)) rfl (congrArg _ (by omega)) ?_
  have hj18 : t.a.toNat < slots.length := by omega
  obtain ⟨x18, hx18, b18, o18, cs18, hE18, hr18, _, hc18, hQ18⟩ := opn hsld hj18
  obtain ⟨rfl, hi18⟩ := hQ18
  refine WL.indexAddrE (j := t.a.toNat) Tryd.underlying55 isz_3 rfl rfl rfl rfl hj18 hE18 (WL.load1 (v := .int .i64 x18) one_3 rfl rfl rfl (hS.roCells hr18 hc18 0 _ rfl) ?_)
  have hsb_a := hsb _ (List.mem_of_getElem? hx18); have hsl_a := slotAt_some hx18
  refine WL.callF (vs := [.int .i64 5, .int .i64 x18]) Tryd.func72 (by kernel_rfl) rfl rfl rfl (rload_ret 5 x18 (by omega) (by omega) (ro := (roFrom ro w7 w15)) (fun b hb => (hS.snap b hb).1)) ?_
  rintro v w19 ⟨rfl, hbl⟩
  replace hS := hS.grow hbl
  refine WL.build (ps := [(0, .int .i64 24), (2, .int .i64 5), (4, .int .i64 8)]) (cs := [.int .i64 24, .int .i64 0, .int .i64 5, .int .i64 0, .int .i64 8]) rfl rfl rfl (by kernel_rfl) ?_
  refine WL.move rfl rfl rfl (WL.lenSlice Tryd.underlying27 rfl rfl rfl ?_)
  refine WL.add (c := (((hand17 slots mn t.args).length : Nat) : Int) + 2) rfl rfl rfl rfl (rfl) (by omega) ?_
  refine WL.mul (c := 4 * ((((hand17 slots mn t.args).length : Nat) : Int) + 2)) rfl rfl rfl rfl (rfl) (by omega) ?_
  refine WL.build (ps := [(0, .int .i64 29), (4, .int .i64 (4 * ((((hand17 slots mn t.args).length : Nat) : Int) + 2)))]) (cs := [.int .i64 29, .int .i64 0, .int .i64 0, .int .i64 0, .int .i64 (4 * ((((hand17 slots mn t.args).length : Nat) : Int) + 2))]) rfl rfl rfl (by kernel_rfl) ?_
  refine WL.buildSlice (ps := [(0, .agg #[.int .i64 19, .int .i64 5, .int .i64 2, .int .i64 0, .int .i64 (8 + 8 * x18)]), (1, .agg #[.int .i64 24, .int .i64 0, .int .i64 5, .int .i64 0, .int .i64 8]), (2, .agg #[.int .i64 29, .int .i64 0, .int .i64 0, .int .i64 0, .int .i64 (4 * ((((hand17 slots mn t.args).length : Nat) : Int) + 2))])]) (cs := [.int .i64 19, .int .i64 5, .int .i64 2, .int .i64 0, .int .i64 (8 + 8 * x18), .int .i64 24, .int .i64 0, .int .i64 5, .int .i64 0, .int .i64 8, .int .i64 29, .int .i64 0, .int .i64 0, .int .i64 0, .int .i64 (4 * ((((hand17 slots mn t.args).length : Nat) : Int) + 2))]) Tryd.underlying27 (tyZero_spec zer_36) rfl rfl rfl rfl (by kernel_rfl) hS ?_
  clear hS; intro w21 b20 hb_b20 hS
  replace hS := hS.toRow (n := 3) (cap := 3) (sz := 5) (xs := [.int .i64 19, .int .i64 5, .int .i64 2, .int .i64 0, .int .i64 (8 + 8 * x18), .int .i64 24, .int .i64 0, .int .i64 5, .int .i64 0, .int .i64 8, .int .i64 29, .int .i64 0, .int .i64 0, .int .i64 0, .int .i64 (4 * ((((hand17 slots mn t.args).length : Nat) : Int) + 2))]) rfl rfl (Nat.le_refl _) (by decide)
  refine WL.fieldAddr fo_99_0 rfl rfl rfl ?_
  refine WL.store0 #[.slice (some ⟨b20, 0, none⟩) 3 3, .slice none 0 0, .slice none 0 0, .slice none 0 0] rfl rfl rfl rfl siz_27 rfl rfl rfl hS ?_
  clear hS; intro w22 hS
  refine WL.nil (N.seq (W.seq (W.region (WL.fieldAddr fo_99_0 rfl rfl rfl (WL.load1 (v := .slice (some ⟨b20, 0, none⟩) 3 3) one_27 rfl rfl rfl (hS.cell 0 rfl rfl) (WL.move rfl rfl rfl ?_))))))
  obtain ⟨nwA, hchA, hnwA, hspA⟩ := elems_news hvhd
  have hcnA := chunks_oCells hchA; subst hcnA
  refine WL.appendRo (r := ⟨.slice (some ⟨b20, 0, none⟩) 3 3, 36, 5, 3, [.int .i64 19, .int .i64 5, .int .i64 2, .int .i64 0, .int .i64 (8 + 8 * x18), .int .i64 24, .int .i64 0, .int .i64 5, .int .i64 0, .int .i64 8, .int .i64 29, .int .i64 0, .int .i64 0, .int .i64 0, .int .i64 (4 * ((((hand17 slots mn t.args).length : Nat) : Int) + 2))]⟩) (news := oCells (hand17 slots mn t.args)) 40 Tryd.underlying27 (tyZero_spec zer_36) byt_36 rfl rfl rfl rfl rfl hchA.1 (fun e => ⟨by have := hvhc e; omega, hvhc e⟩) ?_ hspA (chunks_all hchA (by decide) (fun _ _ q => one_op q)) rfl rfl hS (by simp only; unfold maxLen; omega) (by simp only; omega) ?_
  ·
   intro b off e
   by_cases hn0 : oCells (hand17 slots mn t.args) = []
   ·
    rw [hn0]; intro j v hj; simp at hj
   exact hS.roCells ((hnwA b off e).2 hn0) (hnwA b off e).1
  clear hS; intro w23 v24 hS hnn
  have hrow : w23.ownsRow w.heap.size 36 5 v24 (3 + (hand17 slots mn t.args).length) _ := hS.rows _ List.mem_cons_self
  obtain ⟨av24, cv24, rfl, hc1_v24, hc2_v24, hc3_v24⟩ := row_shape hrow
  clear hrow
  refine WL.fieldAddr fo_99_0 rfl rfl rfl ?_
  refine WL.store0 #[.slice av24 (3 + (hand17 slots mn t.args).length) cv24, .slice none 0 0, .slice none 0 0, .slice none 0 0] rfl rfl rfl rfl siz_27 rfl rfl rfl hS ?_
  clear hS; intro w25 hS
  refine WL.nil (N.seq (W.seq (W.region (WL.fieldAddr fo_99_0 rfl rfl rfl (WL.load1 (v := .slice av24 (3 + (hand17 slots mn t.args).length) cv24) one_27 rfl rfl rfl (hS.cell 0 rfl rfl) (WL.lenSlice Tryd.underlying27 rfl rfl rfl ?_))))))
  refine WL.buildSlice (ps := [(0, .int .i64 ((3 + (hand17 slots mn t.args).length : Nat) : Int))]) (cs := [.int .i64 ((3 + (hand17 slots mn t.args).length : Nat) : Int)]) Tryd.underlying55 (tyZero_spec zer_3) rfl rfl rfl rfl (by kernel_rfl) hS ?_
  clear hS; intro w27 b26 hb_b26 hS
  replace hS := hS.toRow (n := 1) (cap := 1) (sz := 1) (xs := [.int .i64 ((3 + (hand17 slots mn t.args).length : Nat) : Int)]) rfl rfl (Nat.le_refl _) (by decide)
  refine WL.fieldAddr fo_99_2 rfl rfl rfl ?_
  refine WL.store0 #[.slice av24 (3 + (hand17 slots mn t.args).length) cv24, .slice none 0 0, .slice (some ⟨b26, 0, none⟩) 1 1, .slice none 0 0] rfl rfl rfl rfl siz_55 rfl rfl rfl hS ?_
  clear hS; intro w28 hS
  refine WL.nil (N.seq (W.seq (W.region (WL.fieldAddr fo_57_2 rfl rfl rfl (WL.load1 (v := .int .i64 t.to) one_3 rfl rfl rfl (hS.cell 2 rfl rfl) ?_)))))
  refine WL.buildSlice (ps := [(0, .int .i64 t.to)]) (cs := [.int .i64 t.to]) Tryd.underlying55 (tyZero_spec zer_3) rfl rfl rfl rfl (by kernel_rfl) hS ?_
  clear hS; intro w30 b29 hb_b29 hS
  replace hS := hS.toRow (n := 1) (cap := 1) (sz := 1) (xs := [.int .i64 t.to]) rfl rfl (Nat.le_refl _) (by decide)
  refine WL.fieldAddr fo_99_3 rfl rfl rfl ?_
  refine WL.store0 #[.slice av24 (3 + (hand17 slots mn t.args).length) cv24, .slice none 0 0, .slice (some ⟨b26, 0, none⟩) 1 1, .slice (some ⟨b29, 0, none⟩) 1 1] rfl rfl rfl rfl siz_55 rfl rfl rfl hS ?_
  clear hS; intro w31 hS
  refine WL.nil (N.seq (W.seq (W.region (WL.fieldAddr fo_99_0 rfl rfl rfl (WL.load1 (v := .slice av24 (3 + (hand17 slots mn t.args).length) cv24) one_27 rfl rfl rfl (hS.cell 0 rfl rfl) ?_)))))
  refine WL.build (ps := [(0, .int .i64 29)]) (cs := [.int .i64 29, .int .i64 0, .int .i64 0, .int .i64 0, .int .i64 0]) rfl rfl rfl (by kernel_rfl) ?_
  refine WL.buildSlice (ps := [(0, .agg #[.int .i64 29, .int .i64 0, .int .i64 0, .int .i64 0, .int .i64 0])]) (cs := [.int .i64 29, .int .i64 0, .int .i64 0, .int .i64 0, .int .i64 0]) Tryd.underlying27 (tyZero_spec zer_36) rfl rfl rfl rfl (by kernel_rfl) hS ?_
  clear hS; intro w33 b32 hb_b32 hS
  replace hS := hS.permR (((List.Perm.cons _ (List.Perm.swap _ _ _))).trans ((List.Perm.swap _ _ _)))
  refine WL.append (r := ⟨.slice av24 (3 + (hand17 slots mn t.args).length) cv24, 36, 5, 3 + (hand17 slots mn t.args).length, [.int .i64 19, .int .i64 5, .int .i64 2, .int .i64 0, .int .i64 (8 + 8 * x18), .int .i64 24, .int .i64 0, .int .i64 5, .int .i64 0, .int .i64 8, .int .i64 29, .int .i64 0, .int .i64 0, .int .i64 0, .int .i64 (4 * ((((hand17 slots mn t.args).length : Nat) : Int) + 2))] ++ oCells (hand17 slots mn t.args)⟩) (cs := [.int .i64 29, .int .i64 0, .int .i64 0, .int .i64 0, .int .i64 0]) 40 Tryd.underlying27 (tyZero_spec zer_36) byt_36 rfl rfl rfl rfl rfl rfl rfl rfl rfl hS (by unfold maxLen; simp only; omega) (by simp only; omega) ?_
  clear hS; intro w34 v35 hn_v35 hS
  have hrow : w34.ownsRow w.heap.size 36 5 v35 (3 + (hand17 slots mn t.args).length + 1) _ := hS.rows _ List.mem_cons_self
  obtain ⟨av35, cv35, rfl, hc1_v35, hc2_v35, hc3_v35⟩ := row_shape hrow
  clear hrow
  refine WL.fieldAddr fo_99_0 rfl rfl rfl ?_
  refine WL.store0 #[.slice av35 (3 + (hand17 slots mn t.args).length + 1) cv35, .slice none 0 0, .slice (some ⟨b26, 0, none⟩) 1 1, .slice (some ⟨b29, 0, none⟩) 1 1] rfl rfl rfl rfl siz_27 rfl rfl rfl hS ?_
  clear hS; intro w36 hS
  refine WL.nil (N.seq (W.seq (W.seq (W.region (WL.fieldAddr fo_57_0 rfl rfl rfl (WL.load1 (v := .int .i64 t.kind) one_3 rfl rfl rfl (hS.cell 2 rfl rfl) (WL.bin rfl rfl rfl rfl rfl ?_)))))))
  refine WL.set 72 (v' := .bool true) rfl (by rw [hc17]) ?_
  refine WL.nil (N.seq (W.condT rfl (W.seq ?_)))
  refine W.drawA0 (S := fun u => True) (by kernel_rfl) (fun w37 hbd => ?_)
  replace hS := hS.grow hbd
  refine WA.conv (fuel' := 7 + 3) (listed' := (lb 10 0)) (by kernel_rfl) (by kernel_rfl) (WA.phaseI [(0, (fun v _ => v = .pointer (some ⟨b5, 0, none⟩))), (1, (fun v _ => v = .slice av35 (3 + (hand17 slots mn t.args).length + 1) cv35)), (2, (fun v _ => v = .slice ads slots.length caps)), (3, (fun v _ => v = .pointer (some ⟨b1, 5, none⟩))), (4, (fun v _ => v = .slice adq t.elses.length capq)), (5, (fun v _ => v = .int .i64 mn)), (6, (fun v u => SlV (fun b => w37.heap.size ≤ b ∧ b < u.heap.size) u 5 OpC v (hand17 slots mn t.elses)))] (by kernel_rfl) [(1, .slice ads slots.length caps), (2, .int .i64 mn), (4, .pointer (some ⟨b1, 0, none⟩)), (8, .pointer (some ⟨b3, 0, none⟩)), (9, .pointer (some ⟨b5, 0, none⟩))] ⟨rfl, rfl, rfl, rfl, rfl, trivial⟩ (by kernel_rfl) ⟨stays_eq, stays_eq, stays_eq, stays_eq, stays_eq, stays_eq, stays_new, trivial⟩ ?_ (fun _ _ => trivial) ?_)
  ·
   refine ⟨fun β wd hb hD => ⟨_, rfl, ?_⟩, ?_⟩
   ·
    have hS := hS.grow hb
    refine WL.fieldAddr fo_99_0 rfl rfl rfl ?_
    exact WL.nil (N.cut _ ⟨rfl, trivial⟩ ⟨(Below.refl _ _), rfl⟩)
   refine ⟨fun β wd hb hD => ⟨_, rfl, ?_⟩, ?_⟩
   ·
    obtain ⟨hp0, _⟩ := hD
    replace hp0 : β 0 = .pointer (some ⟨b5, 0, none⟩) := hp0
    refine WL.sub (σ' := [(73, .pointer (some ⟨b5, 0, none⟩))]) ⟨congrArg some hp0, trivial⟩ ?_
    have hS := hS.grow hb
    refine WL.load1 (v := .slice av35 (3 + (hand17 slots mn t.args).length + 1) cv35) one_27 rfl rfl rfl (hS.cell 0 rfl rfl) ?_
    exact WL.nil (N.cut _ ⟨rfl, trivial⟩ ⟨(Below.refl _ _), rfl⟩)
   refine ⟨fun β wd hb hD => ⟨_, rfl, ?_⟩, ?_⟩
   ·
    have hS := hS.grow hb
    refine WL.move rfl rfl rfl ?_
    exact WL.nil (N.cut _ ⟨rfl, trivial⟩ ⟨(Below.refl _ _), rfl⟩)
   refine ⟨fun β wd hb hD => ⟨_, rfl, ?_⟩, ?_⟩
   ·
    have hS := hS.grow hb
    refine WL.fieldAddr fo_57_5 rfl rfl rfl ?_
    exact WL.nil (N.cut _ ⟨rfl, trivial⟩ ⟨(Below.refl _ _), rfl⟩)
   refine ⟨fun β wd hb hD => ⟨_, rfl, ?_⟩, ?_⟩
   ·
    obtain ⟨hp3, _⟩ := hD
    replace hp3 : β 3 = .pointer (some ⟨b1, 5, none⟩) := hp3
    refine WL.sub (σ' := [(76, .pointer (some ⟨b1, 5, none⟩))]) ⟨congrArg some hp3, trivial⟩ ?_
    have hS := hS.grow hb
    refine WL.load1 (v := .slice adq t.elses.length capq) one_55 rfl rfl rfl (hS.cell 2 rfl rfl) ?_
    exact WL.nil (N.cut _ ⟨rfl, trivial⟩ ⟨(Below.refl _ _), rfl⟩)
   refine ⟨fun β wd hb hD => ⟨_, rfl, ?_⟩, ?_⟩
   ·
    have hS := hS.grow hb
    refine WL.move rfl rfl rfl ?_
    exact WL.nil (N.cut _ ⟨rfl, trivial⟩ ⟨(Below.refl _ _), rfl⟩)
   refine ⟨fun β wd hb hD => ⟨_, rfl, ?_⟩, ?_⟩
   ·
    obtain ⟨hp2, hp4, hp5, _⟩ := hD
    replace hp2 : β 2 = .slice ads slots.length caps := hp2
    replace hp4 : β 4 = .slice adq t.elses.length capq := hp4
    replace hp5 : β 5 = .int .i64 mn := hp5
    refine WL.sub (σ' := [(75, .slice ads slots.length caps), (77, .slice adq t.elses.length capq), (78, .int .i64 mn)]) ⟨congrArg some hp2, congrArg some hp4, congrArg some hp5, trivial⟩ ?_
    have hS := hS.grow hb
    refine WL.callF (vs := [.slice ads slots.length caps, .slice adq t.elses.length capq, .int .i64 mn]) Tryd.func73 (by kernel_rfl) rfl rfl rfl (rhand_ret slots t.elses mn _ _ (ro := (roFrom ro w7 w15)) (fun b hb => (hS.snap b hb).1) (hsl.keep hS.alike fun _ _ q => q) (SlV.keep ht2 hS.alike fun _ _ q => q) hue hsb hmn (by omega)) ?_
    rintro v w38 ⟨hZ, hbl⟩
    replace hS := hS.grow hbl
    exact WL.nil (N.cut _ ⟨rfl, trivial⟩ ⟨hbl, newUp hZ hb.size⟩)
   trivial
  intro β w39 hb hD
  obtain ⟨hp0, hp1, hp2, hp3, hp4, hp5, hp6, _⟩ := hD
  refine WA.sub (σ' := [(4, .pointer (some ⟨b1, 0, none⟩)), (8, .pointer (some ⟨b3, 0, none⟩)), (9, .pointer (some ⟨b5, 0, none⟩)), (74, .slice av35 (3 + (hand17 slots mn t.args).length + 1) cv35), (79, (β 6))]) ⟨rfl, rfl, rfl, congrArg some (show β 1 = .slice av35 (3 + (hand17 slots mn t.args).length + 1) cv35 from hp1), rfl, trivial⟩ ?_
  have hSd := hS
  replace hS := hS.grow hb
  replace hp6 : (fun v u => SlV (fun b => w37.heap.size ≤ b ∧ b < u.heap.size) u 5 OpC v (hand17 slots mn t.elses)) (β 6) w39 := hp6
  generalize β 6 = z6 at hp6 ⊢
  have hvg := hp6
  have hal40 := hSd.alikeTo hb (ro' := (roFrom (roFrom ro w7 w15) w37 w39)) (fun b hb => .inl hb)
  replace hvhd := hvhd.keep hal40 (fun _ _ h => h)
  replace hS := hSd.readNew hb
  replace hvg := SlV.keep hvg (ro' := (roFrom (roFrom ro w7 w15) w37 w39)) (w' := w39) (Q' := OpC) (fun x hx => ⟨.inr hx, rfl⟩) (fun _ _ h => h)
  obtain ⟨adg, capg, rfl, hvga, hvgb, hvgc, hvgd⟩ := id hvg
  have hvgm : (hand17 slots mn t.elses).length ≤ 9223372036854775807 := by have h1 := hvga; have h2 := hvgb; unfold maxLen at h2; omega
  refine WA.conv (fuel' := 2 + 1) (listed' := (lb 10 127)) (by kernel_rfl) (by kernel_rfl) (WA.stepS 7 (by kernel_rfl) rfl ?_)
  obtain ⟨nwB, hchB, hnwB, hspB⟩ := elems_news hvgd
  have hcnB := chunks_oCells hchB; subst hcnB
  refine WL.appendRo (r := ⟨.slice av35 (3 + (hand17 slots mn t.args).length + 1) cv35, 36, 5, 3 + (hand17 slots mn t.args).length + 1, [.int .i64 19, .int .i64 5, .int .i64 2, .int .i64 0, .int .i64 (8 + 8 * x18), .int .i64 24, .int .i64 0, .int .i64 5, .int .i64 0, .int .i64 8, .int .i64 29, .int .i64 0, .int .i64 0, .int .i64 0, .int .i64 (4 * ((((hand17 slots mn t.args).length : Nat) : Int) + 2))] ++ oCells (hand17 slots mn t.args) ++ ([.int .i64 29, .int .i64 0, .int .i64 0, .int .i64 0, .int .i64 0] : List Value)⟩) (news := oCells (hand17 slots mn t.elses)) 40 Tryd.underlying27 (tyZero_spec zer_36) byt_36 rfl rfl rfl rfl rfl hchB.1 (fun e => ⟨by have := hvgc e; omega, hvgc e⟩) ?_ hspB (chunks_all hchB (by decide) (fun _ _ q => one_op q)) rfl rfl hS (by simp only; unfold maxLen; omega) (by simp only; omega) ?_
  ·
   intro b off e
   by_cases hn0 : oCells (hand17 slots mn t.elses) = []
   ·
    rw [hn0]; intro j v hj; simp at hj
   exact hS.roCells ((hnwB b off e).2 hn0) (hnwB b off e).1
  clear hS; intro w41 v42 hS hnn
  have hrow : w41.ownsRow w.heap.size 36 5 v42 (3 + (hand17 slots mn t.args).length + 1 + (hand17 slots mn t.elses).length) _ := hS.rows _ List.mem_cons_self
  obtain ⟨av42, cv42, rfl, hc1_v42, hc2_v42, hc3_v42⟩ := row_shape hrow
  clear hrow
  refine WL.nil (N.restS trivial ?_)
  refine WA.conv (fuel' := 1 + 1) (listed' := (lb 10 255)) (by kernel_rfl) (by kernel_rfl) (WA.stepS 8 (by kernel_rfl) rfl ?_)
  refine WL.fieldAddr fo_99_0 rfl rfl rfl ?_
  refine WL.nil (N.restS trivial ?_)
  refine WA.conv (fuel' := 0 + 1) (listed' := (lb 10 511)) (by kernel_rfl) (by kernel_rfl) (WA.stepS 9 (by kernel_rfl) rfl ?_)
  refine WL.store0 #[.slice av42 (3 + (hand17 slots mn t.args).length + 1 + (hand17 slots mn t.elses).length) cv42, .slice none 0 0, .slice (some ⟨b26, 0, none⟩) 1 1, .slice (some ⟨b29, 0, none⟩) 1 1] rfl rfl rfl rfl siz_27 rfl rfl rfl hS ?_
  clear hS; intro w43 hS
  refine WL.nil (N.restS trivial ?_)
  refine WA.doneN (by kernel_rfl) ?_
  refine N.seq (W.seq (W.region (WL.fieldAddr fo_99_2 rfl rfl rfl (WL.load1 (v := .slice (some ⟨b26, 0, none⟩) 1 1) one_55 rfl rfl rfl (hS.cell 0 rfl rfl) (WL.fieldAddr fo_99_0 rfl rfl rfl (WL.load1 (v := .slice av42 (3 + (hand17 slots mn t.args).length + 1 + (hand17 slots mn t.elses).length) cv42) one_27 rfl rfl rfl (hS.cell 0 rfl rfl) (WL.lenSlice Tryd.underlying27 rfl rfl rfl ?_)))))))
  refine WL.buildSlice (ps := [(0, .int .i64 ((3 + (hand17 slots mn t.args).length + 1 + (hand17 slots mn t.elses).length : Nat) : Int))]) (cs := [.int .i64 ((3 + (hand17 slots mn t.args).length + 1 + (hand17 slots mn t.elses).length : Nat) : Int)]) Tryd.underlying55 (tyZero_spec zer_3) rfl rfl rfl rfl (by kernel_rfl) hS ?_
  clear hS; intro w45 b44 hb_b44 hS
  replace hS := hS.permR (((List.Perm.cons _ (List.Perm.swap _ _ _))).trans ((List.Perm.swap _ _ _)))
  refine WL.append (r := ⟨.slice (some ⟨b26, 0, none⟩) 1 1, 3, 1, 1, [.int .i64 ((3 + (hand17 slots mn t.args).length : Nat) : Int)]⟩) (cs := [.int .i64 ((3 + (hand17 slots mn t.args).length + 1 + (hand17 slots mn t.elses).length : Nat) : Int)]) 8 Tryd.underlying55 (tyZero_spec zer_3) byt_3 rfl rfl rfl rfl rfl rfl rfl rfl rfl hS (by unfold maxLen; simp only; omega) (by simp only; omega) ?_
  clear hS; intro w46 v47 hn_v47 hS
  have hrow : w46.ownsRow w.heap.size 3 1 v47 (1 + 1) _ := hS.rows _ List.mem_cons_self
  obtain ⟨av47, cv47, rfl, hc1_v47, hc2_v47, hc3_v47⟩ := row_shape hrow
  clear hrow
  refine WL.fieldAddr fo_99_2 rfl rfl rfl ?_
  refine WL.store0 #[.slice av42 (3 + (hand17 slots mn t.args).length + 1 + (hand17 slots mn t.elses).length) cv42, .slice none 0 0, .slice av47 (1 + 1) cv47, .slice (some ⟨b29, 0, none⟩) 1 1] rfl rfl rfl rfl siz_55 rfl rfl rfl hS ?_
  clear hS; intro w48 hS
  refine WL.nil (N.seq (W.seq (W.region (WL.fieldAddr fo_99_3 rfl rfl rfl (WL.load1 (v := .slice (some ⟨b29, 0, none⟩) 1 1) one_55 rfl rfl rfl (hS.cell 0 rfl rfl) (WL.fieldAddr fo_57_4 rfl rfl rfl (WL.load1 (v := .int .i64 t.els) one_3 rfl rfl rfl (hS.cell 2 rfl rfl) ?_)))))))
  refine WL.buildSlice (ps := [(0, .int .i64 t.els)]) (cs := [.int .i64 t.els]) Tryd.underlying55 (tyZero_spec zer_3) rfl rfl rfl rfl (by kernel_rfl) hS ?_
  clear hS; intro w50 b49 hb_b49 hS
  replace hS := hS.permR (((List.Perm.cons _ (List.Perm.swap _ _ _))).trans ((List.Perm.swap _ _ _)))
  refine WL.append (r := ⟨.slice (some ⟨b29, 0, none⟩) 1 1, 3, 1, 1, [.int .i64 t.to]⟩) (cs := [.int .i64 t.els]) 8 Tryd.underlying55 (tyZero_spec zer_3) byt_3 rfl rfl rfl rfl rfl rfl rfl rfl rfl hS (by unfold maxLen; simp only; omega) (by simp only; omega) ?_
  clear hS; intro w51 v52 hn_v52 hS
  have hrow : w51.ownsRow w.heap.size 3 1 v52 (1 + 1) _ := hS.rows _ List.mem_cons_self
  obtain ⟨av52, cv52, rfl, hc1_v52, hc2_v52, hc3_v52⟩ := row_shape hrow
  clear hrow
  refine WL.fieldAddr fo_99_3 rfl rfl rfl ?_
  refine WL.store0 #[.slice av42 (3 + (hand17 slots mn t.args).length + 1 + (hand17 slots mn t.elses).length) cv42, .slice none 0 0, .slice av47 (1 + 1) cv47, .slice av52 (1 + 1) cv52] rfl rfl rfl rfl siz_55 rfl rfl rfl hS ?_
  clear hS; intro w53 hS
  refine WL.nil (N.seq (W.region (WL.fieldAddr fo_99_0 rfl rfl rfl (WL.load1 (v := .slice av42 (3 + (hand17 slots mn t.args).length + 1 + (hand17 slots mn t.elses).length) cv42) one_27 rfl rfl rfl (hS.cell 0 rfl rfl) ?_))))
  refine WL.build (ps := [(0, .int .i64 29)]) (cs := [.int .i64 29, .int .i64 0, .int .i64 0, .int .i64 0, .int .i64 0]) rfl rfl rfl (by kernel_rfl) ?_
  refine WL.buildSlice (ps := [(0, .agg #[.int .i64 29, .int .i64 0, .int .i64 0, .int .i64 0, .int .i64 0])]) (cs := [.int .i64 29, .int .i64 0, .int .i64 0, .int .i64 0, .int .i64 0]) Tryd.underlying27 (tyZero_spec zer_36) rfl rfl rfl rfl (by kernel_rfl) hS ?_
  clear hS; intro w55 b54 hb_b54 hS
  replace hS := hS.permR (((List.Perm.cons _ (List.Perm.swap _ _ _))).trans ((List.Perm.swap _ _ _)))
  refine WL.append (r := ⟨.slice av42 (3 + (hand17 slots mn t.args).length + 1 + (hand17 slots mn t.elses).length) cv42, 36, 5, 3 + (hand17 slots mn t.args).length + 1 + (hand17 slots mn t.elses).length, ([.int .i64 19, .int .i64 5, .int .i64 2, .int .i64 0, .int .i64 (8 + 8 * x18), .int .i64 24, .int .i64 0, .int .i64 5, .int .i64 0, .int .i64 8, .int .i64 29, .int .i64 0, .int .i64 0, .int .i64 0, .int .i64 (4 * ((((hand17 slots mn t.args).length : Nat) : Int) + 2))] ++ oCells (hand17 slots mn t.args) ++ ([.int .i64 29, .int .i64 0, .int .i64 0, .int .i64 0, .int .i64 0] : List Value)) ++ oCells (hand17 slots mn t.elses)⟩) (cs := [.int .i64 29, .int .i64 0, .int .i64 0, .int .i64 0, .int .i64 0]) 40 Tryd.underlying27 (tyZero_spec zer_36) byt_36 rfl rfl rfl rfl rfl rfl rfl rfl rfl hS (by unfold maxLen; simp only; omega) (by simp only; omega) ?_
  clear hS; intro w56 v57 hn_v57 hS
  have hrow : w56.ownsRow w.heap.size 36 5 v57 (3 + (hand17 slots mn t.args).length + 1 + (hand17 slots mn t.elses).length + 1) _ := hS.rows _ List.mem_cons_self
  obtain ⟨av57, cv57, rfl, hc1_v57, hc2_v57, hc3_v57⟩ := row_shape hrow
  clear hrow
  refine WL.fieldAddr fo_99_0 rfl rfl rfl ?_
  refine WL.store0 #[.slice av57 (3 + (hand17 slots mn t.args).length + 1 + (hand17 slots mn t.elses).length + 1) cv57, .slice none 0 0, .slice av47 (1 + 1) cv47, .slice av52 (1 + 1) cv52] rfl rfl rfl rfl siz_27 rfl rfl rfl hS ?_
  clear hS; intro w58 hS
  refine WL.nil (N.seq (W.seq (W.region (WL.loadN (cs := [.slice av57 (3 + (hand17 slots mn t.args).length + 1 + (hand17 slots mn t.elses).length + 1) cv57, .slice none 0 0, .slice av47 (1 + 1) cv47, .slice av52 (1 + 1) cv52]) agg_99 rfl rfl rfl rfl (hS.cells 0 (m := 4) rfl rfl) ?_))))
  refine WL.store1 #[.slice av57 (3 + (hand17 slots mn t.args).length + 1 + (hand17 slots mn t.elses).length + 1) cv57, .slice none 0 0, .slice av47 (1 + 1) cv47, .slice av52 (1 + 1) cv52] rfl rfl rfl rfl siz_99 rfl rfl rfl hS ?_
  clear hS; intro w59 hS
  refine WL.nil (N.seq ?_)
  refine Fin.retC rfl (v := .agg #[.slice av57 (3 + (hand17 slots mn t.args).length + 1 + (hand17 slots mn t.elses).length + 1) cv57, .slice none 0 0, .slice av47 (1 + 1) cv47, .slice av52 (1 + 1) cv52]) rfl (tyAgg_run agg_99 (cs := [.slice av57 (3 + (hand17 slots mn t.args).length + 1 + (hand17 slots mn t.elses).length + 1) cv57, .slice none 0 0, .slice av47 (1 + 1) cv47, .slice av52 (1 + 1) cv52]) rfl (hS.cells 1 (m := 4) rfl rfl)) ?_
  have hg : tail17 slots mn fr t = ⟨[ld 5 (slotAt slots t.a), ⟨24, 0, 5, 0, 8⟩, ⟨29, 0, 0, 0, 4 * (((hand17 slots mn t.args).length : Int) + 2)⟩] ++ hand17 slots mn t.args ++ [jal] ++ hand17 slots mn t.elses ++ [jal], [], [((3 + (hand17 slots mn t.args).length : Nat) : Int), ((3 + (hand17 slots mn t.args).length + 1 + (hand17 slots mn t.elses).length : Nat) : Int)], [t.to, t.els]⟩ := by unfold tail17; rw [if_neg (by omega), if_pos (by omega)]
  have hrw0 : (([.int .i64 19, .int .i64 5, .int .i64 2, .int .i64 0, .int .i64 (8 + 8 * x18), .int .i64 24, .int .i64 0, .int .i64 5, .int .i64 0, .int .i64 8, .int .i64 29, .int .i64 0, .int .i64 0, .int .i64 0, .int .i64 (4 * ((((hand17 slots mn t.args).length : Nat) : Int) + 2))] ++ oCells (hand17 slots mn t.args) ++ ([.int .i64 29, .int .i64 0, .int .i64 0, .int .i64 0, .int .i64 0] : List Value)) ++ oCells (hand17 slots mn t.elses) ++ ([.int .i64 29, .int .i64 0, .int .i64 0, .int .i64 0, .int .i64 0] : List Value) : List Value) = oCells (tail17 slots mn fr t).ops := by rw [hg]; simp [oCells, ld, jal, opL, hsl_a]
  have hn0 : 3 + (hand17 slots mn t.args).length + 1 + (hand17 slots mn t.elses).length + 1 = (tail17 slots mn fr t).ops.length := by rw [hg]; simp; try omega
  have H0 : SlV (fun b => w.heap.size ≤ b ∧ b < w59.heap.size) w59 5 OpC (.slice av57 (3 + (hand17 slots mn t.args).length + 1 + (hand17 slots mn t.elses).length + 1) cv57) (tail17 slots mn fr t).ops := row_slv (hS.rows _ (List.mem_of_getElem? (i := 0) rfl)) (by show Chunks 5 OpC (([.int .i64 19, .int .i64 5, .int .i64 2, .int .i64 0, .int .i64 (8 + 8 * x18), .int .i64 24, .int .i64 0, .int .i64 5, .int .i64 0, .int .i64 8, .int .i64 29, .int .i64 0, .int .i64 0, .int .i64 0, .int .i64 (4 * ((((hand17 slots mn t.args).length : Nat) : Int) + 2))] ++ oCells (hand17 slots mn t.args) ++ ([.int .i64 29, .int .i64 0, .int .i64 0, .int .i64 0, .int .i64 0] : List Value)) ++ oCells (hand17 slots mn t.elses) ++ ([.int .i64 29, .int .i64 0, .int .i64 0, .int .i64 0, .int .i64 0] : List Value)) _; rw [hrw0]; exact hpk.oC) hn0 (fun y hy => (hS.keys y (by simp only [keysOf, List.mem_append, List.mem_filterMap]; exact .inr ⟨_, List.mem_of_getElem? (i := 0) rfl, hy⟩)).imp id (·.1))
  have H1 : SlV (fun b => w.heap.size ≤ b ∧ b < w59.heap.size) w59 3 RelC (.slice none 0 0) (tail17 slots mn fr t).rels := by rw [hg]; exact slv_nil
  have hrw2 : ([.int .i64 ((3 + (hand17 slots mn t.args).length : Nat) : Int)] ++ ([.int .i64 ((3 + (hand17 slots mn t.args).length + 1 + (hand17 slots mn t.elses).length : Nat) : Int)] : List Value) : List Value) = iCells (tail17 slots mn fr t).frm := by rw [hg]; simp [iCells, ld, jal, opL, hsl_a]
  have hn2 : 1 + 1 = (tail17 slots mn fr t).frm.length := by rw [hg]; simp; try omega
  have H2 : SlV (fun b => w.heap.size ≤ b ∧ b < w59.heap.size) w59 1 IntC (.slice av47 (1 + 1) cv47) (tail17 slots mn fr t).frm := row_slv (hS.rows _ (List.mem_of_getElem? (i := 2) rfl)) (by show Chunks 1 IntC ([.int .i64 ((3 + (hand17 slots mn t.args).length : Nat) : Int)] ++ ([.int .i64 ((3 + (hand17 slots mn t.args).length + 1 + (hand17 slots mn t.elses).length : Nat) : Int)] : List Value)) _; rw [hrw2]; exact hpk.fC (by rw [hg]; simp; try omega)) hn2 (fun y hy => (hS.keys y (by simp only [keysOf, List.mem_append, List.mem_filterMap]; exact .inr ⟨_, List.mem_of_getElem? (i := 2) rfl, hy⟩)).imp id (·.1))
  have hrw3 : ([.int .i64 t.to] ++ ([.int .i64 t.els] : List Value) : List Value) = iCells (tail17 slots mn fr t).blk := by rw [hg]; simp [iCells, ld, jal, opL, hsl_a]
  have hn3 : 1 + 1 = (tail17 slots mn fr t).blk.length := by rw [hg]; simp; try omega
  have H3 : SlV (fun b => w.heap.size ≤ b ∧ b < w59.heap.size) w59 1 IntC (.slice av52 (1 + 1) cv52) (tail17 slots mn fr t).blk := row_slv (hS.rows _ (List.mem_of_getElem? (i := 1) rfl)) (by show Chunks 1 IntC ([.int .i64 t.to] ++ ([.int .i64 t.els] : List Value)) _; rw [hrw3]; exact hpk.bC) hn3 (fun y hy => (hS.keys y (by simp only [keysOf, List.mem_append, List.mem_filterMap]; exact .inr ⟨_, List.mem_of_getElem? (i := 1) rfl, hy⟩)).imp id (·.1))
  exact ⟨_, rfl, ⟨_, _, _, _, rfl, H0, H1, H2, H3⟩, hS.below⟩
 have hc17p : ¬ (t.kind = 2) := by simpa using hc17
 refine W.skip (N.seq (W.seq (W.region (WL.fieldAddr fo_99_0 rfl rfl rfl (WL.load1 (v := .slice none 0 0) one_27 rfl rfl rfl (hS.cell 0 rfl rfl) (WL.move rfl rfl rfl ?_))))))
 replace hS := hS.row0 36 5
 obtain ⟨nwA, hchA, hnwA, hspA⟩ := elems_news hvhd
 have hcnA := chunks_oCells hchA; subst hcnA
 refine WL.appendRo (r := ⟨.slice none 0 0, 36, 5, 0, []⟩) (news := oCells (hand17 slots mn t.args)) 40 Tryd.underlying27 (tyZero_spec zer_36) byt_36 rfl rfl rfl rfl rfl hchA.1 (fun e => ⟨by have := hvhc e; omega, hvhc e⟩) ?_ hspA (chunks_all hchA (by decide) (fun _ _ q => one_op q)) rfl rfl hS (by simp only; unfold maxLen; omega) (by simp only; omega) ?_
 ·
  intro b off e
  by_cases hn0 : oCells (hand17 slots mn t.args) = []
  ·
   rw [hn0]; intro j v hj; simp at hj
  exact hS.roCells ((hnwA b off e).2 hn0) (hnwA b off e).1
 clear hS; intro w60 v61 hS hnn
 have hrow : w60.ownsRow w.heap.size 36 5 v61 (0 + (hand17 slots mn t.args).length) _ := hS.rows _ List.mem_cons_self
 obtain ⟨av61, cv61, rfl, hc1_v61, hc2_v61, hc3_v61⟩ := row_shape hrow
 clear hrow
 refine WL.fieldAddr fo_99_0 rfl rfl rfl ?_
 refine WL.store0 #[.slice av61 (0 + (hand17 slots mn t.args).length) cv61, .slice none 0 0, .slice none 0 0, .slice none 0 0] rfl rfl rfl rfl siz_27 rfl rfl rfl hS ?_
 clear hS; intro w62 hS
 refine WL.nil (N.seq (W.seq (W.region (WL.fieldAddr fo_99_0 rfl rfl rfl (WL.load1 (v := .slice av61 (0 + (hand17 slots mn t.args).length) cv61) one_27 rfl rfl rfl (hS.cell 0 rfl rfl) (WL.lenSlice Tryd.underlying27 rfl rfl rfl ?_))))))
 refine WL.buildSlice (ps := [(0, .int .i64 ((0 + (hand17 slots mn t.args).length : Nat) : Int))]) (cs := [.int .i64 ((0 + (hand17 slots mn t.args).length : Nat) : Int)]) Tryd.underlying55 (tyZero_spec zer_3) rfl rfl rfl rfl (by kernel_rfl) hS ?_
 clear hS; intro w64 b63 hb_b63 hS
 replace hS := hS.toRow (n := 1) (cap := 1) (sz := 1) (xs := [.int .i64 ((0 + (hand17 slots mn t.args).length : Nat) : Int)]) rfl rfl (Nat.le_refl _) (by decide)
 refine WL.fieldAddr fo_99_2 rfl rfl rfl ?_
 refine WL.store0 #[.slice av61 (0 + (hand17 slots mn t.args).length) cv61, .slice none 0 0, .slice (some ⟨b63, 0, none⟩) 1 1, .slice none 0 0] rfl rfl rfl rfl siz_55 rfl rfl rfl hS ?_
 clear hS; intro w65 hS
 refine WL.nil (N.seq (W.seq (W.region (WL.fieldAddr fo_57_2 rfl rfl rfl (WL.load1 (v := .int .i64 t.to) one_3 rfl rfl rfl (hS.cell 2 rfl rfl) ?_)))))
 refine WL.buildSlice (ps := [(0, .int .i64 t.to)]) (cs := [.int .i64 t.to]) Tryd.underlying55 (tyZero_spec zer_3) rfl rfl rfl rfl (by kernel_rfl) hS ?_
 clear hS; intro w67 b66 hb_b66 hS
 replace hS := hS.toRow (n := 1) (cap := 1) (sz := 1) (xs := [.int .i64 t.to]) rfl rfl (Nat.le_refl _) (by decide)
 refine WL.fieldAddr fo_99_3 rfl rfl rfl ?_
 refine WL.store0 #[.slice av61 (0 + (hand17 slots mn t.args).length) cv61, .slice none 0 0, .slice (some ⟨b63, 0, none⟩) 1 1, .slice (some ⟨b66, 0, none⟩) 1 1] rfl rfl rfl rfl siz_55 rfl rfl rfl hS ?_
 clear hS; intro w68 hS
 refine WL.nil (N.seq (W.seq (W.region (WL.fieldAddr fo_99_0 rfl rfl rfl (WL.load1 (v := .slice av61 (0 + (hand17 slots mn t.args).length) cv61) one_27 rfl rfl rfl (hS.cell 0 rfl rfl) ?_)))))
 refine WL.build (ps := [(0, .int .i64 29)]) (cs := [.int .i64 29, .int .i64 0, .int .i64 0, .int .i64 0, .int .i64 0]) rfl rfl rfl (by kernel_rfl) ?_
 refine WL.buildSlice (ps := [(0, .agg #[.int .i64 29, .int .i64 0, .int .i64 0, .int .i64 0, .int .i64 0])]) (cs := [.int .i64 29, .int .i64 0, .int .i64 0, .int .i64 0, .int .i64 0]) Tryd.underlying27 (tyZero_spec zer_36) rfl rfl rfl rfl (by kernel_rfl) hS ?_
 clear hS; intro w70 b69 hb_b69 hS
 replace hS := hS.permR (((List.Perm.cons _ (List.Perm.swap _ _ _))).trans ((List.Perm.swap _ _ _)))
 refine WL.append (r := ⟨.slice av61 (0 + (hand17 slots mn t.args).length) cv61, 36, 5, 0 + (hand17 slots mn t.args).length, [] ++ oCells (hand17 slots mn t.args)⟩) (cs := [.int .i64 29, .int .i64 0, .int .i64 0, .int .i64 0, .int .i64 0]) 40 Tryd.underlying27 (tyZero_spec zer_36) byt_36 rfl rfl rfl rfl rfl rfl rfl rfl rfl hS (by unfold maxLen; simp only; omega) (by simp only; omega) ?_
 clear hS; intro w71 v72 hn_v72 hS
 have hrow : w71.ownsRow w.heap.size 36 5 v72 (0 + (hand17 slots mn t.args).length + 1) _ := hS.rows _ List.mem_cons_self
 obtain ⟨av72, cv72, rfl, hc1_v72, hc2_v72, hc3_v72⟩ := row_shape hrow
 clear hrow
 refine WL.fieldAddr fo_99_0 rfl rfl rfl ?_
 refine WL.store0 #[.slice av72 (0 + (hand17 slots mn t.args).length + 1) cv72, .slice none 0 0, .slice (some ⟨b63, 0, none⟩) 1 1, .slice (some ⟨b66, 0, none⟩) 1 1] rfl rfl rfl rfl siz_27 rfl rfl rfl hS ?_
 clear hS; intro w73 hS
 refine WL.nil (N.seq (W.seq (W.seq (W.region (WL.fieldAddr fo_57_0 rfl rfl rfl (WL.load1 (v := .int .i64 t.kind) one_3 rfl rfl rfl (hS.cell 2 rfl rfl) (WL.bin rfl rfl rfl rfl rfl ?_)))))))
 refine WL.set 72 (v' := .bool false) rfl (by rw [hc17]) ?_
 refine WL.nil (N.seq (W.condF rfl (W.skip (N.seq (W.seq (W.region (WL.loadN (cs := [.slice av72 (0 + (hand17 slots mn t.args).length + 1) cv72, .slice none 0 0, .slice (some ⟨b63, 0, none⟩) 1 1, .slice (some ⟨b66, 0, none⟩) 1 1]) agg_99 rfl rfl rfl rfl (hS.cells 0 (m := 4) rfl rfl) ?_)))))))
 refine WL.store1 #[.slice av72 (0 + (hand17 slots mn t.args).length + 1) cv72, .slice none 0 0, .slice (some ⟨b63, 0, none⟩) 1 1, .slice (some ⟨b66, 0, none⟩) 1 1] rfl rfl rfl rfl siz_99 rfl rfl rfl hS ?_
 clear hS; intro w74 hS
 refine WL.nil (N.seq ?_)
 refine Fin.retC rfl (v := .agg #[.slice av72 (0 + (hand17 slots mn t.args).length + 1) cv72, .slice none 0 0, .slice (some ⟨b63, 0, none⟩) 1 1, .slice (some ⟨b66, 0, none⟩) 1 1]) rfl (tyAgg_run agg_99 (cs := [.slice av72 (0 + (hand17 slots mn t.args).length + 1) cv72, .slice none 0 0, .slice (some ⟨b63, 0, none⟩) 1 1, .slice (some ⟨b66, 0, none⟩) 1 1]) rfl (hS.cells 1 (m := 4) rfl rfl)) ?_
 have hg : tail17 slots mn fr t = ⟨hand17 slots mn t.args ++ [jal], [], [((hand17 slots mn t.args).length : Int)], [t.to]⟩ := by unfold tail17; rw [if_neg (by omega), if_neg (by omega)]
 have hrw0 : ([] ++ oCells (hand17 slots mn t.args) ++ ([.int .i64 29, .int .i64 0, .int .i64 0, .int .i64 0, .int .i64 0] : List Value) : List Value) = oCells (tail17 slots mn fr t).ops := by rw [hg]; simp [oCells, ld, jal, opL]
 have hn0 : 0 + (hand17 slots mn t.args).length + 1 = (tail17 slots mn fr t).ops.length := by rw [hg]; simp; try omega
 have H0 : SlV (fun b => w.heap.size ≤ b ∧ b < w74.heap.size) w74 5 OpC (.slice av72 (0 + (hand17 slots mn t.args).length + 1) cv72) (tail17 slots mn fr t).ops := row_slv (hS.rows _ (List.mem_of_getElem? (i := 0) rfl)) (by show Chunks 5 OpC ([] ++ oCells (hand17 slots mn t.args) ++ ([.int .i64 29, .int .i64 0, .int .i64 0, .int .i64 0, .int .i64 0] : List Value)) _; rw [hrw0]; exact hpk.oC) hn0 (fun y hy => (hS.keys y (by simp only [keysOf, List.mem_append, List.mem_filterMap]; exact .inr ⟨_, List.mem_of_getElem? (i := 0) rfl, hy⟩)).imp id (·.1))
 have H1 : SlV (fun b => w.heap.size ≤ b ∧ b < w74.heap.size) w74 3 RelC (.slice none 0 0) (tail17 slots mn fr t).rels := by rw [hg]; exact slv_nil
 have hrw2 : ([.int .i64 ((0 + (hand17 slots mn t.args).length : Nat) : Int)] : List Value) = iCells (tail17 slots mn fr t).frm := by rw [hg]; simp [iCells, ld, jal, opL]
 have hn2 : 1 = (tail17 slots mn fr t).frm.length := by rw [hg]; simp; try omega
 have H2 : SlV (fun b => w.heap.size ≤ b ∧ b < w74.heap.size) w74 1 IntC (.slice (some ⟨b63, 0, none⟩) 1 1) (tail17 slots mn fr t).frm := row_slv (hS.rows _ (List.mem_of_getElem? (i := 2) rfl)) (by show Chunks 1 IntC ([.int .i64 ((0 + (hand17 slots mn t.args).length : Nat) : Int)]) _; rw [hrw2]; exact hpk.fC (by rw [hg]; simp; try omega)) hn2 (fun y hy => (hS.keys y (by simp only [keysOf, List.mem_append, List.mem_filterMap]; exact .inr ⟨_, List.mem_of_getElem? (i := 2) rfl, hy⟩)).imp id (·.1))
 have hrw3 : ([.int .i64 t.to] : List Value) = iCells (tail17 slots mn fr t).blk := by rw [hg]; simp [iCells, ld, jal, opL]
 have hn3 : 1 = (tail17 slots mn fr t).blk.length := by rw [hg]; simp; try omega
 have H3 : SlV (fun b => w.heap.size ≤ b ∧ b < w74.heap.size) w74 1 IntC (.slice (some ⟨b66, 0, none⟩) 1 1) (tail17 slots mn fr t).blk := row_slv (hS.rows _ (List.mem_of_getElem? (i := 1) rfl)) (by show Chunks 1 IntC ([.int .i64 t.to]) _; rw [hrw3]; exact hpk.bC) hn3 (fun y hy => (hS.keys y (by simp only [keysOf, List.mem_append, List.mem_filterMap]; exact .inr ⟨_, List.mem_of_getElem? (i := 1) rfl, hy⟩)).imp id (·.1))
 exact ⟨_, rfl, ⟨_, _, _, _, rfl, H0, H1, H2, H3⟩, hS.below⟩

end Go.Proofs.YtcmmhfknkldmcaaDoor
