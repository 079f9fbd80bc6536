/-
  Contracts of layer 17 (gen). No condition beyond those that each theorem states.
-/
import Derived.Test.YtcmmhfknkldmcaaDoorG7
namespace Go.Proofs.YtcmmhfknkldmcaaDoor
open Go.RowKit
theorem fo_64_2 : fOff Tryd.prog 64 2 5 = true := by kernel_rfl
inductive Tgt where
  | block (k : Int)
  | place (n : Nat)
def bx (t : Nat) (v : Value) : Obj := .cells #[v] t (0, 0)
def JmpOk (LL : List (Nat × Obj)) (bm : Nat) (v : Value) (j : Nat × Tgt) : Prop := ∃ bT bA bW, v = jumpV bT bA bW ∧ (bA, bx 3 (.int .i64 ((j.1 : Nat) : Int))) ∈ LL ∧ (bW, bx 61 (.pointer (some ⟨bm, 0, none⟩))) ∈ LL ∧ match j.2 with
  | .block k => ∃ b4 b6, (bT, bx 96 (.func (.func 68) #[] #[.pointer (some ⟨b4, 0, none⟩), .pointer (some ⟨b6, 0, none⟩)])) ∈ LL ∧ (b4, bx 61 (.pointer (some ⟨bm, 0, none⟩))) ∈ LL ∧ (b6, bx 3 (.int .i64 k)) ∈ LL
  | .place n => ∃ bo, (bT, bx 96 (.func (.func 50) #[] #[.pointer (some ⟨bo, 0, none⟩)])) ∈ LL ∧ (bo, bx 3 (.int .i64 ((n : Nat) : Int))) ∈ LL
def JmpsOk (LL : List (Nat × Obj)) (bm : Nat) : List Value → List (Nat × Tgt) → Prop
  | [], [] => True
  | v :: vs, j :: js => JmpOk LL bm v j ∧ JmpsOk LL bm vs js
  | _, _ => False
theorem JmpOk.mono {LL LL' : List (Nat × Obj)} {bm : Nat} {v : Value} {j : Nat × Tgt} (h : JmpOk LL bm v j) (hs : ∀ p ∈ LL, p ∈ LL') : JmpOk LL' bm v j := by
  obtain ⟨bT, bA, bW, e, h1, h2, h3⟩ := h
  refine ⟨bT, bA, bW, e, hs _ h1, hs _ h2, ?_⟩
  split at h3
  · obtain ⟨b4, b6, a, b, c⟩ := h3; exact ⟨b4, b6, hs _ a, hs _ b, hs _ c⟩
  · obtain ⟨bo, a, b⟩ := h3; exact ⟨bo, hs _ a, hs _ b⟩
theorem JmpsOk.mono {LL LL' : List (Nat × Obj)} {bm : Nat} (hs : ∀ p ∈ LL, p ∈ LL') : ∀ {vs : List Value} {js : List (Nat × Tgt)}, JmpsOk LL bm vs js → JmpsOk LL' bm vs js
  | [], [], _ => trivial
  | _ :: _, _ :: _, h => ⟨h.1.mono hs, h.2.mono hs⟩
  | [], _ :: _, h => h.elim
  | _ :: _, [], h => h.elim
theorem JmpsOk.app {LL : List (Nat × Obj)} {bm : Nat} : ∀ {vs : List Value} {js : List (Nat × Tgt)} {vs' : List Value} {js' : List (Nat × Tgt)}, JmpsOk LL bm vs js → JmpsOk LL bm vs' js' → JmpsOk LL bm (vs ++ vs') (js ++ js')
  | [], [], _, _, _, h => h
  | _ :: _, _ :: _, _, _, h, h' => ⟨h.1, h.2.app h'⟩
  | [], _ :: _, _, _, h, _ => h.elim
  | _ :: _, [], _, _, h, _ => h.elim
theorem JmpsOk.len {LL : List (Nat × Obj)} {bm : Nat} : ∀ {vs : List Value} {js : List (Nat × Tgt)}, JmpsOk LL bm vs js → vs.length = js.length
  | [], [], _ => rfl
  | _ :: _, _ :: _, h => by rw [List.length_cons, List.length_cons, h.2.len]
  | [], _ :: _, h => h.elim
  | _ :: _, [], h => h.elim
def end17 (no : Nat) (slots : List Int) (mn fr : Int) (t : DTerm) : List DOp × List (Nat × Tgt) :=
  if t.kind = 3 then ([ld 10 (slotAt slots t.a), ⟨19, 1, 2, 0, 0⟩, ⟨12, 2, 2, 0, fr⟩, ⟨30, 0, 1, 0, 0⟩], [])
  else if t.kind = 2 then ([ld 5 (slotAt slots t.a), ⟨24, 0, 5, 0, 8⟩, jal] ++ (hand17 slots mn t.args ++ [jal]) ++ (hand17 slots mn t.elses ++ [jal]),
    [(no + 1 + 1, .place (no + 1 + 1 + 1 + (hand17 slots mn t.args ++ [jal]).length)), (no + 1 + 1 + 1 + (hand17 slots mn t.args).length, .block t.to), (no + 1 + 1 + 1 + (hand17 slots mn t.args ++ [jal]).length + (hand17 slots mn t.elses).length, .block t.els)])
  else (hand17 slots mn t.args ++ [jal], [(no + (hand17 slots mn t.args).length, .block t.to)])

set_option maxRecDepth 10000 in
set_option maxHeartbeats 4000000 in
theorem end_ret {w0 ws w : World} {ro : Nat → Prop} {L : List (Nat × Obj)} {Rs : List Row} {bm : Nat} {fn cn : ByteArray} {fb fp mn fr : Int} {fv vo vr vs vj : Value} {no : Nat} {co : List Value} {nj : Nat} {cj : List Value} (slots : List Int) (vsl : Value) (t : DTerm) (ct : List Value) (hsl : SlV ro ws 1 IntC vsl slots) (ht : TermC ro ws ct t) (hk : t.kind = 1 ∨ t.kind = 2 ∨ t.kind = 3) (hua : ∀ v ∈ t.args, 0 ≤ v ∧ v < slots.length) (hue : ∀ v ∈ t.elses, 0 ≤ v ∧ v < slots.length) (huv : t.kind ≠ 1 → 0 ≤ t.a ∧ t.a < slots.length) (hal : t.args.length ≤ 6) (hel : t.elses.length ≤ 6) (hsb : ∀ z ∈ slots, 0 ≤ z ∧ z ≤ 1000) (hmn : 0 ≤ mn ∧ mn ≤ 1000) (hno : no + 100 ≤ 1000000) (hnj : nj + 3 ≤ 1000000) (hS : St w0 ws w ro ((bm, .cells #[.string fn, .int .i64 fb, .int .i64 fp, fv, .int .i64 mn, .int .i64 fr, .string cn, vo, vr, vs, vj] 64 (0, 0)) :: L) (⟨vo, 36, 5, no, co⟩ :: ⟨vj, 1, 1, nj, cj⟩ :: Rs)) : Ret Tryd.prog 28 #[.pointer (some ⟨bm, 0, none⟩), vsl, .agg ct.toArray] w fun v w' => v = .tuple #[] ∧ ∃ vo2 vj2 Lj cjs, JmpsOk Lj bm cjs (end17 no slots mn fr t).2 ∧ St w0 ws w' ro ((bm, .cells #[.string fn, .int .i64 fb, .int .i64 fp, fv, .int .i64 mn, .int .i64 fr, .string cn, vo2, vr, vs, vj2] 64 (0, 0)) :: (Lj ++ L)) (⟨vo2, 36, 5, no + (end17 no slots mn fr t).1.length, (co ++ oCells (end17 no slots mn fr t).1)⟩ :: ⟨vj2, 1, 1, nj + cjs.length, (cj ++ cjs)⟩ :: Rs) := by
 have hsl0 := hsl
 obtain ⟨ads, caps, rfl, hsla, hslb, hslc, hsld⟩ := id hsl
 have hslm : slots.length ≤ 9223372036854775807 := by have h1 := hsla; have h2 := hslb; unfold maxLen at h2; omega
 obtain ⟨sp, sq, rfl, ht1, ht2, htk, hta, htt, hte⟩ := id ht
 obtain ⟨adp, capp, rfl, htpa, htpb, htpc, htpd⟩ := id ht1
 have htpm : t.args.length ≤ 9223372036854775807 := by have h1 := htpa; have h2 := htpb; unfold maxLen at h2; omega
 obtain ⟨adq, capq, rfl, htqa, htqb, htqc, htqd⟩ := id ht2
 have htqm : t.elses.length ≤ 9223372036854775807 := by have h1 := htqa; have h2 := htqb; unfold maxLen at h2; omega
 refine Ret.enter (P := Tryd.prog) (n := 72) (args := [.pointer (some ⟨bm, 0, none⟩), .slice ads slots.length caps, .agg #[.int .i64 t.kind, .int .i64 t.a, .int .i64 t.to, .slice adp t.args.length capp, .int .i64 t.els, .slice adq t.elses.length capq]]) (σ := [(0, .pointer (some ⟨bm, 0, none⟩)), (1, .slice ads slots.length caps), (2, .agg #[.int .i64 t.kind, .int .i64 t.a, .int .i64 t.to, .slice adp t.args.length capp, .int .i64 t.els, .slice adq t.elses.length capq])]) Tryd.func28 rfl rfl rfl rfl ?_
 have hhl := hand17_len slots mn t.args; have hhe := hand17_len slots mn t.elses
 have hja : (hand17 slots mn t.args ++ [jal]).length = 4 * t.args.length + 1 := by rw [List.length_append, hhl]; rfl
 refine W.seq (W.region ?_)
 refine WL.box (v := .agg #[.int .i64 t.kind, .int .i64 t.a, .int .i64 t.to, .slice adp t.args.length capp, .int .i64 t.els, .slice adq t.elses.length capq]) (cs := [.int .i64 t.kind, .int .i64 t.a, .int .i64 t.to, .slice adp t.args.length capp, .int .i64 t.els, .slice adq t.elses.length capq]) rfl rfl rfl rfl hS ?_
 clear hS; intro w2 b1 hb_b1 hS
 refine WL.nil (N.seq (W.seq (W.region (WL.fieldAddr fo_57_0 rfl rfl rfl (WL.load1 (v := .int .i64 t.kind) one_3 rfl rfl rfl (hS.cell 0 rfl rfl) (WL.nil (N.seq (W.block (W.seq ?_)))))))))
 refine W.block (W.seq (W.block (W.seq (W.block (W.seq (W.seq (W.seq (W.region (WL.bin rfl rfl rfl rfl rfl ?_)))))))))
 refine WL.assign rfl rfl rfl (WL.nil (N.seq ?_))
 refine W.cond rfl (fun hc3 => ?_) (fun hc3 => ?_)
 ·
  have hc3p : t.kind = 3 := by simpa using hc3
  refine W.exit (X.seq (X.seq (X.blk (N.seq (W.seq (W.seq (W.region (WL.move rfl rfl rfl (WL.move rfl rfl rfl ?_)))))))))
  refine WL.fieldAddr fo_57_1 rfl rfl rfl (WL.load1 (v := .int .i64 t.a) one_3 rfl rfl rfl (hS.cell 0 rfl rfl) ?_)
  have hv_a := huv (by omega)
  have hvn_a : ((t.a.toNat : Nat) : Int) = t.a := by omega
  refine WL.set 18 (v' := .int .i64 (t.a.toNat : Int)) rfl (congrArg _ (by omega)) ?_
  have hj4 : t.a.toNat < slots.length := by omega
  obtain ⟨x4, hx4, b4, o4, cs4, hE4, hr4, _, hc4, hQ4⟩ := opn hsld hj4
  obtain ⟨rfl, hi4⟩ := hQ4
  refine WL.indexAddrE (j := t.a.toNat) Tryd.underlying55 isz_3 rfl rfl rfl rfl hj4 hE4 (WL.load1 (v := .int .i64 x4) one_3 rfl rfl rfl (hS.roCells hr4 hc4 0 _ rfl) ?_)
  have hsb_a := hsb _ (List.mem_of_getElem? hx4)
  replace hS := hS.perm ((List.Perm.swap _ _ _))
  refine WL.callF (vs := [.pointer (some ⟨bm, 0, none⟩), .int .i64 10, .int .i64 x4]) Tryd.func48 (by kernel_rfl) rfl rfl rfl (load_ret 10 x4 (by omega) (by first | omega | (simp only; omega)) hS) ?_
  clear hS; rintro v w5 ⟨rfl, vo6, hS⟩
  rw [← slotAt_some hx4] at hS
  refine WL.nil (N.seq (W.region (WL.move rfl rfl rfl ?_)))
  refine WL.build (ps := [(0, .int .i64 19), (1, .int .i64 1), (2, .int .i64 2)]) (cs := [.int .i64 19, .int .i64 1, .int .i64 2, .int .i64 0, .int .i64 0]) rfl rfl rfl (by kernel_rfl) ?_
  refine WL.move rfl rfl rfl (WL.nilPtr rfl rfl rfl (WL.fieldAddr fo_64_2 rfl rfl rfl (WL.load1 (v := .int .i64 fr) one_3 rfl rfl rfl (hS.cell 0 rfl rfl) ?_)))
  refine WL.build (ps := [(0, .int .i64 12), (1, .int .i64 2), (2, .int .i64 2), (4, .int .i64 fr)]) (cs := [.int .i64 12, .int .i64 2, .int .i64 2, .int .i64 0, .int .i64 fr]) rfl rfl rfl (by kernel_rfl) ?_
  refine WL.build (ps := [(0, .int .i64 30), (2, .int .i64 1)]) (cs := [.int .i64 30, .int .i64 0, .int .i64 1, .int .i64 0, .int .i64 0]) rfl rfl rfl (by kernel_rfl) ?_
  refine WL.buildSlice (ps := [(0, .agg #[.int .i64 19, .int .i64 1, .int .i64 2, .int .i64 0, .int .i64 0]), (1, .agg #[.int .i64 12, .int .i64 2, .int .i64 2, .int .i64 0, .int .i64 fr]), (2, .agg #[.int .i64 30, .int .i64 0, .int .i64 1, .int .i64 0, .int .i64 0])]) (cs := [.int .i64 19, .int .i64 1, .int .i64 2, .int .i64 0, .int .i64 0, .int .i64 12, .int .i64 2, .int .i64 2, .int .i64 0, .int .i64 fr, .int .i64 30, .int .i64 0, .int .i64 1, .int .i64 0, .int .i64 0]) Tryd.underlying27 (tyZero_spec zer_36) rfl rfl rfl rfl (by kernel_rfl) hS ?_
  clear hS; intro w8 b7 hb_b7 hS
  replace hS := hS.perm ((List.Perm.swap _ _ _))
  refine WL.callF (vs := [.pointer (some ⟨bm, 0, none⟩), .slice (some ⟨b7, 0, none⟩) 3 3]) Tryd.func24 (by kernel_rfl) rfl rfl rfl (put_ret (some ⟨b7, 0, none⟩) 3 3 [.int .i64 19, .int .i64 1, .int .i64 2, .int .i64 0, .int .i64 0, .int .i64 12, .int .i64 2, .int .i64 2, .int .i64 0, .int .i64 fr, .int .i64 30, .int .i64 0, .int .i64 1, .int .i64 0, .int .i64 0] rfl (fun e => by cases e) (fun b off e => by cases e; exact hS.cells 1 (m := 15) rfl rfl) (fun a e _ => by cases e; rfl) (by intro u hu; simp only [List.mem_cons, List.not_mem_nil, or_false] at hu; rcases hu with rfl | rfl | rfl | rfl | rfl | rfl | rfl | rfl | rfl | rfl | rfl | rfl | rfl | rfl | rfl <;> rfl) (by first | omega | (simp only; omega)) hS) ?_
  clear hS; rintro v w9 ⟨rfl, vo10, hS⟩
  replace hS := hS.perm ((List.Perm.swap _ _ _))
  replace hS := hS.dropN 1
  refine WL.nil (N.seq (W.exit (X.blk_ne rfl (X.seq (X.blk_ne rfl (X.seq (X.blk ?_)))))))
  refine Fin.end0 rfl ?_
  have hrw1 : (⟨vo10, 36, 5, no + ([ld 10 (slotAt slots t.a), ⟨19, 1, 2, 0, 0⟩, ⟨12, 2, 2, 0, fr⟩, ⟨30, 0, 1, 0, 0⟩] : List DOp).length, (co ++ oCells ([ld 10 (slotAt slots t.a), ⟨19, 1, 2, 0, 0⟩, ⟨12, 2, 2, 0, fr⟩, ⟨30, 0, 1, 0, 0⟩]))⟩ : Row) = ⟨vo10, 36, 5, no + 1 + 3, co ++ oCells [ld 10 (slotAt slots t.a)] ++ [.int .i64 19, .int .i64 1, .int .i64 2, .int .i64 0, .int .i64 0, .int .i64 12, .int .i64 2, .int .i64 2, .int .i64 0, .int .i64 fr, .int .i64 30, .int .i64 0, .int .i64 1, .int .i64 0, .int .i64 0]⟩ := by simp [oCells, opL, Nat.add_assoc] <;> omega
  have hrw2 : (⟨vj, 1, 1, nj + ([] : List Value).length, (cj ++ [])⟩ : Row) = ⟨vj, 1, 1, nj, cj⟩ := by simp [Nat.add_assoc]
  have hg : end17 no slots mn fr t = ([ld 10 (slotAt slots t.a), ⟨19, 1, 2, 0, 0⟩, ⟨12, 2, 2, 0, fr⟩, ⟨30, 0, 1, 0, 0⟩], []) := by unfold end17; rw [if_pos hc3p]
  rw [← hrw1, ← hrw2] at hS
  rw [hg]
  exact ⟨rfl, vo10, vj, [(b1, .cells #[.int .i64 t.kind, .int .i64 t.a, .int .i64 t.to, .slice adp t.args.length capp, .int .i64 t.els, .slice adq t.elses.length capq] 57 (0, 0))], [], trivial, hS⟩
 have hc3p : ¬ (t.kind = 3) := by simpa using hc3
 refine W.skip (N.seq (W.seq (W.seq (W.region (WL.bin rfl rfl rfl rfl rfl (WL.assign rfl rfl rfl (WL.nil (N.seq ?_))))))))
 refine W.cond rfl (fun hc11 => ?_) (fun hc11 => ?_)
 ·
  have hc11p : t.kind = 2 := by simpa using hc11
  refine W.exit (X.seq (X.seq (X.blk_ne rfl (X.seq (X.blk (N.seq (W.seq (W.region (WL.move rfl rfl rfl ?_)))))))))
  refine WL.move rfl rfl rfl (WL.fieldAddr fo_57_1 rfl rfl rfl (WL.load1 (v := .int .i64 t.a) one_3 rfl rfl rfl (hS.cell 0 rfl rfl) ?_))
  have hv_a := huv (by omega)
  have hvn_a : ((t.a.toNat : Nat) : Int) = t.a := by omega
  refine WL.set 35 (v' := .int .i64 (t.a.toNat : Int)) rfl (congrArg _ (by omega)) ?_
  have hj12 : t.a.toNat < slots.length := by omega
  obtain ⟨x12, hx12, b12, o12, cs12, hE12, hr12, _, hc12, hQ12⟩ := opn hsld hj12
  obtain ⟨rfl, hi12⟩ := hQ12
  refine WL.indexAddrE (j := t.a.toNat) Tryd.underlying55 isz_3 rfl rfl rfl rfl hj12 hE12 (WL.load1 (v := .int .i64 x12) one_3 rfl rfl rfl (hS.roCells hr12 hc12 0 _ rfl) ?_)
  have hsb_a := hsb _ (List.mem_of_getElem? hx12)
  replace hS := hS.perm ((List.Perm.swap _ _ _))
  refine WL.callF (vs := [.pointer (some ⟨bm, 0, none⟩), .int .i64 5, .int .i64 x12]) Tryd.func48 (by kernel_rfl) rfl rfl rfl (load_ret 5 x12 (by omega) (by first | omega | (simp only; omega)) hS) ?_
  clear hS; rintro v w13 ⟨rfl, vo14, hS⟩
  rw [← slotAt_some hx12] at hS
  refine WL.nil (N.seq (W.seq (W.region (WL.move rfl rfl rfl ?_))))
  refine WL.build (ps := [(0, .int .i64 24), (2, .int .i64 5), (4, .int .i64 8)]) (cs := [.int .i64 24, .int .i64 0, .int .i64 5, .int .i64 0, .int .i64 8]) rfl rfl rfl (by kernel_rfl) ?_
  refine WL.buildSlice (ps := [(0, .agg #[.int .i64 24, .int .i64 0, .int .i64 5, .int .i64 0, .int .i64 8])]) (cs := [.int .i64 24, .int .i64 0, .int .i64 5, .int .i64 0, .int .i64 8]) Tryd.underlying27 (tyZero_spec zer_36) rfl rfl rfl rfl (by kernel_rfl) hS ?_
  clear hS; intro w16 b15 hb_b15 hS
  replace hS := hS.perm ((List.Perm.swap _ _ _))
  refine WL.callF (vs := [.pointer (some ⟨bm, 0, none⟩), .slice (some ⟨b15, 0, none⟩) 1 1]) Tryd.func24 (by kernel_rfl) rfl rfl rfl (put_ret (some ⟨b15, 0, none⟩) 1 1 [.int .i64 24, .int .i64 0, .int .i64 5, .int .i64 0, .int .i64 8] rfl (fun e => by cases e) (fun b off e => by cases e; exact hS.cells 1 (m := 5) rfl rfl) (fun a e _ => by cases e; rfl) (by intro u hu; simp only [List.mem_cons, List.not_mem_nil, or_false] at hu; rcases hu with rfl | rfl | rfl | rfl | rfl <;> rfl) (by first | omega | (simp only; omega)) hS) ?_
  clear hS; rintro v w17 ⟨rfl, vo18, hS⟩
  replace hS := hS.perm ((List.Perm.swap _ _ _))
  replace hS := hS.dropN 1
  refine WL.nil (N.seq (W.seq (W.region ?_)))
  refine WL.alloc (tyZero_spec zer_3) rfl rfl hS ?_
  clear hS; intro w20 b19 hb_b19 hS
  refine WL.store0 #[.int .i64 0] rfl rfl rfl rfl siz_3 rfl rfl rfl hS ?_
  clear hS; intro w21 hS
  refine WL.nil (N.seq (W.seq (W.region (WL.move rfl rfl rfl ?_))))
  refine WL.makeFunc (vs := #[.pointer (some ⟨b19, 0, none⟩)]) rfl rfl rfl ?_
  replace hS := hS.perm ((List.Perm.swap _ _ _))
  refine WL.callF (vs := [.pointer (some ⟨bm, 0, none⟩), .func (.func 50) #[] #[.pointer (some ⟨b19, 0, none⟩)]]) Tryd.func49 (by kernel_rfl) rfl rfl rfl (jump_ret (by first | omega | (simp only; omega)) (by first | omega | (simp only; omega)) hS) ?_
  clear hS; rintro v w22 ⟨rfl, vo23, vj24, bT25, bA26, bW27, hS⟩
  refine WL.nil (N.seq (W.seq (W.region (WL.move rfl rfl rfl (WL.move rfl rfl rfl (WL.fieldAddr fo_57_2 rfl rfl rfl (WL.load1 (v := .int .i64 t.to) one_3 rfl rfl rfl (hS.cell 5 rfl rfl) (WL.fieldAddr fo_57_3 rfl rfl rfl (WL.load1 (v := .slice adp t.args.length capp) one_55 rfl rfl rfl (hS.cell 5 rfl rfl) ?_)))))))))
  refine WL.callF (vs := [.pointer (some ⟨bm, 0, none⟩), .slice ads slots.length caps, .int .i64 t.to, .slice adp t.args.length capp]) Tryd.func51 (by kernel_rfl) rfl rfl rfl (goes_ret t.to slots t.args _ _ hsl0 ht1 hua hsb hmn (by omega) (by first | omega | (simp only; omega)) (by first | omega | (simp only; omega)) hS) ?_
  clear hS; rintro v w28 ⟨rfl, vo29, vj30, bT31, bA32, bW33, b4_34, b6_35, hS⟩
  refine WL.nil (N.seq (W.seq ?_))
  have hrow : w28.ownsRow w0.heap.size 36 5 vo29 (no + 1 + 1 + 1 + (hand17 slots mn t.args ++ [jal]).length) _ := hS.rows _ List.mem_cons_self
  obtain ⟨advo29, capvo29, rfl, hr1vo29, hr2vo29, hr3vo29⟩ := row_shape hrow
  clear hrow
  refine W.region (WL.move rfl rfl rfl (WL.nilPtr rfl rfl rfl (WL.fieldAddr fo_64_3 rfl rfl rfl (WL.fieldAddr fo_30_1 rfl rfl rfl (WL.load1 (v := .slice advo29 (no + 1 + 1 + 1 + (hand17 slots mn t.args ++ [jal]).length) capvo29) one_27 rfl rfl rfl (hS.cell 0 rfl rfl) (WL.lenSlice Tryd.underlying27 rfl rfl rfl ?_))))))
  refine WL.store (L' := ((bm, .cells #[.string fn, .int .i64 fb, .int .i64 fp, fv, .int .i64 mn, .int .i64 fr, .string cn, .slice advo29 (no + 1 + 1 + 1 + (hand17 slots mn t.args ++ [jal]).length) capvo29, vr, vs, vj30] 64 (0, 0)) :: (bT31, .cells #[.func (.func 68) #[] #[.pointer (some ⟨b4_34, 0, none⟩), .pointer (some ⟨b6_35, 0, none⟩)]] 96 (0, 0)) :: (bA32, .cells #[.int .i64 ((no + 1 + 1 + 1 + (hand17 slots mn t.args).length : Nat) : Int)] 3 (0, 0)) :: (bW33, .cells #[.pointer (some ⟨bm, 0, none⟩)] 61 (0, 0)) :: (b4_34, .cells #[.pointer (some ⟨bm, 0, none⟩)] 61 (0, 0)) :: (b6_35, .cells #[.int .i64 t.to] 3 (0, 0)) :: (bT25, .cells #[.func (.func 50) #[] #[.pointer (some ⟨b19, 0, none⟩)]] 96 (0, 0)) :: (bA26, .cells #[.int .i64 ((no + 1 + 1 : Nat) : Int)] 3 (0, 0)) :: (bW27, .cells #[.pointer (some ⟨bm, 0, none⟩)] 61 (0, 0)) :: (b19, .cells #[.int .i64 (no + 1 + 1 + 1 + (hand17 slots mn t.args ++ [jal]).length : Int)] 3 (0, 0)) :: (b1, .cells #[.int .i64 t.kind, .int .i64 t.a, .int .i64 t.to, .slice adp t.args.length capp, .int .i64 t.els, .slice adq t.elses.length capq] 57 (0, 0)) :: L)) 9 rfl rfl rfl rfl siz_3 rfl rfl rfl rfl rfl hS ?_
  clear hS; intro w36 hS
  refine WL.nil (N.seq (W.region (WL.fieldAddr fo_57_4 rfl rfl rfl (WL.load1 (v := .int .i64 t.els) one_3 rfl rfl rfl (hS.cell 10 rfl rfl) (WL.fieldAddr fo_57_5 rfl rfl rfl (WL.load1 (v := .slice adq t.elses.length capq) one_55 rfl rfl rfl (hS.cell 10 rfl rfl) (WL.fieldAddr fo_57_2 rfl rfl rfl ?_)))))))
  refine WL.store (L' := ((bm, .cells #[.string fn, .int .i64 fb, .int .i64 fp, fv, .int .i64 mn, .int .i64 fr, .string cn, .slice advo29 (no + 1 + 1 + 1 + (hand17 slots mn t.args ++ [jal]).length) capvo29, vr, vs, vj30] 64 (0, 0)) :: (bT31, .cells #[.func (.func 68) #[] #[.pointer (some ⟨b4_34, 0, none⟩), .pointer (some ⟨b6_35, 0, none⟩)]] 96 (0, 0)) :: (bA32, .cells #[.int .i64 ((no + 1 + 1 + 1 + (hand17 slots mn t.args).length : Nat) : Int)] 3 (0, 0)) :: (bW33, .cells #[.pointer (some ⟨bm, 0, none⟩)] 61 (0, 0)) :: (b4_34, .cells #[.pointer (some ⟨bm, 0, none⟩)] 61 (0, 0)) :: (b6_35, .cells #[.int .i64 t.to] 3 (0, 0)) :: (bT25, .cells #[.func (.func 50) #[] #[.pointer (some ⟨b19, 0, none⟩)]] 96 (0, 0)) :: (bA26, .cells #[.int .i64 ((no + 1 + 1 : Nat) : Int)] 3 (0, 0)) :: (bW27, .cells #[.pointer (some ⟨bm, 0, none⟩)] 61 (0, 0)) :: (b19, .cells #[.int .i64 (no + 1 + 1 + 1 + (hand17 slots mn t.args ++ [jal]).length : Int)] 3 (0, 0)) :: (b1, .cells #[.int .i64 t.kind, .int .i64 t.a, .int .i64 t.els, .slice adp t.args.length capp, .int .i64 t.els, .slice adq t.elses.length capq] 57 (0, 0)) :: L)) 10 rfl rfl rfl rfl siz_3 rfl rfl rfl rfl rfl hS ?_
  clear hS; intro w37 hS
  refine WL.fieldAddr fo_57_3 rfl rfl rfl ?_
  refine WL.store (L' := ((bm, .cells #[.string fn, .int .i64 fb, .int .i64 fp, fv, .int .i64 mn, .int .i64 fr, .string cn, .slice advo29 (no + 1 + 1 + 1 + (hand17 slots mn t.args ++ [jal]).length) capvo29, vr, vs, vj30] 64 (0, 0)) :: (bT31, .cells #[.func (.func 68) #[] #[.pointer (some ⟨b4_34, 0, none⟩), .pointer (some ⟨b6_35, 0, none⟩)]] 96 (0, 0)) :: (bA32, .cells #[.int .i64 ((no + 1 + 1 + 1 + (hand17 slots mn t.args).length : Nat) : Int)] 3 (0, 0)) :: (bW33, .cells #[.pointer (some ⟨bm, 0, none⟩)] 61 (0, 0)) :: (b4_34, .cells #[.pointer (some ⟨bm, 0, none⟩)] 61 (0, 0)) :: (b6_35, .cells #[.int .i64 t.to] 3 (0, 0)) :: (bT25, .cells #[.func (.func 50) #[] #[.pointer (some ⟨b19, 0, none⟩)]] 96 (0, 0)) :: (bA26, .cells #[.int .i64 ((no + 1 + 1 : Nat) : Int)] 3 (0, 0)) :: (bW27, .cells #[.pointer (some ⟨bm, 0, none⟩)] 61 (0, 0)) :: (b19, .cells #[.int .i64 (no + 1 + 1 + 1 + (hand17 slots mn t.args ++ [jal]).length : Int)] 3 (0, 0)) :: (b1, .cells #[.int .i64 t.kind, .int .i64 t.a, .int .i64 t.els, .slice adq t.elses.length capq, .int .i64 t.els, .slice adq t.elses.length capq] 57 (0, 0)) :: L)) 10 rfl rfl rfl rfl siz_55 rfl rfl rfl rfl rfl hS ?_
  clear hS; intro w38 hS
  refine WL.nil (N.blk (N.seq (W.seq (W.region (WL.move rfl rfl rfl (WL.move rfl rfl rfl (WL.fieldAddr fo_57_2 rfl rfl rfl (WL.load1 (v := .int .i64 t.els) one_3 rfl rfl rfl (hS.cell 10 rfl rfl) (WL.fieldAddr fo_57_3 rfl rfl rfl ?_)))))))))
  refine WL.load1 (v := .slice adq t.elses.length capq) one_55 rfl rfl rfl (hS.cell 10 rfl rfl) ?_
  refine WL.callF (vs := [.pointer (some ⟨bm, 0, none⟩), .slice ads slots.length caps, .int .i64 t.els, .slice adq t.elses.length capq]) Tryd.func51 (by kernel_rfl) rfl rfl rfl (goes_ret t.els slots t.elses _ _ hsl0 ht2 hue hsb hmn (by omega) (by first | omega | (simp only; omega)) (by first | omega | (simp only; omega)) hS) ?_
  clear hS; rintro v w39 ⟨rfl, vo40, vj41, bT42, bA43, bW44, b4_45, b6_46, hS⟩
  refine WL.nil (N.seq (W.exit (X.blk ?_)))
  refine Fin.end0 rfl ?_
  have hrw1 : (⟨vo40, 36, 5, no + ([ld 5 (slotAt slots t.a), ⟨24, 0, 5, 0, 8⟩, jal] ++ (hand17 slots mn t.args ++ [jal]) ++ (hand17 slots mn t.elses ++ [jal]) : List DOp).length, (co ++ oCells ([ld 5 (slotAt slots t.a), ⟨24, 0, 5, 0, 8⟩, jal] ++ (hand17 slots mn t.args ++ [jal]) ++ (hand17 slots mn t.elses ++ [jal])))⟩ : Row) = ⟨vo40, 36, 5, no + 1 + 1 + 1 + (hand17 slots mn t.args ++ [jal]).length + (hand17 slots mn t.elses ++ [jal]).length, ((co ++ oCells [ld 5 (slotAt slots t.a)] ++ [.int .i64 24, .int .i64 0, .int .i64 5, .int .i64 0, .int .i64 8] ++ oCells [jal] ++ oCells (hand17 slots mn t.args ++ [jal])) ++ oCells (hand17 slots mn t.elses ++ [jal]))⟩ := by simp [oCells, opL, Nat.add_assoc] <;> omega
  have hrw2 : (⟨vj41, 1, 1, nj + ([jumpV bT25 bA26 bW27, jumpV bT31 bA32 bW33, jumpV bT42 bA43 bW44] : List Value).length, (cj ++ [jumpV bT25 bA26 bW27, jumpV bT31 bA32 bW33, jumpV bT42 bA43 bW44])⟩ : Row) = ⟨vj41, 1, 1, nj + 1 + 1 + 1, cj ++ [jumpV bT25 bA26 bW27] ++ [jumpV bT31 bA32 bW33] ++ [jumpV bT42 bA43 bW44]⟩ := by simp [Nat.add_assoc]
  have hg : end17 no slots mn fr t = ([ld 5 (slotAt slots t.a), ⟨24, 0, 5, 0, 8⟩, jal] ++ (hand17 slots mn t.args ++ [jal]) ++ (hand17 slots mn t.elses ++ [jal]), [(no + 1 + 1, Tgt.place (no + 1 + 1 + 1 + (hand17 slots mn t.args ++ [jal]).length)), (no + 1 + 1 + 1 + (hand17 slots mn t.args).length, Tgt.block t.to), (no + 1 + 1 + 1 + (hand17 slots mn t.args ++ [jal]).length + (hand17 slots mn t.elses).length, Tgt.block t.els)]) := by unfold end17; rw [if_neg hc3p, if_pos hc11p]
  rw [← hrw1, ← hrw2] at hS
  rw [hg]
  exact ⟨rfl, vo40, vj41, [(bT42, .cells #[.func (.func 68) #[] #[.pointer (some ⟨b4_45, 0, none⟩), .pointer (some ⟨b6_46, 0, none⟩)]] 96 (0, 0)), (bA43, .cells #[.int .i64 ((no + 1 + 1 + 1 + (hand17 slots mn t.args ++ [jal]).length + (hand17 slots mn t.elses).length : Nat) : Int)] 3 (0, 0)), (bW44, .cells #[.pointer (some ⟨bm, 0, none⟩)] 61 (0, 0)), (b4_45, .cells #[.pointer (some ⟨bm, 0, none⟩)] 61 (0, 0)), (b6_46, .cells #[.int .i64 t.els] 3 (0, 0)), (bT31, .cells #[.func (.func 68) #[] #[.pointer (some ⟨b4_34, 0, none⟩), .pointer (some ⟨b6_35, 0, none⟩)]] 96 (0, 0)), (bA32, .cells #[.int .i64 ((no + 1 + 1 + 1 + (hand17 slots mn t.args).length : Nat) : Int)] 3 (0, 0)), (bW33, .cells #[.pointer (some ⟨bm, 0, none⟩)] 61 (0, 0)), (b4_34, .cells #[.pointer (some ⟨bm, 0, none⟩)] 61 (0, 0)), (b6_35, .cells #[.int .i64 t.to] 3 (0, 0)), (bT25, .cells #[.func (.func 50) #[] #[.pointer (some ⟨b19, 0, none⟩)]] 96 (0, 0)), (bA26, .cells #[.int .i64 ((no + 1 + 1 : Nat) : Int)] 3 (0, 0)), (bW27, .cells #[.pointer (some ⟨bm, 0, none⟩)] 61 (0, 0)), (b19, .cells #[.int .i64 (no + 1 + 1 + 1 + (hand17 slots mn t.args ++ [jal]).length : Int)] 3 (0, 0)), (b1, .cells #[.int .i64 t.kind, .int .i64 t.a, .int .i64 t.els, .slice adq t.elses.length capq, .int .i64 t.els, .slice adq t.elses.length capq] 57 (0, 0))], [jumpV bT25 bA26 bW27, jumpV bT31 bA32 bW33, jumpV bT42 bA43 bW44], ⟨⟨_, _, _, rfl, (List.mem_of_getElem? (i := 11) rfl), (List.mem_of_getElem? (i := 12) rfl), ⟨_, (List.mem_of_getElem? (i := 10) rfl), (List.mem_of_getElem? (i := 13) rfl)⟩⟩, ⟨_, _, _, rfl, (List.mem_of_getElem? (i := 6) rfl), (List.mem_of_getElem? (i := 7) rfl), ⟨_, _, (List.mem_of_getElem? (i := 5) rfl), (List.mem_of_getElem? (i := 8) rfl), (List.mem_of_getElem? (i := 9) rfl)⟩⟩, ⟨_, _, _, rfl, (List.mem_of_getElem? (i := 1) rfl), (List.mem_of_getElem? (i := 2) rfl), ⟨_, _, (List.mem_of_getElem? (i := 0) rfl), (List.mem_of_getElem? (i := 3) rfl), (List.mem_of_getElem? (i := 4) rfl)⟩⟩, trivial⟩, hS⟩
 have hc11p : ¬ (t.kind = 2) := by simpa using hc11
 refine W.skip (N.seq (W.seq (W.region (WL.bin rfl rfl rfl rfl rfl (WL.assign rfl rfl rfl (WL.nil (N.seq ?_)))))))
 refine W.cond rfl (fun hc47 => ?_) (fun hc47 => ?_)
 ·
  have hc47p : t.kind = 1 := by simpa using hc47
  refine W.exit (X.seq (X.blk_ne rfl (X.seq (X.blk_ne rfl (X.seq (X.blk (N.seq (W.seq (W.region ?_)))))))))
  refine WL.move rfl rfl rfl (WL.move rfl rfl rfl (WL.fieldAddr fo_57_2 rfl rfl rfl (WL.load1 (v := .int .i64 t.to) one_3 rfl rfl rfl (hS.cell 0 rfl rfl) (WL.fieldAddr fo_57_3 rfl rfl rfl (WL.load1 (v := .slice adp t.args.length capp) one_55 rfl rfl rfl (hS.cell 0 rfl rfl) ?_)))))
  replace hS := hS.perm ((List.Perm.swap _ _ _))
  refine WL.callF (vs := [.pointer (some ⟨bm, 0, none⟩), .slice ads slots.length caps, .int .i64 t.to, .slice adp t.args.length capp]) Tryd.func51 (by kernel_rfl) rfl rfl rfl (goes_ret t.to slots t.args _ _ hsl0 ht1 hua hsb hmn (by omega) (by first | omega | (simp only; omega)) (by first | omega | (simp only; omega)) hS) ?_
  clear hS; rintro v w48 ⟨rfl, vo49, vj50, bT51, bA52, bW53, b4_54, b6_55, hS⟩
  refine WL.nil (N.seq (W.exit (X.blk ?_)))
  refine Fin.end0 rfl ?_
  have hrw1 : (⟨vo49, 36, 5, no + (hand17 slots mn t.args ++ [jal] : List DOp).length, (co ++ oCells (hand17 slots mn t.args ++ [jal]))⟩ : Row) = ⟨vo49, 36, 5, no + (hand17 slots mn t.args ++ [jal]).length, (co ++ oCells (hand17 slots mn t.args ++ [jal]))⟩ := rfl
  have hrw2 : (⟨vj50, 1, 1, nj + ([jumpV bT51 bA52 bW53] : List Value).length, (cj ++ [jumpV bT51 bA52 bW53])⟩ : Row) = ⟨vj50, 1, 1, nj + 1, cj ++ [jumpV bT51 bA52 bW53]⟩ := by simp [Nat.add_assoc]
  have hg : end17 no slots mn fr t = (hand17 slots mn t.args ++ [jal], [(no + (hand17 slots mn t.args).length, Tgt.block t.to)]) := by unfold end17; rw [if_neg hc3p, if_neg hc11p]
  rw [← hrw1, ← hrw2] at hS
  rw [hg]
  exact ⟨rfl, vo49, vj50, [(bT51, .cells #[.func (.func 68) #[] #[.pointer (some ⟨b4_54, 0, none⟩), .pointer (some ⟨b6_55, 0, none⟩)]] 96 (0, 0)), (bA52, .cells #[.int .i64 ((no + (hand17 slots mn t.args).length : Nat) : Int)] 3 (0, 0)), (bW53, .cells #[.pointer (some ⟨bm, 0, none⟩)] 61 (0, 0)), (b4_54, .cells #[.pointer (some ⟨bm, 0, none⟩)] 61 (0, 0)), (b6_55, .cells #[.int .i64 t.to] 3 (0, 0)), (b1, .cells #[.int .i64 t.kind, .int .i64 t.a, .int .i64 t.to, .slice adp t.args.length capp, .int .i64 t.els, .slice adq t.elses.length capq] 57 (0, 0))], [jumpV bT51 bA52 bW53], ⟨⟨_, _, _, rfl, (List.mem_of_getElem? (i := 1) rfl), (List.mem_of_getElem? (i := 2) rfl), ⟨_, _, (List.mem_of_getElem? (i := 0) rfl), (List.mem_of_getElem? (i := 3) rfl), (List.mem_of_getElem? (i := 4) rfl)⟩⟩, trivial⟩, hS⟩
 have hc47p : ¬ (t.kind = 1) := by simpa using hc47
 refine W.skip (N.seq (W.exit (X.blk_ne rfl (X.seq (X.blk_ne rfl (X.seq (X.blk_ne rfl (X.seq (X.blk ?_)))))))))
 refine Fin.end0 rfl ?_
 exfalso; omega

end Go.Proofs.YtcmmhfknkldmcaaDoor
