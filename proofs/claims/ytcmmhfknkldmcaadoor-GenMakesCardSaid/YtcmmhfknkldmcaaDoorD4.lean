/-
  Contracts of layer 17 (gen). No condition beyond those that each theorem states.
-/
import Derived.Test.YtcmmhfknkldmcaaDoorD3
namespace Go.Proofs.YtcmmhfknkldmcaaDoor
open Go.RowKit
theorem fo_34_0 : fOff Tryd.prog 34 0 0 = true := by kernel_rfl
theorem fo_34_1 : fOff Tryd.prog 34 1 1 = true := by kernel_rfl
theorem fo_34_2 : fOff Tryd.prog 34 2 2 = true := by kernel_rfl
theorem isz_34 : (Tryd.prog.info? 34).map (·.size) = some 3 := by kernel_rfl
structure Fits (p : DPiece) : Prop where
  o : p.ops.length ≤ 40000
  r : p.rels.length ≤ 40000
  f : p.frm.length ≤ 40000
  b : p.blk.length ≤ 40000
set_option maxRecDepth 10000 in
set_option maxHeartbeats 4000000 in
theorem rjoin_ret (a b : DPiece) (xa xb : List Value) {w : World} {ro : Nat → Prop} (hro : ∀ b, ro b → b < w.heap.size) (ha : PieceC ro w xa a) (hb : PieceC ro w xb b) (hfa : Fits a) (hfb : Fits b) (hpb : POk b) : Ret Tryd.prog 56 #[.agg xa.toArray, .agg xb.toArray] w fun v w' => ∃ adO caO adR caR adF caF adB caB, v = .agg #[.slice adO (join17 a b).ops.length caO, .slice adR (join17 a b).rels.length caR, .slice adF (join17 a b).frm.length caF, .slice adB (join17 a b).blk.length caB] ∧ Made w w' [⟨.slice adO (join17 a b).ops.length caO, 36, 5, (join17 a b).ops.length, oCells (join17 a b).ops⟩, ⟨.slice adR (join17 a b).rels.length caR, 34, 3, (join17 a b).rels.length, rCells (join17 a b).rels⟩, ⟨.slice adF (join17 a b).frm.length caF, 3, 1, (join17 a b).frm.length, iCells (join17 a b).frm⟩, ⟨.slice adB (join17 a b).blk.length caB, 3, 1, (join17 a b).blk.length, iCells (join17 a b).blk⟩] := by
 obtain ⟨s1a, s2a, s3a, s4a, rfl, hOa, hRa, hFa, hBa⟩ := id ha
 obtain ⟨adOa, caOa, rfl, hOaa, hOab, hOac, hOad⟩ := id hOa
 have hOam : a.ops.length ≤ 9223372036854775807 := by have h1 := hOaa; have h2 := hOab; unfold maxLen at h2; omega
 obtain ⟨adRa, caRa, rfl, hRaa, hRab, hRac, hRad⟩ := id hRa
 have hRam : a.rels.length ≤ 9223372036854775807 := by have h1 := hRaa; have h2 := hRab; unfold maxLen at h2; omega
 obtain ⟨adFa, caFa, rfl, hFaa, hFab, hFac, hFad⟩ := id hFa
 have hFam : a.frm.length ≤ 9223372036854775807 := by have h1 := hFaa; have h2 := hFab; unfold maxLen at h2; omega
 obtain ⟨adBa, caBa, rfl, hBaa, hBab, hBac, hBad⟩ := id hBa
 have hBam : a.blk.length ≤ 9223372036854775807 := by have h1 := hBaa; have h2 := hBab; unfold maxLen at h2; omega
 obtain ⟨s1b, s2b, s3b, s4b, rfl, hOb, hRb, hFb, hBb⟩ := id hb
 obtain ⟨adOb, caOb, rfl, hOba, hObb, hObc, hObd⟩ := id hOb
 have hObm : b.ops.length ≤ 9223372036854775807 := by have h1 := hOba; have h2 := hObb; unfold maxLen at h2; omega
 obtain ⟨adRb, caRb, rfl, hRba, hRbb, hRbc, hRbd⟩ := id hRb
 have hRbm : b.rels.length ≤ 9223372036854775807 := by have h1 := hRba; have h2 := hRbb; unfold maxLen at h2; omega
 obtain ⟨adFb, caFb, rfl, hFba, hFbb, hFbc, hFbd⟩ := id hFb
 have hFbm : b.frm.length ≤ 9223372036854775807 := by have h1 := hFba; have h2 := hFbb; unfold maxLen at h2; omega
 obtain ⟨adBb, caBb, rfl, hBba, hBbb, hBbc, hBbd⟩ := id hBb
 have hBbm : b.blk.length ≤ 9223372036854775807 := by have h1 := hBba; have h2 := hBbb; unfold maxLen at h2; omega
 refine Ret.enter (P := Tryd.prog) (n := 88) (args := [.agg #[.slice adOa a.ops.length caOa, .slice adRa a.rels.length caRa, .slice adFa a.frm.length caFa, .slice adBa a.blk.length caBa], .agg #[.slice adOb b.ops.length caOb, .slice adRb b.rels.length caRb, .slice adFb b.frm.length caFb, .slice adBb b.blk.length caBb]]) (σ := [(0, .agg #[.slice adOa a.ops.length caOa, .slice adRa a.rels.length caRa, .slice adFa a.frm.length caFa, .slice adBa a.blk.length caBa]), (1, .agg #[.slice adOb b.ops.length caOb, .slice adRb b.rels.length caRb, .slice adFb b.frm.length caFb, .slice adBb b.blk.length caBb])]) Tryd.func56 rfl rfl rfl rfl ?_
 have hS := St.start (ro := ro) hro
 have hfo := hfa.o; have hfr := hfa.r; have hff := hfa.f; have hfb1 := hfa.b; have hgo := hfb.o; have hgr := hfb.r; have hgf := hfb.f; have hgb := hfb.b
 have hsub : ∀ b, ro b → ro b ∨ w.heap.size ≤ b := fun _ h => .inl h
 refine W.seq (W.region ?_)
 refine WL.box (v := .agg #[.slice adOa a.ops.length caOa, .slice adRa a.rels.length caRa, .slice adFa a.frm.length caFa, .slice adBa a.blk.length caBa]) (cs := [.slice adOa a.ops.length caOa, .slice adRa a.rels.length caRa, .slice adFa a.frm.length caFa, .slice adBa a.blk.length caBa]) rfl rfl rfl rfl hS ?_
 clear hS; intro w2 b1 hb_b1 hS
 refine WL.box (v := .agg #[.slice adOb b.ops.length caOb, .slice adRb b.rels.length caRb, .slice adFb b.frm.length caFb, .slice adBb b.blk.length caBb]) (cs := [.slice adOb b.ops.length caOb, .slice adRb b.rels.length caRb, .slice adFb b.frm.length caFb, .slice adBb b.blk.length caBb]) rfl rfl rfl rfl hS ?_
 clear hS; intro w4 b3 hb_b3 hS
 refine WL.alloc (tyZero_spec zer_99) rfl rfl hS ?_
 clear hS; intro w6 b5 hb_b5 hS
 refine WL.nil (N.seq (W.seq (W.region (WL.fieldAddr fo_99_0 rfl rfl rfl (WL.load1 (v := .slice adOa a.ops.length caOa) one_27 rfl rfl rfl (hS.cell 2 rfl rfl) (WL.lenSlice Tryd.underlying27 rfl rfl rfl (WL.assign rfl rfl rfl (WL.nil (N.seq ?_)))))))))
 refine W.seq ?_
 replace hS := hS.perm (((List.Perm.cons _ (List.Perm.swap _ _ _))).trans ((List.Perm.swap _ _ _)))
 have hal7 := hS.giveAlike
 replace hOad := hOad.keep hal7 (fun _ _ h => h)
 replace hRad := hRad.keep hal7 (fun _ _ h => h)
 replace hFad := hFad.keep hal7 (fun _ _ h => h)
 replace hBad := hBad.keep hal7 (fun _ _ h => h)
 replace hObd := hObd.keep hal7 (fun _ _ h => h)
 replace hRbd := hRbd.keep hal7 (fun _ _ h => h)
 replace hFbd := hFbd.keep hal7 (fun _ _ h => h)
 replace hBbd := hBbd.keep hal7 (fun _ _ h => h)
 have hown8 := hS.own _ List.mem_cons_self
 replace hS := hS.give
 have hrgb1 : (fun x => ro x ∨ x = b1) b1 := Or.inr rfl
 have hcgb1 : CellsAt w6 b1 0 [.slice adOa a.ops.length caOa, .slice adRa a.rels.length caRa, .slice adFa a.frm.length caFa, .slice adBa a.blk.length caBa] := cellsAt_block hown8
 replace hS := hS.perm ((List.Perm.swap _ _ _))
 have hal9 := hS.giveAlike
 replace hOad := hOad.keep hal9 (fun _ _ h => h)
 replace hRad := hRad.keep hal9 (fun _ _ h => h)
 replace hFad := hFad.keep hal9 (fun _ _ h => h)
 replace hBad := hBad.keep hal9 (fun _ _ h => h)
 replace hObd := hObd.keep hal9 (fun _ _ h => h)
 replace hRbd := hRbd.keep hal9 (fun _ _ h => h)
 replace hFbd := hFbd.keep hal9 (fun _ _ h => h)
 replace hBbd := hBbd.keep hal9 (fun _ _ h => h)
 replace hcgb1 := hcgb1.keep (hal9 _ hrgb1).2
 replace hrgb1 := (hal9 _ hrgb1).1
 have hown10 := hS.own _ List.mem_cons_self
 replace hS := hS.give
 have hrgb3 : (fun x => (fun x => ro x ∨ x = b1) x ∨ x = b3) b3 := Or.inr rfl
 have hcgb3 : CellsAt w6 b3 0 [.slice adOb b.ops.length caOb, .slice adRb b.rels.length caRb, .slice adFb b.frm.length caFb, .slice adBb b.blk.length caBb] := cellsAt_block hown10
 refine W.drawA0 (S := fun _ => True) (by kernel_rfl) (fun w11 hbd => ?_)
 replace hS := hS.grow hbd
 refine WA.conv (fuel' := 24 + 1) (listed' := (lb 25 0)) (by kernel_rfl) (by kernel_rfl) (WA.phaseR [(0, (fun v r => r = (([] : List (Nat × Obj)), [(⟨v, 36, 5, 0, []⟩ : Row)]))), (1, (fun v r => v = .pointer (some ⟨b1, 0, none⟩) ∧ r = (([] : List (Nat × Obj)), ([] : List Row)))), (2, (fun v r => v = .slice adOa a.ops.length caOa ∧ r = (([] : List (Nat × Obj)), ([] : List Row)))), (3, (fun v r => r = (([] : List (Nat × Obj)), [(⟨v, 36, 5, a.ops.length, oCells a.ops⟩ : Row)]))), (4, (fun v r => v = .pointer (some ⟨b3, 0, none⟩) ∧ r = (([] : List (Nat × Obj)), ([] : List Row)))), (5, (fun v r => v = .slice adOb b.ops.length caOb ∧ r = (([] : List (Nat × Obj)), ([] : List Row)))), (6, (fun v r => r = (([] : List (Nat × Obj)), [(⟨v, 36, 5, a.ops.length + b.ops.length, oCells a.ops ++ oCells b.ops⟩ : Row)]))), (7, (fun v r => r = (([] : List (Nat × Obj)), [(⟨v, 34, 3, 0, []⟩ : Row)]))), (8, (fun v r => v = .pointer (some ⟨b1, 1, none⟩) ∧ r = (([] : List (Nat × Obj)), ([] : List Row)))), (9, (fun v r => v = .slice adRa a.rels.length caRa ∧ r = (([] : List (Nat × Obj)), ([] : List Row)))), (10, (fun v r => r = (([] : List (Nat × Obj)), [(⟨v, 34, 3, a.rels.length, rCells a.rels⟩ : Row)]))), (11, (fun v r => r = (([] : List (Nat × Obj)), [(⟨v, 3, 1, 0, []⟩ : Row)]))), (12, (fun v r => v = .pointer (some ⟨b1, 2, none⟩) ∧ r = (([] : List (Nat × Obj)), ([] : List Row)))), (13, (fun v r => v = .slice adFa a.frm.length caFa ∧ r = (([] : List (Nat × Obj)), ([] : List Row)))), (14, (fun v r => r = (([] : List (Nat × Obj)), [(⟨v, 3, 1, a.frm.length, iCells a.frm⟩ : Row)]))), (15, (fun v r => r = (([] : List (Nat × Obj)), [(⟨v, 3, 1, 0, []⟩ : Row)]))), (16, (fun v r => v = .pointer (some ⟨b1, 3, none⟩) ∧ r = (([] : List (Nat × Obj)), ([] : List Row)))), (17, (fun v r => v = .slice adBa a.blk.length caBa ∧ r = (([] : List (Nat × Obj)), ([] : List Row)))), (18, (fun v r => r = (([] : List (Nat × Obj)), [(⟨v, 3, 1, a.blk.length, iCells a.blk⟩ : Row)]))), (19, (fun v r => v = .pointer (some ⟨b3, 3, none⟩) ∧ r = (([] : List (Nat × Obj)), ([] : List Row)))), (20, (fun v r => v = .slice adBb b.blk.length caBb ∧ r = (([] : List (Nat × Obj)), ([] : List Row)))), (21, (fun v r => r = (([] : List (Nat × Obj)), [(⟨v, 3, 1, a.blk.length + b.blk.length, iCells a.blk ++ iCells b.blk⟩ : Row)]))), (22, (fun v r => ∃ adO caO adR caR adF caF adB caB, v = .agg #[.slice adO (a.ops.length + b.ops.length) caO, .slice adR a.rels.length caR, .slice adF a.frm.length caF, .slice adB (a.blk.length + b.blk.length) caB] ∧ r = (([] : List (Nat × Obj)), [(⟨.slice adO (a.ops.length + b.ops.length) caO, 36, 5, a.ops.length + b.ops.length, oCells a.ops ++ oCells b.ops⟩ : Row), (⟨.slice adR (a.rels.length) caR, 34, 3, a.rels.length, rCells a.rels⟩ : Row), (⟨.slice adF (a.frm.length) caF, 3, 1, a.frm.length, iCells a.frm⟩ : Row), (⟨.slice adB (a.blk.length + b.blk.length) caB, 3, 1, a.blk.length + b.blk.length, iCells a.blk ++ iCells b.blk⟩ : Row)]))), (23, (fun v r => ∃ b, v = .pointer (some ⟨b, 0, none⟩) ∧ r = ([(b, Obj.cells #[.slice none 0 0, .slice none 0 0, .slice none 0 0, .slice none 0 0] 99 (0, 0))], ([] : List Row))))] [(3, 0), (6, 3), (10, 7), (14, 11), (18, 15), (21, 18), (22, 6), (22, 10), (22, 14), (22, 21)] [1, 2, 4, 5, 8, 9, 12, 13, 16, 17, 19, 20, 22, 23] (by kernel_rfl) (by kernel_rfl) (by kernel_rfl) [(2, .pointer (some ⟨b1, 0, none⟩)), (3, .pointer (some ⟨b3, 0, none⟩)), (4, .pointer (some ⟨b5, 0, none⟩)), (5, .int .i64 (a.ops.length : Int))] ⟨rfl, rfl, rfl, rfl, trivial⟩ (by kernel_rfl) hS ?_ ?_)
 ·
  refine ⟨fun β ρ u LT RT hD hS => ⟨_, rfl, ?_⟩, ?_⟩
  ·
   replace hS : St w w6 u (fun x => (fun x => ro x ∨ x = b1) x ∨ x = b3) LT RT := hS
   refine WL.buildSlice0 Tryd.underlying27 isz_36 rfl rfl hS ?_
   clear hS; intro w13 b12 hS
   exact WL.nil (N.cut _ ⟨rfl, trivial⟩ ⟨(([] : List (Nat × Obj)), ([⟨.slice (some ⟨b12, 0, none⟩) 0 0, 36, 5, 0, []⟩] : List Row)), rfl, hS⟩)
  refine ⟨fun β ρ u LT RT hD hS => ⟨_, rfl, ?_⟩, ?_⟩
  ·
   replace hS : St w w6 u (fun x => (fun x => ro x ∨ x = b1) x ∨ x = b3) LT RT := hS
   refine WL.fieldAddr fo_99_0 rfl rfl rfl ?_
   exact WL.nil (N.cut _ ⟨rfl, trivial⟩ ⟨(([] : List (Nat × Obj)), ([] : List Row)), ⟨rfl, rfl⟩, hS⟩)
  refine ⟨fun β ρ u LT RT hD hS => ⟨_, rfl, ?_⟩, ?_⟩
  ·
   obtain ⟨hp1, _⟩ := hD
   replace hp1 : (fun v r => v = .pointer (some ⟨b1, 0, none⟩) ∧ r = (([] : List (Nat × Obj)), ([] : List Row))) (β 1) (ρ 1) := hp1
   refine WL.sub (σ' := [(13, .pointer (some ⟨b1, 0, none⟩))]) ⟨congrArg some hp1.1, trivial⟩ ?_
   replace hS : St w w6 u (fun x => (fun x => ro x ∨ x = b1) x ∨ x = b3) LT RT := hS
   refine WL.load1 (v := .slice adOa a.ops.length caOa) one_27 rfl rfl rfl (hS.roCells hrgb1 hcgb1 0 _ rfl) ?_
   exact WL.nil (N.cut _ ⟨rfl, trivial⟩ ⟨(([] : List (Nat × Obj)), ([] : List Row)), ⟨rfl, rfl⟩, hS⟩)
  refine ⟨fun β ρ u LT RT hD hS => ⟨_, rfl, ?_⟩, ?_⟩
  ·
   obtain ⟨hp0, hp2, _⟩ := hD
   replace hp0 : (fun v r => r = (([] : List (Nat × Obj)), [(⟨v, 36, 5, 0, []⟩ : Row)])) (β 0) (ρ 0) := hp0
   replace hp2 : (fun v r => v = .slice adOa a.ops.length caOa ∧ r = (([] : List (Nat × Obj)), ([] : List Row))) (β 2) (ρ 2) := hp2
   refine WL.sub (σ' := [(12, (β 0)), (14, .slice adOa a.ops.length caOa)]) ⟨rfl, congrArg some hp2.1, trivial⟩ ?_
   replace hp0 : ρ 0 = (([] : List (Nat × Obj)), [(⟨(β 0), 36, 5, 0, []⟩ : Row)]) := hp0
   replace hS : St w w6 u (fun x => (fun x => ro x ∨ x = b1) x ∨ x = b3) LT (⟨(β 0), 36, 5, 0, []⟩ :: RT) := by have h := hS; rw [show used [(3, 0), (6, 3), (10, 7), (14, 11), (18, 15), (21, 18), (22, 6), (22, 10), (22, 14), (22, 21)] 3 = [0] from rfl] at h; simp only [resL, resR, List.flatMap_cons, List.flatMap_nil, hp0, List.append_nil, List.nil_append, List.cons_append] at h; exact h
   clear hp0
   generalize β 0 = z0 at hS ⊢
   obtain ⟨nw, hch, hnw, hsp⟩ := elems_news hOad
   have hcn := chunks_oCells hch; subst hcn
   refine WL.appendRo (r := ⟨z0, 36, 5, 0, []⟩) (news := oCells a.ops) 40 Tryd.underlying27 (tyZero_spec zer_36) byt_36 rfl rfl rfl rfl rfl hch.1 (fun e => ⟨by have := hOac e; omega, hOac e⟩) ?_ hsp (chunks_all hch (by decide) (fun _ _ q => one_op q)) rfl rfl hS (by simp only; unfold maxLen; omega) (by simp only; omega) ?_
   ·
    intro bz off e
    by_cases hn0 : oCells a.ops = []
    ·
     rw [hn0]; intro j v hj; simp at hj
    exact hS.roCells ((hnw bz off e).2 hn0) (hnw bz off e).1
   clear hS; intro w14 v15 hS hnn
   replace hS : St w w6 w14 (fun x => (fun x => ro x ∨ x = b1) x ∨ x = b3) LT (⟨v15, 36, 5, a.ops.length, oCells a.ops⟩ :: RT) := by rw [Nat.zero_add, List.nil_append] at hS; exact hS
   exact WL.nil (N.cut _ ⟨rfl, trivial⟩ ⟨(([] : List (Nat × Obj)), ([⟨v15, 36, 5, a.ops.length, oCells a.ops⟩] : List Row)), rfl, hS⟩)
  refine ⟨fun β ρ u LT RT hD hS => ⟨_, rfl, ?_⟩, ?_⟩
  ·
   replace hS : St w w6 u (fun x => (fun x => ro x ∨ x = b1) x ∨ x = b3) LT RT := hS
   refine WL.fieldAddr fo_99_0 rfl rfl rfl ?_
   exact WL.nil (N.cut _ ⟨rfl, trivial⟩ ⟨(([] : List (Nat × Obj)), ([] : List Row)), ⟨rfl, rfl⟩, hS⟩)
  refine ⟨fun β ρ u LT RT hD hS => ⟨_, rfl, ?_⟩, ?_⟩
  ·
   obtain ⟨hp4, _⟩ := hD
   replace hp4 : (fun v r => v = .pointer (some ⟨b3, 0, none⟩) ∧ r = (([] : List (Nat × Obj)), ([] : List Row))) (β 4) (ρ 4) := hp4
   refine WL.sub (σ' := [(16, .pointer (some ⟨b3, 0, none⟩))]) ⟨congrArg some hp4.1, trivial⟩ ?_
   replace hS : St w w6 u (fun x => (fun x => ro x ∨ x = b1) x ∨ x = b3) LT RT := hS
   refine WL.load1 (v := .slice adOb b.ops.length caOb) one_27 rfl rfl rfl (hS.roCells hrgb3 hcgb3 0 _ rfl) ?_
   exact WL.nil (N.cut _ ⟨rfl, trivial⟩ ⟨(([] : List (Nat × Obj)), ([] : List Row)), ⟨rfl, rfl⟩, hS⟩)
  refine ⟨fun β ρ u LT RT hD hS => ⟨_, rfl, ?_⟩, ?_⟩
  ·
   obtain ⟨hp3, hp5, _, _⟩ := hD
   replace hp3 : (fun v r => r = (([] : List (Nat × Obj)), [(⟨v, 36, 5, a.ops.length, oCells a.ops⟩ : Row)])) (β 3) (ρ 3) := hp3
   replace hp5 : (fun v r => v = .slice adOb b.ops.length caOb ∧ r = (([] : List (Nat × Obj)), ([] : List Row))) (β 5) (ρ 5) := hp5
   refine WL.sub (σ' := [(15, (β 3)), (17, .slice adOb b.ops.length caOb)]) ⟨rfl, congrArg some hp5.1, trivial⟩ ?_
   replace hp3 : ρ 3 = (([] : List (Nat × Obj)), [(⟨(β 3), 36, 5, a.ops.length, oCells a.ops⟩ : Row)]) := hp3
   replace hS : St w w6 u (fun x => (fun x => ro x ∨ x = b1) x ∨ x = b3) LT (⟨(β 3), 36, 5, a.ops.length, oCells a.ops⟩ :: RT) := by have h := hS; rw [show used [(3, 0), (6, 3), (10, 7), (14, 11), (18, 15), (21, 18), (22, 6), (22, 10), (22, 14), (22, 21)] 6 = [3] from rfl] at h; simp only [resL, resR, List.flatMap_cons, List.flatMap_nil, hp3, List.append_nil, List.nil_append, List.cons_append] at h; exact h
   clear hp3
   generalize β 3 = z3 at hS ⊢
   obtain ⟨nw, hch, hnw, hsp⟩ := elems_news hObd
   have hcn := chunks_oCells hch; subst hcn
   refine WL.appendRo (r := ⟨z3, 36, 5, a.ops.length, oCells a.ops⟩) (news := oCells b.ops) 40 Tryd.underlying27 (tyZero_spec zer_36) byt_36 rfl rfl rfl rfl rfl hch.1 (fun e => ⟨by have := hObc e; omega, hObc e⟩) ?_ hsp (chunks_all hch (by decide) (fun _ _ q => one_op q)) rfl rfl hS (by simp only; unfold maxLen; omega) (by simp only; omega) ?_
   ·
    intro bz off e
    by_cases hn0 : oCells b.ops = []
    ·
     rw [hn0]; intro j v hj; simp at hj
    exact hS.roCells ((hnw bz off e).2 hn0) (hnw bz off e).1
   clear hS; intro w16 v17 hS hnn
   replace hS : St w w6 w16 (fun x => (fun x => ro x ∨ x = b1) x ∨ x = b3) LT (⟨v17, 36, 5, a.ops.length + b.ops.length, oCells a.ops ++ oCells b.ops⟩ :: RT) := hS
   exact WL.nil (N.cut _ ⟨rfl, trivial⟩ ⟨(([] : List (Nat × Obj)), ([⟨v17, 36, 5, a.ops.length + b.ops.length, oCells a.ops ++ oCells b.ops⟩] : List Row)), rfl, hS⟩)
  refine ⟨fun β ρ u LT RT hD hS => ⟨_, rfl, ?_⟩, ?_⟩
  ·
   replace hS : St w w6 u (fun x => (fun x => ro x ∨ x = b1) x ∨ x = b3) LT RT := hS
   refine WL.buildSlice0 Tryd.underlying28 isz_34 rfl rfl hS ?_
   clear hS; intro w19 b18 hS
   exact WL.nil (N.cut _ ⟨rfl, trivial⟩ ⟨(([] : List (Nat × Obj)), ([⟨.slice (some ⟨b18, 0, none⟩) 0 0, 34, 3, 0, []⟩] : List Row)), rfl, hS⟩)
  refine ⟨fun β ρ u LT RT hD hS => ⟨_, rfl, ?_⟩, ?_⟩
  ·
   replace hS : St w w6 u (fun x => (fun x => ro x ∨ x = b1) x ∨ x = b3) LT RT := hS
   refine WL.fieldAddr fo_99_1 rfl rfl rfl ?_
   exact WL.nil (N.cut _ ⟨rfl, trivial⟩ ⟨(([] : List (Nat × Obj)), ([] : List Row)), ⟨rfl, rfl⟩, hS⟩)
  refine ⟨fun β ρ u LT RT hD hS => ⟨_, rfl, ?_⟩, ?_⟩
  ·
   obtain ⟨hp8, _⟩ := hD
   replace hp8 : (fun v r => v = .pointer (some ⟨b1, 1, none⟩) ∧ r = (([] : List (Nat × Obj)), ([] : List Row))) (β 8) (ρ 8) := hp8
   refine WL.sub (σ' := [(20, .pointer (some ⟨b1, 1, none⟩))]) ⟨congrArg some hp8.1, trivial⟩ ?_
   replace hS : St w w6 u (fun x => (fun x => ro x ∨ x = b1) x ∨ x = b3) LT RT := hS
   refine WL.load1 (v := .slice adRa a.rels.length caRa) one_28 rfl rfl rfl (hS.roCells hrgb1 hcgb1 1 _ rfl) ?_
   exact WL.nil (N.cut _ ⟨rfl, trivial⟩ ⟨(([] : List (Nat × Obj)), ([] : List Row)), ⟨rfl, rfl⟩, hS⟩)
  refine ⟨fun β ρ u LT RT hD hS => ⟨_, rfl, ?_⟩, ?_⟩
  ·
   obtain ⟨hp7, hp9, _, _⟩ := hD
   replace hp7 : (fun v r => r = (([] : List (Nat × Obj)), [(⟨v, 34, 3, 0, []⟩ : Row)])) (β 7) (ρ 7) := hp7
   replace hp9 : (fun v r => v = .slice adRa a.rels.length caRa ∧ r = (([] : List (Nat × Obj)), ([] : List Row))) (β 9) (ρ 9) := hp9
   refine WL.sub (σ' := [(19, (β 7)), (21, .slice adRa a.rels.length caRa)]) ⟨rfl, congrArg some hp9.1, trivial⟩ ?_
   replace hp7 : ρ 7 = (([] : List (Nat × Obj)), [(⟨(β 7), 34, 3, 0, []⟩ : Row)]) := hp7
   replace hS : St w w6 u (fun x => (fun x => ro x ∨ x = b1) x ∨ x = b3) LT (⟨(β 7), 34, 3, 0, []⟩ :: RT) := by have h := hS; rw [show used [(3, 0), (6, 3), (10, 7), (14, 11), (18, 15), (21, 18), (22, 6), (22, 10), (22, 14), (22, 21)] 10 = [7] from rfl] at h; simp only [resL, resR, List.flatMap_cons, List.flatMap_nil, hp7, List.append_nil, List.nil_append, List.cons_append] at h; exact h
   clear hp7
   generalize β 7 = z7 at hS ⊢
   obtain ⟨nw, hch, hnw, hsp⟩ := elems_news hRad
   have hcn := chunks_rCells hch; subst hcn
   refine WL.appendRo (r := ⟨z7, 34, 3, 0, []⟩) (news := rCells a.rels) 32 Tryd.underlying28 (tyZero_spec zer_34) byt_34 rfl rfl rfl rfl rfl hch.1 (fun e => ⟨by have := hRac e; omega, hRac e⟩) ?_ hsp (chunks_all hch (by decide) (fun _ _ q => one_rel q)) rfl rfl hS (by simp only; unfold maxLen; omega) (by simp only; omega) ?_
   ·
    intro bz off e
    by_cases hn0 : rCells a.rels = []
    ·
     rw [hn0]; intro j v hj; simp at hj
    exact hS.roCells ((hnw bz off e).2 hn0) (hnw bz off e).1
   clear hS; intro w20 v21 hS hnn
   replace hS : St w w6 w20 (fun x => (fun x => ro x ∨ x = b1) x ∨ x = b3) LT (⟨v21, 34, 3, a.rels.length, rCells a.rels⟩ :: RT) := by rw [Nat.zero_add, List.nil_append] at hS; exact hS
   exact WL.nil (N.cut _ ⟨rfl, trivial⟩ ⟨(([] : List (Nat × Obj)), ([⟨v21, 34, 3, a.rels.length, rCells a.rels⟩] : List Row)), rfl, hS⟩)
  refine ⟨fun β ρ u LT RT hD hS => ⟨_, rfl, ?_⟩, ?_⟩
  ·
   replace hS : St w w6 u (fun x => (fun x => ro x ∨ x = b1) x ∨ x = b3) LT RT := hS
   refine WL.buildSlice0 Tryd.underlying55 isz_3 rfl rfl hS ?_
   clear hS; intro w23 b22 hS
   exact WL.nil (N.cut _ ⟨rfl, trivial⟩ ⟨(([] : List (Nat × Obj)), ([⟨.slice (some ⟨b22, 0, none⟩) 0 0, 3, 1, 0, []⟩] : List Row)), rfl, hS⟩)
  refine ⟨fun β ρ u LT RT hD hS => ⟨_, rfl, ?_⟩, ?_⟩
  ·
   replace hS : St w w6 u (fun x => (fun x => ro x ∨ x = b1) x ∨ x = b3) LT RT := hS
   refine WL.fieldAddr fo_99_2 rfl rfl rfl ?_
   exact WL.nil (N.cut _ ⟨rfl, trivial⟩ ⟨(([] : List (Nat × Obj)), ([] : List Row)), ⟨rfl, rfl⟩, hS⟩)
  refine ⟨fun β ρ u LT RT hD hS => ⟨_, rfl, ?_⟩, ?_⟩
  ·
   obtain ⟨hp12, _⟩ := hD
   replace hp12 : (fun v r => v = .pointer (some ⟨b1, 2, none⟩) ∧ r = (([] : List (Nat × Obj)), ([] : List Row))) (β 12) (ρ 12) := hp12
   refine WL.sub (σ' := [(24, .pointer (some ⟨b1, 2, none⟩))]) ⟨congrArg some hp12.1, trivial⟩ ?_
   replace hS : St w w6 u (fun x => (fun x => ro x ∨ x = b1) x ∨ x = b3) LT RT := hS
   refine WL.load1 (v := .slice adFa a.frm.length caFa) one_55 rfl rfl rfl (hS.roCells hrgb1 hcgb1 2 _ rfl) ?_
   exact WL.nil (N.cut _ ⟨rfl, trivial⟩ ⟨(([] : List (Nat × Obj)), ([] : List Row)), ⟨rfl, rfl⟩, hS⟩)
  refine ⟨fun β ρ u LT RT hD hS => ⟨_, rfl, ?_⟩, ?_⟩
  ·
   obtain ⟨hp11, hp13, _, _⟩ := hD
   replace hp11 : (fun v r => r = (([] : List (Nat × Obj)), [(⟨v, 3, 1, 0, []⟩ : Row)])) (β 11) (ρ 11) := hp11
   replace hp13 : (fun v r => v = .slice adFa a.frm.length caFa ∧ r = (([] : List (Nat × Obj)), ([] : List Row))) (β 13) (ρ 13) := hp13
   refine WL.sub (σ' := [(23, (β 11)), (25, .slice adFa a.frm.length caFa)]) ⟨rfl, congrArg some hp13.1, trivial⟩ ?_
   replace hp11 : ρ 11 = (([] : List (Nat × Obj)), [(⟨(β 11), 3, 1, 0, []⟩ : Row)]) := hp11
   replace hS : St w w6 u (fun x => (fun x => ro x ∨ x = b1) x ∨ x = b3) LT (⟨(β 11), 3, 1, 0, []⟩ :: RT) := by have h := hS; rw [show used [(3, 0), (6, 3), (10, 7), (14, 11), (18, 15), (21, 18), (22, 6), (22, 10), (22, 14), (22, 21)] 14 = [11] from rfl] at h; simp only [resL, resR, List.flatMap_cons, List.flatMap_nil, hp11, List.append_nil, List.nil_append, List.cons_append] at h; exact h
   clear hp11
   generalize β 11 = z11 at hS ⊢
   obtain ⟨nw, hch, hnw, hsp⟩ := elems_news hFad
   have hcn := chunks_iCells hch; subst hcn
   refine WL.appendRo (r := ⟨z11, 3, 1, 0, []⟩) (news := iCells a.frm) 8 Tryd.underlying55 (tyZero_spec zer_3) byt_3 rfl rfl rfl rfl rfl hch.1 (fun e => ⟨by have := hFac e; omega, hFac e⟩) ?_ hsp (chunks_all hch (by decide) (fun _ _ q => one_ints q)) rfl rfl hS (by simp only; unfold maxLen; omega) (by simp only; omega) ?_
   ·
    intro bz off e
    by_cases hn0 : iCells a.frm = []
    ·
     rw [hn0]; intro j v hj; simp at hj
    exact hS.roCells ((hnw bz off e).2 hn0) (hnw bz off e).1
   clear hS; intro w24 v25 hS hnn
   replace hS : St w w6 w24 (fun x => (fun x => ro x ∨ x = b1) x ∨ x = b3) LT (⟨v25, 3, 1, a.frm.length, iCells a.frm⟩ :: RT) := by rw [Nat.zero_add, List.nil_append] at hS; exact hS
   exact WL.nil (N.cut _ ⟨rfl, trivial⟩ ⟨(([] : List (Nat × Obj)), ([⟨v25, 3, 1, a.frm.length, iCells a.frm⟩] : List Row)), rfl, hS⟩)
  refine ⟨fun β ρ u LT RT hD hS => ⟨_, rfl, ?_⟩, ?_⟩
  ·
   replace hS : St w w6 u (fun x => (fun x => ro x ∨ x = b1) x ∨ x = b3) LT RT := hS
   refine WL.buildSlice0 Tryd.underlying55 isz_3 rfl rfl hS ?_
   clear hS; intro w27 b26 hS
   exact WL.nil (N.cut _ ⟨rfl, trivial⟩ ⟨(([] : List (Nat × Obj)), ([⟨.slice (some ⟨b26, 0, none⟩) 0 0, 3, 1, 0, []⟩] : List Row)), rfl, hS⟩)
  refine ⟨fun β ρ u LT RT hD hS => ⟨_, rfl, ?_⟩, ?_⟩
  ·
   replace hS : St w w6 u (fun x => (fun x => ro x ∨ x = b1) x ∨ x = b3) LT RT := hS
   refine WL.fieldAddr fo_99_3 rfl rfl rfl ?_
   exact WL.nil (N.cut _ ⟨rfl, trivial⟩ ⟨(([] : List (Nat × Obj)), ([] : List Row)), ⟨rfl, rfl⟩, hS⟩)
  refine ⟨fun β ρ u LT RT hD hS => ⟨_, rfl, ?_⟩, ?_⟩
  ·
   obtain ⟨hp16, _⟩ := hD
   replace hp16 : (fun v r => v = .pointer (some ⟨b1, 3, none⟩) ∧ r = (([] : List (Nat × Obj)), ([] : List Row))) (β 16) (ρ 16) := hp16
   refine WL.sub (σ' := [(28, .pointer (some ⟨b1, 3, none⟩))]) ⟨congrArg some hp16.1, trivial⟩ ?_
   replace hS : St w w6 u (fun x => (fun x => ro x ∨ x = b1) x ∨ x = b3) LT RT := hS
   refine WL.load1 (v := .slice adBa a.blk.length caBa) one_55 rfl rfl rfl (hS.roCells hrgb1 hcgb1 3 _ rfl) ?_
   exact WL.nil (N.cut _ ⟨rfl, trivial⟩ ⟨(([] : List (Nat × Obj)), ([] : List Row)), ⟨rfl, rfl⟩, hS⟩)
  refine ⟨fun β ρ u LT RT hD hS => ⟨_, rfl, ?_⟩, ?_⟩
  ·
   obtain ⟨hp15, hp17, _, _⟩ := hD
   replace hp15 : (fun v r => r = (([] : List (Nat × Obj)), [(⟨v, 3, 1, 0, []⟩ : Row)])) (β 15) (ρ 15) := hp15
   replace hp17 : (fun v r => v = .slice adBa a.blk.length caBa ∧ r = (([] : List (Nat × Obj)), ([] : List Row))) (β 17) (ρ 17) := hp17
   refine WL.sub (σ' := [(27, (β 15)), (29, .slice adBa a.blk.length caBa)]) ⟨rfl, congrArg some hp17.1, trivial⟩ ?_
   replace hp15 : ρ 15 = (([] : List (Nat × Obj)), [(⟨(β 15), 3, 1, 0, []⟩ : Row)]) := hp15
   replace hS : St w w6 u (fun x => (fun x => ro x ∨ x = b1) x ∨ x = b3) LT (⟨(β 15), 3, 1, 0, []⟩ :: RT) := by have h := hS; rw [show used [(3, 0), (6, 3), (10, 7), (14, 11), (18, 15), (21, 18), (22, 6), (22, 10), (22, 14), (22, 21)] 18 = [15] from rfl] at h; simp only [resL, resR, List.flatMap_cons, List.flatMap_nil, hp15, List.append_nil, List.nil_append, List.cons_append] at h; exact h
   clear hp15
   generalize β 15 = z15 at hS ⊢
   obtain ⟨nw, hch, hnw, hsp⟩ := elems_news hBad
   have hcn := chunks_iCells hch; subst hcn
   refine WL.appendRo (r := ⟨z15, 3, 1, 0, []⟩) (news := iCells a.blk) 8 Tryd.underlying55 (tyZero_spec zer_3) byt_3 rfl rfl rfl rfl rfl hch.1 (fun e => ⟨by have := hBac e; omega, hBac e⟩) ?_ hsp (chunks_all hch (by decide) (fun _ _ q => one_ints q)) rfl rfl hS (by simp only; unfold maxLen; omega) (by simp only; omega) ?_
   ·
    intro bz off e
    by_cases hn0 : iCells a.blk = []
    ·
     rw [hn0]; intro j v hj; simp at hj
    exact hS.roCells ((hnw bz off e).2 hn0) (hnw bz off e).1
   clear hS; intro w28 v29 hS hnn
   replace hS : St w w6 w28 (fun x => (fun x => ro x ∨ x = b1) x ∨ x = b3) LT (⟨v29, 3, 1, a.blk.length, iCells a.blk⟩ :: RT) := by rw [Nat.zero_add, List.nil_append] at hS; exact hS
   exact WL.nil (N.cut _ ⟨rfl, trivial⟩ ⟨(([] : List (Nat × Obj)), ([⟨v29, 3, 1, a.blk.length, iCells a.blk⟩] : List Row)), rfl, hS⟩)
  refine ⟨fun β ρ u LT RT hD hS => ⟨_, rfl, ?_⟩, ?_⟩
  ·
   replace hS : St w w6 u (fun x => (fun x => ro x ∨ x = b1) x ∨ x = b3) LT RT := hS
   refine WL.fieldAddr fo_99_3 rfl rfl rfl ?_
   exact WL.nil (N.cut _ ⟨rfl, trivial⟩ ⟨(([] : List (Nat × Obj)), ([] : List Row)), ⟨rfl, rfl⟩, hS⟩)
  refine ⟨fun β ρ u LT RT hD hS => ⟨_, rfl, ?_⟩, ?_⟩
  ·
   obtain ⟨hp19, _⟩ := hD
   replace hp19 : (fun v r => v = .pointer (some ⟨b3, 3, none⟩) ∧ r = (([] : List (Nat × Obj)), ([] : List Row))) (β 19) (ρ 19) := hp19
   refine WL.sub (σ' := [(31, .pointer (some ⟨b3, 3, none⟩))]) ⟨congrArg some hp19.1, trivial⟩ ?_
   replace hS : St w w6 u (fun x => (fun x => ro x ∨ x = b1) x ∨ x = b3) LT RT := hS
   refine WL.load1 (v := .slice adBb b.blk.length caBb) one_55 rfl rfl rfl (hS.roCells hrgb3 hcgb3 3 _ rfl) ?_
   exact WL.nil (N.cut _ ⟨rfl, trivial⟩ ⟨(([] : List (Nat × Obj)), ([] : List Row)), ⟨rfl, rfl⟩, hS⟩)
  refine ⟨fun β ρ u LT RT hD hS => ⟨_, rfl, ?_⟩, ?_⟩
  ·
   obtain ⟨hp18, hp20, _, _⟩ := hD
   replace hp18 : (fun v r => r = (([] : List (Nat × Obj)), [(⟨v, 3, 1, a.blk.length, iCells a.blk⟩ : Row)])) (β 18) (ρ 18) := hp18
   replace hp20 : (fun v r => v = .slice adBb b.blk.length caBb ∧ r = (([] : List (Nat × Obj)), ([] : List Row))) (β 20) (ρ 20) := hp20
   refine WL.sub (σ' := [(30, (β 18)), (32, .slice adBb b.blk.length caBb)]) ⟨rfl, congrArg some hp20.1, trivial⟩ ?_
   replace hp18 : ρ 18 = (([] : List (Nat × Obj)), [(⟨(β 18), 3, 1, a.blk.length, iCells a.blk⟩ : Row)]) := hp18
   replace hS : St w w6 u (fun x => (fun x => ro x ∨ x = b1) x ∨ x = b3) LT (⟨(β 18), 3, 1, a.blk.length, iCells a.blk⟩ :: RT) := by have h := hS; rw [show used [(3, 0), (6, 3), (10, 7), (14, 11), (18, 15), (21, 18), (22, 6), (22, 10), (22, 14), (22, 21)] 21 = [18] from rfl] at h; simp only [resL, resR, List.flatMap_cons, List.flatMap_nil, hp18, List.append_nil, List.nil_append, List.cons_append] at h; exact h
   clear hp18
   generalize β 18 = z18 at hS ⊢
   obtain ⟨nw, hch, hnw, hsp⟩ := elems_news hBbd
   have hcn := chunks_iCells hch; subst hcn
   refine WL.appendRo (r := ⟨z18, 3, 1, a.blk.length, iCells a.blk⟩) (news := iCells b.blk) 8 Tryd.underlying55 (tyZero_spec zer_3) byt_3 rfl rfl rfl rfl rfl hch.1 (fun e => ⟨by have := hBbc e; omega, hBbc e⟩) ?_ hsp (chunks_all hch (by decide) (fun _ _ q => one_ints q)) rfl rfl hS (by simp only; unfold maxLen; omega) (by simp only; omega) ?_
   ·
    intro bz off e
    by_cases hn0 : iCells b.blk = []
    ·
     rw [hn0]; intro j v hj; simp at hj
    exact hS.roCells ((hnw bz off e).2 hn0) (hnw bz off e).1
   clear hS; intro w30 v31 hS hnn
   replace hS : St w w6 w30 (fun x => (fun x => ro x ∨ x = b1) x ∨ x = b3) LT (⟨v31, 3, 1, a.blk.length + b.blk.length, iCells a.blk ++ iCells b.blk⟩ :: RT) := hS
   exact WL.nil (N.cut _ ⟨rfl, trivial⟩ ⟨(([] : List (Nat × Obj)), ([⟨v31, 3, 1, a.blk.length + b.blk.length, iCells a.blk ++ iCells b.blk⟩] : List Row)), rfl, hS⟩)
  refine ⟨fun β ρ u LT RT hD hS => ⟨_, rfl, ?_⟩, ?_⟩
  ·
   obtain ⟨hp6, hp10, hp14, hp21, _⟩ := hD
   replace hp6 : (fun v r => r = (([] : List (Nat × Obj)), [(⟨v, 36, 5, a.ops.length + b.ops.length, oCells a.ops ++ oCells b.ops⟩ : Row)])) (β 6) (ρ 6) := hp6
   replace hp10 : (fun v r => r = (([] : List (Nat × Obj)), [(⟨v, 34, 3, a.rels.length, rCells a.rels⟩ : Row)])) (β 10) (ρ 10) := hp10
   replace hp14 : (fun v r => r = (([] : List (Nat × Obj)), [(⟨v, 3, 1, a.frm.length, iCells a.frm⟩ : Row)])) (β 14) (ρ 14) := hp14
   replace hp21 : (fun v r => r = (([] : List (Nat × Obj)), [(⟨v, 3, 1, a.blk.length + b.blk.length, iCells a.blk ++ iCells b.blk⟩ : Row)])) (β 21) (ρ 21) := hp21
   refine WL.sub (σ' := [(18, (β 6)), (22, (β 10)), (26, (β 14)), (33, (β 21))]) ⟨rfl, rfl, rfl, rfl, trivial⟩ ?_
   replace hp6 : ρ 6 = (([] : List (Nat × Obj)), [(⟨(β 6), 36, 5, a.ops.length + b.ops.length, oCells a.ops ++ oCells b.ops⟩ : Row)]) := hp6
   replace hp10 : ρ 10 = (([] : List (Nat × Obj)), [(⟨(β 10), 34, 3, a.rels.length, rCells a.rels⟩ : Row)]) := hp10
   replace hp14 : ρ 14 = (([] : List (Nat × Obj)), [(⟨(β 14), 3, 1, a.frm.length, iCells a.frm⟩ : Row)]) := hp14
   replace hp21 : ρ 21 = (([] : List (Nat × Obj)), [(⟨(β 21), 3, 1, a.blk.length + b.blk.length, iCells a.blk ++ iCells b.blk⟩ : Row)]) := hp21
   replace hS : St w w6 u (fun x => (fun x => ro x ∨ x = b1) x ∨ x = b3) LT (⟨(β 6), 36, 5, a.ops.length + b.ops.length, oCells a.ops ++ oCells b.ops⟩ :: ⟨(β 10), 34, 3, a.rels.length, rCells a.rels⟩ :: ⟨(β 14), 3, 1, a.frm.length, iCells a.frm⟩ :: ⟨(β 21), 3, 1, a.blk.length + b.blk.length, iCells a.blk ++ iCells b.blk⟩ :: RT) := by have h := hS; rw [show used [(3, 0), (6, 3), (10, 7), (14, 11), (18, 15), (21, 18), (22, 6), (22, 10), (22, 14), (22, 21)] 22 = [6, 10, 14, 21] from rfl] at h; simp only [resL, resR, List.flatMap_cons, List.flatMap_nil, hp6, hp10, hp14, hp21, List.append_nil, List.nil_append, List.cons_append] at h; exact h
   clear hp6 hp10 hp14 hp21
   generalize β 6 = z6 at hS ⊢
   generalize β 10 = z10 at hS ⊢
   generalize β 14 = z14 at hS ⊢
   generalize β 21 = z21 at hS ⊢
   have hrow : u.ownsRow w.heap.size 36 5 z6 (a.ops.length + b.ops.length) _ := hS.rows _ (List.mem_of_getElem? (i := 0) rfl)
   obtain ⟨adO, caO, rfl, _, _, _⟩ := row_shape hrow; clear hrow
   have hrow : u.ownsRow w.heap.size 34 3 z10 (a.rels.length) _ := hS.rows _ (List.mem_of_getElem? (i := 1) rfl)
   obtain ⟨adR, caR, rfl, _, _, _⟩ := row_shape hrow; clear hrow
   have hrow : u.ownsRow w.heap.size 3 1 z14 (a.frm.length) _ := hS.rows _ (List.mem_of_getElem? (i := 2) rfl)
   obtain ⟨adF, caF, rfl, _, _, _⟩ := row_shape hrow; clear hrow
   have hrow : u.ownsRow w.heap.size 3 1 z21 (a.blk.length + b.blk.length) _ := hS.rows _ (List.mem_of_getElem? (i := 3) rfl)
   obtain ⟨adB, caB, rfl, _, _, _⟩ := row_shape hrow; clear hrow
   refine WL.build (ps := [(0, .slice adO (a.ops.length + b.ops.length) caO), (1, .slice adR a.rels.length caR), (2, .slice adF a.frm.length caF), (3, .slice adB (a.blk.length + b.blk.length) caB)]) (cs := [.slice adO (a.ops.length + b.ops.length) caO, .slice adR a.rels.length caR, .slice adF a.frm.length caF, .slice adB (a.blk.length + b.blk.length) caB]) rfl rfl rfl (by kernel_rfl) ?_
   exact WL.nil (N.cut _ ⟨rfl, trivial⟩ ⟨(([] : List (Nat × Obj)), ([⟨.slice adO (a.ops.length + b.ops.length) caO, 36, 5, a.ops.length + b.ops.length, oCells a.ops ++ oCells b.ops⟩, ⟨.slice adR a.rels.length caR, 34, 3, a.rels.length, rCells a.rels⟩, ⟨.slice adF a.frm.length caF, 3, 1, a.frm.length, iCells a.frm⟩, ⟨.slice adB (a.blk.length + b.blk.length) caB, 3, 1, a.blk.length + b.blk.length, iCells a.blk ++ iCells b.blk⟩] : List Row)), ⟨_, _, _, _, _, _, _, _, rfl, rfl⟩, hS⟩)
  refine ⟨fun β ρ u LT RT hD hS => ⟨_, rfl, ?_⟩, ?_⟩
  ·
   replace hS : St w w6 u (fun x => (fun x => ro x ∨ x = b1) x ∨ x = b3) LT RT := hS
   refine WL.alloc (tyZero_spec zer_99) rfl rfl hS ?_
   clear hS; intro w33 b32 hb_b32 hS
   exact WL.nil (N.cut _ ⟨rfl, trivial⟩ ⟨(([(b32, .cells #[.slice none 0 0, .slice none 0 0, .slice none 0 0, .slice none 0 0] 99 (0, 0))] : List (Nat × Obj)), ([] : List Row)), ⟨_, rfl, rfl⟩, hS⟩)
  trivial
 intro β ρ w34 hD hS
 obtain ⟨hp0, hp1, hp2, hp3, hp4, hp5, hp6, hp7, hp8, hp9, hp10, hp11, hp12, hp13, hp14, hp15, hp16, hp17, hp18, hp19, hp20, hp21, hp22, hp23, _⟩ := hD
 replace hp22 : (fun v r => ∃ adO caO adR caR adF caF adB caB, v = .agg #[.slice adO (a.ops.length + b.ops.length) caO, .slice adR a.rels.length caR, .slice adF a.frm.length caF, .slice adB (a.blk.length + b.blk.length) caB] ∧ r = (([] : List (Nat × Obj)), [(⟨.slice adO (a.ops.length + b.ops.length) caO, 36, 5, a.ops.length + b.ops.length, oCells a.ops ++ oCells b.ops⟩ : Row), (⟨.slice adR (a.rels.length) caR, 34, 3, a.rels.length, rCells a.rels⟩ : Row), (⟨.slice adF (a.frm.length) caF, 3, 1, a.frm.length, iCells a.frm⟩ : Row), (⟨.slice adB (a.blk.length + b.blk.length) caB, 3, 1, a.blk.length + b.blk.length, iCells a.blk ++ iCells b.blk⟩ : Row)])) (β 22) (ρ 22) := hp22
 replace hp23 : (fun v r => ∃ b, v = .pointer (some ⟨b, 0, none⟩) ∧ r = ([(b, Obj.cells #[.slice none 0 0, .slice none 0 0, .slice none 0 0, .slice none 0 0] 99 (0, 0))], ([] : List Row))) (β 23) (ρ 23) := hp23
 refine WA.sub (σ' := [(2, .pointer (some ⟨b1, 0, none⟩)), (3, .pointer (some ⟨b3, 0, none⟩)), (4, .pointer (some ⟨b5, 0, none⟩)), (5, .int .i64 (a.ops.length : Int)), (6, (β 23)), (34, (β 22))]) ⟨rfl, rfl, rfl, rfl, rfl, rfl, trivial⟩ ?_
 generalize β 22 = z22 at hp22 ⊢
 generalize β 23 = z23 at hp23 ⊢
 replace hp1 : ρ 1 = (([] : List (Nat × Obj)), ([] : List Row)) := (show (fun v r => v = .pointer (some ⟨b1, 0, none⟩) ∧ r = (([] : List (Nat × Obj)), ([] : List Row))) (β 1) (ρ 1) from hp1).2
 replace hp2 : ρ 2 = (([] : List (Nat × Obj)), ([] : List Row)) := (show (fun v r => v = .slice adOa a.ops.length caOa ∧ r = (([] : List (Nat × Obj)), ([] : List Row))) (β 2) (ρ 2) from hp2).2
 replace hp4 : ρ 4 = (([] : List (Nat × Obj)), ([] : List Row)) := (show (fun v r => v = .pointer (some ⟨b3, 0, none⟩) ∧ r = (([] : List (Nat × Obj)), ([] : List Row))) (β 4) (ρ 4) from hp4).2
 replace hp5 : ρ 5 = (([] : List (Nat × Obj)), ([] : List Row)) := (show (fun v r => v = .slice adOb b.ops.length caOb ∧ r = (([] : List (Nat × Obj)), ([] : List Row))) (β 5) (ρ 5) from hp5).2
 replace hp8 : ρ 8 = (([] : List (Nat × Obj)), ([] : List Row)) := (show (fun v r => v = .pointer (some ⟨b1, 1, none⟩) ∧ r = (([] : List (Nat × Obj)), ([] : List Row))) (β 8) (ρ 8) from hp8).2
 replace hp9 : ρ 9 = (([] : List (Nat × Obj)), ([] : List Row)) := (show (fun v r => v = .slice adRa a.rels.length caRa ∧ r = (([] : List (Nat × Obj)), ([] : List Row))) (β 9) (ρ 9) from hp9).2
 replace hp12 : ρ 12 = (([] : List (Nat × Obj)), ([] : List Row)) := (show (fun v r => v = .pointer (some ⟨b1, 2, none⟩) ∧ r = (([] : List (Nat × Obj)), ([] : List Row))) (β 12) (ρ 12) from hp12).2
 replace hp13 : ρ 13 = (([] : List (Nat × Obj)), ([] : List Row)) := (show (fun v r => v = .slice adFa a.frm.length caFa ∧ r = (([] : List (Nat × Obj)), ([] : List Row))) (β 13) (ρ 13) from hp13).2
 replace hp16 : ρ 16 = (([] : List (Nat × Obj)), ([] : List Row)) := (show (fun v r => v = .pointer (some ⟨b1, 3, none⟩) ∧ r = (([] : List (Nat × Obj)), ([] : List Row))) (β 16) (ρ 16) from hp16).2
 replace hp17 : ρ 17 = (([] : List (Nat × Obj)), ([] : List Row)) := (show (fun v r => v = .slice adBa a.blk.length caBa ∧ r = (([] : List (Nat × Obj)), ([] : List Row))) (β 17) (ρ 17) from hp17).2
 replace hp19 : ρ 19 = (([] : List (Nat × Obj)), ([] : List Row)) := (show (fun v r => v = .pointer (some ⟨b3, 3, none⟩) ∧ r = (([] : List (Nat × Obj)), ([] : List Row))) (β 19) (ρ 19) from hp19).2
 replace hp20 : ρ 20 = (([] : List (Nat × Obj)), ([] : List Row)) := (show (fun v r => v = .slice adBb b.blk.length caBb ∧ r = (([] : List (Nat × Obj)), ([] : List Row))) (β 20) (ρ 20) from hp20).2
 obtain ⟨adO, caO, adR, caR, adF, caF, adB, caB, rfl, hp22⟩ := hp22
 obtain ⟨bo, rfl, hp23⟩ := hp23
 replace hS : St w w6 w34 (fun x => (fun x => ro x ∨ x = b1) x ∨ x = b3) [(bo, .cells #[.slice none 0 0, .slice none 0 0, .slice none 0 0, .slice none 0 0] 99 (0, 0)), (b5, .cells #[.slice none 0 0, .slice none 0 0, .slice none 0 0, .slice none 0 0] 99 (0, 0))] [⟨.slice adO (a.ops.length + b.ops.length) caO, 36, 5, a.ops.length + b.ops.length, oCells a.ops ++ oCells b.ops⟩, ⟨.slice adR a.rels.length caR, 34, 3, a.rels.length, rCells a.rels⟩, ⟨.slice adF a.frm.length caF, 3, 1, a.frm.length, iCells a.frm⟩, ⟨.slice adB (a.blk.length + b.blk.length) caB, 3, 1, a.blk.length + b.blk.length, iCells a.blk ++ iCells b.blk⟩] := by have h := hS; simp only [resL, resR, List.flatMap_cons, List.flatMap_nil, hp1, hp2, hp4, hp5, hp8, hp9, hp12, hp13, hp16, hp17, hp19, hp20, hp22, hp23, List.append_nil, List.nil_append, List.cons_append] at h; exact h
 refine WA.conv (fuel' := 0 + 1) (listed' := (lb 25 16777215)) (by kernel_rfl) (by kernel_rfl) (WA.stepS 24 (by kernel_rfl) rfl ?_)
 refine WL.store0 #[.slice adO (a.ops.length + b.ops.length) caO, .slice adR a.rels.length caR, .slice adF a.frm.length caF, .slice adB (a.blk.length + b.blk.length) caB] rfl rfl rfl rfl siz_99 rfl rfl rfl hS ?_
 clear hS; intro w35 hS
 refine WL.nil (N.restS trivial ?_)
 refine WA.doneN (by kernel_rfl) ?_
 refine N.seq (W.seq (W.seq (W.region (WL.assign rfl rfl rfl (WL.nil (N.seq (W.block ?_)))))))
 replace hS := hS.rw1 (show (⟨.slice adR a.rels.length caR, 34, 3, a.rels.length + 0, (rCells (a.rels ++ (b.rels.take 0).map (shiftR a.ops.length)))⟩ : Row) = ⟨.slice adR a.rels.length caR, 34, 3, a.rels.length, rCells a.rels⟩ by simp)
 refine W.loop (α := Nat × Value) (fun ⟨i, vr⟩ => [(3, .pointer (some ⟨b3, 0, none⟩)), (4, .pointer (some ⟨b5, 0, none⟩)), (5, .int .i64 (a.ops.length : Int)), (6, .pointer (some ⟨bo, 0, none⟩)), (7, .int .i64 (i : Int))]) (fun ⟨i, vr⟩ u => St w w6 u (fun x => (fun x => ro x ∨ x = b1) x ∨ x = b3) [(bo, .cells #[.slice adO (a.ops.length + b.ops.length) caO, vr, .slice adF a.frm.length caF, .slice adB (a.blk.length + b.blk.length) caB] 99 (0, 0)), (b5, .cells #[.slice none 0 0, .slice none 0 0, .slice none 0 0, .slice none 0 0] 99 (0, 0))] [⟨.slice adO (a.ops.length + b.ops.length) caO, 36, 5, a.ops.length + b.ops.length, oCells a.ops ++ oCells b.ops⟩, ⟨vr, 34, 3, a.rels.length + i, (rCells (a.rels ++ (b.rels.take i).map (shiftR a.ops.length)))⟩, ⟨.slice adF a.frm.length caF, 3, 1, a.frm.length, iCells a.frm⟩, ⟨.slice adB (a.blk.length + b.blk.length) caB, 3, 1, a.blk.length + b.blk.length, iCells a.blk ++ iCells b.blk⟩] ∧ i ≤ b.rels.length) (fun ⟨i, vr⟩ => b.rels.length - i) (0, .slice adR a.rels.length caR) ⟨rfl, rfl, rfl, rfl, rfl, trivial⟩ ⟨hS, Nat.zero_le _⟩ ?_
 clear hS
 rintro ⟨i, vr⟩ w36 ⟨hS, hi⟩
 have hrow : w36.ownsRow w.heap.size 34 3 vr (a.rels.length + i) _ := hS.rows _ (List.mem_cons_of_mem _ List.mem_cons_self)
 obtain ⟨advr, capvr, rfl, hr1vr, hr2vr, hr3vr⟩ := row_shape hrow
 clear hrow
 refine W.seq (W.seq (W.region (WL.move rfl rfl rfl (WL.fieldAddr fo_99_1 rfl rfl rfl (WL.load1 (v := .slice adRb b.rels.length caRb) one_28 rfl rfl rfl (hS.roCells hrgb3 hcgb3 1 _ rfl) (WL.lenSlice Tryd.underlying28 rfl rfl rfl (WL.bin rfl rfl rfl rfl rfl (WL.nil (N.seq ?_)))))))))
 refine W.cond rfl (fun hc37 => ?_) (fun hc37 => ?_)
 ·
  have hc37p : (i : Int) < (b.rels.length : Int) := by simpa using hc37
  refine W.skip (N.seq (W.seq (W.block ?_)))
  refine W.drawA0 (S := fun u => True) (by kernel_rfl) (fun w38 hbd => ?_)
  replace hS := hS.grow hbd
  have hj39 : i < b.rels.length := by omega
  obtain ⟨x39, hx39, b39, o39, cs39, hE39, hr39, _, hc39, hQ39⟩ := opn hRbd hj39
  obtain ⟨rfl, hrn39, hra39, hrk39⟩ := hQ39
  have hbd39 := hpb.r _ (List.mem_of_getElem? hx39)
  refine WA.conv (fuel' := 24 + 3) (listed' := (lb 27 0)) (by kernel_rfl) (by kernel_rfl) (WA.phaseI [(0, (fun v _ => v = .pointer (some ⟨bo, 1, none⟩))), (1, (fun v _ => v = .slice advr (a.rels.length + i) capvr)), (2, (fun v _ => v = .int .i64 (a.ops.length : Int))), (3, (fun v _ => v = .pointer (some ⟨b3, 1, none⟩))), (4, (fun v _ => v = .slice adRb b.rels.length caRb)), (5, (fun v _ => v = .int .i64 (i : Int))), (6, (fun v _ => v = .pointer (some ⟨b39, o39 + i * 3, none⟩))), (7, (fun v _ => v = .pointer (some ⟨b39, o39 + i * 3, none⟩))), (8, (fun v _ => v = .int .i64 x39.at_)), (9, (fun v _ => v = .int .i64 ((a.ops.length : Int) + x39.at_))), (10, (fun v _ => v = .pointer (some ⟨b3, 1, none⟩))), (11, (fun v _ => v = .slice adRb b.rels.length caRb)), (12, (fun v _ => v = .int .i64 (i : Int))), (13, (fun v _ => v = .pointer (some ⟨b39, o39 + i * 3, none⟩))), (14, (fun v _ => v = .pointer (some ⟨b39, o39 + i * 3 + 1, none⟩))), (15, (fun v _ => v = .int .i64 x39.kind)), (16, (fun v _ => v = .pointer (some ⟨b3, 1, none⟩))), (17, (fun v _ => v = .slice adRb b.rels.length caRb)), (18, (fun v _ => v = .int .i64 (i : Int))), (19, (fun v _ => v = .pointer (some ⟨b39, o39 + i * 3, none⟩))), (20, (fun v _ => v = .pointer (some ⟨b39, o39 + i * 3 + 2, none⟩))), (21, (fun v _ => v = .string x39.name)), (22, (fun v _ => v = .agg #[.int .i64 ((a.ops.length : Int) + x39.at_), .int .i64 x39.kind, .string x39.name])), (23, (fun v u => ∃ b, v = .slice (some ⟨b, 0, none⟩) 1 1 ∧ u.heap[b]? = some (.cells [.int .i64 ((a.ops.length : Int) + x39.at_), .int .i64 x39.kind, .string x39.name].toArray 34 (0, 0))))] (by kernel_rfl) [(3, .pointer (some ⟨b3, 0, none⟩)), (4, .pointer (some ⟨b5, 0, none⟩)), (5, .int .i64 (a.ops.length : Int)), (6, .pointer (some ⟨bo, 0, none⟩)), (7, .int .i64 (i : Int))] ⟨rfl, rfl, rfl, rfl, rfl, trivial⟩ (by kernel_rfl) ⟨stays_eq, stays_eq, stays_eq, stays_eq, stays_eq, stays_eq, stays_eq, stays_eq, stays_eq, stays_eq, stays_eq, stays_eq, stays_eq, stays_eq, stays_eq, stays_eq, stays_eq, stays_eq, stays_eq, stays_eq, stays_eq, stays_eq, stays_eq, (fun v u u2 h hb => h.elim fun b h => ⟨b, h.1, (hb.block b (Array.getElem?_eq_some_iff.1 h.2).1).trans h.2⟩), trivial⟩ ?_ (fun _ _ => trivial) ?_)
  ·
   refine ⟨fun β wd hb hD => ⟨_, rfl, ?_⟩, ?_⟩
   ·
    have hS := hS.grow hb
    refine WL.fieldAddr fo_99_1 rfl rfl rfl ?_
    exact WL.nil (N.cut _ ⟨rfl, trivial⟩ ⟨(Below.refl _ _), rfl⟩)
   refine ⟨fun β wd hb hD => ⟨_, rfl, ?_⟩, ?_⟩
   ·
    obtain ⟨hp0, _⟩ := hD
    replace hp0 : β 0 = .pointer (some ⟨bo, 1, none⟩) := hp0
    refine WL.sub (σ' := [(42, .pointer (some ⟨bo, 1, none⟩))]) ⟨congrArg some hp0, trivial⟩ ?_
    have hS := hS.grow hb
    refine WL.load1 (v := .slice advr (a.rels.length + i) capvr) one_28 rfl rfl rfl (hS.cell 0 rfl rfl) ?_
    exact WL.nil (N.cut _ ⟨rfl, trivial⟩ ⟨(Below.refl _ _), rfl⟩)
   refine ⟨fun β wd hb hD => ⟨_, rfl, ?_⟩, ?_⟩
   ·
    have hS := hS.grow hb
    refine WL.move rfl rfl rfl ?_
    exact WL.nil (N.cut _ ⟨rfl, trivial⟩ ⟨(Below.refl _ _), rfl⟩)
   refine ⟨fun β wd hb hD => ⟨_, rfl, ?_⟩, ?_⟩
   ·
    have hS := hS.grow hb
    refine WL.fieldAddr fo_99_1 rfl rfl rfl ?_
    exact WL.nil (N.cut _ ⟨rfl, trivial⟩ ⟨(Below.refl _ _), rfl⟩)
   refine ⟨fun β wd hb hD => ⟨_, rfl, ?_⟩, ?_⟩
   ·
    obtain ⟨hp3, _⟩ := hD
    replace hp3 : β 3 = .pointer (some ⟨b3, 1, none⟩) := hp3
    refine WL.sub (σ' := [(45, .pointer (some ⟨b3, 1, none⟩))]) ⟨congrArg some hp3, trivial⟩ ?_
    have hS := hS.grow hb
    refine WL.load1 (v := .slice adRb b.rels.length caRb) one_28 rfl rfl rfl (hS.roCells hrgb3 hcgb3 1 _ rfl) ?_
    exact WL.nil (N.cut _ ⟨rfl, trivial⟩ ⟨(Below.refl _ _), rfl⟩)
   refine ⟨fun β wd hb hD => ⟨_, rfl, ?_⟩, ?_⟩
   ·
    have hS := hS.grow hb
    refine WL.move rfl rfl rfl ?_
    exact WL.nil (N.cut _ ⟨rfl, trivial⟩ ⟨(Below.refl _ _), rfl⟩)
   refine ⟨fun β wd hb hD => ⟨_, rfl, ?_⟩, ?_⟩
   ·
    obtain ⟨hp4, hp5, _⟩ := hD
    replace hp4 : β 4 = .slice adRb b.rels.length caRb := hp4
    replace hp5 : β 5 = .int .i64 (i : Int) := hp5
    refine WL.sub (σ' := [(46, .slice adRb b.rels.length caRb), (47, .int .i64 (i : Int))]) ⟨congrArg some hp4, congrArg some hp5, trivial⟩ ?_
    have hS := hS.grow hb
    refine WL.indexAddrE (j := i) Tryd.underlying28 isz_34 rfl rfl rfl rfl hj39 hE39 ?_
    exact WL.nil (N.cut _ ⟨rfl, trivial⟩ ⟨(Below.refl _ _), rfl⟩)
   refine ⟨fun β wd hb hD => ⟨_, rfl, ?_⟩, ?_⟩
   ·
    obtain ⟨hp6, _⟩ := hD
    replace hp6 : β 6 = .pointer (some ⟨b39, o39 + i * 3, none⟩) := hp6
    refine WL.sub (σ' := [(48, .pointer (some ⟨b39, o39 + i * 3, none⟩))]) ⟨congrArg some hp6, trivial⟩ ?_
    have hS := hS.grow hb
    refine WL.fieldAddr fo_34_0 rfl rfl rfl ?_
    exact WL.nil (N.cut _ ⟨rfl, trivial⟩ ⟨(Below.refl _ _), rfl⟩)
   refine ⟨fun β wd hb hD => ⟨_, rfl, ?_⟩, ?_⟩
   ·
    obtain ⟨hp7, _⟩ := hD
    replace hp7 : β 7 = .pointer (some ⟨b39, o39 + i * 3, none⟩) := hp7
    refine WL.sub (σ' := [(49, .pointer (some ⟨b39, o39 + i * 3, none⟩))]) ⟨congrArg some hp7, trivial⟩ ?_
    have hS := hS.grow hb
    refine WL.load1 (v := .int .i64 x39.at_) one_3 rfl rfl rfl (hS.roCells hr39 hc39 0 _ rfl) ?_
    exact WL.nil (N.cut _ ⟨rfl, trivial⟩ ⟨(Below.refl _ _), rfl⟩)
   refine ⟨fun β wd hb hD => ⟨_, rfl, ?_⟩, ?_⟩
   ·
    obtain ⟨hp2, hp8, _⟩ := hD
    replace hp2 : β 2 = .int .i64 (a.ops.length : Int) := hp2
    replace hp8 : β 8 = .int .i64 x39.at_ := hp8
    refine WL.sub (σ' := [(44, .int .i64 (a.ops.length : Int)), (50, .int .i64 x39.at_)]) ⟨congrArg some hp2, congrArg some hp8, trivial⟩ ?_
    have hS := hS.grow hb
    refine WL.add (c := (a.ops.length : Int) + x39.at_) rfl rfl rfl rfl (rfl) (by omega) ?_
    exact WL.nil (N.cut _ ⟨rfl, trivial⟩ ⟨(Below.refl _ _), rfl⟩)
   refine ⟨fun β wd hb hD => ⟨_, rfl, ?_⟩, ?_⟩
   ·
    have hS := hS.grow hb
    refine WL.fieldAddr fo_99_1 rfl rfl rfl ?_
    exact WL.nil (N.cut _ ⟨rfl, trivial⟩ ⟨(Below.refl _ _), rfl⟩)
   refine ⟨fun β wd hb hD => ⟨_, rfl, ?_⟩, ?_⟩
   ·
    obtain ⟨hp10, _⟩ := hD
    replace hp10 : β 10 = .pointer (some ⟨b3, 1, none⟩) := hp10
    refine WL.sub (σ' := [(52, .pointer (some ⟨b3, 1, none⟩))]) ⟨congrArg some hp10, trivial⟩ ?_
    have hS := hS.grow hb
    refine WL.load1 (v := .slice adRb b.rels.length caRb) one_28 rfl rfl rfl (hS.roCells hrgb3 hcgb3 1 _ rfl) ?_
    exact WL.nil (N.cut _ ⟨rfl, trivial⟩ ⟨(Below.refl _ _), rfl⟩)
   refine ⟨fun β wd hb hD => ⟨_, rfl, ?_⟩, ?_⟩
   ·
    have hS := hS.grow hb
    refine WL.move rfl rfl rfl ?_
    exact WL.nil (N.cut _ ⟨rfl, trivial⟩ ⟨(Below.refl _ _), rfl⟩)
   refine ⟨fun β wd hb hD => ⟨_, rfl, ?_⟩, ?_⟩
   ·
    obtain ⟨hp11, hp12, _⟩ := hD
    replace hp11 : β 11 = .slice adRb b.rels.length caRb := hp11
    replace hp12 : β 12 = .int .i64 (i : Int) := hp12
    refine WL.sub (σ' := [(53, .slice adRb b.rels.length caRb), (54, .int .i64 (i : Int))]) ⟨congrArg some hp11, congrArg some hp12, trivial⟩ ?_
    have hS := hS.grow hb
    refine WL.indexAddrE (j := i) Tryd.underlying28 isz_34 rfl rfl rfl rfl hj39 hE39 ?_
    exact WL.nil (N.cut _ ⟨rfl, trivial⟩ ⟨(Below.refl _ _), rfl⟩)
   refine ⟨fun β wd hb hD => ⟨_, rfl, ?_⟩, ?_⟩
   ·
    obtain ⟨hp13, _⟩ := hD
    replace hp13 : β 13 = .pointer (some ⟨b39, o39 + i * 3, none⟩) := hp13
    refine WL.sub (σ' := [(55, .pointer (some ⟨b39, o39 + i * 3, none⟩))]) ⟨congrArg some hp13, trivial⟩ ?_
    have hS := hS.grow hb
    refine WL.fieldAddr fo_34_1 rfl rfl rfl ?_
    exact WL.nil (N.cut _ ⟨rfl, trivial⟩ ⟨(Below.refl _ _), rfl⟩)
   refine ⟨fun β wd hb hD => ⟨_, rfl, ?_⟩, ?_⟩
   ·
    obtain ⟨hp14, _⟩ := hD
    replace hp14 : β 14 = .pointer (some ⟨b39, o39 + i * 3 + 1, none⟩) := hp14
    refine WL.sub (σ' := [(56, .pointer (some ⟨b39, o39 + i * 3 + 1, none⟩))]) ⟨congrArg some hp14, trivial⟩ ?_
    have hS := hS.grow hb
    refine WL.load1 (v := .int .i64 x39.kind) one_3 rfl rfl rfl (hS.roCells hr39 hc39 1 _ rfl) ?_
    exact WL.nil (N.cut _ ⟨rfl, trivial⟩ ⟨(Below.refl _ _), rfl⟩)
   refine ⟨fun β wd hb hD => ⟨_, rfl, ?_⟩, ?_⟩
   ·
    have hS := hS.grow hb
    refine WL.fieldAddr fo_99_1 rfl rfl rfl ?_
    exact WL.nil (N.cut _ ⟨rfl, trivial⟩ ⟨(Below.refl _ _), rfl⟩)
   refine ⟨fun β wd hb hD => ⟨_, rfl, ?_⟩, ?_⟩
   ·
    obtain ⟨hp16, _⟩ := hD
    replace hp16 : β 16 = .pointer (some ⟨b3, 1, none⟩) := hp16
    refine WL.sub (σ' := [(58, .pointer (some ⟨b3, 1, none⟩))]) ⟨congrArg some hp16, trivial⟩ ?_
    have hS := hS.grow hb
    refine WL.load1 (v := .slice adRb b.rels.length caRb) one_28 rfl rfl rfl (hS.roCells hrgb3 hcgb3 1 _ rfl) ?_
    exact WL.nil (N.cut _ ⟨rfl, trivial⟩ ⟨(Below.refl _ _), rfl⟩)
   refine ⟨fun β wd hb hD => ⟨_, rfl, ?_⟩, ?_⟩
   ·
    have hS := hS.grow hb
    refine WL.move rfl rfl rfl ?_
    exact WL.nil (N.cut _ ⟨rfl, trivial⟩ ⟨(Below.refl _ _), rfl⟩)
   refine ⟨fun β wd hb hD => ⟨_, rfl, ?_⟩, ?_⟩
   ·
    obtain ⟨hp17, hp18, _⟩ := hD
    replace hp17 : β 17 = .slice adRb b.rels.length caRb := hp17
    replace hp18 : β 18 = .int .i64 (i : Int) := hp18
    refine WL.sub (σ' := [(59, .slice adRb b.rels.length caRb), (60, .int .i64 (i : Int))]) ⟨congrArg some hp17, congrArg some hp18, trivial⟩ ?_
    have hS := hS.grow hb
    refine WL.indexAddrE (j := i) Tryd.underlying28 isz_34 rfl rfl rfl rfl hj39 hE39 ?_
    exact WL.nil (N.cut _ ⟨rfl, trivial⟩ ⟨(Below.refl _ _), rfl⟩)
   refine ⟨fun β wd hb hD => ⟨_, rfl, ?_⟩, ?_⟩
   ·
    obtain ⟨hp19, _⟩ := hD
    replace hp19 : β 19 = .pointer (some ⟨b39, o39 + i * 3, none⟩) := hp19
    refine WL.sub (σ' := [(61, .pointer (some ⟨b39, o39 + i * 3, none⟩))]) ⟨congrArg some hp19, trivial⟩ ?_
    have hS := hS.grow hb
    refine WL.fieldAddr fo_34_2 rfl rfl rfl ?_
    exact WL.nil (N.cut _ ⟨rfl, trivial⟩ ⟨(Below.refl _ _), rfl⟩)
   refine ⟨fun β wd hb hD => ⟨_, rfl, ?_⟩, ?_⟩
   ·
    obtain ⟨hp20, _⟩ := hD
    replace hp20 : β 20 = .pointer (some ⟨b39, o39 + i * 3 + 2, none⟩) := hp20
    refine WL.sub (σ' := [(62, .pointer (some ⟨b39, o39 + i * 3 + 2, none⟩))]) ⟨congrArg some hp20, trivial⟩ ?_
    have hS := hS.grow hb
    refine WL.load1 (v := .string x39.name) one_9 rfl rfl rfl (hS.roCells hr39 hc39 2 _ rfl) ?_
    exact WL.nil (N.cut _ ⟨rfl, trivial⟩ ⟨(Below.refl _ _), rfl⟩)
   refine ⟨fun β wd hb hD => ⟨_, rfl, ?_⟩, ?_⟩
   ·
    obtain ⟨hp9, hp15, hp21, _⟩ := hD
    replace hp9 : β 9 = .int .i64 ((a.ops.length : Int) + x39.at_) := hp9
    replace hp15 : β 15 = .int .i64 x39.kind := hp15
    replace hp21 : β 21 = .string x39.name := hp21
    refine WL.sub (σ' := [(51, .int .i64 ((a.ops.length : Int) + x39.at_)), (57, .int .i64 x39.kind), (63, .string x39.name)]) ⟨congrArg some hp9, congrArg some hp15, congrArg some hp21, trivial⟩ ?_
    have hS := hS.grow hb
    refine WL.build (ps := [(0, .int .i64 ((a.ops.length : Int) + x39.at_)), (1, .int .i64 x39.kind), (2, .string x39.name)]) (cs := [.int .i64 ((a.ops.length : Int) + x39.at_), .int .i64 x39.kind, .string x39.name]) rfl rfl rfl (by kernel_rfl) ?_
    exact WL.nil (N.cut _ ⟨rfl, trivial⟩ ⟨(Below.refl _ _), rfl⟩)
   refine ⟨fun β wd hb hD => ⟨_, rfl, ?_⟩, ?_⟩
   ·
    obtain ⟨hp22, _⟩ := hD
    replace hp22 : β 22 = .agg #[.int .i64 ((a.ops.length : Int) + x39.at_), .int .i64 x39.kind, .string x39.name] := hp22
    refine WL.sub (σ' := [(64, .agg #[.int .i64 ((a.ops.length : Int) + x39.at_), .int .i64 x39.kind, .string x39.name])]) ⟨congrArg some hp22, trivial⟩ ?_
    have hS := hS.grow hb
    have hX := St.start (w := wd) (ro := fun z => z < wd.heap.size) (fun _ h => h)
    refine WL.buildSlice (ps := [(0, .agg #[.int .i64 ((a.ops.length : Int) + x39.at_), .int .i64 x39.kind, .string x39.name])]) (cs := [.int .i64 ((a.ops.length : Int) + x39.at_), .int .i64 x39.kind, .string x39.name]) Tryd.underlying28 (tyZero_spec zer_34) rfl rfl rfl rfl (by kernel_rfl) hX ?_
    clear hX; intro w41 b40 hb_b40 hX
    exact WL.nil (N.cut _ ⟨rfl, trivial⟩ ⟨hX.below, ⟨_, rfl, hX.own _ List.mem_cons_self⟩⟩)
   trivial
  intro β w42 hb hD
  obtain ⟨hp0, hp1, hp2, hp3, hp4, hp5, hp6, hp7, hp8, hp9, hp10, hp11, hp12, hp13, hp14, hp15, hp16, hp17, hp18, hp19, hp20, hp21, hp22, hp23, _⟩ := hD
  refine WA.sub (σ' := [(3, .pointer (some ⟨b3, 0, none⟩)), (4, .pointer (some ⟨b5, 0, none⟩)), (5, .int .i64 (a.ops.length : Int)), (6, .pointer (some ⟨bo, 0, none⟩)), (7, .int .i64 (i : Int)), (43, .slice advr (a.rels.length + i) capvr), (65, (β 23))]) ⟨rfl, rfl, rfl, rfl, rfl, congrArg some (show β 1 = .slice advr (a.rels.length + i) capvr from hp1), rfl, trivial⟩ ?_
  have hSd := hS
  replace hS := hS.grow hb
  replace hp23 : (fun v u => ∃ b, v = .slice (some ⟨b, 0, none⟩) 1 1 ∧ u.heap[b]? = some (.cells [.int .i64 ((a.ops.length : Int) + x39.at_), .int .i64 x39.kind, .string x39.name].toArray 34 (0, 0))) (β 23) w42 := hp23
  generalize β 23 = z23 at hp23 ⊢
  refine WA.conv (fuel' := 2 + 1) (listed' := (lb 27 16777215)) (by kernel_rfl) (by kernel_rfl) (WA.stepS 24 (by kernel_rfl) rfl ?_)
  obtain ⟨bq23, rfl, hbq23⟩ := hp23
  have hcq23 := cellsAt_block hbq23
  replace hS := hS.permR ((List.Perm.swap _ _ _))
  refine WL.appendRo (r := ⟨.slice advr (a.rels.length + i) capvr, 34, 3, a.rels.length + i, (rCells (a.rels ++ (b.rels.take i).map (shiftR a.ops.length)))⟩) (news := [.int .i64 ((a.ops.length : Int) + x39.at_), .int .i64 x39.kind, .string x39.name]) 32 Tryd.underlying28 (tyZero_spec zer_34) byt_34 rfl rfl rfl rfl rfl rfl (fun e => by cases e) (fun b off e => by cases e; exact hcq23) (fun a e _ => by cases e; rfl) (by intro u hu; simp only [List.mem_cons, List.not_mem_nil, or_false] at hu; rcases hu with rfl | rfl | rfl <;> rfl) rfl rfl hS (by simp only; unfold maxLen; omega) (by simp only; omega) ?_
  clear hS; intro w43 v44 hS hnn
  have hrow : w43.ownsRow w.heap.size 34 3 v44 (a.rels.length + i + 1) _ := hS.rows _ List.mem_cons_self
  obtain ⟨av44, cv44, rfl, hc1_v44, hc2_v44, hc3_v44⟩ := row_shape hrow
  clear hrow
  refine WL.nil (N.restS trivial ?_)
  refine WA.conv (fuel' := 1 + 1) (listed' := (lb 27 33554431)) (by kernel_rfl) (by kernel_rfl) (WA.stepS 25 (by kernel_rfl) rfl ?_)
  refine WL.fieldAddr fo_99_1 rfl rfl rfl ?_
  refine WL.nil (N.restS trivial ?_)
  refine WA.conv (fuel' := 0 + 1) (listed' := (lb 27 67108863)) (by kernel_rfl) (by kernel_rfl) (WA.stepS 26 (by kernel_rfl) rfl ?_)
  refine WL.store0 #[.slice adO (a.ops.length + b.ops.length) caO, .slice av44 (a.rels.length + i + 1) cv44, .slice adF a.frm.length caF, .slice adB (a.blk.length + b.blk.length) caB] rfl rfl rfl rfl siz_28 rfl rfl rfl hS ?_
  clear hS; intro w45 hS
  refine WL.nil (N.restS trivial ?_)
  refine WA.doneN (by kernel_rfl) ?_
  refine N.blk (N.seq (W.region (WL.move rfl rfl rfl ?_)))
  refine WL.add (c := (i : Int) + 1) rfl rfl rfl rfl (rfl) (by omega) ?_
  refine WL.assign rfl rfl rfl (WL.nil ?_)
  replace hS := hS.permR ((List.Perm.swap _ _ _))
  replace hS := hS.rw1 (show (⟨.slice av44 (a.rels.length + i + 1) cv44, 34, 3, a.rels.length + (i + 1), (rCells (a.rels ++ (b.rels.take (i + 1)).map (shiftR a.ops.length)))⟩ : Row) = ⟨.slice av44 (a.rels.length + i + 1) cv44, 34, 3, a.rels.length + i + 1, (rCells (a.rels ++ (b.rels.take i).map (shiftR a.ops.length))) ++ [.int .i64 ((a.ops.length : Int) + x39.at_), .int .i64 x39.kind, .string x39.name]⟩ by rw [take_next hx39]; simp [rCells, iCells, relL, shiftR, Nat.add_assoc])
  exact N.loop (i + 1, .slice av44 (a.rels.length + i + 1) cv44) ⟨rfl, rfl, rfl, rfl, rfl, trivial⟩ ⟨hS, by omega⟩ (by first | omega | (simp only; omega))
 have hc37p : ¬ ((i : Int) < (b.rels.length : Int)) := by simpa using hc37
 refine W.exit (X.seq (X.loop (X.blk (N.seq (W.seq (W.seq (W.region (WL.assign rfl rfl rfl (WL.nil ?_)))))))))
 refine N.seq (W.block ?_)
 have hie : i = b.rels.length := by omega
 subst hie
 rw [List.take_length] at hS
 replace hS := hS.rw2 (show (⟨.slice adF a.frm.length caF, 3, 1, a.frm.length + 0, (iCells (a.frm ++ (b.frm.take 0).map (fun x => (a.ops.length : Int) + x)))⟩ : Row) = ⟨.slice adF a.frm.length caF, 3, 1, a.frm.length, iCells a.frm⟩ by simp)
 refine W.loop (α := Nat × Value) (fun ⟨j, vf⟩ => [(3, .pointer (some ⟨b3, 0, none⟩)), (4, .pointer (some ⟨b5, 0, none⟩)), (5, .int .i64 (a.ops.length : Int)), (6, .pointer (some ⟨bo, 0, none⟩)), (8, .int .i64 (j : Int))]) (fun ⟨j, vf⟩ u => St w w6 u (fun x => (fun x => ro x ∨ x = b1) x ∨ x = b3) [(bo, .cells #[.slice adO (a.ops.length + b.ops.length) caO, .slice advr (a.rels.length + b.rels.length) capvr, vf, .slice adB (a.blk.length + b.blk.length) caB] 99 (0, 0)), (b5, .cells #[.slice none 0 0, .slice none 0 0, .slice none 0 0, .slice none 0 0] 99 (0, 0))] [⟨.slice adO (a.ops.length + b.ops.length) caO, 36, 5, a.ops.length + b.ops.length, oCells a.ops ++ oCells b.ops⟩, ⟨.slice advr (a.rels.length + b.rels.length) capvr, 34, 3, a.rels.length + b.rels.length, (rCells (a.rels ++ b.rels.map (shiftR a.ops.length)))⟩, ⟨vf, 3, 1, a.frm.length + j, (iCells (a.frm ++ (b.frm.take j).map (fun x => (a.ops.length : Int) + x)))⟩, ⟨.slice adB (a.blk.length + b.blk.length) caB, 3, 1, a.blk.length + b.blk.length, iCells a.blk ++ iCells b.blk⟩] ∧ j ≤ b.frm.length) (fun ⟨j, vf⟩ => b.frm.length - j) (0, .slice adF a.frm.length caF) ⟨rfl, rfl, rfl, rfl, rfl, trivial⟩ ⟨hS, Nat.zero_le _⟩ ?_
 clear hS
 rintro ⟨j, vf⟩ w46 ⟨hS, hj⟩
 have hrow : w46.ownsRow w.heap.size 3 1 vf (a.frm.length + j) _ := hS.rows _ (List.mem_of_getElem? (i := 2) rfl)
 obtain ⟨advf, capvf, rfl, hr1vf, hr2vf, hr3vf⟩ := row_shape hrow
 clear hrow
 refine W.seq (W.seq (W.region (WL.move rfl rfl rfl (WL.fieldAddr fo_99_2 rfl rfl rfl (WL.load1 (v := .slice adFb b.frm.length caFb) one_55 rfl rfl rfl (hS.roCells hrgb3 hcgb3 2 _ rfl) (WL.lenSlice Tryd.underlying55 rfl rfl rfl (WL.bin rfl rfl rfl rfl rfl (WL.nil (N.seq ?_)))))))))
 refine W.cond rfl (fun hc47 => ?_) (fun hc47 => ?_)
 ·
  have hc47p : (j : Int) < (b.frm.length : Int) := by simpa using hc47
  refine W.skip (N.seq (W.seq (W.block ?_)))
  refine W.drawA0 (S := fun u => True) (by kernel_rfl) (fun w48 hbd => ?_)
  replace hS := hS.grow hbd
  have hj49 : j < b.frm.length := by omega
  obtain ⟨x49, hx49, b49, o49, cs49, hE49, hr49, _, hc49, hQ49⟩ := opn hFbd hj49
  obtain ⟨rfl, hi49⟩ := hQ49
  have hbd49 := hpb.f _ (List.mem_of_getElem? hx49)
  refine WA.conv (fuel' := 10 + 3) (listed' := (lb 13 0)) (by kernel_rfl) (by kernel_rfl) (WA.phaseI [(0, (fun v _ => v = .pointer (some ⟨bo, 2, none⟩))), (1, (fun v _ => v = .slice advf (a.frm.length + j) capvf)), (2, (fun v _ => v = .int .i64 (a.ops.length : Int))), (3, (fun v _ => v = .pointer (some ⟨b3, 2, none⟩))), (4, (fun v _ => v = .slice adFb b.frm.length caFb)), (5, (fun v _ => v = .int .i64 (j : Int))), (6, (fun v _ => v = .pointer (some ⟨b49, o49 + j * 1, none⟩))), (7, (fun v _ => v = .int .i64 x49)), (8, (fun v _ => v = .int .i64 ((a.ops.length : Int) + x49))), (9, (fun v u => ∃ b, v = .slice (some ⟨b, 0, none⟩) 1 1 ∧ u.heap[b]? = some (.cells [.int .i64 ((a.ops.length : Int) + x49)].toArray 3 (0, 0))))] (by kernel_rfl) [(3, .pointer (some ⟨b3, 0, none⟩)), (4, .pointer (some ⟨b5, 0, none⟩)), (5, .int .i64 (a.ops.length : Int)), (6, .pointer (some ⟨bo, 0, none⟩)), (8, .int .i64 (j : Int))] ⟨rfl, rfl, rfl, rfl, rfl, trivial⟩ (by kernel_rfl) ⟨stays_eq, stays_eq, stays_eq, stays_eq, stays_eq, stays_eq, stays_eq, stays_eq, stays_eq, (fun v u u2 h hb => h.elim fun b h => ⟨b, h.1, (hb.block b (Array.getElem?_eq_some_iff.1 h.2).1).trans h.2⟩), trivial⟩ ?_ (fun _ _ => trivial) ?_)
  ·
   refine ⟨fun β wd hb hD => ⟨_, rfl, ?_⟩, ?_⟩
   ·
    have hS := hS.grow hb
    refine WL.fieldAddr fo_99_2 rfl rfl rfl ?_
    exact WL.nil (N.cut _ ⟨rfl, trivial⟩ ⟨(Below.refl _ _), rfl⟩)
   refine ⟨fun β wd hb hD => ⟨_, rfl, ?_⟩, ?_⟩
   ·
    obtain ⟨hp0, _⟩ := hD
    replace hp0 : β 0 = .pointer (some ⟨bo, 2, none⟩) := hp0
    refine WL.sub (σ' := [(75, .pointer (some ⟨bo, 2, none⟩))]) ⟨congrArg some hp0, trivial⟩ ?_
    have hS := hS.grow hb
    refine WL.load1 (v := .slice advf (a.frm.length + j) capvf) one_55 rfl rfl rfl (hS.cell 0 rfl rfl) ?_
    exact WL.nil (N.cut _ ⟨rfl, trivial⟩ ⟨(Below.refl _ _), rfl⟩)
   refine ⟨fun β wd hb hD => ⟨_, rfl, ?_⟩, ?_⟩
   ·
    have hS := hS.grow hb
    refine WL.move rfl rfl rfl ?_
    exact WL.nil (N.cut _ ⟨rfl, trivial⟩ ⟨(Below.refl _ _), rfl⟩)
   refine ⟨fun β wd hb hD => ⟨_, rfl, ?_⟩, ?_⟩
   ·
    have hS := hS.grow hb
    refine WL.fieldAddr fo_99_2 rfl rfl rfl ?_
    exact WL.nil (N.cut _ ⟨rfl, trivial⟩ ⟨(Below.refl _ _), rfl⟩)
   refine ⟨fun β wd hb hD => ⟨_, rfl, ?_⟩, ?_⟩
   ·
    obtain ⟨hp3, _⟩ := hD
    replace hp3 : β 3 = .pointer (some ⟨b3, 2, none⟩) := hp3
    refine WL.sub (σ' := [(78, .pointer (some ⟨b3, 2, none⟩))]) ⟨congrArg some hp3, trivial⟩ ?_
    have hS := hS.grow hb
    refine WL.load1 (v := .slice adFb b.frm.length caFb) one_55 rfl rfl rfl (hS.roCells hrgb3 hcgb3 2 _ rfl) ?_
    exact WL.nil (N.cut _ ⟨rfl, trivial⟩ ⟨(Below.refl _ _), rfl⟩)
   refine ⟨fun β wd hb hD => ⟨_, rfl, ?_⟩, ?_⟩
   ·
    have hS := hS.grow hb
    refine WL.move rfl rfl rfl ?_
    exact WL.nil (N.cut _ ⟨rfl, trivial⟩ ⟨(Below.refl _ _), rfl⟩)
   refine ⟨fun β wd hb hD => ⟨_, rfl, ?_⟩, ?_⟩
   ·
    obtain ⟨hp4, hp5, _⟩ := hD
    replace hp4 : β 4 = .slice adFb b.frm.length caFb := hp4
    replace hp5 : β 5 = .int .i64 (j : Int) := hp5
    refine WL.sub (σ' := [(79, .slice adFb b.frm.length caFb), (80, .int .i64 (j : Int))]) ⟨congrArg some hp4, congrArg some hp5, trivial⟩ ?_
    have hS := hS.grow hb
    refine WL.indexAddrE (j := j) Tryd.underlying55 isz_3 rfl rfl rfl rfl hj49 hE49 ?_
    exact WL.nil (N.cut _ ⟨rfl, trivial⟩ ⟨(Below.refl _ _), rfl⟩)
   refine ⟨fun β wd hb hD => ⟨_, rfl, ?_⟩, ?_⟩
   ·
    obtain ⟨hp6, _⟩ := hD
    replace hp6 : β 6 = .pointer (some ⟨b49, o49 + j * 1, none⟩) := hp6
    refine WL.sub (σ' := [(81, .pointer (some ⟨b49, o49 + j * 1, none⟩))]) ⟨congrArg some hp6, trivial⟩ ?_
    have hS := hS.grow hb
    refine WL.load1 (v := .int .i64 x49) one_3 rfl rfl rfl (hS.roCells hr49 hc49 0 _ rfl) ?_
    exact WL.nil (N.cut _ ⟨rfl, trivial⟩ ⟨(Below.refl _ _), rfl⟩)
   refine ⟨fun β wd hb hD => ⟨_, rfl, ?_⟩, ?_⟩
   ·
    obtain ⟨hp2, hp7, _⟩ := hD
    replace hp2 : β 2 = .int .i64 (a.ops.length : Int) := hp2
    replace hp7 : β 7 = .int .i64 x49 := hp7
    refine WL.sub (σ' := [(77, .int .i64 (a.ops.length : Int)), (82, .int .i64 x49)]) ⟨congrArg some hp2, congrArg some hp7, trivial⟩ ?_
    have hS := hS.grow hb
    refine WL.add (c := (a.ops.length : Int) + x49) rfl rfl rfl rfl (rfl) (by omega) ?_
    exact WL.nil (N.cut _ ⟨rfl, trivial⟩ ⟨(Below.refl _ _), rfl⟩)
   refine ⟨fun β wd hb hD => ⟨_, rfl, ?_⟩, ?_⟩
   ·
    obtain ⟨hp8, _⟩ := hD
    replace hp8 : β 8 = .int .i64 ((a.ops.length : Int) + x49) := hp8
    refine WL.sub (σ' := [(83, .int .i64 ((a.ops.length : Int) + x49))]) ⟨congrArg some hp8, trivial⟩ ?_
    have hS := hS.grow hb
    have hX := St.start (w := wd) (ro := fun z => z < wd.heap.size) (fun _ h => h)
    refine WL.buildSlice (ps := [(0, .int .i64 ((a.ops.length : Int) + x49))]) (cs := [.int .i64 ((a.ops.length : Int) + x49)]) Tryd.underlying55 (tyZero_spec zer_3) rfl rfl rfl rfl (by kernel_rfl) hX ?_
    clear hX; intro w51 b50 hb_b50 hX
    exact WL.nil (N.cut _ ⟨rfl, trivial⟩ ⟨hX.below, ⟨_, rfl, hX.own _ List.mem_cons_self⟩⟩)
   trivial
  intro β w52 hb hD
  obtain ⟨hp0, hp1, hp2, hp3, hp4, hp5, hp6, hp7, hp8, hp9, _⟩ := hD
  refine WA.sub (σ' := [(3, .pointer (some ⟨b3, 0, none⟩)), (4, .pointer (some ⟨b5, 0, none⟩)), (5, .int .i64 (a.ops.length : Int)), (6, .pointer (some ⟨bo, 0, none⟩)), (8, .int .i64 (j : Int)), (76, .slice advf (a.frm.length + j) capvf), (84, (β 9))]) ⟨rfl, rfl, rfl, rfl, rfl, congrArg some (show β 1 = .slice advf (a.frm.length + j) capvf from hp1), rfl, trivial⟩ ?_
  have hSd := hS
  replace hS := hS.grow hb
  replace hp9 : (fun v u => ∃ b, v = .slice (some ⟨b, 0, none⟩) 1 1 ∧ u.heap[b]? = some (.cells [.int .i64 ((a.ops.length : Int) + x49)].toArray 3 (0, 0))) (β 9) w52 := hp9
  generalize β 9 = z9 at hp9 ⊢
  refine WA.conv (fuel' := 2 + 1) (listed' := (lb 13 1023)) (by kernel_rfl) (by kernel_rfl) (WA.stepS 10 (by kernel_rfl) rfl ?_)
  obtain ⟨bq9, rfl, hbq9⟩ := hp9
  have hcq9 := cellsAt_block hbq9
  replace hS := hS.permR (((List.Perm.cons _ (List.Perm.swap _ _ _))).trans ((List.Perm.swap _ _ _)))
  refine WL.appendRo (r := ⟨.slice advf (a.frm.length + j) capvf, 3, 1, a.frm.length + j, (iCells (a.frm ++ (b.frm.take j).map (fun x => (a.ops.length : Int) + x)))⟩) (news := [.int .i64 ((a.ops.length : Int) + x49)]) 8 Tryd.underlying55 (tyZero_spec zer_3) byt_3 rfl rfl rfl rfl rfl rfl (fun e => by cases e) (fun b off e => by cases e; exact hcq9) (fun a e _ => by cases e; rfl) (by intro u hu; simp only [List.mem_cons, List.not_mem_nil, or_false] at hu; rcases hu with rfl <;> rfl) rfl rfl hS (by simp only; unfold maxLen; omega) (by simp only; omega) ?_
  clear hS; intro w53 v54 hS hnn
  have hrow : w53.ownsRow w.heap.size 3 1 v54 (a.frm.length + j + 1) _ := hS.rows _ List.mem_cons_self
  obtain ⟨av54, cv54, rfl, hc1_v54, hc2_v54, hc3_v54⟩ := row_shape hrow
  clear hrow
  refine WL.nil (N.restS trivial ?_)
  refine WA.conv (fuel' := 1 + 1) (listed' := (lb 13 2047)) (by kernel_rfl) (by kernel_rfl) (WA.stepS 11 (by kernel_rfl) rfl ?_)
  refine WL.fieldAddr fo_99_2 rfl rfl rfl ?_
  refine WL.nil (N.restS trivial ?_)
  refine WA.conv (fuel' := 0 + 1) (listed' := (lb 13 4095)) (by kernel_rfl) (by kernel_rfl) (WA.stepS 12 (by kernel_rfl) rfl ?_)
  refine WL.store0 #[.slice adO (a.ops.length + b.ops.length) caO, .slice advr (a.rels.length + b.rels.length) capvr, .slice av54 (a.frm.length + j + 1) cv54, .slice adB (a.blk.length + b.blk.length) caB] rfl rfl rfl rfl siz_55 rfl rfl rfl hS ?_
  clear hS; intro w55 hS
  refine WL.nil (N.restS trivial ?_)
  refine WA.doneN (by kernel_rfl) ?_
  refine N.blk (N.seq (W.region (WL.move rfl rfl rfl ?_)))
  refine WL.add (c := (j : Int) + 1) rfl rfl rfl rfl (rfl) (by omega) ?_
  refine WL.assign rfl rfl rfl (WL.nil ?_)
  replace hS := hS.permR (((List.Perm.swap _ _ _)).trans ((List.Perm.cons _ (List.Perm.swap _ _ _))))
  replace hS := hS.rw2 (show (⟨.slice av54 (a.frm.length + j + 1) cv54, 3, 1, a.frm.length + (j + 1), (iCells (a.frm ++ (b.frm.take (j + 1)).map (fun x => (a.ops.length : Int) + x)))⟩ : Row) = ⟨.slice av54 (a.frm.length + j + 1) cv54, 3, 1, a.frm.length + j + 1, (iCells (a.frm ++ (b.frm.take j).map (fun x => (a.ops.length : Int) + x))) ++ [.int .i64 ((a.ops.length : Int) + x49)]⟩ by rw [take_next hx49]; simp [rCells, iCells, relL, shiftR, Nat.add_assoc])
  exact N.loop (j + 1, .slice av54 (a.frm.length + j + 1) cv54) ⟨rfl, rfl, rfl, rfl, rfl, trivial⟩ ⟨hS, by omega⟩ (by first | omega | (simp only; omega))
 have hc47p : ¬ ((j : Int) < (b.frm.length : Int)) := by simpa using hc47
 refine W.exit (X.seq (X.loop (X.blk (N.seq (W.seq ?_)))))
 have hje : j = b.frm.length := by omega
 subst hje
 rw [List.take_length] at hS
 refine W.region (WL.loadN (cs := [.slice adO (a.ops.length + b.ops.length) caO, .slice advr (a.rels.length + b.rels.length) capvr, .slice advf (a.frm.length + b.frm.length) capvf, .slice adB (a.blk.length + b.blk.length) caB]) agg_99 rfl rfl rfl rfl (hS.cells 0 (m := 4) rfl rfl) ?_)
 refine WL.store1 #[.slice adO (a.ops.length + b.ops.length) caO, .slice advr (a.rels.length + b.rels.length) capvr, .slice advf (a.frm.length + b.frm.length) capvf, .slice adB (a.blk.length + b.blk.length) caB] rfl rfl rfl rfl siz_99 rfl rfl rfl hS ?_
 clear hS; intro w56 hS
 refine WL.nil (N.seq ?_)
 refine Fin.retC rfl (v := .agg #[.slice adO (a.ops.length + b.ops.length) caO, .slice advr (a.rels.length + b.rels.length) capvr, .slice advf (a.frm.length + b.frm.length) capvf, .slice adB (a.blk.length + b.blk.length) caB]) rfl (tyAgg_run agg_99 (cs := [.slice adO (a.ops.length + b.ops.length) caO, .slice advr (a.rels.length + b.rels.length) capvr, .slice advf (a.frm.length + b.frm.length) capvf, .slice adB (a.blk.length + b.blk.length) caB]) rfl (hS.cells 1 (m := 4) rfl rfl)) ?_
 have hn0 : (join17 a b).ops.length = a.ops.length + b.ops.length := by simp [join17]
 have hr0 : (oCells (join17 a b).ops) = oCells a.ops ++ oCells b.ops := by simp [join17, oCells_app]
 have hn1 : (join17 a b).rels.length = a.rels.length + b.rels.length := by simp [join17]
 have hr1 : (rCells (join17 a b).rels) = (rCells (a.rels ++ b.rels.map (shiftR a.ops.length))) := by simp [join17]
 have hn2 : (join17 a b).frm.length = a.frm.length + b.frm.length := by simp [join17]
 have hr2 : (iCells (join17 a b).frm) = (iCells (a.frm ++ b.frm.map (fun x => (a.ops.length : Int) + x))) := by simp [join17]
 have hn3 : (join17 a b).blk.length = a.blk.length + b.blk.length := by simp [join17]
 have hr3 : (iCells (join17 a b).blk) = iCells a.blk ++ iCells b.blk := by simp [join17, iCells]
 exact ⟨_, _, _, _, _, _, _, _, by rw [hn0, hn1, hn2, hn3], by rw [hn0, hn1, hn2, hn3, hr0, hr1, hr2, hr3]; exact hS.made⟩

end Go.Proofs.YtcmmhfknkldmcaaDoor
