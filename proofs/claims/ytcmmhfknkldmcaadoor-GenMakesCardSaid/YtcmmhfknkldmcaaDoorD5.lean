/-
  Contracts of layer 17 (gen). No condition beyond those that each theorem states.
-/
import Derived.Test.YtcmmhfknkldmcaaDoorD4
namespace Go.Proofs.YtcmmhfknkldmcaaDoor
open Go.RowKit

theorem fits_of {P : DPiece} {ops : List DOp} {rels : List DRel} {js : List (Nat × Tgt)} (h : Sim P ops rels js) (h1 : ops.length ≤ 40000) (h2 : rels.length ≤ 40000) (h3 : js.length ≤ 40000) : Fits P := by
  have hj : (jBl js).length ≤ js.length := List.length_filterMap_le _ _
  exact ⟨by rw [h.len]; exact h1, by rw [h.r]; exact h2, by rw [h.f, List.length_map]; omega, by rw [h.b, List.length_map]; omega⟩
theorem fits_at {f : DFunc} (h : OkG f) (k : Nat) (hk : k ≤ f.blocks.length) : Fits (pAt f k) := by
  have hl := gAt_len h k hk
  have hb := h.bl
  exact fits_of (sim_at k hk) (by omega) (by omega) (by omega)
theorem fits_I {f : DFunc} (h : OkG f) {k : Nat} {b : DBlock} (hb : f.blocks[k]? = some b) (i : Nat) (hi : i ≤ b.ins.length) : Fits (pI f b k i) := by
  have hk := (List.getElem?_eq_some_iff.1 hb).1
  have hl := gAt_len h k (by omega)
  have hi2 := iAt_len h hb hi
  have hp := (h.pb b (List.mem_of_getElem? hb)).2
  have hb := h.bl
  exact fits_of (sim_I (sim_at k (by omega)) i hi) (by omega) (by omega) (by omega)
theorem fits_inst {slots : List Int} {own : Int} {x : DInst} (hk : inU x.k) (ha : x.args.length ≤ 6) : Fits (inst17 slots own x) := by
  have h := give17_len (no := 0) (slots := slots) ha hk
  refine ⟨?_, ?_, by simp [inst17], by simp [inst17]⟩
  · unfold inst17; simp only [List.length_append, List.length_cons, List.length_nil]; omega
  · unfold inst17; simp only; omega
theorem fits_tail {slots : List Int} {mn fr : Int} {t : DTerm} (ha : t.args.length ≤ 6) (he : t.elses.length ≤ 6) : Fits (tail17 slots mn fr t) := by
  have h1 := hand17_len slots mn t.args
  have h2 := hand17_len slots mn t.elses
  unfold tail17
  (repeat' split) <;> refine ⟨?_, ?_, ?_, ?_⟩ <;> simp only [List.length_append, List.length_cons, List.length_nil] <;> omega
theorem stays_piece {B : Nat} {p : DPiece} : Stays fun v u => ∃ cs, v = .agg cs.toArray ∧ PieceC (fun b => B ≤ b ∧ b < u.heap.size) u cs p := fun _ _ _ ⟨cs, e, h⟩ hb =>
  ⟨cs, e, h.keep fun b hr => ⟨⟨hr.1, Nat.lt_of_lt_of_le hr.2 hb.size⟩, hb.block b hr.2⟩⟩

set_option maxRecDepth 10000 in
set_option maxHeartbeats 4000000 in
theorem rfunc17_ret (f : DFunc) (cf : List Value) {w : World} {ro : Nat → Prop} (hro : ∀ b, ro b → b < w.heap.size) (hx : FuncC ro w cf f) (hok : OkG f) : Ret Tryd.prog 35 #[.agg cf.toArray] w fun v w' => ∃ so sr, v = .agg #[.string f.name, so, sr] ∧ w'.ownsRow w.heap.size 36 5 so (func17 f).ops.length (oCells (func17 f).ops) ∧ w'.ownsRow w.heap.size 34 3 sr (func17 f).rels.length (rCells (func17 f).rels) ∧ (∀ b, so.ownBlock = some b → w.heap.size ≤ b ∧ b < w'.heap.size) ∧ (∀ b, sr.ownBlock = some b → w.heap.size ≤ b ∧ b < w'.heap.size) ∧ Below w.heap.size w w' := by
 obtain ⟨sbF, rfl, hblF, hnmF, hbdF, hprF⟩ := id hx
 obtain ⟨adbF, capbF, rfl, hbkFa, hbkFb, hbkFc, hbkFd⟩ := id hblF
 have hbkFm : f.blocks.length ≤ 9223372036854775807 := by have h1 := hbkFa; have h2 := hbkFb; unfold maxLen at h2; omega
 refine Ret.enter (P := Tryd.prog) (n := 127) (args := [.agg #[.string f.name, .int .i64 f.bind, .int .i64 f.params, .slice adbF f.blocks.length capbF]]) (σ := [(0, .agg #[.string f.name, .int .i64 f.bind, .int .i64 f.params, .slice adbF f.blocks.length capbF])]) Tryd.func35 rfl rfl rfl rfl ?_
 have hS := St.start (ro := ro) hro
 have hm38 := many16_38 hok; have hfi := frame_in hok; have hp0 := hok.p0; have hp1 := hok.p1; have hbl16 := hok.bl
 have hsub : ∀ b, ro b → ro b ∨ w.heap.size ≤ b := fun _ h => .inl h
 refine W.seq (W.region ?_)
 refine WL.box (v := .agg #[.string f.name, .int .i64 f.bind, .int .i64 f.params, .slice adbF f.blocks.length capbF]) (cs := [.string f.name, .int .i64 f.bind, .int .i64 f.params, .slice adbF f.blocks.length capbF]) rfl rfl rfl rfl hS ?_
 clear hS; intro w2 b1 hb_b1 hS
 refine WL.alloc (tyZero_spec zer_30) rfl rfl hS ?_
 clear hS; intro w4 b3 hb_b3 hS
 refine WL.nil (N.seq (W.seq (W.region (WL.loadN (cs := [.string f.name, .int .i64 f.bind, .int .i64 f.params, .slice adbF f.blocks.length capbF]) agg_24 rfl rfl rfl rfl (hS.cells 1 (m := 4) rfl rfl) ?_))))
 refine WL.callF (vs := [.agg #[.string f.name, .int .i64 f.bind, .int .i64 f.params, .slice adbF f.blocks.length capbF]]) Tryd.func52 (by kernel_rfl) rfl rfl rfl (rframe17_ret f _ (ro := ro) (fun b hb => (hS.snap b hb).1) (hx.keep hS.alike) hok) ?_
 rintro v w5 ⟨rfl, hbl⟩
 replace hS := hS.grow hbl
 refine WL.assign rfl rfl rfl (WL.nil (N.seq (W.seq (W.region (WL.loadN (cs := [.string f.name, .int .i64 f.bind, .int .i64 f.params, .slice adbF f.blocks.length capbF]) agg_24 rfl rfl rfl rfl (hS.cells 1 (m := 4) rfl rfl) ?_)))))
 refine WL.callF (vs := [.agg #[.string f.name, .int .i64 f.bind, .int .i64 f.params, .slice adbF f.blocks.length capbF]]) Tryd.func53 (by kernel_rfl) rfl rfl rfl (rmany16_ret f _ (ro := ro) (fun b hb => (hS.snap b hb).1) (hx.keep hS.alike) hok.ok) ?_
 rintro v w6 ⟨rfl, hbl⟩
 replace hS := hS.grow hbl
 refine WL.assign rfl rfl rfl (WL.nil (N.seq (W.seq (W.region (WL.move rfl rfl rfl ?_)))))
 refine WL.neg rfl rfl rfl ?_
 refine WL.set 18 (v' := .int .i64 (0 - frame17 f)) rfl (congrArg _ (by rw [wrap64 (by omega)])) ?_
 refine WL.build (ps := [(0, .int .i64 12), (1, .int .i64 2), (2, .int .i64 2), (4, .int .i64 (0 - frame17 f))]) (cs := [.int .i64 12, .int .i64 2, .int .i64 2, .int .i64 0, .int .i64 (0 - frame17 f)]) rfl rfl rfl (by kernel_rfl) ?_
 refine WL.build (ps := [(0, .int .i64 21), (2, .int .i64 2), (3, .int .i64 1)]) (cs := [.int .i64 21, .int .i64 0, .int .i64 2, .int .i64 1, .int .i64 0]) rfl rfl rfl (by kernel_rfl) ?_
 refine WL.buildSlice (ps := [(0, .agg #[.int .i64 12, .int .i64 2, .int .i64 2, .int .i64 0, .int .i64 (0 - frame17 f)]), (1, .agg #[.int .i64 21, .int .i64 0, .int .i64 2, .int .i64 1, .int .i64 0])]) (cs := [.int .i64 12, .int .i64 2, .int .i64 2, .int .i64 0, .int .i64 (0 - frame17 f), .int .i64 21, .int .i64 0, .int .i64 2, .int .i64 1, .int .i64 0]) Tryd.underlying27 (tyZero_spec zer_36) rfl rfl rfl rfl (by kernel_rfl) hS ?_
 clear hS; intro w8 b7 hb_b7 hS
 replace hS := hS.toRow (n := 2) (cap := 2) (sz := 5) (xs := [.int .i64 12, .int .i64 2, .int .i64 2, .int .i64 0, .int .i64 (0 - frame17 f), .int .i64 21, .int .i64 0, .int .i64 2, .int .i64 1, .int .i64 0]) rfl rfl (Nat.le_refl _) (by decide)
 refine WL.build (ps := [(0, .slice (some ⟨b7, 0, none⟩) 2 2)]) (cs := [.slice (some ⟨b7, 0, none⟩) 2 2, .slice none 0 0, .slice none 0 0, .slice none 0 0]) rfl rfl rfl (by kernel_rfl) ?_
 refine WL.alloc (tyZero_spec zer_99) rfl rfl hS ?_
 clear hS; intro w10 b9 hb_b9 hS
 refine WL.store0 #[.slice (some ⟨b7, 0, none⟩) 2 2, .slice none 0 0, .slice none 0 0, .slice none 0 0] rfl rfl rfl rfl siz_99 rfl rfl rfl hS ?_
 clear hS; intro w11 hS
 refine WL.nil (N.seq (W.seq (W.seq (W.region (WL.assign rfl rfl rfl (WL.nil (N.seq (W.block ?_))))))))
 replace hS := hS.rw0 (show (⟨.slice (some ⟨b7, 0, none⟩) 2 2, 36, 5, (head17 (frame17 f) 0).length, (oCells (head17 (frame17 f) 0))⟩ : Row) = ⟨.slice (some ⟨b7, 0, none⟩) 2 2, 36, 5, 2, [.int .i64 12, .int .i64 2, .int .i64 2, .int .i64 0, .int .i64 (0 - frame17 f), .int .i64 21, .int .i64 0, .int .i64 2, .int .i64 1, .int .i64 0]⟩ by simp [head17, headP, oCells, opL])
 refine W.loop (α := Nat × Value) (fun ⟨p, v1⟩ => [(1, .pointer (some ⟨b1, 0, none⟩)), (2, .pointer (some ⟨b3, 0, none⟩)), (3, .int .i64 (frame17 f)), (4, .int .i64 (many16 f)), (5, .pointer (some ⟨b9, 0, none⟩)), (6, .int .i64 (p : Int))]) (fun ⟨p, v1⟩ u => St w w u ro [(b9, .cells #[v1, .slice none 0 0, .slice none 0 0, .slice none 0 0] 99 (0, 0)), (b3, .cells #[.string ⟨#[]⟩, .slice none 0 0, .slice none 0 0] 30 (0, 0)), (b1, .cells #[.string f.name, .int .i64 f.bind, .int .i64 f.params, .slice adbF f.blocks.length capbF] 24 (0, 0))] [⟨v1, 36, 5, (head17 (frame17 f) p).length, (oCells (head17 (frame17 f) p))⟩] ∧ (p : Int) ≤ f.params) (fun ⟨p, v1⟩ => f.params.toNat - p) (0, .slice (some ⟨b7, 0, none⟩) 2 2) ⟨rfl, rfl, rfl, rfl, rfl, rfl, trivial⟩ ⟨hS, (by omega)⟩ ?_
 clear hS
 rintro ⟨p, v1⟩ w12 ⟨hS, hpl⟩
 have hhl := head17_len (frame17 f) p
 have hrow : w12.ownsRow w.heap.size 36 5 v1 ((head17 (frame17 f) p).length) _ := hS.rows _ List.mem_cons_self
 obtain ⟨adv1, capv1, rfl, hr1v1, hr2v1, hr3v1⟩ := row_shape hrow
 clear hrow
 refine W.seq (W.seq (W.region (WL.move rfl rfl rfl (WL.fieldAddr fo_24_2 rfl rfl rfl (WL.load1 (v := .int .i64 f.params) one_3 rfl rfl rfl (hS.cell 2 rfl rfl) (WL.bin rfl rfl rfl rfl rfl (WL.nil (N.seq ?_))))))))
 refine W.cond rfl (fun hc13 => ?_) (fun hc13 => ?_)
 ·
  have hc13p : (p : Int) < f.params := by simpa using hc13
  refine W.skip (N.seq (W.seq (W.block ?_)))
  refine W.drawA0 (S := fun u => True) (by kernel_rfl) (fun w14 hbd => ?_)
  replace hS := hS.grow hbd
  refine WA.conv (fuel' := 7 + 3) (listed' := (lb 10 0)) (by kernel_rfl) (by kernel_rfl) (WA.phaseI [(0, (fun v _ => v = .pointer (some ⟨b9, 0, none⟩))), (1, (fun v _ => v = .slice adv1 ((head17 (frame17 f) p).length) capv1)), (2, (fun v _ => v = .int .i64 (p : Int))), (3, (fun v _ => v = .int .i64 (10 + (p : Int)))), (4, (fun v _ => v = .int .i64 (p : Int))), (5, (fun v _ => v = .agg #[.int .i64 21, .int .i64 0, .int .i64 2, .int .i64 (10 + (p : Int)), .int .i64 (8 + 8 * (p : Int))])), (6, (fun v u => ∃ b, v = .slice (some ⟨b, 0, none⟩) 1 1 ∧ u.heap[b]? = some (.cells [.int .i64 21, .int .i64 0, .int .i64 2, .int .i64 (10 + (p : Int)), .int .i64 (8 + 8 * (p : Int))].toArray 36 (0, 0))))] (by kernel_rfl) [(1, .pointer (some ⟨b1, 0, none⟩)), (2, .pointer (some ⟨b3, 0, none⟩)), (3, .int .i64 (frame17 f)), (4, .int .i64 (many16 f)), (5, .pointer (some ⟨b9, 0, none⟩)), (6, .int .i64 (p : Int))] ⟨rfl, rfl, rfl, rfl, rfl, rfl, trivial⟩ (by kernel_rfl) ⟨stays_eq, stays_eq, stays_eq, stays_eq, stays_eq, stays_eq, (fun v u u2 h hb => h.elim fun b h => ⟨b, h.1, (hb.block b (Array.getElem?_eq_some_iff.1 h.2).1).trans h.2⟩), trivial⟩ ?_ (fun _ _ => trivial) ?_)
  ·
   refine ⟨fun β wd hb hD => ⟨_, rfl, ?_⟩, ?_⟩
   ·
    have hS := hS.grow hb
    refine WL.fieldAddr fo_99_0 rfl rfl rfl ?_
    exact WL.nil (N.cut _ ⟨rfl, trivial⟩ ⟨(Below.refl _ _), rfl⟩)
   refine ⟨fun β wd hb hD => ⟨_, rfl, ?_⟩, ?_⟩
   ·
    obtain ⟨hp0, _⟩ := hD
    replace hp0 : β 0 = .pointer (some ⟨b9, 0, none⟩) := hp0
    refine WL.sub (σ' := [(29, .pointer (some ⟨b9, 0, none⟩))]) ⟨congrArg some hp0, trivial⟩ ?_
    have hS := hS.grow hb
    refine WL.load1 (v := .slice adv1 ((head17 (frame17 f) p).length) capv1) one_27 rfl rfl rfl (hS.cell 0 rfl rfl) ?_
    exact WL.nil (N.cut _ ⟨rfl, trivial⟩ ⟨(Below.refl _ _), rfl⟩)
   refine ⟨fun β wd hb hD => ⟨_, rfl, ?_⟩, ?_⟩
   ·
    have hS := hS.grow hb
    refine WL.move rfl rfl rfl ?_
    exact WL.nil (N.cut _ ⟨rfl, trivial⟩ ⟨(Below.refl _ _), rfl⟩)
   refine ⟨fun β wd hb hD => ⟨_, rfl, ?_⟩, ?_⟩
   ·
    obtain ⟨hp2, _⟩ := hD
    replace hp2 : β 2 = .int .i64 (p : Int) := hp2
    refine WL.sub (σ' := [(31, .int .i64 (p : Int))]) ⟨congrArg some hp2, trivial⟩ ?_
    have hS := hS.grow hb
    refine WL.add (c := 10 + (p : Int)) rfl rfl rfl rfl rfl (by omega) ?_
    exact WL.nil (N.cut _ ⟨rfl, trivial⟩ ⟨(Below.refl _ _), rfl⟩)
   refine ⟨fun β wd hb hD => ⟨_, rfl, ?_⟩, ?_⟩
   ·
    have hS := hS.grow hb
    refine WL.move rfl rfl rfl ?_
    exact WL.nil (N.cut _ ⟨rfl, trivial⟩ ⟨(Below.refl _ _), rfl⟩)
   refine ⟨fun β wd hb hD => ⟨_, rfl, ?_⟩, ?_⟩
   ·
    obtain ⟨hp3, hp4, _⟩ := hD
    replace hp3 : β 3 = .int .i64 (10 + (p : Int)) := hp3
    replace hp4 : β 4 = .int .i64 (p : Int) := hp4
    refine WL.sub (σ' := [(32, .int .i64 (10 + (p : Int))), (33, .int .i64 (p : Int))]) ⟨congrArg some hp3, congrArg some hp4, trivial⟩ ?_
    have hS := hS.grow hb
    refine WL.callF (vs := [.int .i64 (10 + (p : Int)), .int .i64 (p : Int)]) Tryd.func54 (by kernel_rfl) rfl rfl rfl (rsave_ret (10 + (p : Int)) (p : Int) (by omega) (by omega) (ro := ro) (fun b hb => (hS.snap b hb).1)) ?_
    rintro v w16 ⟨rfl, hbl⟩
    replace hS := hS.grow hbl
    exact WL.nil (N.cut _ ⟨rfl, trivial⟩ ⟨hbl, rfl⟩)
   refine ⟨fun β wd hb hD => ⟨_, rfl, ?_⟩, ?_⟩
   ·
    obtain ⟨hp5, _⟩ := hD
    replace hp5 : β 5 = .agg #[.int .i64 21, .int .i64 0, .int .i64 2, .int .i64 (10 + (p : Int)), .int .i64 (8 + 8 * (p : Int))] := hp5
    refine WL.sub (σ' := [(34, .agg #[.int .i64 21, .int .i64 0, .int .i64 2, .int .i64 (10 + (p : Int)), .int .i64 (8 + 8 * (p : Int))])]) ⟨congrArg some hp5, trivial⟩ ?_
    have hS := hS.grow hb
    have hX := St.start (w := wd) (ro := fun z => z < wd.heap.size) (fun _ h => h)
    refine WL.buildSlice (ps := [(0, .agg #[.int .i64 21, .int .i64 0, .int .i64 2, .int .i64 (10 + (p : Int)), .int .i64 (8 + 8 * (p : Int))])]) (cs := [.int .i64 21, .int .i64 0, .int .i64 2, .int .i64 (10 + (p : Int)), .int .i64 (8 + 8 * (p : Int))]) Tryd.underlying27 (tyZero_spec zer_36) rfl rfl rfl rfl (by kernel_rfl) hX ?_
    clear hX; intro w18 b17 hb_b17 hX
    exact WL.nil (N.cut _ ⟨rfl, trivial⟩ ⟨hX.below, ⟨_, rfl, hX.own _ List.mem_cons_self⟩⟩)
   trivial
  intro β w19 hb hD
  obtain ⟨hp0, hp1, hp2, hp3, hp4, hp5, hp6, _⟩ := hD
  refine WA.sub (σ' := [(1, .pointer (some ⟨b1, 0, none⟩)), (2, .pointer (some ⟨b3, 0, none⟩)), (3, .int .i64 (frame17 f)), (4, .int .i64 (many16 f)), (5, .pointer (some ⟨b9, 0, none⟩)), (6, .int .i64 (p : Int)), (30, .slice adv1 ((head17 (frame17 f) p).length) capv1), (35, (β 6))]) ⟨rfl, rfl, rfl, rfl, rfl, rfl, congrArg some (show β 1 = .slice adv1 ((head17 (frame17 f) p).length) capv1 from hp1), rfl, trivial⟩ ?_
  have hSd := hS
  replace hS := hS.grow hb
  replace hp6 : (fun v u => ∃ b, v = .slice (some ⟨b, 0, none⟩) 1 1 ∧ u.heap[b]? = some (.cells [.int .i64 21, .int .i64 0, .int .i64 2, .int .i64 (10 + (p : Int)), .int .i64 (8 + 8 * (p : Int))].toArray 36 (0, 0))) (β 6) w19 := hp6
  generalize β 6 = z6 at hp6 ⊢
  refine WA.conv (fuel' := 2 + 1) (listed' := (lb 10 127)) (by kernel_rfl) (by kernel_rfl) (WA.stepS 7 (by kernel_rfl) rfl ?_)
  obtain ⟨bq6, rfl, hbq6⟩ := hp6
  have hcq6 := cellsAt_block hbq6
  refine WL.appendRo (r := ⟨.slice adv1 ((head17 (frame17 f) p).length) capv1, 36, 5, (head17 (frame17 f) p).length, (oCells (head17 (frame17 f) p))⟩) (news := [.int .i64 21, .int .i64 0, .int .i64 2, .int .i64 (10 + (p : Int)), .int .i64 (8 + 8 * (p : Int))]) 40 Tryd.underlying27 (tyZero_spec zer_36) byt_36 rfl rfl rfl rfl rfl rfl (fun e => by cases e) (fun b off e => by cases e; exact hcq6) (fun a e _ => by cases e; rfl) (by intro u hu; simp only [List.mem_cons, List.not_mem_nil, or_false] at hu; rcases hu with rfl | rfl | rfl | rfl | rfl <;> rfl) rfl rfl hS (by simp only; unfold maxLen; omega) (by simp only; omega) ?_
  clear hS; intro w20 v21 hS hnn
  have hrow : w20.ownsRow w.heap.size 36 5 v21 ((head17 (frame17 f) p).length + 1) _ := hS.rows _ List.mem_cons_self
  obtain ⟨av21, cv21, rfl, hc1_v21, hc2_v21, hc3_v21⟩ := row_shape hrow
  clear hrow
  refine WL.nil (N.restS trivial ?_)
  refine WA.conv (fuel' := 1 + 1) (listed' := (lb 10 255)) (by kernel_rfl) (by kernel_rfl) (WA.stepS 8 (by kernel_rfl) rfl ?_)
  refine WL.fieldAddr fo_99_0 rfl rfl rfl ?_
  refine WL.nil (N.restS trivial ?_)
  refine WA.conv (fuel' := 0 + 1) (listed' := (lb 10 511)) (by kernel_rfl) (by kernel_rfl) (WA.stepS 9 (by kernel_rfl) rfl ?_)
  refine WL.store0 #[.slice av21 ((head17 (frame17 f) p).length + 1) cv21, .slice none 0 0, .slice none 0 0, .slice none 0 0] rfl rfl rfl rfl siz_27 rfl rfl rfl hS ?_
  clear hS; intro w22 hS
  refine WL.nil (N.restS trivial ?_)
  refine WA.doneN (by kernel_rfl) ?_
  refine N.blk (N.seq (W.region (WL.move rfl rfl rfl ?_)))
  refine WL.add (c := (p : Int) + 1) rfl rfl rfl rfl (rfl) (by omega) ?_
  refine WL.assign rfl rfl rfl (WL.nil ?_)
  replace hS := hS.rw0 (show (⟨.slice av21 ((head17 (frame17 f) p).length + 1) cv21, 36, 5, (head17 (frame17 f) (p + 1)).length, (oCells (head17 (frame17 f) (p + 1)))⟩ : Row) = ⟨.slice av21 ((head17 (frame17 f) p).length + 1) cv21, 36, 5, (head17 (frame17 f) p).length + 1, (oCells (head17 (frame17 f) p)) ++ [.int .i64 21, .int .i64 0, .int .i64 2, .int .i64 (10 + (p : Int)), .int .i64 (8 + 8 * (p : Int))]⟩ by rw [head17_next]; simp [oCells, opL, sv])
  exact N.loop (p + 1, .slice av21 ((head17 (frame17 f) p).length + 1) cv21) ⟨rfl, rfl, rfl, rfl, rfl, rfl, trivial⟩ ⟨hS, by omega⟩ (by first | omega | (simp only; omega))
 have hc13p : ¬ ((p : Int) < f.params) := by simpa using hc13
 refine W.exit (X.seq (X.loop (X.blk (N.seq (W.seq (W.region (WL.assign rfl rfl rfl (WL.nil (N.seq ?_)))))))))
 refine W.seq (W.seq (W.region (WL.assign rfl rfl rfl (WL.nil (N.seq (W.block ?_))))))
 have hpe : p = f.params.toNat := by omega
 subst hpe
 replace hS : St w w w12 ro [(b9, .cells #[.slice adv1 ((pAt f 0).ops.length) capv1, .slice none 0 0, .slice none 0 0, .slice none 0 0] 99 (0, 0)), (b3, .cells #[.string ⟨#[]⟩, .slice none 0 0, .slice none 0 0] 30 (0, 0)), (b1, .cells #[.string f.name, .int .i64 f.bind, .int .i64 f.params, .slice adbF f.blocks.length capbF] 24 (0, 0))] [⟨.slice adv1 ((pAt f 0).ops.length) capv1, 36, 5, (pAt f 0).ops.length, (oCells (pAt f 0).ops)⟩] := hS
 replace hS := hS.row0 34 3
 replace hS := hS.row0 3 1
 replace hS := hS.row0 3 1
 replace hS := hS.row0 3 1
 replace hS := hS.permR (((((((((((List.Perm.cons _ (List.Perm.cons _ (List.Perm.cons _ (List.Perm.swap _ _ _))))).trans ((List.Perm.cons _ (List.Perm.cons _ (List.Perm.swap _ _ _))))).trans ((List.Perm.cons _ (List.Perm.swap _ _ _)))).trans ((List.Perm.swap _ _ _))).trans ((List.Perm.cons _ (List.Perm.cons _ (List.Perm.cons _ (List.Perm.swap _ _ _)))))).trans ((List.Perm.cons _ (List.Perm.cons _ (List.Perm.swap _ _ _))))).trans ((List.Perm.cons _ (List.Perm.swap _ _ _)))).trans ((List.Perm.cons _ (List.Perm.cons _ (List.Perm.cons _ (List.Perm.swap _ _ _)))))).trans ((List.Perm.cons _ (List.Perm.cons _ (List.Perm.swap _ _ _))))).trans ((List.Perm.cons _ (List.Perm.cons _ (List.Perm.cons _ (List.Perm.swap _ _ _))))))
 replace hS : St w w w12 ro [(b9, .cells #[.slice adv1 ((pAt f 0).ops.length) capv1, .slice none 0 0, .slice none 0 0, .slice none 0 0] 99 (0, 0)), (b3, .cells #[.string ⟨#[]⟩, .slice none 0 0, .slice none 0 0] 30 (0, 0)), (b1, .cells #[.string f.name, .int .i64 f.bind, .int .i64 f.params, .slice adbF f.blocks.length capbF] 24 (0, 0))] [⟨.slice adv1 ((pAt f 0).ops.length) capv1, 36, 5, (pAt f 0).ops.length, (oCells (pAt f 0).ops)⟩, ⟨.slice none 0 0, 34, 3, (pAt f 0).rels.length, (rCells (pAt f 0).rels)⟩, ⟨.slice none 0 0, 3, 1, (pAt f 0).frm.length, (iCells (pAt f 0).frm)⟩, ⟨.slice none 0 0, 3, 1, (pAt f 0).blk.length, (iCells (pAt f 0).blk)⟩, ⟨.slice none 0 0, 3, 1, (gAt f 0).starts.length, (iCells (gAt f 0).starts)⟩] := hS
 refine W.loop (α := Nat × Value × Value × Value × Value × Value × (Nat → Prop) × World) (fun ⟨k, vo, vr, vf, vb, vs, R2, ws2⟩ => [(1, .pointer (some ⟨b1, 0, none⟩)), (2, .pointer (some ⟨b3, 0, none⟩)), (3, .int .i64 (frame17 f)), (4, .int .i64 (many16 f)), (5, .pointer (some ⟨b9, 0, none⟩)), (7, vs), (8, .int .i64 (k : Int))]) (fun ⟨k, vo, vr, vf, vb, vs, R2, ws2⟩ u => St w ws2 u R2 [(b9, .cells #[vo, vr, vf, vb] 99 (0, 0)), (b3, .cells #[.string ⟨#[]⟩, .slice none 0 0, .slice none 0 0] 30 (0, 0)), (b1, .cells #[.string f.name, .int .i64 f.bind, .int .i64 f.params, .slice adbF f.blocks.length capbF] 24 (0, 0))] [⟨vo, 36, 5, (pAt f k).ops.length, (oCells (pAt f k).ops)⟩, ⟨vr, 34, 3, (pAt f k).rels.length, (rCells (pAt f k).rels)⟩, ⟨vf, 3, 1, (pAt f k).frm.length, (iCells (pAt f k).frm)⟩, ⟨vb, 3, 1, (pAt f k).blk.length, (iCells (pAt f k).blk)⟩, ⟨vs, 3, 1, (gAt f k).starts.length, (iCells (gAt f k).starts)⟩] ∧ k ≤ f.blocks.length ∧ Alike ro w R2 ws2 ∧ (∀ b, R2 b → ro b ∨ w.heap.size ≤ b)) (fun ⟨k, vo, vr, vf, vb, vs, R2, ws2⟩ => f.blocks.length - k) (0, .slice adv1 ((pAt f 0).ops.length) capv1, (.slice none 0 0), (.slice none 0 0), (.slice none 0 0), (.slice none 0 0), ro, w) ⟨rfl, rfl, rfl, rfl, rfl, rfl, rfl, trivial⟩ ⟨hS, Nat.zero_le _, Alike.refl, hsub⟩ ?_
 clear hS
 rintro ⟨k, vo, vr, vf, vb, vs, R2, ws2⟩ w23 ⟨hS, hk, halL1, hsub⟩
 replace hx := hx.keep halL1
 replace hbkFd := hbkFd.keep halL1 (fun _ _ h => h.keep halL1)
 have hft := fits_at hok k hk; have hfo := hft.o; have hgl4 := (gAt_len hok k hk).2.2.2
 have hrow : w23.ownsRow w.heap.size 36 5 vo ((pAt f k).ops.length) _ := hS.rows _ List.mem_cons_self
 obtain ⟨advo, capvo, rfl, hr1vo, hr2vo, hr3vo⟩ := row_shape hrow
 clear hrow
 have hrow : w23.ownsRow w.heap.size 34 3 vr ((pAt f k).rels.length) _ := hS.rows _ (List.mem_cons_of_mem _ List.mem_cons_self)
 obtain ⟨advr, capvr, rfl, hr1vr, hr2vr, hr3vr⟩ := row_shape hrow
 clear hrow
 have hrow : w23.ownsRow w.heap.size 3 1 vf ((pAt f k).frm.length) _ := hS.rows _ (List.mem_of_getElem? (i := 2) rfl)
 obtain ⟨advf, capvf, rfl, hr1vf, hr2vf, hr3vf⟩ := row_shape hrow
 clear hrow
 have hrow : w23.ownsRow w.heap.size 3 1 vb ((pAt f k).blk.length) _ := hS.rows _ (List.mem_of_getElem? (i := 3) rfl)
 obtain ⟨advb, capvb, rfl, hr1vb, hr2vb, hr3vb⟩ := row_shape hrow
 clear hrow
 have hrow : w23.ownsRow w.heap.size 3 1 vs ((gAt f k).starts.length) _ := hS.rows _ (List.mem_of_getElem? (i := 4) rfl)
 obtain ⟨advs, capvs, rfl, hr1vs, hr2vs, hr3vs⟩ := row_shape hrow
 clear hrow
 refine W.seq (W.seq (W.region (WL.move rfl rfl rfl (WL.fieldAddr fo_24_3 rfl rfl rfl (WL.load1 (v := .slice adbF f.blocks.length capbF) one_22 rfl rfl rfl (hS.cell 2 rfl rfl) (WL.lenSlice Tryd.underlying22 rfl rfl rfl (WL.bin rfl rfl rfl rfl rfl (WL.nil (N.seq ?_)))))))))
 refine W.cond rfl (fun hc24 => ?_) (fun hc24 => ?_)
 ·
  have hc24p : (k : Int) < (f.blocks.length : Int) := by simpa using hc24
  refine W.skip (N.seq (W.seq (W.block (W.seq (W.region (WL.fieldAddr fo_24_3 rfl rfl rfl (WL.load1 (v := .slice adbF f.blocks.length capbF) one_22 rfl rfl rfl (hS.cell 2 rfl rfl) (WL.move rfl rfl rfl ?_))))))))
  have hj25 : k < f.blocks.length := by omega
  obtain ⟨x25, hx25, b25, o25, cs25, hE25, hr25, _, hc25, hQ25⟩ := opn hbkFd hj25
  obtain ⟨si25, tsx25, rfl, hin25, hfin25, hpar25⟩ := id hQ25
  obtain ⟨adi25, capi25, rfl, hin25a, hin25b, hin25c, hin25d⟩ := id hin25
  have hin25m : x25.ins.length ≤ 9223372036854775807 := by have h1 := hin25a; have h2 := hin25b; unfold maxLen at h2; omega
  obtain ⟨sp25, sq25, rfl, ht125, ht225, htk25, hta25, htt25, hte25⟩ := id hfin25
  obtain ⟨adp25, capp25, rfl, htp25a, htp25b, htp25c, htp25d⟩ := id ht125
  have htp25m : x25.fin.args.length ≤ 9223372036854775807 := by have h1 := htp25a; have h2 := htp25b; unfold maxLen at h2; omega
  obtain ⟨adq25, capq25, rfl, htq25a, htq25b, htq25c, htq25d⟩ := id ht225
  have htq25m : x25.fin.elses.length ≤ 9223372036854775807 := by have h1 := htq25a; have h2 := htq25b; unfold maxLen at h2; omega
  refine WL.indexAddrE (j := k) Tryd.underlying22 isz_59 rfl rfl rfl rfl hj25 hE25 (WL.loadN (cs := [.int .i64 x25.params, .slice adi25 x25.ins.length capi25, .int .i64 x25.fin.kind, .int .i64 x25.fin.a, .int .i64 x25.fin.to, .slice adp25 x25.fin.args.length capp25, .int .i64 x25.fin.els, .slice adq25 x25.fin.elses.length capq25]) agg_59 rfl rfl rfl rfl (hS.roCells hr25 hc25) ?_)
  refine WL.alloc (tyZero_spec zer_59) rfl rfl hS ?_
  clear hS; intro w27 b26 hb_b26 hS
  refine WL.store0 #[.int .i64 x25.params, .slice adi25 x25.ins.length capi25, .int .i64 x25.fin.kind, .int .i64 x25.fin.a, .int .i64 x25.fin.to, .slice adp25 x25.fin.args.length capp25, .int .i64 x25.fin.els, .slice adq25 x25.fin.elses.length capq25] rfl rfl rfl rfl siz_59 rfl rfl rfl hS ?_
  clear hS; intro w28 hS
  refine WL.nil (N.seq (W.seq (W.region (WL.move rfl rfl rfl (WL.fieldAddr fo_99_0 rfl rfl rfl (WL.load1 (v := .slice advo ((pAt f k).ops.length) capvo) one_27 rfl rfl rfl (hS.cell 1 rfl rfl) (WL.lenSlice Tryd.underlying27 rfl rfl rfl ?_)))))))
  refine WL.buildSlice (ps := [(0, .int .i64 (((pAt f k).ops.length : Nat) : Int))]) (cs := [.int .i64 (((pAt f k).ops.length : Nat) : Int)]) Tryd.underlying55 (tyZero_spec zer_3) rfl rfl rfl rfl (by kernel_rfl) hS ?_
  clear hS; intro w30 b29 hb_b29 hS
  replace hS := hS.permR (((((List.Perm.cons _ (List.Perm.cons _ (List.Perm.cons _ (List.Perm.swap _ _ _))))).trans ((List.Perm.cons _ (List.Perm.cons _ (List.Perm.swap _ _ _))))).trans ((List.Perm.cons _ (List.Perm.swap _ _ _)))).trans ((List.Perm.swap _ _ _)))
  refine WL.append (r := ⟨.slice advs ((gAt f k).starts.length) capvs, 3, 1, (gAt f k).starts.length, (iCells (gAt f k).starts)⟩) (cs := [.int .i64 (((pAt f k).ops.length : Nat) : Int)]) 8 Tryd.underlying55 (tyZero_spec zer_3) byt_3 rfl rfl rfl rfl rfl rfl rfl rfl rfl hS (by unfold maxLen; simp only; omega) (by simp only; omega) ?_
  clear hS; intro w31 v32 hn_v32 hS
  have hrow : w31.ownsRow w.heap.size 3 1 v32 ((gAt f k).starts.length + 1) _ := hS.rows _ List.mem_cons_self
  obtain ⟨av32, cv32, rfl, hc1_v32, hc2_v32, hc3_v32⟩ := row_shape hrow
  clear hrow
  refine WL.assign rfl rfl rfl (WL.nil (N.seq (W.seq (W.region (WL.loadN (cs := [.int .i64 x25.params, .slice adi25 x25.ins.length capi25, .int .i64 x25.fin.kind, .int .i64 x25.fin.a, .int .i64 x25.fin.to, .slice adp25 x25.fin.args.length capp25, .int .i64 x25.fin.els, .slice adq25 x25.fin.elses.length capq25]) agg_59 rfl rfl rfl rfl (hS.cells 0 (m := 8) rfl rfl) ?_)))))
  have hlen0 := (sim_at (f := f) k hk).len
  replace hS := hS.permR (((((List.Perm.swap _ _ _)).trans ((List.Perm.cons _ (List.Perm.swap _ _ _)))).trans ((List.Perm.cons _ (List.Perm.cons _ (List.Perm.swap _ _ _))))).trans ((List.Perm.cons _ (List.Perm.cons _ (List.Perm.cons _ (List.Perm.swap _ _ _))))))
  replace hS := hS.rw4 (show (⟨.slice av32 ((gAt f k).starts.length + 1) cv32, 3, 1, (gAt f (k + 1)).starts.length, (iCells (gAt f (k + 1)).starts)⟩ : Row) = ⟨.slice av32 ((gAt f k).starts.length + 1) cv32, 3, 1, (gAt f k).starts.length + 1, (iCells (gAt f k).starts) ++ ([.int .i64 (((pAt f k).ops.length : Nat) : Int)] : List Value)⟩ by rw [blkAt hx25]; simp [iCells, hlen0])
  refine WL.callF (vs := [.agg #[.int .i64 x25.params, .slice adi25 x25.ins.length capi25, .int .i64 x25.fin.kind, .int .i64 x25.fin.a, .int .i64 x25.fin.to, .slice adp25 x25.fin.args.length capp25, .int .i64 x25.fin.els, .slice adq25 x25.fin.elses.length capq25]]) Tryd.func55 (by kernel_rfl) rfl rfl rfl (rgive16_ret x25 _ (ro := R2) (fun b hb => (hS.snap b hb).1) (hQ25.keep hS.alike) (hok.ok _ (List.mem_of_getElem? hx25))) ?_
  rintro vl w33 ⟨hvl, hbl⟩
  have hal34 := hS.alikeTo hbl (ro' := (roFrom R2 w31 w33)) (fun b hb => .inl hb)
  replace hsub : ∀ b, (roFrom R2 w31 w33) b → ro b ∨ w.heap.size ≤ b := fun b hb => hb.elim (hsub b) (fun h => .inr (Nat.le_trans hS.below.size h.1))
  replace halL1 := halL1.trans hal34
  replace hx := hx.keep hal34
  replace hin25d := hin25d.keep hal34 (fun _ _ h => h.keep hal34)
  replace hfin25 := hfin25.keep hal34
  replace hS := hS.readNew hbl
  replace hvl := SlV.keep hvl (ro' := (roFrom R2 w31 w33)) (w' := w33) (Q' := IntC) (fun x hx => ⟨.inr hx, rfl⟩) (fun _ _ h => h)
  obtain ⟨adl, capadl, rfl, hvla, hvlb, hvlc, hvld⟩ := id hvl
  have hvlm : (give16 x25).length ≤ 9223372036854775807 := by have h1 := hvla; have h2 := hvlb; unfold maxLen at h2; omega
  have hbm_ := List.mem_of_getElem? hx25; have hgl := give16_length (hok.ok _ hbm_); have hpb := hok.pb _ hbm_; have hb0 := (hok.ok _ hbm_).p0; have hsb := give16_small hok hbm_
  refine WL.assign rfl rfl rfl (WL.nil (N.seq (W.seq (W.seq (W.region (WL.assign rfl rfl rfl (WL.nil (N.seq (W.block ?_)))))))))
  replace hS : St w w33 w33 (roFrom R2 w31 w33) [(b26, .cells #[.int .i64 x25.params, .slice adi25 x25.ins.length capi25, .int .i64 x25.fin.kind, .int .i64 x25.fin.a, .int .i64 x25.fin.to, .slice adp25 x25.fin.args.length capp25, .int .i64 x25.fin.els, .slice adq25 x25.fin.elses.length capq25] 59 (0, 0)), (b9, .cells #[.slice advo ((pAt f k).ops.length) capvo, .slice advr ((pAt f k).rels.length) capvr, .slice advf ((pAt f k).frm.length) capvf, .slice advb ((pAt f k).blk.length) capvb] 99 (0, 0)), (b3, .cells #[.string ⟨#[]⟩, .slice none 0 0, .slice none 0 0] 30 (0, 0)), (b1, .cells #[.string f.name, .int .i64 f.bind, .int .i64 f.params, .slice adbF f.blocks.length capbF] 24 (0, 0))] [⟨.slice advo ((pAt f k).ops.length) capvo, 36, 5, (pI f x25 k 0).ops.length, (oCells (pI f x25 k 0).ops)⟩, ⟨.slice advr ((pAt f k).rels.length) capvr, 34, 3, (pI f x25 k 0).rels.length, (rCells (pI f x25 k 0).rels)⟩, ⟨.slice advf ((pAt f k).frm.length) capvf, 3, 1, (pI f x25 k 0).frm.length, (iCells (pI f x25 k 0).frm)⟩, ⟨.slice advb ((pAt f k).blk.length) capvb, 3, 1, (pI f x25 k 0).blk.length, (iCells (pI f x25 k 0).blk)⟩, ⟨.slice av32 ((gAt f k).starts.length + 1) cv32, 3, 1, (gAt f (k + 1)).starts.length, (iCells (gAt f (k + 1)).starts)⟩] := hS
  refine W.loop (α := Nat × Value × Value × Value × Value) (fun ⟨i, uo, ur, uf, ub⟩ => [(1, .pointer (some ⟨b1, 0, none⟩)), (2, .pointer (some ⟨b3, 0, none⟩)), (3, .int .i64 (frame17 f)), (4, .int .i64 (many16 f)), (5, .pointer (some ⟨b9, 0, none⟩)), (7, .slice av32 ((gAt f k).starts.length + 1) cv32), (8, .int .i64 (k : Int)), (9, .pointer (some ⟨b26, 0, none⟩)), (10, .slice adl ((give16 x25).length) capadl), (11, .int .i64 (i : Int))]) (fun ⟨i, uo, ur, uf, ub⟩ u => St w w33 u (roFrom R2 w31 w33) [(b26, .cells #[.int .i64 x25.params, .slice adi25 x25.ins.length capi25, .int .i64 x25.fin.kind, .int .i64 x25.fin.a, .int .i64 x25.fin.to, .slice adp25 x25.fin.args.length capp25, .int .i64 x25.fin.els, .slice adq25 x25.fin.elses.length capq25] 59 (0, 0)), (b9, .cells #[uo, ur, uf, ub] 99 (0, 0)), (b3, .cells #[.string ⟨#[]⟩, .slice none 0 0, .slice none 0 0] 30 (0, 0)), (b1, .cells #[.string f.name, .int .i64 f.bind, .int .i64 f.params, .slice adbF f.blocks.length capbF] 24 (0, 0))] [⟨uo, 36, 5, (pI f x25 k i).ops.length, (oCells (pI f x25 k i).ops)⟩, ⟨ur, 34, 3, (pI f x25 k i).rels.length, (rCells (pI f x25 k i).rels)⟩, ⟨uf, 3, 1, (pI f x25 k i).frm.length, (iCells (pI f x25 k i).frm)⟩, ⟨ub, 3, 1, (pI f x25 k i).blk.length, (iCells (pI f x25 k i).blk)⟩, ⟨.slice av32 ((gAt f k).starts.length + 1) cv32, 3, 1, (gAt f (k + 1)).starts.length, (iCells (gAt f (k + 1)).starts)⟩] ∧ i ≤ x25.ins.length) (fun ⟨i, uo, ur, uf, ub⟩ => x25.ins.length - i) (0, .slice advo ((pAt f k).ops.length) capvo, .slice advr ((pAt f k).rels.length) capvr, .slice advf ((pAt f k).frm.length) capvf, .slice advb ((pAt f k).blk.length) capvb) ⟨rfl, rfl, rfl, rfl, rfl, rfl, rfl, rfl, rfl, rfl, trivial⟩ ⟨hS, Nat.zero_le _⟩ ?_
  clear hS
  rintro ⟨i, uo, ur, uf, ub⟩ w35 ⟨hS, hil⟩
  have hrow : w35.ownsRow w.heap.size 36 5 uo ((pI f x25 k i).ops.length) _ := hS.rows _ List.mem_cons_self
  obtain ⟨aduo, capuo, rfl, hr1uo, hr2uo, hr3uo⟩ := row_shape hrow
  clear hrow
  have hrow : w35.ownsRow w.heap.size 34 3 ur ((pI f x25 k i).rels.length) _ := hS.rows _ (List.mem_cons_of_mem _ List.mem_cons_self)
  obtain ⟨adur, capur, rfl, hr1ur, hr2ur, hr3ur⟩ := row_shape hrow
  clear hrow
  have hrow : w35.ownsRow w.heap.size 3 1 uf ((pI f x25 k i).frm.length) _ := hS.rows _ (List.mem_of_getElem? (i := 2) rfl)
  obtain ⟨aduf, capuf, rfl, hr1uf, hr2uf, hr3uf⟩ := row_shape hrow
  clear hrow
  have hrow : w35.ownsRow w.heap.size 3 1 ub ((pI f x25 k i).blk.length) _ := hS.rows _ (List.mem_of_getElem? (i := 3) rfl)
  obtain ⟨adub, capub, rfl, hr1ub, hr2ub, hr3ub⟩ := row_shape hrow
  clear hrow
  have hfI := fits_I hok hx25 i hil; have hpo := pI_pok hok hx25 i hil; have hfIo := hfI.o
  refine W.seq (W.seq (W.region (WL.move rfl rfl rfl (WL.fieldAddr fo_59_1 rfl rfl rfl (WL.load1 (v := .slice adi25 x25.ins.length capi25) one_54 rfl rfl rfl (hS.cell 0 rfl rfl) (WL.lenSlice Tryd.underlying54 rfl rfl rfl (WL.bin rfl rfl rfl rfl rfl (WL.nil (N.seq ?_)))))))))
  refine W.cond rfl (fun hc36 => ?_) (fun hc36 => ?_)
  ·
   have hc36p : (i : Int) < (x25.ins.length : Int) := by simpa using hc36
   refine W.skip (N.seq (W.seq (W.block ?_)))
   have hj37 : i < x25.ins.length := by omega
   obtain ⟨x37, hx37, b37, o37, cs37, hE37, hr37, _, hc37, hQ37⟩ := opn hin25d hj37
   have hQk37 := hQ37
   obtain ⟨sv37, rfl, hs37, ho37, ha37, hb37, hk37, hn37⟩ := hQ37
   obtain ⟨ad37, cap37, rfl, hs37a, hs37b, hs37c, hs37d⟩ := id hs37
   have hs37m : x37.args.length ≤ 9223372036854775807 := by have h1 := hs37a; have h2 := hs37b; unfold maxLen at h2; omega
   have hj38 : x25.params.toNat + i < (give16 x25).length := by omega
   obtain ⟨x38, hx38, b38, o38, cs38, hE38, hr38, _, hc38, hQ38⟩ := opn hvld hj38
   obtain ⟨rfl, hi38⟩ := hQ38
   have hslA : slotAt (give16 x25) (x25.params + (i : Int)) = x38 := slotAt_some (by rw [show (x25.params + (i : Int)).toNat = x25.params.toNat + i by omega]; exact hx38)
   have hxm := List.mem_of_getElem? hx37; have hks := hok.ks _ hbm_ _ hxm; have huse := (hok.ok _ hbm_).uses _ hxm; rw [← hgl] at huse
   have howz := own_in hok hbm_ (x25.params + (i : Int)); rw [hslA] at howz; have hpn := pI_next (f := f) (k := k) hx37; rw [hslA] at hpn; have hpN := inst_pok hok hbm_ hxm howz; have hfN := fits_inst (slots := give16 x25) (own := x38) hks.1 hks.2.2.2.1
   refine W.drawP (by kernel_rfl) 16 [(fun v _ => v = .agg #[.slice aduo ((pI f x25 k i).ops.length) capuo, .slice adur ((pI f x25 k i).rels.length) capur, .slice aduf ((pI f x25 k i).frm.length) capuf, .slice adub ((pI f x25 k i).blk.length) capub]), (fun v _ => v = .pointer (some ⟨b26, 1, none⟩)), (fun v _ => v = .slice adi25 x25.ins.length capi25), (fun v _ => v = .int .i64 (i : Int)), (fun v _ => v = .pointer (some ⟨b37, o37 + i * 6, none⟩)), (fun v _ => v = .agg #[.int .i64 x37.op, .int .i64 x37.a, .int .i64 x37.b, .int .u64 x37.k, .string x37.name, .slice ad37 x37.args.length cap37]), (fun v _ => v = .slice adl ((give16 x25).length) capadl), (fun v _ => v = .slice adl ((give16 x25).length) capadl), (fun v _ => v = .pointer (some ⟨b26, 0, none⟩)), (fun v _ => v = .int .i64 x25.params), (fun v _ => v = .int .i64 (i : Int)), (fun v _ => v = .int .i64 ((x25.params.toNat + i : Nat) : Int)), (fun v _ => v = .pointer (some ⟨b38, o38 + (x25.params.toNat + i) * 1, none⟩)), (fun v _ => v = .int .i64 x38), (fun v u => ∃ cs, v = .agg cs.toArray ∧ PieceC (fun b => w35.heap.size ≤ b ∧ b < u.heap.size) u cs (inst17 (give16 x25) x38 x37)), (fun v u => ∃ adO caO adR caR adF caF adB caB, v = .agg #[.slice adO ((pI f x25 k (i + 1)).ops.length) caO, .slice adR ((pI f x25 k (i + 1)).rels.length) caR, .slice adF ((pI f x25 k (i + 1)).frm.length) caF, .slice adB ((pI f x25 k (i + 1)).blk.length) caB] ∧ Made w35 u [⟨.slice adO (pI f x25 k (i + 1)).ops.length caO, 36, 5, (pI f x25 k (i + 1)).ops.length, oCells (pI f x25 k (i + 1)).ops⟩, ⟨.slice adR (pI f x25 k (i + 1)).rels.length caR, 34, 3, (pI f x25 k (i + 1)).rels.length, rCells (pI f x25 k (i + 1)).rels⟩, ⟨.slice adF (pI f x25 k (i + 1)).frm.length caF, 3, 1, (pI f x25 k (i + 1)).frm.length, iCells (pI f x25 k (i + 1)).frm⟩, ⟨.slice adB (pI f x25 k (i + 1)).blk.length caB, 3, 1, (pI f x25 k (i + 1)).blk.length, iCells (pI f x25 k (i + 1)).blk⟩])] (by kernel_rfl) rfl (by kernel_rfl) [(1, .pointer (some ⟨b1, 0, none⟩)), (2, .pointer (some ⟨b3, 0, none⟩)), (3, .int .i64 (frame17 f)), (4, .int .i64 (many16 f)), (5, .pointer (some ⟨b9, 0, none⟩)), (7, .slice av32 ((gAt f k).starts.length + 1) cv32), (8, .int .i64 (k : Int)), (9, .pointer (some ⟨b26, 0, none⟩)), (10, .slice adl ((give16 x25).length) capadl), (11, .int .i64 (i : Int))] ⟨rfl, rfl, rfl, rfl, rfl, rfl, rfl, rfl, rfl, rfl, trivial⟩ rfl ⟨stays_eq, stays_eq, stays_eq, stays_eq, stays_eq, stays_eq, stays_eq, stays_eq, stays_eq, stays_eq, stays_eq, stays_eq, stays_eq, stays_eq, stays_piece, (fun v u u2 h hb => by obtain ⟨q0, q1, q2, q3, q4, q5, q6, q7, e, hM⟩ := h; exact ⟨_, _, _, _, _, _, _, _, e, hM.grow hb⟩), trivial⟩ ?_ ?_
   ·
    refine And.intro (fun β wd hb hD => ?_) ?_
    ·
     have hS := hS.grow hb
     refine WL.loadN (cs := [.slice aduo ((pI f x25 k i).ops.length) capuo, .slice adur ((pI f x25 k i).rels.length) capur, .slice aduf ((pI f x25 k i).frm.length) capuf, .slice adub ((pI f x25 k i).blk.length) capub]) agg_99 rfl rfl rfl rfl (hS.cells 1 (m := 4) rfl rfl) ?_
     exact WL.nil (N.cut _ ⟨rfl, trivial⟩ ⟨(Below.refl _ _), rfl⟩)
    refine And.intro (fun β wd hb hD => ?_) ?_
    ·
     have hS := hS.grow hb
     refine WL.fieldAddr fo_59_1 rfl rfl rfl ?_
     exact WL.nil (N.cut _ ⟨rfl, trivial⟩ ⟨(Below.refl _ _), rfl⟩)
    refine And.intro (fun β wd hb hD => ?_) ?_
    ·
     obtain ⟨hp1, _⟩ := hD
     replace hp1 : β 1 = .pointer (some ⟨b26, 1, none⟩) := hp1
     refine WL.sub (σ' := [(66, .pointer (some ⟨b26, 1, none⟩))]) ⟨congrArg some hp1, trivial⟩ ?_
     have hS := hS.grow hb
     refine WL.load1 (v := .slice adi25 x25.ins.length capi25) one_54 rfl rfl rfl (hS.cell 0 rfl rfl) ?_
     exact WL.nil (N.cut _ ⟨rfl, trivial⟩ ⟨(Below.refl _ _), rfl⟩)
    refine And.intro (fun β wd hb hD => ?_) ?_
    ·
     have hS := hS.grow hb
     refine WL.move rfl rfl rfl ?_
     exact WL.nil (N.cut _ ⟨rfl, trivial⟩ ⟨(Below.refl _ _), rfl⟩)
    refine And.intro (fun β wd hb hD => ?_) ?_
    ·
     obtain ⟨hp2, hp3, _⟩ := hD
     replace hp2 : β 2 = .slice adi25 x25.ins.length capi25 := hp2
     replace hp3 : β 3 = .int .i64 (i : Int) := hp3
     refine WL.sub (σ' := [(67, .slice adi25 x25.ins.length capi25), (68, .int .i64 (i : Int))]) ⟨congrArg some hp2, congrArg some hp3, trivial⟩ ?_
     have hS := hS.grow hb
     refine WL.indexAddrE (j := i) Tryd.underlying54 isz_69 rfl rfl rfl rfl hj37 hE37 ?_
     exact WL.nil (N.cut _ ⟨rfl, trivial⟩ ⟨(Below.refl _ _), rfl⟩)
    refine And.intro (fun β wd hb hD => ?_) ?_
    ·
     obtain ⟨hp4, _⟩ := hD
     replace hp4 : β 4 = .pointer (some ⟨b37, o37 + i * 6, none⟩) := hp4
     refine WL.sub (σ' := [(69, .pointer (some ⟨b37, o37 + i * 6, none⟩))]) ⟨congrArg some hp4, trivial⟩ ?_
     have hS := hS.grow hb
     refine WL.loadN (cs := [.int .i64 x37.op, .int .i64 x37.a, .int .i64 x37.b, .int .u64 x37.k, .string x37.name, .slice ad37 x37.args.length cap37]) agg_69 rfl rfl rfl rfl (hS.roCells hr37 hc37) ?_
     exact WL.nil (N.cut _ ⟨rfl, trivial⟩ ⟨(Below.refl _ _), rfl⟩)
    refine And.intro (fun β wd hb hD => ?_) ?_
    ·
     have hS := hS.grow hb
     refine WL.move rfl rfl rfl ?_
     exact WL.nil (N.cut _ ⟨rfl, trivial⟩ ⟨(Below.refl _ _), rfl⟩)
    refine And.intro (fun β wd hb hD => ?_) ?_
    ·
     have hS := hS.grow hb
     refine WL.move rfl rfl rfl ?_
     exact WL.nil (N.cut _ ⟨rfl, trivial⟩ ⟨(Below.refl _ _), rfl⟩)
    refine And.intro (fun β wd hb hD => ?_) ?_
    ·
     have hS := hS.grow hb
     refine WL.fieldAddr fo_59_0 rfl rfl rfl ?_
     exact WL.nil (N.cut _ ⟨rfl, trivial⟩ ⟨(Below.refl _ _), rfl⟩)
    refine And.intro (fun β wd hb hD => ?_) ?_
    ·
     obtain ⟨hp8, _⟩ := hD
     replace hp8 : β 8 = .pointer (some ⟨b26, 0, none⟩) := hp8
     refine WL.sub (σ' := [(73, .pointer (some ⟨b26, 0, none⟩))]) ⟨congrArg some hp8, trivial⟩ ?_
     have hS := hS.grow hb
     refine WL.load1 (v := .int .i64 x25.params) one_3 rfl rfl rfl (hS.cell 0 rfl rfl) ?_
     exact WL.nil (N.cut _ ⟨rfl, trivial⟩ ⟨(Below.refl _ _), rfl⟩)
    refine And.intro (fun β wd hb hD => ?_) ?_
    ·
     have hS := hS.grow hb
     refine WL.move rfl rfl rfl ?_
     exact WL.nil (N.cut _ ⟨rfl, trivial⟩ ⟨(Below.refl _ _), rfl⟩)
    refine And.intro (fun β wd hb hD => ?_) ?_
    ·
     obtain ⟨hp9, hp10, _⟩ := hD
     replace hp9 : β 9 = .int .i64 x25.params := hp9
     replace hp10 : β 10 = .int .i64 (i : Int) := hp10
     refine WL.sub (σ' := [(74, .int .i64 x25.params), (75, .int .i64 (i : Int))]) ⟨congrArg some hp9, congrArg some hp10, trivial⟩ ?_
     have hS := hS.grow hb
     refine WL.add (c := ((x25.params.toNat + i : Nat) : Int)) rfl rfl rfl rfl (by omega) (by omega) ?_
     exact WL.nil (N.cut _ ⟨rfl, trivial⟩ ⟨(Below.refl _ _), rfl⟩)
    refine And.intro (fun β wd hb hD => ?_) ?_
    ·
     obtain ⟨hp7, hp11, _⟩ := hD
     replace hp7 : β 7 = .slice adl ((give16 x25).length) capadl := hp7
     replace hp11 : β 11 = .int .i64 ((x25.params.toNat + i : Nat) : Int) := hp11
     refine WL.sub (σ' := [(72, .slice adl ((give16 x25).length) capadl), (76, .int .i64 ((x25.params.toNat + i : Nat) : Int))]) ⟨congrArg some hp7, congrArg some hp11, trivial⟩ ?_
     have hS := hS.grow hb
     refine WL.indexAddrE (j := x25.params.toNat + i) Tryd.underlying55 isz_3 rfl rfl rfl rfl hj38 hE38 ?_
     exact WL.nil (N.cut _ ⟨rfl, trivial⟩ ⟨(Below.refl _ _), rfl⟩)
    refine And.intro (fun β wd hb hD => ?_) ?_
    ·
     obtain ⟨hp12, _⟩ := hD
     replace hp12 : β 12 = .pointer (some ⟨b38, o38 + (x25.params.toNat + i) * 1, none⟩) := hp12
     refine WL.sub (σ' := [(77, .pointer (some ⟨b38, o38 + (x25.params.toNat + i) * 1, none⟩))]) ⟨congrArg some hp12, trivial⟩ ?_
     have hS := hS.grow hb
     refine WL.load1 (v := .int .i64 x38) one_3 rfl rfl rfl (hS.roCells hr38 hc38 0 _ rfl) ?_
     exact WL.nil (N.cut _ ⟨rfl, trivial⟩ ⟨(Below.refl _ _), rfl⟩)
    refine And.intro (fun β wd hb hD => ?_) ?_
    ·
     obtain ⟨hp5, hp6, hp13, _⟩ := hD
     replace hp5 : β 5 = .agg #[.int .i64 x37.op, .int .i64 x37.a, .int .i64 x37.b, .int .u64 x37.k, .string x37.name, .slice ad37 x37.args.length cap37] := hp5
     replace hp6 : β 6 = .slice adl ((give16 x25).length) capadl := hp6
     replace hp13 : β 13 = .int .i64 x38 := hp13
     refine WL.sub (σ' := [(70, .agg #[.int .i64 x37.op, .int .i64 x37.a, .int .i64 x37.b, .int .u64 x37.k, .string x37.name, .slice ad37 x37.args.length cap37]), (71, .slice adl ((give16 x25).length) capadl), (78, .int .i64 x38)]) ⟨congrArg some hp5, congrArg some hp6, congrArg some hp13, trivial⟩ ?_
     have hS := hS.grow hb
     refine WL.callF (vs := [.agg #[.int .i64 x37.op, .int .i64 x37.a, .int .i64 x37.b, .int .u64 x37.k, .string x37.name, .slice ad37 x37.args.length cap37], .slice adl ((give16 x25).length) capadl, .int .i64 x38]) Tryd.func57 (by kernel_rfl) rfl rfl rfl (rinst_ret (give16 x25) x37 x38 _ _ (ro := (roFrom R2 w31 w33)) (fun b hb => (hS.snap b hb).1) (hQk37.keep hS.alike) (hvl.keep hS.alike fun _ _ q => q) huse ⟨hks.2.1, hks.2.2.1⟩ hks.2.2.2.1 (fun z hz => by have := hsb z hz; omega) howz hpN) ?_
     rintro v w39 ⟨csq, rfl, hZ, hbl⟩
     replace hS := hS.grow hbl
     exact WL.nil (N.cut _ ⟨rfl, trivial⟩ ⟨hbl, ⟨csq, rfl, hZ.keep (fun b hb2 => ⟨⟨Nat.le_trans hb.size hb2.1, hb2.2⟩, rfl⟩)⟩⟩)
    refine And.intro (fun β wd hb hD => ?_) ?_
    ·
     obtain ⟨hp0, hp14, _, _⟩ := hD
     replace hp0 : β 0 = .agg #[.slice aduo ((pI f x25 k i).ops.length) capuo, .slice adur ((pI f x25 k i).rels.length) capur, .slice aduf ((pI f x25 k i).frm.length) capuf, .slice adub ((pI f x25 k i).blk.length) capub] := hp0
     replace hp14 : (fun v u => ∃ cs, v = .agg cs.toArray ∧ PieceC (fun b => w35.heap.size ≤ b ∧ b < u.heap.size) u cs (inst17 (give16 x25) x38 x37)) (β 14) wd := hp14
     refine WL.sub (σ' := [(65, .agg #[.slice aduo ((pI f x25 k i).ops.length) capuo, .slice adur ((pI f x25 k i).rels.length) capur, .slice aduf ((pI f x25 k i).frm.length) capuf, .slice adub ((pI f x25 k i).blk.length) capub]), (79, (β 14))]) ⟨congrArg some hp0, rfl, trivial⟩ ?_
     have hS := hS.grow hb
     generalize β 14 = z14 at hp14 ⊢
     obtain ⟨cs1, rfl, hY1⟩ := hp14
     have haP : PieceC (fun b => b < wd.heap.size) wd [.slice aduo ((pI f x25 k i).ops.length) capuo, .slice adur ((pI f x25 k i).rels.length) capur, .slice aduf ((pI f x25 k i).frm.length) capuf, .slice adub ((pI f x25 k i).blk.length) capub] (pI f x25 k i) := ⟨_, _, _, _, rfl, row_slv (hS.rows _ (List.mem_of_getElem? (i := 0) rfl)) hpo.oC rfl (fun y hy => (hS.keys y (by simp only [keysOf, List.mem_append, List.mem_filterMap]; exact .inr ⟨_, List.mem_of_getElem? (i := 0) rfl, hy⟩)).2.1), row_slv (hS.rows _ (List.mem_of_getElem? (i := 1) rfl)) (hpo.rC (by omega)) rfl (fun y hy => (hS.keys y (by simp only [keysOf, List.mem_append, List.mem_filterMap]; exact .inr ⟨_, List.mem_of_getElem? (i := 1) rfl, hy⟩)).2.1), row_slv (hS.rows _ (List.mem_of_getElem? (i := 2) rfl)) (hpo.fC (by omega)) rfl (fun y hy => (hS.keys y (by simp only [keysOf, List.mem_append, List.mem_filterMap]; exact .inr ⟨_, List.mem_of_getElem? (i := 2) rfl, hy⟩)).2.1), row_slv (hS.rows _ (List.mem_of_getElem? (i := 3) rfl)) hpo.bC rfl (fun y hy => (hS.keys y (by simp only [keysOf, List.mem_append, List.mem_filterMap]; exact .inr ⟨_, List.mem_of_getElem? (i := 3) rfl, hy⟩)).2.1)⟩
     refine WL.callF (vs := [.agg #[.slice aduo ((pI f x25 k i).ops.length) capuo, .slice adur ((pI f x25 k i).rels.length) capur, .slice aduf ((pI f x25 k i).frm.length) capuf, .slice adub ((pI f x25 k i).blk.length) capub], .agg cs1.toArray]) Tryd.func56 (by kernel_rfl) rfl rfl rfl ((by have h := rjoin_ret (pI f x25 k i) (inst17 (give16 x25) x38 x37) _ _ (ro := fun b => b < wd.heap.size) (fun _ h => h) haP (hY1.keep fun b hb2 => ⟨hb2.2, rfl⟩) hfI hfN hpN; rw [← hpn] at h; exact h)) ?_
     rintro v w40 ⟨adO, caO, adR, caR, adF, caF, adB, caB, rfl, hM⟩
     have hbl := hM.below
     replace hS := hS.grow hbl
     exact WL.nil (N.cut _ ⟨rfl, trivial⟩ ⟨hM.below, ⟨_, _, _, _, _, _, _, _, rfl, hM.up hb⟩⟩)
    trivial
   intro β w41 hb hD
   obtain ⟨hp0, hp1, hp2, hp3, hp4, hp5, hp6, hp7, hp8, hp9, hp10, hp11, hp12, hp13, hp14, hp15, _⟩ := hD
   refine WL.sub (σ' := [(1, .pointer (some ⟨b1, 0, none⟩)), (2, .pointer (some ⟨b3, 0, none⟩)), (3, .int .i64 (frame17 f)), (4, .int .i64 (many16 f)), (5, .pointer (some ⟨b9, 0, none⟩)), (7, .slice av32 ((gAt f k).starts.length + 1) cv32), (8, .int .i64 (k : Int)), (9, .pointer (some ⟨b26, 0, none⟩)), (10, .slice adl ((give16 x25).length) capadl), (11, .int .i64 (i : Int)), (65, .agg #[.slice aduo ((pI f x25 k i).ops.length) capuo, .slice adur ((pI f x25 k i).rels.length) capur, .slice aduf ((pI f x25 k i).frm.length) capuf, .slice adub ((pI f x25 k i).blk.length) capub]), (66, .pointer (some ⟨b26, 1, none⟩)), (67, .slice adi25 x25.ins.length capi25), (68, .int .i64 (i : Int)), (69, .pointer (some ⟨b37, o37 + i * 6, none⟩)), (70, .agg #[.int .i64 x37.op, .int .i64 x37.a, .int .i64 x37.b, .int .u64 x37.k, .string x37.name, .slice ad37 x37.args.length cap37]), (71, .slice adl ((give16 x25).length) capadl), (72, .slice adl ((give16 x25).length) capadl), (73, .pointer (some ⟨b26, 0, none⟩)), (74, .int .i64 x25.params), (75, .int .i64 (i : Int)), (76, .int .i64 ((x25.params.toNat + i : Nat) : Int)), (77, .pointer (some ⟨b38, o38 + (x25.params.toNat + i) * 1, none⟩)), (78, .int .i64 x38), (79, (β 14)), (80, (β 15))]) ⟨rfl, rfl, rfl, rfl, rfl, rfl, rfl, rfl, rfl, rfl, congrArg some (show β 0 = .agg #[.slice aduo ((pI f x25 k i).ops.length) capuo, .slice adur ((pI f x25 k i).rels.length) capur, .slice aduf ((pI f x25 k i).frm.length) capuf, .slice adub ((pI f x25 k i).blk.length) capub] from hp0), congrArg some (show β 1 = .pointer (some ⟨b26, 1, none⟩) from hp1), congrArg some (show β 2 = .slice adi25 x25.ins.length capi25 from hp2), congrArg some (show β 3 = .int .i64 (i : Int) from hp3), congrArg some (show β 4 = .pointer (some ⟨b37, o37 + i * 6, none⟩) from hp4), congrArg some (show β 5 = .agg #[.int .i64 x37.op, .int .i64 x37.a, .int .i64 x37.b, .int .u64 x37.k, .string x37.name, .slice ad37 x37.args.length cap37] from hp5), congrArg some (show β 6 = .slice adl ((give16 x25).length) capadl from hp6), congrArg some (show β 7 = .slice adl ((give16 x25).length) capadl from hp7), congrArg some (show β 8 = .pointer (some ⟨b26, 0, none⟩) from hp8), congrArg some (show β 9 = .int .i64 x25.params from hp9), congrArg some (show β 10 = .int .i64 (i : Int) from hp10), congrArg some (show β 11 = .int .i64 ((x25.params.toNat + i : Nat) : Int) from hp11), congrArg some (show β 12 = .pointer (some ⟨b38, o38 + (x25.params.toNat + i) * 1, none⟩) from hp12), congrArg some (show β 13 = .int .i64 x38 from hp13), rfl, rfl, trivial⟩ ?_
   have hSd := hS
   replace hS := hS.grow hb
   replace hp14 : (fun v u => ∃ cs, v = .agg cs.toArray ∧ PieceC (fun b => w35.heap.size ≤ b ∧ b < u.heap.size) u cs (inst17 (give16 x25) x38 x37)) (β 14) w41 := hp14
   generalize β 14 = z14 at hp14 ⊢
   replace hp15 : (fun v u => ∃ adO caO adR caR adF caF adB caB, v = .agg #[.slice adO ((pI f x25 k (i + 1)).ops.length) caO, .slice adR ((pI f x25 k (i + 1)).rels.length) caR, .slice adF ((pI f x25 k (i + 1)).frm.length) caF, .slice adB ((pI f x25 k (i + 1)).blk.length) caB] ∧ Made w35 u [⟨.slice adO (pI f x25 k (i + 1)).ops.length caO, 36, 5, (pI f x25 k (i + 1)).ops.length, oCells (pI f x25 k (i + 1)).ops⟩, ⟨.slice adR (pI f x25 k (i + 1)).rels.length caR, 34, 3, (pI f x25 k (i + 1)).rels.length, rCells (pI f x25 k (i + 1)).rels⟩, ⟨.slice adF (pI f x25 k (i + 1)).frm.length caF, 3, 1, (pI f x25 k (i + 1)).frm.length, iCells (pI f x25 k (i + 1)).frm⟩, ⟨.slice adB (pI f x25 k (i + 1)).blk.length caB, 3, 1, (pI f x25 k (i + 1)).blk.length, iCells (pI f x25 k (i + 1)).blk⟩]) (β 15) w41 := hp15
   generalize β 15 = z15 at hp15 ⊢
   obtain ⟨adO_42, caO_42, adR_42, caR_42, adF_42, caF_42, adB_42, caB_42, rfl, hM⟩ := hp15
   replace hS := hSd.callRows hM
   replace hS : St w w33 w41 (roFrom R2 w31 w33) [(b26, .cells #[.int .i64 x25.params, .slice adi25 x25.ins.length capi25, .int .i64 x25.fin.kind, .int .i64 x25.fin.a, .int .i64 x25.fin.to, .slice adp25 x25.fin.args.length capp25, .int .i64 x25.fin.els, .slice adq25 x25.fin.elses.length capq25] 59 (0, 0)), (b9, .cells #[.slice aduo ((pI f x25 k i).ops.length) capuo, .slice adur ((pI f x25 k i).rels.length) capur, .slice aduf ((pI f x25 k i).frm.length) capuf, .slice adub ((pI f x25 k i).blk.length) capub] 99 (0, 0)), (b3, .cells #[.string ⟨#[]⟩, .slice none 0 0, .slice none 0 0] 30 (0, 0)), (b1, .cells #[.string f.name, .int .i64 f.bind, .int .i64 f.params, .slice adbF f.blocks.length capbF] 24 (0, 0))] [⟨.slice adO_42 ((pI f x25 k (i + 1)).ops.length) caO_42, 36, 5, (pI f x25 k (i + 1)).ops.length, (oCells (pI f x25 k (i + 1)).ops)⟩, ⟨.slice adR_42 ((pI f x25 k (i + 1)).rels.length) caR_42, 34, 3, (pI f x25 k (i + 1)).rels.length, (rCells (pI f x25 k (i + 1)).rels)⟩, ⟨.slice adF_42 ((pI f x25 k (i + 1)).frm.length) caF_42, 3, 1, (pI f x25 k (i + 1)).frm.length, (iCells (pI f x25 k (i + 1)).frm)⟩, ⟨.slice adB_42 ((pI f x25 k (i + 1)).blk.length) caB_42, 3, 1, (pI f x25 k (i + 1)).blk.length, (iCells (pI f x25 k (i + 1)).blk)⟩, ⟨.slice aduo ((pI f x25 k i).ops.length) capuo, 36, 5, (pI f x25 k i).ops.length, (oCells (pI f x25 k i).ops)⟩, ⟨.slice adur ((pI f x25 k i).rels.length) capur, 34, 3, (pI f x25 k i).rels.length, (rCells (pI f x25 k i).rels)⟩, ⟨.slice aduf ((pI f x25 k i).frm.length) capuf, 3, 1, (pI f x25 k i).frm.length, (iCells (pI f x25 k i).frm)⟩, ⟨.slice adub ((pI f x25 k i).blk.length) capub, 3, 1, (pI f x25 k i).blk.length, (iCells (pI f x25 k i).blk)⟩, ⟨.slice av32 ((gAt f k).starts.length + 1) cv32, 3, 1, (gAt f (k + 1)).starts.length, (iCells (gAt f (k + 1)).starts)⟩] := hS
   replace hS := hS.permR (((((((((((((((((List.Perm.cons _ (List.Perm.cons _ (List.Perm.cons _ (List.Perm.swap _ _ _))))).trans ((List.Perm.cons _ (List.Perm.cons _ (List.Perm.swap _ _ _))))).trans ((List.Perm.cons _ (List.Perm.swap _ _ _)))).trans ((List.Perm.swap _ _ _))).trans ((List.Perm.cons _ (List.Perm.cons _ (List.Perm.cons _ (List.Perm.cons _ (List.Perm.swap _ _ _))))))).trans ((List.Perm.cons _ (List.Perm.cons _ (List.Perm.cons _ (List.Perm.swap _ _ _)))))).trans ((List.Perm.cons _ (List.Perm.cons _ (List.Perm.swap _ _ _))))).trans ((List.Perm.cons _ (List.Perm.swap _ _ _)))).trans ((List.Perm.cons _ (List.Perm.cons _ (List.Perm.cons _ (List.Perm.cons _ (List.Perm.cons _ (List.Perm.swap _ _ _)))))))).trans ((List.Perm.cons _ (List.Perm.cons _ (List.Perm.cons _ (List.Perm.cons _ (List.Perm.swap _ _ _))))))).trans ((List.Perm.cons _ (List.Perm.cons _ (List.Perm.cons _ (List.Perm.swap _ _ _)))))).trans ((List.Perm.cons _ (List.Perm.cons _ (List.Perm.swap _ _ _))))).trans ((List.Perm.cons _ (List.Perm.cons _ (List.Perm.cons _ (List.Perm.cons _ (List.Perm.cons _ (List.Perm.cons _ (List.Perm.swap _ _ _))))))))).trans ((List.Perm.cons _ (List.Perm.cons _ (List.Perm.cons _ (List.Perm.cons _ (List.Perm.cons _ (List.Perm.swap _ _ _)))))))).trans ((List.Perm.cons _ (List.Perm.cons _ (List.Perm.cons _ (List.Perm.cons _ (List.Perm.swap _ _ _))))))).trans ((List.Perm.cons _ (List.Perm.cons _ (List.Perm.cons _ (List.Perm.swap _ _ _))))))
   replace hS := hS.dropR 4
   replace hS : St w w33 w41 (roFrom R2 w31 w33) [(b26, .cells #[.int .i64 x25.params, .slice adi25 x25.ins.length capi25, .int .i64 x25.fin.kind, .int .i64 x25.fin.a, .int .i64 x25.fin.to, .slice adp25 x25.fin.args.length capp25, .int .i64 x25.fin.els, .slice adq25 x25.fin.elses.length capq25] 59 (0, 0)), (b9, .cells #[.slice aduo ((pI f x25 k i).ops.length) capuo, .slice adur ((pI f x25 k i).rels.length) capur, .slice aduf ((pI f x25 k i).frm.length) capuf, .slice adub ((pI f x25 k i).blk.length) capub] 99 (0, 0)), (b3, .cells #[.string ⟨#[]⟩, .slice none 0 0, .slice none 0 0] 30 (0, 0)), (b1, .cells #[.string f.name, .int .i64 f.bind, .int .i64 f.params, .slice adbF f.blocks.length capbF] 24 (0, 0))] [⟨.slice adO_42 ((pI f x25 k (i + 1)).ops.length) caO_42, 36, 5, (pI f x25 k (i + 1)).ops.length, (oCells (pI f x25 k (i + 1)).ops)⟩, ⟨.slice adR_42 ((pI f x25 k (i + 1)).rels.length) caR_42, 34, 3, (pI f x25 k (i + 1)).rels.length, (rCells (pI f x25 k (i + 1)).rels)⟩, ⟨.slice adF_42 ((pI f x25 k (i + 1)).frm.length) caF_42, 3, 1, (pI f x25 k (i + 1)).frm.length, (iCells (pI f x25 k (i + 1)).frm)⟩, ⟨.slice adB_42 ((pI f x25 k (i + 1)).blk.length) caB_42, 3, 1, (pI f x25 k (i + 1)).blk.length, (iCells (pI f x25 k (i + 1)).blk)⟩, ⟨.slice av32 ((gAt f k).starts.length + 1) cv32, 3, 1, (gAt f (k + 1)).starts.length, (iCells (gAt f (k + 1)).starts)⟩] := hS
   refine WL.store1 #[.slice adO_42 ((pI f x25 k (i + 1)).ops.length) caO_42, .slice adR_42 ((pI f x25 k (i + 1)).rels.length) caR_42, .slice adF_42 ((pI f x25 k (i + 1)).frm.length) caF_42, .slice adB_42 ((pI f x25 k (i + 1)).blk.length) caB_42] rfl rfl rfl rfl siz_99 rfl rfl rfl hS ?_
   clear hS; intro w43 hS
   refine WL.nil (N.blk (N.seq (W.region (WL.move rfl rfl rfl ?_))))
   refine WL.add (c := (i : Int) + 1) rfl rfl rfl rfl (rfl) (by omega) ?_
   refine WL.assign rfl rfl rfl (WL.nil ?_)
   exact N.loop (i + 1, .slice adO_42 ((pI f x25 k (i + 1)).ops.length) caO_42, .slice adR_42 ((pI f x25 k (i + 1)).rels.length) caR_42, .slice adF_42 ((pI f x25 k (i + 1)).frm.length) caF_42, .slice adB_42 ((pI f x25 k (i + 1)).blk.length) caB_42) ⟨rfl, rfl, rfl, rfl, rfl, rfl, rfl, rfl, rfl, rfl, trivial⟩ ⟨hS, by omega⟩ (by first | omega | (simp only; omega))
  have hc36p : ¬ ((i : Int) < (x25.ins.length : Int)) := by simpa using hc36
  refine W.exit (X.seq (X.loop (X.blk (N.seq ?_))))
  have hie : i = x25.ins.length := by omega
  subst hie
  replace hS : St w w33 w35 (roFrom R2 w31 w33) [(b26, .cells #[.int .i64 x25.params, .slice adi25 x25.ins.length capi25, .int .i64 x25.fin.kind, .int .i64 x25.fin.a, .int .i64 x25.fin.to, .slice adp25 x25.fin.args.length capp25, .int .i64 x25.fin.els, .slice adq25 x25.fin.elses.length capq25] 59 (0, 0)), (b9, .cells #[.slice aduo ((pI f x25 k x25.ins.length).ops.length) capuo, .slice adur ((pI f x25 k x25.ins.length).rels.length) capur, .slice aduf ((pI f x25 k x25.ins.length).frm.length) capuf, .slice adub ((pI f x25 k x25.ins.length).blk.length) capub] 99 (0, 0)), (b3, .cells #[.string ⟨#[]⟩, .slice none 0 0, .slice none 0 0] 30 (0, 0)), (b1, .cells #[.string f.name, .int .i64 f.bind, .int .i64 f.params, .slice adbF f.blocks.length capbF] 24 (0, 0))] [⟨.slice aduo ((pI f x25 k x25.ins.length).ops.length) capuo, 36, 5, (pI f x25 k x25.ins.length).ops.length, (oCells (pI f x25 k x25.ins.length).ops)⟩, ⟨.slice adur ((pI f x25 k x25.ins.length).rels.length) capur, 34, 3, (pI f x25 k x25.ins.length).rels.length, (rCells (pI f x25 k x25.ins.length).rels)⟩, ⟨.slice aduf ((pI f x25 k x25.ins.length).frm.length) capuf, 3, 1, (pI f x25 k x25.ins.length).frm.length, (iCells (pI f x25 k x25.ins.length).frm)⟩, ⟨.slice adub ((pI f x25 k x25.ins.length).blk.length) capub, 3, 1, (pI f x25 k x25.ins.length).blk.length, (iCells (pI f x25 k x25.ins.length).blk)⟩, ⟨.slice av32 ((gAt f k).starts.length + 1) cv32, 3, 1, (gAt f (k + 1)).starts.length, (iCells (gAt f (k + 1)).starts)⟩] := hS
  have htm := hok.tm _ hbm_; have h16 := hok.ok _ hbm_; have hta := h16.ta; have hte := h16.te; have htv := h16.tv; rw [← hgl] at hta hte htv
  have hpn := pI_last hx25; have hpN := tail_pok hok hbm_; have hfN := fits_tail (slots := give16 x25) (mn := many16 f) (fr := frame17 f) htm.2.1 htm.2.2
  refine W.drawP (by kernel_rfl) 8 [(fun v _ => v = .agg #[.slice aduo ((pI f x25 k x25.ins.length).ops.length) capuo, .slice adur ((pI f x25 k x25.ins.length).rels.length) capur, .slice aduf ((pI f x25 k x25.ins.length).frm.length) capuf, .slice adub ((pI f x25 k x25.ins.length).blk.length) capub]), (fun v _ => v = .pointer (some ⟨b26, 2, none⟩)), (fun v _ => v = .agg #[.int .i64 x25.fin.kind, .int .i64 x25.fin.a, .int .i64 x25.fin.to, .slice adp25 x25.fin.args.length capp25, .int .i64 x25.fin.els, .slice adq25 x25.fin.elses.length capq25]), (fun v _ => v = .slice adl ((give16 x25).length) capadl), (fun v _ => v = .int .i64 (many16 f)), (fun v _ => v = .int .i64 (frame17 f)), (fun v u => ∃ cs, v = .agg cs.toArray ∧ PieceC (fun b => w35.heap.size ≤ b ∧ b < u.heap.size) u cs (tail17 (give16 x25) (many16 f) (frame17 f) x25.fin)), (fun v u => ∃ adO caO adR caR adF caF adB caB, v = .agg #[.slice adO ((pAt f (k + 1)).ops.length) caO, .slice adR ((pAt f (k + 1)).rels.length) caR, .slice adF ((pAt f (k + 1)).frm.length) caF, .slice adB ((pAt f (k + 1)).blk.length) caB] ∧ Made w35 u [⟨.slice adO (pAt f (k + 1)).ops.length caO, 36, 5, (pAt f (k + 1)).ops.length, oCells (pAt f (k + 1)).ops⟩, ⟨.slice adR (pAt f (k + 1)).rels.length caR, 34, 3, (pAt f (k + 1)).rels.length, rCells (pAt f (k + 1)).rels⟩, ⟨.slice adF (pAt f (k + 1)).frm.length caF, 3, 1, (pAt f (k + 1)).frm.length, iCells (pAt f (k + 1)).frm⟩, ⟨.slice adB (pAt f (k + 1)).blk.length caB, 3, 1, (pAt f (k + 1)).blk.length, iCells (pAt f (k + 1)).blk⟩])] (by kernel_rfl) rfl (by kernel_rfl) [(1, .pointer (some ⟨b1, 0, none⟩)), (2, .pointer (some ⟨b3, 0, none⟩)), (3, .int .i64 (frame17 f)), (4, .int .i64 (many16 f)), (5, .pointer (some ⟨b9, 0, none⟩)), (7, .slice av32 ((gAt f k).starts.length + 1) cv32), (8, .int .i64 (k : Int)), (9, .pointer (some ⟨b26, 0, none⟩)), (10, .slice adl ((give16 x25).length) capadl)] ⟨rfl, rfl, rfl, rfl, rfl, rfl, rfl, rfl, rfl, trivial⟩ rfl ⟨stays_eq, stays_eq, stays_eq, stays_eq, stays_eq, stays_eq, stays_piece, (fun v u u2 h hb => by obtain ⟨q0, q1, q2, q3, q4, q5, q6, q7, e, hM⟩ := h; exact ⟨_, _, _, _, _, _, _, _, e, hM.grow hb⟩), trivial⟩ ?_ ?_
  ·
   refine And.intro (fun β wd hb hD => ?_) ?_
   ·
    have hS := hS.grow hb
    refine WL.loadN (cs := [.slice aduo ((pI f x25 k x25.ins.length).ops.length) capuo, .slice adur ((pI f x25 k x25.ins.length).rels.length) capur, .slice aduf ((pI f x25 k x25.ins.length).frm.length) capuf, .slice adub ((pI f x25 k x25.ins.length).blk.length) capub]) agg_99 rfl rfl rfl rfl (hS.cells 1 (m := 4) rfl rfl) ?_
    exact WL.nil (N.cut _ ⟨rfl, trivial⟩ ⟨(Below.refl _ _), rfl⟩)
   refine And.intro (fun β wd hb hD => ?_) ?_
   ·
    have hS := hS.grow hb
    refine WL.fieldAddr fo_59_2 rfl rfl rfl ?_
    exact WL.nil (N.cut _ ⟨rfl, trivial⟩ ⟨(Below.refl _ _), rfl⟩)
   refine And.intro (fun β wd hb hD => ?_) ?_
   ·
    obtain ⟨hp1, _⟩ := hD
    replace hp1 : β 1 = .pointer (some ⟨b26, 2, none⟩) := hp1
    refine WL.sub (σ' := [(82, .pointer (some ⟨b26, 2, none⟩))]) ⟨congrArg some hp1, trivial⟩ ?_
    have hS := hS.grow hb
    refine WL.loadN (cs := [.int .i64 x25.fin.kind, .int .i64 x25.fin.a, .int .i64 x25.fin.to, .slice adp25 x25.fin.args.length capp25, .int .i64 x25.fin.els, .slice adq25 x25.fin.elses.length capq25]) agg_57 rfl rfl rfl rfl (hS.cells 0 (m := 6) rfl rfl) ?_
    exact WL.nil (N.cut _ ⟨rfl, trivial⟩ ⟨(Below.refl _ _), rfl⟩)
   refine And.intro (fun β wd hb hD => ?_) ?_
   ·
    have hS := hS.grow hb
    refine WL.move rfl rfl rfl ?_
    exact WL.nil (N.cut _ ⟨rfl, trivial⟩ ⟨(Below.refl _ _), rfl⟩)
   refine And.intro (fun β wd hb hD => ?_) ?_
   ·
    have hS := hS.grow hb
    refine WL.move rfl rfl rfl ?_
    exact WL.nil (N.cut _ ⟨rfl, trivial⟩ ⟨(Below.refl _ _), rfl⟩)
   refine And.intro (fun β wd hb hD => ?_) ?_
   ·
    have hS := hS.grow hb
    refine WL.move rfl rfl rfl ?_
    exact WL.nil (N.cut _ ⟨rfl, trivial⟩ ⟨(Below.refl _ _), rfl⟩)
   refine And.intro (fun β wd hb hD => ?_) ?_
   ·
    obtain ⟨hp2, hp3, hp4, hp5, _⟩ := hD
    replace hp2 : β 2 = .agg #[.int .i64 x25.fin.kind, .int .i64 x25.fin.a, .int .i64 x25.fin.to, .slice adp25 x25.fin.args.length capp25, .int .i64 x25.fin.els, .slice adq25 x25.fin.elses.length capq25] := hp2
    replace hp3 : β 3 = .slice adl ((give16 x25).length) capadl := hp3
    replace hp4 : β 4 = .int .i64 (many16 f) := hp4
    replace hp5 : β 5 = .int .i64 (frame17 f) := hp5
    refine WL.sub (σ' := [(83, .agg #[.int .i64 x25.fin.kind, .int .i64 x25.fin.a, .int .i64 x25.fin.to, .slice adp25 x25.fin.args.length capp25, .int .i64 x25.fin.els, .slice adq25 x25.fin.elses.length capq25]), (84, .slice adl ((give16 x25).length) capadl), (85, .int .i64 (many16 f)), (86, .int .i64 (frame17 f))]) ⟨congrArg some hp2, congrArg some hp3, congrArg some hp4, congrArg some hp5, trivial⟩ ?_
    have hS := hS.grow hb
    refine WL.callF (vs := [.agg #[.int .i64 x25.fin.kind, .int .i64 x25.fin.a, .int .i64 x25.fin.to, .slice adp25 x25.fin.args.length capp25, .int .i64 x25.fin.els, .slice adq25 x25.fin.elses.length capq25], .slice adl ((give16 x25).length) capadl, .int .i64 (many16 f), .int .i64 (frame17 f)]) Tryd.func58 (by kernel_rfl) rfl rfl rfl (rend_ret (give16 x25) x25.fin (many16 f) (frame17 f) _ _ (ro := (roFrom R2 w31 w33)) (fun b hb => (hS.snap b hb).1) (hfin25.keep hS.alike) (hvl.keep hS.alike fun _ _ q => q) hta hte htv htm.1 (fun z hz => by have := hsb z hz; omega) (by omega) htm.2.1 htm.2.2 hpN) ?_
    rintro v w44 ⟨csq, rfl, hZ, hbl⟩
    replace hS := hS.grow hbl
    exact WL.nil (N.cut _ ⟨rfl, trivial⟩ ⟨hbl, ⟨csq, rfl, hZ.keep (fun b hb2 => ⟨⟨Nat.le_trans hb.size hb2.1, hb2.2⟩, rfl⟩)⟩⟩)
   refine And.intro (fun β wd hb hD => ?_) ?_
   ·
    obtain ⟨hp0, hp6, _, _⟩ := hD
    replace hp0 : β 0 = .agg #[.slice aduo ((pI f x25 k x25.ins.length).ops.length) capuo, .slice adur ((pI f x25 k x25.ins.length).rels.length) capur, .slice aduf ((pI f x25 k x25.ins.length).frm.length) capuf, .slice adub ((pI f x25 k x25.ins.length).blk.length) capub] := hp0
    replace hp6 : (fun v u => ∃ cs, v = .agg cs.toArray ∧ PieceC (fun b => w35.heap.size ≤ b ∧ b < u.heap.size) u cs (tail17 (give16 x25) (many16 f) (frame17 f) x25.fin)) (β 6) wd := hp6
    refine WL.sub (σ' := [(81, .agg #[.slice aduo ((pI f x25 k x25.ins.length).ops.length) capuo, .slice adur ((pI f x25 k x25.ins.length).rels.length) capur, .slice aduf ((pI f x25 k x25.ins.length).frm.length) capuf, .slice adub ((pI f x25 k x25.ins.length).blk.length) capub]), (87, (β 6))]) ⟨congrArg some hp0, rfl, trivial⟩ ?_
    have hS := hS.grow hb
    generalize β 6 = z6 at hp6 ⊢
    obtain ⟨cs1, rfl, hY1⟩ := hp6
    have haP : PieceC (fun b => b < wd.heap.size) wd [.slice aduo ((pI f x25 k x25.ins.length).ops.length) capuo, .slice adur ((pI f x25 k x25.ins.length).rels.length) capur, .slice aduf ((pI f x25 k x25.ins.length).frm.length) capuf, .slice adub ((pI f x25 k x25.ins.length).blk.length) capub] (pI f x25 k x25.ins.length) := ⟨_, _, _, _, rfl, row_slv (hS.rows _ (List.mem_of_getElem? (i := 0) rfl)) hpo.oC rfl (fun y hy => (hS.keys y (by simp only [keysOf, List.mem_append, List.mem_filterMap]; exact .inr ⟨_, List.mem_of_getElem? (i := 0) rfl, hy⟩)).2.1), row_slv (hS.rows _ (List.mem_of_getElem? (i := 1) rfl)) (hpo.rC (by omega)) rfl (fun y hy => (hS.keys y (by simp only [keysOf, List.mem_append, List.mem_filterMap]; exact .inr ⟨_, List.mem_of_getElem? (i := 1) rfl, hy⟩)).2.1), row_slv (hS.rows _ (List.mem_of_getElem? (i := 2) rfl)) (hpo.fC (by omega)) rfl (fun y hy => (hS.keys y (by simp only [keysOf, List.mem_append, List.mem_filterMap]; exact .inr ⟨_, List.mem_of_getElem? (i := 2) rfl, hy⟩)).2.1), row_slv (hS.rows _ (List.mem_of_getElem? (i := 3) rfl)) hpo.bC rfl (fun y hy => (hS.keys y (by simp only [keysOf, List.mem_append, List.mem_filterMap]; exact .inr ⟨_, List.mem_of_getElem? (i := 3) rfl, hy⟩)).2.1)⟩
    refine WL.callF (vs := [.agg #[.slice aduo ((pI f x25 k x25.ins.length).ops.length) capuo, .slice adur ((pI f x25 k x25.ins.length).rels.length) capur, .slice aduf ((pI f x25 k x25.ins.length).frm.length) capuf, .slice adub ((pI f x25 k x25.ins.length).blk.length) capub], .agg cs1.toArray]) Tryd.func56 (by kernel_rfl) rfl rfl rfl ((by have h := rjoin_ret (pI f x25 k x25.ins.length) (tail17 (give16 x25) (many16 f) (frame17 f) x25.fin) _ _ (ro := fun b => b < wd.heap.size) (fun _ h => h) haP (hY1.keep fun b hb2 => ⟨hb2.2, rfl⟩) hfI hfN hpN; rw [← hpn] at h; exact h)) ?_
    rintro v w45 ⟨adO, caO, adR, caR, adF, caF, adB, caB, rfl, hM⟩
    have hbl := hM.below
    replace hS := hS.grow hbl
    exact WL.nil (N.cut _ ⟨rfl, trivial⟩ ⟨hM.below, ⟨_, _, _, _, _, _, _, _, rfl, hM.up hb⟩⟩)
   trivial
  intro β w46 hb hD
  obtain ⟨hp0, hp1, hp2, hp3, hp4, hp5, hp6, hp7, _⟩ := hD
  refine WL.sub (σ' := [(1, .pointer (some ⟨b1, 0, none⟩)), (2, .pointer (some ⟨b3, 0, none⟩)), (3, .int .i64 (frame17 f)), (4, .int .i64 (many16 f)), (5, .pointer (some ⟨b9, 0, none⟩)), (7, .slice av32 ((gAt f k).starts.length + 1) cv32), (8, .int .i64 (k : Int)), (9, .pointer (some ⟨b26, 0, none⟩)), (10, .slice adl ((give16 x25).length) capadl), (81, .agg #[.slice aduo ((pI f x25 k x25.ins.length).ops.length) capuo, .slice adur ((pI f x25 k x25.ins.length).rels.length) capur, .slice aduf ((pI f x25 k x25.ins.length).frm.length) capuf, .slice adub ((pI f x25 k x25.ins.length).blk.length) capub]), (82, .pointer (some ⟨b26, 2, none⟩)), (83, .agg #[.int .i64 x25.fin.kind, .int .i64 x25.fin.a, .int .i64 x25.fin.to, .slice adp25 x25.fin.args.length capp25, .int .i64 x25.fin.els, .slice adq25 x25.fin.elses.length capq25]), (84, .slice adl ((give16 x25).length) capadl), (85, .int .i64 (many16 f)), (86, .int .i64 (frame17 f)), (87, (β 6)), (88, (β 7))]) ⟨rfl, rfl, rfl, rfl, rfl, rfl, rfl, rfl, rfl, congrArg some (show β 0 = .agg #[.slice aduo ((pI f x25 k x25.ins.length).ops.length) capuo, .slice adur ((pI f x25 k x25.ins.length).rels.length) capur, .slice aduf ((pI f x25 k x25.ins.length).frm.length) capuf, .slice adub ((pI f x25 k x25.ins.length).blk.length) capub] from hp0), congrArg some (show β 1 = .pointer (some ⟨b26, 2, none⟩) from hp1), congrArg some (show β 2 = .agg #[.int .i64 x25.fin.kind, .int .i64 x25.fin.a, .int .i64 x25.fin.to, .slice adp25 x25.fin.args.length capp25, .int .i64 x25.fin.els, .slice adq25 x25.fin.elses.length capq25] from hp2), congrArg some (show β 3 = .slice adl ((give16 x25).length) capadl from hp3), congrArg some (show β 4 = .int .i64 (many16 f) from hp4), congrArg some (show β 5 = .int .i64 (frame17 f) from hp5), rfl, rfl, trivial⟩ ?_
  have hSd := hS
  replace hS := hS.grow hb
  replace hp6 : (fun v u => ∃ cs, v = .agg cs.toArray ∧ PieceC (fun b => w35.heap.size ≤ b ∧ b < u.heap.size) u cs (tail17 (give16 x25) (many16 f) (frame17 f) x25.fin)) (β 6) w46 := hp6
  generalize β 6 = z6 at hp6 ⊢
  replace hp7 : (fun v u => ∃ adO caO adR caR adF caF adB caB, v = .agg #[.slice adO ((pAt f (k + 1)).ops.length) caO, .slice adR ((pAt f (k + 1)).rels.length) caR, .slice adF ((pAt f (k + 1)).frm.length) caF, .slice adB ((pAt f (k + 1)).blk.length) caB] ∧ Made w35 u [⟨.slice adO (pAt f (k + 1)).ops.length caO, 36, 5, (pAt f (k + 1)).ops.length, oCells (pAt f (k + 1)).ops⟩, ⟨.slice adR (pAt f (k + 1)).rels.length caR, 34, 3, (pAt f (k + 1)).rels.length, rCells (pAt f (k + 1)).rels⟩, ⟨.slice adF (pAt f (k + 1)).frm.length caF, 3, 1, (pAt f (k + 1)).frm.length, iCells (pAt f (k + 1)).frm⟩, ⟨.slice adB (pAt f (k + 1)).blk.length caB, 3, 1, (pAt f (k + 1)).blk.length, iCells (pAt f (k + 1)).blk⟩]) (β 7) w46 := hp7
  generalize β 7 = z7 at hp7 ⊢
  obtain ⟨adO_47, caO_47, adR_47, caR_47, adF_47, caF_47, adB_47, caB_47, rfl, hM⟩ := hp7
  replace hS := hSd.callRows hM
  replace hS : St w w33 w46 (roFrom R2 w31 w33) [(b26, .cells #[.int .i64 x25.params, .slice adi25 x25.ins.length capi25, .int .i64 x25.fin.kind, .int .i64 x25.fin.a, .int .i64 x25.fin.to, .slice adp25 x25.fin.args.length capp25, .int .i64 x25.fin.els, .slice adq25 x25.fin.elses.length capq25] 59 (0, 0)), (b9, .cells #[.slice aduo ((pI f x25 k x25.ins.length).ops.length) capuo, .slice adur ((pI f x25 k x25.ins.length).rels.length) capur, .slice aduf ((pI f x25 k x25.ins.length).frm.length) capuf, .slice adub ((pI f x25 k x25.ins.length).blk.length) capub] 99 (0, 0)), (b3, .cells #[.string ⟨#[]⟩, .slice none 0 0, .slice none 0 0] 30 (0, 0)), (b1, .cells #[.string f.name, .int .i64 f.bind, .int .i64 f.params, .slice adbF f.blocks.length capbF] 24 (0, 0))] [⟨.slice adO_47 ((pAt f (k + 1)).ops.length) caO_47, 36, 5, (pAt f (k + 1)).ops.length, (oCells (pAt f (k + 1)).ops)⟩, ⟨.slice adR_47 ((pAt f (k + 1)).rels.length) caR_47, 34, 3, (pAt f (k + 1)).rels.length, (rCells (pAt f (k + 1)).rels)⟩, ⟨.slice adF_47 ((pAt f (k + 1)).frm.length) caF_47, 3, 1, (pAt f (k + 1)).frm.length, (iCells (pAt f (k + 1)).frm)⟩, ⟨.slice adB_47 ((pAt f (k + 1)).blk.length) caB_47, 3, 1, (pAt f (k + 1)).blk.length, (iCells (pAt f (k + 1)).blk)⟩, ⟨.slice aduo ((pI f x25 k x25.ins.length).ops.length) capuo, 36, 5, (pI f x25 k x25.ins.length).ops.length, (oCells (pI f x25 k x25.ins.length).ops)⟩, ⟨.slice adur ((pI f x25 k x25.ins.length).rels.length) capur, 34, 3, (pI f x25 k x25.ins.length).rels.length, (rCells (pI f x25 k x25.ins.length).rels)⟩, ⟨.slice aduf ((pI f x25 k x25.ins.length).frm.length) capuf, 3, 1, (pI f x25 k x25.ins.length).frm.length, (iCells (pI f x25 k x25.ins.length).frm)⟩, ⟨.slice adub ((pI f x25 k x25.ins.length).blk.length) capub, 3, 1, (pI f x25 k x25.ins.length).blk.length, (iCells (pI f x25 k x25.ins.length).blk)⟩, ⟨.slice av32 ((gAt f k).starts.length + 1) cv32, 3, 1, (gAt f (k + 1)).starts.length, (iCells (gAt f (k + 1)).starts)⟩] := hS
  replace hS := hS.permR (((((((((((((((((List.Perm.cons _ (List.Perm.cons _ (List.Perm.cons _ (List.Perm.swap _ _ _))))).trans ((List.Perm.cons _ (List.Perm.cons _ (List.Perm.swap _ _ _))))).trans ((List.Perm.cons _ (List.Perm.swap _ _ _)))).trans ((List.Perm.swap _ _ _))).trans ((List.Perm.cons _ (List.Perm.cons _ (List.Perm.cons _ (List.Perm.cons _ (List.Perm.swap _ _ _))))))).trans ((List.Perm.cons _ (List.Perm.cons _ (List.Perm.cons _ (List.Perm.swap _ _ _)))))).trans ((List.Perm.cons _ (List.Perm.cons _ (List.Perm.swap _ _ _))))).trans ((List.Perm.cons _ (List.Perm.swap _ _ _)))).trans ((List.Perm.cons _ (List.Perm.cons _ (List.Perm.cons _ (List.Perm.cons _ (List.Perm.cons _ (List.Perm.swap _ _ _)))))))).trans ((List.Perm.cons _ (List.Perm.cons _ (List.Perm.cons _ (List.Perm.cons _ (List.Perm.swap _ _ _))))))).trans ((List.Perm.cons _ (List.Perm.cons _ (List.Perm.cons _ (List.Perm.swap _ _ _)))))).trans ((List.Perm.cons _ (List.Perm.cons _ (List.Perm.swap _ _ _))))).trans ((List.Perm.cons _ (List.Perm.cons _ (List.Perm.cons _ (List.Perm.cons _ (List.Perm.cons _ (List.Perm.cons _ (List.Perm.swap _ _ _))))))))).trans ((List.Perm.cons _ (List.Perm.cons _ (List.Perm.cons _ (List.Perm.cons _ (List.Perm.cons _ (List.Perm.swap _ _ _)))))))).trans ((List.Perm.cons _ (List.Perm.cons _ (List.Perm.cons _ (List.Perm.cons _ (List.Perm.swap _ _ _))))))).trans ((List.Perm.cons _ (List.Perm.cons _ (List.Perm.cons _ (List.Perm.swap _ _ _))))))
  replace hS := hS.dropR 4
  replace hS : St w w33 w46 (roFrom R2 w31 w33) [(b26, .cells #[.int .i64 x25.params, .slice adi25 x25.ins.length capi25, .int .i64 x25.fin.kind, .int .i64 x25.fin.a, .int .i64 x25.fin.to, .slice adp25 x25.fin.args.length capp25, .int .i64 x25.fin.els, .slice adq25 x25.fin.elses.length capq25] 59 (0, 0)), (b9, .cells #[.slice aduo ((pI f x25 k x25.ins.length).ops.length) capuo, .slice adur ((pI f x25 k x25.ins.length).rels.length) capur, .slice aduf ((pI f x25 k x25.ins.length).frm.length) capuf, .slice adub ((pI f x25 k x25.ins.length).blk.length) capub] 99 (0, 0)), (b3, .cells #[.string ⟨#[]⟩, .slice none 0 0, .slice none 0 0] 30 (0, 0)), (b1, .cells #[.string f.name, .int .i64 f.bind, .int .i64 f.params, .slice adbF f.blocks.length capbF] 24 (0, 0))] [⟨.slice adO_47 ((pAt f (k + 1)).ops.length) caO_47, 36, 5, (pAt f (k + 1)).ops.length, (oCells (pAt f (k + 1)).ops)⟩, ⟨.slice adR_47 ((pAt f (k + 1)).rels.length) caR_47, 34, 3, (pAt f (k + 1)).rels.length, (rCells (pAt f (k + 1)).rels)⟩, ⟨.slice adF_47 ((pAt f (k + 1)).frm.length) caF_47, 3, 1, (pAt f (k + 1)).frm.length, (iCells (pAt f (k + 1)).frm)⟩, ⟨.slice adB_47 ((pAt f (k + 1)).blk.length) caB_47, 3, 1, (pAt f (k + 1)).blk.length, (iCells (pAt f (k + 1)).blk)⟩, ⟨.slice av32 ((gAt f k).starts.length + 1) cv32, 3, 1, (gAt f (k + 1)).starts.length, (iCells (gAt f (k + 1)).starts)⟩] := hS
  refine WL.store1 #[.slice adO_47 ((pAt f (k + 1)).ops.length) caO_47, .slice adR_47 ((pAt f (k + 1)).rels.length) caR_47, .slice adF_47 ((pAt f (k + 1)).frm.length) caF_47, .slice adB_47 ((pAt f (k + 1)).blk.length) caB_47] rfl rfl rfl rfl siz_99 rfl rfl rfl hS ?_
  clear hS; intro w48 hS
  refine WL.nil (N.blk (N.seq (W.region (WL.move rfl rfl rfl ?_))))
  refine WL.add (c := (k : Int) + 1) rfl rfl rfl rfl (rfl) (by omega) ?_
  refine WL.assign rfl rfl rfl (WL.nil ?_)
  have hS := hS.dropN 1
  exact N.loop (k + 1, .slice adO_47 ((pAt f (k + 1)).ops.length) caO_47, .slice adR_47 ((pAt f (k + 1)).rels.length) caR_47, .slice adF_47 ((pAt f (k + 1)).frm.length) caF_47, .slice adB_47 ((pAt f (k + 1)).blk.length) caB_47, .slice av32 ((gAt f k).starts.length + 1) cv32, (roFrom R2 w31 w33), w33) ⟨rfl, rfl, rfl, rfl, rfl, rfl, rfl, trivial⟩ ⟨hS, by omega, halL1, hsub⟩ (by first | omega | (simp only; omega))
 have hc24p : ¬ ((k : Int) < (f.blocks.length : Int)) := by simpa using hc24
 refine W.exit (X.seq (X.loop (X.blk (N.seq (W.seq (W.seq (W.region (WL.assign rfl rfl rfl (WL.nil ?_)))))))))
 refine N.seq (W.block ?_)
 have hke : k = f.blocks.length := by omega
 subst hke
 replace hS : St w ws2 w23 R2 [(b9, .cells #[.slice advo ((pFull f).ops.length) capvo, .slice advr ((pFull f).rels.length) capvr, .slice advf ((pFull f).frm.length) capvf, .slice advb ((pFull f).blk.length) capvb] 99 (0, 0)), (b3, .cells #[.string ⟨#[]⟩, .slice none 0 0, .slice none 0 0] 30 (0, 0)), (b1, .cells #[.string f.name, .int .i64 f.bind, .int .i64 f.params, .slice adbF f.blocks.length capbF] 24 (0, 0))] [⟨.slice advo ((pFull f).ops.length) capvo, 36, 5, (pFull f).ops.length, (oCells (patch17 f 0))⟩, ⟨.slice advr ((pFull f).rels.length) capvr, 34, 3, (pFull f).rels.length, (rCells (pFull f).rels)⟩, ⟨.slice advf ((pFull f).frm.length) capvf, 3, 1, (pFull f).frm.length, (iCells (pFull f).frm)⟩, ⟨.slice advb ((pFull f).blk.length) capvb, 3, 1, (pFull f).blk.length, (iCells (pFull f).blk)⟩, ⟨.slice advs ((gFull f).starts.length) capvs, 3, 1, (gFull f).starts.length, (iCells (gFull f).starts)⟩] := hS
 have hpf : POk (pFull f) := pAt_pok hok f.blocks.length (Nat.le_refl _); have hsim : Sim (pFull f) (gFull f).ops (gFull f).rels (gFull f).jumps := sim_at f.blocks.length (Nat.le_refl _); have hfll := hsim.len; have hjf : (pFull f).frm.length = (jBf f).length := by rw [hsim.f, List.length_map]; rfl
 have hjb : (pFull f).blk.length = (jBf f).length := by rw [hsim.b, List.length_map]; rfl
 replace hfo : (pFull f).ops.length ≤ 40000 := hfo; have hffl : (pFull f).frm.length ≤ 40000 := hft.f
 refine W.loop (α := Nat) (fun (q : Nat) => [(1, .pointer (some ⟨b1, 0, none⟩)), (2, .pointer (some ⟨b3, 0, none⟩)), (5, .pointer (some ⟨b9, 0, none⟩)), (7, .slice advs ((gFull f).starts.length) capvs), (12, .int .i64 (q : Int))]) (fun (q : Nat) u => St w ws2 u R2 [(b9, .cells #[.slice advo ((pFull f).ops.length) capvo, .slice advr ((pFull f).rels.length) capvr, .slice advf ((pFull f).frm.length) capvf, .slice advb ((pFull f).blk.length) capvb] 99 (0, 0)), (b3, .cells #[.string ⟨#[]⟩, .slice none 0 0, .slice none 0 0] 30 (0, 0)), (b1, .cells #[.string f.name, .int .i64 f.bind, .int .i64 f.params, .slice adbF f.blocks.length capbF] 24 (0, 0))] [⟨.slice advo ((pFull f).ops.length) capvo, 36, 5, (pFull f).ops.length, (oCells (patch17 f q))⟩, ⟨.slice advr ((pFull f).rels.length) capvr, 34, 3, (pFull f).rels.length, (rCells (pFull f).rels)⟩, ⟨.slice advf ((pFull f).frm.length) capvf, 3, 1, (pFull f).frm.length, (iCells (pFull f).frm)⟩, ⟨.slice advb ((pFull f).blk.length) capvb, 3, 1, (pFull f).blk.length, (iCells (pFull f).blk)⟩, ⟨.slice advs ((gFull f).starts.length) capvs, 3, 1, (gFull f).starts.length, (iCells (gFull f).starts)⟩] ∧ q ≤ (jBf f).length) (fun (q : Nat) => (jBf f).length - q) 0 ⟨rfl, rfl, rfl, rfl, rfl, trivial⟩ ⟨hS, Nat.zero_le _⟩ ?_
 clear hS
 rintro q w49 ⟨hS, hq⟩
 have hpl := patch_len f q
 refine W.seq (W.seq (W.region (WL.move rfl rfl rfl (WL.fieldAddr fo_99_2 rfl rfl rfl (WL.load1 (v := .slice advf ((pFull f).frm.length) capvf) one_55 rfl rfl rfl (hS.cell 0 rfl rfl) (WL.lenSlice Tryd.underlying55 rfl rfl rfl (WL.bin rfl rfl rfl rfl rfl (WL.nil (N.seq ?_)))))))))
 refine W.cond rfl (fun hc50 => ?_) (fun hc50 => ?_)
 ·
  have hc50p : (q : Int) < ((pFull f).frm.length : Int) := by simpa using hc50
  refine W.skip (N.seq (W.seq (W.block ?_)))
  obtain ⟨jq, hjq⟩ : ∃ z, (jBf f)[q]? = some z := ⟨_, List.getElem?_eq_getElem (by omega)⟩
  have hjm := jBf_mem (List.mem_of_getElem? hjq); have hjin := (gAt_jumps hok f.blocks.length (Nat.le_refl _)).1 _ hjm; have hjt : 0 ≤ tgtOf (gFull f).starts (.block jq.2) ∧ tgtOf (gFull f).starts (.block jq.2) ≤ (gFull f).ops.length := tgt_in hok hjm; have hjb2 : 0 ≤ jq.2 ∧ jq.2 < f.blocks.length := hjin.2.2; have hjl : jq.1 < (gFull f).ops.length := hjin.2.1
  have hst := starts_at hok hjb2
  have hgs : (gFull f).starts.length = f.blocks.length := hgl4; have hgo : (gFull f).ops.length ≤ 40000 := by omega
  obtain ⟨gq52, rfl⟩ : ∃ g, advf = some ⟨g, 0, none⟩ := row_some (hS.rows _ (List.mem_of_getElem? (i := 2) rfl)) (by omega)
  have hj51 : q < ((pFull f).frm).length := by omega
  obtain ⟨x51, hx51⟩ : ∃ zz, ((pFull f).frm)[q]? = some zz := ⟨_, List.getElem?_eq_getElem hj51⟩
  have hQ51 := (hpf.fC (by omega)).2 q _ hx51
  generalize hk51 : ((iCells (pFull f).frm).drop (q * 1)).take 1 = c51 at hQ51
  obtain ⟨rfl, hi51⟩ := hQ51
  have hxe : x51 = ((jq.1 : Nat) : Int) := by have h := hx51; rw [hsim.f, List.getElem?_map] at h; rw [show jBl (gFull f).jumps = jBf f from rfl, hjq] at h; exact (Option.some.inj h).symm
  obtain ⟨gq54, rfl⟩ : ∃ g, advb = some ⟨g, 0, none⟩ := row_some (hS.rows _ (List.mem_of_getElem? (i := 3) rfl)) (by omega)
  have hj53 : q < ((pFull f).blk).length := by omega
  obtain ⟨x53, hx53⟩ : ∃ zz, ((pFull f).blk)[q]? = some zz := ⟨_, List.getElem?_eq_getElem hj53⟩
  have hQ53 := hpf.bC.2 q _ hx53
  generalize hk53 : ((iCells (pFull f).blk).drop (q * 1)).take 1 = c53 at hQ53
  obtain ⟨rfl, hi53⟩ := hQ53
  have hye : x53 = jq.2 := by have h := hx53; rw [hsim.b, List.getElem?_map] at h; rw [show jBl (gFull f).jumps = jBf f from rfl, hjq] at h; exact (Option.some.inj h).symm
  obtain ⟨gq56, rfl⟩ : ∃ g, advs = some ⟨g, 0, none⟩ := row_some (hS.rows _ (List.mem_of_getElem? (i := 4) rfl)) (by omega)
  have hj55 : jq.2.toNat < ((gFull f).starts).length := by omega
  obtain ⟨x55, hx55⟩ : ∃ zz, ((gFull f).starts)[jq.2.toNat]? = some zz := ⟨_, List.getElem?_eq_getElem hj55⟩
  have hQ55 := (iCells_raw (gFull f).starts).2 jq.2.toNat _ hx55
  generalize hk55 : ((iCells (gFull f).starts).drop (jq.2.toNat * 1)).take 1 = c55 at hQ55
  cases hQ55
  have hze : x55 = tgtOf (gFull f).starts (.block jq.2) := Option.some.inj (hx55.symm.trans hst)
  obtain ⟨gq57, rfl⟩ : ∃ g, advo = some ⟨g, 0, none⟩ := row_some (hS.rows _ (List.mem_of_getElem? (i := 0) rfl)) (by omega)
  refine W.drawA0 (S := fun u => True) (by kernel_rfl) (fun w58 hbd => ?_)
  replace hS := hS.grow hbd
  refine WA.conv (fuel' := ([(0, .pointer (some ⟨b9, 0, none⟩)), (1, .slice (some ⟨gq57, 0, none⟩) ((pFull f).ops.length) capvo), (2, .pointer (some ⟨b9, 2, none⟩)), (3, .slice (some ⟨gq52, 0, none⟩) ((pFull f).frm.length) capvf), (4, .int .i64 (q : Int)), (5, .pointer (some ⟨gq52, 0 + q * 1, none⟩)), (6, .int .i64 x51), (7, .slice (some ⟨gq56, 0, none⟩) ((gFull f).starts.length) capvs), (8, .pointer (some ⟨b9, 3, none⟩)), (9, .slice (some ⟨gq54, 0, none⟩) ((pFull f).blk.length) capvb), (10, .int .i64 (q : Int)), (11, .pointer (some ⟨gq54, 0 + q * 1, none⟩)), (12, .int .i64 x53), (13, .pointer (some ⟨gq56, 0 + jq.2.toNat * 1, none⟩)), (14, .int .i64 x55), (15, .pointer (some ⟨b9, 2, none⟩)), (16, .slice (some ⟨gq52, 0, none⟩) ((pFull f).frm.length) capvf), (17, .int .i64 (q : Int)), (18, .pointer (some ⟨gq52, 0 + q * 1, none⟩)), (19, .int .i64 x51), (20, .int .i64 (tgtOf (gFull f).starts (.block jq.2) - (jq.1 : Int))), (21, .int .i64 (4 * (tgtOf (gFull f).starts (.block jq.2) - (jq.1 : Int)))), (22, .pointer (some ⟨gq57, 0 + jq.1 * 5, none⟩)), (23, .pointer (some ⟨gq57, 0 + jq.1 * 5 + 4, none⟩))] : List (Nat × Value)).length + 1) (listed' := (lb 25 0)) (by kernel_rfl) (by kernel_rfl) (WA.quiet [(0, .pointer (some ⟨b9, 0, none⟩)), (1, .slice (some ⟨gq57, 0, none⟩) ((pFull f).ops.length) capvo), (2, .pointer (some ⟨b9, 2, none⟩)), (3, .slice (some ⟨gq52, 0, none⟩) ((pFull f).frm.length) capvf), (4, .int .i64 (q : Int)), (5, .pointer (some ⟨gq52, 0 + q * 1, none⟩)), (6, .int .i64 x51), (7, .slice (some ⟨gq56, 0, none⟩) ((gFull f).starts.length) capvs), (8, .pointer (some ⟨b9, 3, none⟩)), (9, .slice (some ⟨gq54, 0, none⟩) ((pFull f).blk.length) capvb), (10, .int .i64 (q : Int)), (11, .pointer (some ⟨gq54, 0 + q * 1, none⟩)), (12, .int .i64 x53), (13, .pointer (some ⟨gq56, 0 + jq.2.toNat * 1, none⟩)), (14, .int .i64 x55), (15, .pointer (some ⟨b9, 2, none⟩)), (16, .slice (some ⟨gq52, 0, none⟩) ((pFull f).frm.length) capvf), (17, .int .i64 (q : Int)), (18, .pointer (some ⟨gq52, 0 + q * 1, none⟩)), (19, .int .i64 x51), (20, .int .i64 (tgtOf (gFull f).starts (.block jq.2) - (jq.1 : Int))), (21, .int .i64 (4 * (tgtOf (gFull f).starts (.block jq.2) - (jq.1 : Int)))), (22, .pointer (some ⟨gq57, 0 + jq.1 * 5, none⟩)), (23, .pointer (some ⟨gq57, 0 + jq.1 * 5 + 4, none⟩))] (by kernel_rfl) [(1, .pointer (some ⟨b1, 0, none⟩)), (2, .pointer (some ⟨b3, 0, none⟩)), (5, .pointer (some ⟨b9, 0, none⟩)), (7, .slice (some ⟨gq56, 0, none⟩) ((gFull f).starts.length) capvs), (12, .int .i64 (q : Int))] ⟨rfl, rfl, rfl, rfl, rfl, trivial⟩ (by kernel_rfl) ?_ trivial ?_)
  ·
   refine ⟨⟨_, rfl, ?_⟩, ?_⟩
   ·
    refine WL.fieldAddr fo_99_0 rfl rfl rfl ?_
    exact WL.nil (N.cut () ⟨rfl, trivial⟩ rfl)
   refine ⟨⟨_, rfl, ?_⟩, ?_⟩
   ·
    refine WL.sub (σ' := [(96, .pointer (some ⟨b9, 0, none⟩))]) ⟨rfl, trivial⟩ ?_
    refine WL.load1 (v := .slice (some ⟨gq57, 0, none⟩) ((pFull f).ops.length) capvo) one_27 rfl rfl rfl (hS.cell 0 rfl rfl) ?_
    exact WL.nil (N.cut () ⟨rfl, trivial⟩ rfl)
   refine ⟨⟨_, rfl, ?_⟩, ?_⟩
   ·
    refine WL.fieldAddr fo_99_2 rfl rfl rfl ?_
    exact WL.nil (N.cut () ⟨rfl, trivial⟩ rfl)
   refine ⟨⟨_, rfl, ?_⟩, ?_⟩
   ·
    refine WL.sub (σ' := [(98, .pointer (some ⟨b9, 2, none⟩))]) ⟨rfl, trivial⟩ ?_
    refine WL.load1 (v := .slice (some ⟨gq52, 0, none⟩) ((pFull f).frm.length) capvf) one_55 rfl rfl rfl (hS.cell 0 rfl rfl) ?_
    exact WL.nil (N.cut () ⟨rfl, trivial⟩ rfl)
   refine ⟨⟨_, rfl, ?_⟩, ?_⟩
   ·
    refine WL.move rfl rfl rfl ?_
    exact WL.nil (N.cut () ⟨rfl, trivial⟩ rfl)
   refine ⟨⟨_, rfl, ?_⟩, ?_⟩
   ·
    refine WL.sub (σ' := [(99, .slice (some ⟨gq52, 0, none⟩) ((pFull f).frm.length) capvf), (100, .int .i64 (q : Int))]) ⟨rfl, rfl, trivial⟩ ?_
    refine WL.indexAddr (j := q) Tryd.underlying55 isz_3 rfl rfl rfl rfl (by omega) ?_
    exact WL.nil (N.cut () ⟨rfl, trivial⟩ rfl)
   refine ⟨⟨_, rfl, ?_⟩, ?_⟩
   ·
    refine WL.sub (σ' := [(101, .pointer (some ⟨gq52, 0 + q * 1, none⟩))]) ⟨rfl, trivial⟩ ?_
    refine WL.load1 (v := .int .i64 x51) one_3 rfl rfl rfl ((hS.rowCells 2 rfl hk51) 0 _ rfl) ?_
    exact WL.nil (N.cut () ⟨rfl, trivial⟩ rfl)
   refine ⟨⟨_, rfl, ?_⟩, ?_⟩
   ·
    refine WL.move rfl rfl rfl ?_
    exact WL.nil (N.cut () ⟨rfl, trivial⟩ rfl)
   refine ⟨⟨_, rfl, ?_⟩, ?_⟩
   ·
    refine WL.fieldAddr fo_99_3 rfl rfl rfl ?_
    exact WL.nil (N.cut () ⟨rfl, trivial⟩ rfl)
   refine ⟨⟨_, rfl, ?_⟩, ?_⟩
   ·
    refine WL.sub (σ' := [(104, .pointer (some ⟨b9, 3, none⟩))]) ⟨rfl, trivial⟩ ?_
    refine WL.load1 (v := .slice (some ⟨gq54, 0, none⟩) ((pFull f).blk.length) capvb) one_55 rfl rfl rfl (hS.cell 0 rfl rfl) ?_
    exact WL.nil (N.cut () ⟨rfl, trivial⟩ rfl)
   refine ⟨⟨_, rfl, ?_⟩, ?_⟩
   ·
    refine WL.move rfl rfl rfl ?_
    exact WL.nil (N.cut () ⟨rfl, trivial⟩ rfl)
   refine ⟨⟨_, rfl, ?_⟩, ?_⟩
   ·
    refine WL.sub (σ' := [(105, .slice (some ⟨gq54, 0, none⟩) ((pFull f).blk.length) capvb), (106, .int .i64 (q : Int))]) ⟨rfl, rfl, trivial⟩ ?_
    refine WL.indexAddr (j := q) Tryd.underlying55 isz_3 rfl rfl rfl rfl (by omega) ?_
    exact WL.nil (N.cut () ⟨rfl, trivial⟩ rfl)
   refine ⟨⟨_, rfl, ?_⟩, ?_⟩
   ·
    refine WL.sub (σ' := [(107, .pointer (some ⟨gq54, 0 + q * 1, none⟩))]) ⟨rfl, trivial⟩ ?_
    refine WL.load1 (v := .int .i64 x53) one_3 rfl rfl rfl ((hS.rowCells 3 rfl hk53) 0 _ rfl) ?_
    exact WL.nil (N.cut () ⟨rfl, trivial⟩ rfl)
   refine ⟨⟨_, rfl, ?_⟩, ?_⟩
   ·
    refine WL.sub (σ' := [(103, .slice (some ⟨gq56, 0, none⟩) ((gFull f).starts.length) capvs), (108, .int .i64 x53)]) ⟨rfl, rfl, trivial⟩ ?_
    refine WL.set 108 (v' := .int .i64 (jq.2.toNat : Int)) rfl (congrArg _ (by omega)) ?_
    refine WL.indexAddr (j := jq.2.toNat) Tryd.underlying55 isz_3 rfl rfl rfl rfl (by omega) ?_
    exact WL.nil (N.cut () ⟨rfl, trivial⟩ rfl)
   refine ⟨⟨_, rfl, ?_⟩, ?_⟩
   ·
    refine WL.sub (σ' := [(109, .pointer (some ⟨gq56, 0 + jq.2.toNat * 1, none⟩))]) ⟨rfl, trivial⟩ ?_
    refine WL.load1 (v := .int .i64 x55) one_3 rfl rfl rfl ((hS.rowCells 4 rfl hk55) 0 _ rfl) ?_
    exact WL.nil (N.cut () ⟨rfl, trivial⟩ rfl)
   refine ⟨⟨_, rfl, ?_⟩, ?_⟩
   ·
    refine WL.fieldAddr fo_99_2 rfl rfl rfl ?_
    exact WL.nil (N.cut () ⟨rfl, trivial⟩ rfl)
   refine ⟨⟨_, rfl, ?_⟩, ?_⟩
   ·
    refine WL.sub (σ' := [(111, .pointer (some ⟨b9, 2, none⟩))]) ⟨rfl, trivial⟩ ?_
    refine WL.load1 (v := .slice (some ⟨gq52, 0, none⟩) ((pFull f).frm.length) capvf) one_55 rfl rfl rfl (hS.cell 0 rfl rfl) ?_
    exact WL.nil (N.cut () ⟨rfl, trivial⟩ rfl)
   refine ⟨⟨_, rfl, ?_⟩, ?_⟩
   ·
    refine WL.move rfl rfl rfl ?_
    exact WL.nil (N.cut () ⟨rfl, trivial⟩ rfl)
   refine ⟨⟨_, rfl, ?_⟩, ?_⟩
   ·
    refine WL.sub (σ' := [(112, .slice (some ⟨gq52, 0, none⟩) ((pFull f).frm.length) capvf), (113, .int .i64 (q : Int))]) ⟨rfl, rfl, trivial⟩ ?_
    refine WL.indexAddr (j := q) Tryd.underlying55 isz_3 rfl rfl rfl rfl (by omega) ?_
    exact WL.nil (N.cut () ⟨rfl, trivial⟩ rfl)
   refine ⟨⟨_, rfl, ?_⟩, ?_⟩
   ·
    refine WL.sub (σ' := [(114, .pointer (some ⟨gq52, 0 + q * 1, none⟩))]) ⟨rfl, trivial⟩ ?_
    refine WL.load1 (v := .int .i64 x51) one_3 rfl rfl rfl ((hS.rowCells 2 rfl hk51) 0 _ rfl) ?_
    exact WL.nil (N.cut () ⟨rfl, trivial⟩ rfl)
   refine ⟨⟨_, rfl, ?_⟩, ?_⟩
   ·
    refine WL.sub (σ' := [(110, .int .i64 x55), (115, .int .i64 x51)]) ⟨rfl, rfl, trivial⟩ ?_
    refine WL.sub_ (c := tgtOf (gFull f).starts (.block jq.2) - (jq.1 : Int)) rfl rfl rfl rfl (by rw [hze, hxe]) (by omega) ?_
    exact WL.nil (N.cut () ⟨rfl, trivial⟩ rfl)
   refine ⟨⟨_, rfl, ?_⟩, ?_⟩
   ·
    refine WL.sub (σ' := [(116, .int .i64 (tgtOf (gFull f).starts (.block jq.2) - (jq.1 : Int)))]) ⟨rfl, trivial⟩ ?_
    refine WL.mul (c := 4 * (tgtOf (gFull f).starts (.block jq.2) - (jq.1 : Int))) rfl rfl rfl rfl rfl (by omega) ?_
    exact WL.nil (N.cut () ⟨rfl, trivial⟩ rfl)
   refine ⟨⟨_, rfl, ?_⟩, ?_⟩
   ·
    refine WL.sub (σ' := [(97, .slice (some ⟨gq57, 0, none⟩) ((pFull f).ops.length) capvo), (102, .int .i64 x51)]) ⟨rfl, rfl, trivial⟩ ?_
    refine WL.set 102 (v' := .int .i64 (jq.1 : Int)) rfl (congrArg _ hxe) ?_
    refine WL.indexAddr (j := jq.1) Tryd.underlying27 isz_36 rfl rfl rfl rfl (by omega) ?_
    exact WL.nil (N.cut () ⟨rfl, trivial⟩ rfl)
   refine ⟨⟨_, rfl, ?_⟩, ?_⟩
   ·
    refine WL.sub (σ' := [(118, .pointer (some ⟨gq57, 0 + jq.1 * 5, none⟩))]) ⟨rfl, trivial⟩ ?_
    refine WL.fieldAddr fo_36_4 rfl rfl rfl ?_
    exact WL.nil (N.cut () ⟨rfl, trivial⟩ rfl)
   trivial
  refine WA.sub (σ' := [(1, .pointer (some ⟨b1, 0, none⟩)), (2, .pointer (some ⟨b3, 0, none⟩)), (5, .pointer (some ⟨b9, 0, none⟩)), (7, .slice (some ⟨gq56, 0, none⟩) ((gFull f).starts.length) capvs), (12, .int .i64 (q : Int)), (117, .int .i64 (4 * (tgtOf (gFull f).starts (.block jq.2) - (jq.1 : Int)))), (119, .pointer (some ⟨gq57, 0 + jq.1 * 5 + 4, none⟩))]) ⟨rfl, rfl, rfl, rfl, rfl, rfl, rfl, trivial⟩ ?_
  refine WA.conv (fuel' := 0 + 1) (listed' := (lb 25 16777215)) (by kernel_rfl) (by kernel_rfl) (WA.stepS 24 (by kernel_rfl) rfl ?_)
  have hob : (jq.1 + 1) * 5 ≤ (pFull f).ops.length * 5 := Nat.mul_le_mul_right _ (by omega)
  refine WL.storeRow (v := .int .i64 (4 * (tgtOf (gFull f).starts (.block jq.2) - (jq.1 : Int)))) (cs := [.int .i64 (4 * (tgtOf (gFull f).starts (.block jq.2) - (jq.1 : Int)))]) rfl rfl rfl rfl siz_2 rfl hS (by simp only [List.length_cons, List.length_nil]; omega) ?_
  clear hS; intro w59 hS
  replace hS : St w ws2 w59 R2 [(b9, .cells #[.slice (some ⟨gq57, 0, none⟩) ((pFull f).ops.length) capvo, .slice advr ((pFull f).rels.length) capvr, .slice (some ⟨gq52, 0, none⟩) ((pFull f).frm.length) capvf, .slice (some ⟨gq54, 0, none⟩) ((pFull f).blk.length) capvb] 99 (0, 0)), (b3, .cells #[.string ⟨#[]⟩, .slice none 0 0, .slice none 0 0] 30 (0, 0)), (b1, .cells #[.string f.name, .int .i64 f.bind, .int .i64 f.params, .slice adbF f.blocks.length capbF] 24 (0, 0))] [⟨.slice (some ⟨gq57, 0, none⟩) ((pFull f).ops.length) capvo, 36, 5, (pFull f).ops.length, (oCells (setImm (patch17 f q) jq.1 (4 * (tgtOf (gFull f).starts (.block jq.2) - (jq.1 : Int)))))⟩, ⟨.slice advr ((pFull f).rels.length) capvr, 34, 3, (pFull f).rels.length, (rCells (pFull f).rels)⟩, ⟨.slice (some ⟨gq52, 0, none⟩) ((pFull f).frm.length) capvf, 3, 1, (pFull f).frm.length, (iCells (pFull f).frm)⟩, ⟨.slice (some ⟨gq54, 0, none⟩) ((pFull f).blk.length) capvb, 3, 1, (pFull f).blk.length, (iCells (pFull f).blk)⟩, ⟨.slice (some ⟨gq56, 0, none⟩) ((gFull f).starts.length) capvs, 3, 1, (gFull f).starts.length, (iCells (gFull f).starts)⟩] := by rw [← oCells_setImm (by omega)]; exact hS
  refine WL.nil (N.restS trivial ?_)
  refine WA.doneN (by kernel_rfl) ?_
  refine N.blk (N.seq (W.region (WL.move rfl rfl rfl ?_)))
  refine WL.add (c := (q : Int) + 1) rfl rfl rfl rfl (rfl) (by omega) ?_
  refine WL.assign rfl rfl rfl (WL.nil ?_)
  replace hS := hS.rw0 (show (⟨.slice (some ⟨gq57, 0, none⟩) ((pFull f).ops.length) capvo, 36, 5, (pFull f).ops.length, (oCells (patch17 f (q + 1)))⟩ : Row) = ⟨.slice (some ⟨gq57, 0, none⟩) ((pFull f).ops.length) capvo, 36, 5, (pFull f).ops.length, (oCells (setImm (patch17 f q) jq.1 (4 * (tgtOf (gFull f).starts (.block jq.2) - (jq.1 : Int)))))⟩ by rw [patch_next hjq])
  exact N.loop (q + 1) ⟨rfl, rfl, rfl, rfl, rfl, trivial⟩ ⟨hS, by omega⟩ (by first | omega | (simp only; omega))
 have hc50p : ¬ ((q : Int) < ((pFull f).frm.length : Int)) := by simpa using hc50
 refine W.exit (X.seq (X.loop (X.blk (N.seq (W.seq (W.region (WL.fieldAddr fo_24_0 rfl rfl rfl (WL.load1 (v := .string f.name) one_9 rfl rfl rfl (hS.cell 2 rfl rfl) (WL.fieldAddr fo_99_0 rfl rfl rfl ?_)))))))))
 refine WL.load1 (v := .slice advo ((pFull f).ops.length) capvo) one_27 rfl rfl rfl (hS.cell 0 rfl rfl) (WL.fieldAddr fo_99_1 rfl rfl rfl (WL.load1 (v := .slice advr ((pFull f).rels.length) capvr) one_28 rfl rfl rfl (hS.cell 0 rfl rfl) ?_))
 refine WL.build (ps := [(0, .string f.name), (1, .slice advo ((pFull f).ops.length) capvo), (2, .slice advr ((pFull f).rels.length) capvr)]) (cs := [.string f.name, .slice advo ((pFull f).ops.length) capvo, .slice advr ((pFull f).rels.length) capvr]) rfl rfl rfl (by kernel_rfl) ?_
 refine WL.store1 #[.string f.name, .slice advo ((pFull f).ops.length) capvo, .slice advr ((pFull f).rels.length) capvr] rfl rfl rfl rfl siz_30 rfl rfl rfl hS ?_
 clear hS; intro w60 hS
 refine WL.nil (N.seq ?_)
 refine Fin.retC rfl (v := .agg #[.string f.name, .slice advo ((pFull f).ops.length) capvo, .slice advr ((pFull f).rels.length) capvr]) rfl (tyAgg_run agg_30 (cs := [.string f.name, .slice advo ((pFull f).ops.length) capvo, .slice advr ((pFull f).rels.length) capvr]) rfl (hS.cells 1 (m := 3) rfl rfl)) ?_
 have hqe : q = (jBf f).length := by omega
 rw [hqe, patch_full] at hS
 have hfl : (func17 f).ops.length = (pFull f).ops.length := by rw [hfll]; exact jumpAll_len _ _ _
 have hrl : (func17 f).rels = (pFull f).rels := hsim.r.symm
 have hr1 := hS.rows _ (List.mem_of_getElem? (i := 0) rfl)
 have hr2 := hS.rows _ (List.mem_of_getElem? (i := 1) rfl)
 refine ⟨_, _, rfl, ?_, ?_, (fun b hb => by have h := hS.keys b (by simp only [keysOf, List.mem_append, List.mem_filterMap]; exact .inr ⟨_, List.mem_of_getElem? (i := 0) rfl, hb⟩); exact ⟨h.1, h.2.1⟩), (fun b hb => by have h := hS.keys b (by simp only [keysOf, List.mem_append, List.mem_filterMap]; exact .inr ⟨_, List.mem_of_getElem? (i := 1) rfl, hb⟩); exact ⟨h.1, h.2.1⟩), hS.below⟩
 ·
  rw [hfl]; exact hr1
 rw [hrl]; exact hr2

end Go.Proofs.YtcmmhfknkldmcaaDoor
