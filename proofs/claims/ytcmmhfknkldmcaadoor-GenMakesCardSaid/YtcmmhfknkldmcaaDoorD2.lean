/-
  Contracts of layer 17 (gen). No condition beyond those that each theorem states.
-/
import Derived.Test.YtcmmhfknkldmcaaDoorD1
import Derived.Test.YtcmmhfknkldmcaaDoorK10
import Derived.Test.YtcmmhfknkldmcaaDoorA32
namespace Go.Proofs.YtcmmhfknkldmcaaDoor
open Go.RowKit
theorem agg_99 : tyAgg Tryd.prog 99 4 = true := by kernel_rfl
theorem fo_99_0 : fOff Tryd.prog 99 0 0 = true := by kernel_rfl
theorem fo_99_1 : fOff Tryd.prog 99 1 1 = true := by kernel_rfl
theorem siz_99 : tySize Tryd.prog 99 4 = true := by kernel_rfl
theorem zer_99 : tyZero Tryd.prog 99 = some [.slice none 0 0, .slice none 0 0, .slice none 0 0, .slice none 0 0] := by kernel_rfl
def PieceC (ro : Nat → Prop) (w : World) (cs : List Value) (p : DPiece) : Prop := ∃ s1 s2 s3 s4, cs = [s1, s2, s3, s4] ∧ SlV ro w 5 OpC s1 p.ops ∧ SlV ro w 3 RelC s2 p.rels ∧ SlV ro w 1 IntC s3 p.frm ∧ SlV ro w 1 IntC s4 p.blk
theorem PieceC.keep {ro ro' : Nat → Prop} {w w' : World} {cs : List Value} {p : DPiece} (h : PieceC ro w cs p) (ha : Alike ro w ro' w') : PieceC ro' w' cs p := by
  obtain ⟨s1, s2, s3, s4, e, h1, h2, h3, h4⟩ := h
  exact ⟨s1, s2, s3, s4, e, h1.keep ha fun _ _ q => q, h2.keep ha fun _ _ q => q, h3.keep ha fun _ _ q => q, h4.keep ha fun _ _ q => q⟩
theorem POk.oC {p : DPiece} (h : POk p) : Chunks 5 OpC (oCells p.ops) p.ops := oCells_chunks h.o
theorem POk.rC {p : DPiece} (h : POk p) (hl : p.ops.length ≤ 100000) : Chunks 3 RelC (rCells p.rels) p.rels := Chunks.flat (f := relL) (fun _ => rfl) _ fun x hx => ⟨rfl, (h.r x hx).1, inK (by have := (h.r x hx).2.1; omega), (h.r x hx).2.2⟩
theorem POk.fC {p : DPiece} (h : POk p) (hl : p.ops.length ≤ 100000) : Chunks 1 IntC (iCells p.frm) p.frm := chunks_ints fun x hx => inK (by have := h.f x hx; omega)
theorem POk.bC {p : DPiece} (h : POk p) : Chunks 1 IntC (iCells p.blk) p.blk := chunks_ints fun x hx => inK (by have := h.b x hx; omega)
theorem chunks_canon {α : Type} {sz : Nat} {Q : List Value → α → Prop} {f : α → List Value} (hf : ∀ x, (f x).length = sz) (hQ : ∀ c x, Q c x → c = f x) {cs : List Value} {l : List α} (h : Chunks sz Q cs l) : cs = (l.map f).flatten := by
  have h2 : Chunks sz (fun c x => c = f x) (l.map f).flatten l := Chunks.flat hf l fun _ _ => rfl
  apply List.ext_getElem?
  intro j
  by_cases hj : j < l.length * sz
  · have h0 : 0 < sz := Nat.pos_of_ne_zero fun e => by subst e; simp at hj
    obtain ⟨q, r, hr, rfl⟩ : ∃ q r, r < sz ∧ j = q * sz + r := ⟨j / sz, j % sz, Nat.mod_lt _ h0, by rw [Nat.mul_comm]; exact (Nat.div_add_mod j sz).symm⟩
    have hq : q < l.length := Nat.lt_of_mul_lt_mul_right (a := sz) (by omega)
    have hx : l[q]? = some l[q] := List.getElem?_eq_getElem hq
    have e1 := hQ _ _ (h.2 q _ hx)
    have e2 : (((l.map f).flatten.drop (q * sz)).take sz) = f l[q] := h2.2 q _ hx
    have g : ∀ a : List Value, ((a.drop (q * sz)).take sz)[r]? = a[q * sz + r]? := fun a => by rw [List.getElem?_take, if_pos hr, List.getElem?_drop]
    rw [← g, ← g, e1, e2]
  · rw [List.getElem?_eq_none (by rw [h.1]; omega), List.getElem?_eq_none (by rw [h2.1]; omega)]
theorem chunks_rCells {cs : List Value} {l : List DRel} (h : Chunks 3 RelC cs l) : cs = rCells l := chunks_canon (f := relL) (fun _ => rfl) (fun _ _ q => q.1) h
theorem chunks_iCells {cs : List Value} {l : List Int} (h : Chunks 1 IntC cs l) : cs = iCells l := by rw [chunks_canon (f := fun x : Int => [Value.int .i64 x]) (fun _ => rfl) (fun _ _ q => q.1) h, flat1]
theorem kinds_at {op : Int} (h : 2 ≤ op ∧ op ≤ 11) : (#[.int .i64 1, .int .i64 2, .int .i64 9, .int .i64 8, .int .i64 7, .int .i64 5, .int .i64 3, .int .i64 6, .int .i64 4, .int .i64 2] : Array Value)[0 + (op - 2).toNat * 1]? = some (.int .i64 (reckK op)) := by
  have : op = 2 ∨ op = 3 ∨ op = 4 ∨ op = 5 ∨ op = 6 ∨ op = 7 ∨ op = 8 ∨ op = 9 ∨ op = 10 ∨ op = 11 := by omega
  rcases this with rfl | rfl | rfl | rfl | rfl | rfl | rfl | rfl | rfl | rfl <;> rfl
theorem stays_lit1 {B n T : Nat} {cs : List Value} : Stays fun v u => ∃ b, v = .slice (some ⟨b, 0, none⟩) n n ∧ B ≤ b ∧ u.heap[b]? = some (.cells cs.toArray T (0, 0)) := fun _ _ _ ⟨b, h1, h2, h3⟩ hb => ⟨b, h1, h2, (hb.block b (Array.getElem?_eq_some_iff.1 h3).1).trans h3⟩

set_option maxRecDepth 10000 in
set_option maxHeartbeats 4000000 in
theorem rinst_ret (slots : List Int) (x : DInst) (own : Int) (vsl : Value) (cx : List Value) {w : World} {ro : Nat → Prop} (hro : ∀ b, ro b → b < w.heap.size) (hx : InstC ro w cx x) (hsl : SlV ro w 1 IntC vsl slots) (huse : ∀ v ∈ uses5 x, 0 ≤ v ∧ v < slots.length) (hop : 1 ≤ x.op ∧ x.op ≤ 16) (hal : x.args.length ≤ 6) (hsb : ∀ z ∈ slots, 0 ≤ z ∧ z ≤ 1000) (hown : 0 ≤ own ∧ own ≤ 1000) (hpk : POk (inst17 slots own x)) : Ret Tryd.prog 57 #[.agg cx.toArray, vsl, .int .i64 own] w fun v w' => ∃ cs, v = .agg cs.toArray ∧ PieceC (fun b => w.heap.size ≤ b ∧ b < w'.heap.size) w' cs (inst17 slots own x) ∧ Below w.heap.size w w' := by
 have hx0 := hx
 obtain ⟨sx, rfl, hsx, hox, hax, hbx, hkx, hnx⟩ := id hx
 obtain ⟨adx, capx, rfl, hsxa, hsxb, hsxc, hsxd⟩ := id hsx
 have hsxm : x.args.length ≤ 9223372036854775807 := by have h1 := hsxa; have h2 := hsxb; unfold maxLen at h2; omega
 obtain ⟨ads, caps, rfl, hsla, hslb, hslc, hsld⟩ := id hsl
 have hslm : slots.length ≤ 9223372036854775807 := by have h1 := hsla; have h2 := hslb; unfold maxLen at h2; omega
 refine Ret.enter (P := Tryd.prog) (n := 178) (args := [.agg #[.int .i64 x.op, .int .i64 x.a, .int .i64 x.b, .int .u64 x.k, .string x.name, .slice adx x.args.length capx], .slice ads slots.length caps, .int .i64 own]) (σ := [(0, .agg #[.int .i64 x.op, .int .i64 x.a, .int .i64 x.b, .int .u64 x.k, .string x.name, .slice adx x.args.length capx]), (1, .slice ads slots.length caps), (2, .int .i64 own)]) Tryd.func57 rfl rfl rfl rfl ?_
 have hS := St.start (ro := ro) hro
 refine W.seq (W.region ?_)
 refine WL.box (v := .agg #[.int .i64 x.op, .int .i64 x.a, .int .i64 x.b, .int .u64 x.k, .string x.name, .slice adx x.args.length capx]) (cs := [.int .i64 x.op, .int .i64 x.a, .int .i64 x.b, .int .u64 x.k, .string x.name, .slice adx x.args.length capx]) rfl rfl rfl rfl hS ?_
 clear hS; intro w2 b1 hb_b1 hS
 refine WL.alloc (tyZero_spec zer_99) rfl rfl hS ?_
 clear hS; intro w4 b3 hb_b3 hS
 refine WL.nil (N.seq (W.seq (W.region ?_)))
 refine WL.build (ps := []) (cs := [.slice none 0 0, .slice none 0 0, .slice none 0 0, .slice none 0 0]) rfl rfl rfl (by kernel_rfl) ?_
 refine WL.alloc (tyZero_spec zer_99) rfl rfl hS ?_
 clear hS; intro w6 b5 hb_b5 hS
 refine WL.store0 #[.slice none 0 0, .slice none 0 0, .slice none 0 0, .slice none 0 0] rfl rfl rfl rfl siz_99 rfl rfl rfl hS ?_
 clear hS; intro w7 hS
 refine WL.nil (N.seq (W.seq (W.seq (W.region (WL.fieldAddr fo_69_0 rfl rfl rfl (WL.load1 (v := .int .i64 x.op) one_3 rfl rfl rfl (hS.cell 2 rfl rfl) (WL.bin rfl rfl rfl rfl rfl (WL.nil (N.seq ?_)))))))))
 refine W.cond rfl (fun hc8 => ?_) (fun hc8 => ?_)
 ·
  have hc8p : x.op = 1 := by simpa using hc8
  refine W.seq (W.region (WL.fieldAddr fo_69_3 rfl rfl rfl (WL.load1 (v := .int .u64 x.k) one_52 rfl rfl rfl (hS.cell 2 rfl rfl) ?_)))
  have hkn : ((x.k.toNat : Nat) : Int) = x.k := by unfold inU at hkx; omega
  have hk64 : x.k.toNat < 18446744073709551616 := by unfold inU at hkx; omega
  have hll := lit_len (r := 5) hk64
  refine WL.set 15 (v' := .int .u64 ((x.k.toNat : Nat) : Int)) rfl (by rw [hkn]) ?_
  refine WL.callF (vs := [.int .i64 5, .int .u64 ((x.k.toNat : Nat) : Int)]) Tryd.func71 (by kernel_rfl) rfl rfl rfl (rlit_ret 5 x.k.toNat (inK (by omega)) hk64 (ro := ro) (fun b hb => (hS.snap b hb).1)) ?_
  rintro v w9 ⟨cr, how, hcr, _, hbl⟩
  replace hS := hS.callRow hbl how
  obtain ⟨adr, capr, rfl, _, _, _⟩ := row_shape how
  have hcr2 := chunks_oCells hcr; subst hcr2
  refine WL.move rfl rfl rfl ?_
  refine WL.callF (vs := [.int .i64 5, .int .i64 own]) Tryd.func54 (by kernel_rfl) rfl rfl rfl (rsave_ret 5 own (by omega) (by omega) (ro := ro) (fun b hb => (hS.snap b hb).1)) ?_
  rintro v w10 ⟨rfl, hbl⟩
  replace hS := hS.grow hbl
  refine WL.buildSlice (ps := [(0, .agg #[.int .i64 21, .int .i64 0, .int .i64 2, .int .i64 5, .int .i64 (8 + 8 * own)])]) (cs := [.int .i64 21, .int .i64 0, .int .i64 2, .int .i64 5, .int .i64 (8 + 8 * own)]) Tryd.underlying27 (tyZero_spec zer_36) rfl rfl rfl rfl (by kernel_rfl) hS ?_
  clear hS; intro w12 b11 hb_b11 hS
  refine WL.append (r := ⟨.slice adr ((lit 5 x.k.toNat).length) capr, 36, 5, (lit 5 x.k.toNat).length, (oCells (lit 5 x.k.toNat))⟩) (cs := [.int .i64 21, .int .i64 0, .int .i64 2, .int .i64 5, .int .i64 (8 + 8 * own)]) 40 Tryd.underlying27 (tyZero_spec zer_36) byt_36 rfl rfl rfl rfl rfl rfl rfl rfl rfl hS (by unfold maxLen; simp only; omega) (by simp only; omega) ?_
  clear hS; intro w13 v14 hn_v14 hS
  have hrow : w13.ownsRow w.heap.size 36 5 v14 ((lit 5 x.k.toNat).length + 1) _ := hS.rows _ List.mem_cons_self
  obtain ⟨av14, cv14, rfl, hc1_v14, hc2_v14, hc3_v14⟩ := row_shape hrow
  clear hrow
  refine WL.fieldAddr fo_99_0 rfl rfl rfl ?_
  refine WL.store0 #[.slice av14 ((lit 5 x.k.toNat).length + 1) cv14, .slice none 0 0, .slice none 0 0, .slice none 0 0] rfl rfl rfl rfl siz_27 rfl rfl rfl hS ?_
  clear hS; intro w15 hS
  refine WL.nil (N.seq (W.seq (W.region (WL.loadN (cs := [.slice av14 ((lit 5 x.k.toNat).length + 1) cv14, .slice none 0 0, .slice none 0 0, .slice none 0 0]) agg_99 rfl rfl rfl rfl (hS.cells 0 (m := 4) rfl rfl) ?_))))
  refine WL.store1 #[.slice av14 ((lit 5 x.k.toNat).length + 1) cv14, .slice none 0 0, .slice none 0 0, .slice none 0 0] rfl rfl rfl rfl siz_99 rfl rfl rfl hS ?_
  clear hS; intro w16 hS
  refine WL.nil (N.seq ?_)
  refine Fin.retC rfl (v := .agg #[.slice av14 ((lit 5 x.k.toNat).length + 1) cv14, .slice none 0 0, .slice none 0 0, .slice none 0 0]) rfl (tyAgg_run agg_99 (cs := [.slice av14 ((lit 5 x.k.toNat).length + 1) cv14, .slice none 0 0, .slice none 0 0, .slice none 0 0]) rfl (hS.cells 1 (m := 4) rfl rfl)) ?_
  have hg : give17 0 slots x = (lit 5 x.k.toNat, ([] : List DRel), 5) := by unfold give17; rw [if_pos (by omega)]
  have hO : (inst17 slots own x).ops = lit 5 x.k.toNat ++ [sv 5 own] := by unfold inst17; rw [hg]
  have hR : (inst17 slots own x).rels = [] := by unfold inst17; rw [hg]
  have hrw : ((oCells (lit 5 x.k.toNat)) ++ ([.int .i64 21, .int .i64 0, .int .i64 2, .int .i64 5, .int .i64 (8 + 8 * own)] : List Value) : List Value) = oCells (inst17 slots own x).ops := by rw [hO]; simp [oCells, opL, ld, sv]
  have hn : (lit 5 x.k.toNat).length + 1 = (inst17 slots own x).ops.length := by rw [hO]; simp [cargs_len]
  have H1 : SlV (fun b => w.heap.size ≤ b ∧ b < w16.heap.size) w16 5 OpC (.slice av14 ((lit 5 x.k.toNat).length + 1) cv14) (inst17 slots own x).ops := row_slv (hS.rows _ (List.mem_of_getElem? (i := 0) rfl)) (by show Chunks 5 OpC ((oCells (lit 5 x.k.toNat)) ++ ([.int .i64 21, .int .i64 0, .int .i64 2, .int .i64 5, .int .i64 (8 + 8 * own)] : List Value)) _; rw [hrw]; exact hpk.oC) hn (fun y hy => (hS.keys y (by simp only [keysOf, List.mem_append, List.mem_filterMap]; exact .inr ⟨_, List.mem_of_getElem? (i := 0) rfl, hy⟩)).imp id (·.1))
  have H2 : SlV (fun b => w.heap.size ≤ b ∧ b < w16.heap.size) w16 3 RelC (.slice none 0 0) (inst17 slots own x).rels := by rw [hR]; exact slv_nil
  exact ⟨_, rfl, ⟨_, _, _, _, rfl, H1, H2, slv_nil, slv_nil⟩, hS.below⟩
 have hc8p : ¬ (x.op = 1) := by simpa using hc8
 refine W.skip (N.seq (W.seq (W.seq (W.region (WL.fieldAddr fo_69_0 rfl rfl rfl (WL.load1 (v := .int .i64 x.op) one_3 rfl rfl rfl (hS.cell 2 rfl rfl) (WL.bin rfl rfl rfl rfl rfl ?_)))))))
 refine WL.set 25 (v' := .bool true) rfl (by have := hop.1; simp; omega) ?_
 refine WL.move rfl rfl rfl (WL.fieldAddr fo_69_0 rfl rfl rfl (WL.load1 (v := .int .i64 x.op) one_3 rfl rfl rfl (hS.cell 2 rfl rfl) (WL.bin rfl rfl rfl rfl rfl (WL.pick (v := .bool (decide (x.op ≤ 11))) rfl rfl rfl rfl rfl rfl (WL.nil (N.seq ?_))))))
 refine W.cond rfl (fun hc17 => ?_) (fun hc17 => ?_)
 ·
  have hc17p : x.op ≤ 11 := by simpa using hc17
  refine W.seq (W.region ?_)
  refine WL.buildSlice (ps := [(0, .int .i64 1), (1, .int .i64 2), (2, .int .i64 9), (3, .int .i64 8), (4, .int .i64 7), (5, .int .i64 5), (6, .int .i64 3), (7, .int .i64 6), (8, .int .i64 4), (9, .int .i64 2)]) (cs := [.int .i64 1, .int .i64 2, .int .i64 9, .int .i64 8, .int .i64 7, .int .i64 5, .int .i64 3, .int .i64 6, .int .i64 4, .int .i64 2]) Tryd.underlying55 (tyZero_spec zer_3) rfl rfl rfl rfl (by kernel_rfl) hS ?_
  clear hS; intro w19 b18 hb_b18 hS
  refine WL.assign rfl rfl rfl (WL.nil (N.seq (W.seq ?_)))
  have hv_a := huse x.a (uses5_a (by omega))
  have hvn_a : ((x.a.toNat : Nat) : Int) = x.a := by omega
  have hj20 : x.a.toNat < slots.length := by omega
  obtain ⟨x20, hx20, b20, o20, cs20, hE20, hr20, _, hc20, hQ20⟩ := opn hsld hj20
  obtain ⟨rfl, hi20⟩ := hQ20
  have hsb_a := hsb _ (List.mem_of_getElem? hx20)
  have hsl_a := slotAt_some hx20
  have hv_b := huse x.b (uses5_b (by omega))
  have hvn_b : ((x.b.toNat : Nat) : Int) = x.b := by omega
  have hj21 : x.b.toNat < slots.length := by omega
  obtain ⟨x21, hx21, b21, o21, cs21, hE21, hr21, _, hc21, hQ21⟩ := opn hsld hj21
  obtain ⟨rfl, hi21⟩ := hQ21
  have hsb_b := hsb _ (List.mem_of_getElem? hx21)
  have hsl_b := slotAt_some hx21
  refine W.drawP (by kernel_rfl) 21 [(fun v _ => v = .slice ads slots.length caps), (fun v _ => v = .pointer (some ⟨b1, 1, none⟩)), (fun v _ => v = .int .i64 x.a), (fun v _ => v = .pointer (some ⟨b20, o20 + x.a.toNat * 1, none⟩)), (fun v _ => v = .int .i64 x20), (fun v _ => v = .agg #[.int .i64 19, .int .i64 5, .int .i64 2, .int .i64 0, .int .i64 (8 + 8 * x20)]), (fun v _ => v = .slice ads slots.length caps), (fun v _ => v = .pointer (some ⟨b1, 2, none⟩)), (fun v _ => v = .int .i64 x.b), (fun v _ => v = .pointer (some ⟨b21, o21 + x.b.toNat * 1, none⟩)), (fun v _ => v = .int .i64 x21), (fun v _ => v = .agg #[.int .i64 19, .int .i64 6, .int .i64 2, .int .i64 0, .int .i64 (8 + 8 * x21)]), (fun v _ => v = .slice (some ⟨b18, 0, none⟩) 10 10), (fun v _ => v = .pointer (some ⟨b1, 0, none⟩)), (fun v _ => v = .int .i64 x.op), (fun v _ => v = .int .i64 (x.op - 2)), (fun v _ => v = .pointer (some ⟨b18, 0 + (x.op - 2).toNat * 1, none⟩)), (fun v _ => v = .int .i64 (reckK x.op)), (fun v _ => v = .agg #[.int .i64 (reckK x.op), .int .i64 5, .int .i64 5, .int .i64 6, .int .i64 0]), (fun v u => ∃ b, v = .slice (some ⟨b, 0, none⟩) 3 3 ∧ w19.heap.size ≤ b ∧ u.heap[b]? = some (.cells ([.int .i64 19, .int .i64 5, .int .i64 2, .int .i64 0, .int .i64 (8 + 8 * x20), .int .i64 19, .int .i64 6, .int .i64 2, .int .i64 0, .int .i64 (8 + 8 * x21), .int .i64 (reckK x.op), .int .i64 5, .int .i64 5, .int .i64 6, .int .i64 0] : List Value).toArray 36 (0, 0))), (fun v _ => v = .pointer (some ⟨b5, 0, none⟩))] (by kernel_rfl) rfl (by kernel_rfl) [(1, .slice ads slots.length caps), (2, .int .i64 own), (3, .pointer (some ⟨b1, 0, none⟩)), (6, .pointer (some ⟨b3, 0, none⟩)), (7, .pointer (some ⟨b5, 0, none⟩)), (8, .slice (some ⟨b18, 0, none⟩) 10 10)] ⟨rfl, rfl, rfl, rfl, rfl, rfl, trivial⟩ rfl ⟨stays_eq, stays_eq, stays_eq, stays_eq, stays_eq, stays_eq, stays_eq, stays_eq, stays_eq, stays_eq, stays_eq, stays_eq, stays_eq, stays_eq, stays_eq, stays_eq, stays_eq, stays_eq, stays_eq, stays_lit1, stays_eq, trivial⟩ ?_ ?_
  ·
   refine And.intro (fun β wd hb hD => ?_) ?_
   ·
    have hS := hS.grow hb
    refine WL.move rfl rfl rfl ?_
    exact WL.nil (N.cut _ ⟨rfl, trivial⟩ ⟨(Below.refl _ _), rfl⟩)
   refine And.intro (fun β wd hb hD => ?_) ?_
   ·
    have hS := hS.grow hb
    refine WL.fieldAddr fo_69_1 rfl rfl rfl ?_
    exact WL.nil (N.cut _ ⟨rfl, trivial⟩ ⟨(Below.refl _ _), rfl⟩)
   refine And.intro (fun β wd hb hD => ?_) ?_
   ·
    obtain ⟨hp1, _⟩ := hD
    replace hp1 : β 1 = .pointer (some ⟨b1, 1, none⟩) := hp1
    refine WL.sub (σ' := [(33, .pointer (some ⟨b1, 1, none⟩))]) ⟨congrArg some hp1, trivial⟩ ?_
    have hS := hS.grow hb
    refine WL.load1 (v := .int .i64 x.a) one_3 rfl rfl rfl (hS.cell 3 rfl rfl) ?_
    exact WL.nil (N.cut _ ⟨rfl, trivial⟩ ⟨(Below.refl _ _), rfl⟩)
   refine And.intro (fun β wd hb hD => ?_) ?_
   ·
    obtain ⟨hp0, hp2, _⟩ := hD
    replace hp0 : β 0 = .slice ads slots.length caps := hp0
    replace hp2 : β 2 = .int .i64 x.a := hp2
    refine WL.sub (σ' := [(32, .slice ads slots.length caps), (34, .int .i64 x.a)]) ⟨congrArg some hp0, congrArg some hp2, trivial⟩ ?_
    have hS := hS.grow hb
    refine WL.set 34 (v' := .int .i64 (x.a.toNat : Int)) rfl (congrArg _ (by omega)) ?_
    refine WL.indexAddrE (j := x.a.toNat) Tryd.underlying55 isz_3 rfl rfl rfl rfl hj20 hE20 ?_
    exact WL.nil (N.cut _ ⟨rfl, trivial⟩ ⟨(Below.refl _ _), rfl⟩)
   refine And.intro (fun β wd hb hD => ?_) ?_
   ·
    obtain ⟨hp3, _⟩ := hD
    replace hp3 : β 3 = .pointer (some ⟨b20, o20 + x.a.toNat * 1, none⟩) := hp3
    refine WL.sub (σ' := [(35, .pointer (some ⟨b20, o20 + x.a.toNat * 1, none⟩))]) ⟨congrArg some hp3, trivial⟩ ?_
    have hS := hS.grow hb
    refine WL.load1 (v := .int .i64 x20) one_3 rfl rfl rfl (hS.roCells hr20 hc20 0 _ rfl) ?_
    exact WL.nil (N.cut _ ⟨rfl, trivial⟩ ⟨(Below.refl _ _), rfl⟩)
   refine And.intro (fun β wd hb hD => ?_) ?_
   ·
    obtain ⟨hp4, _⟩ := hD
    replace hp4 : β 4 = .int .i64 x20 := hp4
    refine WL.sub (σ' := [(36, .int .i64 x20)]) ⟨congrArg some hp4, trivial⟩ ?_
    have hS := hS.grow hb
    refine WL.callF (vs := [.int .i64 5, .int .i64 x20]) Tryd.func72 (by kernel_rfl) rfl rfl rfl (rload_ret 5 x20 (by omega) (by omega) (ro := ro) (fun b hb => (hS.snap b hb).1)) ?_
    rintro v w24 ⟨rfl, hbl⟩
    replace hS := hS.grow hbl
    exact WL.nil (N.cut _ ⟨rfl, trivial⟩ ⟨hbl, rfl⟩)
   refine And.intro (fun β wd hb hD => ?_) ?_
   ·
    have hS := hS.grow hb
    refine WL.move rfl rfl rfl ?_
    exact WL.nil (N.cut _ ⟨rfl, trivial⟩ ⟨(Below.refl _ _), rfl⟩)
   refine And.intro (fun β wd hb hD => ?_) ?_
   ·
    have hS := hS.grow hb
    refine WL.fieldAddr fo_69_2 rfl rfl rfl ?_
    exact WL.nil (N.cut _ ⟨rfl, trivial⟩ ⟨(Below.refl _ _), rfl⟩)
   refine And.intro (fun β wd hb hD => ?_) ?_
   ·
    obtain ⟨hp7, _⟩ := hD
    replace hp7 : β 7 = .pointer (some ⟨b1, 2, none⟩) := hp7
    refine WL.sub (σ' := [(39, .pointer (some ⟨b1, 2, none⟩))]) ⟨congrArg some hp7, trivial⟩ ?_
    have hS := hS.grow hb
    refine WL.load1 (v := .int .i64 x.b) one_3 rfl rfl rfl (hS.cell 3 rfl rfl) ?_
    exact WL.nil (N.cut _ ⟨rfl, trivial⟩ ⟨(Below.refl _ _), rfl⟩)
   refine And.intro (fun β wd hb hD => ?_) ?_
   ·
    obtain ⟨hp6, hp8, _⟩ := hD
    replace hp6 : β 6 = .slice ads slots.length caps := hp6
    replace hp8 : β 8 = .int .i64 x.b := hp8
    refine WL.sub (σ' := [(38, .slice ads slots.length caps), (40, .int .i64 x.b)]) ⟨congrArg some hp6, congrArg some hp8, trivial⟩ ?_
    have hS := hS.grow hb
    refine WL.set 40 (v' := .int .i64 (x.b.toNat : Int)) rfl (congrArg _ (by omega)) ?_
    refine WL.indexAddrE (j := x.b.toNat) Tryd.underlying55 isz_3 rfl rfl rfl rfl hj21 hE21 ?_
    exact WL.nil (N.cut _ ⟨rfl, trivial⟩ ⟨(Below.refl _ _), rfl⟩)
   refine And.intro (fun β wd hb hD => ?_) ?_
   ·
    obtain ⟨hp9, _⟩ := hD
    replace hp9 : β 9 = .pointer (some ⟨b21, o21 + x.b.toNat * 1, none⟩) := hp9
    refine WL.sub (σ' := [(41, .pointer (some ⟨b21, o21 + x.b.toNat * 1, none⟩))]) ⟨congrArg some hp9, trivial⟩ ?_
    have hS := hS.grow hb
    refine WL.load1 (v := .int .i64 x21) one_3 rfl rfl rfl (hS.roCells hr21 hc21 0 _ rfl) ?_
    exact WL.nil (N.cut _ ⟨rfl, trivial⟩ ⟨(Below.refl _ _), rfl⟩)
   refine And.intro (fun β wd hb hD => ?_) ?_
   ·
    obtain ⟨hp10, _, _⟩ := hD
    replace hp10 : β 10 = .int .i64 x21 := hp10
    refine WL.sub (σ' := [(42, .int .i64 x21)]) ⟨congrArg some hp10, trivial⟩ ?_
    have hS := hS.grow hb
    refine WL.callF (vs := [.int .i64 6, .int .i64 x21]) Tryd.func72 (by kernel_rfl) rfl rfl rfl (rload_ret 6 x21 (by omega) (by omega) (ro := ro) (fun b hb => (hS.snap b hb).1)) ?_
    rintro v w25 ⟨rfl, hbl⟩
    replace hS := hS.grow hbl
    exact WL.nil (N.cut _ ⟨rfl, trivial⟩ ⟨hbl, rfl⟩)
   refine And.intro (fun β wd hb hD => ?_) ?_
   ·
    have hS := hS.grow hb
    refine WL.move rfl rfl rfl ?_
    exact WL.nil (N.cut _ ⟨rfl, trivial⟩ ⟨(Below.refl _ _), rfl⟩)
   refine And.intro (fun β wd hb hD => ?_) ?_
   ·
    have hS := hS.grow hb
    refine WL.fieldAddr fo_69_0 rfl rfl rfl ?_
    exact WL.nil (N.cut _ ⟨rfl, trivial⟩ ⟨(Below.refl _ _), rfl⟩)
   refine And.intro (fun β wd hb hD => ?_) ?_
   ·
    obtain ⟨hp13, _⟩ := hD
    replace hp13 : β 13 = .pointer (some ⟨b1, 0, none⟩) := hp13
    refine WL.sub (σ' := [(45, .pointer (some ⟨b1, 0, none⟩))]) ⟨congrArg some hp13, trivial⟩ ?_
    have hS := hS.grow hb
    refine WL.load1 (v := .int .i64 x.op) one_3 rfl rfl rfl (hS.cell 3 rfl rfl) ?_
    exact WL.nil (N.cut _ ⟨rfl, trivial⟩ ⟨(Below.refl _ _), rfl⟩)
   refine And.intro (fun β wd hb hD => ?_) ?_
   ·
    obtain ⟨hp14, _⟩ := hD
    replace hp14 : β 14 = .int .i64 x.op := hp14
    refine WL.sub (σ' := [(46, .int .i64 x.op)]) ⟨congrArg some hp14, trivial⟩ ?_
    have hS := hS.grow hb
    refine WL.sub_ (c := x.op - 2) rfl rfl rfl rfl (rfl) (by omega) ?_
    exact WL.nil (N.cut _ ⟨rfl, trivial⟩ ⟨(Below.refl _ _), rfl⟩)
   refine And.intro (fun β wd hb hD => ?_) ?_
   ·
    obtain ⟨hp12, hp15, _⟩ := hD
    replace hp12 : β 12 = .slice (some ⟨b18, 0, none⟩) 10 10 := hp12
    replace hp15 : β 15 = .int .i64 (x.op - 2) := hp15
    refine WL.sub (σ' := [(44, .slice (some ⟨b18, 0, none⟩) 10 10), (47, .int .i64 (x.op - 2))]) ⟨congrArg some hp12, congrArg some hp15, trivial⟩ ?_
    have hS := hS.grow hb
    refine WL.set 47 (v' := .int .i64 (((x.op - 2).toNat : Nat) : Int)) rfl (congrArg _ (by omega)) ?_
    refine WL.indexAddr (j := (x.op - 2).toNat) Tryd.underlying55 isz_3 rfl rfl rfl rfl (by omega) ?_
    exact WL.nil (N.cut _ ⟨rfl, trivial⟩ ⟨(Below.refl _ _), rfl⟩)
   refine And.intro (fun β wd hb hD => ?_) ?_
   ·
    obtain ⟨hp16, _⟩ := hD
    replace hp16 : β 16 = .pointer (some ⟨b18, 0 + (x.op - 2).toNat * 1, none⟩) := hp16
    refine WL.sub (σ' := [(48, .pointer (some ⟨b18, 0 + (x.op - 2).toNat * 1, none⟩))]) ⟨congrArg some hp16, trivial⟩ ?_
    have hS := hS.grow hb
    refine WL.load1 (v := .int .i64 (reckK x.op)) one_3 rfl rfl rfl (hS.cell 0 rfl (kinds_at (by omega))) ?_
    exact WL.nil (N.cut _ ⟨rfl, trivial⟩ ⟨(Below.refl _ _), rfl⟩)
   refine And.intro (fun β wd hb hD => ?_) ?_
   ·
    obtain ⟨hp17, _⟩ := hD
    replace hp17 : β 17 = .int .i64 (reckK x.op) := hp17
    refine WL.sub (σ' := [(49, .int .i64 (reckK x.op))]) ⟨congrArg some hp17, trivial⟩ ?_
    have hS := hS.grow hb
    refine WL.build (ps := [(0, .int .i64 (reckK x.op)), (1, .int .i64 5), (2, .int .i64 5), (3, .int .i64 6)]) (cs := [.int .i64 (reckK x.op), .int .i64 5, .int .i64 5, .int .i64 6, .int .i64 0]) rfl rfl rfl (by kernel_rfl) ?_
    exact WL.nil (N.cut _ ⟨rfl, trivial⟩ ⟨(Below.refl _ _), rfl⟩)
   refine And.intro (fun β wd hb hD => ?_) ?_
   ·
    obtain ⟨hp5, hp11, hp18, _⟩ := hD
    replace hp5 : β 5 = .agg #[.int .i64 19, .int .i64 5, .int .i64 2, .int .i64 0, .int .i64 (8 + 8 * x20)] := hp5
    replace hp11 : β 11 = .agg #[.int .i64 19, .int .i64 6, .int .i64 2, .int .i64 0, .int .i64 (8 + 8 * x21)] := hp11
    replace hp18 : β 18 = .agg #[.int .i64 (reckK x.op), .int .i64 5, .int .i64 5, .int .i64 6, .int .i64 0] := hp18
    refine WL.sub (σ' := [(37, .agg #[.int .i64 19, .int .i64 5, .int .i64 2, .int .i64 0, .int .i64 (8 + 8 * x20)]), (43, .agg #[.int .i64 19, .int .i64 6, .int .i64 2, .int .i64 0, .int .i64 (8 + 8 * x21)]), (50, .agg #[.int .i64 (reckK x.op), .int .i64 5, .int .i64 5, .int .i64 6, .int .i64 0])]) ⟨congrArg some hp5, congrArg some hp11, congrArg some hp18, trivial⟩ ?_
    have hS := hS.grow hb
    have hX := St.start (w := wd) (ro := fun z => z < wd.heap.size) (fun _ h => h)
    refine WL.buildSlice (ps := [(0, .agg #[.int .i64 19, .int .i64 5, .int .i64 2, .int .i64 0, .int .i64 (8 + 8 * x20)]), (1, .agg #[.int .i64 19, .int .i64 6, .int .i64 2, .int .i64 0, .int .i64 (8 + 8 * x21)]), (2, .agg #[.int .i64 (reckK x.op), .int .i64 5, .int .i64 5, .int .i64 6, .int .i64 0])]) (cs := [.int .i64 19, .int .i64 5, .int .i64 2, .int .i64 0, .int .i64 (8 + 8 * x20), .int .i64 19, .int .i64 6, .int .i64 2, .int .i64 0, .int .i64 (8 + 8 * x21), .int .i64 (reckK x.op), .int .i64 5, .int .i64 5, .int .i64 6, .int .i64 0]) Tryd.underlying27 (tyZero_spec zer_36) rfl rfl rfl rfl (by kernel_rfl) hX ?_
    clear hX; intro w27 b26 hb_b26 hX
    exact WL.nil (N.cut _ ⟨rfl, trivial⟩ ⟨hX.below, ⟨_, rfl, Nat.le_trans hb.size (hX.keys _ (by simp [keysOf])).1, hX.own _ List.mem_cons_self⟩⟩)
   refine And.intro (fun β wd hb hD => ?_) ?_
   ·
    have hS := hS.grow hb
    refine WL.fieldAddr fo_99_0 rfl rfl rfl ?_
    exact WL.nil (N.cut _ ⟨rfl, trivial⟩ ⟨(Below.refl _ _), rfl⟩)
   trivial
  intro β w28 hb hD
  obtain ⟨hp0, hp1, hp2, hp3, hp4, hp5, hp6, hp7, hp8, hp9, hp10, hp11, hp12, hp13, hp14, hp15, hp16, hp17, hp18, hp19, hp20, _⟩ := hD
  refine WL.sub (σ' := [(1, .slice ads slots.length caps), (2, .int .i64 own), (3, .pointer (some ⟨b1, 0, none⟩)), (6, .pointer (some ⟨b3, 0, none⟩)), (7, .pointer (some ⟨b5, 0, none⟩)), (8, .slice (some ⟨b18, 0, none⟩) 10 10), (32, .slice ads slots.length caps), (33, .pointer (some ⟨b1, 1, none⟩)), (34, .int .i64 x.a), (35, .pointer (some ⟨b20, o20 + x.a.toNat * 1, none⟩)), (36, .int .i64 x20), (37, .agg #[.int .i64 19, .int .i64 5, .int .i64 2, .int .i64 0, .int .i64 (8 + 8 * x20)]), (38, .slice ads slots.length caps), (39, .pointer (some ⟨b1, 2, none⟩)), (40, .int .i64 x.b), (41, .pointer (some ⟨b21, o21 + x.b.toNat * 1, none⟩)), (42, .int .i64 x21), (43, .agg #[.int .i64 19, .int .i64 6, .int .i64 2, .int .i64 0, .int .i64 (8 + 8 * x21)]), (44, .slice (some ⟨b18, 0, none⟩) 10 10), (45, .pointer (some ⟨b1, 0, none⟩)), (46, .int .i64 x.op), (47, .int .i64 (x.op - 2)), (48, .pointer (some ⟨b18, 0 + (x.op - 2).toNat * 1, none⟩)), (49, .int .i64 (reckK x.op)), (50, .agg #[.int .i64 (reckK x.op), .int .i64 5, .int .i64 5, .int .i64 6, .int .i64 0]), (51, (β 19)), (52, .pointer (some ⟨b5, 0, none⟩))]) ⟨rfl, rfl, rfl, rfl, rfl, rfl, congrArg some (show β 0 = .slice ads slots.length caps from hp0), congrArg some (show β 1 = .pointer (some ⟨b1, 1, none⟩) from hp1), congrArg some (show β 2 = .int .i64 x.a from hp2), congrArg some (show β 3 = .pointer (some ⟨b20, o20 + x.a.toNat * 1, none⟩) from hp3), congrArg some (show β 4 = .int .i64 x20 from hp4), congrArg some (show β 5 = .agg #[.int .i64 19, .int .i64 5, .int .i64 2, .int .i64 0, .int .i64 (8 + 8 * x20)] from hp5), congrArg some (show β 6 = .slice ads slots.length caps from hp6), congrArg some (show β 7 = .pointer (some ⟨b1, 2, none⟩) from hp7), congrArg some (show β 8 = .int .i64 x.b from hp8), congrArg some (show β 9 = .pointer (some ⟨b21, o21 + x.b.toNat * 1, none⟩) from hp9), congrArg some (show β 10 = .int .i64 x21 from hp10), congrArg some (show β 11 = .agg #[.int .i64 19, .int .i64 6, .int .i64 2, .int .i64 0, .int .i64 (8 + 8 * x21)] from hp11), congrArg some (show β 12 = .slice (some ⟨b18, 0, none⟩) 10 10 from hp12), congrArg some (show β 13 = .pointer (some ⟨b1, 0, none⟩) from hp13), congrArg some (show β 14 = .int .i64 x.op from hp14), congrArg some (show β 15 = .int .i64 (x.op - 2) from hp15), congrArg some (show β 16 = .pointer (some ⟨b18, 0 + (x.op - 2).toNat * 1, none⟩) from hp16), congrArg some (show β 17 = .int .i64 (reckK x.op) from hp17), congrArg some (show β 18 = .agg #[.int .i64 (reckK x.op), .int .i64 5, .int .i64 5, .int .i64 6, .int .i64 0] from hp18), rfl, congrArg some (show β 20 = .pointer (some ⟨b5, 0, none⟩) from hp20), trivial⟩ ?_
  have hSd := hS
  replace hS := hS.grow hb
  replace hp19 : (fun v u => ∃ b, v = .slice (some ⟨b, 0, none⟩) 3 3 ∧ w19.heap.size ≤ b ∧ u.heap[b]? = some (.cells ([.int .i64 19, .int .i64 5, .int .i64 2, .int .i64 0, .int .i64 (8 + 8 * x20), .int .i64 19, .int .i64 6, .int .i64 2, .int .i64 0, .int .i64 (8 + 8 * x21), .int .i64 (reckK x.op), .int .i64 5, .int .i64 5, .int .i64 6, .int .i64 0] : List Value).toArray 36 (0, 0))) (β 19) w28 := hp19
  generalize β 19 = z19 at hp19 ⊢
  obtain ⟨b7, rfl, hge7, hbq7⟩ := hp19
  replace hS := hSd.callOwn hb hge7 hbq7
  replace hS := hS.toRow (n := 3) (cap := 3) (sz := 5) (xs := [.int .i64 19, .int .i64 5, .int .i64 2, .int .i64 0, .int .i64 (8 + 8 * x20), .int .i64 19, .int .i64 6, .int .i64 2, .int .i64 0, .int .i64 (8 + 8 * x21), .int .i64 (reckK x.op), .int .i64 5, .int .i64 5, .int .i64 6, .int .i64 0]) rfl rfl (Nat.le_refl _) (by decide)
  refine WL.store1 #[.slice (some ⟨b7, 0, none⟩) 3 3, .slice none 0 0, .slice none 0 0, .slice none 0 0] rfl rfl rfl rfl siz_27 rfl rfl rfl hS ?_
  clear hS; intro w29 hS
  refine WL.nil (N.seq (W.seq (W.seq (W.region (WL.fieldAddr fo_69_0 rfl rfl rfl (WL.load1 (v := .int .i64 x.op) one_3 rfl rfl rfl (hS.cell 3 rfl rfl) (WL.bin rfl rfl rfl rfl rfl (WL.nil (N.seq ?_)))))))))
  refine W.cond rfl (fun hc30 => ?_) (fun hc30 => ?_)
  ·
   have hc30p : x.op = 11 := by simpa using hc30
   refine W.region (WL.fieldAddr fo_99_0 rfl rfl rfl (WL.load1 (v := .slice (some ⟨b7, 0, none⟩) 3 3) one_27 rfl rfl rfl (hS.cell 1 rfl rfl) ?_))
   refine WL.build (ps := [(0, .int .i64 13), (1, .int .i64 5), (2, .int .i64 5), (4, .int .i64 1)]) (cs := [.int .i64 13, .int .i64 5, .int .i64 5, .int .i64 0, .int .i64 1]) rfl rfl rfl (by kernel_rfl) ?_
   refine WL.buildSlice (ps := [(0, .agg #[.int .i64 13, .int .i64 5, .int .i64 5, .int .i64 0, .int .i64 1])]) (cs := [.int .i64 13, .int .i64 5, .int .i64 5, .int .i64 0, .int .i64 1]) Tryd.underlying27 (tyZero_spec zer_36) rfl rfl rfl rfl (by kernel_rfl) hS ?_
   clear hS; intro w32 b31 hb_b31 hS
   refine WL.append (r := ⟨.slice (some ⟨b7, 0, none⟩) 3 3, 36, 5, 3, [.int .i64 19, .int .i64 5, .int .i64 2, .int .i64 0, .int .i64 (8 + 8 * x20), .int .i64 19, .int .i64 6, .int .i64 2, .int .i64 0, .int .i64 (8 + 8 * x21), .int .i64 (reckK x.op), .int .i64 5, .int .i64 5, .int .i64 6, .int .i64 0]⟩) (cs := [.int .i64 13, .int .i64 5, .int .i64 5, .int .i64 0, .int .i64 1]) 40 Tryd.underlying27 (tyZero_spec zer_36) byt_36 rfl rfl rfl rfl rfl rfl rfl rfl rfl hS (by unfold maxLen; simp only; omega) (by simp only; omega) ?_
   clear hS; intro w33 v34 hn_v34 hS
   have hrow : w33.ownsRow w.heap.size 36 5 v34 (3 + 1) _ := hS.rows _ List.mem_cons_self
   obtain ⟨av34, cv34, rfl, hc1_v34, hc2_v34, hc3_v34⟩ := row_shape hrow
   clear hrow
   refine WL.fieldAddr fo_99_0 rfl rfl rfl ?_
   refine WL.store1 #[.slice av34 (3 + 1) cv34, .slice none 0 0, .slice none 0 0, .slice none 0 0] rfl rfl rfl rfl siz_27 rfl rfl rfl hS ?_
   clear hS; intro w35 hS
   refine WL.nil (N.seq (W.seq ?_))
   refine W.drawA0 (S := fun u => True) (by kernel_rfl) (fun w36 hbd => ?_)
   replace hS := hS.grow hbd
   refine WA.conv (fuel' := 5 + 3) (listed' := (lb 8 0)) (by kernel_rfl) (by kernel_rfl) (WA.phaseI [(0, (fun v _ => v = .pointer (some ⟨b5, 0, none⟩))), (1, (fun v _ => v = .slice av34 (3 + 1) cv34)), (2, (fun v _ => v = .int .i64 own)), (3, (fun v _ => v = .agg #[.int .i64 21, .int .i64 0, .int .i64 2, .int .i64 5, .int .i64 (8 + 8 * own)])), (4, (fun v u => ∃ b, v = .slice (some ⟨b, 0, none⟩) 1 1 ∧ u.heap[b]? = some (.cells [.int .i64 21, .int .i64 0, .int .i64 2, .int .i64 5, .int .i64 (8 + 8 * own)].toArray 36 (0, 0))))] (by kernel_rfl) [(1, .slice ads slots.length caps), (2, .int .i64 own), (3, .pointer (some ⟨b1, 0, none⟩)), (6, .pointer (some ⟨b3, 0, none⟩)), (7, .pointer (some ⟨b5, 0, none⟩))] ⟨rfl, rfl, rfl, rfl, rfl, trivial⟩ (by kernel_rfl) ⟨stays_eq, stays_eq, stays_eq, stays_eq, (fun v u u2 h hb => h.elim fun b h => ⟨b, h.1, (hb.block b (Array.getElem?_eq_some_iff.1 h.2).1).trans h.2⟩), trivial⟩ ?_ (fun _ _ => trivial) ?_)
   ·
    refine ⟨fun β wd hb hD => ⟨_, rfl, ?_⟩, ?_⟩
    ·
     have hS := hS.grow hb
     refine WL.fieldAddr fo_99_0 rfl rfl rfl ?_
     exact WL.nil (N.cut _ ⟨rfl, trivial⟩ ⟨(Below.refl _ _), rfl⟩)
    refine ⟨fun β wd hb hD => ⟨_, rfl, ?_⟩, ?_⟩
    ·
     obtain ⟨hp0, _⟩ := hD
     replace hp0 : β 0 = .pointer (some ⟨b5, 0, none⟩) := hp0
     refine WL.sub (σ' := [(62, .pointer (some ⟨b5, 0, none⟩))]) ⟨congrArg some hp0, trivial⟩ ?_
     have hS := hS.grow hb
     refine WL.load1 (v := .slice av34 (3 + 1) cv34) one_27 rfl rfl rfl (hS.cell 1 rfl rfl) ?_
     exact WL.nil (N.cut _ ⟨rfl, trivial⟩ ⟨(Below.refl _ _), rfl⟩)
    refine ⟨fun β wd hb hD => ⟨_, rfl, ?_⟩, ?_⟩
    ·
     have hS := hS.grow hb
     refine WL.move rfl rfl rfl ?_
     exact WL.nil (N.cut _ ⟨rfl, trivial⟩ ⟨(Below.refl _ _), rfl⟩)
    refine ⟨fun β wd hb hD => ⟨_, rfl, ?_⟩, ?_⟩
    ·
     obtain ⟨hp2, _⟩ := hD
     replace hp2 : β 2 = .int .i64 own := hp2
     refine WL.sub (σ' := [(64, .int .i64 own)]) ⟨congrArg some hp2, trivial⟩ ?_
     have hS := hS.grow hb
     refine WL.callF (vs := [.int .i64 5, .int .i64 own]) Tryd.func54 (by kernel_rfl) rfl rfl rfl (rsave_ret 5 own (by omega) (by omega) (ro := ro) (fun b hb => (hS.snap b hb).1)) ?_
     rintro v w38 ⟨rfl, hbl⟩
     replace hS := hS.grow hbl
     exact WL.nil (N.cut _ ⟨rfl, trivial⟩ ⟨hbl, rfl⟩)
    refine ⟨fun β wd hb hD => ⟨_, rfl, ?_⟩, ?_⟩
    ·
     obtain ⟨hp3, _⟩ := hD
     replace hp3 : β 3 = .agg #[.int .i64 21, .int .i64 0, .int .i64 2, .int .i64 5, .int .i64 (8 + 8 * own)] := hp3
     refine WL.sub (σ' := [(65, .agg #[.int .i64 21, .int .i64 0, .int .i64 2, .int .i64 5, .int .i64 (8 + 8 * own)])]) ⟨congrArg some hp3, trivial⟩ ?_
     have hS := hS.grow hb
     have hX := St.start (w := wd) (ro := fun z => z < wd.heap.size) (fun _ h => h)
     refine WL.buildSlice (ps := [(0, .agg #[.int .i64 21, .int .i64 0, .int .i64 2, .int .i64 5, .int .i64 (8 + 8 * own)])]) (cs := [.int .i64 21, .int .i64 0, .int .i64 2, .int .i64 5, .int .i64 (8 + 8 * own)]) Tryd.underlying27 (tyZero_spec zer_36) rfl rfl rfl rfl (by kernel_rfl) hX ?_
     clear hX; intro w40 b39 hb_b39 hX
     exact WL.nil (N.cut _ ⟨rfl, trivial⟩ ⟨hX.below, ⟨_, rfl, hX.own _ List.mem_cons_self⟩⟩)
    trivial
   intro β w41 hb hD
   obtain ⟨hp0, hp1, hp2, hp3, hp4, _⟩ := hD
   refine WA.sub (σ' := [(1, .slice ads slots.length caps), (2, .int .i64 own), (3, .pointer (some ⟨b1, 0, none⟩)), (6, .pointer (some ⟨b3, 0, none⟩)), (7, .pointer (some ⟨b5, 0, none⟩)), (63, .slice av34 (3 + 1) cv34), (66, (β 4))]) ⟨rfl, rfl, rfl, rfl, rfl, congrArg some (show β 1 = .slice av34 (3 + 1) cv34 from hp1), rfl, trivial⟩ ?_
   have hSd := hS
   replace hS := hS.grow hb
   replace hp4 : (fun v u => ∃ b, v = .slice (some ⟨b, 0, none⟩) 1 1 ∧ u.heap[b]? = some (.cells [.int .i64 21, .int .i64 0, .int .i64 2, .int .i64 5, .int .i64 (8 + 8 * own)].toArray 36 (0, 0))) (β 4) w41 := hp4
   generalize β 4 = z4 at hp4 ⊢
   refine WA.conv (fuel' := 2 + 1) (listed' := (lb 8 31)) (by kernel_rfl) (by kernel_rfl) (WA.stepS 5 (by kernel_rfl) rfl ?_)
   obtain ⟨bq4, rfl, hbq4⟩ := hp4
   have hcq4 := cellsAt_block hbq4
   refine WL.appendRo (r := ⟨.slice av34 (3 + 1) cv34, 36, 5, 3 + 1, [.int .i64 19, .int .i64 5, .int .i64 2, .int .i64 0, .int .i64 (8 + 8 * x20), .int .i64 19, .int .i64 6, .int .i64 2, .int .i64 0, .int .i64 (8 + 8 * x21), .int .i64 (reckK x.op), .int .i64 5, .int .i64 5, .int .i64 6, .int .i64 0] ++ ([.int .i64 13, .int .i64 5, .int .i64 5, .int .i64 0, .int .i64 1] : List Value)⟩) (news := [.int .i64 21, .int .i64 0, .int .i64 2, .int .i64 5, .int .i64 (8 + 8 * own)]) 40 Tryd.underlying27 (tyZero_spec zer_36) byt_36 rfl rfl rfl rfl rfl rfl (fun e => by cases e) (fun b off e => by cases e; exact hcq4) (fun a e _ => by cases e; rfl) (by intro u hu; simp only [List.mem_cons, List.not_mem_nil, or_false] at hu; rcases hu with rfl | rfl | rfl | rfl | rfl <;> rfl) rfl rfl hS (by simp only; unfold maxLen; omega) (by simp only; omega) ?_
   clear hS; intro w42 v43 hS hnn
   have hrow : w42.ownsRow w.heap.size 36 5 v43 (3 + 1 + 1) _ := hS.rows _ List.mem_cons_self
   obtain ⟨av43, cv43, rfl, hc1_v43, hc2_v43, hc3_v43⟩ := row_shape hrow
   clear hrow
   refine WL.nil (N.restS trivial ?_)
   refine WA.conv (fuel' := 1 + 1) (listed' := (lb 8 63)) (by kernel_rfl) (by kernel_rfl) (WA.stepS 6 (by kernel_rfl) rfl ?_)
   refine WL.fieldAddr fo_99_0 rfl rfl rfl ?_
   refine WL.nil (N.restS trivial ?_)
   refine WA.conv (fuel' := 0 + 1) (listed' := (lb 8 127)) (by kernel_rfl) (by kernel_rfl) (WA.stepS 7 (by kernel_rfl) rfl ?_)
   refine WL.store1 #[.slice av43 (3 + 1 + 1) cv43, .slice none 0 0, .slice none 0 0, .slice none 0 0] rfl rfl rfl rfl siz_27 rfl rfl rfl hS ?_
   clear hS; intro w44 hS
   refine WL.nil (N.restS trivial ?_)
   refine WA.doneN (by kernel_rfl) ?_
   refine N.seq (W.seq (W.region (WL.loadN (cs := [.slice av43 (3 + 1 + 1) cv43, .slice none 0 0, .slice none 0 0, .slice none 0 0]) agg_99 rfl rfl rfl rfl (hS.cells 1 (m := 4) rfl rfl) ?_)))
   refine WL.store2 #[.slice av43 (3 + 1 + 1) cv43, .slice none 0 0, .slice none 0 0, .slice none 0 0] rfl rfl rfl rfl siz_99 rfl rfl rfl hS ?_
   clear hS; intro w45 hS
   refine WL.nil (N.seq ?_)
   refine Fin.retC rfl (v := .agg #[.slice av43 (3 + 1 + 1) cv43, .slice none 0 0, .slice none 0 0, .slice none 0 0]) rfl (tyAgg_run agg_99 (cs := [.slice av43 (3 + 1 + 1) cv43, .slice none 0 0, .slice none 0 0, .slice none 0 0]) rfl (hS.cells 2 (m := 4) rfl rfl)) ?_
   have hg : give17 0 slots x = ([ld 5 (slotAt slots x.a), ld 6 (slotAt slots x.b), ⟨reckK x.op, 5, 5, 6, 0⟩] ++ [(⟨13, 5, 5, 0, 1⟩ : DOp)], ([] : List DRel), 5) := by unfold give17; rw [if_neg (by omega), if_neg (by omega), if_neg (by omega), if_neg (by omega), if_neg (by omega), if_neg (by omega), if_pos (by omega)]
   have hO : (inst17 slots own x).ops = [ld 5 (slotAt slots x.a), ld 6 (slotAt slots x.b), ⟨reckK x.op, 5, 5, 6, 0⟩] ++ [(⟨13, 5, 5, 0, 1⟩ : DOp)] ++ [sv 5 own] := by unfold inst17; rw [hg]
   have hR : (inst17 slots own x).rels = [] := by unfold inst17; rw [hg]
   have hrw : ([.int .i64 19, .int .i64 5, .int .i64 2, .int .i64 0, .int .i64 (8 + 8 * x20), .int .i64 19, .int .i64 6, .int .i64 2, .int .i64 0, .int .i64 (8 + 8 * x21), .int .i64 (reckK x.op), .int .i64 5, .int .i64 5, .int .i64 6, .int .i64 0] ++ ([.int .i64 13, .int .i64 5, .int .i64 5, .int .i64 0, .int .i64 1] : List Value) ++ [.int .i64 21, .int .i64 0, .int .i64 2, .int .i64 5, .int .i64 (8 + 8 * own)] : List Value) = oCells (inst17 slots own x).ops := by rw [hO]; simp [oCells, opL, ld, sv, hsl_a, hsl_b]
   have hn : 3 + 1 + 1 = (inst17 slots own x).ops.length := by rw [hO]; simp [cargs_len]
   have H1 : SlV (fun b => w.heap.size ≤ b ∧ b < w45.heap.size) w45 5 OpC (.slice av43 (3 + 1 + 1) cv43) (inst17 slots own x).ops := row_slv (hS.rows _ (List.mem_of_getElem? (i := 0) rfl)) (by show Chunks 5 OpC ([.int .i64 19, .int .i64 5, .int .i64 2, .int .i64 0, .int .i64 (8 + 8 * x20), .int .i64 19, .int .i64 6, .int .i64 2, .int .i64 0, .int .i64 (8 + 8 * x21), .int .i64 (reckK x.op), .int .i64 5, .int .i64 5, .int .i64 6, .int .i64 0] ++ ([.int .i64 13, .int .i64 5, .int .i64 5, .int .i64 0, .int .i64 1] : List Value) ++ [.int .i64 21, .int .i64 0, .int .i64 2, .int .i64 5, .int .i64 (8 + 8 * own)]) _; rw [hrw]; exact hpk.oC) hn (fun y hy => (hS.keys y (by simp only [keysOf, List.mem_append, List.mem_filterMap]; exact .inr ⟨_, List.mem_of_getElem? (i := 0) rfl, hy⟩)).imp id (·.1))
   have H2 : SlV (fun b => w.heap.size ≤ b ∧ b < w45.heap.size) w45 3 RelC (.slice none 0 0) (inst17 slots own x).rels := by rw [hR]; exact slv_nil
   exact ⟨_, rfl, ⟨_, _, _, _, rfl, H1, H2, slv_nil, slv_nil⟩, hS.below⟩
  have hc30p : ¬ (x.op = 11) := by simpa using hc30
  refine W.skip (N.seq (W.seq ?_))
  refine W.drawA0 (S := fun u => True) (by kernel_rfl) (fun w46 hbd => ?_)
  replace hS := hS.grow hbd
  refine WA.conv (fuel' := 5 + 3) (listed' := (lb 8 0)) (by kernel_rfl) (by kernel_rfl) (WA.phaseI [(0, (fun v _ => v = .pointer (some ⟨b5, 0, none⟩))), (1, (fun v _ => v = .slice (some ⟨b7, 0, none⟩) 3 3)), (2, (fun v _ => v = .int .i64 own)), (3, (fun v _ => v = .agg #[.int .i64 21, .int .i64 0, .int .i64 2, .int .i64 5, .int .i64 (8 + 8 * own)])), (4, (fun v u => ∃ b, v = .slice (some ⟨b, 0, none⟩) 1 1 ∧ u.heap[b]? = some (.cells [.int .i64 21, .int .i64 0, .int .i64 2, .int .i64 5, .int .i64 (8 + 8 * own)].toArray 36 (0, 0))))] (by kernel_rfl) [(1, .slice ads slots.length caps), (2, .int .i64 own), (3, .pointer (some ⟨b1, 0, none⟩)), (6, .pointer (some ⟨b3, 0, none⟩)), (7, .pointer (some ⟨b5, 0, none⟩))] ⟨rfl, rfl, rfl, rfl, rfl, trivial⟩ (by kernel_rfl) ⟨stays_eq, stays_eq, stays_eq, stays_eq, (fun v u u2 h hb => h.elim fun b h => ⟨b, h.1, (hb.block b (Array.getElem?_eq_some_iff.1 h.2).1).trans h.2⟩), trivial⟩ ?_ (fun _ _ => trivial) ?_)
  ·
   refine ⟨fun β wd hb hD => ⟨_, rfl, ?_⟩, ?_⟩
   ·
    have hS := hS.grow hb
    refine WL.fieldAddr fo_99_0 rfl rfl rfl ?_
    exact WL.nil (N.cut _ ⟨rfl, trivial⟩ ⟨(Below.refl _ _), rfl⟩)
   refine ⟨fun β wd hb hD => ⟨_, rfl, ?_⟩, ?_⟩
   ·
    obtain ⟨hp0, _⟩ := hD
    replace hp0 : β 0 = .pointer (some ⟨b5, 0, none⟩) := hp0
    refine WL.sub (σ' := [(62, .pointer (some ⟨b5, 0, none⟩))]) ⟨congrArg some hp0, trivial⟩ ?_
    have hS := hS.grow hb
    refine WL.load1 (v := .slice (some ⟨b7, 0, none⟩) 3 3) one_27 rfl rfl rfl (hS.cell 1 rfl rfl) ?_
    exact WL.nil (N.cut _ ⟨rfl, trivial⟩ ⟨(Below.refl _ _), rfl⟩)
   refine ⟨fun β wd hb hD => ⟨_, rfl, ?_⟩, ?_⟩
   ·
    have hS := hS.grow hb
    refine WL.move rfl rfl rfl ?_
    exact WL.nil (N.cut _ ⟨rfl, trivial⟩ ⟨(Below.refl _ _), rfl⟩)
   refine ⟨fun β wd hb hD => ⟨_, rfl, ?_⟩, ?_⟩
   ·
    obtain ⟨hp2, _⟩ := hD
    replace hp2 : β 2 = .int .i64 own := hp2
    refine WL.sub (σ' := [(64, .int .i64 own)]) ⟨congrArg some hp2, trivial⟩ ?_
    have hS := hS.grow hb
    refine WL.callF (vs := [.int .i64 5, .int .i64 own]) Tryd.func54 (by kernel_rfl) rfl rfl rfl (rsave_ret 5 own (by omega) (by omega) (ro := ro) (fun b hb => (hS.snap b hb).1)) ?_
    rintro v w48 ⟨rfl, hbl⟩
    replace hS := hS.grow hbl
    exact WL.nil (N.cut _ ⟨rfl, trivial⟩ ⟨hbl, rfl⟩)
   refine ⟨fun β wd hb hD => ⟨_, rfl, ?_⟩, ?_⟩
   ·
    obtain ⟨hp3, _⟩ := hD
    replace hp3 : β 3 = .agg #[.int .i64 21, .int .i64 0, .int .i64 2, .int .i64 5, .int .i64 (8 + 8 * own)] := hp3
    refine WL.sub (σ' := [(65, .agg #[.int .i64 21, .int .i64 0, .int .i64 2, .int .i64 5, .int .i64 (8 + 8 * own)])]) ⟨congrArg some hp3, trivial⟩ ?_
    have hS := hS.grow hb
    have hX := St.start (w := wd) (ro := fun z => z < wd.heap.size) (fun _ h => h)
    refine WL.buildSlice (ps := [(0, .agg #[.int .i64 21, .int .i64 0, .int .i64 2, .int .i64 5, .int .i64 (8 + 8 * own)])]) (cs := [.int .i64 21, .int .i64 0, .int .i64 2, .int .i64 5, .int .i64 (8 + 8 * own)]) Tryd.underlying27 (tyZero_spec zer_36) rfl rfl rfl rfl (by kernel_rfl) hX ?_
    clear hX; intro w50 b49 hb_b49 hX
    exact WL.nil (N.cut _ ⟨rfl, trivial⟩ ⟨hX.below, ⟨_, rfl, hX.own _ List.mem_cons_self⟩⟩)
   trivial
  intro β w51 hb hD
  obtain ⟨hp0, hp1, hp2, hp3, hp4, _⟩ := hD
  refine WA.sub (σ' := [(1, .slice ads slots.length caps), (2, .int .i64 own), (3, .pointer (some ⟨b1, 0, none⟩)), (6, .pointer (some ⟨b3, 0, none⟩)), (7, .pointer (some ⟨b5, 0, none⟩)), (63, .slice (some ⟨b7, 0, none⟩) 3 3), (66, (β 4))]) ⟨rfl, rfl, rfl, rfl, rfl, congrArg some (show β 1 = .slice (some ⟨b7, 0, none⟩) 3 3 from hp1), rfl, trivial⟩ ?_
  have hSd := hS
  replace hS := hS.grow hb
  replace hp4 : (fun v u => ∃ b, v = .slice (some ⟨b, 0, none⟩) 1 1 ∧ u.heap[b]? = some (.cells [.int .i64 21, .int .i64 0, .int .i64 2, .int .i64 5, .int .i64 (8 + 8 * own)].toArray 36 (0, 0))) (β 4) w51 := hp4
  generalize β 4 = z4 at hp4 ⊢
  refine WA.conv (fuel' := 2 + 1) (listed' := (lb 8 31)) (by kernel_rfl) (by kernel_rfl) (WA.stepS 5 (by kernel_rfl) rfl ?_)
  obtain ⟨bq4, rfl, hbq4⟩ := hp4
  have hcq4 := cellsAt_block hbq4
  refine WL.appendRo (r := ⟨.slice (some ⟨b7, 0, none⟩) 3 3, 36, 5, 3, [.int .i64 19, .int .i64 5, .int .i64 2, .int .i64 0, .int .i64 (8 + 8 * x20), .int .i64 19, .int .i64 6, .int .i64 2, .int .i64 0, .int .i64 (8 + 8 * x21), .int .i64 (reckK x.op), .int .i64 5, .int .i64 5, .int .i64 6, .int .i64 0]⟩) (news := [.int .i64 21, .int .i64 0, .int .i64 2, .int .i64 5, .int .i64 (8 + 8 * own)]) 40 Tryd.underlying27 (tyZero_spec zer_36) byt_36 rfl rfl rfl rfl rfl rfl (fun e => by cases e) (fun b off e => by cases e; exact hcq4) (fun a e _ => by cases e; rfl) (by intro u hu; simp only [List.mem_cons, List.not_mem_nil, or_false] at hu; rcases hu with rfl | rfl | rfl | rfl | rfl <;> rfl) rfl rfl hS (by simp only; unfold maxLen; omega) (by simp only; omega) ?_
  clear hS; intro w52 v53 hS hnn
  have hrow : w52.ownsRow w.heap.size 36 5 v53 (3 + 1) _ := hS.rows _ List.mem_cons_self
  obtain ⟨av53, cv53, rfl, hc1_v53, hc2_v53, hc3_v53⟩ := row_shape hrow
  clear hrow
  refine WL.nil (N.restS trivial ?_)
  refine WA.conv (fuel' := 1 + 1) (listed' := (lb 8 63)) (by kernel_rfl) (by kernel_rfl) (WA.stepS 6 (by kernel_rfl) rfl ?_)
  refine WL.fieldAddr fo_99_0 rfl rfl rfl ?_
  refine WL.nil (N.restS trivial ?_)
  refine WA.conv (fuel' := 0 + 1) (listed' := (lb 8 127)) (by kernel_rfl) (by kernel_rfl) (WA.stepS 7 (by kernel_rfl) rfl ?_)
  refine WL.store1 #[.slice av53 (3 + 1) cv53, .slice none 0 0, .slice none 0 0, .slice none 0 0] rfl rfl rfl rfl siz_27 rfl rfl rfl hS ?_
  clear hS; intro w54 hS
  refine WL.nil (N.restS trivial ?_)
  refine WA.doneN (by kernel_rfl) ?_
  refine N.seq (W.seq (W.region (WL.loadN (cs := [.slice av53 (3 + 1) cv53, .slice none 0 0, .slice none 0 0, .slice none 0 0]) agg_99 rfl rfl rfl rfl (hS.cells 1 (m := 4) rfl rfl) ?_)))
  refine WL.store2 #[.slice av53 (3 + 1) cv53, .slice none 0 0, .slice none 0 0, .slice none 0 0] rfl rfl rfl rfl siz_99 rfl rfl rfl hS ?_
  clear hS; intro w55 hS
  refine WL.nil (N.seq ?_)
  refine Fin.retC rfl (v := .agg #[.slice av53 (3 + 1) cv53, .slice none 0 0, .slice none 0 0, .slice none 0 0]) rfl (tyAgg_run agg_99 (cs := [.slice av53 (3 + 1) cv53, .slice none 0 0, .slice none 0 0, .slice none 0 0]) rfl (hS.cells 2 (m := 4) rfl rfl)) ?_
  have hg : give17 0 slots x = ([ld 5 (slotAt slots x.a), ld 6 (slotAt slots x.b), ⟨reckK x.op, 5, 5, 6, 0⟩] ++ [], ([] : List DRel), 5) := by unfold give17; rw [if_neg (by omega), if_neg (by omega), if_neg (by omega), if_neg (by omega), if_neg (by omega), if_neg (by omega), if_neg (by omega)]
  have hO : (inst17 slots own x).ops = [ld 5 (slotAt slots x.a), ld 6 (slotAt slots x.b), ⟨reckK x.op, 5, 5, 6, 0⟩] ++ [] ++ [sv 5 own] := by unfold inst17; rw [hg]
  have hR : (inst17 slots own x).rels = [] := by unfold inst17; rw [hg]
  have hrw : ([.int .i64 19, .int .i64 5, .int .i64 2, .int .i64 0, .int .i64 (8 + 8 * x20), .int .i64 19, .int .i64 6, .int .i64 2, .int .i64 0, .int .i64 (8 + 8 * x21), .int .i64 (reckK x.op), .int .i64 5, .int .i64 5, .int .i64 6, .int .i64 0] ++ [.int .i64 21, .int .i64 0, .int .i64 2, .int .i64 5, .int .i64 (8 + 8 * own)] : List Value) = oCells (inst17 slots own x).ops := by rw [hO]; simp [oCells, opL, ld, sv, hsl_a, hsl_b]
  have hn : 3 + 1 = (inst17 slots own x).ops.length := by rw [hO]; simp [cargs_len]
  have H1 : SlV (fun b => w.heap.size ≤ b ∧ b < w55.heap.size) w55 5 OpC (.slice av53 (3 + 1) cv53) (inst17 slots own x).ops := row_slv (hS.rows _ (List.mem_of_getElem? (i := 0) rfl)) (by show Chunks 5 OpC ([.int .i64 19, .int .i64 5, .int .i64 2, .int .i64 0, .int .i64 (8 + 8 * x20), .int .i64 19, .int .i64 6, .int .i64 2, .int .i64 0, .int .i64 (8 + 8 * x21), .int .i64 (reckK x.op), .int .i64 5, .int .i64 5, .int .i64 6, .int .i64 0] ++ [.int .i64 21, .int .i64 0, .int .i64 2, .int .i64 5, .int .i64 (8 + 8 * own)]) _; rw [hrw]; exact hpk.oC) hn (fun y hy => (hS.keys y (by simp only [keysOf, List.mem_append, List.mem_filterMap]; exact .inr ⟨_, List.mem_of_getElem? (i := 0) rfl, hy⟩)).imp id (·.1))
  have H2 : SlV (fun b => w.heap.size ≤ b ∧ b < w55.heap.size) w55 3 RelC (.slice none 0 0) (inst17 slots own x).rels := by rw [hR]; exact slv_nil
  exact ⟨_, rfl, ⟨_, _, _, _, rfl, H1, H2, slv_nil, slv_nil⟩, hS.below⟩
 have hc17p : ¬ (x.op ≤ 11) := by simpa using hc17
 refine W.skip (N.seq (W.seq (W.seq (W.region (WL.fieldAddr fo_69_0 rfl rfl rfl (WL.load1 (v := .int .i64 x.op) one_3 rfl rfl rfl (hS.cell 2 rfl rfl) (WL.bin rfl rfl rfl rfl rfl (WL.nil (N.seq ?_)))))))))
 refine W.cond rfl (fun hc56 => ?_) (fun hc56 => ?_)
 ·
  have hc56p : x.op = 12 := by simpa using hc56
  refine W.seq (W.region ?_)
  refine WL.build (ps := [(0, .int .i64 27), (1, .int .i64 5)]) (cs := [.int .i64 27, .int .i64 5, .int .i64 0, .int .i64 0, .int .i64 0]) rfl rfl rfl (by kernel_rfl) ?_
  refine WL.build (ps := [(0, .int .i64 19), (1, .int .i64 5), (2, .int .i64 5)]) (cs := [.int .i64 19, .int .i64 5, .int .i64 5, .int .i64 0, .int .i64 0]) rfl rfl rfl (by kernel_rfl) ?_
  refine WL.move rfl rfl rfl ?_
  refine WL.callF (vs := [.int .i64 5, .int .i64 own]) Tryd.func54 (by kernel_rfl) rfl rfl rfl (rsave_ret 5 own (by omega) (by omega) (ro := ro) (fun b hb => (hS.snap b hb).1)) ?_
  rintro v w57 ⟨rfl, hbl⟩
  replace hS := hS.grow hbl
  refine WL.buildSlice (ps := [(0, .agg #[.int .i64 27, .int .i64 5, .int .i64 0, .int .i64 0, .int .i64 0]), (1, .agg #[.int .i64 19, .int .i64 5, .int .i64 5, .int .i64 0, .int .i64 0]), (2, .agg #[.int .i64 21, .int .i64 0, .int .i64 2, .int .i64 5, .int .i64 (8 + 8 * own)])]) (cs := [.int .i64 27, .int .i64 5, .int .i64 0, .int .i64 0, .int .i64 0, .int .i64 19, .int .i64 5, .int .i64 5, .int .i64 0, .int .i64 0, .int .i64 21, .int .i64 0, .int .i64 2, .int .i64 5, .int .i64 (8 + 8 * own)]) Tryd.underlying27 (tyZero_spec zer_36) rfl rfl rfl rfl (by kernel_rfl) hS ?_
  clear hS; intro w59 b58 hb_b58 hS
  refine WL.fieldAddr fo_99_0 rfl rfl rfl ?_
  refine WL.store1 #[.slice (some ⟨b58, 0, none⟩) 3 3, .slice none 0 0, .slice none 0 0, .slice none 0 0] rfl rfl rfl rfl siz_27 rfl rfl rfl hS ?_
  clear hS; intro w60 hS
  refine WL.nil (N.seq (W.seq (W.region (WL.fieldAddr fo_69_4 rfl rfl rfl (WL.load1 (v := .string x.name) one_9 rfl rfl rfl (hS.cell 3 rfl rfl) ?_)))))
  refine WL.build (ps := [(0, .int .i64 0), (1, .int .i64 2), (2, .string x.name)]) (cs := [.int .i64 0, .int .i64 2, .string x.name]) rfl rfl rfl (by kernel_rfl) ?_
  refine WL.fieldAddr fo_69_4 rfl rfl rfl (WL.load1 (v := .string x.name) one_9 rfl rfl rfl (hS.cell 3 rfl rfl) ?_)
  refine WL.build (ps := [(0, .int .i64 1), (1, .int .i64 3), (2, .string x.name)]) (cs := [.int .i64 1, .int .i64 3, .string x.name]) rfl rfl rfl (by kernel_rfl) ?_
  refine WL.buildSlice (ps := [(0, .agg #[.int .i64 0, .int .i64 2, .string x.name]), (1, .agg #[.int .i64 1, .int .i64 3, .string x.name])]) (cs := [.int .i64 0, .int .i64 2, .string x.name, .int .i64 1, .int .i64 3, .string x.name]) Tryd.underlying28 (tyZero_spec zer_34) rfl rfl rfl rfl (by kernel_rfl) hS ?_
  clear hS; intro w62 b61 hb_b61 hS
  refine WL.fieldAddr fo_99_1 rfl rfl rfl ?_
  refine WL.store2 #[.slice (some ⟨b58, 0, none⟩) 3 3, .slice (some ⟨b61, 0, none⟩) 2 2, .slice none 0 0, .slice none 0 0] rfl rfl rfl rfl siz_28 rfl rfl rfl hS ?_
  clear hS; intro w63 hS
  refine WL.nil (N.seq (W.seq (W.region (WL.loadN (cs := [.slice (some ⟨b58, 0, none⟩) 3 3, .slice (some ⟨b61, 0, none⟩) 2 2, .slice none 0 0, .slice none 0 0]) agg_99 rfl rfl rfl rfl (hS.cells 2 (m := 4) rfl rfl) ?_))))
  refine WL.store3 #[.slice (some ⟨b58, 0, none⟩) 3 3, .slice (some ⟨b61, 0, none⟩) 2 2, .slice none 0 0, .slice none 0 0] rfl rfl rfl rfl siz_99 rfl rfl rfl hS ?_
  clear hS; intro w64 hS
  refine WL.nil (N.seq ?_)
  refine Fin.retC rfl (v := .agg #[.slice (some ⟨b58, 0, none⟩) 3 3, .slice (some ⟨b61, 0, none⟩) 2 2, .slice none 0 0, .slice none 0 0]) rfl (tyAgg_run agg_99 (cs := [.slice (some ⟨b58, 0, none⟩) 3 3, .slice (some ⟨b61, 0, none⟩) 2 2, .slice none 0 0, .slice none 0 0]) rfl (hS.cells 3 (m := 4) rfl rfl)) ?_
  replace hS := hS.toRow (n := 2) (cap := 2) (sz := 3) (xs := [.int .i64 0, .int .i64 2, .string x.name, .int .i64 1, .int .i64 3, .string x.name]) rfl rfl (Nat.le_refl _) (by decide)
  replace hS := hS.toRow (n := 3) (cap := 3) (sz := 5) (xs := [.int .i64 27, .int .i64 5, .int .i64 0, .int .i64 0, .int .i64 0, .int .i64 19, .int .i64 5, .int .i64 5, .int .i64 0, .int .i64 0, .int .i64 21, .int .i64 0, .int .i64 2, .int .i64 5, .int .i64 (8 + 8 * own)]) rfl rfl (Nat.le_refl _) (by decide)
  have hg : give17 0 slots x = ([(⟨27, 5, 0, 0, 0⟩ : DOp), ⟨19, 5, 5, 0, 0⟩], ([(⟨((0 : Nat) : Int), 2, x.name⟩ : DRel), ⟨((0 + 1 : Nat) : Int), 3, x.name⟩] : List DRel), 5) := by unfold give17; rw [if_neg (by omega), if_pos (by omega)]
  have hO : (inst17 slots own x).ops = [(⟨27, 5, 0, 0, 0⟩ : DOp), ⟨19, 5, 5, 0, 0⟩] ++ [sv 5 own] := by unfold inst17; rw [hg]
  have hR : (inst17 slots own x).rels = [(⟨((0 : Nat) : Int), 2, x.name⟩ : DRel), ⟨((0 + 1 : Nat) : Int), 3, x.name⟩] := by unfold inst17; rw [hg]
  have hrw : ([.int .i64 27, .int .i64 5, .int .i64 0, .int .i64 0, .int .i64 0, .int .i64 19, .int .i64 5, .int .i64 5, .int .i64 0, .int .i64 0, .int .i64 21, .int .i64 0, .int .i64 2, .int .i64 5, .int .i64 (8 + 8 * own)] : List Value) = oCells (inst17 slots own x).ops := by rw [hO]; simp [oCells, opL, ld, sv]
  have hn : 3 = (inst17 slots own x).ops.length := by rw [hO]; simp [cargs_len]
  have H1 : SlV (fun b => w.heap.size ≤ b ∧ b < w64.heap.size) w64 5 OpC (.slice (some ⟨b58, 0, none⟩) 3 3) (inst17 slots own x).ops := row_slv (hS.rows _ (List.mem_of_getElem? (i := 0) rfl)) (by show Chunks 5 OpC ([.int .i64 27, .int .i64 5, .int .i64 0, .int .i64 0, .int .i64 0, .int .i64 19, .int .i64 5, .int .i64 5, .int .i64 0, .int .i64 0, .int .i64 21, .int .i64 0, .int .i64 2, .int .i64 5, .int .i64 (8 + 8 * own)]) _; rw [hrw]; exact hpk.oC) hn (fun y hy => (hS.keys y (by simp only [keysOf, List.mem_append, List.mem_filterMap]; exact .inr ⟨_, List.mem_of_getElem? (i := 0) rfl, hy⟩)).imp id (·.1))
  have hrw2 : ([.int .i64 0, .int .i64 2, .string x.name, .int .i64 1, .int .i64 3, .string x.name] : List Value) = rCells (inst17 slots own x).rels := by rw [hR]; simp [rCells, relL]
  have H2 : SlV (fun b => w.heap.size ≤ b ∧ b < w64.heap.size) w64 3 RelC (.slice (some ⟨b61, 0, none⟩) 2 2) (inst17 slots own x).rels := row_slv (hS.rows _ (List.mem_of_getElem? (i := 1) rfl)) (by show Chunks 3 RelC ([.int .i64 0, .int .i64 2, .string x.name, .int .i64 1, .int .i64 3, .string x.name]) _; rw [hrw2]; exact hpk.rC (by rw [hO]; simp [cargs_len]; try omega)) (by rw [hR]; rfl) (fun y hy => (hS.keys y (by simp only [keysOf, List.mem_append, List.mem_filterMap]; exact .inr ⟨_, List.mem_of_getElem? (i := 1) rfl, hy⟩)).imp id (·.1))
  exact ⟨_, rfl, ⟨_, _, _, _, rfl, H1, H2, slv_nil, slv_nil⟩, hS.below⟩
 have hc56p : ¬ (x.op = 12) := by simpa using hc56
 refine W.skip (N.seq (W.seq (W.seq (W.region (WL.fieldAddr fo_69_0 rfl rfl rfl (WL.load1 (v := .int .i64 x.op) one_3 rfl rfl rfl (hS.cell 2 rfl rfl) (WL.bin rfl rfl rfl rfl rfl (WL.nil (N.seq ?_)))))))))
 refine W.cond rfl (fun hc65 => ?_) (fun hc65 => ?_)
 ·
  have hc65p : x.op = 13 := by simpa using hc65
  refine W.seq (W.region (WL.move rfl rfl rfl (WL.fieldAddr fo_69_1 rfl rfl rfl (WL.load1 (v := .int .i64 x.a) one_3 rfl rfl rfl (hS.cell 2 rfl rfl) ?_))))
  have hv_a := huse x.a (uses5_a (by omega))
  have hvn_a : ((x.a.toNat : Nat) : Int) = x.a := by omega
  refine WL.set 93 (v' := .int .i64 (x.a.toNat : Int)) rfl (congrArg _ (by omega)) ?_
  have hj66 : x.a.toNat < slots.length := by omega
  obtain ⟨x66, hx66, b66, o66, cs66, hE66, hr66, _, hc66, hQ66⟩ := opn hsld hj66
  obtain ⟨rfl, hi66⟩ := hQ66
  refine WL.indexAddrE (j := x.a.toNat) Tryd.underlying55 isz_3 rfl rfl rfl rfl hj66 hE66 (WL.load1 (v := .int .i64 x66) one_3 rfl rfl rfl (hS.roCells hr66 hc66 0 _ rfl) ?_)
  have hsb_a := hsb _ (List.mem_of_getElem? hx66)
  have hsl_a := slotAt_some hx66
  refine WL.callF (vs := [.int .i64 6, .int .i64 x66]) Tryd.func72 (by kernel_rfl) rfl rfl rfl (rload_ret 6 x66 (by omega) (by omega) (ro := ro) (fun b hb => (hS.snap b hb).1)) ?_
  rintro v w67 ⟨rfl, hbl⟩
  replace hS := hS.grow hbl
  refine WL.build (ps := [(0, .int .i64 27), (1, .int .i64 5)]) (cs := [.int .i64 27, .int .i64 5, .int .i64 0, .int .i64 0, .int .i64 0]) rfl rfl rfl (by kernel_rfl) ?_
  refine WL.build (ps := [(0, .int .i64 21), (2, .int .i64 5), (3, .int .i64 6)]) (cs := [.int .i64 21, .int .i64 0, .int .i64 5, .int .i64 6, .int .i64 0]) rfl rfl rfl (by kernel_rfl) ?_
  refine WL.move rfl rfl rfl ?_
  refine WL.callF (vs := [.int .i64 0, .int .i64 own]) Tryd.func54 (by kernel_rfl) rfl rfl rfl (rsave_ret 0 own (by omega) (by omega) (ro := ro) (fun b hb => (hS.snap b hb).1)) ?_
  rintro v w68 ⟨rfl, hbl⟩
  replace hS := hS.grow hbl
  refine WL.buildSlice (ps := [(0, .agg #[.int .i64 19, .int .i64 6, .int .i64 2, .int .i64 0, .int .i64 (8 + 8 * x66)]), (1, .agg #[.int .i64 27, .int .i64 5, .int .i64 0, .int .i64 0, .int .i64 0]), (2, .agg #[.int .i64 21, .int .i64 0, .int .i64 5, .int .i64 6, .int .i64 0]), (3, .agg #[.int .i64 21, .int .i64 0, .int .i64 2, .int .i64 0, .int .i64 (8 + 8 * own)])]) (cs := [.int .i64 19, .int .i64 6, .int .i64 2, .int .i64 0, .int .i64 (8 + 8 * x66), .int .i64 27, .int .i64 5, .int .i64 0, .int .i64 0, .int .i64 0, .int .i64 21, .int .i64 0, .int .i64 5, .int .i64 6, .int .i64 0, .int .i64 21, .int .i64 0, .int .i64 2, .int .i64 0, .int .i64 (8 + 8 * own)]) Tryd.underlying27 (tyZero_spec zer_36) rfl rfl rfl rfl (by kernel_rfl) hS ?_
  clear hS; intro w70 b69 hb_b69 hS
  refine WL.fieldAddr fo_99_0 rfl rfl rfl ?_
  refine WL.store1 #[.slice (some ⟨b69, 0, none⟩) 4 4, .slice none 0 0, .slice none 0 0, .slice none 0 0] rfl rfl rfl rfl siz_27 rfl rfl rfl hS ?_
  clear hS; intro w71 hS
  refine WL.nil (N.seq (W.seq (W.region (WL.fieldAddr fo_69_4 rfl rfl rfl (WL.load1 (v := .string x.name) one_9 rfl rfl rfl (hS.cell 3 rfl rfl) ?_)))))
  refine WL.build (ps := [(0, .int .i64 1), (1, .int .i64 2), (2, .string x.name)]) (cs := [.int .i64 1, .int .i64 2, .string x.name]) rfl rfl rfl (by kernel_rfl) ?_
  refine WL.fieldAddr fo_69_4 rfl rfl rfl (WL.load1 (v := .string x.name) one_9 rfl rfl rfl (hS.cell 3 rfl rfl) ?_)
  refine WL.build (ps := [(0, .int .i64 2), (1, .int .i64 3), (2, .string x.name)]) (cs := [.int .i64 2, .int .i64 3, .string x.name]) rfl rfl rfl (by kernel_rfl) ?_
  refine WL.buildSlice (ps := [(0, .agg #[.int .i64 1, .int .i64 2, .string x.name]), (1, .agg #[.int .i64 2, .int .i64 3, .string x.name])]) (cs := [.int .i64 1, .int .i64 2, .string x.name, .int .i64 2, .int .i64 3, .string x.name]) Tryd.underlying28 (tyZero_spec zer_34) rfl rfl rfl rfl (by kernel_rfl) hS ?_
  clear hS; intro w73 b72 hb_b72 hS
  refine WL.fieldAddr fo_99_1 rfl rfl rfl ?_
  refine WL.store2 #[.slice (some ⟨b69, 0, none⟩) 4 4, .slice (some ⟨b72, 0, none⟩) 2 2, .slice none 0 0, .slice none 0 0] rfl rfl rfl rfl siz_28 rfl rfl rfl hS ?_
  clear hS; intro w74 hS
  refine WL.nil (N.seq (W.seq (W.region (WL.loadN (cs := [.slice (some ⟨b69, 0, none⟩) 4 4, .slice (some ⟨b72, 0, none⟩) 2 2, .slice none 0 0, .slice none 0 0]) agg_99 rfl rfl rfl rfl (hS.cells 2 (m := 4) rfl rfl) ?_))))
  refine WL.store3 #[.slice (some ⟨b69, 0, none⟩) 4 4, .slice (some ⟨b72, 0, none⟩) 2 2, .slice none 0 0, .slice none 0 0] rfl rfl rfl rfl siz_99 rfl rfl rfl hS ?_
  clear hS; intro w75 hS
  refine WL.nil (N.seq ?_)
  refine Fin.retC rfl (v := .agg #[.slice (some ⟨b69, 0, none⟩) 4 4, .slice (some ⟨b72, 0, none⟩) 2 2, .slice none 0 0, .slice none 0 0]) rfl (tyAgg_run agg_99 (cs := [.slice (some ⟨b69, 0, none⟩) 4 4, .slice (some ⟨b72, 0, none⟩) 2 2, .slice none 0 0, .slice none 0 0]) rfl (hS.cells 3 (m := 4) rfl rfl)) ?_
  replace hS := hS.toRow (n := 2) (cap := 2) (sz := 3) (xs := [.int .i64 1, .int .i64 2, .string x.name, .int .i64 2, .int .i64 3, .string x.name]) rfl rfl (Nat.le_refl _) (by decide)
  replace hS := hS.toRow (n := 4) (cap := 4) (sz := 5) (xs := [.int .i64 19, .int .i64 6, .int .i64 2, .int .i64 0, .int .i64 (8 + 8 * x66), .int .i64 27, .int .i64 5, .int .i64 0, .int .i64 0, .int .i64 0, .int .i64 21, .int .i64 0, .int .i64 5, .int .i64 6, .int .i64 0, .int .i64 21, .int .i64 0, .int .i64 2, .int .i64 0, .int .i64 (8 + 8 * own)]) rfl rfl (Nat.le_refl _) (by decide)
  have hg : give17 0 slots x = ([ld 6 (slotAt slots x.a), ⟨27, 5, 0, 0, 0⟩, ⟨21, 0, 5, 6, 0⟩], ([(⟨((0 + 1 : Nat) : Int), 2, x.name⟩ : DRel), ⟨((0 + 1 + 1 : Nat) : Int), 3, x.name⟩] : List DRel), 0) := by unfold give17; rw [if_neg (by omega), if_neg (by omega), if_pos (by omega)]
  have hO : (inst17 slots own x).ops = [ld 6 (slotAt slots x.a), ⟨27, 5, 0, 0, 0⟩, ⟨21, 0, 5, 6, 0⟩] ++ [sv 0 own] := by unfold inst17; rw [hg]
  have hR : (inst17 slots own x).rels = [(⟨((0 + 1 : Nat) : Int), 2, x.name⟩ : DRel), ⟨((0 + 1 + 1 : Nat) : Int), 3, x.name⟩] := by unfold inst17; rw [hg]
  have hrw : ([.int .i64 19, .int .i64 6, .int .i64 2, .int .i64 0, .int .i64 (8 + 8 * x66), .int .i64 27, .int .i64 5, .int .i64 0, .int .i64 0, .int .i64 0, .int .i64 21, .int .i64 0, .int .i64 5, .int .i64 6, .int .i64 0, .int .i64 21, .int .i64 0, .int .i64 2, .int .i64 0, .int .i64 (8 + 8 * own)] : List Value) = oCells (inst17 slots own x).ops := by rw [hO]; simp [oCells, opL, ld, sv, hsl_a]
  have hn : 4 = (inst17 slots own x).ops.length := by rw [hO]; simp [cargs_len]
  have H1 : SlV (fun b => w.heap.size ≤ b ∧ b < w75.heap.size) w75 5 OpC (.slice (some ⟨b69, 0, none⟩) 4 4) (inst17 slots own x).ops := row_slv (hS.rows _ (List.mem_of_getElem? (i := 0) rfl)) (by show Chunks 5 OpC ([.int .i64 19, .int .i64 6, .int .i64 2, .int .i64 0, .int .i64 (8 + 8 * x66), .int .i64 27, .int .i64 5, .int .i64 0, .int .i64 0, .int .i64 0, .int .i64 21, .int .i64 0, .int .i64 5, .int .i64 6, .int .i64 0, .int .i64 21, .int .i64 0, .int .i64 2, .int .i64 0, .int .i64 (8 + 8 * own)]) _; rw [hrw]; exact hpk.oC) hn (fun y hy => (hS.keys y (by simp only [keysOf, List.mem_append, List.mem_filterMap]; exact .inr ⟨_, List.mem_of_getElem? (i := 0) rfl, hy⟩)).imp id (·.1))
  have hrw2 : ([.int .i64 1, .int .i64 2, .string x.name, .int .i64 2, .int .i64 3, .string x.name] : List Value) = rCells (inst17 slots own x).rels := by rw [hR]; simp [rCells, relL]
  have H2 : SlV (fun b => w.heap.size ≤ b ∧ b < w75.heap.size) w75 3 RelC (.slice (some ⟨b72, 0, none⟩) 2 2) (inst17 slots own x).rels := row_slv (hS.rows _ (List.mem_of_getElem? (i := 1) rfl)) (by show Chunks 3 RelC ([.int .i64 1, .int .i64 2, .string x.name, .int .i64 2, .int .i64 3, .string x.name]) _; rw [hrw2]; exact hpk.rC (by rw [hO]; simp [cargs_len]; try omega)) (by rw [hR]; rfl) (fun y hy => (hS.keys y (by simp only [keysOf, List.mem_append, List.mem_filterMap]; exact .inr ⟨_, List.mem_of_getElem? (i := 1) rfl, hy⟩)).imp id (·.1))
  exact ⟨_, rfl, ⟨_, _, _, _, rfl, H1, H2, slv_nil, slv_nil⟩, hS.below⟩
 have hc65p : ¬ (x.op = 13) := by simpa using hc65
 refine W.skip (N.seq (W.seq (W.seq (W.region (WL.fieldAddr fo_69_0 rfl rfl rfl (WL.load1 (v := .int .i64 x.op) one_3 rfl rfl rfl (hS.cell 2 rfl rfl) (WL.bin rfl rfl rfl rfl rfl (WL.nil (N.seq ?_)))))))))
 refine W.cond rfl (fun hc76 => ?_) (fun hc76 => ?_)
 ·
  have hc76p : x.op = 14 := by simpa using hc76
  refine W.seq (W.seq (W.region (WL.assign rfl rfl rfl (WL.nil (N.seq (W.block ?_))))))
  replace hS := hS.row0 36 5
  have hargs : ∀ v ∈ x.args, 0 ≤ v ∧ v < slots.length := by unfold uses5 at huse; rw [if_neg (by omega), if_neg (by omega), if_pos (by omega)] at huse; exact huse
  refine W.loop (α := Nat × Value × List Value) (fun ⟨k, va, cs⟩ => [(1, .slice ads slots.length caps), (2, .int .i64 own), (3, .pointer (some ⟨b1, 0, none⟩)), (6, .pointer (some ⟨b3, 0, none⟩)), (7, .pointer (some ⟨b5, 0, none⟩)), (9, .int .i64 (k : Int))]) (fun ⟨k, va, cs⟩ u => St w w u ro [(b5, .cells #[va, .slice none 0 0, .slice none 0 0, .slice none 0 0] 99 (0, 0)), (b3, .cells #[.slice none 0 0, .slice none 0 0, .slice none 0 0, .slice none 0 0] 99 (0, 0)), (b1, .cells #[.int .i64 x.op, .int .i64 x.a, .int .i64 x.b, .int .u64 x.k, .string x.name, .slice adx x.args.length capx] 69 (0, 0))] [⟨va, 36, 5, k, cs⟩] ∧ k ≤ x.args.length ∧ cs = oCells (cargs slots (x.args.take k))) (fun ⟨k, va, cs⟩ => x.args.length - k) (0, (.slice none 0 0), []) ⟨rfl, rfl, rfl, rfl, rfl, rfl, trivial⟩ ⟨hS, Nat.zero_le _, rfl⟩ ?_
  clear hS
  rintro ⟨k, va, cs⟩ w77 ⟨hS, hk, hcs⟩
  have hrow : w77.ownsRow w.heap.size 36 5 va (k) _ := hS.rows _ List.mem_cons_self
  obtain ⟨adva, capva, rfl, hr1va, hr2va, hr3va⟩ := row_shape hrow
  clear hrow
  refine W.seq (W.seq (W.region (WL.move rfl rfl rfl (WL.fieldAddr fo_69_5 rfl rfl rfl (WL.load1 (v := .slice adx x.args.length capx) one_55 rfl rfl rfl (hS.cell 2 rfl rfl) (WL.lenSlice Tryd.underlying55 rfl rfl rfl (WL.bin rfl rfl rfl rfl rfl (WL.nil (N.seq ?_)))))))))
  refine W.cond rfl (fun hc78 => ?_) (fun hc78 => ?_)
  ·
   have hc78p : (k : Int) < (x.args.length : Int) := by simpa using hc78
   refine W.skip (N.seq (W.seq (W.block ?_)))
   refine W.drawA0 (S := fun u => True) (by kernel_rfl) (fun w79 hbd => ?_)
   replace hS := hS.grow hbd
   have hj80 : k < x.args.length := by omega
   obtain ⟨x80, hx80, b80, o80, cs80, hE80, hr80, _, hc80, hQ80⟩ := opn hsxd hj80
   obtain ⟨rfl, hi80⟩ := hQ80
   have hvb := hargs _ (List.mem_of_getElem? hx80)
   have hvn : ((x80.toNat : Nat) : Int) = x80 := by omega
   have hj81 : x80.toNat < slots.length := by omega
   obtain ⟨x81, hx81, b81, o81, cs81, hE81, hr81, _, hc81, hQ81⟩ := opn hsld hj81
   obtain ⟨rfl, hi81⟩ := hQ81
   have hsb2 := hsb _ (List.mem_of_getElem? hx81)
   refine WA.conv (fuel' := 14 + 3) (listed' := (lb 17 0)) (by kernel_rfl) (by kernel_rfl) (WA.phaseI [(0, (fun v _ => v = .pointer (some ⟨b5, 0, none⟩))), (1, (fun v _ => v = .slice adva k capva)), (2, (fun v _ => v = .int .i64 (k : Int))), (3, (fun v _ => v = .int .i64 (10 + (k : Int)))), (4, (fun v _ => v = .slice ads slots.length caps)), (5, (fun v _ => v = .pointer (some ⟨b1, 5, none⟩))), (6, (fun v _ => v = .slice adx x.args.length capx)), (7, (fun v _ => v = .int .i64 (k : Int))), (8, (fun v _ => v = .pointer (some ⟨b80, o80 + k * 1, none⟩))), (9, (fun v _ => v = .int .i64 x80)), (10, (fun v _ => v = .pointer (some ⟨b81, o81 + x80.toNat * 1, none⟩))), (11, (fun v _ => v = .int .i64 x81)), (12, (fun v _ => v = .agg #[.int .i64 19, .int .i64 (10 + (k : Int)), .int .i64 2, .int .i64 0, .int .i64 (8 + 8 * x81)])), (13, (fun v u => ∃ b, v = .slice (some ⟨b, 0, none⟩) 1 1 ∧ u.heap[b]? = some (.cells [.int .i64 19, .int .i64 (10 + (k : Int)), .int .i64 2, .int .i64 0, .int .i64 (8 + 8 * x81)].toArray 36 (0, 0))))] (by kernel_rfl) [(1, .slice ads slots.length caps), (2, .int .i64 own), (3, .pointer (some ⟨b1, 0, none⟩)), (6, .pointer (some ⟨b3, 0, none⟩)), (7, .pointer (some ⟨b5, 0, none⟩)), (9, .int .i64 (k : Int))] ⟨rfl, rfl, rfl, rfl, rfl, rfl, trivial⟩ (by kernel_rfl) ⟨stays_eq, stays_eq, stays_eq, stays_eq, stays_eq, stays_eq, stays_eq, stays_eq, stays_eq, stays_eq, stays_eq, stays_eq, stays_eq, (fun v u u2 h hb => h.elim fun b h => ⟨b, h.1, (hb.block b (Array.getElem?_eq_some_iff.1 h.2).1).trans h.2⟩), trivial⟩ ?_ (fun _ _ => trivial) ?_)
   ·
    refine ⟨fun β wd hb hD => ⟨_, rfl, ?_⟩, ?_⟩
    ·
     have hS := hS.grow hb
     refine WL.fieldAddr fo_99_0 rfl rfl rfl ?_
     exact WL.nil (N.cut _ ⟨rfl, trivial⟩ ⟨(Below.refl _ _), rfl⟩)
    refine ⟨fun β wd hb hD => ⟨_, rfl, ?_⟩, ?_⟩
    ·
     obtain ⟨hp0, _⟩ := hD
     replace hp0 : β 0 = .pointer (some ⟨b5, 0, none⟩) := hp0
     refine WL.sub (σ' := [(122, .pointer (some ⟨b5, 0, none⟩))]) ⟨congrArg some hp0, trivial⟩ ?_
     have hS := hS.grow hb
     refine WL.load1 (v := .slice adva k capva) one_27 rfl rfl rfl (hS.cell 0 rfl rfl) ?_
     exact WL.nil (N.cut _ ⟨rfl, trivial⟩ ⟨(Below.refl _ _), rfl⟩)
    refine ⟨fun β wd hb hD => ⟨_, rfl, ?_⟩, ?_⟩
    ·
     have hS := hS.grow hb
     refine WL.move rfl rfl rfl ?_
     exact WL.nil (N.cut _ ⟨rfl, trivial⟩ ⟨(Below.refl _ _), rfl⟩)
    refine ⟨fun β wd hb hD => ⟨_, rfl, ?_⟩, ?_⟩
    ·
     obtain ⟨hp2, _⟩ := hD
     replace hp2 : β 2 = .int .i64 (k : Int) := hp2
     refine WL.sub (σ' := [(124, .int .i64 (k : Int))]) ⟨congrArg some hp2, trivial⟩ ?_
     have hS := hS.grow hb
     refine WL.add (c := 10 + (k : Int)) rfl rfl rfl rfl rfl (by omega) ?_
     exact WL.nil (N.cut _ ⟨rfl, trivial⟩ ⟨(Below.refl _ _), rfl⟩)
    refine ⟨fun β wd hb hD => ⟨_, rfl, ?_⟩, ?_⟩
    ·
     have hS := hS.grow hb
     refine WL.move rfl rfl rfl ?_
     exact WL.nil (N.cut _ ⟨rfl, trivial⟩ ⟨(Below.refl _ _), rfl⟩)
    refine ⟨fun β wd hb hD => ⟨_, rfl, ?_⟩, ?_⟩
    ·
     have hS := hS.grow hb
     refine WL.fieldAddr fo_69_5 rfl rfl rfl ?_
     exact WL.nil (N.cut _ ⟨rfl, trivial⟩ ⟨(Below.refl _ _), rfl⟩)
    refine ⟨fun β wd hb hD => ⟨_, rfl, ?_⟩, ?_⟩
    ·
     obtain ⟨hp5, _⟩ := hD
     replace hp5 : β 5 = .pointer (some ⟨b1, 5, none⟩) := hp5
     refine WL.sub (σ' := [(127, .pointer (some ⟨b1, 5, none⟩))]) ⟨congrArg some hp5, trivial⟩ ?_
     have hS := hS.grow hb
     refine WL.load1 (v := .slice adx x.args.length capx) one_55 rfl rfl rfl (hS.cell 2 rfl rfl) ?_
     exact WL.nil (N.cut _ ⟨rfl, trivial⟩ ⟨(Below.refl _ _), rfl⟩)
    refine ⟨fun β wd hb hD => ⟨_, rfl, ?_⟩, ?_⟩
    ·
     have hS := hS.grow hb
     refine WL.move rfl rfl rfl ?_
     exact WL.nil (N.cut _ ⟨rfl, trivial⟩ ⟨(Below.refl _ _), rfl⟩)
    refine ⟨fun β wd hb hD => ⟨_, rfl, ?_⟩, ?_⟩
    ·
     obtain ⟨hp6, hp7, _⟩ := hD
     replace hp6 : β 6 = .slice adx x.args.length capx := hp6
     replace hp7 : β 7 = .int .i64 (k : Int) := hp7
     refine WL.sub (σ' := [(128, .slice adx x.args.length capx), (129, .int .i64 (k : Int))]) ⟨congrArg some hp6, congrArg some hp7, trivial⟩ ?_
     have hS := hS.grow hb
     refine WL.indexAddrE (j := k) Tryd.underlying55 isz_3 rfl rfl rfl rfl hj80 hE80 ?_
     exact WL.nil (N.cut _ ⟨rfl, trivial⟩ ⟨(Below.refl _ _), rfl⟩)
    refine ⟨fun β wd hb hD => ⟨_, rfl, ?_⟩, ?_⟩
    ·
     obtain ⟨hp8, _⟩ := hD
     replace hp8 : β 8 = .pointer (some ⟨b80, o80 + k * 1, none⟩) := hp8
     refine WL.sub (σ' := [(130, .pointer (some ⟨b80, o80 + k * 1, none⟩))]) ⟨congrArg some hp8, trivial⟩ ?_
     have hS := hS.grow hb
     refine WL.load1 (v := .int .i64 x80) one_3 rfl rfl rfl (hS.roCells hr80 hc80 0 _ rfl) ?_
     exact WL.nil (N.cut _ ⟨rfl, trivial⟩ ⟨(Below.refl _ _), rfl⟩)
    refine ⟨fun β wd hb hD => ⟨_, rfl, ?_⟩, ?_⟩
    ·
     obtain ⟨hp4, hp9, _⟩ := hD
     replace hp4 : β 4 = .slice ads slots.length caps := hp4
     replace hp9 : β 9 = .int .i64 x80 := hp9
     refine WL.sub (σ' := [(126, .slice ads slots.length caps), (131, .int .i64 x80)]) ⟨congrArg some hp4, congrArg some hp9, trivial⟩ ?_
     have hS := hS.grow hb
     refine WL.set 131 (v' := .int .i64 (x80.toNat : Int)) rfl (congrArg _ (by omega)) ?_
     refine WL.indexAddrE (j := x80.toNat) Tryd.underlying55 isz_3 rfl rfl rfl rfl hj81 hE81 ?_
     exact WL.nil (N.cut _ ⟨rfl, trivial⟩ ⟨(Below.refl _ _), rfl⟩)
    refine ⟨fun β wd hb hD => ⟨_, rfl, ?_⟩, ?_⟩
    ·
     obtain ⟨hp10, _⟩ := hD
     replace hp10 : β 10 = .pointer (some ⟨b81, o81 + x80.toNat * 1, none⟩) := hp10
     refine WL.sub (σ' := [(132, .pointer (some ⟨b81, o81 + x80.toNat * 1, none⟩))]) ⟨congrArg some hp10, trivial⟩ ?_
     have hS := hS.grow hb
     refine WL.load1 (v := .int .i64 x81) one_3 rfl rfl rfl (hS.roCells hr81 hc81 0 _ rfl) ?_
     exact WL.nil (N.cut _ ⟨rfl, trivial⟩ ⟨(Below.refl _ _), rfl⟩)
    refine ⟨fun β wd hb hD => ⟨_, rfl, ?_⟩, ?_⟩
    ·
     obtain ⟨hp3, hp11, _⟩ := hD
     replace hp3 : β 3 = .int .i64 (10 + (k : Int)) := hp3
     replace hp11 : β 11 = .int .i64 x81 := hp11
     refine WL.sub (σ' := [(125, .int .i64 (10 + (k : Int))), (133, .int .i64 x81)]) ⟨congrArg some hp3, congrArg some hp11, trivial⟩ ?_
     have hS := hS.grow hb
     refine WL.callF (vs := [.int .i64 (10 + (k : Int)), .int .i64 x81]) Tryd.func72 (by kernel_rfl) rfl rfl rfl (rload_ret (10 + (k : Int)) x81 (by omega) (by omega) (ro := ro) (fun b hb => (hS.snap b hb).1)) ?_
     rintro v w83 ⟨rfl, hbl⟩
     replace hS := hS.grow hbl
     exact WL.nil (N.cut _ ⟨rfl, trivial⟩ ⟨hbl, rfl⟩)
    refine ⟨fun β wd hb hD => ⟨_, rfl, ?_⟩, ?_⟩
    ·
     obtain ⟨hp12, _⟩ := hD
     replace hp12 : β 12 = .agg #[.int .i64 19, .int .i64 (10 + (k : Int)), .int .i64 2, .int .i64 0, .int .i64 (8 + 8 * x81)] := hp12
     refine WL.sub (σ' := [(134, .agg #[.int .i64 19, .int .i64 (10 + (k : Int)), .int .i64 2, .int .i64 0, .int .i64 (8 + 8 * x81)])]) ⟨congrArg some hp12, trivial⟩ ?_
     have hS := hS.grow hb
     have hX := St.start (w := wd) (ro := fun z => z < wd.heap.size) (fun _ h => h)
     refine WL.buildSlice (ps := [(0, .agg #[.int .i64 19, .int .i64 (10 + (k : Int)), .int .i64 2, .int .i64 0, .int .i64 (8 + 8 * x81)])]) (cs := [.int .i64 19, .int .i64 (10 + (k : Int)), .int .i64 2, .int .i64 0, .int .i64 (8 + 8 * x81)]) Tryd.underlying27 (tyZero_spec zer_36) rfl rfl rfl rfl (by kernel_rfl) hX ?_
     clear hX; intro w85 b84 hb_b84 hX
     exact WL.nil (N.cut _ ⟨rfl, trivial⟩ ⟨hX.below, ⟨_, rfl, hX.own _ List.mem_cons_self⟩⟩)
    trivial
   intro β w86 hb hD
   obtain ⟨hp0, hp1, hp2, hp3, hp4, hp5, hp6, hp7, hp8, hp9, hp10, hp11, hp12, hp13, _⟩ := hD
   refine WA.sub (σ' := [(1, .slice ads slots.length caps), (2, .int .i64 own), (3, .pointer (some ⟨b1, 0, none⟩)), (6, .pointer (some ⟨b3, 0, none⟩)), (7, .pointer (some ⟨b5, 0, none⟩)), (9, .int .i64 (k : Int)), (123, .slice adva k capva), (135, (β 13))]) ⟨rfl, rfl, rfl, rfl, rfl, rfl, congrArg some (show β 1 = .slice adva k capva from hp1), rfl, trivial⟩ ?_
   have hSd := hS
   replace hS := hS.grow hb
   replace hp13 : (fun v u => ∃ b, v = .slice (some ⟨b, 0, none⟩) 1 1 ∧ u.heap[b]? = some (.cells [.int .i64 19, .int .i64 (10 + (k : Int)), .int .i64 2, .int .i64 0, .int .i64 (8 + 8 * x81)].toArray 36 (0, 0))) (β 13) w86 := hp13
   generalize β 13 = z13 at hp13 ⊢
   refine WA.conv (fuel' := 2 + 1) (listed' := (lb 17 16383)) (by kernel_rfl) (by kernel_rfl) (WA.stepS 14 (by kernel_rfl) rfl ?_)
   obtain ⟨bq13, rfl, hbq13⟩ := hp13
   have hcq13 := cellsAt_block hbq13
   refine WL.appendRo (r := ⟨.slice adva k capva, 36, 5, k, cs⟩) (news := [.int .i64 19, .int .i64 (10 + (k : Int)), .int .i64 2, .int .i64 0, .int .i64 (8 + 8 * x81)]) 40 Tryd.underlying27 (tyZero_spec zer_36) byt_36 rfl rfl rfl rfl rfl rfl (fun e => by cases e) (fun b off e => by cases e; exact hcq13) (fun a e _ => by cases e; rfl) (by intro u hu; simp only [List.mem_cons, List.not_mem_nil, or_false] at hu; rcases hu with rfl | rfl | rfl | rfl | rfl <;> rfl) rfl rfl hS (by simp only; unfold maxLen; omega) (by simp only; omega) ?_
   clear hS; intro w87 v88 hS hnn
   have hrow : w87.ownsRow w.heap.size 36 5 v88 (k + 1) _ := hS.rows _ List.mem_cons_self
   obtain ⟨av88, cv88, rfl, hc1_v88, hc2_v88, hc3_v88⟩ := row_shape hrow
   clear hrow
   refine WL.nil (N.restS trivial ?_)
   refine WA.conv (fuel' := 1 + 1) (listed' := (lb 17 32767)) (by kernel_rfl) (by kernel_rfl) (WA.stepS 15 (by kernel_rfl) rfl ?_)
   refine WL.fieldAddr fo_99_0 rfl rfl rfl ?_
   refine WL.nil (N.restS trivial ?_)
   refine WA.conv (fuel' := 0 + 1) (listed' := (lb 17 65535)) (by kernel_rfl) (by kernel_rfl) (WA.stepS 16 (by kernel_rfl) rfl ?_)
   refine WL.store0 #[.slice av88 (k + 1) cv88, .slice none 0 0, .slice none 0 0, .slice none 0 0] rfl rfl rfl rfl siz_27 rfl rfl rfl hS ?_
   clear hS; intro w89 hS
   refine WL.nil (N.restS trivial ?_)
   refine WA.doneN (by kernel_rfl) ?_
   refine N.blk (N.seq (W.region (WL.move rfl rfl rfl ?_)))
   refine WL.add (c := (k : Int) + 1) rfl rfl rfl rfl (rfl) (by omega) ?_
   refine WL.assign rfl rfl rfl (WL.nil ?_)
   have hcs2 : cs ++ [.int .i64 19, .int .i64 (10 + (k : Int)), .int .i64 2, .int .i64 0, .int .i64 (8 + 8 * x81)] = oCells (cargs slots (x.args.take (k + 1))) := by rw [cargs_next hx80, slotAt_some hx81, oCells_app, ← hcs]; simp [oCells, opL, ld]
   exact N.loop (k + 1, .slice av88 (k + 1) cv88, cs ++ [.int .i64 19, .int .i64 (10 + (k : Int)), .int .i64 2, .int .i64 0, .int .i64 (8 + 8 * x81)]) ⟨rfl, rfl, rfl, rfl, rfl, rfl, trivial⟩ ⟨hS, by omega, hcs2⟩ (by first | omega | (simp only; omega))
  have hc78p : ¬ ((k : Int) < (x.args.length : Int)) := by simpa using hc78
  refine W.exit (X.seq (X.loop (X.blk (N.seq (W.seq ?_)))))
  have hke : k = x.args.length := by omega
  subst hke
  rw [List.take_length] at hcs
  subst hcs
  refine W.region (WL.fieldAddr fo_99_0 rfl rfl rfl (WL.load1 (v := .slice adva x.args.length capva) one_27 rfl rfl rfl (hS.cell 0 rfl rfl) (WL.lenSlice Tryd.underlying27 rfl rfl rfl (WL.fieldAddr fo_69_4 rfl rfl rfl (WL.load1 (v := .string x.name) one_9 rfl rfl rfl (hS.cell 2 rfl rfl) ?_)))))
  refine WL.build (ps := [(0, .int .i64 (x.args.length : Int)), (1, .int .i64 1), (2, .string x.name)]) (cs := [.int .i64 (x.args.length : Int), .int .i64 1, .string x.name]) rfl rfl rfl (by kernel_rfl) ?_
  refine WL.buildSlice (ps := [(0, .agg #[.int .i64 (x.args.length : Int), .int .i64 1, .string x.name])]) (cs := [.int .i64 (x.args.length : Int), .int .i64 1, .string x.name]) Tryd.underlying28 (tyZero_spec zer_34) rfl rfl rfl rfl (by kernel_rfl) hS ?_
  clear hS; intro w91 b90 hb_b90 hS
  refine WL.fieldAddr fo_99_1 rfl rfl rfl ?_
  refine WL.store1 #[.slice adva x.args.length capva, .slice (some ⟨b90, 0, none⟩) 1 1, .slice none 0 0, .slice none 0 0] rfl rfl rfl rfl siz_28 rfl rfl rfl hS ?_
  clear hS; intro w92 hS
  refine WL.nil (N.seq (W.seq ?_))
  refine W.drawA0 (S := fun u => True) (by kernel_rfl) (fun w93 hbd => ?_)
  replace hS := hS.grow hbd
  refine WA.conv (fuel' := 6 + 3) (listed' := (lb 9 0)) (by kernel_rfl) (by kernel_rfl) (WA.phaseI [(0, (fun v _ => v = .pointer (some ⟨b5, 0, none⟩))), (1, (fun v _ => v = .slice adva x.args.length capva)), (2, (fun v _ => v = .agg #[.int .i64 29, .int .i64 1, .int .i64 0, .int .i64 0, .int .i64 0])), (3, (fun v _ => v = .int .i64 own)), (4, (fun v _ => v = .agg #[.int .i64 21, .int .i64 0, .int .i64 2, .int .i64 10, .int .i64 (8 + 8 * own)])), (5, (fun v u => ∃ b, v = .slice (some ⟨b, 0, none⟩) 2 2 ∧ u.heap[b]? = some (.cells [.int .i64 29, .int .i64 1, .int .i64 0, .int .i64 0, .int .i64 0, .int .i64 21, .int .i64 0, .int .i64 2, .int .i64 10, .int .i64 (8 + 8 * own)].toArray 36 (0, 0))))] (by kernel_rfl) [(1, .slice ads slots.length caps), (2, .int .i64 own), (3, .pointer (some ⟨b1, 0, none⟩)), (6, .pointer (some ⟨b3, 0, none⟩)), (7, .pointer (some ⟨b5, 0, none⟩))] ⟨rfl, rfl, rfl, rfl, rfl, trivial⟩ (by kernel_rfl) ⟨stays_eq, stays_eq, stays_eq, stays_eq, stays_eq, (fun v u u2 h hb => h.elim fun b h => ⟨b, h.1, (hb.block b (Array.getElem?_eq_some_iff.1 h.2).1).trans h.2⟩), trivial⟩ ?_ (fun _ _ => trivial) ?_)
  ·
   refine ⟨fun β wd hb hD => ⟨_, rfl, ?_⟩, ?_⟩
   ·
    have hS := hS.grow hb
    refine WL.fieldAddr fo_99_0 rfl rfl rfl ?_
    exact WL.nil (N.cut _ ⟨rfl, trivial⟩ ⟨(Below.refl _ _), rfl⟩)
   refine ⟨fun β wd hb hD => ⟨_, rfl, ?_⟩, ?_⟩
   ·
    obtain ⟨hp0, _⟩ := hD
    replace hp0 : β 0 = .pointer (some ⟨b5, 0, none⟩) := hp0
    refine WL.sub (σ' := [(146, .pointer (some ⟨b5, 0, none⟩))]) ⟨congrArg some hp0, trivial⟩ ?_
    have hS := hS.grow hb
    refine WL.load1 (v := .slice adva x.args.length capva) one_27 rfl rfl rfl (hS.cell 1 rfl rfl) ?_
    exact WL.nil (N.cut _ ⟨rfl, trivial⟩ ⟨(Below.refl _ _), rfl⟩)
   refine ⟨fun β wd hb hD => ⟨_, rfl, ?_⟩, ?_⟩
   ·
    have hS := hS.grow hb
    refine WL.build (ps := [(0, .int .i64 29), (1, .int .i64 1)]) (cs := [.int .i64 29, .int .i64 1, .int .i64 0, .int .i64 0, .int .i64 0]) rfl rfl rfl (by kernel_rfl) ?_
    exact WL.nil (N.cut _ ⟨rfl, trivial⟩ ⟨(Below.refl _ _), rfl⟩)
   refine ⟨fun β wd hb hD => ⟨_, rfl, ?_⟩, ?_⟩
   ·
    have hS := hS.grow hb
    refine WL.move rfl rfl rfl ?_
    exact WL.nil (N.cut _ ⟨rfl, trivial⟩ ⟨(Below.refl _ _), rfl⟩)
   refine ⟨fun β wd hb hD => ⟨_, rfl, ?_⟩, ?_⟩
   ·
    obtain ⟨hp3, _⟩ := hD
    replace hp3 : β 3 = .int .i64 own := hp3
    refine WL.sub (σ' := [(149, .int .i64 own)]) ⟨congrArg some hp3, trivial⟩ ?_
    have hS := hS.grow hb
    refine WL.callF (vs := [.int .i64 10, .int .i64 own]) Tryd.func54 (by kernel_rfl) rfl rfl rfl (rsave_ret 10 own (by omega) (by omega) (ro := ro) (fun b hb => (hS.snap b hb).1)) ?_
    rintro v w95 ⟨rfl, hbl⟩
    replace hS := hS.grow hbl
    exact WL.nil (N.cut _ ⟨rfl, trivial⟩ ⟨hbl, rfl⟩)
   refine ⟨fun β wd hb hD => ⟨_, rfl, ?_⟩, ?_⟩
   ·
    obtain ⟨hp2, hp4, _⟩ := hD
    replace hp2 : β 2 = .agg #[.int .i64 29, .int .i64 1, .int .i64 0, .int .i64 0, .int .i64 0] := hp2
    replace hp4 : β 4 = .agg #[.int .i64 21, .int .i64 0, .int .i64 2, .int .i64 10, .int .i64 (8 + 8 * own)] := hp4
    refine WL.sub (σ' := [(148, .agg #[.int .i64 29, .int .i64 1, .int .i64 0, .int .i64 0, .int .i64 0]), (150, .agg #[.int .i64 21, .int .i64 0, .int .i64 2, .int .i64 10, .int .i64 (8 + 8 * own)])]) ⟨congrArg some hp2, congrArg some hp4, trivial⟩ ?_
    have hS := hS.grow hb
    have hX := St.start (w := wd) (ro := fun z => z < wd.heap.size) (fun _ h => h)
    refine WL.buildSlice (ps := [(0, .agg #[.int .i64 29, .int .i64 1, .int .i64 0, .int .i64 0, .int .i64 0]), (1, .agg #[.int .i64 21, .int .i64 0, .int .i64 2, .int .i64 10, .int .i64 (8 + 8 * own)])]) (cs := [.int .i64 29, .int .i64 1, .int .i64 0, .int .i64 0, .int .i64 0, .int .i64 21, .int .i64 0, .int .i64 2, .int .i64 10, .int .i64 (8 + 8 * own)]) Tryd.underlying27 (tyZero_spec zer_36) rfl rfl rfl rfl (by kernel_rfl) hX ?_
    clear hX; intro w97 b96 hb_b96 hX
    exact WL.nil (N.cut _ ⟨rfl, trivial⟩ ⟨hX.below, ⟨_, rfl, hX.own _ List.mem_cons_self⟩⟩)
   trivial
  intro β w98 hb hD
  obtain ⟨hp0, hp1, hp2, hp3, hp4, hp5, _⟩ := hD
  refine WA.sub (σ' := [(1, .slice ads slots.length caps), (2, .int .i64 own), (3, .pointer (some ⟨b1, 0, none⟩)), (6, .pointer (some ⟨b3, 0, none⟩)), (7, .pointer (some ⟨b5, 0, none⟩)), (147, .slice adva x.args.length capva), (151, (β 5))]) ⟨rfl, rfl, rfl, rfl, rfl, congrArg some (show β 1 = .slice adva x.args.length capva from hp1), rfl, trivial⟩ ?_
  have hSd := hS
  replace hS := hS.grow hb
  replace hp5 : (fun v u => ∃ b, v = .slice (some ⟨b, 0, none⟩) 2 2 ∧ u.heap[b]? = some (.cells [.int .i64 29, .int .i64 1, .int .i64 0, .int .i64 0, .int .i64 0, .int .i64 21, .int .i64 0, .int .i64 2, .int .i64 10, .int .i64 (8 + 8 * own)].toArray 36 (0, 0))) (β 5) w98 := hp5
  generalize β 5 = z5 at hp5 ⊢
  refine WA.conv (fuel' := 2 + 1) (listed' := (lb 9 63)) (by kernel_rfl) (by kernel_rfl) (WA.stepS 6 (by kernel_rfl) rfl ?_)
  obtain ⟨bq5, rfl, hbq5⟩ := hp5
  have hcq5 := cellsAt_block hbq5
  refine WL.appendRo (r := ⟨.slice adva x.args.length capva, 36, 5, x.args.length, (oCells (cargs slots x.args))⟩) (news := [.int .i64 29, .int .i64 1, .int .i64 0, .int .i64 0, .int .i64 0, .int .i64 21, .int .i64 0, .int .i64 2, .int .i64 10, .int .i64 (8 + 8 * own)]) 40 Tryd.underlying27 (tyZero_spec zer_36) byt_36 rfl rfl rfl rfl rfl rfl (fun e => by cases e) (fun b off e => by cases e; exact hcq5) (fun a e _ => by cases e; rfl) (by intro u hu; simp only [List.mem_cons, List.not_mem_nil, or_false] at hu; rcases hu with rfl | rfl | rfl | rfl | rfl | rfl | rfl | rfl | rfl | rfl <;> rfl) rfl rfl hS (by simp only; unfold maxLen; omega) (by simp only; omega) ?_
  clear hS; intro w99 v100 hS hnn
  have hrow : w99.ownsRow w.heap.size 36 5 v100 (x.args.length + 2) _ := hS.rows _ List.mem_cons_self
  obtain ⟨av100, cv100, rfl, hc1_v100, hc2_v100, hc3_v100⟩ := row_shape hrow
  clear hrow
  refine WL.nil (N.restS trivial ?_)
  refine WA.conv (fuel' := 1 + 1) (listed' := (lb 9 127)) (by kernel_rfl) (by kernel_rfl) (WA.stepS 7 (by kernel_rfl) rfl ?_)
  refine WL.fieldAddr fo_99_0 rfl rfl rfl ?_
  refine WL.nil (N.restS trivial ?_)
  refine WA.conv (fuel' := 0 + 1) (listed' := (lb 9 255)) (by kernel_rfl) (by kernel_rfl) (WA.stepS 8 (by kernel_rfl) rfl ?_)
  refine WL.store1 #[.slice av100 (x.args.length + 2) cv100, .slice (some ⟨b90, 0, none⟩) 1 1, .slice none 0 0, .slice none 0 0] rfl rfl rfl rfl siz_27 rfl rfl rfl hS ?_
  clear hS; intro w101 hS
  refine WL.nil (N.restS trivial ?_)
  refine WA.doneN (by kernel_rfl) ?_
  refine N.seq (W.seq (W.region (WL.loadN (cs := [.slice av100 (x.args.length + 2) cv100, .slice (some ⟨b90, 0, none⟩) 1 1, .slice none 0 0, .slice none 0 0]) agg_99 rfl rfl rfl rfl (hS.cells 1 (m := 4) rfl rfl) ?_)))
  refine WL.store2 #[.slice av100 (x.args.length + 2) cv100, .slice (some ⟨b90, 0, none⟩) 1 1, .slice none 0 0, .slice none 0 0] rfl rfl rfl rfl siz_99 rfl rfl rfl hS ?_
  clear hS; intro w102 hS
  refine WL.nil (N.seq ?_)
  refine Fin.retC rfl (v := .agg #[.slice av100 (x.args.length + 2) cv100, .slice (some ⟨b90, 0, none⟩) 1 1, .slice none 0 0, .slice none 0 0]) rfl (tyAgg_run agg_99 (cs := [.slice av100 (x.args.length + 2) cv100, .slice (some ⟨b90, 0, none⟩) 1 1, .slice none 0 0, .slice none 0 0]) rfl (hS.cells 2 (m := 4) rfl rfl)) ?_
  replace hS := hS.toRow (n := 1) (cap := 1) (sz := 3) (xs := [.int .i64 (x.args.length : Int), .int .i64 1, .string x.name]) rfl rfl (Nat.le_refl _) (by decide)
  have hg : give17 0 slots x = (cargs slots x.args ++ [(⟨29, 1, 0, 0, 0⟩ : DOp)], ([(⟨((0 + x.args.length : Nat) : Int), 1, x.name⟩ : DRel)] : List DRel), 10) := by unfold give17; rw [if_neg (by omega), if_neg (by omega), if_neg (by omega), if_pos (by omega)]
  have hO : (inst17 slots own x).ops = cargs slots x.args ++ [(⟨29, 1, 0, 0, 0⟩ : DOp)] ++ [sv 10 own] := by unfold inst17; rw [hg]
  have hR : (inst17 slots own x).rels = [(⟨((0 + x.args.length : Nat) : Int), 1, x.name⟩ : DRel)] := by unfold inst17; rw [hg]
  have hrw : ((oCells (cargs slots x.args)) ++ [.int .i64 29, .int .i64 1, .int .i64 0, .int .i64 0, .int .i64 0, .int .i64 21, .int .i64 0, .int .i64 2, .int .i64 10, .int .i64 (8 + 8 * own)] : List Value) = oCells (inst17 slots own x).ops := by rw [hO]; simp [oCells, opL, ld, sv]
  have hn : x.args.length + 2 = (inst17 slots own x).ops.length := by rw [hO]; simp [cargs_len]
  have H1 : SlV (fun b => w.heap.size ≤ b ∧ b < w102.heap.size) w102 5 OpC (.slice av100 (x.args.length + 2) cv100) (inst17 slots own x).ops := row_slv (hS.rows _ (List.mem_of_getElem? (i := 1) rfl)) (by show Chunks 5 OpC ((oCells (cargs slots x.args)) ++ [.int .i64 29, .int .i64 1, .int .i64 0, .int .i64 0, .int .i64 0, .int .i64 21, .int .i64 0, .int .i64 2, .int .i64 10, .int .i64 (8 + 8 * own)]) _; rw [hrw]; exact hpk.oC) hn (fun y hy => (hS.keys y (by simp only [keysOf, List.mem_append, List.mem_filterMap]; exact .inr ⟨_, List.mem_of_getElem? (i := 1) rfl, hy⟩)).imp id (·.1))
  have hrw2 : ([.int .i64 (x.args.length : Int), .int .i64 1, .string x.name] : List Value) = rCells (inst17 slots own x).rels := by rw [hR]; simp [rCells, relL]
  have H2 : SlV (fun b => w.heap.size ≤ b ∧ b < w102.heap.size) w102 3 RelC (.slice (some ⟨b90, 0, none⟩) 1 1) (inst17 slots own x).rels := row_slv (hS.rows _ (List.mem_of_getElem? (i := 0) rfl)) (by show Chunks 3 RelC ([.int .i64 (x.args.length : Int), .int .i64 1, .string x.name]) _; rw [hrw2]; exact hpk.rC (by rw [hO]; simp [cargs_len]; try omega)) (by rw [hR]; rfl) (fun y hy => (hS.keys y (by simp only [keysOf, List.mem_append, List.mem_filterMap]; exact .inr ⟨_, List.mem_of_getElem? (i := 0) rfl, hy⟩)).imp id (·.1))
  exact ⟨_, rfl, ⟨_, _, _, _, rfl, H1, H2, slv_nil, slv_nil⟩, hS.below⟩
 have hc76p : ¬ (x.op = 14) := by simpa using hc76
 refine W.skip (N.seq (W.seq (W.seq (W.region (WL.fieldAddr fo_69_0 rfl rfl rfl (WL.load1 (v := .int .i64 x.op) one_3 rfl rfl rfl (hS.cell 2 rfl rfl) (WL.bin rfl rfl rfl rfl rfl (WL.nil (N.seq ?_)))))))))
 refine W.cond rfl (fun hc103 => ?_) (fun hc103 => ?_)
 ·
  have hc103p : x.op = 15 := by simpa using hc103
  refine W.seq (W.region ?_)
  refine WL.build (ps := [(0, .int .i64 12), (1, .int .i64 17), (4, .int .i64 63)]) (cs := [.int .i64 12, .int .i64 17, .int .i64 0, .int .i64 0, .int .i64 63]) rfl rfl rfl (by kernel_rfl) ?_
  refine WL.build (ps := [(0, .int .i64 31)]) (cs := [.int .i64 31, .int .i64 0, .int .i64 0, .int .i64 0, .int .i64 0]) rfl rfl rfl (by kernel_rfl) ?_
  refine WL.move rfl rfl rfl ?_
  refine WL.callF (vs := [.int .i64 10, .int .i64 own]) Tryd.func54 (by kernel_rfl) rfl rfl rfl (rsave_ret 10 own (by omega) (by omega) (ro := ro) (fun b hb => (hS.snap b hb).1)) ?_
  rintro v w104 ⟨rfl, hbl⟩
  replace hS := hS.grow hbl
  refine WL.buildSlice (ps := [(0, .agg #[.int .i64 12, .int .i64 17, .int .i64 0, .int .i64 0, .int .i64 63]), (1, .agg #[.int .i64 31, .int .i64 0, .int .i64 0, .int .i64 0, .int .i64 0]), (2, .agg #[.int .i64 21, .int .i64 0, .int .i64 2, .int .i64 10, .int .i64 (8 + 8 * own)])]) (cs := [.int .i64 12, .int .i64 17, .int .i64 0, .int .i64 0, .int .i64 63, .int .i64 31, .int .i64 0, .int .i64 0, .int .i64 0, .int .i64 0, .int .i64 21, .int .i64 0, .int .i64 2, .int .i64 10, .int .i64 (8 + 8 * own)]) Tryd.underlying27 (tyZero_spec zer_36) rfl rfl rfl rfl (by kernel_rfl) hS ?_
  clear hS; intro w106 b105 hb_b105 hS
  refine WL.fieldAddr fo_99_0 rfl rfl rfl ?_
  refine WL.store1 #[.slice (some ⟨b105, 0, none⟩) 3 3, .slice none 0 0, .slice none 0 0, .slice none 0 0] rfl rfl rfl rfl siz_27 rfl rfl rfl hS ?_
  clear hS; intro w107 hS
  refine WL.nil (N.seq (W.seq (W.region (WL.loadN (cs := [.slice (some ⟨b105, 0, none⟩) 3 3, .slice none 0 0, .slice none 0 0, .slice none 0 0]) agg_99 rfl rfl rfl rfl (hS.cells 1 (m := 4) rfl rfl) ?_))))
  refine WL.store2 #[.slice (some ⟨b105, 0, none⟩) 3 3, .slice none 0 0, .slice none 0 0, .slice none 0 0] rfl rfl rfl rfl siz_99 rfl rfl rfl hS ?_
  clear hS; intro w108 hS
  refine WL.nil (N.seq ?_)
  refine Fin.retC rfl (v := .agg #[.slice (some ⟨b105, 0, none⟩) 3 3, .slice none 0 0, .slice none 0 0, .slice none 0 0]) rfl (tyAgg_run agg_99 (cs := [.slice (some ⟨b105, 0, none⟩) 3 3, .slice none 0 0, .slice none 0 0, .slice none 0 0]) rfl (hS.cells 2 (m := 4) rfl rfl)) ?_
  replace hS := hS.toRow (n := 3) (cap := 3) (sz := 5) (xs := [.int .i64 12, .int .i64 17, .int .i64 0, .int .i64 0, .int .i64 63, .int .i64 31, .int .i64 0, .int .i64 0, .int .i64 0, .int .i64 0, .int .i64 21, .int .i64 0, .int .i64 2, .int .i64 10, .int .i64 (8 + 8 * own)]) rfl rfl (Nat.le_refl _) (by decide)
  have hg : give17 0 slots x = ([(⟨12, 17, 0, 0, 63⟩ : DOp), ⟨31, 0, 0, 0, 0⟩], ([] : List DRel), 10) := by unfold give17; rw [if_neg (by omega), if_neg (by omega), if_neg (by omega), if_neg (by omega), if_pos (by omega)]
  have hO : (inst17 slots own x).ops = [(⟨12, 17, 0, 0, 63⟩ : DOp), ⟨31, 0, 0, 0, 0⟩] ++ [sv 10 own] := by unfold inst17; rw [hg]
  have hR : (inst17 slots own x).rels = [] := by unfold inst17; rw [hg]
  have hrw : ([.int .i64 12, .int .i64 17, .int .i64 0, .int .i64 0, .int .i64 63, .int .i64 31, .int .i64 0, .int .i64 0, .int .i64 0, .int .i64 0, .int .i64 21, .int .i64 0, .int .i64 2, .int .i64 10, .int .i64 (8 + 8 * own)] : List Value) = oCells (inst17 slots own x).ops := by rw [hO]; simp [oCells, opL, ld, sv]
  have hn : 3 = (inst17 slots own x).ops.length := by rw [hO]; simp [cargs_len]
  have H1 : SlV (fun b => w.heap.size ≤ b ∧ b < w108.heap.size) w108 5 OpC (.slice (some ⟨b105, 0, none⟩) 3 3) (inst17 slots own x).ops := row_slv (hS.rows _ (List.mem_of_getElem? (i := 0) rfl)) (by show Chunks 5 OpC ([.int .i64 12, .int .i64 17, .int .i64 0, .int .i64 0, .int .i64 63, .int .i64 31, .int .i64 0, .int .i64 0, .int .i64 0, .int .i64 0, .int .i64 21, .int .i64 0, .int .i64 2, .int .i64 10, .int .i64 (8 + 8 * own)]) _; rw [hrw]; exact hpk.oC) hn (fun y hy => (hS.keys y (by simp only [keysOf, List.mem_append, List.mem_filterMap]; exact .inr ⟨_, List.mem_of_getElem? (i := 0) rfl, hy⟩)).imp id (·.1))
  have H2 : SlV (fun b => w.heap.size ≤ b ∧ b < w108.heap.size) w108 3 RelC (.slice none 0 0) (inst17 slots own x).rels := by rw [hR]; exact slv_nil
  exact ⟨_, rfl, ⟨_, _, _, _, rfl, H1, H2, slv_nil, slv_nil⟩, hS.below⟩
 have hc103p : ¬ (x.op = 15) := by simpa using hc103
 refine W.skip (N.seq (W.seq (W.region (WL.move rfl rfl rfl (WL.fieldAddr fo_69_1 rfl rfl rfl (WL.load1 (v := .int .i64 x.a) one_3 rfl rfl rfl (hS.cell 2 rfl rfl) ?_))))))
 have hv_a := huse x.a (uses5_a (by omega))
 have hvn_a : ((x.a.toNat : Nat) : Int) = x.a := by omega
 refine WL.set 167 (v' := .int .i64 (x.a.toNat : Int)) rfl (congrArg _ (by omega)) ?_
 have hj109 : x.a.toNat < slots.length := by omega
 obtain ⟨x109, hx109, b109, o109, cs109, hE109, hr109, _, hc109, hQ109⟩ := opn hsld hj109
 obtain ⟨rfl, hi109⟩ := hQ109
 refine WL.indexAddrE (j := x.a.toNat) Tryd.underlying55 isz_3 rfl rfl rfl rfl hj109 hE109 (WL.load1 (v := .int .i64 x109) one_3 rfl rfl rfl (hS.roCells hr109 hc109 0 _ rfl) ?_)
 have hsb_a := hsb _ (List.mem_of_getElem? hx109)
 have hsl_a := slotAt_some hx109
 refine WL.callF (vs := [.int .i64 10, .int .i64 x109]) Tryd.func72 (by kernel_rfl) rfl rfl rfl (rload_ret 10 x109 (by omega) (by omega) (ro := ro) (fun b hb => (hS.snap b hb).1)) ?_
 rintro v w110 ⟨rfl, hbl⟩
 replace hS := hS.grow hbl
 refine WL.build (ps := [(0, .int .i64 12), (1, .int .i64 17), (4, .int .i64 64)]) (cs := [.int .i64 12, .int .i64 17, .int .i64 0, .int .i64 0, .int .i64 64]) rfl rfl rfl (by kernel_rfl) ?_
 refine WL.build (ps := [(0, .int .i64 31)]) (cs := [.int .i64 31, .int .i64 0, .int .i64 0, .int .i64 0, .int .i64 0]) rfl rfl rfl (by kernel_rfl) ?_
 refine WL.move rfl rfl rfl ?_
 refine WL.callF (vs := [.int .i64 0, .int .i64 own]) Tryd.func54 (by kernel_rfl) rfl rfl rfl (rsave_ret 0 own (by omega) (by omega) (ro := ro) (fun b hb => (hS.snap b hb).1)) ?_
 rintro v w111 ⟨rfl, hbl⟩
 replace hS := hS.grow hbl
 refine WL.buildSlice (ps := [(0, .agg #[.int .i64 19, .int .i64 10, .int .i64 2, .int .i64 0, .int .i64 (8 + 8 * x109)]), (1, .agg #[.int .i64 12, .int .i64 17, .int .i64 0, .int .i64 0, .int .i64 64]), (2, .agg #[.int .i64 31, .int .i64 0, .int .i64 0, .int .i64 0, .int .i64 0]), (3, .agg #[.int .i64 21, .int .i64 0, .int .i64 2, .int .i64 0, .int .i64 (8 + 8 * own)])]) (cs := [.int .i64 19, .int .i64 10, .int .i64 2, .int .i64 0, .int .i64 (8 + 8 * x109), .int .i64 12, .int .i64 17, .int .i64 0, .int .i64 0, .int .i64 64, .int .i64 31, .int .i64 0, .int .i64 0, .int .i64 0, .int .i64 0, .int .i64 21, .int .i64 0, .int .i64 2, .int .i64 0, .int .i64 (8 + 8 * own)]) Tryd.underlying27 (tyZero_spec zer_36) rfl rfl rfl rfl (by kernel_rfl) hS ?_
 clear hS; intro w113 b112 hb_b112 hS
 refine WL.fieldAddr fo_99_0 rfl rfl rfl ?_
 refine WL.store1 #[.slice (some ⟨b112, 0, none⟩) 4 4, .slice none 0 0, .slice none 0 0, .slice none 0 0] rfl rfl rfl rfl siz_27 rfl rfl rfl hS ?_
 clear hS; intro w114 hS
 refine WL.nil (N.seq (W.seq (W.region (WL.loadN (cs := [.slice (some ⟨b112, 0, none⟩) 4 4, .slice none 0 0, .slice none 0 0, .slice none 0 0]) agg_99 rfl rfl rfl rfl (hS.cells 1 (m := 4) rfl rfl) ?_))))
 refine WL.store2 #[.slice (some ⟨b112, 0, none⟩) 4 4, .slice none 0 0, .slice none 0 0, .slice none 0 0] rfl rfl rfl rfl siz_99 rfl rfl rfl hS ?_
 clear hS; intro w115 hS
 refine WL.nil (N.seq ?_)
 refine Fin.retC rfl (v := .agg #[.slice (some ⟨b112, 0, none⟩) 4 4, .slice none 0 0, .slice none 0 0, .slice none 0 0]) rfl (tyAgg_run agg_99 (cs := [.slice (some ⟨b112, 0, none⟩) 4 4, .slice none 0 0, .slice none 0 0, .slice none 0 0]) rfl (hS.cells 2 (m := 4) rfl rfl)) ?_
 replace hS := hS.toRow (n := 4) (cap := 4) (sz := 5) (xs := [.int .i64 19, .int .i64 10, .int .i64 2, .int .i64 0, .int .i64 (8 + 8 * x109), .int .i64 12, .int .i64 17, .int .i64 0, .int .i64 0, .int .i64 64, .int .i64 31, .int .i64 0, .int .i64 0, .int .i64 0, .int .i64 0, .int .i64 21, .int .i64 0, .int .i64 2, .int .i64 0, .int .i64 (8 + 8 * own)]) rfl rfl (Nat.le_refl _) (by decide)
 have hg : give17 0 slots x = ([ld 10 (slotAt slots x.a), ⟨12, 17, 0, 0, 64⟩, ⟨31, 0, 0, 0, 0⟩], ([] : List DRel), 0) := by unfold give17; rw [if_neg (by omega), if_neg (by omega), if_neg (by omega), if_neg (by omega), if_neg (by omega), if_pos (by omega)]
 have hO : (inst17 slots own x).ops = [ld 10 (slotAt slots x.a), ⟨12, 17, 0, 0, 64⟩, ⟨31, 0, 0, 0, 0⟩] ++ [sv 0 own] := by unfold inst17; rw [hg]
 have hR : (inst17 slots own x).rels = [] := by unfold inst17; rw [hg]
 have hrw : ([.int .i64 19, .int .i64 10, .int .i64 2, .int .i64 0, .int .i64 (8 + 8 * x109), .int .i64 12, .int .i64 17, .int .i64 0, .int .i64 0, .int .i64 64, .int .i64 31, .int .i64 0, .int .i64 0, .int .i64 0, .int .i64 0, .int .i64 21, .int .i64 0, .int .i64 2, .int .i64 0, .int .i64 (8 + 8 * own)] : List Value) = oCells (inst17 slots own x).ops := by rw [hO]; simp [oCells, opL, ld, sv, hsl_a]
 have hn : 4 = (inst17 slots own x).ops.length := by rw [hO]; simp [cargs_len]
 have H1 : SlV (fun b => w.heap.size ≤ b ∧ b < w115.heap.size) w115 5 OpC (.slice (some ⟨b112, 0, none⟩) 4 4) (inst17 slots own x).ops := row_slv (hS.rows _ (List.mem_of_getElem? (i := 0) rfl)) (by show Chunks 5 OpC ([.int .i64 19, .int .i64 10, .int .i64 2, .int .i64 0, .int .i64 (8 + 8 * x109), .int .i64 12, .int .i64 17, .int .i64 0, .int .i64 0, .int .i64 64, .int .i64 31, .int .i64 0, .int .i64 0, .int .i64 0, .int .i64 0, .int .i64 21, .int .i64 0, .int .i64 2, .int .i64 0, .int .i64 (8 + 8 * own)]) _; rw [hrw]; exact hpk.oC) hn (fun y hy => (hS.keys y (by simp only [keysOf, List.mem_append, List.mem_filterMap]; exact .inr ⟨_, List.mem_of_getElem? (i := 0) rfl, hy⟩)).imp id (·.1))
 have H2 : SlV (fun b => w.heap.size ≤ b ∧ b < w115.heap.size) w115 3 RelC (.slice none 0 0) (inst17 slots own x).rels := by rw [hR]; exact slv_nil
 exact ⟨_, rfl, ⟨_, _, _, _, rfl, H1, H2, slv_nil, slv_nil⟩, hS.below⟩

end Go.Proofs.YtcmmhfknkldmcaaDoor
