/-
  What gen makes, as plain functions: lengths, and what stands where. No condition beyond those that each theorem states.
-/
import Derived.Test.YtcmmhfknkldmcaaDoorG8
namespace Go.Proofs.YtcmmhfknkldmcaaDoor
open Go.RowKit

structure G17 where
  ops : List DOp
  rels : List DRel
  starts : List Int
  jumps : List (Nat × Tgt)
def insStep (slots : List Int) (p : Int) (s : List DOp × List DRel) (i : Nat) (x : DInst) : List DOp × List DRel :=
  (s.1 ++ (give17 s.1.length slots x).1 ++ [sv (give17 s.1.length slots x).2.2 (slotAt slots (p + (i : Int)))], s.2 ++ (give17 s.1.length slots x).2.1)
def ins17 (slots : List Int) (p : Int) (s : List DOp × List DRel) (l : List DInst) : List DOp × List DRel := l.zipIdx.foldl (fun s q => insStep slots p s q.2 q.1) s
theorem ins17_next {slots : List Int} {p : Int} {s : List DOp × List DRel} {l : List DInst} {k : Nat} {x : DInst} (h : l[k]? = some x) : ins17 slots p s (l.take (k + 1)) = insStep slots p (ins17 slots p s (l.take k)) k x := by
  have hk := (List.getElem?_eq_some_iff.1 h).1
  unfold ins17
  rw [take_next h, List.zipIdx_append, List.foldl_append]
  simp [List.length_take, Nat.min_eq_left (Nat.le_of_lt hk)]
def blk17 (mn fr : Int) (g : G17) (b : DBlock) : G17 :=
  { ops := (ins17 (give16 b) b.params (g.ops, g.rels) b.ins).1 ++ (end17 (ins17 (give16 b) b.params (g.ops, g.rels) b.ins).1.length (give16 b) mn fr b.fin).1
    rels := (ins17 (give16 b) b.params (g.ops, g.rels) b.ins).2
    starts := g.starts ++ [(g.ops.length : Int)]
    jumps := g.jumps ++ (end17 (ins17 (give16 b) b.params (g.ops, g.rels) b.ins).1.length (give16 b) mn fr b.fin).2 }
def headP (n : Nat) : List DOp := (List.range n).map fun (i : Nat) => sv (10 + (i : Int)) (i : Int)
def head17 (fr : Int) (n : Nat) : List DOp := [⟨12, 2, 2, 0, 0 - fr⟩, ⟨21, 0, 2, 1, 0⟩] ++ headP n
theorem headP_next (n : Nat) : headP (n + 1) = headP n ++ [sv (10 + (n : Int)) (n : Int)] := by unfold headP; rw [List.range_succ, List.map_append]; rfl
def frame17 (f : DFunc) : Int := (71 + 8 * many16 f) / 16 * 16
def g0 (f : DFunc) : G17 := ⟨head17 (frame17 f) f.params.toNat, [], [], []⟩
def gAt (f : DFunc) (k : Nat) : G17 := (f.blocks.take k).foldl (blk17 (many16 f) (frame17 f)) (g0 f)
theorem gAt_next {f : DFunc} {k : Nat} {b : DBlock} (h : f.blocks[k]? = some b) : gAt f (k + 1) = blk17 (many16 f) (frame17 f) (gAt f k) b := by
  unfold gAt; rw [take_next h, List.foldl_append]; rfl
def tgtOf (starts : List Int) : Tgt → Int
  | .block k => starts.getD k.toNat 0
  | .place n => (n : Int)
def setJ (starts : List Int) (l : List DOp) (j : Nat × Tgt) : List DOp := setImm l j.1 (4 * (tgtOf starts j.2 - (j.1 : Int)))
def jumpAll (starts : List Int) (l : List DOp) (js : List (Nat × Tgt)) : List DOp := js.foldl (setJ starts) l
theorem jumpAll_next {starts : List Int} {l : List DOp} {js : List (Nat × Tgt)} {k : Nat} {j : Nat × Tgt} (h : js[k]? = some j) : jumpAll starts l (js.take (k + 1)) = setJ starts (jumpAll starts l (js.take k)) j := by
  unfold jumpAll; rw [take_next h, List.foldl_append]; rfl
theorem setImm_len (l : List DOp) (i : Nat) (z : Int) : (setImm l i z).length = l.length := by simp [setImm]
theorem jumpAll_len (starts : List Int) (l : List DOp) (js : List (Nat × Tgt)) : (jumpAll starts l js).length = l.length := by
  unfold jumpAll
  induction js generalizing l with
  | nil => rfl
  | cons j js ih => rw [List.foldl_cons, ih]; unfold setJ; rw [setImm_len]
structure DCode where
  name : ByteArray
  ops : List DOp
  rels : List DRel
def gFull (f : DFunc) : G17 := gAt f f.blocks.length
def func17 (f : DFunc) : DCode := ⟨f.name, jumpAll (gFull f).starts (gFull f).ops (gFull f).jumps, (gFull f).rels⟩

theorem give17_len {no : Nat} {slots : List Int} {x : DInst} (hx : x.args.length ≤ 6) (hk : inU x.k) : (give17 no slots x).1.length ≤ 11 ∧ (give17 no slots x).2.1.length ≤ 2 := by
  unfold give17
  have h64 : x.k.toNat < 18446744073709551616 := by unfold inU at hk; omega
  have h1 := (lit_len (r := 5) h64).1
  have h2 := cargs_len slots x.args
  (repeat' split) <;> simp only [List.length_cons, List.length_nil, List.length_append] <;> omega
theorem end17_len {no : Nat} {slots : List Int} {mn fr : Int} {t : DTerm} (ha : t.args.length ≤ 6) (he : t.elses.length ≤ 6) : (end17 no slots mn fr t).1.length ≤ 53 ∧ (end17 no slots mn fr t).2.length ≤ 3 := by
  unfold end17
  have h1 := hand17_len slots mn t.args
  have h2 := hand17_len slots mn t.elses
  (repeat' split) <;> simp only [List.length_cons, List.length_nil, List.length_append] <;> omega
/-- What is right of a function, as these walks use it. -/
structure OkG (f : DFunc) : Prop where
  bl : f.blocks.length ≤ 16
  p0 : 0 ≤ f.params
  p1 : f.params ≤ 6
  ok : ∀ b ∈ f.blocks, Ok16 b
  pb : ∀ b ∈ f.blocks, b.params ≤ 6 ∧ b.ins.length ≤ 32
  ks : ∀ b ∈ f.blocks, ∀ x ∈ b.ins, inU x.k ∧ 1 ≤ x.op ∧ x.op ≤ 16 ∧ x.args.length ≤ 6 ∧ x.name.size ≤ maxLen
  tm : ∀ b ∈ f.blocks, (b.fin.kind = 1 ∨ b.fin.kind = 2 ∨ b.fin.kind = 3) ∧ b.fin.args.length ≤ 6 ∧ b.fin.elses.length ≤ 6
  to : ∀ b ∈ f.blocks, (b.fin.kind ≠ 3 → 0 ≤ b.fin.to ∧ b.fin.to < f.blocks.length) ∧ (b.fin.kind = 2 → 0 ≤ b.fin.els ∧ b.fin.els < f.blocks.length)
theorem ins17_len {slots : List Int} {p : Int} {s : List DOp × List DRel} {l : List DInst} (hk : ∀ x ∈ l, inU x.k ∧ x.args.length ≤ 6) (k : Nat) (hkl : k ≤ l.length) :
    (ins17 slots p s (l.take k)).1.length ≤ s.1.length + 12 * k ∧ (ins17 slots p s (l.take k)).2.length ≤ s.2.length + 2 * k ∧ s.1.length ≤ (ins17 slots p s (l.take k)).1.length := by
  induction k with
  | zero => simp [ins17]
  | succ k ih =>
    have hx : l[k]? = some l[k] := List.getElem?_eq_getElem (by omega)
    have h1 := ih (by omega)
    have h2 := hk _ (List.mem_of_getElem? hx)
    have h3 := give17_len (no := (ins17 slots p s (l.take k)).1.length) (slots := slots) h2.2 h2.1
    rw [ins17_next hx]
    unfold insStep
    simp only [List.length_append, List.length_cons, List.length_nil]
    omega
theorem gAt_len {f : DFunc} (h : OkG f) (k : Nat) (hk : k ≤ f.blocks.length) : (gAt f k).ops.length ≤ 8 + 437 * k ∧ (gAt f k).rels.length ≤ 64 * k ∧ (gAt f k).jumps.length ≤ 3 * k ∧ (gAt f k).starts.length = k := by
  induction k with
  | zero =>
    have h1 := h.p1
    have h0 := h.p0
    have h2 : f.params.toNat ≤ 6 := by omega
    unfold gAt
    rw [List.take_zero, List.foldl_nil]
    unfold g0 head17 headP
    simp only [List.length_append, List.length_cons, List.length_nil, List.length_map, List.length_range]
    exact ⟨by omega, by omega, by omega, trivial⟩
  | succ k ih =>
    have hb : f.blocks[k]? = some f.blocks[k] := List.getElem?_eq_getElem (by omega)
    have hm := List.mem_of_getElem? hb
    obtain ⟨i1, i2, i3, i4⟩ := ih (by omega)
    have h1 := ins17_len (slots := give16 f.blocks[k]) (p := f.blocks[k].params) (s := ((gAt f k).ops, (gAt f k).rels)) (l := f.blocks[k].ins) (fun x hx => ⟨(h.ks _ hm x hx).1, (h.ks _ hm x hx).2.2.2.1⟩) _ (Nat.le_refl _)
    rw [List.take_length] at h1
    have h2 := end17_len (no := (ins17 (give16 f.blocks[k]) f.blocks[k].params ((gAt f k).ops, (gAt f k).rels) f.blocks[k].ins).1.length) (slots := give16 f.blocks[k]) (mn := many16 f) (fr := frame17 f) (h.tm _ hm).2.1 (h.tm _ hm).2.2
    have h3 := (h.pb _ hm).2
    rw [gAt_next hb]
    unfold blk17
    simp only [List.length_append, List.length_cons, List.length_nil] at *
    omega
theorem give16_small {f : DFunc} (h : OkG f) {b : DBlock} (hb : b ∈ f.blocks) : ∀ x ∈ give16 b, 0 ≤ x ∧ x + 1 ≤ 38 := fun x hx => by
  obtain ⟨i, hi⟩ := List.mem_iff_getElem?.1 hx
  have h1 := (few16 (h.ok b hb)).step i x hi
  have h2 := (List.getElem?_eq_some_iff.1 hi).1
  rw [give16_length (h.ok b hb)] at h2
  have h3 := h.pb b hb
  have h4 := (h.ok b hb).p0
  omega
theorem many16_38 {f : DFunc} (h : OkG f) : 0 ≤ many16 f ∧ many16 f ≤ 38 := by
  refine ⟨?_, ?_⟩
  · rw [← manyAt_full]
    have : ∀ k, 0 ≤ manyAt f k := fun k => by
      unfold manyAt
      generalize f.blocks.take k = l
      have : ∀ (l : List DBlock) (n : Int), 0 ≤ n → 0 ≤ l.foldl (fun n b => maxOf n (give16 b)) n := fun l => by
        induction l with
        | nil => intro n h; exact h
        | cons c l ih => intro n h; exact ih _ (Int.le_trans h maxOf_ge.1)
      exact this l 0 (Int.le_refl _)
    exact this _
  · rw [← manyAt_full]
    exact manyAt_le (by omega) _ fun b hb x hx => (give16_small h (List.mem_of_mem_take hb) x hx).2
theorem andn15 : ∀ m : _root_.Fin 64, IntKind.i64.wrap ((BitVec.ofInt IntKind.i64.bits (56 + 8 * (m.val : Int) + 15) &&& ~~~BitVec.ofInt IntKind.i64.bits 15).toNat : Int) = (71 + 8 * (m.val : Int)) / 16 * 16 := by decide
theorem frameEq {f : DFunc} (h : OkG f) : IntKind.i64.wrap ((BitVec.ofInt IntKind.i64.bits (56 + 8 * many16 f + 15) &&& ~~~BitVec.ofInt IntKind.i64.bits 15).toNat : Int) = frame17 f := by
  have hm := many16_38 h
  have h1 := andn15 ⟨(many16 f).toNat, by omega⟩
  have h2 : (((many16 f).toNat : Nat) : Int) = many16 f := by omega
  simp only [h2] at h1
  exact h1
theorem frame_in {f : DFunc} (h : OkG f) : 64 ≤ frame17 f ∧ frame17 f ≤ 368 := by
  have hm := many16_38 h
  unfold frame17; omega

end Go.Proofs.YtcmmhfknkldmcaaDoor
