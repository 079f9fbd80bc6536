/-
  What gen makes, as plain functions: lengths, and what stands where. No condition beyond those that each theorem states.
-/
import Derived.Test.YtcmmhfknkldmcaaDoorG8
namespace Go.Proofs.YtcmmhfknkldmcaaDoor
open Go.RowKit

structure G17 where
  ops : List DOp
  rels : List DRel
  starts : List Int
  jumps : List (Nat × Tgt)
def insStep (slots : List Int) (p : Int) (s : List DOp × List DRel) (i : Nat) (x : DInst) : List DOp × List DRel :=
  (s.1 ++ (give17 s.1.length slots x).1 ++ [sv (give17 s.1.length slots x).2.2 (slotAt slots (p + (i : Int)))], s.2 ++ (give17 s.1.length slots x).2.1)
def ins17 (slots : List Int) (p : Int) (s : List DOp × List DRel) (l : List DInst) : List DOp × List DRel := l.zipIdx.foldl (fun s q => insStep slots p s q.2 q.1) s
theorem ins17_next {slots : List Int} {p : Int} {s : List DOp × List DRel} {l : List DInst} {k : Nat} {x : DInst} (h : l[k]? = some x) : ins17 slots p s (l.take (k + 1)) = insStep slots p (ins17 slots p s (l.take k)) k x := by
  have hk := (List.getElem?_eq_some_iff.1 h).1
  unfold ins17
  rw [take_next h, List.zipIdx_append, List.foldl_append]
  simp [List.length_take, Nat.min_eq_left (Nat.le_of_lt hk)]
def blk17 (mn fr : Int) (g : G17) (b : DBlock) : G17 :=
  { ops := (ins17 (give16 b) b.params (g.ops, g.rels) b.ins).1 ++ (end17 (ins17 (give16 b) b.params (g.ops, g.rels) b.ins).1.length (give16 b) mn fr b.fin).1
    rels := (ins17 (give16 b) b.params (g.ops, g.rels) b.ins).2
    starts := g.starts ++ [(g.ops.length : Int)]
    jumps := g.jumps ++ (end17 (ins17 (give16 b) b.params (g.ops, g.rels) b.ins).1.length (give16 b) mn fr b.fin).2 }
def headP (n : Nat) : List DOp := (List.range n).map fun (i : Nat) => sv (10 + (i : Int)) (i : Int)
def head17 (fr : Int) (n : Nat) : List DOp := [⟨12, 2, 2, 0, 0 - fr⟩, ⟨21, 0, 2, 1, 0⟩] ++ headP n
theorem headP_next (n : Nat) : headP (n + 1) = headP n ++ [sv (10 + (n : Int)) (n : Int)] := by unfold headP; rw [List.range_succ, List.map_append]; rfl
def frame17 (f : DFunc) : Int := (71 + 8 * many16 f) / 16 * 16
def g0 (f : DFunc) : G17 := ⟨head17 (frame17 f) f.params.toNat, [], [], []⟩
def gAt (f : DFunc) (k : Nat) : G17 := (f.blocks.take k).foldl (blk17 (many16 f) (frame17 f)) (g0 f)
theorem gAt_next {f : DFunc} {k : Nat} {b : DBlock} (h : f.blocks[k]? = some b) : gAt f (k + 1) = blk17 (many16 f) (frame17 f) (gAt f k) b := by
  unfold gAt; rw [take_next h, List.foldl_append]; rfl
def tgtOf (starts : List Int) : Tgt → Int
  | .block k => starts.getD k.toNat 0
  | .place n => (n : Int)
def setJ (starts : List Int) (l : List DOp) (j : Nat × Tgt) : List DOp := setImm l j.1 (4 * (tgtOf starts j.2 - (j.1 : Int)))
def jumpAll (starts : List Int) (l : List DOp) (js : List (Nat × Tgt)) : List DOp := js.foldl (setJ starts) l
theorem jumpAll_next {starts : List Int} {l : List DOp} {js : List (Nat × Tgt)} {k : Nat} {j : Nat × Tgt} (h : js[k]? = some j) : jumpAll starts l (js.take (k + 1)) = setJ starts (jumpAll starts l (js.take k)) j := by
  unfold jumpAll; rw [take_next h, List.foldl_append]; rfl
theorem setImm_len (l : List DOp) (i : Nat) (z : Int) : (setImm l i z).length = l.length := by simp [setImm]
theorem jumpAll_len (starts : List Int) (l : List DOp) (js : List (Nat × Tgt)) : (jumpAll starts l js).length = l.length := by
  unfold jumpAll
  induction js generalizing l with
  | nil => rfl
  | cons j js ih => rw [List.foldl_cons, ih]; unfold setJ; rw [setImm_len]
structure DCode where
  name : ByteArray
  ops : List DOp
  rels : List DRel
def gFull (f : DFunc) : G17 := gAt f f.blocks.length
def func17 (f : DFunc) : DCode := ⟨f.name, jumpAll (gFull f).starts (gFull f).ops (gFull f).jumps, (gFull f).rels⟩

theorem give17_len {no : Nat} {slots : List Int} {x : DInst} (hx : x.args.length ≤ 6) (hk : inU x.k) : (give17 no slots x).1.length ≤ 11 ∧ (give17 no slots x).2.1.length ≤ 2 := by
  unfold give17
  have h64 : x.k.toNat < 18446744073709551616 := by unfold inU at hk; omega
  have h1 := (lit_len (r := 5) h64).1
  have h2 := cargs_len slots x.args
  (repeat' split) <;> simp only [List.length_cons, List.length_nil, List.length_append] <;> omega
theorem end17_len {no : Nat} {slots : List Int} {mn fr : Int} {t : DTerm} (ha : t.args.length ≤ 6) (he : t.elses.length ≤ 6) : (end17 no slots mn fr t).1.length ≤ 53 ∧ (end17 no slots mn fr t).2.length ≤ 3 := by
  unfold end17
  have h1 := hand17_len slots mn t.args
  have h2 := hand17_len slots mn t.elses
  (repeat' split) <;> simp only [List.length_cons, List.length_nil, List.length_append] <;> omega
/-- What is right of a function, as these walks use it. -/
structure OkG (f : DFunc) : Prop where
  bl : f.blocks.length ≤ 16
  p0 : 0 ≤ f.params
  p1 : f.params ≤ 6
  ok : ∀ b ∈ f.blocks, Ok16 b
  pb : ∀ b ∈ f.blocks, b.params ≤ 6 ∧ b.ins.length ≤ 32
  ks : ∀ b ∈ f.blocks, ∀ x ∈ b.ins, inU x.k ∧ 1 ≤ x.op ∧ x.op ≤ 16 ∧ x.args.length ≤ 6 ∧ x.name.size ≤ maxLen
  tm : ∀ b ∈ f.blocks, (b.fin.kind = 1 ∨ b.fin.kind = 2 ∨ b.fin.kind = 3) ∧ b.fin.args.length ≤ 6 ∧ b.fin.elses.length ≤ 6
  to : ∀ b ∈ f.blocks, (b.fin.kind ≠ 3 → 0 ≤ b.fin.to ∧ b.fin.to < f.blocks.length) ∧ (b.fin.kind = 2 → 0 ≤ b.fin.els ∧ b.fin.els < f.blocks.length)
theorem ins17_len {slots : List Int} {p : Int} {s : List DOp × List DRel} {l : List DInst} (hk : ∀ x ∈ l, inU x.k ∧ x.args.length ≤ 6) (k : Nat) (hkl : k ≤ l.length) :
    (ins17 slots p s (l.take k)).1.length ≤ s.1.length + 12 * k ∧ (ins17 slots p s (l.take k)).2.length ≤ s.2.length + 2 * k ∧ s.1.length ≤ (ins17 slots p s (l.take k)).1.length := by
  induction k with
  | zero => simp [ins17]
  | succ k ih =>
    have hx : l[k]? = some l[k] := List.getElem?_eq_getElem (by omega)
    have h1 := ih (by omega)
    have h2 := hk _ (List.mem_of_getElem? hx)
    have h3 := give17_len (no := (ins17 slots p s (l.take k)).1.length) (slots := slots) h2.2 h2.1
    rw [ins17_next hx]
    unfold insStep
    simp only [List.length_append, List.length_cons, List.length_nil]
    omega
theorem gAt_len {f : DFunc} (h : OkG f) (k : Nat) (hk : k ≤ f.blocks.length) : (gAt f k).ops.length ≤ 8 + 437 * k ∧ (gAt f k).rels.length ≤ 64 * k ∧ (gAt f k).jumps.length ≤ 3 * k ∧ (gAt f k).starts.length = k := by
  induction k with
  | zero =>
    have h1 := h.p1
    have h0 := h.p0
    have h2 : f.params.toNat ≤ 6 := by omega
    unfold gAt
    rw [List.take_zero, List.foldl_nil]
    unfold g0 head17 headP
    simp only [List.length_append, List.length_cons, List.length_nil, List.length_map, List.length_range]
    exact ⟨by omega, by omega, by omega, trivial⟩
  | succ k ih =>
    have hb : f.blocks[k]? = some f.blocks[k] := List.getElem?_eq_getElem (by omega)
    have hm := List.mem_of_getElem? hb
    obtain ⟨i1, i2, i3, i4⟩ := ih (by omega)
    have h1 := ins17_len (slots := give16 f.blocks[k]) (p := f.blocks[k].params) (s := ((gAt f k).ops, (gAt f k).rels)) (l := f.blocks[k].ins) (fun x hx => ⟨(h.ks _ hm x hx).1, (h.ks _ hm x hx).2.2.2.1⟩) _ (Nat.le_refl _)
    rw [List.take_length] at h1
    have h2 := end17_len (no := (ins17 (give16 f.blocks[k]) f.blocks[k].params ((gAt f k).ops, (gAt f k).rels) f.blocks[k].ins).1.length) (slots := give16 f.blocks[k]) (mn := many16 f) (fr := frame17 f) (h.tm _ hm).2.1 (h.tm _ hm).2.2
    have h3 := (h.pb _ hm).2
    rw [gAt_next hb]
    unfold blk17
    simp only [List.length_append, List.length_cons, List.length_nil] at *
    omega
theorem give16_small {f : DFunc} (h : OkG f) {b : DBlock} (hb : b ∈ f.blocks) : ∀ x ∈ give16 b, 0 ≤ x ∧ x + 1 ≤ 38 := fun x hx => by
  obtain ⟨i, hi⟩ := List.mem_iff_getElem?.1 hx
  have h1 := (few16 (h.ok b hb)).step i x hi
  have h2 := (List.getElem?_eq_some_iff.1 hi).1
  rw [give16_length (h.ok b hb)] at h2
  have h3 := h.pb b hb
  have h4 := (h.ok b hb).p0
  omega
theorem many16_38 {f : DFunc} (h : OkG f) : 0 ≤ many16 f ∧ many16 f ≤ 38 := by
  refine ⟨?_, ?_⟩
  · rw [← manyAt_full]
    have : ∀ k, 0 ≤ manyAt f k := fun k => by
      unfold manyAt
      generalize f.blocks.take k = l
      have : ∀ (l : List DBlock) (n : Int), 0 ≤ n → 0 ≤ l.foldl (fun n b => maxOf n (give16 b)) n := fun l => by
        induction l with
        | nil => intro n h; exact h
        | cons c l ih => intro n h; exact ih _ (Int.le_trans h maxOf_ge.1)
      exact this l 0 (Int.le_refl _)
    exact this _
  · rw [← manyAt_full]
    exact manyAt_le (by omega) _ fun b hb x hx => (give16_small h (List.mem_of_mem_take hb) x hx).2
theorem andn15 : ∀ m : _root_.Fin 64, IntKind.i64.wrap ((BitVec.ofInt IntKind.i64.bits (56 + 8 * (m.val : Int) + 15) &&& ~~~BitVec.ofInt IntKind.i64.bits 15).toNat : Int) = (71 + 8 * (m.val : Int)) / 16 * 16 := by decide
theorem frameEq {f : DFunc} (h : OkG f) : IntKind.i64.wrap ((BitVec.ofInt IntKind.i64.bits (56 + 8 * many16 f + 15) &&& ~~~BitVec.ofInt IntKind.i64.bits 15).toNat : Int) = frame17 f := by
  have hm := many16_38 h
  have h1 := andn15 ⟨(many16 f).toNat, by omega⟩
  have h2 : (((many16 f).toNat : Nat) : Int) = many16 f := by omega
  simp only [h2] at h1
  exact h1
theorem frame_in {f : DFunc} (h : OkG f) : 64 ≤ frame17 f ∧ frame17 f ≤ 368 := by
  have hm := many16_38 h
  unfold frame17; omega

end Go.Proofs.YtcmmhfknkldmcaaDoor

namespace Go.Proofs.YtcmmhfknkldmcaaDoor
open Go.RowKit
section
variable {P : Program} {n : Nat} {σ : Env} {S : World → Prop}
theorem exec_indexAddrE {t e sz : Nat} {x i : Operand} {kk : IntKind} {b o len cap : Nat} {ad : Option Addr} {j : Nat} {d : Option Nat} {ty : TypeId} {pos : String} {af : Array Edge} {g : Option (Nat × Bool)} (hu : P.underlying t = some (.slice e)) (hs : (P.info? e).map (·.size) = some sz) (hE : ad = some ⟨b, o, none⟩)
    (hx : ev σ x = some (.slice ad len cap)) (hi : ev σ i = some (.int kk (j : Int))) (hj : j < len) : ∀ a, Known n a σ → ∀ w, S w → (execOp a.eval ⟨d, .indexAddr t x i, ty, pos, af, g⟩).run P w = .ok (.value (.pointer (some ⟨b, o + j * sz, none⟩))) w := by
  subst hE; exact exec_indexAddr hu hs hx hi hj
end
theorem St.mid {w0 ws w : World} {ro : Nat → Prop} {Lj Lk : List (Nat × Obj)} {a b c d : Nat × Obj} {Rs : List Row} (h : St w0 ws w ro (a :: (Lj ++ (b :: c :: d :: Lk))) Rs) : St w0 ws w ro (a :: c :: d :: (Lj ++ Lk)) Rs := by
  have p1 : (Lj ++ (b :: c :: d :: Lk)).Perm (b :: c :: d :: (Lj ++ Lk)) :=
    (List.perm_middle (l₁ := Lj) (a := b) (l₂ := c :: d :: Lk)).trans (List.Perm.cons _ ((List.perm_middle (l₁ := Lj) (a := c) (l₂ := d :: Lk)).trans (List.Perm.cons _ List.perm_middle)))
  have p2 : (a :: (Lj ++ (b :: c :: d :: Lk))).Perm (b :: a :: c :: d :: (Lj ++ Lk)) := (List.Perm.cons _ p1).trans (List.Perm.swap _ _ _)
  exact (h.perm p2).dropN 1
theorem JmpsOk.at {LL : List (Nat × Obj)} {bm : Nat} : ∀ {vs : List Value} {js : List (Nat × Tgt)}, JmpsOk LL bm vs js → ∀ (q : Nat) j, js[q]? = some j → ∃ v, vs[q]? = some v ∧ JmpOk LL bm v j
  | [], [], _, q, j, h => by simp at h
  | v :: vs, i :: js, h, 0, j, hj => by
    simp at hj; subst hj; exact ⟨v, rfl, h.1⟩
  | v :: vs, i :: js, h, q + 1, j, hj => by
    simp at hj
    obtain ⟨v', a, b⟩ := h.2.at q j hj
    exact ⟨v', by simpa using a, b⟩
  | [], _ :: _, h, _, _, _ => h.elim
  | _ :: _, [], h, _, _, _ => h.elim
theorem take_one' {α : Type} {l : List α} {i : Nat} {v : α} (h : l[i]? = some v) : (l.drop i).take 1 = [v] := by
  obtain ⟨h1, rfl⟩ := List.getElem?_eq_some_iff.1 h
  rw [List.drop_eq_getElem_cons h1]; rfl
def JumpC (LL : List (Nat × Obj)) (bm : Nat) (cs : List Value) (j : Nat × Tgt) : Prop := ∃ v, cs = [v] ∧ JmpOk LL bm v j
theorem JmpsOk.chunks {LL : List (Nat × Obj)} {bm : Nat} {vs : List Value} {js : List (Nat × Tgt)} (h : JmpsOk LL bm vs js) : Chunks 1 (JumpC LL bm) vs js := by
  refine ⟨by rw [h.len]; omega, fun i x hx => ?_⟩
  obtain ⟨v, a, b⟩ := h.at i x hx
  refine ⟨v, ?_, b⟩
  rw [Nat.mul_one]
  exact take_one' a
def iAt (f : DFunc) (b : DBlock) (k i : Nat) : List DOp × List DRel := ins17 (give16 b) b.params ((gAt f k).ops, (gAt f k).rels) (b.ins.take i)
theorem iAt_next {f : DFunc} {b : DBlock} {k i : Nat} {x : DInst} (h : b.ins[i]? = some x) : iAt f b k (i + 1) = insStep (give16 b) b.params (iAt f b k i) i x := ins17_next h
theorem blkAt {f : DFunc} {b : DBlock} {k : Nat} (h : f.blocks[k]? = some b) :
    gAt f (k + 1) = ⟨(iAt f b k b.ins.length).1 ++ (end17 (iAt f b k b.ins.length).1.length (give16 b) (many16 f) (frame17 f) b.fin).1, (iAt f b k b.ins.length).2, (gAt f k).starts ++ [((gAt f k).ops.length : Int)], (gAt f k).jumps ++ (end17 (iAt f b k b.ins.length).1.length (give16 b) (many16 f) (frame17 f) b.fin).2⟩ := by
  rw [gAt_next h]
  unfold blk17 iAt
  rw [List.take_length]
theorem iAt_len {f : DFunc} (h : OkG f) {b : DBlock} {k i : Nat} (hb : f.blocks[k]? = some b) (hi : i ≤ b.ins.length) :
    (iAt f b k i).1.length ≤ (gAt f k).ops.length + 12 * i ∧ (iAt f b k i).2.length ≤ (gAt f k).rels.length + 2 * i ∧ (gAt f k).ops.length ≤ (iAt f b k i).1.length := by
  have hm := List.mem_of_getElem? hb
  exact ins17_len (s := ((gAt f k).ops, (gAt f k).rels)) (fun x hx => ⟨(h.ks _ hm x hx).1, (h.ks _ hm x hx).2.2.2.1⟩) i hi
/-- A jump of a block's end stands in it, and leads to a block of the function, or into the end itself. -/
def JIn (nb lo hi : Nat) (j : Nat × Tgt) : Prop := lo ≤ j.1 ∧ j.1 < hi ∧ match j.2 with
  | .block t => 0 ≤ t ∧ t < nb
  | .place n => lo ≤ n ∧ n < hi
theorem end17_jin {nb no : Nat} {slots : List Int} {mn fr : Int} {t : DTerm} (h1 : t.kind ≠ 3 → 0 ≤ t.to ∧ t.to < nb) (h2 : t.kind = 2 → 0 ≤ t.els ∧ t.els < nb) :
    ∀ j ∈ (end17 no slots mn fr t).2, JIn nb no (no + (end17 no slots mn fr t).1.length) j := by
  have ha := hand17_len slots mn t.args
  have hb := hand17_len slots mn t.elses
  unfold end17
  by_cases h3 : t.kind = 3
  · rw [if_pos h3]; intro j hj; simp at hj
  · rw [if_neg h3]
    have h1 := h1 h3
    by_cases h4 : t.kind = 2
    · rw [if_pos h4]
      have h2 := h2 h4
      intro j hj
      simp only [List.mem_cons, List.not_mem_nil, or_false] at hj
      simp only [List.length_append, List.length_cons, List.length_nil] at hj ⊢
      rcases hj with rfl | rfl | rfl
      · exact ⟨by simp only; omega, by simp only; omega, by first | omega | (simp only; omega), by first | omega | (simp only; omega)⟩
      · exact ⟨by simp only; omega, by simp only; omega, h1⟩
      · exact ⟨by simp only; omega, by simp only; omega, h2⟩
    · rw [if_neg h4]
      intro j hj
      simp only [List.mem_cons, List.not_mem_nil, or_false] at hj
      simp only [List.length_append, List.length_cons, List.length_nil] at hj ⊢
      subst hj
      exact ⟨by simp only; omega, by simp only; omega, h1⟩
theorem JIn.mono {nb lo hi lo' hi' : Nat} {j : Nat × Tgt} (h : JIn nb lo hi j) (h1 : lo' ≤ lo) (h2 : hi ≤ hi') : JIn nb lo' hi' j := by
  obtain ⟨a, b, c⟩ := h
  refine ⟨by omega, by omega, ?_⟩
  split at c
  · exact c
  · exact ⟨by omega, by omega⟩
theorem gAt_jumps {f : DFunc} (h : OkG f) (k : Nat) (hk : k ≤ f.blocks.length) : (∀ j ∈ (gAt f k).jumps, JIn f.blocks.length 0 (gAt f k).ops.length j) ∧ ∀ z ∈ (gAt f k).starts, 0 ≤ z ∧ z ≤ (gAt f k).ops.length := by
  induction k with
  | zero => exact ⟨fun j hj => by simp [gAt, g0] at hj, fun z hz => by simp [gAt, g0] at hz⟩
  | succ k ih =>
    have hb : f.blocks[k]? = some f.blocks[k] := List.getElem?_eq_getElem (by omega)
    have hm := List.mem_of_getElem? hb
    obtain ⟨i1, i2⟩ := ih (by omega)
    have h1 := iAt_len h hb (Nat.le_refl _)
    have h2 := h.to _ hm
    rw [blkAt hb]
    simp only [List.length_append]
    refine ⟨fun j hj => ?_, fun z hz => ?_⟩
    · rcases List.mem_append.1 hj with hj | hj
      · exact (i1 j hj).mono (Nat.zero_le _) (by omega)
      · exact (end17_jin h2.1 h2.2 j hj).mono (Nat.zero_le _) (Nat.le_refl _)
    · rcases List.mem_append.1 hz with hz | hz
      · have := i2 z hz; omega
      · have := List.mem_singleton.1 hz; omega
theorem tgt_in {f : DFunc} (h : OkG f) {j : Nat × Tgt} (hj : j ∈ (gFull f).jumps) : 0 ≤ tgtOf (gFull f).starts j.2 ∧ tgtOf (gFull f).starts j.2 ≤ (gFull f).ops.length := by
  obtain ⟨h1, h2⟩ := gAt_jumps h f.blocks.length (Nat.le_refl _)
  have hl := (gAt_len h f.blocks.length (Nat.le_refl _)).2.2.2
  have h3 := (h1 j hj).2.2
  obtain ⟨jn, jt⟩ := j
  cases jt with
  | block t =>
    have h4 : 0 ≤ t ∧ t < (f.blocks.length : Int) := h3
    have ht : t.toNat < (gAt f f.blocks.length).starts.length := by omega
    have e : (gFull f).starts.getD t.toNat 0 = (gAt f f.blocks.length).starts[t.toNat] := by
      unfold gFull; simp only [List.getD_eq_getElem?_getD, List.getElem?_eq_getElem ht, Option.getD_some]
    show 0 ≤ (gFull f).starts.getD t.toNat 0 ∧ (gFull f).starts.getD t.toNat 0 ≤ _
    rw [e]
    exact h2 _ (List.getElem_mem ht)
  | place n =>
    have h4 : 0 ≤ n ∧ n < (gAt f f.blocks.length).ops.length := h3
    show (0 : Int) ≤ (n : Int) ∧ (n : Int) ≤ ((gAt f f.blocks.length).ops.length : Int)
    omega
theorem starts_at {f : DFunc} (h : OkG f) {t : Int} (ht : 0 ≤ t ∧ t < f.blocks.length) : (gFull f).starts[t.toNat]? = some (tgtOf (gFull f).starts (.block t)) := by
  have hl := (gAt_len h f.blocks.length (Nat.le_refl _)).2.2.2
  have ht : t.toNat < (gAt f f.blocks.length).starts.length := by omega
  unfold tgtOf gFull
  simp only [List.getD_eq_getElem?_getD, List.getElem?_eq_getElem ht, Option.getD_some]
theorem rCells_app (a b : List DRel) : rCells (a ++ b) = rCells a ++ rCells b := by unfold rCells; rw [List.map_append, List.flatten_append]
theorem iCells_app (a b : List Int) : iCells (a ++ b) = iCells a ++ iCells b := by unfold iCells; rw [List.map_append]
end Go.Proofs.YtcmmhfknkldmcaaDoor
