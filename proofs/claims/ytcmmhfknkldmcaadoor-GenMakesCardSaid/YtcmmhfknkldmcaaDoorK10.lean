/-
  The document's pieces, joined, are what gen makes. No condition beyond those that each theorem states.
-/
import Derived.Test.YtcmmhfknkldmcaaDoorG13
namespace Go.Proofs.YtcmmhfknkldmcaaDoor
open Go.RowKit
structure DPiece where
  ops : List DOp
  rels : List DRel
  frm : List Int
  blk : List Int
def shiftR (n : Nat) (r : DRel) : DRel := ⟨(n : Int) + r.at_, r.kind, r.name⟩
def join17 (a b : DPiece) : DPiece := ⟨a.ops ++ b.ops, a.rels ++ b.rels.map (shiftR a.ops.length), a.frm ++ b.frm.map (fun x => (a.ops.length : Int) + x), a.blk ++ b.blk⟩
def inst17 (slots : List Int) (own : Int) (x : DInst) : DPiece := ⟨(give17 0 slots x).1 ++ [sv (give17 0 slots x).2.2 own], (give17 0 slots x).2.1, [], []⟩
def tail17 (slots : List Int) (mn fr : Int) (t : DTerm) : DPiece :=
  if t.kind = 3 then ⟨[ld 10 (slotAt slots t.a), ⟨19, 1, 2, 0, 0⟩, ⟨12, 2, 2, 0, fr⟩, ⟨30, 0, 1, 0, 0⟩], [], [], []⟩
  else if t.kind = 2 then ⟨[ld 5 (slotAt slots t.a), ⟨24, 0, 5, 0, 8⟩, ⟨29, 0, 0, 0, 4 * (((hand17 slots mn t.args).length : Int) + 2)⟩] ++ hand17 slots mn t.args ++ [jal] ++ hand17 slots mn t.elses ++ [jal], [],
    [((3 + (hand17 slots mn t.args).length : Nat) : Int), ((3 + (hand17 slots mn t.args).length + 1 + (hand17 slots mn t.elses).length : Nat) : Int)], [t.to, t.els]⟩
  else ⟨hand17 slots mn t.args ++ [jal], [], [((hand17 slots mn t.args).length : Int)], [t.to]⟩
structure POk (p : DPiece) : Prop where
  o : ∀ x ∈ p.ops, okOp x
  r : ∀ x ∈ p.rels, x.name.size ≤ maxLen ∧ (0 ≤ x.at_ ∧ x.at_ < p.ops.length) ∧ inI x.kind
  f : ∀ x ∈ p.frm, 0 ≤ x ∧ x < p.ops.length
  b : ∀ x ∈ p.blk, 0 ≤ x ∧ x ≤ 1000
theorem POk.join {a b : DPiece} (ha : POk a) (hb : POk b) : POk (join17 a b) := by
  refine ⟨fun x hx => ?_, fun x hx => ?_, fun x hx => ?_, fun x hx => ?_⟩
  · rcases List.mem_append.1 hx with h | h
    · exact ha.o x h
    · exact hb.o x h
  · simp only [join17, List.length_append]
    rcases List.mem_append.1 hx with h | h
    · obtain ⟨h1, h2, h3⟩ := ha.r x h; exact ⟨h1, by omega, h3⟩
    · obtain ⟨y, hy, rfl⟩ := List.mem_map.1 h
      obtain ⟨h1, h2, h3⟩ := hb.r y hy
      exact ⟨h1, by simp only [shiftR]; omega, h3⟩
  · simp only [join17, List.length_append]
    rcases List.mem_append.1 hx with h | h
    · have := ha.f x h; omega
    · obtain ⟨y, hy, rfl⟩ := List.mem_map.1 h
      have := hb.f y hy; omega
  · rcases List.mem_append.1 hx with h | h
    · exact ha.b x h
    · exact hb.b x h
theorem give_shift (no : Nat) (slots : List Int) (x : DInst) : (give17 no slots x).1 = (give17 0 slots x).1 ∧ (give17 no slots x).2.1 = (give17 0 slots x).2.1.map (shiftR no) ∧ (give17 no slots x).2.2 = (give17 0 slots x).2.2 := by
  unfold give17
  (repeat' split) <;> refine ⟨rfl, ?_, rfl⟩ <;> simp [shiftR] <;> omega
theorem give_relok {slots : List Int} {x : DInst} (hn : x.name.size ≤ maxLen) : ∀ r ∈ (give17 0 slots x).2.1, r.name.size ≤ maxLen ∧ (0 ≤ r.at_ ∧ r.at_ < (give17 0 slots x).1.length) ∧ inI r.kind := by
  unfold give17
  have hc := cargs_len slots x.args
  (repeat' split) <;> intro r hr <;> simp only [List.mem_cons, List.not_mem_nil, or_false] at hr
  · rcases hr with rfl | rfl <;> exact ⟨hn, by simp, inK (by simp)⟩
  · rcases hr with rfl | rfl <;> exact ⟨hn, by simp, inK (by simp)⟩
  · subst hr
    exact ⟨hn, by simp only [List.length_append, List.length_cons, List.length_nil]; omega, inK (by simp)⟩
theorem inst_pok {f : DFunc} (h : OkG f) {b : DBlock} (hb : b ∈ f.blocks) {x : DInst} (hx : x ∈ b.ins) {own : Int} (ho : 0 ≤ own ∧ own ≤ 1000) : POk (inst17 (give16 b) own x) := by
  obtain ⟨hk, h1, h2, ha, hn⟩ := h.ks b hb x hx
  have hg := give_cls (m := many16 f) (no := 0) (slots := give16 b) (x := x) (many16_38 h).1 (fun z hz => ⟨(give16_small h hb z hz).1, many16_ge hb hz⟩) ⟨h1, h2⟩ ha
  refine ⟨fun o hm => ?_, fun r hr => ?_, fun _ hm => by simp [inst17] at hm, fun _ hm => by simp [inst17] at hm⟩
  · rcases List.mem_append.1 hm with hm | hm
    · exact (clsR_in h (.inl (hg.1 o hm))).1
    · simp only [List.mem_cons, List.not_mem_nil, or_false] at hm
      subst hm
      exact oksv (by omega) (by omega)
  · obtain ⟨a, c, d⟩ := give_relok (slots := give16 b) hn r hr
    exact ⟨a, by simp only [inst17, List.length_append, List.length_cons, List.length_nil]; omega, d⟩
theorem tail_pok {f : DFunc} (h : OkG f) {b : DBlock} (hb : b ∈ f.blocks) : POk (tail17 (give16 b) (many16 f) (frame17 f) b.fin) := by
  obtain ⟨hk, ha, he⟩ := h.tm b hb
  obtain ⟨t1, t2⟩ := h.to b hb
  have hbl := h.bl
  have hs : ∀ z ∈ give16 b, 0 ≤ z ∧ z < many16 f := fun z hz => ⟨(give16_small h hb z hz).1, many16_ge hb hz⟩
  have hm := (many16_38 h).1
  have hm2 := (many16_38 h).2
  have hsl := slotAt_in hm hs
  have hfr := frame_in h
  have hc1 := fun o ho => (clsR_in h (.inl (hand_cls (args := b.fin.args) hm hs ha o ho))).1
  have hc2 := fun o ho => (clsR_in h (.inl (hand_cls (args := b.fin.elses) hm hs he o ho))).1
  have hl1 := hand17_len (give16 b) (many16 f) b.fin.args
  have hl2 := hand17_len (give16 b) (many16 f) b.fin.elses
  have hs1 := hsl b.fin.a
  unfold tail17
  split
  · refine ⟨fun o ho => ?_, fun _ hm => by simp at hm, fun _ hm => by simp at hm, fun _ hm => by simp at hm⟩
    simp only [List.mem_cons, List.not_mem_nil, or_false] at ho
    rcases ho with rfl | rfl | rfl | rfl
    · exact okld (by omega) (by omega)
    all_goals exact okO (inK (by omega)) (inK (by omega)) (inK (by omega)) (inK (by omega)) (inK (by omega))
  · split
    · rename_i h2
      have h3 := t1 (by omega)
      have h4 := t2 h2
      refine ⟨fun o ho => ?_, fun _ hm => by simp at hm, fun z hz => ?_, fun z hz => ?_⟩
      · simp only [List.append_assoc] at ho
        rcases List.mem_append.1 ho with ho | ho
        · simp only [List.mem_cons, List.not_mem_nil, or_false] at ho
          rcases ho with rfl | rfl | rfl
          · exact okld (by omega) (by omega)
          all_goals exact okO (inK (by omega)) (inK (by omega)) (inK (by omega)) (inK (by omega)) (inK (by omega))
        · rw [← List.append_assoc] at ho
          rcases List.mem_append.1 ho with ho | ho
          · exact hc1 o ho
          · exact hc2 o ho
      · simp only [List.mem_cons, List.not_mem_nil, or_false] at hz
        simp only [List.length_append, List.length_cons, List.length_nil]
        rcases hz with rfl | rfl <;> omega
      · simp only [List.mem_cons, List.not_mem_nil, or_false] at hz
        rcases hz with rfl | rfl <;> omega
    · have h3 := t1 (by omega)
      refine ⟨hc1, fun _ hm => by simp at hm, fun z hz => ?_, fun z hz => ?_⟩
      · simp only [List.mem_cons, List.not_mem_nil, or_false] at hz
        simp only [List.length_append, List.length_cons, List.length_nil]
        subst hz; omega
      · simp only [List.mem_cons, List.not_mem_nil, or_false] at hz
        subst hz; omega
/-- The rounds. -/
def pIns (slots : List Int) (p : Int) (P : DPiece) (l : List DInst) : DPiece := l.zipIdx.foldl (fun P q => join17 P (inst17 slots (slotAt slots (p + (q.2 : Int))) q.1)) P
theorem pIns_next {slots : List Int} {p : Int} {P : DPiece} {l : List DInst} {k : Nat} {x : DInst} (h : l[k]? = some x) : pIns slots p P (l.take (k + 1)) = join17 (pIns slots p P (l.take k)) (inst17 slots (slotAt slots (p + (k : Int))) x) := by
  have hk := (List.getElem?_eq_some_iff.1 h).1
  unfold pIns
  rw [take_next h, List.zipIdx_append, List.foldl_append]
  simp [List.length_take, Nat.min_eq_left (Nat.le_of_lt hk)]
def pBlk (mn fr : Int) (P : DPiece) (b : DBlock) : DPiece := join17 (pIns (give16 b) b.params P b.ins) (tail17 (give16 b) mn fr b.fin)
def pAt (f : DFunc) (k : Nat) : DPiece := (f.blocks.take k).foldl (pBlk (many16 f) (frame17 f)) ⟨head17 (frame17 f) f.params.toNat, [], [], []⟩
theorem pAt_next {f : DFunc} {k : Nat} {b : DBlock} (h : f.blocks[k]? = some b) : pAt f (k + 1) = pBlk (many16 f) (frame17 f) (pAt f k) b := by
  unfold pAt; rw [take_next h, List.foldl_append]; rfl
def pI (f : DFunc) (b : DBlock) (k i : Nat) : DPiece := pIns (give16 b) b.params (pAt f k) (b.ins.take i)
theorem pI_next {f : DFunc} {b : DBlock} {k i : Nat} {x : DInst} (h : b.ins[i]? = some x) : pI f b k (i + 1) = join17 (pI f b k i) (inst17 (give16 b) (slotAt (give16 b) (b.params + (i : Int))) x) := pIns_next h
theorem pI_last {f : DFunc} {b : DBlock} {k : Nat} (h : f.blocks[k]? = some b) : pAt f (k + 1) = join17 (pI f b k b.ins.length) (tail17 (give16 b) (many16 f) (frame17 f) b.fin) := by
  rw [pAt_next h]; unfold pBlk pI; rw [List.take_length]
theorem own_in {f : DFunc} (h : OkG f) {b : DBlock} (hb : b ∈ f.blocks) (v : Int) : 0 ≤ slotAt (give16 b) v ∧ slotAt (give16 b) v ≤ 1000 := by
  have hm2 := (many16_38 h)
  have := slotAt_in hm2.1 (fun z hz => ⟨(give16_small h hb z hz).1, many16_ge hb hz⟩) v
  omega
theorem pAt_pok {f : DFunc} (h : OkG f) (k : Nat) (hk : k ≤ f.blocks.length) : POk (pAt f k) := by
  induction k with
  | zero =>
    have h0 := h.p0
    have h1 := h.p1
    have hf := frame_in h
    refine ⟨fun o ho => ?_, fun _ hm => by simp [pAt] at hm, fun _ hm => by simp [pAt] at hm, fun _ hm => by simp [pAt] at hm⟩
    simp only [pAt, List.take_zero, List.foldl_nil, head17] at ho
    rcases List.mem_append.1 ho with ho | ho
    · simp only [List.mem_cons, List.not_mem_nil, or_false] at ho
      rcases ho with rfl | rfl
      all_goals exact okO (inK (by omega)) (inK (by omega)) (inK (by omega)) (inK (by omega)) (inK (by omega))
    · unfold headP at ho
      obtain ⟨i, hi, rfl⟩ := List.mem_map.1 ho
      have := List.mem_range.1 hi
      exact oksv (by omega) (by omega)
  | succ k ih =>
    have hb : f.blocks[k]? = some f.blocks[k] := List.getElem?_eq_getElem (by omega)
    have hm := List.mem_of_getElem? hb
    rw [pI_last hb]
    refine POk.join ?_ (tail_pok h hm)
    have : ∀ i, i ≤ (f.blocks[k]).ins.length → POk (pI f f.blocks[k] k i) := fun i => by
      induction i with
      | zero => intro _; exact ih (by omega)
      | succ i ih2 =>
        intro hi
        have hx : (f.blocks[k]).ins[i]? = some (f.blocks[k]).ins[i] := List.getElem?_eq_getElem (by omega)
        rw [pI_next hx]
        exact POk.join (ih2 (by omega)) (inst_pok h hm (List.mem_of_getElem? hx) (own_in h hm _))
    exact this _ (Nat.le_refl _)
theorem pI_pok {f : DFunc} (h : OkG f) {k : Nat} {b : DBlock} (hb : f.blocks[k]? = some b) (i : Nat) (hi : i ≤ b.ins.length) : POk (pI f b k i) := by
  induction i with
  | zero => exact pAt_pok h k (Nat.le_of_lt (List.getElem?_eq_some_iff.1 hb).1)
  | succ i ih2 =>
    have hx : b.ins[i]? = some b.ins[i] := List.getElem?_eq_getElem (by omega)
    rw [pI_next hx]
    exact POk.join (ih2 (by omega)) (inst_pok h (List.mem_of_getElem? hb) (List.mem_of_getElem? hx) (own_in h (List.mem_of_getElem? hb) _))
/-- Jumps to blocks, and to places. -/
def jBl (js : List (Nat × Tgt)) : List (Nat × Int) := js.filterMap fun j => match j.2 with | .block k => some (j.1, k) | .place _ => none
def jP (js : List (Nat × Tgt)) : List (Nat × Tgt) := js.filter fun j => match j.2 with | .block _ => false | .place _ => true
theorem jBl_app (a b : List (Nat × Tgt)) : jBl (a ++ b) = jBl a ++ jBl b := List.filterMap_append
theorem jP_app (a b : List (Nat × Tgt)) : jP (a ++ b) = jP a ++ jP b := List.filter_append ..
structure Sim (P : DPiece) (ops : List DOp) (rels : List DRel) (js : List (Nat × Tgt)) : Prop where
  o : P.ops = jumpAll [] ops (jP js)
  r : P.rels = rels
  f : P.frm = (jBl js).map fun q => ((q.1 : Nat) : Int)
  b : P.blk = (jBl js).map (·.2)
  lt : ∀ j ∈ js, j.1 < ops.length
theorem setImm_app {l t : List DOp} {i : Nat} {z : Int} (h : i < l.length) : setImm (l ++ t) i z = setImm l i z ++ t := by
  unfold setImm
  apply List.ext_getElem?
  intro j
  rw [List.getElem?_modify]
  by_cases hj : j < l.length
  · rw [List.getElem?_append_left hj, List.getElem?_append_left (by simpa using hj), List.getElem?_modify]
  · rw [List.getElem?_append_right (by omega), List.getElem?_append_right (by simp; omega)]
    have : ¬ i = j := by omega
    simp [this]
theorem jumpAll_app {starts : List Int} {js : List (Nat × Tgt)} : ∀ {l t : List DOp}, (∀ j ∈ js, j.1 < l.length) → jumpAll starts (l ++ t) js = jumpAll starts l js ++ t := by
  induction js with
  | nil => intro l t _; rfl
  | cons j js ih =>
    intro l t h
    show jumpAll starts (setJ starts (l ++ t) j) js = jumpAll starts (setJ starts l j) js ++ t
    have h1 := h j List.mem_cons_self
    unfold setJ
    rw [setImm_app h1, ih fun j' hj' => by rw [setImm_len]; exact h j' (List.mem_cons_of_mem _ hj')]
theorem jP_lt {js : List (Nat × Tgt)} {n : Nat} (h : ∀ j ∈ js, j.1 < n) : ∀ j ∈ jP js, j.1 < n := fun j hj => h j (List.mem_filter.1 hj).1
theorem Sim.len {P : DPiece} {ops : List DOp} {rels : List DRel} {js : List (Nat × Tgt)} (h : Sim P ops rels js) : P.ops.length = ops.length := by rw [h.o, jumpAll_len]
theorem Sim.inst {P : DPiece} {s : List DOp × List DRel} {js : List (Nat × Tgt)} (h : Sim P s.1 s.2 js) (slots : List Int) (p : Int) (i : Nat) (x : DInst) :
    Sim (join17 P (inst17 slots (slotAt slots (p + (i : Int))) x)) (insStep slots p s i x).1 (insStep slots p s i x).2 js := by
  obtain ⟨g1, g2, g3⟩ := give_shift s.1.length slots x
  have hl := h.len
  refine ⟨?_, ?_, ?_, ?_, fun j hj => ?_⟩
  · unfold insStep join17 inst17
    simp only
    rw [g1, g3, List.append_assoc, jumpAll_app (jP_lt h.lt), h.o]
  · unfold insStep join17 inst17
    simp only
    rw [g2, h.r, hl]
  · unfold join17 inst17; simp [h.f]
  · unfold join17 inst17; simp [h.b]
  · have := h.lt j hj
    unfold insStep
    simp only [List.length_append]; omega
theorem Sim.tail {P : DPiece} {ops : List DOp} {rels : List DRel} {js : List (Nat × Tgt)} (h : Sim P ops rels js) (slots : List Int) (mn fr : Int) (t : DTerm) :
    Sim (join17 P (tail17 slots mn fr t)) (ops ++ (end17 ops.length slots mn fr t).1) rels (js ++ (end17 ops.length slots mn fr t).2) := by
  have hl := h.len
  have hlt := fun (l : List DOp) (j : Nat × Tgt) (hj : j ∈ js) => Nat.lt_of_lt_of_le (h.lt j hj) (show ops.length ≤ (ops ++ l).length by simp)
  have ha := hand17_len slots mn t.args
  have hb := hand17_len slots mn t.elses
  unfold tail17 end17
  by_cases h3 : t.kind = 3
  · rw [if_pos h3, if_pos h3]
    refine ⟨?_, by simp [join17, h.r], by simp [join17, h.f], by simp [join17, h.b], fun j hj => ?_⟩
    · simp only [join17, List.append_nil]; rw [jumpAll_app (jP_lt h.lt), h.o]
    · exact hlt _ j (by simpa using hj)
  · rw [if_neg h3, if_neg h3]
    by_cases h2 : t.kind = 2
    · rw [if_pos h2, if_pos h2]
      refine ⟨?_, by simp [join17, h.r], ?_, by simp [join17, h.b, jBl_app, jBl], fun j hj => ?_⟩
      · simp only [join17, jP_app]
        have e : jP [(ops.length + 1 + 1, Tgt.place (ops.length + 1 + 1 + 1 + (hand17 slots mn t.args ++ [jal]).length)), (ops.length + 1 + 1 + 1 + (hand17 slots mn t.args).length, Tgt.block t.to), (ops.length + 1 + 1 + 1 + (hand17 slots mn t.args ++ [jal]).length + (hand17 slots mn t.elses).length, Tgt.block t.els)] = [(ops.length + 1 + 1, Tgt.place (ops.length + 1 + 1 + 1 + (hand17 slots mn t.args ++ [jal]).length))] := rfl
        rw [e]
        have e2 : ∀ (l : List DOp) (a : List (Nat × Tgt)) (j : Nat × Tgt), jumpAll [] l (a ++ [j]) = setJ [] (jumpAll [] l a) j := fun l a j => by unfold jumpAll; rw [List.foldl_append]; rfl
        rw [e2, jumpAll_app (jP_lt h.lt), h.o]
        unfold setJ tgtOf
        have hl2 : (jumpAll [] ops (jP js)).length = ops.length := jumpAll_len ..
        generalize jumpAll [] ops (jP js) = A at hl2 ⊢
        simp only
        have e3 : ∀ (X : List DOp) (z : Int) (a b c : DOp), setImm (A ++ (a :: b :: c :: X)) (ops.length + 1 + 1) z = A ++ (a :: b :: { c with imm := z } :: X) := fun X z a b c => by
          unfold setImm
          apply List.ext_getElem?
          intro j
          rw [List.getElem?_modify]
          by_cases hj : j < A.length
          · rw [List.getElem?_append_left hj, List.getElem?_append_left hj]
            have : ¬ ops.length + 1 + 1 = j := by omega
            simp [this]
          · rw [List.getElem?_append_right (by omega), List.getElem?_append_right (by omega)]
            obtain ⟨q, rfl⟩ : ∃ q, j = A.length + q := ⟨j - A.length, by omega⟩
            rw [Nat.add_sub_cancel_left]
            match q with
            | 0 => simp only [show (ops.length + 1 + 1 = A.length + 0) = False from eq_false (by omega), if_false]; rfl
            | 1 => simp only [show (ops.length + 1 + 1 = A.length + 1) = False from eq_false (by omega), if_false]; rfl
            | 2 => have : ops.length + 1 + 1 = A.length + 2 := by omega
                   simp [this]
            | q + 3 => have : ¬ ops.length + 1 + 1 = A.length + (q + 3) := by omega
                       simp [this]
        simp only [List.cons_append, List.nil_append, List.append_assoc]
        rw [e3]
        have e4 : ((ops.length + 1 + 1 + 1 + (hand17 slots mn t.args ++ [jal]).length : Nat) : Int) - ((ops.length + 1 + 1 : Nat) : Int) = ((hand17 slots mn t.args).length : Int) + 2 := by simp only [List.length_append, List.length_cons, List.length_nil]; omega
        rw [e4]
        rfl
      · simp only [join17, jBl_app, h.f, List.map_append]
        congr 1
        simp only [jBl, List.filterMap_cons, List.filterMap_nil, List.map_cons, List.map_nil, List.length_append, List.length_cons, List.length_nil]
        rw [hl]
        congr 1
        · omega
        · congr 1; omega
      · rcases List.mem_append.1 hj with hj | hj
        · exact hlt _ j hj
        · simp only [List.mem_cons, List.not_mem_nil, or_false] at hj
          simp only [List.length_append, List.length_cons, List.length_nil]
          rcases hj with rfl | rfl | rfl <;> simp only [List.length_append, List.length_cons, List.length_nil] <;> omega
    · rw [if_neg h2, if_neg h2]
      refine ⟨?_, by simp [join17, h.r], ?_, by simp [join17, h.b, jBl_app, jBl], fun j hj => ?_⟩
      · simp only [join17, jP_app]
        have e : jP [(ops.length + (hand17 slots mn t.args).length, Tgt.block t.to)] = [] := rfl
        rw [e, List.append_nil, jumpAll_app (jP_lt h.lt), h.o]
      · simp only [join17, jBl_app, h.f, List.map_append]
        congr 1
        simp only [jBl, List.filterMap_cons, List.filterMap_nil, List.map_cons, List.map_nil]
        rw [hl]
        congr 1
      · rcases List.mem_append.1 hj with hj | hj
        · exact hlt _ j hj
        · simp only [List.mem_cons, List.not_mem_nil, or_false] at hj
          subst hj
          simp only [List.length_append, List.length_cons, List.length_nil]; omega
theorem sim_I {f : DFunc} {b : DBlock} {k : Nat} (h : Sim (pAt f k) (gAt f k).ops (gAt f k).rels (gAt f k).jumps) (i : Nat) (hi : i ≤ b.ins.length) : Sim (pI f b k i) (iAt f b k i).1 (iAt f b k i).2 (gAt f k).jumps := by
  induction i with
  | zero => exact h
  | succ i ih =>
    have hx : b.ins[i]? = some b.ins[i] := List.getElem?_eq_getElem (by omega)
    rw [pI_next hx, iAt_next hx]
    exact (ih (by omega)).inst _ _ _ _
theorem sim_at {f : DFunc} (k : Nat) (hk : k ≤ f.blocks.length) : Sim (pAt f k) (gAt f k).ops (gAt f k).rels (gAt f k).jumps := by
  induction k with
  | zero => exact ⟨rfl, rfl, rfl, rfl, fun j hj => by simp [gAt, g0] at hj⟩
  | succ k ih =>
    have hb : f.blocks[k]? = some f.blocks[k] := List.getElem?_eq_getElem (by omega)
    rw [pI_last hb, blkAt hb]
    exact (sim_I (ih (by omega)) _ (Nat.le_refl _)).tail _ _ _ _
/-- No place has two jumps. -/
theorem end_pw {no : Nat} {slots : List Int} {mn fr : Int} {t : DTerm} : (end17 no slots mn fr t).2.Pairwise fun a b => a.1 < b.1 := by
  unfold end17
  (repeat' split)
  · exact List.Pairwise.nil
  · simp only [List.pairwise_cons, List.mem_cons, List.not_mem_nil, or_false, List.length_append, List.length_cons, List.length_nil]
    refine ⟨fun a ha => ?_, fun a ha => ?_, fun a ha => ha.elim, List.Pairwise.nil⟩
    · rcases ha with rfl | rfl <;> simp only <;> omega
    · subst ha; simp only; omega
  · simp
theorem jumps_pw {f : DFunc} (k : Nat) (hk : k ≤ f.blocks.length) : (gAt f k).jumps.Pairwise fun a b => a.1 < b.1 := by
  induction k with
  | zero => simp [gAt, g0]
  | succ k ih =>
    have hb : f.blocks[k]? = some f.blocks[k] := List.getElem?_eq_getElem (by omega)
    have hs := (sim_at (f := f) k (by omega)).lt
    obtain ⟨t, ht⟩ := iAt_pre (f := f) (b := f.blocks[k]) (k := k)
    have hl : (gAt f k).ops.length ≤ (iAt f f.blocks[k] k (f.blocks[k]).ins.length).1.length := by rw [ht]; simp
    rw [blkAt hb]
    refine List.pairwise_append.2 ⟨ih (by omega), end_pw, fun a ha b hb => ?_⟩
    have h1 := hs a ha
    have h2 := (end_jal b hb).1
    omega
theorem setImm_comm {l : List DOp} {i j : Nat} {y z : Int} (h : i ≠ j) : setImm (setImm l i y) j z = setImm (setImm l j z) i y := by
  unfold setImm
  apply List.ext_getElem?
  intro q
  simp only [List.getElem?_modify]
  by_cases h1 : i = q <;> by_cases h2 : j = q <;> simp [h1, h2]
  exact absurd (h1.trans h2.symm) h
theorem split_jumps {starts : List Int} : ∀ {js : List (Nat × Tgt)} {l : List DOp}, (js.Pairwise fun a b => a.1 < b.1) → jumpAll starts l js = (jBl js).foldl (fun l q => setJ starts l (q.1, .block q.2)) (jumpAll [] l (jP js))
  | [], _, _ => rfl
  | (i, .place m) :: js, l, h => by
    rw [show jumpAll starts l ((i, Tgt.place m) :: js) = jumpAll starts (setJ starts l (i, .place m)) js from rfl, split_jumps (List.pairwise_cons.1 h).2]
    rfl
  | (i, .block m) :: js, l, h => by
    obtain ⟨h1, h2⟩ := List.pairwise_cons.1 h
    rw [show jumpAll starts l ((i, Tgt.block m) :: js) = jumpAll starts (setJ starts l (i, .block m)) js from rfl, split_jumps h2]
    have key : ∀ (z : Int) (qs : List (Nat × Tgt)) (l : List DOp), (∀ q ∈ qs, i < q.1) → jumpAll [] (setImm l i z) qs = setImm (jumpAll [] l qs) i z := fun z qs => by
      induction qs with
      | nil => intro l _; rfl
      | cons q qs ih =>
        intro l hq
        have h3 := hq q List.mem_cons_self
        show jumpAll [] (setJ [] (setImm l i z) q) qs = setImm (jumpAll [] (setJ [] l q) qs) i z
        unfold setJ
        rw [setImm_comm (by omega), ih _ fun q' hq' => hq q' (List.mem_cons_of_mem _ hq')]
    show _ = (jBl js).foldl _ (setJ starts (jumpAll [] l (jP js)) (i, .block m))
    rw [show setJ starts (jumpAll [] l (jP js)) (i, .block m) = setImm (jumpAll [] l (jP js)) i (4 * (tgtOf starts (.block m) - (i : Int))) from rfl, ← key _ (jP js) l fun q hq => h1 q (List.mem_filter.1 hq).1]
    rfl
def pFull (f : DFunc) : DPiece := pAt f f.blocks.length
def jBf (f : DFunc) : List (Nat × Int) := jBl (gFull f).jumps
def patch17 (f : DFunc) (i : Nat) : List DOp := ((jBf f).take i).foldl (fun l q => setJ (gFull f).starts l (q.1, .block q.2)) (pFull f).ops
theorem patch_next {f : DFunc} {i : Nat} {q : Nat × Int} (h : (jBf f)[i]? = some q) : patch17 f (i + 1) = setImm (patch17 f i) q.1 (4 * (tgtOf (gFull f).starts (.block q.2) - (q.1 : Int))) := by
  unfold patch17; rw [take_next h, List.foldl_append]; rfl
theorem patch_len (f : DFunc) (i : Nat) : (patch17 f i).length = (gFull f).ops.length := by
  induction i with
  | zero => exact (sim_at (f := f) f.blocks.length (Nat.le_refl _)).len
  | succ i ih =>
    cases e : (jBf f)[i]? with
    | some q => rw [patch_next e, setImm_len, ih]
    | none => rw [← ih]; unfold patch17; rw [List.take_of_length_le (by have := List.getElem?_eq_none_iff.1 e; omega), List.take_of_length_le (by have := List.getElem?_eq_none_iff.1 e; omega)]
theorem patch_full (f : DFunc) : patch17 f (jBf f).length = (func17 f).ops := by
  unfold patch17 func17
  rw [List.take_length]
  simp only
  have h1 := split_jumps (starts := (gFull f).starts) (l := (gFull f).ops) (jumps_pw (f := f) f.blocks.length (Nat.le_refl _))
  refine Eq.trans ?_ h1.symm
  have h2 := (sim_at (f := f) f.blocks.length (Nat.le_refl _)).o
  show (jBf f).foldl _ (pAt f f.blocks.length).ops = _
  rw [h2]
  rfl
theorem jBf_mem {f : DFunc} {q : Nat × Int} (h : q ∈ jBf f) : (q.1, Tgt.block q.2) ∈ (gFull f).jumps := by
  obtain ⟨j, hj, e⟩ := List.mem_filterMap.1 h
  obtain ⟨i, t⟩ := j
  cases t with
  | block k => simp only [Option.some.injEq] at e; subst e; exact hj
  | place n => cases e
end Go.Proofs.YtcmmhfknkldmcaaDoor
