/-
  What stands in a function that gen makes: each instruction is of one of few kinds; a return's two instructions stand together; only jumps are set later. No condition beyond those that each theorem states.
-/
import Derived.Test.YtcmmhfknkldmcaaDoorG9
namespace Go.Proofs.YtcmmhfknkldmcaaDoor
open Go.RowKit

/-- The instructions that are the same in each function. -/
def fixL : List DOp := [⟨27, 5, 0, 0, 0⟩, ⟨19, 5, 5, 0, 0⟩, ⟨21, 0, 5, 6, 0⟩, ⟨29, 1, 0, 0, 0⟩, ⟨12, 17, 0, 0, 63⟩, ⟨31, 0, 0, 0, 0⟩, ⟨12, 17, 0, 0, 64⟩, ⟨13, 5, 5, 0, 1⟩, ⟨24, 0, 5, 0, 8⟩, jal, ⟨17, 5, 5, 0, 11⟩, ⟨19, 1, 2, 0, 0⟩, ⟨21, 0, 2, 1, 0⟩]
inductive Cls (m : Int) : DOp → Prop where
  | ld (r s : Int) (hr : 5 ≤ r ∧ r ≤ 16) (hs : 0 ≤ s ∧ s ≤ m + 5) : Cls m (ld r s)
  | sv (r s : Int) (hr : 0 ≤ r ∧ r ≤ 16) (hs : 0 ≤ s ∧ s ≤ m + 5) : Cls m (sv r s)
  | fix (x : DOp) (h : x ∈ fixL) : Cls m x
  | reck (k : Int) (h : 0 ≤ k ∧ k ≤ 9) (h0 : k ≠ 0) : Cls m ⟨k, 5, 5, 6, 0⟩
  | dig (a d : Int) (ha : a = 0 ∨ a = 5) (hd : 0 ≤ d ∧ d < 2048) : Cls m ⟨12, 5, a, 0, d⟩
def addF (fr : Int) : DOp := ⟨12, 2, 2, 0, fr⟩
def retO : DOp := ⟨30, 0, 1, 0, 0⟩
def ClsR (m fr : Int) (x : DOp) : Prop := Cls m x ∨ x = addF fr ∨ x = retO
theorem fixL_plain : ∀ x ∈ fixL, x.kind ≠ 30 ∧ x.rd ≠ 2 := by decide
theorem Cls.plain {m : Int} {x : DOp} (h : Cls m x) : x.kind ≠ 30 ∧ x.rd ≠ 2 := by
  cases h with
  | ld r s hr hs => exact ⟨by simp [Go.Proofs.YtcmmhfknkldmcaaDoor.ld], by simp [Go.Proofs.YtcmmhfknkldmcaaDoor.ld]; omega⟩
  | sv r s hr hs => exact ⟨by simp [Go.Proofs.YtcmmhfknkldmcaaDoor.sv], by simp [Go.Proofs.YtcmmhfknkldmcaaDoor.sv]⟩
  | fix _ h => exact fixL_plain _ h
  | reck k h h0 => exact ⟨by simp; omega, by simp⟩
  | dig a d ha hd => exact ⟨by simp, by simp⟩
/-- A return's instructions stand together. -/
def Good (fr : Int) (l : List DOp) : Prop := ∀ (i : Nat) o, l[i]? = some o → (o.kind = 30 → 1 ≤ i ∧ l[i - 1]? = some (addF fr)) ∧ (o.rd = 2 → l[i + 1]? = some retO)
theorem Good.plain {m fr : Int} {l : List DOp} (h : ∀ o ∈ l, Cls m o) : Good fr l := fun i o ho => by
  have := (h o (List.mem_of_getElem? ho)).plain
  exact ⟨fun e => absurd e this.1, fun e => absurd e this.2⟩
theorem Good.app {fr : Int} {a b : List DOp} (ha : Good fr a) (hb : Good fr b) : Good fr (a ++ b) := fun i o ho => by
  by_cases hi : i < a.length
  · rw [List.getElem?_append_left hi] at ho
    refine ⟨fun e => ?_, fun e => ?_⟩
    · have := (ha i o ho).1 e
      exact ⟨this.1, by rw [List.getElem?_append_left (by omega)]; exact this.2⟩
    · have h := (ha i o ho).2 e
      rw [List.getElem?_append_left (List.getElem?_eq_some_iff.1 h).1]; exact h
  · rw [List.getElem?_append_right (by omega)] at ho
    refine ⟨fun e => ?_, fun e => ?_⟩
    · have := (hb _ o ho).1 e
      refine ⟨by omega, ?_⟩
      rw [List.getElem?_append_right (by omega), show i - 1 - a.length = i - a.length - 1 by omega]; exact this.2
    · have h := (hb _ o ho).2 e
      rw [List.getElem?_append_right (by omega), show i + 1 - a.length = i - a.length + 1 by omega]; exact h
section
variable {m fr : Int}
theorem slotAt_in {slots : List Int} (hm : 0 ≤ m) (h : ∀ z ∈ slots, 0 ≤ z ∧ z < m) (v : Int) : 0 ≤ slotAt slots v ∧ slotAt slots v ≤ m + 5 := by
  unfold slotAt
  rw [List.getD_eq_getElem?_getD]
  cases e : slots[v.toNat]? with
  | none => simp; omega
  | some z => have := h z (List.mem_of_getElem? e); simp; omega
theorem handA_cls {slots args : List Int} (hm : 0 ≤ m) (h : ∀ z ∈ slots, 0 ≤ z ∧ z < m) (ha : args.length ≤ 6) : ∀ o ∈ handA slots m args, Cls m o := fun o ho => by
  unfold handA at ho
  obtain ⟨⟨v, k⟩, hp, ho⟩ := List.mem_flatMap.1 ho
  have hk : k < args.length := by have := List.mem_zipIdx hp; omega
  simp only [List.mem_cons, List.not_mem_nil, or_false] at ho
  rcases ho with rfl | rfl
  · exact .ld _ _ (by omega) (slotAt_in hm h v)
  · exact .sv _ _ (by omega) (by omega)
theorem handB_cls {n : Nat} (hm : 0 ≤ m) (ha : n ≤ 6) : ∀ o ∈ handB m n, Cls m o := fun o ho => by
  unfold handB at ho
  obtain ⟨k, hp, ho⟩ := List.mem_flatMap.1 ho
  have hk := List.mem_range.1 hp
  simp only [List.mem_cons, List.not_mem_nil, or_false] at ho
  rcases ho with rfl | rfl
  · exact .ld _ _ (by omega) (by omega)
  · exact .sv _ _ (by omega) (by omega)
theorem hand_cls {slots args : List Int} (hm : 0 ≤ m) (h : ∀ z ∈ slots, 0 ≤ z ∧ z < m) (ha : args.length ≤ 6) : ∀ o ∈ hand17 slots m args ++ [jal], Cls m o := fun o ho => by
  rcases List.mem_append.1 ho with ho | ho
  · unfold hand17 at ho
    rcases List.mem_append.1 ho with ho | ho
    · exact handA_cls hm h ha o ho
    · exact handB_cls hm ha o ho
  · rw [List.mem_singleton.1 ho]; exact .fix _ (by decide)
theorem lit_cls (k : Nat) : ∀ o ∈ lit 5 k, Cls m o := fun o ho => by
  unfold lit litE at ho
  have hin : ∀ d ∈ (litD k).reverse, 0 ≤ d ∧ d < 2048 := fun d hd => litD_in d (List.mem_reverse.1 hd)
  rcases List.mem_cons.1 ho with rfl | ho
  · refine .dig _ _ (.inl rfl) ?_
    rw [List.getD_eq_getElem?_getD]
    cases e : (litD k).reverse[0]? with
    | none => simp
    | some z => exact hin z (List.mem_of_getElem? e)
  · obtain ⟨d, hd, ho⟩ := List.mem_flatMap.1 ho
    unfold litS at ho
    rcases List.mem_cons.1 ho with rfl | ho
    · exact .fix _ (by decide)
    · split at ho
      · simp at ho
      · rw [List.mem_singleton.1 ho]; exact .dig _ _ (.inr rfl) (hin d (List.mem_of_mem_drop hd))
theorem reck_pos {op : Int} (h : 2 ≤ op ∧ op ≤ 11) : reckK op ≠ 0 := by
  have : op = 2 ∨ op = 3 ∨ op = 4 ∨ op = 5 ∨ op = 6 ∨ op = 7 ∨ op = 8 ∨ op = 9 ∨ op = 10 ∨ op = 11 := by omega
  rcases this with rfl | rfl | rfl | rfl | rfl | rfl | rfl | rfl | rfl | rfl <;> decide
theorem give_cls {no : Nat} {slots : List Int} {x : DInst} (hm : 0 ≤ m) (h : ∀ z ∈ slots, 0 ≤ z ∧ z < m) (hop : 1 ≤ x.op ∧ x.op ≤ 16) (ha : x.args.length ≤ 6) :
    (∀ o ∈ (give17 no slots x).1, Cls m o) ∧ 0 ≤ (give17 no slots x).2.2 ∧ (give17 no slots x).2.2 ≤ 16 := by
  unfold give17
  have hs := slotAt_in hm h
  by_cases h1 : x.op = 1
  · rw [if_pos h1]; exact ⟨lit_cls _, by simp, by simp⟩
  rw [if_neg h1]
  by_cases h2 : x.op = 12
  · rw [if_pos h2]
    refine ⟨fun o ho => ?_, by simp, by simp⟩
    simp only [List.mem_cons, List.not_mem_nil, or_false] at ho
    rcases ho with rfl | rfl <;> exact .fix _ (by decide)
  rw [if_neg h2]
  by_cases h3 : x.op = 13
  · rw [if_pos h3]
    refine ⟨fun o ho => ?_, by simp, by simp⟩
    simp only [List.mem_cons, List.not_mem_nil, or_false] at ho
    rcases ho with rfl | rfl | rfl
    · exact .ld _ _ (by omega) (hs _)
    · exact .fix _ (by decide)
    · exact .fix _ (by decide)
  rw [if_neg h3]
  by_cases h4 : x.op = 14
  · rw [if_pos h4]
    refine ⟨fun o ho => ?_, by simp, by simp⟩
    rcases List.mem_append.1 ho with ho | ho
    · unfold cargs at ho
      obtain ⟨⟨v, k⟩, hp, rfl⟩ := List.mem_map.1 ho
      have hk : k < x.args.length := by have := List.mem_zipIdx hp; omega
      exact .ld _ _ (by simp only; omega) (hs _)
    · rw [List.mem_singleton.1 ho]; exact .fix _ (by decide)
  rw [if_neg h4]
  by_cases h5 : x.op = 15
  · rw [if_pos h5]
    refine ⟨fun o ho => ?_, by simp, by simp⟩
    simp only [List.mem_cons, List.not_mem_nil, or_false] at ho
    rcases ho with rfl | rfl <;> exact .fix _ (by decide)
  rw [if_neg h5]
  by_cases h6 : x.op = 16
  · rw [if_pos h6]
    refine ⟨fun o ho => ?_, by simp, by simp⟩
    simp only [List.mem_cons, List.not_mem_nil, or_false] at ho
    rcases ho with rfl | rfl | rfl
    · exact .ld _ _ (by omega) (hs _)
    · exact .fix _ (by decide)
    · exact .fix _ (by decide)
  rw [if_neg h6]
  refine ⟨fun o ho => ?_, by simp, by simp⟩
  rcases List.mem_append.1 ho with ho | ho
  · simp only [List.mem_cons, List.not_mem_nil, or_false] at ho
    rcases ho with rfl | rfl | rfl
    · exact .ld _ _ (by omega) (hs _)
    · exact .ld _ _ (by omega) (hs _)
    · exact .reck _ reck_in (reck_pos (by omega))
  · split at ho
    · rw [List.mem_singleton.1 ho]; exact .fix _ (by decide)
    · simp at ho
theorem end_cls {no : Nat} {slots : List Int} {t : DTerm} (hm : 0 ≤ m) (h : ∀ z ∈ slots, 0 ≤ z ∧ z < m) (ha : t.args.length ≤ 6) (he : t.elses.length ≤ 6) :
    Good fr (end17 no slots m fr t).1 ∧ (∀ o ∈ (end17 no slots m fr t).1, ClsR m fr o) ∧ 1 ≤ (end17 no slots m fr t).1.length := by
  unfold end17
  have hs := slotAt_in hm h
  by_cases h1 : t.kind = 3
  · rw [if_pos h1]
    have hld : Cls m (ld 10 (slotAt slots t.a)) := .ld _ _ (by omega) (hs _)
    refine ⟨fun i o ho => ?_, fun o ho => ?_, by simp⟩
    · match i, ho with
      | 0, ho => simp at ho; subst ho; exact ⟨fun e => absurd e hld.plain.1, fun e => absurd e hld.plain.2⟩
      | 1, ho => simp at ho; subst ho; exact ⟨fun e => absurd e (by decide), fun e => absurd e (by decide)⟩
      | 2, ho => simp at ho; subst ho; exact ⟨fun e => absurd e (by simp), fun _ => rfl⟩
      | 3, ho => simp at ho; subst ho; exact ⟨fun _ => ⟨by omega, rfl⟩, fun e => absurd e (by decide)⟩
      | n + 4, ho => simp at ho
    · simp only [List.mem_cons, List.not_mem_nil, or_false] at ho
      rcases ho with rfl | rfl | rfl | rfl
      · exact .inl hld
      · exact .inl (.fix _ (by decide))
      · exact .inr (.inl rfl)
      · exact .inr (.inr rfl)
  rw [if_neg h1]
  by_cases h2 : t.kind = 2
  · rw [if_pos h2]
    have key : ∀ o ∈ [ld 5 (slotAt slots t.a), ⟨24, 0, 5, 0, 8⟩, jal] ++ (hand17 slots m t.args ++ [jal]) ++ (hand17 slots m t.elses ++ [jal]), Cls m o := fun o ho => by
      rcases List.mem_append.1 ho with ho | ho
      · rcases List.mem_append.1 ho with ho | ho
        · simp only [List.mem_cons, List.not_mem_nil, or_false] at ho
          rcases ho with rfl | rfl | rfl
          · exact .ld _ _ (by omega) (hs _)
          · exact .fix _ (by decide)
          · exact .fix _ (by decide)
        · exact hand_cls hm h ha o ho
      · exact hand_cls hm h he o ho
    exact ⟨Good.plain key, fun o ho => .inl (key o ho), by simp⟩
  · rw [if_neg h2]
    exact ⟨Good.plain (hand_cls hm h ha), fun o ho => .inl (hand_cls hm h ha o ho), by simp⟩
theorem ins_cls {slots : List Int} {p : Int} {s : List DOp × List DRel} {l : List DInst} (hm : 0 ≤ m) (h : ∀ z ∈ slots, 0 ≤ z ∧ z < m) (hl : ∀ x ∈ l, 1 ≤ x.op ∧ x.op ≤ 16 ∧ x.args.length ≤ 6) (k : Nat) (hk : k ≤ l.length) :
    ∃ t, (ins17 slots p s (l.take k)).1 = s.1 ++ t ∧ ∀ o ∈ t, Cls m o := by
  induction k with
  | zero => exact ⟨[], by simp [ins17], by simp⟩
  | succ k ih =>
    obtain ⟨t, e, ht⟩ := ih (by omega)
    have hx : l[k]? = some l[k] := List.getElem?_eq_getElem (by omega)
    have h1 := hl _ (List.mem_of_getElem? hx)
    rw [ins17_next hx]
    unfold insStep
    obtain ⟨g1, g2, g3⟩ := give_cls (no := (ins17 slots p s (l.take k)).1.length) hm h ⟨h1.1, h1.2.1⟩ h1.2.2
    simp only
    rw [e] at g1 g2 g3 ⊢
    refine ⟨_, by rw [List.append_assoc, List.append_assoc], fun o ho => ?_⟩
    rcases List.mem_append.1 ho with ho | ho
    · exact ht o ho
    rcases List.mem_append.1 ho with ho | ho
    · exact g1 o ho
    · rw [List.mem_singleton.1 ho]; exact .sv _ _ ⟨g2, g3⟩ (slotAt_in hm h _)
end
theorem gAt_cls {f : DFunc} (h : OkG f) (k : Nat) (hk : k ≤ f.blocks.length) : ∃ t, (gAt f k).ops = addF (0 - frame17 f) :: t ∧ Good (frame17 f) t ∧ (∀ o ∈ t, ClsR (many16 f) (frame17 f) o) ∧ k + 1 ≤ t.length ∧ ∀ z ∈ (gAt f k).starts, z < (gAt f k).ops.length := by
  have hm := many16_38 h
  induction k with
  | zero =>
    have key : ∀ o ∈ (⟨21, 0, 2, 1, 0⟩ : DOp) :: headP f.params.toNat, Cls (many16 f) o := fun o ho => by
      rcases List.mem_cons.1 ho with rfl | ho
      · exact .fix _ (by decide)
      · unfold headP at ho
        obtain ⟨i, hi, rfl⟩ := List.mem_map.1 ho
        have := List.mem_range.1 hi
        have := h.p0; have := h.p1
        exact .sv _ _ (by omega) (by omega)
    exact ⟨(⟨21, 0, 2, 1, 0⟩ : DOp) :: headP f.params.toNat, rfl, Good.plain key, fun o ho => .inl (key o ho), by simp, fun z hz => by simp [gAt, g0] at hz⟩
  | succ k ih =>
    obtain ⟨t, e, g, c, hl, hz⟩ := ih (by omega)
    have hb : f.blocks[k]? = some f.blocks[k] := List.getElem?_eq_getElem (by omega)
    have hbm := List.mem_of_getElem? hb
    have hs : ∀ z ∈ give16 f.blocks[k], 0 ≤ z ∧ z < many16 f := fun z hz => ⟨(give16_small h hbm z hz).1, many16_ge hbm hz⟩
    have hks := h.ks _ hbm
    have htm := h.tm _ hbm
    obtain ⟨t2, e2, c2⟩ := ins_cls (slots := give16 f.blocks[k]) (p := f.blocks[k].params) (s := ((gAt f k).ops, (gAt f k).rels)) (l := f.blocks[k].ins) hm.1 hs (fun x hx => ⟨(hks x hx).2.1, (hks x hx).2.2.1, (hks x hx).2.2.2.1⟩) _ (Nat.le_refl _)
    obtain ⟨g3, c3, l3⟩ := end_cls (fr := frame17 f) (no := (iAt f f.blocks[k] k f.blocks[k].ins.length).1.length) hm.1 hs htm.2.1 htm.2.2
    have e2 : (iAt f f.blocks[k] k f.blocks[k].ins.length).1 = (gAt f k).ops ++ t2 := e2
    rw [blkAt hb]
    simp only
    refine ⟨t ++ t2 ++ (end17 (iAt f f.blocks[k] k f.blocks[k].ins.length).1.length (give16 f.blocks[k]) (many16 f) (frame17 f) f.blocks[k].fin).1, ?_, (g.app (Good.plain c2)).app g3, fun o ho => ?_, ?_, fun z hz2 => ?_⟩
    · rw [e2, e]; simp
    · rcases List.mem_append.1 ho with ho | ho
      · rcases List.mem_append.1 ho with ho | ho
        · exact c o ho
        · exact .inl (c2 o ho)
      · exact c3 o ho
    · simp only [List.length_append]; omega
    · have hl2 : (iAt f f.blocks[k] k f.blocks[k].ins.length).1.length = (gAt f k).ops.length + t2.length := by rw [e2, List.length_append]
      rw [List.length_append]
      rcases List.mem_append.1 hz2 with h1 | h1
      · have := hz z h1; omega
      · have := List.mem_singleton.1 h1; omega
end Go.Proofs.YtcmmhfknkldmcaaDoor
