/-
  What stands in a function that gen makes: each instruction is of one of few kinds; a return's two instructions stand together; only jumps are set later. No condition beyond those that each theorem states.
-/
import Derived.Test.YtcmmhfknkldmcaaDoorK2
import Derived.Test.YtcmmhfknkldmcaaDoorA28
namespace Go.Proofs.YtcmmhfknkldmcaaDoor
open Go.RowKit

/-- The instructions that are the same in each function. -/
def fixL : List DOp := [⟨27, 5, 0, 0, 0⟩, ⟨19, 5, 5, 0, 0⟩, ⟨21, 0, 5, 6, 0⟩, ⟨29, 1, 0, 0, 0⟩, ⟨12, 17, 0, 0, 63⟩, ⟨31, 0, 0, 0, 0⟩, ⟨12, 17, 0, 0, 64⟩, ⟨13, 5, 5, 0, 1⟩, ⟨24, 0, 5, 0, 8⟩, jal, ⟨17, 5, 5, 0, 11⟩, ⟨19, 1, 2, 0, 0⟩, ⟨21, 0, 2, 1, 0⟩]
inductive Cls (m : Int) : DOp → Prop where
  | ld (r s : Int) (hr : 5 ≤ r ∧ r ≤ 16) (hs : 0 ≤ s ∧ s ≤ m + 5) : Cls m (ld r s)
  | sv (r s : Int) (hr : 0 ≤ r ∧ r ≤ 16) (hs : 0 ≤ s ∧ s ≤ m + 5) : Cls m (sv r s)
  | fix (x : DOp) (h : x ∈ fixL) : Cls m x
  | reck (k : Int) (h : 0 ≤ k ∧ k ≤ 9) (h0 : k ≠ 0) : Cls m ⟨k, 5, 5, 6, 0⟩
  | dig (a d : Int) (ha : a = 0 ∨ a = 5) (hd : 0 ≤ d ∧ d < 2048) : Cls m ⟨12, 5, a, 0, d⟩
def addF (fr : Int) : DOp := ⟨12, 2, 2, 0, fr⟩
def retO : DOp := ⟨30, 0, 1, 0, 0⟩
def ClsR (m fr : Int) (x : DOp) : Prop := Cls m x ∨ x = addF fr ∨ x = retO
theorem fixL_plain : ∀ x ∈ fixL, x.kind ≠ 30 ∧ x.rd ≠ 2 := by decide
theorem Cls.plain {m : Int} {x : DOp} (h : Cls m x) : x.kind ≠ 30 ∧ x.rd ≠ 2 := by
  cases h with
  | ld r s hr hs => exact ⟨by simp [Go.Proofs.YtcmmhfknkldmcaaDoor.ld], by simp [Go.Proofs.YtcmmhfknkldmcaaDoor.ld]; omega⟩
  | sv r s hr hs => exact ⟨by simp [Go.Proofs.YtcmmhfknkldmcaaDoor.sv], by simp [Go.Proofs.YtcmmhfknkldmcaaDoor.sv]⟩
  | fix _ h => exact fixL_plain _ h
  | reck k h h0 => exact ⟨by simp; omega, by simp⟩
  | dig a d ha hd => exact ⟨by simp, by simp⟩
/-- A return's instructions stand together. -/
def Good (fr : Int) (l : List DOp) : Prop := ∀ (i : Nat) o, l[i]? = some o → (o.kind = 30 → 1 ≤ i ∧ l[i - 1]? = some (addF fr)) ∧ (o.rd = 2 → l[i + 1]? = some retO)
theorem Good.plain {m fr : Int} {l : List DOp} (h : ∀ o ∈ l, Cls m o) : Good fr l := fun i o ho => by
  have := (h o (List.mem_of_getElem? ho)).plain
  exact ⟨fun e => absurd e this.1, fun e => absurd e this.2⟩
theorem Good.app {fr : Int} {a b : List DOp} (ha : Good fr a) (hb : Good fr b) : Good fr (a ++ b) := fun i o ho => by
  by_cases hi : i < a.length
  · rw [List.getElem?_append_left hi] at ho
    refine ⟨fun e => ?_, fun e => ?_⟩
    · have := (ha i o ho).1 e
      exact ⟨this.1, by rw [List.getElem?_append_left (by omega)]; exact this.2⟩
    · have h := (ha i o ho).2 e
      rw [List.getElem?_append_left (List.getElem?_eq_some_iff.1 h).1]; exact h
  · rw [List.getElem?_append_right (by omega)] at ho
    refine ⟨fun e => ?_, fun e => ?_⟩
    · have := (hb _ o ho).1 e
      refine ⟨by omega, ?_⟩
      rw [List.getElem?_append_right (by omega), show i - 1 - a.length = i - a.length - 1 by omega]; exact this.2
    · have h := (hb _ o ho).2 e
      rw [List.getElem?_append_right (by omega), show i + 1 - a.length = i - a.length + 1 by omega]; exact h
section
variable {m fr : Int}
theorem slotAt_in {slots : List Int} (hm : 0 ≤ m) (h : ∀ z ∈ slots, 0 ≤ z ∧ z < m) (v : Int) : 0 ≤ slotAt slots v ∧ slotAt slots v ≤ m + 5 := by
  unfold slotAt
  rw [List.getD_eq_getElem?_getD]
  cases e : slots[v.toNat]? with
  | none => simp; omega
  | some z => have := h z (List.mem_of_getElem? e); simp; omega
theorem handA_cls {slots args : List Int} (hm : 0 ≤ m) (h : ∀ z ∈ slots, 0 ≤ z ∧ z < m) (ha : args.length ≤ 6) : ∀ o ∈ handA slots m args, Cls m o := fun o ho => by
  unfold handA at ho
  obtain ⟨⟨v, k⟩, hp, ho⟩ := List.mem_flatMap.1 ho
  have hk : k < args.length := by have := List.mem_zipIdx hp; omega
  simp only [List.mem_cons, List.not_mem_nil, or_false] at ho
  rcases ho with rfl | rfl
  · exact .ld _ _ (by omega) (slotAt_in hm h v)
  · exact .sv _ _ (by omega) (by omega)
theorem handB_cls {n : Nat} (hm : 0 ≤ m) (ha : n ≤ 6) : ∀ o ∈ handB m n, Cls m o := fun o ho => by
  unfold handB at ho
  obtain ⟨k, hp, ho⟩ := List.mem_flatMap.1 ho
  have hk := List.mem_range.1 hp
  simp only [List.mem_cons, List.not_mem_nil, or_false] at ho
  rcases ho with rfl | rfl
  · exact .ld _ _ (by omega) (by omega)
  · exact .sv _ _ (by omega) (by omega)
theorem hand_cls {slots args : List Int} (hm : 0 ≤ m) (h : ∀ z ∈ slots, 0 ≤ z ∧ z < m) (ha : args.length ≤ 6) : ∀ o ∈ hand17 slots m args ++ [jal], Cls m o := fun o ho => by
  rcases List.mem_append.1 ho with ho | ho
  · unfold hand17 at ho
    rcases List.mem_append.1 ho with ho | ho
    · exact handA_cls hm h ha o ho
    · exact handB_cls hm ha o ho
  · rw [List.mem_singleton.1 ho]; exact .fix _ (by decide)
theorem lit_cls (k : Nat) : ∀ o ∈ lit 5 k, Cls m o := fun o ho => by
  unfold lit litE at ho
  have hin : ∀ d ∈ (litD k).reverse, 0 ≤ d ∧ d < 2048 := fun d hd => litD_in d (List.mem_reverse.1 hd)
  rcases List.mem_cons.1 ho with rfl | ho
  · refine .dig _ _ (.inl rfl) ?_
    rw [List.getD_eq_getElem?_getD]
    cases e : (litD k).reverse[0]? with
    | none => simp
    | some z => exact hin z (List.mem_of_getElem? e)
  · obtain ⟨d, hd, ho⟩ := List.mem_flatMap.1 ho
    unfold litS at ho
    rcases List.mem_cons.1 ho with rfl | ho
    · exact .fix _ (by decide)
    · split at ho
      · simp at ho
      · rw [List.mem_singleton.1 ho]; exact .dig _ _ (.inr rfl) (hin d (List.mem_of_mem_drop hd))
theorem reck_pos {op : Int} (h : 2 ≤ op ∧ op ≤ 11) : reckK op ≠ 0 := by
  have : op = 2 ∨ op = 3 ∨ op = 4 ∨ op = 5 ∨ op = 6 ∨ op = 7 ∨ op = 8 ∨ op = 9 ∨ op = 10 ∨ op = 11 := by omega
  rcases this with rfl | rfl | rfl | rfl | rfl | rfl | rfl | rfl | rfl | rfl <;> decide
theorem give_cls {no : Nat} {slots : List Int} {x : DInst} (hm : 0 ≤ m) (h : ∀ z ∈ slots, 0 ≤ z ∧ z < m) (hop : 1 ≤ x.op ∧ x.op ≤ 16) (ha : x.args.length ≤ 6) :
    (∀ o ∈ (give17 no slots x).1, Cls m o) ∧ 0 ≤ (give17 no slots x).2.2 ∧ (give17 no slots x).2.2 ≤ 16 := by
  unfold give17
  have hs := slotAt_in hm h
  by_cases h1 : x.op = 1
  · rw [if_pos h1]; exact ⟨lit_cls _, by simp, by simp⟩
  rw [if_neg h1]
  by_cases h2 : x.op = 12
  · rw [if_pos h2]
    refine ⟨fun o ho => ?_, by simp, by simp⟩
    simp only [List.mem_cons, List.not_mem_nil, or_false] at ho
    rcases ho with rfl | rfl <;> exact .fix _ (by decide)
  rw [if_neg h2]
  by_cases h3 : x.op = 13
  · rw [if_pos h3]
    refine ⟨fun o ho => ?_, by simp, by simp⟩
    simp only [List.mem_cons, List.not_mem_nil, or_false] at ho
    rcases ho with rfl | rfl | rfl
    · exact .ld _ _ (by omega) (hs _)
    · exact .fix _ (by decide)
    · exact .fix _ (by decide)
  rw [if_neg h3]
  by_cases h4 : x.op = 14
  · rw [if_pos h4]
    refine ⟨fun o ho => ?_, by simp, by simp⟩
    rcases List.mem_append.1 ho with ho | ho
    · unfold cargs at ho
      obtain ⟨⟨v, k⟩, hp, rfl⟩ := List.mem_map.1 ho
      have hk : k < x.args.length := by have := List.mem_zipIdx hp; omega
      exact .ld _ _ (by simp only; omega) (hs _)
    · rw [List.mem_singleton.1 ho]; exact .fix _ (by decide)
  rw [if_neg h4]
  by_cases h5 : x.op = 15
  · rw [if_pos h5]
    refine ⟨fun o ho => ?_, by simp, by simp⟩
    simp only [List.mem_cons, List.not_mem_nil, or_false] at ho
    rcases ho with rfl | rfl <;> exact .fix _ (by decide)
  rw [if_neg h5]
  by_cases h6 : x.op = 16
  · rw [if_pos h6]
    refine ⟨fun o ho => ?_, by simp, by simp⟩
    simp only [List.mem_cons, List.not_mem_nil, or_false] at ho
    rcases ho with rfl | rfl | rfl
    · exact .ld _ _ (by omega) (hs _)
    · exact .fix _ (by decide)
    · exact .fix _ (by decide)
  rw [if_neg h6]
  refine ⟨fun o ho => ?_, by simp, by simp⟩
  rcases List.mem_append.1 ho with ho | ho
  · simp only [List.mem_cons, List.not_mem_nil, or_false] at ho
    rcases ho with rfl | rfl | rfl
    · exact .ld _ _ (by omega) (hs _)
    · exact .ld _ _ (by omega) (hs _)
    · exact .reck _ reck_in (reck_pos (by omega))
  · split at ho
    · rw [List.mem_singleton.1 ho]; exact .fix _ (by decide)
    · simp at ho
theorem end_cls {no : Nat} {slots : List Int} {t : DTerm} (hm : 0 ≤ m) (h : ∀ z ∈ slots, 0 ≤ z ∧ z < m) (ha : t.args.length ≤ 6) (he : t.elses.length ≤ 6) :
    Good fr (end17 no slots m fr t).1 ∧ (∀ o ∈ (end17 no slots m fr t).1, ClsR m fr o) ∧ 1 ≤ (end17 no slots m fr t).1.length := by
  unfold end17
  have hs := slotAt_in hm h
  by_cases h1 : t.kind = 3
  · rw [if_pos h1]
    have hld : Cls m (ld 10 (slotAt slots t.a)) := .ld _ _ (by omega) (hs _)
    refine ⟨fun i o ho => ?_, fun o ho => ?_, by simp⟩
    · match i, ho with
      | 0, ho => simp at ho; subst ho; exact ⟨fun e => absurd e hld.plain.1, fun e => absurd e hld.plain.2⟩
      | 1, ho => simp at ho; subst ho; exact ⟨fun e => absurd e (by decide), fun e => absurd e (by decide)⟩
      | 2, ho => simp at ho; subst ho; exact ⟨fun e => absurd e (by simp), fun _ => rfl⟩
      | 3, ho => simp at ho; subst ho; exact ⟨fun _ => ⟨by omega, rfl⟩, fun e => absurd e (by decide)⟩
      | n + 4, ho => simp at ho
    · simp only [List.mem_cons, List.not_mem_nil, or_false] at ho
      rcases ho with rfl | rfl | rfl | rfl
      · exact .inl hld
      · exact .inl (.fix _ (by decide))
      · exact .inr (.inl rfl)
      · exact .inr (.inr rfl)
  rw [if_neg h1]
  by_cases h2 : t.kind = 2
  · rw [if_pos h2]
    have key : ∀ o ∈ [ld 5 (slotAt slots t.a), ⟨24, 0, 5, 0, 8⟩, jal] ++ (hand17 slots m t.args ++ [jal]) ++ (hand17 slots m t.elses ++ [jal]), Cls m o := fun o ho => by
      rcases List.mem_append.1 ho with ho | ho
      · rcases List.mem_append.1 ho with ho | ho
        · simp only [List.mem_cons, List.not_mem_nil, or_false] at ho
          rcases ho with rfl | rfl | rfl
          · exact .ld _ _ (by omega) (hs _)
          · exact .fix _ (by decide)
          · exact .fix _ (by decide)
        · exact hand_cls hm h ha o ho
      · exact hand_cls hm h he o ho
    exact ⟨Good.plain key, fun o ho => .inl (key o ho), by simp⟩
  · rw [if_neg h2]
    exact ⟨Good.plain (hand_cls hm h ha), fun o ho => .inl (hand_cls hm h ha o ho), by simp⟩
theorem ins_cls {slots : List Int} {p : Int} {s : List DOp × List DRel} {l : List DInst} (hm : 0 ≤ m) (h : ∀ z ∈ slots, 0 ≤ z ∧ z < m) (hl : ∀ x ∈ l, 1 ≤ x.op ∧ x.op ≤ 16 ∧ x.args.length ≤ 6) (k : Nat) (hk : k ≤ l.length) :
    ∃ t, (ins17 slots p s (l.take k)).1 = s.1 ++ t ∧ ∀ o ∈ t, Cls m o := by
  induction k with
  | zero => exact ⟨[], by simp [ins17], by simp⟩
  | succ k ih =>
    obtain ⟨t, e, ht⟩ := ih (by omega)
    have hx : l[k]? = some l[k] := List.getElem?_eq_getElem (by omega)
    have h1 := hl _ (List.mem_of_getElem? hx)
    rw [ins17_next hx]
    unfold insStep
    obtain ⟨g1, g2, g3⟩ := give_cls (no := (ins17 slots p s (l.take k)).1.length) hm h ⟨h1.1, h1.2.1⟩ h1.2.2
    simp only
    rw [e] at g1 g2 g3 ⊢
    refine ⟨_, by rw [List.append_assoc, List.append_assoc], fun o ho => ?_⟩
    rcases List.mem_append.1 ho with ho | ho
    · exact ht o ho
    rcases List.mem_append.1 ho with ho | ho
    · exact g1 o ho
    · rw [List.mem_singleton.1 ho]; exact .sv _ _ ⟨g2, g3⟩ (slotAt_in hm h _)
end
theorem gAt_cls {f : DFunc} (h : OkG f) (k : Nat) (hk : k ≤ f.blocks.length) : ∃ t, (gAt f k).ops = addF (0 - frame17 f) :: t ∧ Good (frame17 f) t ∧ (∀ o ∈ t, ClsR (many16 f) (frame17 f) o) ∧ k + 1 ≤ t.length ∧ ∀ z ∈ (gAt f k).starts, z < (gAt f k).ops.length := by
  have hm := many16_38 h
  induction k with
  | zero =>
    have key : ∀ o ∈ (⟨21, 0, 2, 1, 0⟩ : DOp) :: headP f.params.toNat, Cls (many16 f) o := fun o ho => by
      rcases List.mem_cons.1 ho with rfl | ho
      · exact .fix _ (by decide)
      · unfold headP at ho
        obtain ⟨i, hi, rfl⟩ := List.mem_map.1 ho
        have := List.mem_range.1 hi
        have := h.p0; have := h.p1
        exact .sv _ _ (by omega) (by omega)
    exact ⟨(⟨21, 0, 2, 1, 0⟩ : DOp) :: headP f.params.toNat, rfl, Good.plain key, fun o ho => .inl (key o ho), by simp, fun z hz => by simp [gAt, g0] at hz⟩
  | succ k ih =>
    obtain ⟨t, e, g, c, hl, hz⟩ := ih (by omega)
    have hb : f.blocks[k]? = some f.blocks[k] := List.getElem?_eq_getElem (by omega)
    have hbm := List.mem_of_getElem? hb
    have hs : ∀ z ∈ give16 f.blocks[k], 0 ≤ z ∧ z < many16 f := fun z hz => ⟨(give16_small h hbm z hz).1, many16_ge hbm hz⟩
    have hks := h.ks _ hbm
    have htm := h.tm _ hbm
    obtain ⟨t2, e2, c2⟩ := ins_cls (slots := give16 f.blocks[k]) (p := f.blocks[k].params) (s := ((gAt f k).ops, (gAt f k).rels)) (l := f.blocks[k].ins) hm.1 hs (fun x hx => ⟨(hks x hx).2.1, (hks x hx).2.2.1, (hks x hx).2.2.2.1⟩) _ (Nat.le_refl _)
    obtain ⟨g3, c3, l3⟩ := end_cls (fr := frame17 f) (no := (iAt f f.blocks[k] k f.blocks[k].ins.length).1.length) hm.1 hs htm.2.1 htm.2.2
    have e2 : (iAt f f.blocks[k] k f.blocks[k].ins.length).1 = (gAt f k).ops ++ t2 := e2
    rw [blkAt hb]
    simp only
    refine ⟨t ++ t2 ++ (end17 (iAt f f.blocks[k] k f.blocks[k].ins.length).1.length (give16 f.blocks[k]) (many16 f) (frame17 f) f.blocks[k].fin).1, ?_, (g.app (Good.plain c2)).app g3, fun o ho => ?_, ?_, fun z hz2 => ?_⟩
    · rw [e2, e]; simp
    · rcases List.mem_append.1 ho with ho | ho
      · rcases List.mem_append.1 ho with ho | ho
        · exact c o ho
        · exact .inl (c2 o ho)
      · exact c3 o ho
    · simp only [List.length_append]; omega
    · have hl2 : (iAt f f.blocks[k] k f.blocks[k].ins.length).1.length = (gAt f k).ops.length + t2.length := by rw [e2, List.length_append]
      rw [List.length_append]
      rcases List.mem_append.1 hz2 with h1 | h1
      · have := hz z h1; omega
      · have := List.mem_singleton.1 h1; omega
end Go.Proofs.YtcmmhfknkldmcaaDoor

namespace Go.Proofs.YtcmmhfknkldmcaaDoor
open Go.RowKit

theorem end_jal {no : Nat} {slots : List Int} {mn fr : Int} {t : DTerm} : ∀ j ∈ (end17 no slots mn fr t).2, no ≤ j.1 ∧ (end17 no slots mn fr t).1[j.1 - no]? = some jal := by
  have ha := hand17_len slots mn t.args
  have hb := hand17_len slots mn t.elses
  have snoc : ∀ (l : List DOp) (k : Nat), k = l.length → (l ++ [jal])[k]? = some jal := fun l k hk => by subst hk; simp
  unfold end17
  by_cases h3 : t.kind = 3
  · rw [if_pos h3]; intro j hj; simp at hj
  · rw [if_neg h3]
    by_cases h4 : t.kind = 2
    · rw [if_pos h4]
      intro j hj
      simp only [List.mem_cons, List.not_mem_nil, or_false] at hj
      rcases hj with rfl | rfl | rfl
      · refine ⟨by simp only; omega, ?_⟩
        simp only
        rw [show no + 1 + 1 - no = 2 by omega]; rfl
      · refine ⟨by simp only; omega, ?_⟩
        simp only
        rw [List.getElem?_append_left (by simp; omega), List.getElem?_append_right (by simp; omega)]
        exact snoc _ _ (by simp; omega)
      · refine ⟨by simp only; omega, ?_⟩
        simp only
        rw [List.getElem?_append_right (by simp; omega)]
        exact snoc _ _ (by simp; omega)
    · rw [if_neg h4]
      intro j hj
      simp only [List.mem_cons, List.not_mem_nil, or_false] at hj
      subst hj
      refine ⟨by simp only; omega, ?_⟩
      simp only
      exact snoc _ _ (by omega)
theorem iAt_pre {f : DFunc} {b : DBlock} {k : Nat} : ∃ t, (iAt f b k b.ins.length).1 = (gAt f k).ops ++ t := by
  unfold iAt
  generalize b.ins.length = i
  suffices ∀ (l : List DInst) (s : List DOp × List DRel), ∃ t, (ins17 (give16 b) b.params s l).1 = s.1 ++ t from this _ _
  intro l s
  unfold ins17
  generalize l.zipIdx = z
  induction z generalizing s with
  | nil => exact ⟨[], by simp⟩
  | cons q z ih =>
    rw [List.foldl_cons]
    obtain ⟨t, e⟩ := ih (insStep (give16 b) b.params s q.2 q.1)
    rw [e]
    unfold insStep
    exact ⟨_, by simp only [List.append_assoc]; rfl⟩
theorem gAt_jal {f : DFunc} (k : Nat) (hk : k ≤ f.blocks.length) : ∀ j ∈ (gAt f k).jumps, (gAt f k).ops[j.1]? = some jal := by
  induction k with
  | zero => intro j hj; simp [gAt, g0] at hj
  | succ k ih =>
    have hb : f.blocks[k]? = some f.blocks[k] := List.getElem?_eq_getElem (by omega)
    rw [blkAt hb]
    simp only
    obtain ⟨t, e⟩ := iAt_pre (f := f) (b := f.blocks[k]) (k := k)
    intro j hj
    rcases List.mem_append.1 hj with hj | hj
    · have h1 := ih (by omega) j hj
      have h2 := (List.getElem?_eq_some_iff.1 h1).1
      rw [e, List.append_assoc, List.getElem?_append_left h2]; exact h1
    · obtain ⟨h1, h2⟩ := end_jal j hj
      rw [List.getElem?_append_right h1]; exact h2
/-- One list is the other but for what its jumps lead to. -/
def JSet (N : Nat) (l l' : List DOp) : Prop := l'.length = l.length ∧ ∀ (i : Nat) x, l[i]? = some x → ∃ y, l'[i]? = some y ∧ (y = x ∨ (x = jal ∧ ∃ z : Int, y = ⟨29, 0, 0, 0, 4 * (z - (i : Int))⟩ ∧ 0 ≤ z ∧ z < N))
theorem jset {N : Nat} {starts : List Int} {l0 : List DOp} : ∀ (js : List (Nat × Tgt)) (l : List DOp), JSet N l0 l → (∀ j ∈ js, l0[j.1]? = some jal ∧ 0 ≤ tgtOf starts j.2 ∧ tgtOf starts j.2 < N) → JSet N l0 (jumpAll starts l js) := by
  intro js
  induction js with
  | nil => intro l h _; exact h
  | cons j js ih =>
    intro l h hj
    unfold jumpAll
    rw [List.foldl_cons]
    refine ih _ ?_ fun q hq => hj q (List.mem_cons_of_mem _ hq)
    obtain ⟨h1, h2, h3⟩ := hj j List.mem_cons_self
    unfold setJ
    refine ⟨by rw [setImm_len]; exact h.1, fun i x hx => ?_⟩
    obtain ⟨y, hy, hc⟩ := h.2 i x hx
    unfold setImm
    rw [List.getElem?_modify, hy]
    by_cases e : j.1 = i
    · subst e
      rw [h1] at hx
      cases hx
      refine ⟨⟨29, 0, 0, 0, 4 * (tgtOf starts j.2 - (j.1 : Int))⟩, ?_, .inr ⟨rfl, tgtOf starts j.2, rfl, h2, h3⟩⟩
      rcases hc with rfl | ⟨_, z, rfl, _⟩ <;> simp [jal]
    · exact ⟨y, by simp [e], hc⟩
theorem func_jset {f : DFunc} (h : OkG f) : JSet (gFull f).ops.length (gFull f).ops (func17 f).ops := by
  have hle := Nat.le_refl f.blocks.length
  refine jset _ _ ⟨rfl, fun i x hx => ⟨x, hx, .inl rfl⟩⟩ fun j hj => ⟨gAt_jal _ hle j hj, (tgt_in h hj).1, ?_⟩
  have h1 := (gAt_jumps h _ hle).1 j hj
  obtain ⟨_, _, _, _, _, hz⟩ := gAt_cls h _ hle
  have h2 := h1.2.2
  obtain ⟨jn, jt⟩ := j
  cases jt with
  | block t =>
    have h4 : 0 ≤ t ∧ t < (f.blocks.length : Int) := h2
    have hl := (gAt_len h f.blocks.length hle).2.2.2
    have ht : t.toNat < (gAt f f.blocks.length).starts.length := by omega
    have e : (gFull f).starts.getD t.toNat 0 = (gAt f f.blocks.length).starts[t.toNat] := by
      unfold gFull; simp only [List.getD_eq_getElem?_getD, List.getElem?_eq_getElem ht, Option.getD_some]
    show (gFull f).starts.getD t.toNat 0 < _
    rw [e]
    exact hz _ (List.getElem_mem ht)
  | place n =>
    have h4 : 0 ≤ n ∧ n < (gAt f f.blocks.length).ops.length := h2
    show (n : Int) < ((gAt f f.blocks.length).ops.length : Int)
    omega
/-- An instruction of a function, as it stands in the end. -/
theorem func_at {f : DFunc} (h : OkG f) {i : Nat} {o : DOp} (ho : (func17 f).ops[i]? = some o) :
    ∃ x, (gFull f).ops[i]? = some x ∧ (o = x ∨ (x = jal ∧ ∃ z : Int, o = ⟨29, 0, 0, 0, 4 * (z - (i : Int))⟩ ∧ 0 ≤ z ∧ z < (gFull f).ops.length)) := by
  have hj := func_jset h
  have hl := (List.getElem?_eq_some_iff.1 ho).1
  rw [hj.1] at hl
  have hx : (gFull f).ops[i]? = some (gFull f).ops[i] := List.getElem?_eq_getElem hl
  obtain ⟨y, hy, hc⟩ := hj.2 i _ hx
  rw [hy] at ho
  cases ho
  exact ⟨_, hx, hc⟩
theorem func_to {f : DFunc} (h : OkG f) {i : Nat} {x : DOp} (hx : (gFull f).ops[i]? = some x) (hne : x.kind ≠ 29) : (func17 f).ops[i]? = some x := by
  obtain ⟨y, hy, hc⟩ := (func_jset h).2 i x hx
  rcases hc with rfl | ⟨rfl, _⟩
  · exact hy
  · exact absurd rfl hne
theorem frame_facts {f : DFunc} (h : OkG f) : 2 ≤ (func17 f).ops.length ∧ (func17 f).ops[0]? = some (addF (0 - frame17 f)) ∧
    ∀ (i : Nat) o, 1 ≤ i → (func17 f).ops[i]? = some o → (o.kind = 30 → (func17 f).ops[i - 1]? = some (addF (frame17 f))) ∧ (o.rd = 2 → ∃ p, (func17 f).ops[i + 1]? = some p ∧ p.kind = 30) := by
  obtain ⟨t, e, g, c, hl, _⟩ := gAt_cls h f.blocks.length (Nat.le_refl _)
  have e : (gFull f).ops = addF (0 - frame17 f) :: t := e
  refine ⟨?_, ?_, fun i o hi ho => ?_⟩
  · rw [(func_jset h).1, e, List.length_cons]; omega
  · exact func_to h (by rw [e]; rfl) (by simp [addF])
  · obtain ⟨x, hx, hc⟩ := func_at h ho
    obtain ⟨k, rfl⟩ : ∃ k, i = k + 1 := ⟨i - 1, by omega⟩
    have hx2 : t[k]? = some x := by rw [e] at hx; simpa using hx
    have hg := g k x hx2
    rcases hc with rfl | ⟨rfl, z, rfl, _⟩
    · refine ⟨fun e1 => ?_, fun e2 => ?_⟩
      · have := hg.1 e1
        refine func_to h ?_ (by simp [addF])
        rw [e, show k + 1 - 1 = (k - 1) + 1 by omega]
        simpa using this.2
      · have := hg.2 e2
        exact ⟨retO, func_to h (by rw [e]; simpa using this) (by simp [retO]), rfl⟩
    · exact ⟨fun e => absurd e (by simp), fun e => absurd e (by simp)⟩
theorem fixL_in : ∀ x ∈ fixL, okOp x ∧ ((x.kind = 19 ∨ x.kind = 21) → x.a = 2 → x.imm = 0) := by
  have : ∀ x ∈ fixL, (-1000 ≤ x.kind ∧ x.kind ≤ 1000 ∧ -1000 ≤ x.rd ∧ x.rd ≤ 1000 ∧ -1000 ≤ x.a ∧ x.a ≤ 1000 ∧ -1000 ≤ x.b ∧ x.b ≤ 1000 ∧ -1000 ≤ x.imm ∧ x.imm ≤ 1000) ∧ ((x.kind = 19 ∨ x.kind = 21) → x.a = 2 → x.imm = 0) := by decide
  exact fun x hx => ⟨by
    have := (this x hx).1
    exact ⟨inK (by omega), inK (by omega), inK (by omega), inK (by omega), inK (by omega)⟩, (this x hx).2⟩
/-- A load or save from the register 2 on is within the frame. -/
def InF (fr : Int) (x : DOp) : Prop := (x.kind = 19 ∨ x.kind = 21) → x.a = 2 → 0 ≤ x.imm ∧ x.imm + 8 ≤ fr ∧ x.imm % 8 = 0
theorem clsR_in {f : DFunc} (h : OkG f) {x : DOp} (hx : ClsR (many16 f) (frame17 f) x) : okOp x ∧ InF (frame17 f) x := by
  have hm := many16_38 h
  have hf := frame_in h
  rcases hx with hx | rfl | rfl
  · cases hx with
    | ld r s hr hs => exact ⟨okld (by omega) (by omega), fun _ _ => by unfold frame17; simp only [ld]; omega⟩
    | sv r s hr hs => exact ⟨oksv (by omega) (by omega), fun _ _ => by unfold frame17; simp only [sv]; omega⟩
    | fix _ h => exact ⟨(fixL_in _ h).1, fun e1 e2 => by rw [(fixL_in _ h).2 e1 e2]; omega⟩
    | reck k h h0 => exact ⟨okO (inK (by omega)) (inK (by omega)) (inK (by omega)) (inK (by omega)) (inK (by omega)), fun e1 _ => by simp at e1; omega⟩
    | dig a d ha hd => exact ⟨okO (inK (by omega)) (inK (by omega)) (inK (by omega)) (inK (by omega)) (inK (by omega)), fun e1 _ => by simp at e1⟩
  · exact ⟨okO (inK (by omega)) (inK (by omega)) (inK (by omega)) (inK (by omega)) (inK (by omega)), fun e1 _ => by simp [addF] at e1⟩
  · exact ⟨okO (inK (by omega)) (inK (by omega)) (inK (by omega)) (inK (by omega)) (inK (by omega)), fun e1 _ => by simp [retO] at e1⟩
theorem func_in {f : DFunc} (h : OkG f) {i : Nat} {o : DOp} (ho : (func17 f).ops[i]? = some o) : okOp o ∧ InF (frame17 f) o := by
  obtain ⟨t, e, g, c, hl, _⟩ := gAt_cls h f.blocks.length (Nat.le_refl _)
  have e : (gFull f).ops = addF (0 - frame17 f) :: t := e
  have hf := frame_in h
  have hlen := (gAt_len h f.blocks.length (Nat.le_refl _)).1
  have hlen : (gFull f).ops.length ≤ 8 + 437 * f.blocks.length := hlen
  have hbl := h.bl
  have hil := (List.getElem?_eq_some_iff.1 ho).1
  rw [(func_jset h).1] at hil
  obtain ⟨x, hx, hc⟩ := func_at h ho
  rcases hc with rfl | ⟨rfl, z, rfl, hz1, hz2⟩
  · rw [e] at hx
    rcases i with _ | k
    · simp at hx; subst hx
      exact ⟨okO (inK (by omega)) (inK (by omega)) (inK (by omega)) (inK (by omega)) (inK (by omega)), fun e1 _ => by simp [addF] at e1⟩
    · exact clsR_in h (c _ (List.mem_of_getElem? (by simpa using hx)))
  · exact ⟨okO (inK (by omega)) (inK (by omega)) (inK (by omega)) (inK (by omega)) (inK (by omega)), fun e1 _ => by simp at e1⟩
theorem func_ok {f : DFunc} (h : OkG f) : ∀ o ∈ (func17 f).ops, okOp o := fun o ho => by
  obtain ⟨i, hi⟩ := List.mem_iff_getElem?.1 ho
  exact (func_in h hi).1
end Go.Proofs.YtcmmhfknkldmcaaDoor

namespace Go.Proofs.YtcmmhfknkldmcaaDoor
open Go.RowKit
theorem okg_of5 {f : DFunc} {ro : Nat → Prop} {w : World} {cf : List Value} (h : func5 f = true) (hx : FuncC ro w cf f) : OkG f := by
  obtain ⟨s, _, hb, _, _, _⟩ := hx
  obtain ⟨ad, cap, _, _, _, _, he⟩ := hb
  have hblk : ∀ b ∈ f.blocks, ∃ cs, BlockC ro w cs b := fun b hb => by
    obtain ⟨i, hi⟩ := List.mem_iff_getElem?.1 hb
    obtain ⟨_, _, cs, _, _, _, _, q⟩ := he i b hi
    exact ⟨cs, q⟩
  have hins : ∀ b ∈ f.blocks, ∀ x ∈ b.ins, inU x.k ∧ x.name.size ≤ maxLen := fun b hb x hx => by
    obtain ⟨cs, s, ts, _, hi, _, _⟩ := hblk b hb
    obtain ⟨ad, cap, _, _, _, _, he⟩ := hi
    obtain ⟨i, hi⟩ := List.mem_iff_getElem?.1 hx
    obtain ⟨_, _, cs, _, _, _, _, sv, _, _, _, _, _, h1, h2⟩ := he i x hi
    exact ⟨h1, h2⟩
  have hall := func5_all h
  have hp : 0 ≤ f.params ∧ f.params ≤ 6 := by
    unfold func5 at h
    split at h
    · cases h
    · omega
  have hi5 : ∀ b ∈ f.blocks, ∀ x ∈ b.ins, ∃ n, inst5 x n = true := fun b hb x hx => by
    obtain ⟨i, hi⟩ := List.mem_iff_getElem?.1 hx
    exact ⟨_, allFrom_at b.ins b.params i x (block5_more (hall.2 b hb)).1 hi⟩
  refine ⟨hall.1, hp.1, hp.2, fun b hb => ok16_of5 h hb, fun b hb => (block5_all (hall.2 b hb)).2, fun b hb x hx => ?_, fun b hb => ?_, fun b hb => ?_⟩
  · obtain ⟨n, hn⟩ := hi5 b hb x hx
    have h5 := inst5_all hn
    exact ⟨(hins b hb x hx).1, h5.2.2.1, h5.2.2.2, h5.1, (hins b hb x hx).2⟩
  · have ht := term5_all (block5_more (hall.2 b hb)).2 h
    exact ⟨by omega, ht.1, ht.2.1⟩
  · have ht := term5_all (block5_more (hall.2 b hb)).2 h
    exact ⟨ht.2.2.2.2.2.2.2.1, ht.2.2.2.2.2.2.2.2⟩
/-- An instruction's fields, one by one. -/
theorem eqOp {P : Program} {t : TypeId} {f0 f1 f2 f3 f4 : Field} (hf : (P.fieldsOf t).toList = [f0, f1, f2, f3, f4]) (n0 : f0.name ≠ "_") (n1 : f1.name ≠ "_") (n2 : f2.name ≠ "_") (n3 : f3.name ≠ "_") (n4 : f4.name ≠ "_")
    (o0 : f0.offset = 0) (o1 : f1.offset = 1) (o2 : f2.offset = 2) (o3 : f3.offset = 3) (o4 : f4.offset = 4) (k0 : P.plainKey f0.type = true) (k1 : P.plainKey f1.type = true) (k2 : P.plainKey f2.type = true) (k3 : P.plainKey f3.type = true) (k4 : P.plainKey f4.type = true)
    (u0 : P.underlying f0.type = some (.int .i64)) (u1 : P.underlying f1.type = some (.int .i64)) (u2 : P.underlying f2.type = some (.int .i64)) (u3 : P.underlying f3.type = some (.int .i64)) (u4 : P.underlying f4.type = some (.int .i64)) (x y : DOp) (w : World) :
    (Op.eqFields 9999 (opL x).toArray (opL y).toArray (P.fieldsOf t).toList).run P w = .ok (decide (x = y)) w := by
  rw [hf]
  have p0 : ∀ a b c e f : Value, (part f0.type #[a, b, c, e, f] 0).run P w = .ok a w := fun _ _ _ _ _ => run_part_plain w k0 rfl
  have p1 : ∀ a b c e f : Value, (part f1.type #[a, b, c, e, f] 1).run P w = .ok b w := fun _ _ _ _ _ => run_part_plain w k1 rfl
  have p2 : ∀ a b c e f : Value, (part f2.type #[a, b, c, e, f] 2).run P w = .ok c w := fun _ _ _ _ _ => run_part_plain w k2 rfl
  have p3 : ∀ a b c e f : Value, (part f3.type #[a, b, c, e, f] 3).run P w = .ok e w := fun _ _ _ _ _ => run_part_plain w k3 rfl
  have p4 : ∀ a b c e f : Value, (part f4.type #[a, b, c, e, f] 4).run P w = .ok f w := fun _ _ _ _ _ => run_part_plain w k4 rfl
  have e0 := fun a b => run_equalIn_int (P := P) w 9998 _ .i64 _ a b u0
  have e1 := fun a b => run_equalIn_int (P := P) w 9998 _ .i64 _ a b u1
  have e2 := fun a b => run_equalIn_int (P := P) w 9998 _ .i64 _ a b u2
  have e3 := fun a b => run_equalIn_int (P := P) w 9998 _ .i64 _ a b u3
  have e4 := fun a b => run_equalIn_int (P := P) w 9998 _ .i64 _ a b u4
  obtain ⟨a, b, c, e, f⟩ := x
  obtain ⟨a', b', c', e', f'⟩ := y
  show (Op.eqFields 9999 #[.int .i64 a, .int .i64 b, .int .i64 c, .int .i64 e, .int .i64 f] #[.int .i64 a', .int .i64 b', .int .i64 c', .int .i64 e', .int .i64 f'] [f0, f1, f2, f3, f4]).run P w = _
  simp only [Op.eqFields, n0, n1, n2, n3, n4, o0, o1, o2, o3, o4, ne_eq, not_false_eq_true, if_true, Sem.run_bind, p0, p1, p2, p3, p4, Result.andThen_ok, e0, e1, e2, e3, e4, Sem.run_ite, Sem.run_pure, DOp.mk.injEq]
  by_cases h0 : a = a' <;> by_cases h1 : b = b' <;> by_cases h2 : c = c' <;> by_cases h3 : e = e' <;> by_cases h4 : f = f' <;> simp [h0, h1, h2, h3, h4]
def litX : List DOp := [⟨12, 5, 0, 0, 2⟩, ⟨17, 5, 5, 0, 11⟩, ⟨12, 5, 5, 0, 3⟩]
theorem lit_4099 : lit 5 4099 = litX := by
  unfold lit
  rw [litD_more (by decide), litD_last (by decide)]
  decide
end Go.Proofs.YtcmmhfknkldmcaaDoor
