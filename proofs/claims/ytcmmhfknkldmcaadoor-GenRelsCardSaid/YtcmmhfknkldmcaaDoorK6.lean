/-
  What hangs on places in a function that gen makes; where a branch stands. No condition beyond those that each theorem states.
-/
import Derived.Test.YtcmmhfknkldmcaaDoorK5
namespace Go.Proofs.YtcmmhfknkldmcaaDoor
open Go.RowKit
/-- What hangs on a place hangs on an instruction as its kind says, which is no jump of a block and has the number 0. -/
def RelAt (no : Nat) (l : List DOp) (r : DRel) : Prop := ∃ n : Nat, r.at_ = ((no + n : Nat) : Int) ∧ ∃ o, l[n]? = some o ∧ o ≠ jal ∧ o.imm = 0 ∧ ((r.kind = 1 ∧ o.kind = 29) ∨ (r.kind = 2 ∧ o.kind = 27) ∨ (r.kind = 3 ∧ (o.kind = 19 ∨ o.kind = 21)))
structure RS (no : Nat) (l : List DOp) (rs : List DRel) : Prop where
  at_ : ∀ r ∈ rs, RelAt no l r
  ord : rs.Pairwise fun a b => a.at_ < b.at_
theorem RelAt.left {no : Nat} {a b : List DOp} {r : DRel} (h : RelAt no a r) : RelAt no (a ++ b) r := by
  obtain ⟨n, e, o, ho, h⟩ := h
  exact ⟨n, e, o, by rw [List.getElem?_append_left (List.getElem?_eq_some_iff.1 ho).1]; exact ho, h⟩
theorem RelAt.right {no : Nat} {a b : List DOp} {r : DRel} (h : RelAt (no + a.length) b r) : RelAt no (a ++ b) r := by
  obtain ⟨n, e, o, ho, h⟩ := h
  exact ⟨a.length + n, by rw [e, Nat.add_assoc], o, by rw [List.getElem?_append_right (by omega), Nat.add_sub_cancel_left]; exact ho, h⟩
theorem RelAt.lo {no : Nat} {l : List DOp} {r : DRel} (h : RelAt no l r) : (no : Int) ≤ r.at_ ∧ r.at_ < ((no + l.length : Nat) : Int) := by
  obtain ⟨n, e, o, ho, _⟩ := h
  have := (List.getElem?_eq_some_iff.1 ho).1
  omega
theorem RS.nil (no : Nat) (l : List DOp) : RS no l [] := ⟨fun _ h => by simp at h, List.Pairwise.nil⟩
theorem RS.app {no : Nat} {a b : List DOp} {ra rb : List DRel} (ha : RS no a ra) (hb : RS (no + a.length) b rb) : RS no (a ++ b) (ra ++ rb) := by
  refine ⟨fun r hr => ?_, List.pairwise_append.2 ⟨ha.ord, hb.ord, fun x hx y hy => ?_⟩⟩
  · rcases List.mem_append.1 hr with hr | hr
    · exact (ha.at_ r hr).left
    · exact (hb.at_ r hr).right
  · have h1 := (ha.at_ x hx).lo
    have h2 := (hb.at_ y hy).lo
    omega
theorem RS.ext {no : Nat} {a b : List DOp} {ra : List DRel} (ha : RS no a ra) : RS no (a ++ b) ra := by
  have h := ha.app (RS.nil (no + a.length) b)
  rwa [List.append_nil] at h
/-- The names of what hangs, one for each instruction that has one. -/
def namesR (rs : List DRel) : List ByteArray := (rs.filter fun r => decide (r.kind ≠ 2)).map (·.name)
theorem namesR_app (a b : List DRel) : namesR (a ++ b) = namesR a ++ namesR b := by unfold namesR; rw [List.filter_append, List.map_append]
theorem give_rels {no : Nat} {slots : List Int} {x : DInst} : RS no (give17 no slots x).1 (give17 no slots x).2.1 ∧ namesR (give17 no slots x).2.1 = (if x.op = 12 ∨ x.op = 13 ∨ x.op = 14 then [x.name] else []) ∧ (∀ r ∈ (give17 no slots x).2.1, r.name = x.name) ∧ ∀ o ∈ (give17 no slots x).1, o.kind ≠ 24 := by
  unfold give17
  by_cases h1 : x.op = 1
  · rw [if_pos h1, if_neg (by omega)]
    refine ⟨RS.nil _ _, rfl, by simp, fun o ho => ?_⟩
    have := lit_cls (m := 0) x.k.toNat o ho
    intro e
    cases this with
    | ld r s hr hs => simp [ld] at e
    | sv r s hr hs => simp [sv] at e
    | fix _ h =>
      unfold lit litE at ho
      rcases List.mem_cons.1 ho with rfl | ho
      · simp at e
      · obtain ⟨d, hd, ho⟩ := List.mem_flatMap.1 ho
        unfold litS at ho
        rcases List.mem_cons.1 ho with rfl | ho
        · simp at e
        · split at ho
          · simp at ho
          · rw [List.mem_singleton.1 ho] at e; simp at e
    | reck k h h0 => simp at e; omega
    | dig a d ha hd => simp at e
  rw [if_neg h1]
  by_cases h2 : x.op = 12
  · rw [if_pos h2, if_pos (by omega)]
    refine ⟨⟨fun r hr => ?_, ?_⟩, by simp [namesR], by simp, by simp⟩
    · simp only [List.mem_cons, List.not_mem_nil, or_false] at hr
      rcases hr with rfl | rfl
      · exact ⟨0, rfl, _, rfl, by decide, rfl, .inr (.inl ⟨rfl, rfl⟩)⟩
      · exact ⟨1, rfl, _, rfl, by decide, rfl, .inr (.inr ⟨rfl, .inl rfl⟩)⟩
    · simp; omega
  rw [if_neg h2]
  by_cases h3 : x.op = 13
  · rw [if_pos h3, if_pos (by omega)]
    refine ⟨⟨fun r hr => ?_, ?_⟩, by simp [namesR], by simp, by simp [ld]⟩
    · simp only [List.mem_cons, List.not_mem_nil, or_false] at hr
      rcases hr with rfl | rfl
      · exact ⟨1, rfl, _, rfl, by decide, rfl, .inr (.inl ⟨rfl, rfl⟩)⟩
      · exact ⟨2, rfl, _, rfl, by decide, rfl, .inr (.inr ⟨rfl, .inr rfl⟩)⟩
    · simp; omega
  rw [if_neg h3]
  by_cases h4 : x.op = 14
  · rw [if_pos h4, if_pos (by omega)]
    refine ⟨⟨fun r hr => ?_, ?_⟩, by simp [namesR], by simp, fun o ho => ?_⟩
    · simp only [List.mem_cons, List.not_mem_nil, or_false] at hr
      subst hr
      refine ⟨x.args.length, rfl, ⟨29, 1, 0, 0, 0⟩, ?_, by decide, rfl, .inl ⟨rfl, rfl⟩⟩
      rw [List.getElem?_append_right (by rw [cargs_len]; omega), cargs_len, Nat.sub_self]; rfl
    · simp
    · rcases List.mem_append.1 ho with ho | ho
      · unfold cargs at ho
        obtain ⟨⟨v, k⟩, hp, rfl⟩ := List.mem_map.1 ho
        simp [ld]
      · rw [List.mem_singleton.1 ho]; simp
  rw [if_neg h4]
  by_cases h5 : x.op = 15
  · rw [if_pos h5, if_neg (by omega)]
    exact ⟨RS.nil _ _, rfl, by simp, by simp⟩
  rw [if_neg h5]
  by_cases h6 : x.op = 16
  · rw [if_pos h6, if_neg (by omega)]
    exact ⟨RS.nil _ _, rfl, by simp, by simp [ld]⟩
  rw [if_neg h6, if_neg (show ¬ (x.op = 12 ∨ x.op = 13 ∨ x.op = 14) by omega)]
  refine ⟨RS.nil _ _, rfl, by simp, fun o ho => ?_⟩
  rcases List.mem_append.1 ho with ho | ho
  · simp only [List.mem_cons, List.not_mem_nil, or_false] at ho
    rcases ho with rfl | rfl | rfl
    · simp [ld]
    · simp [ld]
    · have := reck_in (op := x.op); simp; omega
  · split at ho
    · rw [List.mem_singleton.1 ho]; simp
    · simp at ho
/-- A branch stands at least two ahead of the end. -/
def B24 (l : List DOp) : Prop := ∀ (i : Nat) o, l[i]? = some o → o.kind = 24 → o.imm = 8 ∧ i + 2 < l.length
theorem B24.none {l : List DOp} (h : ∀ o ∈ l, o.kind ≠ 24) : B24 l := fun _ o ho e => absurd e (h o (List.mem_of_getElem? ho))
theorem B24.app {a b : List DOp} (ha : B24 a) (hb : B24 b) : B24 (a ++ b) := fun i o ho e => by
  rw [List.length_append]
  by_cases hi : i < a.length
  · rw [List.getElem?_append_left hi] at ho
    have := ha i o ho e; exact ⟨this.1, by omega⟩
  · rw [List.getElem?_append_right (by omega)] at ho
    have := hb _ o ho e; exact ⟨this.1, by omega⟩
theorem hand_24 {slots args : List Int} {m : Int} : ∀ o ∈ hand17 slots m args ++ [jal], o.kind ≠ 24 := fun o ho => by
  rcases List.mem_append.1 ho with ho | ho
  · unfold hand17 at ho
    rcases List.mem_append.1 ho with ho | ho
    · unfold handA at ho
      obtain ⟨⟨v, k⟩, hp, ho⟩ := List.mem_flatMap.1 ho
      simp only [List.mem_cons, List.not_mem_nil, or_false] at ho
      rcases ho with rfl | rfl <;> simp [ld, sv]
    · unfold handB at ho
      obtain ⟨k, hp, ho⟩ := List.mem_flatMap.1 ho
      simp only [List.mem_cons, List.not_mem_nil, or_false] at ho
      rcases ho with rfl | rfl <;> simp [ld, sv]
  · rw [List.mem_singleton.1 ho]; decide
theorem end_24 {no : Nat} {slots : List Int} {m fr : Int} {t : DTerm} : B24 (end17 no slots m fr t).1 := by
  unfold end17
  by_cases h1 : t.kind = 3
  · rw [if_pos h1]; exact B24.none (by simp [ld])
  rw [if_neg h1]
  by_cases h2 : t.kind = 2
  · rw [if_pos h2]
    refine B24.app (fun i o ho e => ?_) (B24.none hand_24)
    by_cases hi : i < 3
    · rw [List.getElem?_append_left (by simpa using hi)] at ho
      match i, ho with
      | 0, ho => simp at ho; subst ho; simp [ld] at e
      | 1, ho => simp at ho; subst ho; exact ⟨rfl, by simp only [List.length_append, List.length_cons, List.length_nil]; omega⟩
      | 2, ho => simp at ho; subst ho; simp [jal] at e
      | n + 3, ho => omega
    · rw [List.getElem?_append_right (by simp; omega)] at ho
      exact absurd e (hand_24 o (List.mem_of_getElem? ho))
  · rw [if_neg h2]; exact B24.none hand_24
end Go.Proofs.YtcmmhfknkldmcaaDoor
