/-
  The instructions of a function as they stand in the end: what the frame's claims say of them. No condition beyond those that each theorem states.
-/
import Derived.Test.YtcmmhfknkldmcaaDoorK3
namespace Go.Proofs.YtcmmhfknkldmcaaDoor
open Go.RowKit

theorem end_jal {no : Nat} {slots : List Int} {mn fr : Int} {t : DTerm} : ∀ j ∈ (end17 no slots mn fr t).2, no ≤ j.1 ∧ (end17 no slots mn fr t).1[j.1 - no]? = some jal := by
  have ha := hand17_len slots mn t.args
  have hb := hand17_len slots mn t.elses
  have snoc : ∀ (l : List DOp) (k : Nat), k = l.length → (l ++ [jal])[k]? = some jal := fun l k hk => by subst hk; simp
  unfold end17
  by_cases h3 : t.kind = 3
  · rw [if_pos h3]; intro j hj; simp at hj
  · rw [if_neg h3]
    by_cases h4 : t.kind = 2
    · rw [if_pos h4]
      intro j hj
      simp only [List.mem_cons, List.not_mem_nil, or_false] at hj
      rcases hj with rfl | rfl | rfl
      · refine ⟨by simp only; omega, ?_⟩
        simp only
        rw [show no + 1 + 1 - no = 2 by omega]; rfl
      · refine ⟨by simp only; omega, ?_⟩
        simp only
        rw [List.getElem?_append_left (by simp; omega), List.getElem?_append_right (by simp; omega)]
        exact snoc _ _ (by simp; omega)
      · refine ⟨by simp only; omega, ?_⟩
        simp only
        rw [List.getElem?_append_right (by simp; omega)]
        exact snoc _ _ (by simp; omega)
    · rw [if_neg h4]
      intro j hj
      simp only [List.mem_cons, List.not_mem_nil, or_false] at hj
      subst hj
      refine ⟨by simp only; omega, ?_⟩
      simp only
      exact snoc _ _ (by omega)
theorem iAt_pre {f : DFunc} {b : DBlock} {k : Nat} : ∃ t, (iAt f b k b.ins.length).1 = (gAt f k).ops ++ t := by
  unfold iAt
  generalize b.ins.length = i
  suffices ∀ (l : List DInst) (s : List DOp × List DRel), ∃ t, (ins17 (give16 b) b.params s l).1 = s.1 ++ t from this _ _
  intro l s
  unfold ins17
  generalize l.zipIdx = z
  induction z generalizing s with
  | nil => exact ⟨[], by simp⟩
  | cons q z ih =>
    rw [List.foldl_cons]
    obtain ⟨t, e⟩ := ih (insStep (give16 b) b.params s q.2 q.1)
    rw [e]
    unfold insStep
    exact ⟨_, by simp only [List.append_assoc]; rfl⟩
theorem gAt_jal {f : DFunc} (k : Nat) (hk : k ≤ f.blocks.length) : ∀ j ∈ (gAt f k).jumps, (gAt f k).ops[j.1]? = some jal := by
  induction k with
  | zero => intro j hj; simp [gAt, g0] at hj
  | succ k ih =>
    have hb : f.blocks[k]? = some f.blocks[k] := List.getElem?_eq_getElem (by omega)
    rw [blkAt hb]
    simp only
    obtain ⟨t, e⟩ := iAt_pre (f := f) (b := f.blocks[k]) (k := k)
    intro j hj
    rcases List.mem_append.1 hj with hj | hj
    · have h1 := ih (by omega) j hj
      have h2 := (List.getElem?_eq_some_iff.1 h1).1
      rw [e, List.append_assoc, List.getElem?_append_left h2]; exact h1
    · obtain ⟨h1, h2⟩ := end_jal j hj
      rw [List.getElem?_append_right h1]; exact h2
/-- One list is the other but for what its jumps lead to. -/
def JSet (N : Nat) (l l' : List DOp) : Prop := l'.length = l.length ∧ ∀ (i : Nat) x, l[i]? = some x → ∃ y, l'[i]? = some y ∧ (y = x ∨ (x = jal ∧ ∃ z : Int, y = ⟨29, 0, 0, 0, 4 * (z - (i : Int))⟩ ∧ 0 ≤ z ∧ z < N))
theorem jset {N : Nat} {starts : List Int} {l0 : List DOp} : ∀ (js : List (Nat × Tgt)) (l : List DOp), JSet N l0 l → (∀ j ∈ js, l0[j.1]? = some jal ∧ 0 ≤ tgtOf starts j.2 ∧ tgtOf starts j.2 < N) → JSet N l0 (jumpAll starts l js) := by
  intro js
  induction js with
  | nil => intro l h _; exact h
  | cons j js ih =>
    intro l h hj
    unfold jumpAll
    rw [List.foldl_cons]
    refine ih _ ?_ fun q hq => hj q (List.mem_cons_of_mem _ hq)
    obtain ⟨h1, h2, h3⟩ := hj j List.mem_cons_self
    unfold setJ
    refine ⟨by rw [setImm_len]; exact h.1, fun i x hx => ?_⟩
    obtain ⟨y, hy, hc⟩ := h.2 i x hx
    unfold setImm
    rw [List.getElem?_modify, hy]
    by_cases e : j.1 = i
    · subst e
      rw [h1] at hx
      cases hx
      refine ⟨⟨29, 0, 0, 0, 4 * (tgtOf starts j.2 - (j.1 : Int))⟩, ?_, .inr ⟨rfl, tgtOf starts j.2, rfl, h2, h3⟩⟩
      rcases hc with rfl | ⟨_, z, rfl, _⟩ <;> simp [jal]
    · exact ⟨y, by simp [e], hc⟩
theorem func_jset {f : DFunc} (h : OkG f) : JSet (gFull f).ops.length (gFull f).ops (func17 f).ops := by
  have hle := Nat.le_refl f.blocks.length
  refine jset _ _ ⟨rfl, fun i x hx => ⟨x, hx, .inl rfl⟩⟩ fun j hj => ⟨gAt_jal _ hle j hj, (tgt_in h hj).1, ?_⟩
  have h1 := (gAt_jumps h _ hle).1 j hj
  obtain ⟨_, _, _, _, _, hz⟩ := gAt_cls h _ hle
  have h2 := h1.2.2
  obtain ⟨jn, jt⟩ := j
  cases jt with
  | block t =>
    have h4 : 0 ≤ t ∧ t < (f.blocks.length : Int) := h2
    have hl := (gAt_len h f.blocks.length hle).2.2.2
    have ht : t.toNat < (gAt f f.blocks.length).starts.length := by omega
    have e : (gFull f).starts.getD t.toNat 0 = (gAt f f.blocks.length).starts[t.toNat] := by
      unfold gFull; simp only [List.getD_eq_getElem?_getD, List.getElem?_eq_getElem ht, Option.getD_some]
    show (gFull f).starts.getD t.toNat 0 < _
    rw [e]
    exact hz _ (List.getElem_mem ht)
  | place n =>
    have h4 : 0 ≤ n ∧ n < (gAt f f.blocks.length).ops.length := h2
    show (n : Int) < ((gAt f f.blocks.length).ops.length : Int)
    omega
/-- An instruction of a function, as it stands in the end. -/
theorem func_at {f : DFunc} (h : OkG f) {i : Nat} {o : DOp} (ho : (func17 f).ops[i]? = some o) :
    ∃ x, (gFull f).ops[i]? = some x ∧ (o = x ∨ (x = jal ∧ ∃ z : Int, o = ⟨29, 0, 0, 0, 4 * (z - (i : Int))⟩ ∧ 0 ≤ z ∧ z < (gFull f).ops.length)) := by
  have hj := func_jset h
  have hl := (List.getElem?_eq_some_iff.1 ho).1
  rw [hj.1] at hl
  have hx : (gFull f).ops[i]? = some (gFull f).ops[i] := List.getElem?_eq_getElem hl
  obtain ⟨y, hy, hc⟩ := hj.2 i _ hx
  rw [hy] at ho
  cases ho
  exact ⟨_, hx, hc⟩
theorem fixL_in : ∀ x ∈ fixL, okOp x ∧ ((x.kind = 19 ∨ x.kind = 21) → x.a = 2 → x.imm = 0) := by
  have : ∀ x ∈ fixL, (-1000 ≤ x.kind ∧ x.kind ≤ 1000 ∧ -1000 ≤ x.rd ∧ x.rd ≤ 1000 ∧ -1000 ≤ x.a ∧ x.a ≤ 1000 ∧ -1000 ≤ x.b ∧ x.b ≤ 1000 ∧ -1000 ≤ x.imm ∧ x.imm ≤ 1000) ∧ ((x.kind = 19 ∨ x.kind = 21) → x.a = 2 → x.imm = 0) := by decide
  exact fun x hx => ⟨by
    have := (this x hx).1
    exact ⟨inK (by omega), inK (by omega), inK (by omega), inK (by omega), inK (by omega)⟩, (this x hx).2⟩
/-- A load or save from the register 2 on is within the frame. -/
def InF (fr : Int) (x : DOp) : Prop := (x.kind = 19 ∨ x.kind = 21) → x.a = 2 → 0 ≤ x.imm ∧ x.imm + 8 ≤ fr ∧ x.imm % 8 = 0
theorem clsR_in {f : DFunc} (h : OkG f) {x : DOp} (hx : ClsR (many16 f) (frame17 f) x) : okOp x ∧ InF (frame17 f) x := by
  have hm := many16_38 h
  have hf := frame_in h
  rcases hx with hx | rfl | rfl
  · cases hx with
    | ld r s hr hs => exact ⟨okld (by omega) (by omega), fun _ _ => by unfold frame17; simp only [ld]; omega⟩
    | sv r s hr hs => exact ⟨oksv (by omega) (by omega), fun _ _ => by unfold frame17; simp only [sv]; omega⟩
    | fix _ h => exact ⟨(fixL_in _ h).1, fun e1 e2 => by rw [(fixL_in _ h).2 e1 e2]; omega⟩
    | reck k h h0 => exact ⟨okO (inK (by omega)) (inK (by omega)) (inK (by omega)) (inK (by omega)) (inK (by omega)), fun e1 _ => by simp at e1; omega⟩
    | dig a d ha hd => exact ⟨okO (inK (by omega)) (inK (by omega)) (inK (by omega)) (inK (by omega)) (inK (by omega)), fun e1 _ => by simp at e1⟩
  · exact ⟨okO (inK (by omega)) (inK (by omega)) (inK (by omega)) (inK (by omega)) (inK (by omega)), fun e1 _ => by simp [addF] at e1⟩
  · exact ⟨okO (inK (by omega)) (inK (by omega)) (inK (by omega)) (inK (by omega)) (inK (by omega)), fun e1 _ => by simp [retO] at e1⟩
theorem func_in {f : DFunc} (h : OkG f) {i : Nat} {o : DOp} (ho : (func17 f).ops[i]? = some o) : okOp o ∧ InF (frame17 f) o := by
  obtain ⟨t, e, g, c, hl, _⟩ := gAt_cls h f.blocks.length (Nat.le_refl _)
  have e : (gFull f).ops = addF (0 - frame17 f) :: t := e
  have hf := frame_in h
  have hlen := (gAt_len h f.blocks.length (Nat.le_refl _)).1
  have hlen : (gFull f).ops.length ≤ 8 + 437 * f.blocks.length := hlen
  have hbl := h.bl
  have hil := (List.getElem?_eq_some_iff.1 ho).1
  rw [(func_jset h).1] at hil
  obtain ⟨x, hx, hc⟩ := func_at h ho
  rcases hc with rfl | ⟨rfl, z, rfl, hz1, hz2⟩
  · rw [e] at hx
    rcases i with _ | k
    · simp at hx; subst hx
      exact ⟨okO (inK (by omega)) (inK (by omega)) (inK (by omega)) (inK (by omega)) (inK (by omega)), fun e1 _ => by simp [addF] at e1⟩
    · exact clsR_in h (c _ (List.mem_of_getElem? (by simpa using hx)))
  · exact ⟨okO (inK (by omega)) (inK (by omega)) (inK (by omega)) (inK (by omega)) (inK (by omega)), fun e1 _ => by simp at e1⟩
theorem func_ok {f : DFunc} (h : OkG f) : ∀ o ∈ (func17 f).ops, okOp o := fun o ho => by
  obtain ⟨i, hi⟩ := List.mem_iff_getElem?.1 ho
  exact (func_in h hi).1
end Go.Proofs.YtcmmhfknkldmcaaDoor
