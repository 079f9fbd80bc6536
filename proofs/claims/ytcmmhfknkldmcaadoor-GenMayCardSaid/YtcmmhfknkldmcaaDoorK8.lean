/-
  Each instruction of a function may be. No condition beyond those that each theorem states.
-/
import Derived.Test.YtcmmhfknkldmcaaDoorK7
namespace Go.Proofs.YtcmmhfknkldmcaaDoor
open Go.RowKit
def form17 (k : Int) : Int := if 1 ≤ k ∧ k ≤ 11 then 82 else if k = 17 ∨ k = 18 then 72 else if (12 ≤ k ∧ k ≤ 20) ∨ k = 30 then 73 else if k = 21 ∨ k = 22 then 83 else if 23 ≤ k ∧ k ≤ 26 then 66 else if k = 27 ∨ k = 28 then 85 else if k = 29 then 74 else 69
structure MayOk (x : DOp) : Prop where
  k : 1 ≤ x.kind ∧ x.kind ≤ 31
  r : (0 ≤ x.rd ∧ x.rd ≤ 31) ∧ (0 ≤ x.a ∧ x.a ≤ 31) ∧ (0 ≤ x.b ∧ x.b ≤ 31)
  R : form17 x.kind = 82 → x.imm = 0
  I : form17 x.kind = 73 → x.b = 0 ∧ -2048 ≤ x.imm ∧ x.imm ≤ 2047
  H : form17 x.kind = 72 → x.b = 0 ∧ 0 ≤ x.imm ∧ x.imm ≤ 63
  S : form17 x.kind = 83 → x.rd = 0 ∧ -2048 ≤ x.imm ∧ x.imm ≤ 2047
  B : form17 x.kind = 66 → x.rd = 0 ∧ x.imm = 8
  U : form17 x.kind = 85 → x.a = 0 ∧ x.b = 0 ∧ x.imm = 0
  J : form17 x.kind = 74 → x.a = 0 ∧ x.b = 0 ∧ -1048576 ≤ x.imm ∧ x.imm ≤ 1048574 ∧ x.imm.tmod 2 = 0
  E : ¬ form17 x.kind = 82 → ¬ form17 x.kind = 73 → ¬ form17 x.kind = 72 → ¬ form17 x.kind = 83 → ¬ form17 x.kind = 66 → ¬ form17 x.kind = 85 → ¬ form17 x.kind = 74 → x.rd = 0 ∧ x.a = 0 ∧ x.b = 0 ∧ x.imm = 0
theorem form_I {k : Int} (h : k = 12 ∨ k = 19 ∨ k = 30 ∨ k = 13) : form17 k = 73 := by
  rcases h with rfl | rfl | rfl | rfl <;> rfl
theorem mayI {x : DOp} (hk : x.kind = 12 ∨ x.kind = 19 ∨ x.kind = 30 ∨ x.kind = 13) (hr : (0 ≤ x.rd ∧ x.rd ≤ 31) ∧ (0 ≤ x.a ∧ x.a ≤ 31)) (hb : x.b = 0) (hi : -2048 ≤ x.imm ∧ x.imm ≤ 2047) : MayOk x := by
  have hf := form_I hk
  refine ⟨by omega, by omega, ?_, fun _ => ⟨hb, hi⟩, ?_, ?_, ?_, ?_, ?_, ?_⟩ <;> rw [hf] <;> intro h <;> omega
theorem mayS {x : DOp} (hk : x.kind = 21) (hr : (0 ≤ x.a ∧ x.a ≤ 31) ∧ (0 ≤ x.b ∧ x.b ≤ 31)) (hd : x.rd = 0) (hi : -2048 ≤ x.imm ∧ x.imm ≤ 2047) : MayOk x := by
  have hf : form17 x.kind = 83 := by rw [hk]; rfl
  refine ⟨by omega, by omega, ?_, ?_, ?_, fun _ => ⟨hd, hi⟩, ?_, ?_, ?_, ?_⟩ <;> rw [hf] <;> intro h <;> omega
theorem mayJ {x : DOp} (hk : x.kind = 29) (hr : 0 ≤ x.rd ∧ x.rd ≤ 31) (ha : x.a = 0) (hb : x.b = 0) (hi : -1048576 ≤ x.imm ∧ x.imm ≤ 1048574) (h2 : x.imm.tmod 2 = 0) : MayOk x := by
  have hf : form17 x.kind = 74 := by rw [hk]; rfl
  refine ⟨by omega, by omega, ?_, ?_, ?_, ?_, ?_, ?_, fun _ => ⟨ha, hb, hi.1, hi.2, h2⟩, ?_⟩ <;> rw [hf] <;> intro h <;> omega
theorem mayR {x : DOp} (hk : 1 ≤ x.kind ∧ x.kind ≤ 11) (hr : (0 ≤ x.rd ∧ x.rd ≤ 31) ∧ (0 ≤ x.a ∧ x.a ≤ 31) ∧ (0 ≤ x.b ∧ x.b ≤ 31)) (hi : x.imm = 0) : MayOk x := by
  have hf : form17 x.kind = 82 := by unfold form17; rw [if_pos hk]
  refine ⟨by omega, hr, fun _ => hi, ?_, ?_, ?_, ?_, ?_, ?_, ?_⟩ <;> rw [hf] <;> intro h <;> omega
theorem may_fix : ∀ x ∈ fixL, MayOk x := fun x hx => by
  simp only [fixL, List.mem_cons, List.not_mem_nil, or_false] at hx
  rcases hx with rfl | rfl | rfl | rfl | rfl | rfl | rfl | rfl | rfl | rfl | rfl | rfl | rfl
  · exact ⟨by decide, by decide, by decide, by decide, by decide, by decide, by decide, by decide, by decide, by decide⟩
  · exact mayI (by decide) (by decide) rfl (by decide)
  · exact mayS rfl (by decide) rfl (by decide)
  · exact mayJ rfl (by decide) rfl rfl (by decide) rfl
  · exact mayI (by decide) (by decide) rfl (by decide)
  · exact ⟨by decide, by decide, by decide, by decide, by decide, by decide, by decide, by decide, by decide, by decide⟩
  · exact mayI (by decide) (by decide) rfl (by decide)
  · exact mayI (by decide) (by decide) rfl (by decide)
  · exact ⟨by decide, by decide, by decide, by decide, by decide, by decide, by decide, by decide, by decide, by decide⟩
  · exact mayJ rfl (by decide) rfl rfl (by decide) rfl
  · exact ⟨by decide, by decide, by decide, by decide, by decide, by decide, by decide, by decide, by decide, by decide⟩
  · exact mayI (by decide) (by decide) rfl (by decide)
  · exact mayS rfl (by decide) rfl (by decide)
theorem may_clsR {f : DFunc} (h : OkG f) {x : DOp} (hx : ClsR (many16 f) (frame17 f) x) : MayOk x := by
  have hm := many16_38 h
  have hf := frame_in h
  rcases hx with hx | rfl | rfl
  · cases hx with
    | ld r s hr hs => exact mayI (.inr (.inl rfl)) (by simp only [ld]; omega) rfl (by simp only [ld]; omega)
    | sv r s hr hs => exact mayS rfl (by simp only [sv]; omega) rfl (by simp only [sv]; omega)
    | fix _ h => exact may_fix _ h
    | reck k h h0 => exact mayR (by simp only; omega) (by simp only; omega) rfl
    | dig a d ha hd => exact mayI (.inl rfl) (by simp only; omega) rfl (by simp only; omega)
  · exact mayI (.inl rfl) (by simp only [addF]; omega) rfl (by simp only [addF]; omega)
  · exact mayI (.inr (.inr (.inl rfl))) (by decide) rfl (by decide)
theorem func_may {f : DFunc} (h : OkG f) {i : Nat} {o : DOp} (ho : (func17 f).ops[i]? = some o) : MayOk o := by
  obtain ⟨t, e, g, c, hl, _⟩ := gAt_cls h f.blocks.length (Nat.le_refl _)
  have e : (gFull f).ops = addF (0 - frame17 f) :: t := e
  have hf := frame_in h
  have hlen : (gFull f).ops.length ≤ 8 + 437 * f.blocks.length := (gAt_len h f.blocks.length (Nat.le_refl _)).1
  have hbl := h.bl
  have hil := (List.getElem?_eq_some_iff.1 ho).1
  rw [(func_jset h).1] at hil
  obtain ⟨x, hx, hc⟩ := func_at h ho
  rcases hc with rfl | ⟨rfl, z, rfl, hz1, hz2⟩
  · rw [e] at hx
    rcases i with _ | k
    · simp at hx; subst hx
      exact mayI (.inl rfl) (by simp only [addF]; omega) rfl (by simp only [addF]; omega)
    · exact may_clsR h (c _ (List.mem_of_getElem? (by simpa using hx)))
  · refine mayJ rfl (by simp only; omega) rfl rfl (by simp only; omega) ?_
    simp only
    exact Int.tmod_eq_zero_of_dvd ⟨2 * (z - (i : Int)), by omega⟩
end Go.Proofs.YtcmmhfknkldmcaaDoor
