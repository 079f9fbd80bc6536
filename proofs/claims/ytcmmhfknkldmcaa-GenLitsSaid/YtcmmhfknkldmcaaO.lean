/-
  How the arguments of these laws open. No condition beyond those that each theorem states.
-/
import Derived.Test.YtcmmhfknkldmcaaA10
namespace Go.Proofs.Ytcmmhfknkldmcaa
open Go.ChangeShapes Go.WideShapes Go.ChangeAt Go.RowKit
theorem co_80 : Try.prog.cellsOf 80 = 6 := by kernel_rfl
theorem co_3 : Try.prog.cellsOf 3 = 1 := by kernel_rfl
theorem co_22 : Try.prog.cellsOf 22 = 1 := by kernel_rfl
theorem co_9 : Try.prog.cellsOf 9 = 1 := by kernel_rfl
theorem co_61 : Try.prog.cellsOf 61 = 1 := by kernel_rfl
theorem bo_3 : Try.prog.bytesOf 3 = 8 := by kernel_rfl
theorem co_63 : Try.prog.cellsOf 63 = 6 := by kernel_rfl
theorem co_65 : Try.prog.cellsOf 65 = 8 := by kernel_rfl
theorem co_60 : Try.prog.cellsOf 60 = 1 := by kernel_rfl
theorem bo_80 : Try.prog.bytesOf 80 = 72 := by kernel_rfl
theorem co_39 : Try.prog.cellsOf 39 = 4 := by kernel_rfl
theorem co_37 : Try.prog.cellsOf 37 = 1 := by kernel_rfl
theorem bo_65 : Try.prog.bytesOf 65 = 112 := by kernel_rfl
theorem opens_inst {H : Type} {enc : TypeId × Value → H} {w : World} {sp : Nat → Bool} : Opens enc Try.prog w sp 80 (fun cs y => InstC (roW w) w cs y ∧ okInst y) := fun fuel cs x h hz => by
  obtain ⟨hl, hf⟩ := open_fields Try.underlying80 h hz
  rw [co_80] at hl
  obtain ⟨c0, c1, c2, c3, c4, c5, rfl⟩ : ∃ c0 c1 c2 c3 c4 c5, cs = [c0, c1, c2, c3, c4, c5] := by
    match cs, hl with
    | [c0, c1, c2, c3, c4, c5], _ => exact ⟨_, _, _, _, _, _, rfl⟩
  obtain ⟨x0, h0⟩ := hf 0 _ 3 0 1 _ _ rfl rfl rfl co_3 (opens_i64 Try.underlying3)
  simp only [List.drop_succ_cons, List.drop_zero, List.take_succ_cons, List.take_zero, List.drop, List.take] at h0
  obtain ⟨x1, h1⟩ := hf 1 _ 3 1 1 _ _ rfl rfl rfl co_3 (opens_i64 Try.underlying3)
  simp only [List.drop_succ_cons, List.drop_zero, List.take_succ_cons, List.take_zero, List.drop, List.take] at h1
  obtain ⟨x2, h2⟩ := hf 2 _ 3 2 1 _ _ rfl rfl rfl co_3 (opens_i64 Try.underlying3)
  simp only [List.drop_succ_cons, List.drop_zero, List.take_succ_cons, List.take_zero, List.drop, List.take] at h2
  obtain ⟨x3, h3⟩ := hf 3 _ 22 3 1 _ _ rfl rfl rfl co_22 (opens_u64 Try.underlying22)
  simp only [List.drop_succ_cons, List.drop_zero, List.take_succ_cons, List.take_zero, List.drop, List.take] at h3
  obtain ⟨x4, h4⟩ := hf 4 _ 9 4 1 _ _ rfl rfl rfl co_9 (opens_str Try.underlying9)
  simp only [List.drop_succ_cons, List.drop_zero, List.take_succ_cons, List.take_zero, List.drop, List.take] at h4
  obtain ⟨x5, h5⟩ := hf 5 _ 61 5 1 _ _ rfl rfl rfl co_61 (opens_sl (B := fun _ => True) Try.underlying61 co_3 bo_3 (by decide) (((opens_i64 Try.underlying3)).mono fun _ _ q => ⟨q, trivial⟩))
  simp only [List.drop_succ_cons, List.drop_zero, List.take_succ_cons, List.take_zero, List.drop, List.take] at h5
  obtain ⟨e0, i0⟩ := h0
  obtain ⟨e1, i1⟩ := h1
  obtain ⟨e2, i2⟩ := h2
  obtain ⟨e3, i3⟩ := h3
  obtain ⟨e4, i4⟩ := h4
  obtain ⟨⟨v5, e5, i5⟩, _, b5⟩ := h5
  cases e0; cases e1; cases e2; cases e3; cases e4; cases e5
  exact ⟨⟨x0, x1, x2, x3, x4, x5⟩, ⟨_, rfl, i5, i0, i1, i2, i3, i4⟩, b5⟩
theorem opens_term {H : Type} {enc : TypeId × Value → H} {w : World} {sp : Nat → Bool} : Opens enc Try.prog w sp 63 (fun cs y => TermC (roW w) w cs y ∧ okTerm y) := fun fuel cs x h hz => by
  obtain ⟨hl, hf⟩ := open_fields Try.underlying63 h hz
  rw [co_63] at hl
  obtain ⟨c0, c1, c2, c3, c4, c5, rfl⟩ : ∃ c0 c1 c2 c3 c4 c5, cs = [c0, c1, c2, c3, c4, c5] := by
    match cs, hl with
    | [c0, c1, c2, c3, c4, c5], _ => exact ⟨_, _, _, _, _, _, rfl⟩
  obtain ⟨x0, h0⟩ := hf 0 _ 3 0 1 _ _ rfl rfl rfl co_3 (opens_i64 Try.underlying3)
  simp only [List.drop_succ_cons, List.drop_zero, List.take_succ_cons, List.take_zero, List.drop, List.take] at h0
  obtain ⟨x1, h1⟩ := hf 1 _ 3 1 1 _ _ rfl rfl rfl co_3 (opens_i64 Try.underlying3)
  simp only [List.drop_succ_cons, List.drop_zero, List.take_succ_cons, List.take_zero, List.drop, List.take] at h1
  obtain ⟨x2, h2⟩ := hf 2 _ 3 2 1 _ _ rfl rfl rfl co_3 (opens_i64 Try.underlying3)
  simp only [List.drop_succ_cons, List.drop_zero, List.take_succ_cons, List.take_zero, List.drop, List.take] at h2
  obtain ⟨x3, h3⟩ := hf 3 _ 61 3 1 _ _ rfl rfl rfl co_61 (opens_sl (B := fun _ => True) Try.underlying61 co_3 bo_3 (by decide) (((opens_i64 Try.underlying3)).mono fun _ _ q => ⟨q, trivial⟩))
  simp only [List.drop_succ_cons, List.drop_zero, List.take_succ_cons, List.take_zero, List.drop, List.take] at h3
  obtain ⟨x4, h4⟩ := hf 4 _ 3 4 1 _ _ rfl rfl rfl co_3 (opens_i64 Try.underlying3)
  simp only [List.drop_succ_cons, List.drop_zero, List.take_succ_cons, List.take_zero, List.drop, List.take] at h4
  obtain ⟨x5, h5⟩ := hf 5 _ 61 5 1 _ _ rfl rfl rfl co_61 (opens_sl (B := fun _ => True) Try.underlying61 co_3 bo_3 (by decide) (((opens_i64 Try.underlying3)).mono fun _ _ q => ⟨q, trivial⟩))
  simp only [List.drop_succ_cons, List.drop_zero, List.take_succ_cons, List.take_zero, List.drop, List.take] at h5
  obtain ⟨e0, i0⟩ := h0
  obtain ⟨e1, i1⟩ := h1
  obtain ⟨e2, i2⟩ := h2
  obtain ⟨⟨v3, e3, i3⟩, _, b3⟩ := h3
  obtain ⟨e4, i4⟩ := h4
  obtain ⟨⟨v5, e5, i5⟩, _, b5⟩ := h5
  cases e0; cases e1; cases e2; cases e3; cases e4; cases e5
  exact ⟨⟨x0, x1, x2, x3, x4, x5⟩, ⟨_, _, rfl, i3, i5, i0, i1, i2, i4⟩, b3, b5⟩
theorem opens_block {H : Type} {enc : TypeId × Value → H} {w : World} {sp : Nat → Bool} : Opens enc Try.prog w sp 65 (fun cs y => BlockC (roW w) w cs y ∧ okBlock y) := fun fuel cs x h hz => by
  obtain ⟨hl, hf⟩ := open_fields Try.underlying65 h hz
  rw [co_65] at hl
  obtain ⟨c0, c1, c2, c3, c4, c5, c6, c7, rfl⟩ : ∃ c0 c1 c2 c3 c4 c5 c6 c7, cs = [c0, c1, c2, c3, c4, c5, c6, c7] := by
    match cs, hl with
    | [c0, c1, c2, c3, c4, c5, c6, c7], _ => exact ⟨_, _, _, _, _, _, _, _, rfl⟩
  obtain ⟨x0, h0⟩ := hf 0 _ 3 0 1 _ _ rfl rfl rfl co_3 (opens_i64 Try.underlying3)
  simp only [List.drop_succ_cons, List.drop_zero, List.take_succ_cons, List.take_zero, List.drop, List.take] at h0
  obtain ⟨x1, h1⟩ := hf 1 _ 60 1 1 _ _ rfl rfl rfl co_60 (opens_sl Try.underlying60 co_80 bo_80 (by decide) opens_inst)
  simp only [List.drop_succ_cons, List.drop_zero, List.take_succ_cons, List.take_zero, List.drop, List.take] at h1
  obtain ⟨x2, h2⟩ := hf 2 _ 63 2 6 _ _ rfl rfl rfl co_63 opens_term
  simp only [List.drop_succ_cons, List.drop_zero, List.take_succ_cons, List.take_zero, List.drop, List.take] at h2
  obtain ⟨e0, i0⟩ := h0
  obtain ⟨⟨v1, e1, i1⟩, a1, b1⟩ := h1
  obtain ⟨i2, b2⟩ := h2
  cases e0; cases e1
  exact ⟨⟨x0, x1, x2⟩, ⟨_, _, rfl, i1, i2, i0⟩, a1, b1, b2⟩
theorem opens_func {H : Type} {enc : TypeId × Value → H} {w : World} {sp : Nat → Bool} : Opens enc Try.prog w sp 39 (fun cs y => FuncC (roW w) w cs y ∧ okFunc y) := fun fuel cs x h hz => by
  obtain ⟨hl, hf⟩ := open_fields Try.underlying39 h hz
  rw [co_39] at hl
  obtain ⟨c0, c1, c2, c3, rfl⟩ : ∃ c0 c1 c2 c3, cs = [c0, c1, c2, c3] := by
    match cs, hl with
    | [c0, c1, c2, c3], _ => exact ⟨_, _, _, _, rfl⟩
  obtain ⟨x0, h0⟩ := hf 0 _ 9 0 1 _ _ rfl rfl rfl co_9 (opens_str Try.underlying9)
  simp only [List.drop_succ_cons, List.drop_zero, List.take_succ_cons, List.take_zero, List.drop, List.take] at h0
  obtain ⟨x1, h1⟩ := hf 1 _ 3 1 1 _ _ rfl rfl rfl co_3 (opens_i64 Try.underlying3)
  simp only [List.drop_succ_cons, List.drop_zero, List.take_succ_cons, List.take_zero, List.drop, List.take] at h1
  obtain ⟨x2, h2⟩ := hf 2 _ 3 2 1 _ _ rfl rfl rfl co_3 (opens_i64 Try.underlying3)
  simp only [List.drop_succ_cons, List.drop_zero, List.take_succ_cons, List.take_zero, List.drop, List.take] at h2
  obtain ⟨x3, h3⟩ := hf 3 _ 37 3 1 _ _ rfl rfl rfl co_37 (opens_sl Try.underlying37 co_65 bo_65 (by decide) opens_block)
  simp only [List.drop_succ_cons, List.drop_zero, List.take_succ_cons, List.take_zero, List.drop, List.take] at h3
  obtain ⟨e0, i0⟩ := h0
  obtain ⟨e1, i1⟩ := h1
  obtain ⟨e2, i2⟩ := h2
  obtain ⟨⟨v3, e3, i3⟩, a3, b3⟩ := h3
  cases e0; cases e1; cases e2; cases e3
  exact ⟨⟨x0, x1, x2, x3⟩, ⟨_, rfl, i3, i0, i1, i2⟩, a3, b3⟩
end Go.Proofs.Ytcmmhfknkldmcaa
