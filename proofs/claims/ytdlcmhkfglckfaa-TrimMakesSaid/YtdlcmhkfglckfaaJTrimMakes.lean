/-
  How the arguments of these laws open. No condition beyond those that each theorem states.
-/
import Derived.Test.YtdlcmhkfglckfaaA10
import Derived.Test.YtdlcmhkfglckfaaV8
namespace Go.Proofs.Ytdlcmhkfglckfaa
open Go.ChangeShapes Go.WideShapes Go.ChangeAt Go.RowKit
theorem co_36 : Try.prog.cellsOf 36 = 6 := by kernel_rfl
theorem co_3 : Try.prog.cellsOf 3 = 1 := by kernel_rfl
theorem co_34 : Try.prog.cellsOf 34 = 1 := by kernel_rfl
theorem co_9 : Try.prog.cellsOf 9 = 1 := by kernel_rfl
theorem co_28 : Try.prog.cellsOf 28 = 1 := by kernel_rfl
theorem bo_3 : Try.prog.bytesOf 3 = 8 := by kernel_rfl
theorem co_30 : Try.prog.cellsOf 30 = 6 := by kernel_rfl
theorem co_32 : Try.prog.cellsOf 32 = 8 := by kernel_rfl
theorem co_27 : Try.prog.cellsOf 27 = 1 := by kernel_rfl
theorem bo_36 : Try.prog.bytesOf 36 = 72 := by kernel_rfl
theorem co_24 : Try.prog.cellsOf 24 = 4 := by kernel_rfl
theorem co_22 : Try.prog.cellsOf 22 = 1 := by kernel_rfl
theorem bo_32 : Try.prog.bytesOf 32 = 112 := by kernel_rfl
theorem co_71 : Try.prog.cellsOf 71 = 4 := by kernel_rfl
theorem co_4 : Try.prog.cellsOf 4 = 1 := by kernel_rfl
theorem co_46 : Try.prog.cellsOf 46 = 2 := by kernel_rfl
theorem co_43 : Try.prog.cellsOf 43 = 1 := by kernel_rfl
theorem bo_24 : Try.prog.bytesOf 24 = 56 := by kernel_rfl
theorem co_44 : Try.prog.cellsOf 44 = 1 := by kernel_rfl
theorem bo_71 : Try.prog.bytesOf 71 = 40 := by kernel_rfl
theorem opens_inst {H : Type} {enc : TypeId × Value → H} {w : World} {sp : Nat → Bool} : Opens enc Try.prog w sp 36 (fun cs y => InstC (roW w) w cs y ∧ okInst y) := fun fuel cs x h hz => by
  obtain ⟨hl, hf⟩ := open_fields Try.underlying36 h hz
  rw [co_36] at hl
  obtain ⟨c0, c1, c2, c3, c4, c5, rfl⟩ : ∃ c0 c1 c2 c3 c4 c5, cs = [c0, c1, c2, c3, c4, c5] := by
    match cs, hl with
    | [c0, c1, c2, c3, c4, c5], _ => exact ⟨_, _, _, _, _, _, rfl⟩
  obtain ⟨x0, h0⟩ := hf 0 _ 3 0 1 _ _ rfl rfl rfl co_3 (opens_i64 Try.underlying3)
  simp only [List.drop_succ_cons, List.drop_zero, List.take_succ_cons, List.take_zero, List.drop, List.take] at h0
  obtain ⟨x1, h1⟩ := hf 1 _ 3 1 1 _ _ rfl rfl rfl co_3 (opens_i64 Try.underlying3)
  simp only [List.drop_succ_cons, List.drop_zero, List.take_succ_cons, List.take_zero, List.drop, List.take] at h1
  obtain ⟨x2, h2⟩ := hf 2 _ 3 2 1 _ _ rfl rfl rfl co_3 (opens_i64 Try.underlying3)
  simp only [List.drop_succ_cons, List.drop_zero, List.take_succ_cons, List.take_zero, List.drop, List.take] at h2
  obtain ⟨x3, h3⟩ := hf 3 _ 34 3 1 _ _ rfl rfl rfl co_34 (opens_u64 Try.underlying34)
  simp only [List.drop_succ_cons, List.drop_zero, List.take_succ_cons, List.take_zero, List.drop, List.take] at h3
  obtain ⟨x4, h4⟩ := hf 4 _ 9 4 1 _ _ rfl rfl rfl co_9 (opens_str Try.underlying9)
  simp only [List.drop_succ_cons, List.drop_zero, List.take_succ_cons, List.take_zero, List.drop, List.take] at h4
  obtain ⟨x5, h5⟩ := hf 5 _ 28 5 1 _ _ rfl rfl rfl co_28 (opens_sl (B := fun _ => True) Try.underlying28 co_3 bo_3 (by decide) (((opens_i64 Try.underlying3)).mono fun _ _ q => ⟨q, trivial⟩))
  simp only [List.drop_succ_cons, List.drop_zero, List.take_succ_cons, List.take_zero, List.drop, List.take] at h5
  obtain ⟨e0, i0⟩ := h0
  obtain ⟨e1, i1⟩ := h1
  obtain ⟨e2, i2⟩ := h2
  obtain ⟨e3, i3⟩ := h3
  obtain ⟨e4, i4⟩ := h4
  obtain ⟨⟨v5, e5, i5⟩, _, b5⟩ := h5
  cases e0; cases e1; cases e2; cases e3; cases e4; cases e5
  exact ⟨⟨x0, x1, x2, x3, x4, x5⟩, ⟨_, rfl, i5, i0, i1, i2, i3, i4⟩, b5⟩
theorem opens_term {H : Type} {enc : TypeId × Value → H} {w : World} {sp : Nat → Bool} : Opens enc Try.prog w sp 30 (fun cs y => TermC (roW w) w cs y ∧ okTerm y) := fun fuel cs x h hz => by
  obtain ⟨hl, hf⟩ := open_fields Try.underlying30 h hz
  rw [co_30] at hl
  obtain ⟨c0, c1, c2, c3, c4, c5, rfl⟩ : ∃ c0 c1 c2 c3 c4 c5, cs = [c0, c1, c2, c3, c4, c5] := by
    match cs, hl with
    | [c0, c1, c2, c3, c4, c5], _ => exact ⟨_, _, _, _, _, _, rfl⟩
  obtain ⟨x0, h0⟩ := hf 0 _ 3 0 1 _ _ rfl rfl rfl co_3 (opens_i64 Try.underlying3)
  simp only [List.drop_succ_cons, List.drop_zero, List.take_succ_cons, List.take_zero, List.drop, List.take] at h0
  obtain ⟨x1, h1⟩ := hf 1 _ 3 1 1 _ _ rfl rfl rfl co_3 (opens_i64 Try.underlying3)
  simp only [List.drop_succ_cons, List.drop_zero, List.take_succ_cons, List.take_zero, List.drop, List.take] at h1
  obtain ⟨x2, h2⟩ := hf 2 _ 3 2 1 _ _ rfl rfl rfl co_3 (opens_i64 Try.underlying3)
  simp only [List.drop_succ_cons, List.drop_zero, List.take_succ_cons, List.take_zero, List.drop, List.take] at h2
  obtain ⟨x3, h3⟩ := hf 3 _ 28 3 1 _ _ rfl rfl rfl co_28 (opens_sl (B := fun _ => True) Try.underlying28 co_3 bo_3 (by decide) (((opens_i64 Try.underlying3)).mono fun _ _ q => ⟨q, trivial⟩))
  simp only [List.drop_succ_cons, List.drop_zero, List.take_succ_cons, List.take_zero, List.drop, List.take] at h3
  obtain ⟨x4, h4⟩ := hf 4 _ 3 4 1 _ _ rfl rfl rfl co_3 (opens_i64 Try.underlying3)
  simp only [List.drop_succ_cons, List.drop_zero, List.take_succ_cons, List.take_zero, List.drop, List.take] at h4
  obtain ⟨x5, h5⟩ := hf 5 _ 28 5 1 _ _ rfl rfl rfl co_28 (opens_sl (B := fun _ => True) Try.underlying28 co_3 bo_3 (by decide) (((opens_i64 Try.underlying3)).mono fun _ _ q => ⟨q, trivial⟩))
  simp only [List.drop_succ_cons, List.drop_zero, List.take_succ_cons, List.take_zero, List.drop, List.take] at h5
  obtain ⟨e0, i0⟩ := h0
  obtain ⟨e1, i1⟩ := h1
  obtain ⟨e2, i2⟩ := h2
  obtain ⟨⟨v3, e3, i3⟩, _, b3⟩ := h3
  obtain ⟨e4, i4⟩ := h4
  obtain ⟨⟨v5, e5, i5⟩, _, b5⟩ := h5
  cases e0; cases e1; cases e2; cases e3; cases e4; cases e5
  exact ⟨⟨x0, x1, x2, x3, x4, x5⟩, ⟨_, _, rfl, i3, i5, i0, i1, i2, i4⟩, b3, b5⟩
theorem opens_block {H : Type} {enc : TypeId × Value → H} {w : World} {sp : Nat → Bool} : Opens enc Try.prog w sp 32 (fun cs y => BlockC (roW w) w cs y ∧ okBlock y) := fun fuel cs x h hz => by
  obtain ⟨hl, hf⟩ := open_fields Try.underlying32 h hz
  rw [co_32] at hl
  obtain ⟨c0, c1, c2, c3, c4, c5, c6, c7, rfl⟩ : ∃ c0 c1 c2 c3 c4 c5 c6 c7, cs = [c0, c1, c2, c3, c4, c5, c6, c7] := by
    match cs, hl with
    | [c0, c1, c2, c3, c4, c5, c6, c7], _ => exact ⟨_, _, _, _, _, _, _, _, rfl⟩
  obtain ⟨x0, h0⟩ := hf 0 _ 3 0 1 _ _ rfl rfl rfl co_3 (opens_i64 Try.underlying3)
  simp only [List.drop_succ_cons, List.drop_zero, List.take_succ_cons, List.take_zero, List.drop, List.take] at h0
  obtain ⟨x1, h1⟩ := hf 1 _ 27 1 1 _ _ rfl rfl rfl co_27 (opens_sl Try.underlying27 co_36 bo_36 (by decide) opens_inst)
  simp only [List.drop_succ_cons, List.drop_zero, List.take_succ_cons, List.take_zero, List.drop, List.take] at h1
  obtain ⟨x2, h2⟩ := hf 2 _ 30 2 6 _ _ rfl rfl rfl co_30 opens_term
  simp only [List.drop_succ_cons, List.drop_zero, List.take_succ_cons, List.take_zero, List.drop, List.take] at h2
  obtain ⟨e0, i0⟩ := h0
  obtain ⟨⟨v1, e1, i1⟩, a1, b1⟩ := h1
  obtain ⟨i2, b2⟩ := h2
  cases e0; cases e1
  exact ⟨⟨x0, x1, x2⟩, ⟨_, _, rfl, i1, i2, i0⟩, a1, b1, b2⟩
theorem opens_func {H : Type} {enc : TypeId × Value → H} {w : World} {sp : Nat → Bool} : Opens enc Try.prog w sp 24 (fun cs y => FuncC (roW w) w cs y ∧ okFunc y) := fun fuel cs x h hz => by
  obtain ⟨hl, hf⟩ := open_fields Try.underlying24 h hz
  rw [co_24] at hl
  obtain ⟨c0, c1, c2, c3, rfl⟩ : ∃ c0 c1 c2 c3, cs = [c0, c1, c2, c3] := by
    match cs, hl with
    | [c0, c1, c2, c3], _ => exact ⟨_, _, _, _, rfl⟩
  obtain ⟨x0, h0⟩ := hf 0 _ 9 0 1 _ _ rfl rfl rfl co_9 (opens_str Try.underlying9)
  simp only [List.drop_succ_cons, List.drop_zero, List.take_succ_cons, List.take_zero, List.drop, List.take] at h0
  obtain ⟨x1, h1⟩ := hf 1 _ 3 1 1 _ _ rfl rfl rfl co_3 (opens_i64 Try.underlying3)
  simp only [List.drop_succ_cons, List.drop_zero, List.take_succ_cons, List.take_zero, List.drop, List.take] at h1
  obtain ⟨x2, h2⟩ := hf 2 _ 3 2 1 _ _ rfl rfl rfl co_3 (opens_i64 Try.underlying3)
  simp only [List.drop_succ_cons, List.drop_zero, List.take_succ_cons, List.take_zero, List.drop, List.take] at h2
  obtain ⟨x3, h3⟩ := hf 3 _ 22 3 1 _ _ rfl rfl rfl co_22 (opens_sl Try.underlying22 co_32 bo_32 (by decide) opens_block)
  simp only [List.drop_succ_cons, List.drop_zero, List.take_succ_cons, List.take_zero, List.drop, List.take] at h3
  obtain ⟨e0, i0⟩ := h0
  obtain ⟨e1, i1⟩ := h1
  obtain ⟨e2, i2⟩ := h2
  obtain ⟨⟨v3, e3, i3⟩, a3, b3⟩ := h3
  cases e0; cases e1; cases e2; cases e3
  exact ⟨⟨x0, x1, x2, x3⟩, ⟨_, rfl, i3, i0, i1, i2⟩, a3, b3⟩
theorem opens_glob {H : Type} {enc : TypeId × Value → H} {w : World} {sp : Nat → Bool} : Opens enc Try.prog w sp 71 (fun cs y => GlobC cs y ∧ (fun _ => True) y) := fun fuel cs x h hz => by
  obtain ⟨hl, hf⟩ := open_fields Try.underlying71 h hz
  rw [co_71] at hl
  obtain ⟨c0, c1, c2, c3, rfl⟩ : ∃ c0 c1 c2 c3, cs = [c0, c1, c2, c3] := by
    match cs, hl with
    | [c0, c1, c2, c3], _ => exact ⟨_, _, _, _, rfl⟩
  obtain ⟨x0, h0⟩ := hf 0 _ 9 0 1 _ _ rfl rfl rfl co_9 (opens_str Try.underlying9)
  simp only [List.drop_succ_cons, List.drop_zero, List.take_succ_cons, List.take_zero, List.drop, List.take] at h0
  obtain ⟨x1, h1⟩ := hf 1 _ 3 1 1 _ _ rfl rfl rfl co_3 (opens_i64 Try.underlying3)
  simp only [List.drop_succ_cons, List.drop_zero, List.take_succ_cons, List.take_zero, List.drop, List.take] at h1
  obtain ⟨x2, h2⟩ := hf 2 _ 4 2 1 _ _ rfl rfl rfl co_4 (opens_bool Try.underlying4)
  simp only [List.drop_succ_cons, List.drop_zero, List.take_succ_cons, List.take_zero, List.drop, List.take] at h2
  obtain ⟨x3, h3⟩ := hf 3 _ 34 3 1 _ _ rfl rfl rfl co_34 (opens_u64 Try.underlying34)
  simp only [List.drop_succ_cons, List.drop_zero, List.take_succ_cons, List.take_zero, List.drop, List.take] at h3
  obtain ⟨e0, i0⟩ := h0
  obtain ⟨e1, i1⟩ := h1
  have e2 : [c2] = [.bool x2] := h2
  obtain ⟨e3, i3⟩ := h3
  cases e0; cases e1; cases e2; cases e3
  exact ⟨⟨x0, x1, x2, x3⟩, ⟨rfl, i0, i1, i3⟩, trivial⟩
theorem opens_mod {H : Type} {enc : TypeId × Value → H} {w : World} {sp : Nat → Bool} : Opens enc Try.prog w sp 46 (fun cs y => ModC (roW w) w cs y ∧ okMod y) := fun fuel cs x h hz => by
  obtain ⟨hl, hf⟩ := open_fields Try.underlying46 h hz
  rw [co_46] at hl
  obtain ⟨c0, c1, rfl⟩ : ∃ c0 c1, cs = [c0, c1] := by
    match cs, hl with
    | [c0, c1], _ => exact ⟨_, _, rfl⟩
  obtain ⟨x0, h0⟩ := hf 0 _ 43 0 1 _ _ rfl rfl rfl co_43 (opens_sl Try.underlying43 co_24 bo_24 (by decide) opens_func)
  simp only [List.drop_succ_cons, List.drop_zero, List.take_succ_cons, List.take_zero, List.drop, List.take] at h0
  obtain ⟨x1, h1⟩ := hf 1 _ 44 1 1 _ _ rfl rfl rfl co_44 (opens_sl Try.underlying44 co_71 bo_71 (by decide) opens_glob)
  simp only [List.drop_succ_cons, List.drop_zero, List.take_succ_cons, List.take_zero, List.drop, List.take] at h1
  obtain ⟨⟨v0, e0, i0⟩, a0, b0⟩ := h0
  obtain ⟨⟨v1, e1, i1⟩, _, b1⟩ := h1
  cases e0; cases e1
  exact ⟨⟨x0, x1⟩, ⟨_, _, rfl, i0, i1⟩, a0, b0, b1⟩
end Go.Proofs.Ytdlcmhkfglckfaa

