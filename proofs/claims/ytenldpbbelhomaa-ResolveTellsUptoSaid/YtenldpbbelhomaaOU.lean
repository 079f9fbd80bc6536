/-
  How the arguments of these laws open, their bulk bounded. No condition beyond those that each theorem states.
-/
import Derived.Test.YtenldpbbelhomaaA21
namespace Go.Proofs.Ytenldpbbelhomaa
open Go.ChangeShapes Go.WideShapes Go.ChangeAt Go.RowKit
theorem cu_77 : Try.prog.cellsOf 77 = 6 := by kernel_rfl
theorem cu_3 : Try.prog.cellsOf 3 = 1 := by kernel_rfl
theorem cu_37 : Try.prog.cellsOf 37 = 1 := by kernel_rfl
theorem cu_9 : Try.prog.cellsOf 9 = 1 := by kernel_rfl
theorem cu_71 : Try.prog.cellsOf 71 = 1 := by kernel_rfl
theorem cu_73 : Try.prog.cellsOf 73 = 6 := by kernel_rfl
theorem cu_75 : Try.prog.cellsOf 75 = 8 := by kernel_rfl
theorem cu_70 : Try.prog.cellsOf 70 = 1 := by kernel_rfl
theorem cu_36 : Try.prog.cellsOf 36 = 4 := by kernel_rfl
theorem cu_34 : Try.prog.cellsOf 34 = 1 := by kernel_rfl
theorem cu_39 : Try.prog.cellsOf 39 = 4 := by kernel_rfl
theorem cu_4 : Try.prog.cellsOf 4 = 1 := by kernel_rfl
theorem cu_33 : Try.prog.cellsOf 33 = 2 := by kernel_rfl
theorem cu_30 : Try.prog.cellsOf 30 = 1 := by kernel_rfl
theorem cu_31 : Try.prog.cellsOf 31 = 1 := by kernel_rfl
theorem opensU_inst {H : Type} {enc : TypeId × Value → H} {w : World} {sp : Nat → Bool} : OpensU enc Try.prog w sp 77 (fun cs y => InstC (roW w) w cs y) (szInst) := fun fuel cs x h => by
  obtain ⟨hl, zs, hz, hzl, hf⟩ := open_fieldsU Try.underlying77 h
  rw [cu_77] at hl
  obtain ⟨c0, c1, c2, c3, c4, c5, rfl⟩ : ∃ c0 c1 c2 c3 c4 c5, cs = [c0, c1, c2, c3, c4, c5] := by
    match cs, hl with
    | [c0, c1, c2, c3, c4, c5], _ => exact ⟨_, _, _, _, _, _, rfl⟩
  obtain ⟨x0, h0, b0⟩ := hf 0 _ 3 0 1 _ _ _ rfl rfl rfl cu_3 (opensU_i64 Try.underlying3)
  simp only [List.drop_succ_cons, List.drop_zero, List.take_succ_cons, List.take_zero, List.drop, List.take] at h0
  obtain ⟨x1, h1, b1⟩ := hf 1 _ 3 1 1 _ _ _ rfl rfl rfl cu_3 (opensU_i64 Try.underlying3)
  simp only [List.drop_succ_cons, List.drop_zero, List.take_succ_cons, List.take_zero, List.drop, List.take] at h1
  obtain ⟨x2, h2, b2⟩ := hf 2 _ 3 2 1 _ _ _ rfl rfl rfl cu_3 (opensU_i64 Try.underlying3)
  simp only [List.drop_succ_cons, List.drop_zero, List.take_succ_cons, List.take_zero, List.drop, List.take] at h2
  obtain ⟨x3, h3, b3⟩ := hf 3 _ 37 3 1 _ _ _ rfl rfl rfl cu_37 (opensU_u64 Try.underlying37)
  simp only [List.drop_succ_cons, List.drop_zero, List.take_succ_cons, List.take_zero, List.drop, List.take] at h3
  obtain ⟨x4, h4, b4⟩ := hf 4 _ 9 4 1 _ _ _ rfl rfl rfl cu_9 (opensU_str Try.underlying9)
  simp only [List.drop_succ_cons, List.drop_zero, List.take_succ_cons, List.take_zero, List.drop, List.take] at h4
  obtain ⟨x5, h5, b5⟩ := hf 5 _ 71 5 1 _ _ _ rfl rfl rfl cu_71 (opensU_sl Try.underlying71 cu_3 (by decide) (opensU_i64 Try.underlying3))
  simp only [List.drop_succ_cons, List.drop_zero, List.take_succ_cons, List.take_zero, List.drop, List.take] at h5
  obtain ⟨e0, i0⟩ := h0
  obtain ⟨e1, i1⟩ := h1
  obtain ⟨e2, i2⟩ := h2
  obtain ⟨e3, i3⟩ := h3
  obtain ⟨e4, i4⟩ := h4
  obtain ⟨v5, e5, i5⟩ := h5
  cases e0; cases e1; cases e2; cases e3; cases e4; cases e5
  refine ⟨⟨x0, x1, x2, x3, x4, x5⟩, ⟨_, rfl, i5, i0, i1, i2, i3, i4⟩, ?_⟩
  match zs, hzl with
  | [z0, z1, z2, z3, z4, z5], _ =>
    have k5 := b5 z5 rfl
    have j5 := sum_ge (μ := fun _ : Int => 1) x5 (fun _ _ => Nat.le_refl _)
    rw [hz]
    simp only [Rows.uptoBulk, Rows.uptoBulkAll]
    try simp only [szInst]
    omega
theorem opensU_term {H : Type} {enc : TypeId × Value → H} {w : World} {sp : Nat → Bool} : OpensU enc Try.prog w sp 73 (fun cs y => TermC (roW w) w cs y) (szTerm) := fun fuel cs x h => by
  obtain ⟨hl, zs, hz, hzl, hf⟩ := open_fieldsU Try.underlying73 h
  rw [cu_73] at hl
  obtain ⟨c0, c1, c2, c3, c4, c5, rfl⟩ : ∃ c0 c1 c2 c3 c4 c5, cs = [c0, c1, c2, c3, c4, c5] := by
    match cs, hl with
    | [c0, c1, c2, c3, c4, c5], _ => exact ⟨_, _, _, _, _, _, rfl⟩
  obtain ⟨x0, h0, b0⟩ := hf 0 _ 3 0 1 _ _ _ rfl rfl rfl cu_3 (opensU_i64 Try.underlying3)
  simp only [List.drop_succ_cons, List.drop_zero, List.take_succ_cons, List.take_zero, List.drop, List.take] at h0
  obtain ⟨x1, h1, b1⟩ := hf 1 _ 3 1 1 _ _ _ rfl rfl rfl cu_3 (opensU_i64 Try.underlying3)
  simp only [List.drop_succ_cons, List.drop_zero, List.take_succ_cons, List.take_zero, List.drop, List.take] at h1
  obtain ⟨x2, h2, b2⟩ := hf 2 _ 3 2 1 _ _ _ rfl rfl rfl cu_3 (opensU_i64 Try.underlying3)
  simp only [List.drop_succ_cons, List.drop_zero, List.take_succ_cons, List.take_zero, List.drop, List.take] at h2
  obtain ⟨x3, h3, b3⟩ := hf 3 _ 71 3 1 _ _ _ rfl rfl rfl cu_71 (opensU_sl Try.underlying71 cu_3 (by decide) (opensU_i64 Try.underlying3))
  simp only [List.drop_succ_cons, List.drop_zero, List.take_succ_cons, List.take_zero, List.drop, List.take] at h3
  obtain ⟨x4, h4, b4⟩ := hf 4 _ 3 4 1 _ _ _ rfl rfl rfl cu_3 (opensU_i64 Try.underlying3)
  simp only [List.drop_succ_cons, List.drop_zero, List.take_succ_cons, List.take_zero, List.drop, List.take] at h4
  obtain ⟨x5, h5, b5⟩ := hf 5 _ 71 5 1 _ _ _ rfl rfl rfl cu_71 (opensU_sl Try.underlying71 cu_3 (by decide) (opensU_i64 Try.underlying3))
  simp only [List.drop_succ_cons, List.drop_zero, List.take_succ_cons, List.take_zero, List.drop, List.take] at h5
  obtain ⟨e0, i0⟩ := h0
  obtain ⟨e1, i1⟩ := h1
  obtain ⟨e2, i2⟩ := h2
  obtain ⟨v3, e3, i3⟩ := h3
  obtain ⟨e4, i4⟩ := h4
  obtain ⟨v5, e5, i5⟩ := h5
  cases e0; cases e1; cases e2; cases e3; cases e4; cases e5
  refine ⟨⟨x0, x1, x2, x3, x4, x5⟩, ⟨_, _, rfl, i3, i5, i0, i1, i2, i4⟩, ?_⟩
  match zs, hzl with
  | [z0, z1, z2, z3, z4, z5], _ =>
    have k3 := b3 z3 rfl
    have k5 := b5 z5 rfl
    have j3 := sum_ge (μ := fun _ : Int => 1) x3 (fun _ _ => Nat.le_refl _)
    have j5 := sum_ge (μ := fun _ : Int => 1) x5 (fun _ _ => Nat.le_refl _)
    rw [hz]
    simp only [Rows.uptoBulk, Rows.uptoBulkAll]
    try simp only [szTerm]
    omega
theorem opensU_block {H : Type} {enc : TypeId × Value → H} {w : World} {sp : Nat → Bool} : OpensU enc Try.prog w sp 75 (fun cs y => BlockC (roW w) w cs y) (szBlock) := fun fuel cs x h => by
  obtain ⟨hl, zs, hz, hzl, hf⟩ := open_fieldsU Try.underlying75 h
  rw [cu_75] at hl
  obtain ⟨c0, c1, c2, c3, c4, c5, c6, c7, rfl⟩ : ∃ c0 c1 c2 c3 c4 c5 c6 c7, cs = [c0, c1, c2, c3, c4, c5, c6, c7] := by
    match cs, hl with
    | [c0, c1, c2, c3, c4, c5, c6, c7], _ => exact ⟨_, _, _, _, _, _, _, _, rfl⟩
  obtain ⟨x0, h0, b0⟩ := hf 0 _ 3 0 1 _ _ _ rfl rfl rfl cu_3 (opensU_i64 Try.underlying3)
  simp only [List.drop_succ_cons, List.drop_zero, List.take_succ_cons, List.take_zero, List.drop, List.take] at h0
  obtain ⟨x1, h1, b1⟩ := hf 1 _ 70 1 1 _ _ _ rfl rfl rfl cu_70 (opensU_sl Try.underlying70 cu_77 (by decide) opensU_inst)
  simp only [List.drop_succ_cons, List.drop_zero, List.take_succ_cons, List.take_zero, List.drop, List.take] at h1
  obtain ⟨x2, h2, b2⟩ := hf 2 _ 73 2 6 _ _ _ rfl rfl rfl cu_73 opensU_term
  simp only [List.drop_succ_cons, List.drop_zero, List.take_succ_cons, List.take_zero, List.drop, List.take] at h2
  obtain ⟨e0, i0⟩ := h0
  obtain ⟨v1, e1, i1⟩ := h1
  cases e0; cases e1
  refine ⟨⟨x0, x1, x2⟩, ⟨_, _, rfl, i1, h2, i0⟩, ?_⟩
  match zs, hzl with
  | [z0, z1, z2], _ =>
    have k1 := b1 z1 rfl
    have k2 := b2 z2 rfl
    rw [hz]
    simp only [Rows.uptoBulk, Rows.uptoBulkAll]
    try simp only [szBlock]
    omega
theorem opensU_func {H : Type} {enc : TypeId × Value → H} {w : World} {sp : Nat → Bool} : OpensU enc Try.prog w sp 36 (fun cs y => FuncC (roW w) w cs y) (szFunc) := fun fuel cs x h => by
  obtain ⟨hl, zs, hz, hzl, hf⟩ := open_fieldsU Try.underlying36 h
  rw [cu_36] at hl
  obtain ⟨c0, c1, c2, c3, rfl⟩ : ∃ c0 c1 c2 c3, cs = [c0, c1, c2, c3] := by
    match cs, hl with
    | [c0, c1, c2, c3], _ => exact ⟨_, _, _, _, rfl⟩
  obtain ⟨x0, h0, b0⟩ := hf 0 _ 9 0 1 _ _ _ rfl rfl rfl cu_9 (opensU_str Try.underlying9)
  simp only [List.drop_succ_cons, List.drop_zero, List.take_succ_cons, List.take_zero, List.drop, List.take] at h0
  obtain ⟨x1, h1, b1⟩ := hf 1 _ 3 1 1 _ _ _ rfl rfl rfl cu_3 (opensU_i64 Try.underlying3)
  simp only [List.drop_succ_cons, List.drop_zero, List.take_succ_cons, List.take_zero, List.drop, List.take] at h1
  obtain ⟨x2, h2, b2⟩ := hf 2 _ 3 2 1 _ _ _ rfl rfl rfl cu_3 (opensU_i64 Try.underlying3)
  simp only [List.drop_succ_cons, List.drop_zero, List.take_succ_cons, List.take_zero, List.drop, List.take] at h2
  obtain ⟨x3, h3, b3⟩ := hf 3 _ 34 3 1 _ _ _ rfl rfl rfl cu_34 (opensU_sl Try.underlying34 cu_75 (by decide) opensU_block)
  simp only [List.drop_succ_cons, List.drop_zero, List.take_succ_cons, List.take_zero, List.drop, List.take] at h3
  obtain ⟨e0, i0⟩ := h0
  obtain ⟨e1, i1⟩ := h1
  obtain ⟨e2, i2⟩ := h2
  obtain ⟨v3, e3, i3⟩ := h3
  cases e0; cases e1; cases e2; cases e3
  refine ⟨⟨x0, x1, x2, x3⟩, ⟨_, rfl, i3, i0, i1, i2⟩, ?_⟩
  match zs, hzl with
  | [z0, z1, z2, z3], _ =>
    have k3 := b3 z3 rfl
    rw [hz]
    simp only [Rows.uptoBulk, Rows.uptoBulkAll]
    try simp only [szFunc]
    omega
theorem opensU_glob {H : Type} {enc : TypeId × Value → H} {w : World} {sp : Nat → Bool} : OpensU enc Try.prog w sp 39 (fun cs y => GlobC cs y) (fun _ => 1) := fun fuel cs x h => by
  obtain ⟨hl, zs, hz, hzl, hf⟩ := open_fieldsU Try.underlying39 h
  rw [cu_39] at hl
  obtain ⟨c0, c1, c2, c3, rfl⟩ : ∃ c0 c1 c2 c3, cs = [c0, c1, c2, c3] := by
    match cs, hl with
    | [c0, c1, c2, c3], _ => exact ⟨_, _, _, _, rfl⟩
  obtain ⟨x0, h0, b0⟩ := hf 0 _ 9 0 1 _ _ _ rfl rfl rfl cu_9 (opensU_str Try.underlying9)
  simp only [List.drop_succ_cons, List.drop_zero, List.take_succ_cons, List.take_zero, List.drop, List.take] at h0
  obtain ⟨x1, h1, b1⟩ := hf 1 _ 3 1 1 _ _ _ rfl rfl rfl cu_3 (opensU_i64 Try.underlying3)
  simp only [List.drop_succ_cons, List.drop_zero, List.take_succ_cons, List.take_zero, List.drop, List.take] at h1
  obtain ⟨x2, h2, b2⟩ := hf 2 _ 4 2 1 _ _ _ rfl rfl rfl cu_4 (opensU_bool Try.underlying4)
  simp only [List.drop_succ_cons, List.drop_zero, List.take_succ_cons, List.take_zero, List.drop, List.take] at h2
  obtain ⟨x3, h3, b3⟩ := hf 3 _ 37 3 1 _ _ _ rfl rfl rfl cu_37 (opensU_u64 Try.underlying37)
  simp only [List.drop_succ_cons, List.drop_zero, List.take_succ_cons, List.take_zero, List.drop, List.take] at h3
  obtain ⟨e0, i0⟩ := h0
  obtain ⟨e1, i1⟩ := h1
  have e2 : [c2] = [.bool x2] := h2
  obtain ⟨e3, i3⟩ := h3
  cases e0; cases e1; cases e2; cases e3
  exact ⟨⟨x0, x1, x2, x3⟩, ⟨rfl, i0, i1, i3⟩, bulk_one _⟩
theorem opensU_mod {H : Type} {enc : TypeId × Value → H} {w : World} {sp : Nat → Bool} : OpensU enc Try.prog w sp 33 (fun cs y => ModC (roW w) w cs y) (szMod) := fun fuel cs x h => by
  obtain ⟨hl, zs, hz, hzl, hf⟩ := open_fieldsU Try.underlying33 h
  rw [cu_33] at hl
  obtain ⟨c0, c1, rfl⟩ : ∃ c0 c1, cs = [c0, c1] := by
    match cs, hl with
    | [c0, c1], _ => exact ⟨_, _, rfl⟩
  obtain ⟨x0, h0, b0⟩ := hf 0 _ 30 0 1 _ _ _ rfl rfl rfl cu_30 (opensU_sl Try.underlying30 cu_36 (by decide) opensU_func)
  simp only [List.drop_succ_cons, List.drop_zero, List.take_succ_cons, List.take_zero, List.drop, List.take] at h0
  obtain ⟨x1, h1, b1⟩ := hf 1 _ 31 1 1 _ _ _ rfl rfl rfl cu_31 (opensU_sl Try.underlying31 cu_39 (by decide) opensU_glob)
  simp only [List.drop_succ_cons, List.drop_zero, List.take_succ_cons, List.take_zero, List.drop, List.take] at h1
  obtain ⟨v0, e0, i0⟩ := h0
  obtain ⟨v1, e1, i1⟩ := h1
  cases e0; cases e1
  refine ⟨⟨x0, x1⟩, ⟨_, _, rfl, i0, i1⟩, ?_⟩
  match zs, hzl with
  | [z0, z1], _ =>
    have k0 := b0 z0 rfl
    have k1 := b1 z1 rfl
    have j1 := sum_ge (μ := fun _ : DGlob => 1) x1 (fun _ _ => Nat.le_refl _)
    rw [hz]
    simp only [Rows.uptoBulk, Rows.uptoBulkAll]
    try simp only [szMod]
    omega
theorem opensU_mods {H : Type} {enc : TypeId × Value → H} {w : World} {sp : Nat → Bool} : OpensU enc Try.prog w sp 22 (fun cs (ys : List DMod) => ∃ v, cs = [v] ∧ SlV (roW w) w 2 (ModC (roW w) w) v ys) (fun ys => (ys.map szMod).sum + 1) := opensU_sl Try.underlying22 cu_33 (by decide) opensU_mod
end Go.Proofs.Ytenldpbbelhomaa
