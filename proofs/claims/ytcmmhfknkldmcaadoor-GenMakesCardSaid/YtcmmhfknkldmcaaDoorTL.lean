/-
  How the arguments of these laws open. No condition beyond those that each theorem states.
-/
import Derived.Test.YtcmmhfknkldmcaaDoorD6
import Derived.Test.YtcmmhfknkldmcaaDoorD8
import Derived.Test.YtcmmhfknkldmcaaDoorG2
import Derived.Test.YtcmmhfknkldmcaaDoorRows
import Derived.ProofKit
import Derived.LaidMore
import Derived.OpenShut
import Derived.Stop.Joined
namespace Go.Proofs.YtcmmhfknkldmcaaDoor
open Go.ChangeShapes Go.WideShapes Go.ChangeAt Go.RowKit
theorem co_69 : Tryd.prog.cellsOf 69 = 6 := by kernel_rfl
theorem co_3 : Tryd.prog.cellsOf 3 = 1 := by kernel_rfl
theorem co_52 : Tryd.prog.cellsOf 52 = 1 := by kernel_rfl
theorem co_9 : Tryd.prog.cellsOf 9 = 1 := by kernel_rfl
theorem co_55 : Tryd.prog.cellsOf 55 = 1 := by kernel_rfl
theorem bo_3 : Tryd.prog.bytesOf 3 = 8 := by kernel_rfl
theorem co_57 : Tryd.prog.cellsOf 57 = 6 := by kernel_rfl
theorem co_59 : Tryd.prog.cellsOf 59 = 8 := by kernel_rfl
theorem co_54 : Tryd.prog.cellsOf 54 = 1 := by kernel_rfl
theorem bo_69 : Tryd.prog.bytesOf 69 = 72 := by kernel_rfl
theorem co_24 : Tryd.prog.cellsOf 24 = 4 := by kernel_rfl
theorem co_22 : Tryd.prog.cellsOf 22 = 1 := by kernel_rfl
theorem bo_59 : Tryd.prog.bytesOf 59 = 112 := by kernel_rfl
theorem co_76 : Tryd.prog.cellsOf 76 = 4 := by kernel_rfl
theorem co_4 : Tryd.prog.cellsOf 4 = 1 := by kernel_rfl
theorem co_44 : Tryd.prog.cellsOf 44 = 2 := by kernel_rfl
theorem co_41 : Tryd.prog.cellsOf 41 = 1 := by kernel_rfl
theorem bo_24 : Tryd.prog.bytesOf 24 = 56 := by kernel_rfl
theorem co_42 : Tryd.prog.cellsOf 42 = 1 := by kernel_rfl
theorem bo_76 : Tryd.prog.bytesOf 76 = 40 := by kernel_rfl
theorem co_36 : Tryd.prog.cellsOf 36 = 5 := by kernel_rfl
theorem co_2 : Tryd.prog.cellsOf 2 = 1 := by kernel_rfl
theorem co_34 : Tryd.prog.cellsOf 34 = 3 := by kernel_rfl
theorem co_30 : Tryd.prog.cellsOf 30 = 3 := by kernel_rfl
theorem co_27 : Tryd.prog.cellsOf 27 = 1 := by kernel_rfl
theorem bo_36 : Tryd.prog.bytesOf 36 = 40 := by kernel_rfl
theorem co_28 : Tryd.prog.cellsOf 28 = 1 := by kernel_rfl
theorem bo_34 : Tryd.prog.bytesOf 34 = 32 := by kernel_rfl
theorem opens_inst {H : Type} {enc : TypeId × Value → H} {w : World} {sp : Nat → Bool} : Opens enc Tryd.prog w sp 69 (fun cs y => InstC (roW w) w cs y ∧ okInst y) := fun fuel cs x h hz => by
  obtain ⟨hl, hf⟩ := open_fields Tryd.underlying69 h hz
  rw [co_69] at hl
  obtain ⟨c0, c1, c2, c3, c4, c5, rfl⟩ : ∃ c0 c1 c2 c3 c4 c5, cs = [c0, c1, c2, c3, c4, c5] := by
    match cs, hl with
    | [c0, c1, c2, c3, c4, c5], _ => exact ⟨_, _, _, _, _, _, rfl⟩
  obtain ⟨x0, h0⟩ := hf 0 _ 3 0 1 _ _ rfl rfl rfl co_3 (opens_i64 Tryd.underlying3)
  simp only [List.take_succ_cons, List.drop, List.take] at h0
  obtain ⟨x1, h1⟩ := hf 1 _ 3 1 1 _ _ rfl rfl rfl co_3 (opens_i64 Tryd.underlying3)
  simp only [List.take_succ_cons, List.drop, List.take] at h1
  obtain ⟨x2, h2⟩ := hf 2 _ 3 2 1 _ _ rfl rfl rfl co_3 (opens_i64 Tryd.underlying3)
  simp only [List.take_succ_cons, List.drop, List.take] at h2
  obtain ⟨x3, h3⟩ := hf 3 _ 52 3 1 _ _ rfl rfl rfl co_52 (opens_u64 Tryd.underlying52)
  simp only [List.take_succ_cons, List.drop, List.take] at h3
  obtain ⟨x4, h4⟩ := hf 4 _ 9 4 1 _ _ rfl rfl rfl co_9 (opens_str Tryd.underlying9)
  simp only [List.take_succ_cons, List.drop, List.take] at h4
  obtain ⟨x5, h5⟩ := hf 5 _ 55 5 1 _ _ rfl rfl rfl co_55 (opens_sl (B := fun _ => True) Tryd.underlying55 co_3 bo_3 (by decide) (((opens_i64 Tryd.underlying3)).mono fun _ _ q => ⟨q, trivial⟩))
  simp only [List.take_succ_cons, List.drop, List.take] at h5
  obtain ⟨e0, i0⟩ := h0
  obtain ⟨e1, i1⟩ := h1
  obtain ⟨e2, i2⟩ := h2
  obtain ⟨e3, i3⟩ := h3
  obtain ⟨e4, i4⟩ := h4
  obtain ⟨⟨v5, e5, i5⟩, _, b5⟩ := h5
  cases e0; cases e1; cases e2; cases e3; cases e4; cases e5
  exact ⟨⟨x0, x1, x2, x3, x4, x5⟩, ⟨_, rfl, i5, i0, i1, i2, i3, i4⟩, b5⟩
theorem opens_term {H : Type} {enc : TypeId × Value → H} {w : World} {sp : Nat → Bool} : Opens enc Tryd.prog w sp 57 (fun cs y => TermC (roW w) w cs y ∧ okTerm y) := fun fuel cs x h hz => by
  obtain ⟨hl, hf⟩ := open_fields Tryd.underlying57 h hz
  rw [co_57] at hl
  obtain ⟨c0, c1, c2, c3, c4, c5, rfl⟩ : ∃ c0 c1 c2 c3 c4 c5, cs = [c0, c1, c2, c3, c4, c5] := by
    match cs, hl with
    | [c0, c1, c2, c3, c4, c5], _ => exact ⟨_, _, _, _, _, _, rfl⟩
  obtain ⟨x0, h0⟩ := hf 0 _ 3 0 1 _ _ rfl rfl rfl co_3 (opens_i64 Tryd.underlying3)
  simp only [List.take_succ_cons, List.drop, List.take] at h0
  obtain ⟨x1, h1⟩ := hf 1 _ 3 1 1 _ _ rfl rfl rfl co_3 (opens_i64 Tryd.underlying3)
  simp only [List.take_succ_cons, List.drop, List.take] at h1
  obtain ⟨x2, h2⟩ := hf 2 _ 3 2 1 _ _ rfl rfl rfl co_3 (opens_i64 Tryd.underlying3)
  simp only [List.take_succ_cons, List.drop, List.take] at h2
  obtain ⟨x3, h3⟩ := hf 3 _ 55 3 1 _ _ rfl rfl rfl co_55 (opens_sl (B := fun _ => True) Tryd.underlying55 co_3 bo_3 (by decide) (((opens_i64 Tryd.underlying3)).mono fun _ _ q => ⟨q, trivial⟩))
  simp only [List.take_succ_cons, List.drop, List.take] at h3
  obtain ⟨x4, h4⟩ := hf 4 _ 3 4 1 _ _ rfl rfl rfl co_3 (opens_i64 Tryd.underlying3)
  simp only [List.take_succ_cons, List.drop, List.take] at h4
  obtain ⟨x5, h5⟩ := hf 5 _ 55 5 1 _ _ rfl rfl rfl co_55 (opens_sl (B := fun _ => True) Tryd.underlying55 co_3 bo_3 (by decide) (((opens_i64 Tryd.underlying3)).mono fun _ _ q => ⟨q, trivial⟩))
  simp only [List.take_succ_cons, List.drop, List.take] at h5
  obtain ⟨e0, i0⟩ := h0
  obtain ⟨e1, i1⟩ := h1
  obtain ⟨e2, i2⟩ := h2
  obtain ⟨⟨v3, e3, i3⟩, _, b3⟩ := h3
  obtain ⟨e4, i4⟩ := h4
  obtain ⟨⟨v5, e5, i5⟩, _, b5⟩ := h5
  cases e0; cases e1; cases e2; cases e3; cases e4; cases e5
  exact ⟨⟨x0, x1, x2, x3, x4, x5⟩, ⟨_, _, rfl, i3, i5, i0, i1, i2, i4⟩, b3, b5⟩
theorem opens_block {H : Type} {enc : TypeId × Value → H} {w : World} {sp : Nat → Bool} : Opens enc Tryd.prog w sp 59 (fun cs y => BlockC (roW w) w cs y ∧ okBlock y) := fun fuel cs x h hz => by
  obtain ⟨hl, hf⟩ := open_fields Tryd.underlying59 h hz
  rw [co_59] at hl
  obtain ⟨c0, c1, c2, c3, c4, c5, c6, c7, rfl⟩ : ∃ c0 c1 c2 c3 c4 c5 c6 c7, cs = [c0, c1, c2, c3, c4, c5, c6, c7] := by
    match cs, hl with
    | [c0, c1, c2, c3, c4, c5, c6, c7], _ => exact ⟨_, _, _, _, _, _, _, _, rfl⟩
  obtain ⟨x0, h0⟩ := hf 0 _ 3 0 1 _ _ rfl rfl rfl co_3 (opens_i64 Tryd.underlying3)
  simp only [List.take_succ_cons, List.drop, List.take] at h0
  obtain ⟨x1, h1⟩ := hf 1 _ 54 1 1 _ _ rfl rfl rfl co_54 (opens_sl Tryd.underlying54 co_69 bo_69 (by decide) opens_inst)
  simp only [List.take_succ_cons, List.drop, List.take] at h1
  obtain ⟨x2, h2⟩ := hf 2 _ 57 2 6 _ _ rfl rfl rfl co_57 opens_term
  simp only [List.take_succ_cons, List.drop, List.take] at h2
  obtain ⟨e0, i0⟩ := h0
  obtain ⟨⟨v1, e1, i1⟩, a1, b1⟩ := h1
  obtain ⟨i2, b2⟩ := h2
  cases e0; cases e1
  exact ⟨⟨x0, x1, x2⟩, ⟨_, _, rfl, i1, i2, i0⟩, a1, b1, b2⟩
theorem opens_func {H : Type} {enc : TypeId × Value → H} {w : World} {sp : Nat → Bool} : Opens enc Tryd.prog w sp 24 (fun cs y => FuncC (roW w) w cs y ∧ okFunc y) := fun fuel cs x h hz => by
  obtain ⟨hl, hf⟩ := open_fields Tryd.underlying24 h hz
  rw [co_24] at hl
  obtain ⟨c0, c1, c2, c3, rfl⟩ : ∃ c0 c1 c2 c3, cs = [c0, c1, c2, c3] := by
    match cs, hl with
    | [c0, c1, c2, c3], _ => exact ⟨_, _, _, _, rfl⟩
  obtain ⟨x0, h0⟩ := hf 0 _ 9 0 1 _ _ rfl rfl rfl co_9 (opens_str Tryd.underlying9)
  simp only [List.take_succ_cons, List.drop, List.take] at h0
  obtain ⟨x1, h1⟩ := hf 1 _ 3 1 1 _ _ rfl rfl rfl co_3 (opens_i64 Tryd.underlying3)
  simp only [List.take_succ_cons, List.drop, List.take] at h1
  obtain ⟨x2, h2⟩ := hf 2 _ 3 2 1 _ _ rfl rfl rfl co_3 (opens_i64 Tryd.underlying3)
  simp only [List.take_succ_cons, List.drop, List.take] at h2
  obtain ⟨x3, h3⟩ := hf 3 _ 22 3 1 _ _ rfl rfl rfl co_22 (opens_sl Tryd.underlying22 co_59 bo_59 (by decide) opens_block)
  simp only [List.take_succ_cons, List.drop, List.take] at h3
  obtain ⟨e0, i0⟩ := h0
  obtain ⟨e1, i1⟩ := h1
  obtain ⟨e2, i2⟩ := h2
  obtain ⟨⟨v3, e3, i3⟩, a3, b3⟩ := h3
  cases e0; cases e1; cases e2; cases e3
  exact ⟨⟨x0, x1, x2, x3⟩, ⟨_, rfl, i3, i0, i1, i2⟩, a3, b3⟩
theorem opens_glob {H : Type} {enc : TypeId × Value → H} {w : World} {sp : Nat → Bool} : Opens enc Tryd.prog w sp 76 (fun cs y => GlobC cs y ∧ (fun _ => True) y) := fun fuel cs x h hz => by
  obtain ⟨hl, hf⟩ := open_fields Tryd.underlying76 h hz
  rw [co_76] at hl
  obtain ⟨c0, c1, c2, c3, rfl⟩ : ∃ c0 c1 c2 c3, cs = [c0, c1, c2, c3] := by
    match cs, hl with
    | [c0, c1, c2, c3], _ => exact ⟨_, _, _, _, rfl⟩
  obtain ⟨x0, h0⟩ := hf 0 _ 9 0 1 _ _ rfl rfl rfl co_9 (opens_str Tryd.underlying9)
  simp only [List.take_succ_cons, List.drop, List.take] at h0
  obtain ⟨x1, h1⟩ := hf 1 _ 3 1 1 _ _ rfl rfl rfl co_3 (opens_i64 Tryd.underlying3)
  simp only [List.take_succ_cons, List.drop, List.take] at h1
  obtain ⟨x2, h2⟩ := hf 2 _ 4 2 1 _ _ rfl rfl rfl co_4 (opens_bool Tryd.underlying4)
  simp only [List.take_succ_cons, List.drop, List.take] at h2
  obtain ⟨x3, h3⟩ := hf 3 _ 52 3 1 _ _ rfl rfl rfl co_52 (opens_u64 Tryd.underlying52)
  simp only [List.take_succ_cons, List.drop, List.take] at h3
  obtain ⟨e0, i0⟩ := h0
  obtain ⟨e1, i1⟩ := h1
  have e2 : [c2] = [.bool x2] := h2
  obtain ⟨e3, i3⟩ := h3
  cases e0; cases e1; cases e2; cases e3
  exact ⟨⟨x0, x1, x2, x3⟩, ⟨rfl, i0, i1, i3⟩, trivial⟩
theorem opens_mod {H : Type} {enc : TypeId × Value → H} {w : World} {sp : Nat → Bool} : Opens enc Tryd.prog w sp 44 (fun cs y => ModC (roW w) w cs y ∧ okMod y) := fun fuel cs x h hz => by
  obtain ⟨hl, hf⟩ := open_fields Tryd.underlying44 h hz
  rw [co_44] at hl
  obtain ⟨c0, c1, rfl⟩ : ∃ c0 c1, cs = [c0, c1] := by
    match cs, hl with
    | [c0, c1], _ => exact ⟨_, _, rfl⟩
  obtain ⟨x0, h0⟩ := hf 0 _ 41 0 1 _ _ rfl rfl rfl co_41 (opens_sl Tryd.underlying41 co_24 bo_24 (by decide) opens_func)
  simp only [List.take_succ_cons, List.drop, List.take] at h0
  obtain ⟨x1, h1⟩ := hf 1 _ 42 1 1 _ _ rfl rfl rfl co_42 (opens_sl Tryd.underlying42 co_76 bo_76 (by decide) opens_glob)
  simp only [List.take_succ_cons, List.drop, List.take] at h1
  obtain ⟨⟨v0, e0, i0⟩, a0, b0⟩ := h0
  obtain ⟨⟨v1, e1, i1⟩, _, b1⟩ := h1
  cases e0; cases e1
  exact ⟨⟨x0, x1⟩, ⟨_, _, rfl, i0, i1⟩, a0, b0, b1⟩
theorem opens_op {H : Type} {enc : TypeId × Value → H} {w : World} {sp : Nat → Bool} : Opens enc Tryd.prog w sp 36 (fun cs y => OpC cs y ∧ (fun _ => True) y) := fun fuel cs x h hz => by
  obtain ⟨hl, hf⟩ := open_fields Tryd.underlying36 h hz
  rw [co_36] at hl
  obtain ⟨c0, c1, c2, c3, c4, rfl⟩ : ∃ c0 c1 c2 c3 c4, cs = [c0, c1, c2, c3, c4] := by
    match cs, hl with
    | [c0, c1, c2, c3, c4], _ => exact ⟨_, _, _, _, _, rfl⟩
  obtain ⟨x0, h0⟩ := hf 0 _ 3 0 1 _ _ rfl rfl rfl co_3 (opens_i64 Tryd.underlying3)
  simp only [List.take_succ_cons, List.drop, List.take] at h0
  obtain ⟨x1, h1⟩ := hf 1 _ 3 1 1 _ _ rfl rfl rfl co_3 (opens_i64 Tryd.underlying3)
  simp only [List.take_succ_cons, List.drop, List.take] at h1
  obtain ⟨x2, h2⟩ := hf 2 _ 3 2 1 _ _ rfl rfl rfl co_3 (opens_i64 Tryd.underlying3)
  simp only [List.take_succ_cons, List.drop, List.take] at h2
  obtain ⟨x3, h3⟩ := hf 3 _ 3 3 1 _ _ rfl rfl rfl co_3 (opens_i64 Tryd.underlying3)
  simp only [List.take_succ_cons, List.drop, List.take] at h3
  obtain ⟨x4, h4⟩ := hf 4 _ 2 4 1 _ _ rfl rfl rfl co_2 (opens_i64 Tryd.underlying2)
  simp only [List.take_succ_cons, List.drop, List.take] at h4
  obtain ⟨e0, i0⟩ := h0
  obtain ⟨e1, i1⟩ := h1
  obtain ⟨e2, i2⟩ := h2
  obtain ⟨e3, i3⟩ := h3
  obtain ⟨e4, i4⟩ := h4
  cases e0; cases e1; cases e2; cases e3; cases e4
  exact ⟨⟨x0, x1, x2, x3, x4⟩, ⟨rfl, i0, i1, i2, i3, i4⟩, trivial⟩
theorem opens_rel {H : Type} {enc : TypeId × Value → H} {w : World} {sp : Nat → Bool} : Opens enc Tryd.prog w sp 34 (fun cs y => RelC cs y ∧ (fun _ => True) y) := fun fuel cs x h hz => by
  obtain ⟨hl, hf⟩ := open_fields Tryd.underlying34 h hz
  rw [co_34] at hl
  obtain ⟨c0, c1, c2, rfl⟩ : ∃ c0 c1 c2, cs = [c0, c1, c2] := by
    match cs, hl with
    | [c0, c1, c2], _ => exact ⟨_, _, _, rfl⟩
  obtain ⟨x0, h0⟩ := hf 0 _ 3 0 1 _ _ rfl rfl rfl co_3 (opens_i64 Tryd.underlying3)
  simp only [List.take_succ_cons, List.drop, List.take] at h0
  obtain ⟨x1, h1⟩ := hf 1 _ 3 1 1 _ _ rfl rfl rfl co_3 (opens_i64 Tryd.underlying3)
  simp only [List.take_succ_cons, List.drop, List.take] at h1
  obtain ⟨x2, h2⟩ := hf 2 _ 9 2 1 _ _ rfl rfl rfl co_9 (opens_str Tryd.underlying9)
  simp only [List.take_succ_cons, List.drop, List.take] at h2
  obtain ⟨e0, i0⟩ := h0
  obtain ⟨e1, i1⟩ := h1
  obtain ⟨e2, i2⟩ := h2
  cases e0; cases e1; cases e2
  exact ⟨⟨x0, x1, x2⟩, ⟨rfl, i2, i0, i1⟩, trivial⟩
theorem opens_code {H : Type} {enc : TypeId × Value → H} {w : World} {sp : Nat → Bool} : Opens enc Tryd.prog w sp 30 (fun cs y => CodeC (roW w) w cs y ∧ (fun _ => True) y) := fun fuel cs x h hz => by
  obtain ⟨hl, hf⟩ := open_fields Tryd.underlying30 h hz
  rw [co_30] at hl
  obtain ⟨c0, c1, c2, rfl⟩ : ∃ c0 c1 c2, cs = [c0, c1, c2] := by
    match cs, hl with
    | [c0, c1, c2], _ => exact ⟨_, _, _, rfl⟩
  obtain ⟨x0, h0⟩ := hf 0 _ 9 0 1 _ _ rfl rfl rfl co_9 (opens_str Tryd.underlying9)
  simp only [List.take_succ_cons, List.drop, List.take] at h0
  obtain ⟨x1, h1⟩ := hf 1 _ 27 1 1 _ _ rfl rfl rfl co_27 (opens_sl Tryd.underlying27 co_36 bo_36 (by decide) opens_op)
  simp only [List.take_succ_cons, List.drop, List.take] at h1
  obtain ⟨x2, h2⟩ := hf 2 _ 28 2 1 _ _ rfl rfl rfl co_28 (opens_sl Tryd.underlying28 co_34 bo_34 (by decide) opens_rel)
  simp only [List.take_succ_cons, List.drop, List.take] at h2
  obtain ⟨e0, i0⟩ := h0
  obtain ⟨⟨v1, e1, i1⟩, _, _⟩ := h1
  obtain ⟨⟨v2, e2, i2⟩, _, _⟩ := h2
  cases e0; cases e1; cases e2
  exact ⟨⟨x0, x1, x2⟩, ⟨_, _, rfl, i1, i2, i0⟩, trivial⟩
end Go.Proofs.YtcmmhfknkldmcaaDoor


namespace Go.Proofs.YtcmmhfknkldmcaaDoor
open Go.ChangeShapes Go.WideShapes Go.ChangeAt Go.RowKit
theorem gLaid : Tryd.prog.globalNamed "marline/gen.reckons" = some 0 := by kernel_rfl
theorem tLaid : (Tryd.prog.globals[0]?).map (·.type) = some 94 := by kernel_rfl
theorem door_met (os : Os) (args : Array Value) : laidMetH Tryd.prog [("marline/gen.reckons", Rows.laid_marline_gen_reckons)] ((World.doorLaid Tryd.prog 400 os).forCall (fun _ _ => 0) ⟨#[], args, []⟩).memory :=
  laidMetH_of_parts3 (fuel := 8) (laidMet_of_run' 8 (by kernel_rfl) (by kernel_rfl)) (by kernel_rfl) (by kernel_rfl)
theorem of_laid {W : World} (h : laidMetH Tryd.prog [("marline/gen.reckons", Rows.laid_marline_gen_reckons)] W) : 0 < W.heap.size ∧ CellsAt W 0 0 [.int .i64 0, .int .i64 0, .int .i64 1, .int .i64 2, .int .i64 9, .int .i64 8, .int .i64 7, .int .i64 5, .int .i64 3, .int .i64 6, .int .i64 4, .int .i64 2] := by
  rw [MakeChecks.laidMetH_plain _ _ _ (by kernel_rfl)] at h
  obtain ⟨ps, ⟨g0, t0, cs0, f0, p0, q0, hg0, ht0, hv0, hd0, _, _⟩, _, _⟩ := h
  obtain rfl := Option.some.inj (gLaid.symm.trans hg0)
  obtain rfl := Option.some.inj (tLaid.symm.trans ht0)
  obtain ⟨xs, m1, rfl, hx1, hlen, hn3, hel⟩ := DataW.trod_array Tryd.underlying94 hd0
  have c3 : Tryd.prog.cellsOf 3 = 1 := by kernel_rfl
  simp only [Prod.mk.injEq, Rows.laid_marline_gen_reckons, DataW.agg.injEq] at hx1
  have key : ∀ (j : Nat) (v : Value), ([.int .i64 0, .int .i64 0, .int .i64 1, .int .i64 2, .int .i64 9, .int .i64 8, .int .i64 7, .int .i64 5, .int .i64 3, .int .i64 6, .int .i64 4, .int .i64 2] : List Value)[j]? = some v → cs0.toList[j]? = some v := fun j v hj => by
    have hjl : j < 12 := by have := (List.getElem?_eq_some_iff.1 hj).1; simpa using this
    have h1 := hel j hjl
    have hxj : xs[j]? = some xs[j] := List.getElem?_eq_getElem (by omega)
    rw [hxj, c3] at h1
    obtain ⟨k, e1, e2, _⟩ := DataW.trod_int Tryd.underlying3 h1
    have h2 : (xs.map (·.1))[j]? = some (.lit (.int .i64 k)) := by rw [List.getElem?_map, hxj, e2]; rfl
    rw [← hx1.1] at h2
    have h3 : v = .int .i64 k := by
      have hjs : j = 0 ∨ j = 1 ∨ j = 2 ∨ j = 3 ∨ j = 4 ∨ j = 5 ∨ j = 6 ∨ j = 7 ∨ j = 8 ∨ j = 9 ∨ j = 10 ∨ j = 11 := by omega
      rcases hjs with rfl | rfl | rfl | rfl | rfl | rfl | rfl | rfl | rfl | rfl | rfl | rfl <;> (simp at hj h2; subst hj; subst h2; rfl)
    have h4 : (cs0.toList.drop (j * 1)).take 1 = [.int .i64 k] := e1
    rw [Nat.mul_one] at h4
    have h5 : ((cs0.toList.drop j).take 1)[0]? = some (.int .i64 k) := by rw [h4]; rfl
    rw [List.getElem?_take, if_pos (by omega), List.getElem?_drop, Nat.add_zero] at h5
    rw [h3]; exact h5
  have hc : ∀ (j : Nat) (v : Value), ([.int .i64 0, .int .i64 0, .int .i64 1, .int .i64 2, .int .i64 9, .int .i64 8, .int .i64 7, .int .i64 5, .int .i64 3, .int .i64 6, .int .i64 4, .int .i64 2] : List Value)[j]? = some v → W.cell? ⟨0, j, none⟩ = some v := fun j v hj => by
    rw [World.var?_cell gLaid hv0 j, ← Array.getElem?_toList]; exact key j v hj
  refine ⟨?_, fun j v hj => by rw [Nat.zero_add]; exact hc j v hj⟩
  have h0 := hc 0 _ rfl
  exact cell_lt h0
end Go.Proofs.YtcmmhfknkldmcaaDoor
