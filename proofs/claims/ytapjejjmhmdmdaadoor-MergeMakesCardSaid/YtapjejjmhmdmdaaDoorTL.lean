/-
  How the arguments of these laws open. No condition beyond those that each theorem states.
-/
import Derived.Test.YtapjejjmhmdmdaaDoorA30
import Derived.Test.YtapjejjmhmdmdaaDoorA25
import Derived.Test.YtapjejjmhmdmdaaDoorRows
import Derived.Lib.LaidTab
import Derived.ProofKit
import Derived.LaidMore
import Derived.OpenShut
import Derived.Stop.Joined
namespace Go.Proofs.YtapjejjmhmdmdaaDoor
open Go.ChangeShapes Go.WideShapes Go.ChangeAt Go.RowKit
theorem co_86 : Tryd.prog.cellsOf 86 = 6 := by kernel_rfl
theorem co_3 : Tryd.prog.cellsOf 3 = 1 := by kernel_rfl
theorem co_36 : Tryd.prog.cellsOf 36 = 1 := by kernel_rfl
theorem co_9 : Tryd.prog.cellsOf 9 = 1 := by kernel_rfl
theorem co_84 : Tryd.prog.cellsOf 84 = 1 := by kernel_rfl
theorem bo_3 : Tryd.prog.bytesOf 3 = 8 := by kernel_rfl
theorem co_89 : Tryd.prog.cellsOf 89 = 6 := by kernel_rfl
theorem co_91 : Tryd.prog.cellsOf 91 = 8 := by kernel_rfl
theorem co_87 : Tryd.prog.cellsOf 87 = 1 := by kernel_rfl
theorem bo_86 : Tryd.prog.bytesOf 86 = 72 := by kernel_rfl
theorem co_35 : Tryd.prog.cellsOf 35 = 4 := by kernel_rfl
theorem co_33 : Tryd.prog.cellsOf 33 = 1 := by kernel_rfl
theorem bo_91 : Tryd.prog.bytesOf 91 = 112 := by kernel_rfl
theorem co_38 : Tryd.prog.cellsOf 38 = 4 := by kernel_rfl
theorem co_4 : Tryd.prog.cellsOf 4 = 1 := by kernel_rfl
theorem co_32 : Tryd.prog.cellsOf 32 = 2 := by kernel_rfl
theorem co_29 : Tryd.prog.cellsOf 29 = 1 := by kernel_rfl
theorem bo_35 : Tryd.prog.bytesOf 35 = 56 := by kernel_rfl
theorem co_30 : Tryd.prog.cellsOf 30 = 1 := by kernel_rfl
theorem bo_38 : Tryd.prog.bytesOf 38 = 40 := by kernel_rfl
theorem opens_inst {H : Type} {enc : TypeId × Value → H} {w : World} {sp : Nat → Bool} : Opens enc Tryd.prog w sp 86 (fun cs y => InstC (roW w) w cs y ∧ okInst y) := fun fuel cs x h hz => by
  obtain ⟨hl, hf⟩ := open_fields Tryd.underlying86 h hz
  rw [co_86] at hl
  obtain ⟨c0, c1, c2, c3, c4, c5, rfl⟩ : ∃ c0 c1 c2 c3 c4 c5, cs = [c0, c1, c2, c3, c4, c5] := by
    match cs, hl with
    | [c0, c1, c2, c3, c4, c5], _ => exact ⟨_, _, _, _, _, _, rfl⟩
  obtain ⟨x0, h0⟩ := hf 0 _ 3 0 1 _ _ rfl rfl rfl co_3 (opens_i64 Tryd.underlying3)
  simp only [List.drop_succ_cons, List.drop_zero, List.take_succ_cons, List.take_zero, List.drop, List.take] at h0
  obtain ⟨x1, h1⟩ := hf 1 _ 3 1 1 _ _ rfl rfl rfl co_3 (opens_i64 Tryd.underlying3)
  simp only [List.drop_succ_cons, List.drop_zero, List.take_succ_cons, List.take_zero, List.drop, List.take] at h1
  obtain ⟨x2, h2⟩ := hf 2 _ 3 2 1 _ _ rfl rfl rfl co_3 (opens_i64 Tryd.underlying3)
  simp only [List.drop_succ_cons, List.drop_zero, List.take_succ_cons, List.take_zero, List.drop, List.take] at h2
  obtain ⟨x3, h3⟩ := hf 3 _ 36 3 1 _ _ rfl rfl rfl co_36 (opens_u64 Tryd.underlying36)
  simp only [List.drop_succ_cons, List.drop_zero, List.take_succ_cons, List.take_zero, List.drop, List.take] at h3
  obtain ⟨x4, h4⟩ := hf 4 _ 9 4 1 _ _ rfl rfl rfl co_9 (opens_str Tryd.underlying9)
  simp only [List.drop_succ_cons, List.drop_zero, List.take_succ_cons, List.take_zero, List.drop, List.take] at h4
  obtain ⟨x5, h5⟩ := hf 5 _ 84 5 1 _ _ rfl rfl rfl co_84 (opens_sl (B := fun _ => True) Tryd.underlying84 co_3 bo_3 (by decide) (((opens_i64 Tryd.underlying3)).mono fun _ _ q => ⟨q, trivial⟩))
  simp only [List.drop_succ_cons, List.drop_zero, List.take_succ_cons, List.take_zero, List.drop, List.take] at h5
  obtain ⟨e0, i0⟩ := h0
  obtain ⟨e1, i1⟩ := h1
  obtain ⟨e2, i2⟩ := h2
  obtain ⟨e3, i3⟩ := h3
  obtain ⟨e4, i4⟩ := h4
  obtain ⟨⟨v5, e5, i5⟩, _, b5⟩ := h5
  cases e0; cases e1; cases e2; cases e3; cases e4; cases e5
  exact ⟨⟨x0, x1, x2, x3, x4, x5⟩, ⟨_, rfl, i5, i0, i1, i2, i3, i4⟩, b5⟩
theorem opens_term {H : Type} {enc : TypeId × Value → H} {w : World} {sp : Nat → Bool} : Opens enc Tryd.prog w sp 89 (fun cs y => TermC (roW w) w cs y ∧ okTerm y) := fun fuel cs x h hz => by
  obtain ⟨hl, hf⟩ := open_fields Tryd.underlying89 h hz
  rw [co_89] at hl
  obtain ⟨c0, c1, c2, c3, c4, c5, rfl⟩ : ∃ c0 c1 c2 c3 c4 c5, cs = [c0, c1, c2, c3, c4, c5] := by
    match cs, hl with
    | [c0, c1, c2, c3, c4, c5], _ => exact ⟨_, _, _, _, _, _, rfl⟩
  obtain ⟨x0, h0⟩ := hf 0 _ 3 0 1 _ _ rfl rfl rfl co_3 (opens_i64 Tryd.underlying3)
  simp only [List.drop_succ_cons, List.drop_zero, List.take_succ_cons, List.take_zero, List.drop, List.take] at h0
  obtain ⟨x1, h1⟩ := hf 1 _ 3 1 1 _ _ rfl rfl rfl co_3 (opens_i64 Tryd.underlying3)
  simp only [List.drop_succ_cons, List.drop_zero, List.take_succ_cons, List.take_zero, List.drop, List.take] at h1
  obtain ⟨x2, h2⟩ := hf 2 _ 3 2 1 _ _ rfl rfl rfl co_3 (opens_i64 Tryd.underlying3)
  simp only [List.drop_succ_cons, List.drop_zero, List.take_succ_cons, List.take_zero, List.drop, List.take] at h2
  obtain ⟨x3, h3⟩ := hf 3 _ 84 3 1 _ _ rfl rfl rfl co_84 (opens_sl (B := fun _ => True) Tryd.underlying84 co_3 bo_3 (by decide) (((opens_i64 Tryd.underlying3)).mono fun _ _ q => ⟨q, trivial⟩))
  simp only [List.drop_succ_cons, List.drop_zero, List.take_succ_cons, List.take_zero, List.drop, List.take] at h3
  obtain ⟨x4, h4⟩ := hf 4 _ 3 4 1 _ _ rfl rfl rfl co_3 (opens_i64 Tryd.underlying3)
  simp only [List.drop_succ_cons, List.drop_zero, List.take_succ_cons, List.take_zero, List.drop, List.take] at h4
  obtain ⟨x5, h5⟩ := hf 5 _ 84 5 1 _ _ rfl rfl rfl co_84 (opens_sl (B := fun _ => True) Tryd.underlying84 co_3 bo_3 (by decide) (((opens_i64 Tryd.underlying3)).mono fun _ _ q => ⟨q, trivial⟩))
  simp only [List.drop_succ_cons, List.drop_zero, List.take_succ_cons, List.take_zero, List.drop, List.take] at h5
  obtain ⟨e0, i0⟩ := h0
  obtain ⟨e1, i1⟩ := h1
  obtain ⟨e2, i2⟩ := h2
  obtain ⟨⟨v3, e3, i3⟩, _, b3⟩ := h3
  obtain ⟨e4, i4⟩ := h4
  obtain ⟨⟨v5, e5, i5⟩, _, b5⟩ := h5
  cases e0; cases e1; cases e2; cases e3; cases e4; cases e5
  exact ⟨⟨x0, x1, x2, x3, x4, x5⟩, ⟨_, _, rfl, i3, i5, i0, i1, i2, i4⟩, b3, b5⟩
theorem opens_block {H : Type} {enc : TypeId × Value → H} {w : World} {sp : Nat → Bool} : Opens enc Tryd.prog w sp 91 (fun cs y => BlockC (roW w) w cs y ∧ okBlock y) := fun fuel cs x h hz => by
  obtain ⟨hl, hf⟩ := open_fields Tryd.underlying91 h hz
  rw [co_91] at hl
  obtain ⟨c0, c1, c2, c3, c4, c5, c6, c7, rfl⟩ : ∃ c0 c1 c2 c3 c4 c5 c6 c7, cs = [c0, c1, c2, c3, c4, c5, c6, c7] := by
    match cs, hl with
    | [c0, c1, c2, c3, c4, c5, c6, c7], _ => exact ⟨_, _, _, _, _, _, _, _, rfl⟩
  obtain ⟨x0, h0⟩ := hf 0 _ 3 0 1 _ _ rfl rfl rfl co_3 (opens_i64 Tryd.underlying3)
  simp only [List.drop_succ_cons, List.drop_zero, List.take_succ_cons, List.take_zero, List.drop, List.take] at h0
  obtain ⟨x1, h1⟩ := hf 1 _ 87 1 1 _ _ rfl rfl rfl co_87 (opens_sl Tryd.underlying87 co_86 bo_86 (by decide) opens_inst)
  simp only [List.drop_succ_cons, List.drop_zero, List.take_succ_cons, List.take_zero, List.drop, List.take] at h1
  obtain ⟨x2, h2⟩ := hf 2 _ 89 2 6 _ _ rfl rfl rfl co_89 opens_term
  simp only [List.drop_succ_cons, List.drop_zero, List.take_succ_cons, List.take_zero, List.drop, List.take] at h2
  obtain ⟨e0, i0⟩ := h0
  obtain ⟨⟨v1, e1, i1⟩, a1, b1⟩ := h1
  obtain ⟨i2, b2⟩ := h2
  cases e0; cases e1
  exact ⟨⟨x0, x1, x2⟩, ⟨_, _, rfl, i1, i2, i0⟩, a1, b1, b2⟩
theorem opens_func {H : Type} {enc : TypeId × Value → H} {w : World} {sp : Nat → Bool} : Opens enc Tryd.prog w sp 35 (fun cs y => FuncC (roW w) w cs y ∧ okFunc y) := fun fuel cs x h hz => by
  obtain ⟨hl, hf⟩ := open_fields Tryd.underlying35 h hz
  rw [co_35] at hl
  obtain ⟨c0, c1, c2, c3, rfl⟩ : ∃ c0 c1 c2 c3, cs = [c0, c1, c2, c3] := by
    match cs, hl with
    | [c0, c1, c2, c3], _ => exact ⟨_, _, _, _, rfl⟩
  obtain ⟨x0, h0⟩ := hf 0 _ 9 0 1 _ _ rfl rfl rfl co_9 (opens_str Tryd.underlying9)
  simp only [List.drop_succ_cons, List.drop_zero, List.take_succ_cons, List.take_zero, List.drop, List.take] at h0
  obtain ⟨x1, h1⟩ := hf 1 _ 3 1 1 _ _ rfl rfl rfl co_3 (opens_i64 Tryd.underlying3)
  simp only [List.drop_succ_cons, List.drop_zero, List.take_succ_cons, List.take_zero, List.drop, List.take] at h1
  obtain ⟨x2, h2⟩ := hf 2 _ 3 2 1 _ _ rfl rfl rfl co_3 (opens_i64 Tryd.underlying3)
  simp only [List.drop_succ_cons, List.drop_zero, List.take_succ_cons, List.take_zero, List.drop, List.take] at h2
  obtain ⟨x3, h3⟩ := hf 3 _ 33 3 1 _ _ rfl rfl rfl co_33 (opens_sl Tryd.underlying33 co_91 bo_91 (by decide) opens_block)
  simp only [List.drop_succ_cons, List.drop_zero, List.take_succ_cons, List.take_zero, List.drop, List.take] at h3
  obtain ⟨e0, i0⟩ := h0
  obtain ⟨e1, i1⟩ := h1
  obtain ⟨e2, i2⟩ := h2
  obtain ⟨⟨v3, e3, i3⟩, a3, b3⟩ := h3
  cases e0; cases e1; cases e2; cases e3
  exact ⟨⟨x0, x1, x2, x3⟩, ⟨_, rfl, i3, i0, i1, i2⟩, a3, b3⟩
theorem opens_glob {H : Type} {enc : TypeId × Value → H} {w : World} {sp : Nat → Bool} : Opens enc Tryd.prog w sp 38 (fun cs y => GlobC cs y ∧ (fun _ => True) y) := fun fuel cs x h hz => by
  obtain ⟨hl, hf⟩ := open_fields Tryd.underlying38 h hz
  rw [co_38] at hl
  obtain ⟨c0, c1, c2, c3, rfl⟩ : ∃ c0 c1 c2 c3, cs = [c0, c1, c2, c3] := by
    match cs, hl with
    | [c0, c1, c2, c3], _ => exact ⟨_, _, _, _, rfl⟩
  obtain ⟨x0, h0⟩ := hf 0 _ 9 0 1 _ _ rfl rfl rfl co_9 (opens_str Tryd.underlying9)
  simp only [List.drop_succ_cons, List.drop_zero, List.take_succ_cons, List.take_zero, List.drop, List.take] at h0
  obtain ⟨x1, h1⟩ := hf 1 _ 3 1 1 _ _ rfl rfl rfl co_3 (opens_i64 Tryd.underlying3)
  simp only [List.drop_succ_cons, List.drop_zero, List.take_succ_cons, List.take_zero, List.drop, List.take] at h1
  obtain ⟨x2, h2⟩ := hf 2 _ 4 2 1 _ _ rfl rfl rfl co_4 (opens_bool Tryd.underlying4)
  simp only [List.drop_succ_cons, List.drop_zero, List.take_succ_cons, List.take_zero, List.drop, List.take] at h2
  obtain ⟨x3, h3⟩ := hf 3 _ 36 3 1 _ _ rfl rfl rfl co_36 (opens_u64 Tryd.underlying36)
  simp only [List.drop_succ_cons, List.drop_zero, List.take_succ_cons, List.take_zero, List.drop, List.take] at h3
  obtain ⟨e0, i0⟩ := h0
  obtain ⟨e1, i1⟩ := h1
  have e2 : [c2] = [.bool x2] := h2
  obtain ⟨e3, i3⟩ := h3
  cases e0; cases e1; cases e2; cases e3
  exact ⟨⟨x0, x1, x2, x3⟩, ⟨rfl, i0, i1, i3⟩, trivial⟩
theorem opens_mod {H : Type} {enc : TypeId × Value → H} {w : World} {sp : Nat → Bool} : Opens enc Tryd.prog w sp 32 (fun cs y => ModC (roW w) w cs y ∧ okMod y) := fun fuel cs x h hz => by
  obtain ⟨hl, hf⟩ := open_fields Tryd.underlying32 h hz
  rw [co_32] at hl
  obtain ⟨c0, c1, rfl⟩ : ∃ c0 c1, cs = [c0, c1] := by
    match cs, hl with
    | [c0, c1], _ => exact ⟨_, _, rfl⟩
  obtain ⟨x0, h0⟩ := hf 0 _ 29 0 1 _ _ rfl rfl rfl co_29 (opens_sl Tryd.underlying29 co_35 bo_35 (by decide) opens_func)
  simp only [List.drop_succ_cons, List.drop_zero, List.take_succ_cons, List.take_zero, List.drop, List.take] at h0
  obtain ⟨x1, h1⟩ := hf 1 _ 30 1 1 _ _ rfl rfl rfl co_30 (opens_sl Tryd.underlying30 co_38 bo_38 (by decide) opens_glob)
  simp only [List.drop_succ_cons, List.drop_zero, List.take_succ_cons, List.take_zero, List.drop, List.take] at h1
  obtain ⟨⟨v0, e0, i0⟩, a0, b0⟩ := h0
  obtain ⟨⟨v1, e1, i1⟩, _, b1⟩ := h1
  cases e0; cases e1
  exact ⟨⟨x0, x1⟩, ⟨_, _, rfl, i0, i1⟩, a0, b0, b1⟩
theorem bo_32 : Tryd.prog.bytesOf 32 = 48 := by kernel_rfl
theorem opens_mods {H : Type} {enc : TypeId × Value → H} {w : World} {sp : Nat → Bool} : Opens enc Tryd.prog w sp 22 (fun cs (ys : List DMod) => (∃ v, cs = [v] ∧ SlV (roW w) w 2 (ModC (roW w) w) v ys) ∧ (∀ y ∈ ys, okMod y) ∧ ys.length * 48 ≤ reachBytes) := opens_sl Tryd.underlying22 co_32 bo_32 (by decide) opens_mod
theorem bo_9 : Tryd.prog.bytesOf 9 = 16 := by kernel_rfl
theorem opens_strs {H : Type} {enc : TypeId × Value → H} {w : World} {sp : Nat → Bool} : Opens enc Tryd.prog w sp 25 (fun cs (ys : List ByteArray) => (∃ v, cs = [v] ∧ SlV (roW w) w 1 (StrC) v ys) ∧ (∀ y ∈ ys, (fun _ => True) y) ∧ ys.length * 16 ≤ reachBytes) := opens_sl Tryd.underlying25 co_9 bo_9 (by decide) ((opens_str Tryd.underlying9).mono fun _ _ q => ⟨q, trivial⟩)

end Go.Proofs.YtapjejjmhmdmdaaDoor


namespace Go.Proofs.YtapjejjmhmdmdaaDoor
open Go.ChangeShapes Go.WideShapes Go.ChangeAt Go.RowKit
theorem tPow : (Tryd.prog.globals[0]?).map (·.type) = some 164 := by kernel_rfl
set_option maxRecDepth 100000 in
theorem door_met (os : Os) (args : Array Value) : laidMetH Tryd.prog [("math/bits.deBruijn32tab", Rows.laid_math_bits_deBruijn32tab), ("math/bits.deBruijn64tab", Rows.laid_math_bits_deBruijn64tab), ("internal/strconv.uint64pow10", Rows.laid_internal_strconv_uint64pow10)] ((World.doorLaid Tryd.prog 400 os).forCall (fun _ _ => 0) ⟨#[], args, []⟩).memory :=
  laidMetH_of_parts3 (fuel := 8) (laidMet_of_run' 8 (by kernel_rfl) (by kernel_rfl)) (by kernel_rfl) (by kernel_rfl)
theorem laidPow : (Rows.laid_internal_strconv_uint64pow10 : DataW Unit) = Lib.tabData .u64 Lib.pow10Tab := by kernel_rfl
theorem of_laid {W : World} (h : laidMetH Tryd.prog [("math/bits.deBruijn32tab", Rows.laid_math_bits_deBruijn32tab), ("math/bits.deBruijn64tab", Rows.laid_math_bits_deBruijn64tab), ("internal/strconv.uint64pow10", Rows.laid_internal_strconv_uint64pow10)] W) : PowT (roW W) W := by
  rw [MakeChecks.laidMetH_plain _ _ _ (by kernel_rfl)] at h
  obtain ⟨ps, ⟨_, _, _, _, _, _, _, _, _, _, h1, _⟩, _⟩ := h
  obtain ⟨_, _, _, _, _, _, _, _, _, _, h2, _⟩ := h1
  obtain ⟨g, t, cs, fuel, p, q, hg, ht, hv, hd, _, _⟩ := h2
  obtain rfl := Option.some.inj (gPow.symm.trans hg)
  obtain rfl := Option.some.inj (tPow.symm.trans ht)
  rw [laidPow] at hd
  have key : Lib.TabIs Tryd.prog W "internal/strconv.uint64pow10" .u64 Lib.pow10Tab := by
    unfold Lib.TabIs
    rw [hv, ← Lib.cells_of_tab Tryd.underlying164 Tryd.underlying36 (by kernel_rfl) (by kernel_rfl) hd]
  exact ⟨cell_lt (key.cell gPow 0 (by rw [Lib.pow10Tab_length]; omega)), key⟩
end Go.Proofs.YtapjejjmhmdmdaaDoor
