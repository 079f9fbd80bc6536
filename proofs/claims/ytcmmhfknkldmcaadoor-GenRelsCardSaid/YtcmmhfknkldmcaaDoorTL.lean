/-
  What the laid variable gives a walk; the heap that the door's own run leaves meets the row's condition. No condition beyond those that each theorem states.
-/
import Derived.Test.YtcmmhfknkldmcaaDoorG2
import Derived.Test.YtcmmhfknkldmcaaDoorRows
import Derived.ProofKit
import Derived.LaidMore
import Derived.OpenShut
import Derived.Stop.Joined
namespace Go.Proofs.YtcmmhfknkldmcaaDoor
open Go.ChangeShapes Go.WideShapes Go.ChangeAt Go.RowKit
theorem gLaid : Tryd.prog.globalNamed "marline/gen.reckons" = some 0 := by kernel_rfl
theorem tLaid : (Tryd.prog.globals[0]?).map (·.type) = some 94 := by kernel_rfl
theorem door_met (os : Os) (args : Array Value) : laidMetH Tryd.prog [("marline/gen.reckons", Rows.laid_marline_gen_reckons)] ((World.doorLaid Tryd.prog 400 os).forCall (fun _ _ => 0) ⟨#[], args, []⟩).memory :=
  laidMetH_of_parts3 (fuel := 8) (laidMet_of_run' 8 (by kernel_rfl) (by kernel_rfl)) (by kernel_rfl) (by kernel_rfl)
theorem of_laid {W : World} (h : laidMetH Tryd.prog [("marline/gen.reckons", Rows.laid_marline_gen_reckons)] W) : 0 < W.heap.size ∧ CellsAt W 0 0 [.int .i64 0, .int .i64 0, .int .i64 1, .int .i64 2, .int .i64 9, .int .i64 8, .int .i64 7, .int .i64 5, .int .i64 3, .int .i64 6, .int .i64 4, .int .i64 2] := by
  rw [MakeChecks.laidMetH_plain _ _ _ (by kernel_rfl)] at h
  obtain ⟨ps, ⟨g0, t0, cs0, f0, p0, q0, hg0, ht0, hv0, hd0, _, _⟩, _, _⟩ := h
  obtain rfl := Option.some.inj (gLaid.symm.trans hg0)
  obtain rfl := Option.some.inj (tLaid.symm.trans ht0)
  obtain ⟨xs, m1, rfl, hx1, hlen, hn3, hel⟩ := DataW.trod_array Tryd.underlying94 hd0
  have c3 : Tryd.prog.cellsOf 3 = 1 := by kernel_rfl
  simp only [Prod.mk.injEq, Rows.laid_marline_gen_reckons, DataW.agg.injEq] at hx1
  have key : ∀ (j : Nat) (v : Value), ([.int .i64 0, .int .i64 0, .int .i64 1, .int .i64 2, .int .i64 9, .int .i64 8, .int .i64 7, .int .i64 5, .int .i64 3, .int .i64 6, .int .i64 4, .int .i64 2] : List Value)[j]? = some v → cs0.toList[j]? = some v := fun j v hj => by
    have hjl : j < 12 := by have := (List.getElem?_eq_some_iff.1 hj).1; simpa using this
    have h1 := hel j hjl
    have hxj : xs[j]? = some xs[j] := List.getElem?_eq_getElem (by omega)
    rw [hxj, c3] at h1
    obtain ⟨k, e1, e2, _⟩ := DataW.trod_int Tryd.underlying3 h1
    have h2 : (xs.map (·.1))[j]? = some (.lit (.int .i64 k)) := by rw [List.getElem?_map, hxj, e2]; rfl
    rw [← hx1.1] at h2
    have h3 : v = .int .i64 k := by
      have hjs : j = 0 ∨ j = 1 ∨ j = 2 ∨ j = 3 ∨ j = 4 ∨ j = 5 ∨ j = 6 ∨ j = 7 ∨ j = 8 ∨ j = 9 ∨ j = 10 ∨ j = 11 := by omega
      rcases hjs with rfl | rfl | rfl | rfl | rfl | rfl | rfl | rfl | rfl | rfl | rfl | rfl <;> (simp at hj h2; subst hj; subst h2; rfl)
    have h4 : (cs0.toList.drop (j * 1)).take 1 = [.int .i64 k] := e1
    rw [Nat.mul_one] at h4
    have h5 : ((cs0.toList.drop j).take 1)[0]? = some (.int .i64 k) := by rw [h4]; rfl
    rw [List.getElem?_take, if_pos (by omega), List.getElem?_drop, Nat.add_zero] at h5
    rw [h3]; exact h5
  have hc : ∀ (j : Nat) (v : Value), ([.int .i64 0, .int .i64 0, .int .i64 1, .int .i64 2, .int .i64 9, .int .i64 8, .int .i64 7, .int .i64 5, .int .i64 3, .int .i64 6, .int .i64 4, .int .i64 2] : List Value)[j]? = some v → W.cell? ⟨0, j, none⟩ = some v := fun j v hj => by
    rw [World.var?_cell gLaid hv0 j, ← Array.getElem?_toList]; exact key j v hj
  refine ⟨?_, fun j v hj => by rw [Nat.zero_add]; exact hc j v hj⟩
  have h0 := hc 0 _ rfl
  exact cell_lt h0
end Go.Proofs.YtcmmhfknkldmcaaDoor
