/-
  Contracts of layer 10 (merge). No condition beyond those that each theorem states.
-/
import Derived.Test.YtapjejjmhmdmdaaDoorZ11
import Derived.Test.YtapjejjmhmdmdaaDoorZ4
import Derived.Test.YtapjejjmhmdmdaaDoorP8
namespace Go.Proofs.YtapjejjmhmdmdaaDoor
open Go.RowKit

theorem few10_ret (ms : List DMod) (ks : List ByteArray) (vx vk : Value) {w : World} {ro : Nat → Prop} (hro : ∀ b, ro b → b < w.heap.size) (hx : SlV ro w 2 (ModC ro w) vx ms) (hk : SlV ro w 1 StrC vk ks) : Ret Tryd.prog 13 #[vx, vk] w fun v w' => v = .bool (fewB ms ks) ∧ Below w.heap.size w w' := by
 have hxo := hx
 obtain ⟨adl, capl, rfl, hla, hlb, hlc, hld⟩ := hxo
 have hlm : ms.length ≤ 9223372036854775807 := slv_len hx
 obtain ⟨adk, capk, rfl, hk0a, hk0b, hk0c, hk0d⟩ := id hk
 have hk0m : ks.length ≤ 9223372036854775807 := by have h1 := hk0a; have h2 := hk0b; unfold maxLen at h2; omega
 refine Ret.enter (P := Tryd.prog) (n := 13) (args := [.slice adl ms.length capl, .slice adk ks.length capk]) (σ := [(0, .slice adl ms.length capl), (1, .slice adk ks.length capk)]) Tryd.func13 rfl rfl rfl rfl ?_
 have hS := St.start (ro := ro) hro
 refine W.seq (W.region (WL.assign rfl rfl rfl (WL.nil (N.seq (W.seq (W.region (WL.move rfl rfl rfl (WL.lenSlice Tryd.underlying22 rfl rfl rfl (WL.bin rfl rfl rfl rfl rfl ?_)))))))))
 refine WL.move rfl rfl rfl ?_
 cases hg1 : (decide ((ms.length : Int) ≤ 16))
 ·
  have hg1p : ¬ ((ms.length : Int) ≤ 16) := by simpa using hg1
  refine WL.skp rfl rfl (WL.skp rfl rfl (WL.skp rfl rfl (WL.pick (v := .bool false) rfl rfl rfl rfl rfl rfl (WL.assign rfl rfl rfl (WL.nil (N.seq ?_))))))
  refine Fin.ret1 rfl (v := .bool false) rfl ?_
  refine ⟨?_, hS.below⟩
  congr 1
  rw [Bool.eq_iff_iff, fewB_iff]
  first | (simp; omega) | (simp only [decide_eq_true_eq]; omega)
 have hg1p : (ms.length : Int) ≤ 16 := by simpa using hg1
 refine WL.move rfl rfl rfl (WL.lenSlice Tryd.underlying25 rfl rfl rfl (WL.bin rfl rfl rfl rfl rfl (WL.pick (v := .bool (decide ((ks.length : Int) ≤ 16))) rfl rfl rfl rfl rfl rfl (WL.assign rfl rfl rfl (WL.nil (N.seq ?_))))))
 refine Fin.ret1 rfl (v := .bool (decide ((ks.length : Int) ≤ 16))) rfl ?_
 refine ⟨?_, hS.below⟩
 congr 1
 rw [Bool.eq_iff_iff, fewB_iff]
 first | (simp; omega) | (simp only [decide_eq_true_eq]; omega)

end Go.Proofs.YtapjejjmhmdmdaaDoor
