/-
  Contracts of layer 10 (merge). No condition beyond those that each theorem states.
-/
import Derived.Test.YtapjejjmhmdmdaaDoorY9
import Derived.Test.YtapjejjmhmdmdaaDoorZ12
import Derived.Test.YtapjejjmhmdmdaaDoorS1
import Derived.Test.YtapjejjmhmdmdaaDoorA11
namespace Go.Proofs.YtapjejjmhmdmdaaDoor
open Go.RowKit

set_option maxRecDepth 10000 in
set_option maxHeartbeats 4000000 in
theorem mergeMakes_ret (ms : List DMod) (ks : List ByteArray) (vx vk : Value) {w : World} {ro : Nat → Prop} (hro : ∀ b, ro b → b < w.heap.size) (hx : SlV ro w 2 (ModC ro w) vx ms) (hk : SlV ro w 1 StrC vk ks) (hpw : PowT ro w) (hokm : ∀ m ∈ ms, okMod m) : Ret Tryd.prog 4 #[vx, vk] w fun v w' => v = .bool true ∧ Below w.heap.size w w' := by
 have hxo := hx
 obtain ⟨adl, capl, rfl, hla, hlb, hlc, hld⟩ := hxo
 have hlm : ms.length ≤ 9223372036854775807 := slv_len hx
 obtain ⟨adk, capk, rfl, hk0a, hk0b, hk0c, hk0d⟩ := id hk
 have hk0m : ks.length ≤ 9223372036854775807 := by have h1 := hk0a; have h2 := hk0b; unfold maxLen at h2; omega
 refine Ret.enter (P := Tryd.prog) (n := 50) (args := [.slice adl ms.length capl, .slice adk ks.length capk]) (σ := [(0, .slice adl ms.length capl), (1, .slice adk ks.length capk)]) Tryd.func4 rfl rfl rfl rfl ?_
 have hS := St.start (ro := ro) hro
 have hsub : ∀ b, ro b → ro b ∨ w.heap.size ≤ b := fun _ h => .inl h
 refine W.seq (W.region (WL.assign rfl rfl rfl (WL.nil (N.seq (W.seq (W.region ?_))))))
 refine WL.callF (vs := []) Tryd.func9 (by kernel_rfl) rfl rfl rfl (shown10_ret (ro := ro) (fun b hb => (hS.snap b hb).1) (hpw.keep hS.alike)) ?_
 rintro v w1 ⟨rfl, hbl⟩
 replace hS := hS.grow hbl
 refine WL.assign rfl rfl rfl (WL.nil (N.seq (W.seq (W.region (WL.move rfl rfl rfl ?_)))))
 refine WL.callF (vs := [.slice adl ms.length capl]) Tryd.func10 (by kernel_rfl) rfl rfl rfl (right10_ret ms _ (ro := ro) (fun b hb => (hS.snap b hb).1) (SlV.keep hx hS.alike (fun _ _ q => q.keep hS.alike)) hokm) ?_
 rintro v w2 ⟨rfl, hbl⟩
 replace hS := hS.grow hbl
 refine WL.assign rfl rfl rfl (WL.nil (N.seq (W.seq (W.region (WL.move rfl rfl rfl (WL.move rfl rfl rfl ?_))))))
 refine WL.callF (vs := [.slice adl ms.length capl, .slice adk ks.length capk]) Tryd.func13 (by kernel_rfl) rfl rfl rfl (few10_ret ms ks _ _ (ro := ro) (fun b hb => (hS.snap b hb).1) (SlV.keep hx hS.alike (fun _ _ q => q.keep hS.alike)) (SlV.keep hk hS.alike (fun _ _ q => q))) ?_
 rintro v w3 ⟨rfl, hbl⟩
 replace hS := hS.grow hbl
 refine WL.assign rfl rfl rfl (WL.nil (N.seq (W.seq (W.seq (W.region (WL.move rfl rfl rfl (WL.not rfl rfl rfl (WL.move rfl rfl rfl ?_))))))))
 rcases (Bool.eq_false_or_eq_true (!(ms.all fun m => decide (check5 m = 0)))).symm with hg4 | hg4
 ·
  refine WL.set 20 (v' := .bool false) rfl (by rw [hg4]) ?_
  refine WL.set 21 (v' := .bool false) rfl (by rw [hg4]) ?_
  refine WL.move rfl rfl rfl (WL.not rfl rfl rfl (WL.pick (v := .bool (!(fewB ms ks))) rfl rfl rfl rfl rfl rfl (WL.nil (N.seq ?_))))
  refine W.cond rfl (fun hc5 => ?_) (fun hc5 => ?_)
  ·
   refine W.seq (W.region (WL.move rfl rfl rfl (WL.assign rfl rfl rfl (WL.nil (N.seq ?_)))))
   refine Fin.ret1 rfl (v := .bool true) rfl ?_
   exact ⟨rfl, hS.below⟩
  refine W.skip (N.seq (W.seq (W.region (WL.move rfl rfl rfl (WL.move rfl rfl rfl ?_)))))
  have hrt : ∀ m ∈ ms, check5 m = 0 := fun m hm => by have h := hg4; simp only [Bool.not_eq_false', Bool.not_eq_true, List.all_eq_true, decide_eq_true_eq, Bool.not_eq_true', Bool.not_eq_false] at h; exact h m hm
  have hfw : ms.length ≤ 16 ∧ ks.length ≤ 16 := fewB_iff.1 (by simpa using hc5)
  obtain ⟨hml, hkl⟩ := hfw
  refine WL.callF (vs := [.slice adl ms.length capl, .slice adk ks.length capk]) Tryd.func14 (by kernel_rfl) rfl rfl rfl (all10_ret ms ks _ _ (ro := ro) (fun b hb => (hS.snap b hb).1) (SlV.keep hx hS.alike (fun _ _ q => q.keep hS.alike)) (SlV.keep hk hS.alike (fun _ _ q => q)) (hpw.keep hS.alike) hrt hml) ?_
  rintro v w6 ⟨csm, rfl, hmr, hbl⟩
  have hal7 := hS.alikeTo hbl (ro' := (roFrom ro w3 w6)) (fun b hb => .inl hb)
  replace hx := SlV.keep hx hal7 (fun _ _ h => h.keep hal7)
  replace hk := SlV.keep hk hal7 (fun _ _ h => h)
  replace hS := hS.readNew hbl
  obtain ⟨M, hM0⟩ : ∃ M, M = (merge10 ms ks).1 := ⟨_, rfl⟩
  rw [← hM0] at hmr
  obtain ⟨sfR, sgR, rfl, hfsR, hgsR⟩ := id hmr
  obtain ⟨adfR, capfR, rfl, hfsRa, hfsRb, hfsRc, hfsRd⟩ := id hfsR
  have hfsRm : M.funcs.length ≤ 9223372036854775807 := by have h1 := hfsRa; have h2 := hfsRb; unfold maxLen at h2; omega
  obtain ⟨adgR, capgR, rfl, hgsRa, hgsRb, hgsRc, hgsRd⟩ := id hgsR
  have hgsRm : M.globs.length ≤ 9223372036854775807 := by have h1 := hgsRa; have h2 := hgsRb; unfold maxLen at h2; omega
  refine WL.move rfl rfl rfl (WL.extract (v := .agg #[.slice adfR M.funcs.length capfR, .slice adgR M.globs.length capgR]) rfl rfl rfl rfl (WL.extract (v := .int .i64 ((merge10 ms ks).2)) rfl rfl rfl rfl ?_))
  refine WL.alloc (tyZero_spec zer_32) rfl rfl hS ?_
  clear hS; intro w9 b8 hb_b8 hS
  refine WL.store (L' := [(b8, .cells #[.slice adfR M.funcs.length capfR, .slice adgR M.globs.length capgR] 32 (0, 0))]) 0 rfl rfl rfl rfl siz_32 rfl rfl rfl rfl rfl hS ?_
  clear hS; intro w10 hS
  refine WL.assign rfl rfl rfl (WL.nil (N.seq (W.seq (W.region (WL.move rfl rfl rfl (WL.move rfl rfl rfl ?_))))))
  refine WL.callF (vs := [.slice adl ms.length capl, .slice adk ks.length capk]) Tryd.func15 (by kernel_rfl) rfl rfl rfl (rall10_ret ms ks _ _ (ro := (roFrom ro w3 w6)) (fun b hb => (hS.snap b hb).1) (SlV.keep hx hS.alike (fun _ _ q => q.keep hS.alike)) (SlV.keep hk hS.alike (fun _ _ q => q)) hrt hml) ?_
  rintro v w11 ⟨csq, rfl, hmq, hbl⟩
  have hal12 := hS.alikeTo hbl (ro' := (roFrom (roFrom ro w3 w6) w10 w11)) (fun b hb => .inl hb)
  replace hmr := hmr.keep hal12
  replace hS := hS.readNew hbl
  rw [← hM0] at hmq
  obtain ⟨sfQ, sgQ, rfl, hfsQ, hgsQ⟩ := id hmq
  obtain ⟨adfQ, capfQ, rfl, hfsQa, hfsQb, hfsQc, hfsQd⟩ := id hfsQ
  have hfsQm : M.funcs.length ≤ 9223372036854775807 := by have h1 := hfsQa; have h2 := hfsQb; unfold maxLen at h2; omega
  obtain ⟨adgQ, capgQ, rfl, hgsQa, hgsQb, hgsQc, hgsQd⟩ := id hgsQ
  have hgsQm : M.globs.length ≤ 9223372036854775807 := by have h1 := hgsQa; have h2 := hgsQb; unfold maxLen at h2; omega
  refine WL.move rfl rfl rfl (WL.extract (v := .agg #[.slice adfQ M.funcs.length capfQ, .slice adgQ M.globs.length capgQ]) rfl rfl rfl rfl (WL.extract (v := .int .i64 ((merge10 ms ks).2)) rfl rfl rfl rfl ?_))
  refine WL.alloc (tyZero_spec zer_32) rfl rfl hS ?_
  clear hS; intro w14 b13 hb_b13 hS
  refine WL.store (L' := [(b13, .cells #[.slice adfQ M.funcs.length capfQ, .slice adgQ M.globs.length capgQ] 32 (0, 0)), (b8, .cells #[.slice adfR M.funcs.length capfR, .slice adgR M.globs.length capgR] 32 (0, 0))]) 0 rfl rfl rfl rfl siz_32 rfl rfl rfl rfl rfl hS ?_
  clear hS; intro w15 hS
  refine WL.assign rfl rfl rfl (WL.nil (N.seq (W.seq (W.region (WL.loadN (cs := [.slice adfR M.funcs.length capfR, .slice adgR M.globs.length capgR]) agg_32 rfl rfl rfl rfl (hS.cells 1 (m := 2) rfl rfl) (WL.loadN (cs := [.slice adfQ M.funcs.length capfQ, .slice adgQ M.globs.length capgQ]) agg_32 rfl rfl rfl rfl (hS.cells 0 (m := 2) rfl rfl) ?_))))))
  refine WL.callF (vs := [.agg #[.slice adfR M.funcs.length capfR, .slice adgR M.globs.length capgR], .agg #[.slice adfQ M.funcs.length capfQ, .slice adgQ M.globs.length capgQ]]) Tryd.func16 (by kernel_rfl) rfl rfl rfl (ssame_ret M _ _ (ro := (roFrom (roFrom ro w3 w6) w10 w11)) (fun b hb => (hS.snap b hb).1) (hmr.keep hS.alike) (hmq.keep hS.alike)) ?_
  rintro v w16 ⟨rfl, hbl⟩
  replace hS := hS.grow hbl
  refine WL.assign rfl rfl rfl (WL.nil (N.seq (W.seq (W.region (WL.move rfl rfl rfl (WL.move rfl rfl rfl (WL.move rfl rfl rfl (WL.pick (v := .bool true) rfl rfl rfl rfl rfl rfl (WL.move rfl rfl rfl ?_)))))))))
  refine WL.move rfl rfl rfl (WL.move rfl rfl rfl (WL.bin rfl rfl rfl rfl rfl ?_))
  refine WL.set 48 (v' := .bool true) rfl (congrArg Value.bool (show (decide ((merge10 ms ks).2 = (merge10 ms ks).2)) = true from decide_eq_true rfl)) ?_
  refine WL.pick (v := .bool true) rfl rfl rfl rfl rfl rfl (WL.assign rfl rfl rfl (WL.nil (N.seq ?_)))
  refine Fin.ret1 rfl (v := .bool true) rfl ?_
  exact ⟨rfl, hS.below⟩
 refine WL.set 20 (v' := .bool true) rfl (by rw [hg4]) ?_
 refine WL.set 21 (v' := .bool true) rfl (by rw [hg4]) ?_
 refine WL.skp rfl rfl (WL.skp rfl rfl (WL.pick (v := .bool true) rfl rfl rfl rfl rfl rfl (WL.nil (N.seq (W.condT rfl (W.seq (W.region (WL.move rfl rfl rfl (WL.assign rfl rfl rfl ?_)))))))))
 refine WL.nil (N.seq ?_)
 refine Fin.ret1 rfl (v := .bool true) rfl ?_
 exact ⟨rfl, hS.below⟩

end Go.Proofs.YtapjejjmhmdmdaaDoor

namespace Go.Proofs.YtapjejjmhmdmdaaDoor
open Go.ChangeShapes Go.WideShapes Go.ChangeAt Go.RowKit

section
variable {H : Type} {enc : TypeId × Value → H} {P : Program} {w : World} {sp : Nat → Bool}
/-- Whatever reads as a value of type 't' stands for something plain, of a measure that its bulk bounds. -/
def OpensU {α : Type} (enc : TypeId × Value → H) (P : Program) (w : World) (sp : Nat → Bool) (t : TypeId) (Q : List Value → α → Prop) (μ : α → Nat) : Prop :=
  ∀ fuel cs x, DataW.trod enc P w 0 sp true fuel t cs = some x → ∃ y, Q cs y ∧ μ y ≤ Rows.uptoBulk x.1
theorem OpensU.mono {α : Type} {t : TypeId} {Q Q' : List Value → α → Prop} {μ μ' : α → Nat} (h : OpensU enc P w sp t Q μ) (hq : ∀ cs y, Q cs y → Q' cs y) (hm : ∀ y, μ' y ≤ μ y) : OpensU enc P w sp t Q' μ' := fun fuel cs x h1 => by
  obtain ⟨y, hy, hb⟩ := h fuel cs x h1
  exact ⟨y, hq _ _ hy, Nat.le_trans (hm y) hb⟩
end
/-! ### How much there is -/
end Go.Proofs.YtapjejjmhmdmdaaDoor

namespace Go.Proofs.YtapjejjmhmdmdaaDoor
open Go.ChangeShapes Go.WideShapes Go.ChangeAt Go.RowKit
section
variable {H : Type} {enc : TypeId × Value → H} {P : Program} {w : World} {sp : Nat → Bool}
theorem open1_sl {α : Type} {t e : TypeId} {r : Reach} {b0 sz by_ : Nat} {v : Value} {d : DataW H} {ps : List MemPlace} {Q : List Value → α → Prop} {B : α → Prop} (ht : P.underlying t = some (.slice e)) (hval : Value.okWide P w r b0 t v)
    (hd : DataW.Trod enc P w 0 sp true t v d ps) (ho : Opens enc P w sp t fun cs (ys : List α) => (∃ v, cs = [v] ∧ SlV (roW w) w sz Q v ys) ∧ (∀ y ∈ ys, B y) ∧ ys.length * by_ ≤ reachBytes) (hz : ∀ z ∈ d.weights P t, z ≤ reachBytes) :
    ∃ ys, SlV (roW w) w sz Q v ys ∧ (∀ y ∈ ys, B y) ∧ ys.length * by_ ≤ reachBytes := by
  obtain ⟨a, len, cap, rfl⟩ := okWide_slice ht hval
  obtain ⟨fuel, h⟩ := hd
  obtain ⟨ys, ⟨u, hu, hs⟩, hb⟩ := ho fuel _ _ h hz
  simp [Value.cells] at hu
  subst hu
  exact ⟨ys, hs, hb⟩
end
end Go.Proofs.YtapjejjmhmdmdaaDoor
