/-
  Contracts of layer 13 (trim). No condition beyond those that each theorem states.
-/
import Derived.Test.YtdlcmhkfglckfaaU7
namespace Go.Proofs.Ytdlcmhkfglckfaa
open Go.RowKit

theorem inst5_more {x : DInst} {n : Int} (h : inst5 x n = true) : below5 (uses5 x) n = true ∧ (¬ ((2 ≤ x.op ∧ x.op ≤ 11) ∨ x.op = 13 ∨ x.op = 16) → x.a = 0) ∧ (¬ (2 ≤ x.op ∧ x.op ≤ 11) → x.b = 0) ∧ (x.op ≠ 1 → x.k = 0) ∧ (x.op ≠ 14 → x.args.length = 0) ∧ (named5 x = true → name5 x.name = true) ∧ (named5 x = false → x.name = ⟨#[]⟩) := by
  have h0 := (inst5_all h).2.1
  have hb : below5 (uses5 x) n = true := by
    unfold below5; rw [List.all_eq_true]; intro v hv
    have := h0 v hv
    simp only [Bool.and_eq_true, decide_eq_true_eq]; exact this
  unfold inst5 at h
  split at h
  · cases h
  split at h
  · cases h
  rename_i h1 h2
  refine ⟨hb, fun c => ?_, fun c => ?_, fun c => ?_, fun c => ?_, fun c => ?_, fun c => ?_⟩
  · exact Classical.byContradiction fun e => h2 (.inl ⟨c, e⟩)
  · exact Classical.byContradiction fun e => h2 (.inr (.inl ⟨c, e⟩))
  · exact Classical.byContradiction fun e => h2 (.inr (.inr (.inl ⟨c, e⟩)))
  · exact Classical.byContradiction fun e => h2 (.inr (.inr (.inr ⟨c, by omega⟩)))
  · rw [if_pos c] at h; exact h
  · rw [if_neg (by rw [c]; simp)] at h; simpa using h
theorem irnamed_ret (x : DInst) (cx : List Value) {w : World} {ro : Nat → Prop} (hro : ∀ b, ro b → b < w.heap.size) (hx : InstC ro w cx x) : Ret Try.prog 68 #[.agg cx.toArray] w fun v w' => v = .bool (named5 x) ∧ Below w.heap.size w w' := by
 have hQx := hx
 obtain ⟨sx, rfl, hsx, hox, hax, hbx, hkx, hnx⟩ := id hx
 obtain ⟨adx, capx, rfl, hsxa, hsxb, hsxc, hsxd⟩ := id hsx
 have hsxm : x.args.length ≤ 9223372036854775807 := by have h1 := hsxa; have h2 := hsxb; unfold maxLen at h2; omega
 refine Ret.enter (P := Try.prog) (n := 16) (args := [.agg #[.int .i64 x.op, .int .i64 x.a, .int .i64 x.b, .int .u64 x.k, .string x.name, .slice adx x.args.length capx]]) (σ := [(0, .agg #[.int .i64 x.op, .int .i64 x.a, .int .i64 x.b, .int .u64 x.k, .string x.name, .slice adx x.args.length capx])]) Try.func68 rfl rfl rfl rfl ?_
 have hS := St.start (ro := ro) hro
 refine W.seq (W.region ?_)
 refine WL.box (v := .agg #[.int .i64 x.op, .int .i64 x.a, .int .i64 x.b, .int .u64 x.k, .string x.name, .slice adx x.args.length capx]) (cs := [.int .i64 x.op, .int .i64 x.a, .int .i64 x.b, .int .u64 x.k, .string x.name, .slice adx x.args.length capx]) rfl rfl rfl rfl hS ?_
 clear hS; intro w2 b1 hb_b1 hS
 refine WL.assign rfl rfl rfl (WL.nil (N.seq (W.seq (W.region (WL.fieldAddr fo_36_0 rfl rfl rfl (WL.load1 (v := .int .i64 x.op) one_3 rfl rfl rfl (hS.cell 0 rfl rfl) (WL.bin rfl rfl rfl rfl rfl (WL.move rfl rfl rfl ?_))))))))
 cases hg3 : (decide (x.op = 12))
 ·
  have hg3p : ¬ (x.op = 12) := by simpa using hg3
  refine WL.fieldAddr fo_36_0 rfl rfl rfl (WL.load1 (v := .int .i64 x.op) one_3 rfl rfl rfl (hS.cell 0 rfl rfl) (WL.bin rfl rfl rfl rfl rfl (WL.pick (v := .bool (decide (x.op = 13))) rfl rfl rfl rfl rfl rfl (WL.move rfl rfl rfl ?_))))
  cases hg4 : (decide (x.op = 13))
  ·
   have hg4p : ¬ (x.op = 13) := by simpa using hg4
   refine WL.fieldAddr fo_36_0 rfl rfl rfl (WL.load1 (v := .int .i64 x.op) one_3 rfl rfl rfl (hS.cell 0 rfl rfl) (WL.bin rfl rfl rfl rfl rfl (WL.pick (v := .bool (decide (x.op = 14))) rfl rfl rfl rfl rfl rfl (WL.assign rfl rfl rfl (WL.nil (N.seq ?_))))))
   refine Fin.ret1 rfl (v := .bool (decide (x.op = 14))) rfl ?_
   have hbz := hS.below
   clear hS
   refine ⟨?_, hbz⟩
   congr 1
   simp only [named5]
   simp_all
  have hg4p : x.op = 13 := by simpa using hg4
  refine WL.skp rfl rfl (WL.skp rfl rfl (WL.skp rfl rfl (WL.pick (v := .bool true) rfl rfl rfl rfl rfl rfl (WL.assign rfl rfl rfl (WL.nil (N.seq ?_))))))
  refine Fin.ret1 rfl (v := .bool true) rfl ?_
  have hbz := hS.below
  clear hS
  refine ⟨?_, hbz⟩
  congr 1
  simp only [named5]
  simp_all
 have hg3p : x.op = 12 := by simpa using hg3
 refine WL.skp rfl rfl (WL.skp rfl rfl (WL.skp rfl rfl (WL.pick (v := .bool true) rfl rfl rfl rfl rfl rfl (WL.move rfl rfl rfl (WL.skp rfl rfl (WL.skp rfl rfl (WL.skp rfl rfl (WL.pick (v := .bool true) rfl rfl rfl rfl rfl rfl (WL.assign rfl rfl rfl ?_)))))))))
 refine WL.nil (N.seq ?_)
 refine Fin.ret1 rfl (v := .bool true) rfl ?_
 have hbz := hS.below
 clear hS
 refine ⟨?_, hbz⟩
 congr 1
 simp only [named5]
 simp_all

end Go.Proofs.Ytdlcmhkfglckfaa
