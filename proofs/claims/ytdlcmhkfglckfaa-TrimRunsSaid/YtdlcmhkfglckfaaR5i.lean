/-
  Contracts of what is right (marlineref05). No condition beyond those that each theorem states.
-/
import Derived.Test.YtdlcmhkfglckfaaR5h
namespace Go.Proofs.Ytdlcmhkfglckfaa
open Go.RowKit

theorem check5_all {m : DMod} (h : check5 m = 0) : m.funcs.length ≤ 16 ∧ m.globs.length ≤ 16 ∧ (∀ f ∈ m.funcs, func5 f = true) ∧ (∀ g ∈ m.globs, glob5 g = true) ∧ (names5 m).Nodup ∧ (∀ x ∈ insts5 m, bad5 m x = false) ∧ (∀ x ∈ insts5 m, odd5 m x = false) := by
  unfold check5 at h
  split at h
  · omega
  split at h
  · omega
  split at h
  · omega
  split at h
  · omega
  split at h
  · omega
  rename_i h1 h2 h3 h4 h5
  have hf : m.funcs.all func5 = true := by cases e : m.funcs.all func5 <;> simp_all
  have hg : m.globs.all glob5 = true := by cases e : m.globs.all glob5 <;> simp_all
  refine ⟨by omega, by omega, List.all_eq_true.1 hf, List.all_eq_true.1 hg, Classical.not_not.1 h3, fun x hx => ?_, fun x hx => ?_⟩
  · cases e : bad5 m x with
    | false => rfl
    | true => exact absurd (List.any_eq_true.2 ⟨x, hx, e⟩) h4
  · cases e : odd5 m x with
    | false => rfl
    | true => exact absurd (List.any_eq_true.2 ⟨x, hx, e⟩) h5

theorem func5_all {f : DFunc} (h : func5 f = true) : f.blocks.length ≤ 16 ∧ ∀ b ∈ f.blocks, block5 f b = true := by
  unfold func5 at h
  split at h
  · cases h
  rename_i h1
  refine ⟨by omega, ?_⟩
  split at h
  · rename_i e; rw [e]; intro b hb; cases hb
  · simp only [Bool.and_eq_true, List.all_eq_true] at h
    exact h.2
theorem block5_all {f : DFunc} {b : DBlock} (h : block5 f b = true) : 0 ≤ b.params ∧ b.params ≤ 6 ∧ b.ins.length ≤ 32 := by
  unfold block5 at h
  split at h
  · cases h
  · omega
theorem goes5_all {f : DFunc} {to : Int} {args : List Int} {n : Int} (h : goes5 f to args n = true) (hf : func5 f = true) : args.length ≤ 6 ∧ (∀ v ∈ args, 0 ≤ v ∧ v < n) ∧ 0 ≤ to ∧ to < f.blocks.length := by
  unfold goes5 at h
  split at h
  · cases h
  rename_i h0
  split at h
  · rename_i b hb
    split at h
    · rename_i hl
      have h1 := block5_all ((func5_all hf).2 b (List.mem_of_getElem? hb))
      refine ⟨by omega, fun v hv => ?_, by omega, ?_⟩
      · unfold below5 at h
        have := List.all_eq_true.1 h v hv
        simp only [Bool.and_eq_true, decide_eq_true_eq] at this
        exact this
      · have := (List.getElem?_eq_some_iff.1 hb).1
        omega
    · cases h
  · cases h
theorem inst5_all {x : DInst} {n : Int} (h : inst5 x n = true) : x.args.length ≤ 6 ∧ (∀ v ∈ uses5 x, 0 ≤ v ∧ v < n) ∧ 1 ≤ x.op ∧ x.op ≤ 16 := by
  unfold inst5 at h
  split at h
  · cases h
  rename_i h1
  have h2 : below5 (uses5 x) n = true := by cases e : below5 (uses5 x) n with
    | true => rfl
    | false => exact absurd (.inr (.inr (.inl e))) h1
  refine ⟨by omega, fun v hv => ?_, by omega, by omega⟩
  have := List.all_eq_true.1 h2 v hv
  simp only [Bool.and_eq_true, decide_eq_true_eq] at this
  exact this
/-- What is right of a block's end. -/
theorem term5_all {f : DFunc} {t : DTerm} {n : Int} (h : term5 f t n = true) (hf : func5 f = true) : t.args.length ≤ 6 ∧ t.elses.length ≤ 6 ∧ (∀ v ∈ t.args, 0 ≤ v ∧ v < n) ∧ (∀ v ∈ t.elses, 0 ≤ v ∧ v < n) ∧ 1 ≤ t.kind ∧ t.kind ≤ 3 ∧ (t.kind ≠ 1 → 0 ≤ t.a ∧ t.a < n) ∧
    (t.kind ≠ 3 → 0 ≤ t.to ∧ t.to < f.blocks.length) ∧ (t.kind = 2 → 0 ≤ t.els ∧ t.els < f.blocks.length) := by
  unfold term5 at h
  split at h
  · rename_i h1
    simp only [Bool.and_eq_true, decide_eq_true_eq] at h
    obtain ⟨⟨⟨hg, ha⟩, he⟩, hl⟩ := h
    obtain ⟨g1, g2, g3, g4⟩ := goes5_all hg hf
    have hl' : t.elses = [] := List.eq_nil_of_length_eq_zero hl
    exact ⟨g1, by omega, g2, (by rw [hl']; intro v hv; cases hv), by omega, by omega, fun h => absurd h1 h, fun _ => ⟨g3, g4⟩, fun h => by omega⟩
  · split at h
    · rename_i h1 h2
      simp only [Bool.and_eq_true, decide_eq_true_eq] at h
      obtain ⟨⟨⟨a1, a2⟩, hg⟩, he⟩ := h
      obtain ⟨g1, g2, g3, g4⟩ := goes5_all hg hf
      obtain ⟨e1, e2, e3, e4⟩ := goes5_all he hf
      exact ⟨g1, e1, g2, e2, by omega, by omega, fun _ => ⟨a1, a2⟩, fun _ => ⟨g3, g4⟩, fun _ => ⟨e3, e4⟩⟩
    · rename_i h1 h2
      simp only [Bool.and_eq_true, decide_eq_true_eq] at h
      obtain ⟨⟨⟨⟨⟨k3, a1, a2⟩, _⟩, hl1⟩, _⟩, hl2⟩ := h
      have l1 : t.args = [] := List.eq_nil_of_length_eq_zero hl1
      have l2 : t.elses = [] := List.eq_nil_of_length_eq_zero hl2
      exact ⟨by omega, by omega, (by rw [l1]; intro v hv; cases hv), (by rw [l2]; intro v hv; cases hv), by omega, by omega, fun _ => ⟨a1, a2⟩, fun h => absurd k3 h, fun h => absurd h h2⟩
theorem block5_more {f : DFunc} {b : DBlock} (h : block5 f b = true) : allFrom b.params b.ins = true ∧ term5 f b.fin (b.params + b.ins.length) = true := by
  unfold block5 at h
  split at h
  · cases h
  split at h
  · cases h
  rename_i h2
  exact ⟨by cases e : allFrom b.params b.ins <;> simp_all, h⟩

end Go.Proofs.Ytdlcmhkfglckfaa
