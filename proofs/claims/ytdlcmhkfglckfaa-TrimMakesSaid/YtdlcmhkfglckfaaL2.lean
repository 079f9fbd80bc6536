/-
  What trimming does to a function: which blocks are reached, and that all are, of what stays. No condition beyond those that each theorem states.
-/
import Derived.Test.YtdlcmhkfglckfaaL1
namespace Go.Proofs.Ytdlcmhkfglckfaa

/-- What is reached from block 0. -/
inductive Rch (f : DFunc) : Nat → Prop where
  | zero (h : 0 < f.blocks.length) : Rch f 0
  | to (k : Nat) (b : DBlock) (h : Rch f k) (hb : f.blocks[k]? = some b) (hk : b.fin.kind ≠ 3) : Rch f b.fin.to.toNat
  | els (k : Nat) (b : DBlock) (h : Rch f k) (hb : f.blocks[k]? = some b) (hk : b.fin.kind = 2) : Rch f b.fin.els.toNat
/-- Where block k goes to. -/
def Succ13 (f : DFunc) (k j : Nat) : Prop := ∃ b, f.blocks[k]? = some b ∧ ((b.fin.kind ≠ 3 ∧ j = b.fin.to.toNat) ∨ (b.fin.kind = 2 ∧ j = b.fin.els.toNat))
theorem Rch.lt {f : DFunc} (hgo : Goes13 f) {k : Nat} (h : Rch f k) : k < f.blocks.length := by
  cases h with
  | zero h => exact h
  | to k b _ hb hk => have := (hgo b (List.mem_of_getElem? hb)).1 hk; omega
  | els k b _ hb hk => have := (hgo b (List.mem_of_getElem? hb)).2 hk; omega
theorem get_set_true {us : List Bool} {k j : Nat} (h : us[j]? = some true) : (us.set k true)[j]? = some true := by
  rw [List.getElem?_set]
  split
  · rename_i e; subst e
    have := (List.getElem?_eq_some_iff.1 h).1
    rw [if_pos this]
  · exact h
theorem reach13_inv {f : DFunc} (hgo : Goes13 f) : ∀ (n : Nat) (us : List Bool) (k : Nat), us.length = f.blocks.length → k < f.blocks.length → falses us < n →
    (∀ j : Nat, us[j]? = some true → (reach13 f n us k)[j]? = some true) ∧ (reach13 f n us k)[k]? = some true ∧
    ∀ j : Nat, (reach13 f n us k)[j]? = some true → us[j]? = some true ∨ ∀ j', Succ13 f j j' → (reach13 f n us k)[j']? = some true
  | 0, _, _, _, _, h => by omega
  | n + 1, us, k, hl, hk, hf => by
    obtain ⟨b, hb⟩ : ∃ b, f.blocks[k]? = some b := ⟨_, List.getElem?_eq_getElem hk⟩
    obtain ⟨x, hx⟩ : ∃ x, us[k]? = some x := ⟨_, List.getElem?_eq_getElem (by omega)⟩
    cases x with
    | true =>
      have e : reach13 f (n + 1) us k = us := by rw [reach13, if_pos hx]
      rw [e]
      exact ⟨fun _ h => h, hx, fun _ h => .inl h⟩
    | false =>
      have hfs := falses_set hx
      have hl1 : (us.set k true).length = f.blocks.length := by rw [List.length_set]; exact hl
      have h1k : (us.set k true)[k]? = some true := by rw [List.getElem?_set, if_pos rfl, if_pos (by omega)]
      have h1j : ∀ j : Nat, (us.set k true)[j]? = some true → us[j]? = some true ∨ j = k := fun j h => by
        rw [List.getElem?_set] at h
        split at h
        · rename_i e; exact .inr e.symm
        · exact .inl h
      obtain ⟨u2, hu2⟩ : ∃ u2, u2 = if b.fin.kind = 3 then us.set k true else reach13 f n (us.set k true) b.fin.to.toNat := ⟨_, rfl⟩
      have e : reach13 f (n + 1) us k = if b.fin.kind = 2 then reach13 f n u2 b.fin.els.toNat else u2 := by
        rw [reach13, if_neg (by rw [hx]; simp), hb, hu2]
      have hb' := hgo b (List.mem_of_getElem? hb)
      have P2 : u2.length = f.blocks.length ∧ falses u2 < n ∧ (∀ j : Nat, (us.set k true)[j]? = some true → u2[j]? = some true) ∧ (b.fin.kind ≠ 3 → u2[b.fin.to.toNat]? = some true) ∧ ∀ j : Nat, u2[j]? = some true → (us.set k true)[j]? = some true ∨ ∀ j', Succ13 f j j' → u2[j']? = some true := by
        by_cases h3 : b.fin.kind = 3
        · rw [if_pos h3] at hu2
          rw [hu2]
          exact ⟨hl1, by omega, fun _ h => h, fun h => absurd h3 h, fun _ h => .inl h⟩
        · rw [if_neg h3] at hu2
          have hto := hb'.1 h3
          obtain ⟨q1, q2, q3⟩ := reach13_inv hgo n (us.set k true) b.fin.to.toNat hl1 (by omega) (by omega)
          rw [hu2]
          refine ⟨by rw [reach13_length]; exact hl1, ?_, q1, fun _ => q2, q3⟩
          have := reach13_falses f n (us.set k true) b.fin.to.toNat
          omega
      obtain ⟨p1, p2, p3, p4, p5⟩ := P2
      rw [e]
      by_cases h2 : b.fin.kind = 2
      · rw [if_pos h2]
        have hel := hb'.2 h2
        obtain ⟨q1, q2, q3⟩ := reach13_inv hgo n u2 b.fin.els.toNat p1 (by omega) p2
        refine ⟨fun j h => q1 j (p3 j (get_set_true h)), q1 k (p3 k h1k), fun j h => ?_⟩
        rcases q3 j h with h | h
        · rcases p5 j h with h | h
          · rcases h1j j h with h | h
            · exact .inl h
            · subst h
              right
              rintro j' ⟨c, hc, ⟨hk3, rfl⟩ | ⟨hk2, rfl⟩⟩
              · rw [hb] at hc; cases hc; exact q1 _ (p4 hk3)
              · rw [hb] at hc; cases hc; exact q2
          · exact .inr fun j' hj' => q1 _ (h j' hj')
        · exact .inr h
      · rw [if_neg h2]
        refine ⟨fun j h => p3 j (get_set_true h), p3 k h1k, fun j h => ?_⟩
        rcases p5 j h with h | h
        · rcases h1j j h with h | h
          · exact .inl h
          · subst h
            right
            rintro j' ⟨c, hc, ⟨hk3, rfl⟩ | ⟨hk2, rfl⟩⟩
            · rw [hb] at hc; cases hc; exact p4 hk3
            · rw [hb] at hc; cases hc; exact absurd hk2 h2
        · exact .inr h
theorem reach13_sound {f : DFunc} : ∀ (n : Nat) (us : List Bool) (k : Nat), Rch f k → ∀ j : Nat, (reach13 f n us k)[j]? = some true → us[j]? = some true ∨ Rch f j
  | 0, _, _, _, _, h => .inl h
  | n + 1, us, k, hr, j, h => by
    rw [reach13] at h
    split at h
    · exact .inl h
    · split at h
      · exact .inl h
      · rename_i b hb
        have h1 : ∀ j : Nat, (us.set k true)[j]? = some true → us[j]? = some true ∨ Rch f j := fun j h => by
          rw [List.getElem?_set] at h
          split at h
          · rename_i e; subst e; exact .inr hr
          · exact .inl h
        have h2 : ∀ j : Nat, (if b.fin.kind = 3 then us.set k true else reach13 f n (us.set k true) b.fin.to.toNat)[j]? = some true → us[j]? = some true ∨ Rch f j := fun j h => by
          split at h
          · exact h1 j h
          · rename_i hk
            rcases reach13_sound n _ _ (.to k b hr hb hk) j h with h | h
            · exact h1 j h
            · exact .inr h
        split at h
        · rename_i hk
          rcases reach13_sound n _ _ (.els k b hr hb hk) j h with h | h
          · exact h2 j h
          · exact .inr h
        · exact h2 j h
/-- Which blocks are reached. -/
theorem reached13_iff {f : DFunc} (hgo : Goes13 f) (k : Nat) : (reached13 f)[k]? = some true ↔ Rch f k := by
  by_cases h0 : f.blocks.length = 0
  · unfold reached13
    rw [if_pos h0]
    exact ⟨fun h => by simp at h, fun h => by have := h.lt hgo; omega⟩
  · have hl : (List.replicate f.blocks.length false).length = f.blocks.length := List.length_replicate
    have hf : falses (List.replicate f.blocks.length false) < f.blocks.length + 1 := by unfold falses; rw [List.count_replicate_self]; omega
    obtain ⟨q1, q2, q3⟩ := reach13_inv hgo (f.blocks.length + 1) _ 0 hl (by omega) hf
    have e : reached13 f = reach13 f (f.blocks.length + 1) (List.replicate f.blocks.length false) 0 := by unfold reached13; rw [if_neg h0]
    rw [e]
    have no : ∀ j : Nat, (List.replicate f.blocks.length false)[j]? ≠ some true := fun j h => by
      rw [List.getElem?_replicate] at h; split at h <;> cases h
    constructor
    · intro h
      exact (reach13_sound _ _ 0 (.zero (by omega)) k h).resolve_left (no k)
    · intro h
      induction h with
      | zero _ => exact q2
      | to k b _ hb hk ih => exact ((q3 k ih).resolve_left (no k)) _ ⟨b, hb, .inl ⟨hk, rfl⟩⟩
      | els k b _ hb hk ih => exact ((q3 k ih).resolve_left (no k)) _ ⟨b, hb, .inr ⟨hk, rfl⟩⟩
/-! ### Numbers of blocks -/
def cntR (us : List Bool) (k : Nat) : Nat := (numAt us k).2
theorem cntR_step (us : List Bool) (k : Nat) : cntR us (k + 1) = if us[k]? = some true then cntR us k + 1 else cntR us k := by
  unfold cntR; rw [numAt_succ]; unfold numStep; split <;> rfl
theorem numG_mono (us : List Bool) {k m : Nat} (h : k ≤ m) {y : Int} (hy : y < (k : Int)) : (numAt us m).1 y = (numAt us k).1 y := by
  induction m with
  | zero => rw [show k = 0 by omega]
  | succ m ih =>
    by_cases e : k = m + 1
    · rw [e]
    · rw [← ih (by omega), numAt_succ]
      unfold numStep
      split
      · simp only [updG]; rw [if_neg (by omega)]
      · rfl
theorem numG_at (us : List Bool) {k m : Nat} (hk : us[k]? = some true) (h : k < m) : (numAt us m).1 (k : Int) = some (cntR us k : Int) := by
  rw [numG_mono us (k := k + 1) (by omega) (by omega), numAt_succ]
  unfold numStep
  rw [if_pos hk]
  simp [updG, cntR]
/-- Where a block of the trimmed function goes. -/
theorem blk13_goes {f : DFunc} (hgo : Goes13 f) {k : Nat} {b : DBlock} (hr : (reached13 f)[k]? = some true) (hb : f.blocks[k]? = some b) :
    (b.fin.kind ≠ 3 → (reached13 f)[b.fin.to.toNat]? = some true ∧ (blk13 (numAt (reached13 f) f.blocks.length).1 b).fin.to = (cntR (reached13 f) b.fin.to.toNat : Int)) ∧
    (b.fin.kind = 2 → (reached13 f)[b.fin.els.toNat]? = some true ∧ (blk13 (numAt (reached13 f) f.blocks.length).1 b).fin.els = (cntR (reached13 f) b.fin.els.toNat : Int)) := by
  have hR := (reached13_iff hgo k).1 hr
  have hg := hgo b (List.mem_of_getElem? hb)
  refine ⟨fun hk => ?_, fun hk => ?_⟩
  · have h1 := (reached13_iff hgo _).2 (Rch.to k b hR hb hk)
    refine ⟨h1, ?_⟩
    have h2 := hg.1 hk
    have h3 := numG_at (reached13 f) h1 (m := f.blocks.length) (by omega)
    rw [show ((b.fin.to.toNat : Nat) : Int) = b.fin.to by omega] at h3
    show (if (block13 b).fin.kind = 3 then (block13 b).fin.to else _) = _
    rw [if_neg (show ¬ (block13 b).fin.kind = 3 from hk)]
    show (((numAt (reached13 f) f.blocks.length).1 b.fin.to).getD 0) = _
    rw [h3]; rfl
  · have h1 := (reached13_iff hgo _).2 (Rch.els k b hR hb hk)
    refine ⟨h1, ?_⟩
    have h2 := hg.2 hk
    have h3 := numG_at (reached13 f) h1 (m := f.blocks.length) (by omega)
    rw [show ((b.fin.els.toNat : Nat) : Int) = b.fin.els by omega] at h3
    show (if (block13 b).fin.kind = 2 then _ else (block13 b).fin.els) = _
    rw [if_pos (show (block13 b).fin.kind = 2 from hk)]
    show (((numAt (reached13 f) f.blocks.length).1 b.fin.els).getD 0) = _
    rw [h3]; rfl
end Go.Proofs.Ytdlcmhkfglckfaa
