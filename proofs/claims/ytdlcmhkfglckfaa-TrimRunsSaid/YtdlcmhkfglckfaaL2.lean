/-
  What trimming does to a function: which blocks are reached, and that all are, of what stays. No condition beyond those that each theorem states.
-/
import Derived.Test.YtdlcmhkfglckfaaL1
namespace Go.Proofs.Ytdlcmhkfglckfaa

/-- What is reached from block 0. -/
inductive Rch (f : DFunc) : Nat → Prop where
  | zero (h : 0 < f.blocks.length) : Rch f 0
  | to (k : Nat) (b : DBlock) (h : Rch f k) (hb : f.blocks[k]? = some b) (hk : b.fin.kind ≠ 3) : Rch f b.fin.to.toNat
  | els (k : Nat) (b : DBlock) (h : Rch f k) (hb : f.blocks[k]? = some b) (hk : b.fin.kind = 2) : Rch f b.fin.els.toNat
/-- Where block k goes to. -/
def Succ13 (f : DFunc) (k j : Nat) : Prop := ∃ b, f.blocks[k]? = some b ∧ ((b.fin.kind ≠ 3 ∧ j = b.fin.to.toNat) ∨ (b.fin.kind = 2 ∧ j = b.fin.els.toNat))
theorem Rch.lt {f : DFunc} (hgo : Goes13 f) {k : Nat} (h : Rch f k) : k < f.blocks.length := by
  cases h with
  | zero h => exact h
  | to k b _ hb hk => have := (hgo b (List.mem_of_getElem? hb)).1 hk; omega
  | els k b _ hb hk => have := (hgo b (List.mem_of_getElem? hb)).2 hk; omega
theorem get_set_true {us : List Bool} {k j : Nat} (h : us[j]? = some true) : (us.set k true)[j]? = some true := by
  rw [List.getElem?_set]
  split
  · rename_i e; subst e
    have := (List.getElem?_eq_some_iff.1 h).1
    rw [if_pos this]
  · exact h
theorem reach13_inv {f : DFunc} (hgo : Goes13 f) : ∀ (n : Nat) (us : List Bool) (k : Nat), us.length = f.blocks.length → k < f.blocks.length → falses us < n →
    (∀ j : Nat, us[j]? = some true → (reach13 f n us k)[j]? = some true) ∧ (reach13 f n us k)[k]? = some true ∧
    ∀ j : Nat, (reach13 f n us k)[j]? = some true → us[j]? = some true ∨ ∀ j', Succ13 f j j' → (reach13 f n us k)[j']? = some true
  | 0, _, _, _, _, h => by omega
  | n + 1, us, k, hl, hk, hf => by
    obtain ⟨b, hb⟩ : ∃ b, f.blocks[k]? = some b := ⟨_, List.getElem?_eq_getElem hk⟩
    obtain ⟨x, hx⟩ : ∃ x, us[k]? = some x := ⟨_, List.getElem?_eq_getElem (by omega)⟩
    cases x with
    | true =>
      have e : reach13 f (n + 1) us k = us := by rw [reach13, if_pos hx]
      rw [e]
      exact ⟨fun _ h => h, hx, fun _ h => .inl h⟩
    | false =>
      have hfs := falses_set hx
      have hl1 : (us.set k true).length = f.blocks.length := by rw [List.length_set]; exact hl
      have h1k : (us.set k true)[k]? = some true := by rw [List.getElem?_set, if_pos rfl, if_pos (by omega)]
      have h1j : ∀ j : Nat, (us.set k true)[j]? = some true → us[j]? = some true ∨ j = k := fun j h => by
        rw [List.getElem?_set] at h
        split at h
        · rename_i e; exact .inr e.symm
        · exact .inl h
      obtain ⟨u2, hu2⟩ : ∃ u2, u2 = if b.fin.kind = 3 then us.set k true else reach13 f n (us.set k true) b.fin.to.toNat := ⟨_, rfl⟩
      have e : reach13 f (n + 1) us k = if b.fin.kind = 2 then reach13 f n u2 b.fin.els.toNat else u2 := by
        rw [reach13, if_neg (by rw [hx]; simp), hb, hu2]
      have hb' := hgo b (List.mem_of_getElem? hb)
      have P2 : u2.length = f.blocks.length ∧ falses u2 < n ∧ (∀ j : Nat, (us.set k true)[j]? = some true → u2[j]? = some true) ∧ (b.fin.kind ≠ 3 → u2[b.fin.to.toNat]? = some true) ∧ ∀ j : Nat, u2[j]? = some true → (us.set k true)[j]? = some true ∨ ∀ j', Succ13 f j j' → u2[j']? = some true := by
        by_cases h3 : b.fin.kind = 3
        · rw [if_pos h3] at hu2
          rw [hu2]
          exact ⟨hl1, by omega, fun _ h => h, fun h => absurd h3 h, fun _ h => .inl h⟩
        · rw [if_neg h3] at hu2
          have hto := hb'.1 h3
          obtain ⟨q1, q2, q3⟩ := reach13_inv hgo n (us.set k true) b.fin.to.toNat hl1 (by omega) (by omega)
          rw [hu2]
          refine ⟨by rw [reach13_length]; exact hl1, ?_, q1, fun _ => q2, q3⟩
          have := reach13_falses f n (us.set k true) b.fin.to.toNat
          omega
      obtain ⟨p1, p2, p3, p4, p5⟩ := P2
      rw [e]
      by_cases h2 : b.fin.kind = 2
      · rw [if_pos h2]
        have hel := hb'.2 h2
        obtain ⟨q1, q2, q3⟩ := reach13_inv hgo n u2 b.fin.els.toNat p1 (by omega) p2
        refine ⟨fun j h => q1 j (p3 j (get_set_true h)), q1 k (p3 k h1k), fun j h => ?_⟩
        rcases q3 j h with h | h
        · rcases p5 j h with h | h
          · rcases h1j j h with h | h
            · exact .inl h
            · subst h
              right
              rintro j' ⟨c, hc, ⟨hk3, rfl⟩ | ⟨hk2, rfl⟩⟩
              · rw [hb] at hc; cases hc; exact q1 _ (p4 hk3)
              · rw [hb] at hc; cases hc; exact q2
          · exact .inr fun j' hj' => q1 _ (h j' hj')
        · exact .inr h
      · rw [if_neg h2]
        refine ⟨fun j h => p3 j (get_set_true h), p3 k h1k, fun j h => ?_⟩
        rcases p5 j h with h | h
        · rcases h1j j h with h | h
          · exact .inl h
          · subst h
            right
            rintro j' ⟨c, hc, ⟨hk3, rfl⟩ | ⟨hk2, rfl⟩⟩
            · rw [hb] at hc; cases hc; exact p4 hk3
            · rw [hb] at hc; cases hc; exact absurd hk2 h2
        · exact .inr h
theorem reach13_sound {f : DFunc} : ∀ (n : Nat) (us : List Bool) (k : Nat), Rch f k → ∀ j : Nat, (reach13 f n us k)[j]? = some true → us[j]? = some true ∨ Rch f j
  | 0, _, _, _, _, h => .inl h
  | n + 1, us, k, hr, j, h => by
    rw [reach13] at h
    split at h
    · exact .inl h
    · split at h
      · exact .inl h
      · rename_i b hb
        have h1 : ∀ j : Nat, (us.set k true)[j]? = some true → us[j]? = some true ∨ Rch f j := fun j h => by
          rw [List.getElem?_set] at h
          split at h
          · rename_i e; subst e; exact .inr hr
          · exact .inl h
        have h2 : ∀ j : Nat, (if b.fin.kind = 3 then us.set k true else reach13 f n (us.set k true) b.fin.to.toNat)[j]? = some true → us[j]? = some true ∨ Rch f j := fun j h => by
          split at h
          · exact h1 j h
          · rename_i hk
            rcases reach13_sound n _ _ (.to k b hr hb hk) j h with h | h
            · exact h1 j h
            · exact .inr h
        split at h
        · rename_i hk
          rcases reach13_sound n _ _ (.els k b hr hb hk) j h with h | h
          · exact h2 j h
          · exact .inr h
        · exact h2 j h
/-- Which blocks are reached. -/
theorem reached13_iff {f : DFunc} (hgo : Goes13 f) (k : Nat) : (reached13 f)[k]? = some true ↔ Rch f k := by
  by_cases h0 : f.blocks.length = 0
  · unfold reached13
    rw [if_pos h0]
    exact ⟨fun h => by simp at h, fun h => by have := h.lt hgo; omega⟩
  · have hl : (List.replicate f.blocks.length false).length = f.blocks.length := List.length_replicate
    have hf : falses (List.replicate f.blocks.length false) < f.blocks.length + 1 := by unfold falses; rw [List.count_replicate_self]; omega
    obtain ⟨q1, q2, q3⟩ := reach13_inv hgo (f.blocks.length + 1) _ 0 hl (by omega) hf
    have e : reached13 f = reach13 f (f.blocks.length + 1) (List.replicate f.blocks.length false) 0 := by unfold reached13; rw [if_neg h0]
    rw [e]
    have no : ∀ j : Nat, (List.replicate f.blocks.length false)[j]? ≠ some true := fun j h => by
      rw [List.getElem?_replicate] at h; split at h <;> cases h
    constructor
    · intro h
      exact (reach13_sound _ _ 0 (.zero (by omega)) k h).resolve_left (no k)
    · intro h
      induction h with
      | zero _ => exact q2
      | to k b _ hb hk ih => exact ((q3 k ih).resolve_left (no k)) _ ⟨b, hb, .inl ⟨hk, rfl⟩⟩
      | els k b _ hb hk ih => exact ((q3 k ih).resolve_left (no k)) _ ⟨b, hb, .inr ⟨hk, rfl⟩⟩
/-! ### Numbers of blocks -/
def cntR (us : List Bool) (k : Nat) : Nat := (numAt us k).2
theorem cntR_step (us : List Bool) (k : Nat) : cntR us (k + 1) = if us[k]? = some true then cntR us k + 1 else cntR us k := by
  unfold cntR; rw [numAt_succ]; unfold numStep; split <;> rfl
theorem cntR_mono (us : List Bool) {i j : Nat} (h : i ≤ j) : cntR us i ≤ cntR us j := by
  induction j with
  | zero => rw [show i = 0 by omega]; exact Nat.le_refl _
  | succ j ih =>
    by_cases e : i = j + 1
    · rw [e]; exact Nat.le_refl _
    · have := ih (by omega); rw [cntR_step]; split <;> omega
theorem cntR_lt (us : List Bool) {i j : Nat} (hi : us[i]? = some true) (h : i < j) : cntR us i < cntR us j := by
  have h1 := cntR_mono us (i := i + 1) (j := j) (by omega)
  rw [cntR_step, if_pos hi] at h1; omega
theorem numG_mono (us : List Bool) {k m : Nat} (h : k ≤ m) {y : Int} (hy : y < (k : Int)) : (numAt us m).1 y = (numAt us k).1 y := by
  induction m with
  | zero => rw [show k = 0 by omega]
  | succ m ih =>
    by_cases e : k = m + 1
    · rw [e]
    · rw [← ih (by omega), numAt_succ]
      unfold numStep
      split
      · simp only [updG]; rw [if_neg (by omega)]
      · rfl
theorem numG_at (us : List Bool) {k m : Nat} (hk : us[k]? = some true) (h : k < m) : (numAt us m).1 (k : Int) = some (cntR us k : Int) := by
  rw [numG_mono us (k := k + 1) (by omega) (by omega), numAt_succ]
  unfold numStep
  rw [if_pos hk]
  simp [updG, cntR]
theorem outs13_at (g : Int → Option Int) : ∀ (bs : List DBlock) (us : List Bool) (k : Nat) (b : DBlock), bs[k]? = some b → us[k]? = some true → (outs13 g bs us)[cntR us k]? = some (blk13 g b) := fun bs us k b hb hu => by
  have hpre : ∀ m, k < m → m ≤ bs.length → m ≤ us.length → ∃ t, outs13 g (bs.take m) (us.take m) = outs13 g (bs.take k) (us.take k) ++ [blk13 g b] ++ t := fun m => by
    induction m with
    | zero => intro h; omega
    | succ m ih =>
      intro h1 h2 h3
      obtain ⟨c, hc⟩ : ∃ c, bs[m]? = some c := ⟨_, List.getElem?_eq_getElem (by omega)⟩
      obtain ⟨x, hx⟩ : ∃ x, us[m]? = some x := ⟨_, List.getElem?_eq_getElem (by omega)⟩
      rw [outs13_snoc hc hx]
      by_cases e : k = m
      · subst e
        rw [hb] at hc; cases hc
        rw [hu] at hx; cases hx
        exact ⟨[], by simp⟩
      · obtain ⟨t, ht⟩ := ih (by omega) (by omega) (by omega)
        exact ⟨t ++ (if x = true then [blk13 g c] else []), by rw [ht]; simp [List.append_assoc]⟩
  have hlen : ∀ m, m ≤ bs.length → m ≤ us.length → (outs13 g (bs.take m) (us.take m)).length = cntR us m := fun m => by
    induction m with
    | zero => intro _ _; simp [outs13, cntR, numAt]
    | succ m ih =>
      intro h2 h3
      obtain ⟨c, hc⟩ : ∃ c, bs[m]? = some c := ⟨_, List.getElem?_eq_getElem (by omega)⟩
      obtain ⟨x, hx⟩ : ∃ x, us[m]? = some x := ⟨_, List.getElem?_eq_getElem (by omega)⟩
      rw [outs13_snoc hc hx, List.length_append, ih (by omega) (by omega), cntR_step, hx]
      cases x <;> simp
  have hkb := (List.getElem?_eq_some_iff.1 hb).1
  have hku := (List.getElem?_eq_some_iff.1 hu).1
  obtain ⟨t, ht⟩ := hpre (min bs.length us.length) (by omega) (by omega) (by omega)
  have e : outs13 g bs us = outs13 g (bs.take (min bs.length us.length)) (us.take (min bs.length us.length)) := by
    unfold outs13
    congr 1
    rw [← List.zip_eq_zip_take_min]
  rw [e, ht, List.append_assoc, List.getElem?_append_right (by rw [hlen k (by omega) (by omega)]; exact Nat.le_refl _), hlen k (by omega) (by omega), Nat.sub_self]
  rfl
theorem outs13_length (g : Int → Option Int) {bs : List DBlock} {us : List Bool} (h : us.length = bs.length) : (outs13 g bs us).length = cntR us bs.length := by
  have hlen : ∀ m, m ≤ bs.length → m ≤ us.length → (outs13 g (bs.take m) (us.take m)).length = cntR us m := fun m => by
    induction m with
    | zero => intro _ _; simp [outs13, cntR, numAt]
    | succ m ih =>
      intro h2 h3
      obtain ⟨c, hc⟩ : ∃ c, bs[m]? = some c := ⟨_, List.getElem?_eq_getElem (by omega)⟩
      obtain ⟨x, hx⟩ : ∃ x, us[m]? = some x := ⟨_, List.getElem?_eq_getElem (by omega)⟩
      rw [outs13_snoc hc hx, List.length_append, ih (by omega) (by omega), cntR_step, hx]
      cases x <;> simp
  have := hlen bs.length (Nat.le_refl _) (by omega)
  rwa [List.take_length, ← h, List.take_length, h] at this
theorem cntR_from (us : List Bool) : ∀ (k j : Nat), j < cntR us k → ∃ i, i < k ∧ us[i]? = some true ∧ cntR us i = j
  | 0, j, h => by simp [cntR, numAt] at h
  | k + 1, j, h => by
    rw [cntR_step] at h
    split at h
    · rename_i hu
      by_cases e : j = cntR us k
      · exact ⟨k, by omega, hu, e.symm⟩
      · obtain ⟨i, h1, h2, h3⟩ := cntR_from us k j (by omega)
        exact ⟨i, by omega, h2, h3⟩
    · obtain ⟨i, h1, h2, h3⟩ := cntR_from us k j h
      exact ⟨i, by omega, h2, h3⟩
/-- A block of the trimmed function is a block that is reached, trimmed. -/
theorem func13_from {f : DFunc} {j : Nat} {c : DBlock} (h : (func13 f).blocks[j]? = some c) : ∃ k b, (reached13 f)[k]? = some true ∧ f.blocks[k]? = some b ∧ cntR (reached13 f) k = j ∧ c = blk13 (numAt (reached13 f) f.blocks.length).1 b := by
  have hl : (outs13 (numAt (reached13 f) f.blocks.length).1 f.blocks (reached13 f)).length = cntR (reached13 f) f.blocks.length := outs13_length _ (reached13_length f)
  have hj : j < cntR (reached13 f) f.blocks.length := by rw [← hl]; exact (List.getElem?_eq_some_iff.1 h).1
  obtain ⟨k, h1, h2, h3⟩ := cntR_from (reached13 f) _ j hj
  obtain ⟨b, hb⟩ : ∃ b, f.blocks[k]? = some b := ⟨_, List.getElem?_eq_getElem h1⟩
  refine ⟨k, b, h2, hb, h3, ?_⟩
  have := outs13_at (numAt (reached13 f) f.blocks.length).1 f.blocks (reached13 f) k b hb h2
  rw [h3] at this
  exact (Option.some.inj (this.symm.trans h)).symm
theorem func13_at {f : DFunc} {k : Nat} {b : DBlock} (hr : (reached13 f)[k]? = some true) (hb : f.blocks[k]? = some b) : (func13 f).blocks[cntR (reached13 f) k]? = some (blk13 (numAt (reached13 f) f.blocks.length).1 b) :=
  outs13_at _ _ _ k b hb hr
theorem func13_len (f : DFunc) : (func13 f).blocks.length = cntR (reached13 f) f.blocks.length := outs13_length _ (reached13_length f)
/-- Where a block of the trimmed function goes. -/
theorem blk13_goes {f : DFunc} (hgo : Goes13 f) {k : Nat} {b : DBlock} (hr : (reached13 f)[k]? = some true) (hb : f.blocks[k]? = some b) :
    (b.fin.kind ≠ 3 → (reached13 f)[b.fin.to.toNat]? = some true ∧ (blk13 (numAt (reached13 f) f.blocks.length).1 b).fin.to = (cntR (reached13 f) b.fin.to.toNat : Int)) ∧
    (b.fin.kind = 2 → (reached13 f)[b.fin.els.toNat]? = some true ∧ (blk13 (numAt (reached13 f) f.blocks.length).1 b).fin.els = (cntR (reached13 f) b.fin.els.toNat : Int)) := by
  have hR := (reached13_iff hgo k).1 hr
  have hg := hgo b (List.mem_of_getElem? hb)
  refine ⟨fun hk => ?_, fun hk => ?_⟩
  · have h1 := (reached13_iff hgo _).2 (Rch.to k b hR hb hk)
    refine ⟨h1, ?_⟩
    have h2 := hg.1 hk
    have h3 := numG_at (reached13 f) h1 (m := f.blocks.length) (by omega)
    rw [show ((b.fin.to.toNat : Nat) : Int) = b.fin.to by omega] at h3
    show (if (block13 b).fin.kind = 3 then (block13 b).fin.to else _) = _
    rw [if_neg (show ¬ (block13 b).fin.kind = 3 from hk)]
    show (((numAt (reached13 f) f.blocks.length).1 b.fin.to).getD 0) = _
    rw [h3]; rfl
  · have h1 := (reached13_iff hgo _).2 (Rch.els k b hR hb hk)
    refine ⟨h1, ?_⟩
    have h2 := hg.2 hk
    have h3 := numG_at (reached13 f) h1 (m := f.blocks.length) (by omega)
    rw [show ((b.fin.els.toNat : Nat) : Int) = b.fin.els by omega] at h3
    show (if (block13 b).fin.kind = 2 then _ else (block13 b).fin.els) = _
    rw [if_pos (show (block13 b).fin.kind = 2 from hk)]
    show (((numAt (reached13 f) f.blocks.length).1 b.fin.els).getD 0) = _
    rw [h3]; rfl
theorem goes_func13 {f : DFunc} (hgo : Goes13 f) : Goes13 (func13 f) := fun c hc => by
  obtain ⟨j, hj⟩ := List.mem_iff_getElem?.1 hc
  obtain ⟨k, b, hr, hb, _, rfl⟩ := func13_from hj
  have h := blk13_goes hgo hr hb
  have lt : ∀ i, (reached13 f)[i]? = some true → cntR (reached13 f) i < (func13 f).blocks.length := fun i hi => by
    have := (List.getElem?_eq_some_iff.1 hi).1
    rw [func13_len]; exact cntR_lt _ hi (by rw [reached13_length] at this; exact this)
  refine ⟨fun hk => ?_, fun hk => ?_⟩
  · obtain ⟨h1, h2⟩ := h.1 hk
    rw [h2]; have := lt _ h1; omega
  · obtain ⟨h1, h2⟩ := h.2 hk
    rw [h2]; have := lt _ h1; omega
/-- All of it is reached. -/
theorem all_func13 {f : DFunc} (hgo : Goes13 f) {j : Nat} (hj : j < (func13 f).blocks.length) : (reached13 (func13 f))[j]? = some true := by
  rw [reached13_iff (goes_func13 hgo)]
  obtain ⟨c, hc⟩ : ∃ c, (func13 f).blocks[j]? = some c := ⟨_, List.getElem?_eq_getElem hj⟩
  obtain ⟨k, b, hr, hb, h3, _⟩ := func13_from hc
  rw [← h3]
  have hR := (reached13_iff hgo k).1 hr
  clear hc h3 hr hb
  induction hR with
  | zero h =>
    have : cntR (reached13 f) 0 = 0 := by simp [cntR, numAt]
    rw [this]; exact .zero (by omega)
  | to k b h hb hk ih =>
    have hr := (reached13_iff hgo k).2 h
    have h1 := (blk13_goes hgo hr hb).1 hk
    have := Rch.to _ _ ih (func13_at hr hb) (show (blk13 _ b).fin.kind ≠ 3 from hk)
    rwa [h1.2, Int.toNat_natCast] at this
  | els k b h hb hk ih =>
    have hr := (reached13_iff hgo k).2 h
    have h1 := (blk13_goes hgo hr hb).2 hk
    have := Rch.els _ _ ih (func13_at hr hb) (show (blk13 _ b).fin.kind = 2 from hk)
    rwa [h1.2, Int.toNat_natCast] at this
theorem used_blk13 (g : Int → Option Int) (b : DBlock) : used13 (blk13 g b) = used13 (block13 b) := by
  have hb : ∀ (k : Nat) (us : List Bool), back13 (blk13 g b) k us = back13 (block13 b) k us := fun k => by
    induction k with
    | zero => intro us; rfl
    | succ k ih =>
      intro us
      show (match (block13 b).ins[k]? with | some x => back13 (blk13 g b) k (stepU13 (block13 b).params.toNat k x us) | none => back13 (blk13 g b) k us) = _
      rw [back13]
      cases (block13 b).ins[k]? with
      | none => exact ih us
      | some x => exact ih _
  show back13 (blk13 g b) (block13 b).ins.length _ = _
  rw [hb]; rfl
theorem sc_blk13 {g : Int → Option Int} {b : DBlock} (hs : Sc13 b) : Sc13 (blk13 g b) := by
  obtain ⟨⟨h1, h2, h3, h4, h5, h6, h7, h8⟩, h9⟩ := sc_block13 hs
  exact ⟨⟨h1, h2, h3, h4, h5, h6, h7, h8⟩, h9⟩
theorem sc_func13 {f : DFunc} (h : ∀ b ∈ f.blocks, Sc13 b) : ∀ c ∈ (func13 f).blocks, Sc13 c := fun c hc => by
  obtain ⟨j, hj⟩ := List.mem_iff_getElem?.1 hc
  obtain ⟨k, b, _, hb, _, rfl⟩ := func13_from hj
  exact sc_blk13 (h b (List.mem_of_getElem? hb))
theorem all_ins13 {f : DFunc} (h : ∀ b ∈ f.blocks, Sc13 b) {c : DBlock} (hc : c ∈ (func13 f).blocks) {j : Nat} {y : DInst} (hy : c.ins[j]? = some y) : does13 y = true ∨ (used13 c)[c.params.toNat + j]? = some true := by
  obtain ⟨i, hi⟩ := List.mem_iff_getElem?.1 hc
  obtain ⟨k, b, _, hb, _, rfl⟩ := func13_from hi
  rw [used_blk13]
  exact all_block13 (h b (List.mem_of_getElem? hb)) hy
end Go.Proofs.Ytdlcmhkfglckfaa
