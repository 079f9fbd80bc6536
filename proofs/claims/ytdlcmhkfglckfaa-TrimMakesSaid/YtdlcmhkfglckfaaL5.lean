/-
  The rounds of the document mark what is reached. No condition beyond those that each theorem states.
-/
import Derived.Test.YtdlcmhkfglckfaaV3
namespace Go.Proofs.Ytdlcmhkfglckfaa

theorem passK_mono {f : DFunc} {us : List Bool} {k j : Nat} (h : us[j]? = some true) : (passK f us k)[j]? = some true := by
  unfold passK
  split
  · exact h
  · split <;> split
    · exact get_set_true (get_set_true h)
    · exact get_set_true h
    · exact get_set_true h
    · exact h
theorem set_true {us : List Bool} {i j : Nat} (h : (us.set i true)[j]? = some true) : us[j]? = some true ∨ j = i := by
  rw [List.getElem?_set] at h
  split at h
  · rename_i e; exact .inr e.symm
  · exact .inl h
theorem passTo_mono {f : DFunc} {us : List Bool} {k m j : Nat} (hkm : k ≤ m) (h : (passTo f us k)[j]? = some true) : (passTo f us m)[j]? = some true := by
  induction m with
  | zero => rw [show k = 0 by omega] at h; exact h
  | succ m ih =>
    by_cases e : k = m + 1
    · rw [← e]; exact h
    · rw [passTo_succ]; exact passK_mono (ih (by omega))
theorem passK_sound {f : DFunc} {us : List Bool} {k : Nat} (h : ∀ j : Nat, us[j]? = some true → Rch f j) : ∀ j : Nat, (passK f us k)[j]? = some true → Rch f j := fun j hj => by
  cases hb : f.blocks[k]? with
  | none => unfold passK at hj; rw [hb] at hj; exact h j hj
  | some b =>
    have h1 : ∀ i : Nat, (if us[k]? = some true ∧ b.fin.kind ≠ 3 then us.set b.fin.to.toNat true else us)[i]? = some true → Rch f i := fun i hi => by
      split at hi
      · rename_i c
        rcases set_true hi with hi | rfl
        · exact h i hi
        · exact .to k b (h k c.1) hb c.2
      · exact h i hi
    obtain ⟨u1, hu1⟩ : ∃ u1, (if us[k]? = some true ∧ b.fin.kind ≠ 3 then us.set b.fin.to.toNat true else us) = u1 := ⟨_, rfl⟩
    rw [hu1] at h1
    rw [passK_at hb hu1] at hj
    split at hj
    · rename_i c
      rcases set_true hj with hj | rfl
      · exact h1 j hj
      · exact .els k b (h1 k c.1) hb c.2
    · exact h1 j hj
theorem passTo_sound {f : DFunc} {us : List Bool} (h : ∀ j : Nat, us[j]? = some true → Rch f j) (k : Nat) : ∀ j : Nat, (passTo f us k)[j]? = some true → Rch f j := by
  induction k with
  | zero => exact h
  | succ k ih => rw [passTo_succ]; exact passK_sound ih
theorem rounds_sound {f : DFunc} (hp : 0 < f.blocks.length) (n : Nat) : ∀ j : Nat, (rounds f n)[j]? = some true → Rch f j := by
  induction n with
  | zero =>
    intro j h
    rw [rounds, List.getElem?_replicate] at h
    split at h <;> cases h
  | succ n ih =>
    rw [rounds]
    refine passTo_sound (fun j hj => ?_) _
    rcases set_true hj with hj | rfl
    · exact ih j hj
    · exact .zero hp
/-- One pass marks where what was marked goes to. -/
theorem passTo_goes {f : DFunc} (hgo : Goes13 f) {us : List Bool} (hl : us.length = f.blocks.length) {k j : Nat} (h : us[k]? = some true) (hs : Succ13 f k j) : (passTo f us f.blocks.length)[j]? = some true := by
  obtain ⟨b, hb, hs⟩ := hs
  have hk := (List.getElem?_eq_some_iff.1 hb).1
  have h0 : (passTo f us k)[k]? = some true := passTo_mono (Nat.zero_le k) (show (passTo f us 0)[k]? = some true from h)
  refine passTo_mono (k := k + 1) (by omega) ?_
  have hlen : (passTo f us k).length = f.blocks.length := by rw [passTo_length, hl]
  have hg := hgo b (List.mem_of_getElem? hb)
  rw [passTo_succ, passK_at hb rfl]
  have hset : ∀ (vs : List Bool) (i : Nat), vs.length = f.blocks.length → i < f.blocks.length → (vs.set i true)[i]? = some true := fun vs i hv hi => by rw [List.getElem?_set, if_pos rfl, if_pos (by omega)]
  rcases hs with ⟨hk3, rfl⟩ | ⟨hk2, rfl⟩
  · have := hg.1 hk3
    rw [if_pos (c := (passTo f us k)[k]? = some true ∧ b.fin.kind ≠ 3) ⟨h0, hk3⟩]
    split
    · exact get_set_true (hset _ _ hlen (by omega))
    · exact hset _ _ hlen (by omega)
  · have := hg.2 hk2
    have hk3 : b.fin.kind ≠ 3 := by omega
    rw [if_pos (c := (passTo f us k)[k]? = some true ∧ b.fin.kind ≠ 3) ⟨h0, hk3⟩, if_pos ⟨get_set_true h0, hk2⟩]
    exact hset _ _ (by rw [List.length_set, hlen]) (by omega)
theorem falses_le : ∀ (us vs : List Bool), us.length = vs.length → (∀ j : Nat, us[j]? = some true → vs[j]? = some true) → falses vs ≤ falses us
  | [], [], _, _ => Nat.le_refl _
  | [], _ :: _, h, _ => by simp at h
  | _ :: _, [], h, _ => by simp at h
  | x :: r, y :: s, hl, h => by
    have ih := falses_le r s (by simpa using hl) (fun j hj => by simpa using h (j + 1) (by simpa using hj))
    have h0 := h 0
    unfold falses at *
    cases x <;> cases y <;> simp at h0 ⊢ <;> omega
theorem falses_lt {us vs : List Bool} (hl : us.length = vs.length) (h : ∀ j : Nat, us[j]? = some true → vs[j]? = some true) {k : Nat} (hk : us[k]? = some false) (hv : vs[k]? = some true) : falses vs < falses us := by
  have h1 := falses_le (us.set k true) vs (by rw [List.length_set]; exact hl) fun j hj => (set_true hj).elim (h j) (fun e => by rw [e]; exact hv)
  have h2 := falses_set hk
  omega
theorem rounds_mono (f : DFunc) (n : Nat) {j : Nat} (h : (rounds f n)[j]? = some true) : (rounds f (n + 1))[j]? = some true := by
  rw [rounds]; exact passTo_mono (Nat.zero_le _) (show (passTo f _ 0)[j]? = some true from get_set_true h)
theorem rounds_zero {f : DFunc} (hp : 0 < f.blocks.length) (n : Nat) : (rounds f (n + 1))[0]? = some true := by
  rw [rounds]
  refine passTo_mono (Nat.zero_le _) (show (passTo f _ 0)[0]? = some true from ?_)
  show ((rounds f n).set 0 true)[0]? = some true
  rw [List.getElem?_set, if_pos rfl, if_pos (by rw [rounds_length]; exact hp)]
theorem rounds_all {f : DFunc} (hgo : Goes13 f) (hp : 0 < f.blocks.length) : ∀ n, (∀ j, Rch f j → (rounds f (n + 1))[j]? = some true) ∨ falses (rounds f (n + 1)) + (n + 1) ≤ f.blocks.length
  | 0 => by
    right
    have h0 : (List.replicate f.blocks.length false)[0]? = some false := by rw [List.getElem?_replicate, if_pos hp]
    have h1 := falses_lt (us := rounds f 0) (vs := rounds f 1) (by rw [rounds_length, rounds_length]) (fun j hj => rounds_mono f 0 hj) h0 (rounds_zero hp 0)
    have h2 : falses (rounds f 0) = f.blocks.length := by unfold falses rounds; rw [List.count_replicate_self]
    show falses (rounds f 1) + 1 ≤ _
    omega
  | n + 1 => by
    rcases rounds_all hgo hp n with h | h
    · exact .inl fun j hj => rounds_mono f _ (h j hj)
    · by_cases hall : ∀ j, Rch f j → (rounds f (n + 1))[j]? = some true
      · exact .inl fun j hj => rounds_mono f _ (hall j hj)
      · right
        obtain ⟨k, j, hk, hs, hj⟩ : ∃ k j, (rounds f (n + 1))[k]? = some true ∧ Succ13 f k j ∧ (rounds f (n + 1))[j]? ≠ some true := by
          apply Classical.byContradiction
          intro hno
          have cl : ∀ k j, (rounds f (n + 1))[k]? = some true → Succ13 f k j → (rounds f (n + 1))[j]? = some true := fun k j hk hs => Classical.byContradiction fun hj => hno ⟨k, j, hk, hs, hj⟩
          refine hall fun j hr => ?_
          induction hr with
          | zero _ => exact rounds_zero hp n
          | to k b _ hb hk ih => exact cl _ _ ih ⟨b, hb, .inl ⟨hk, rfl⟩⟩
          | els k b _ hb hk ih => exact cl _ _ ih ⟨b, hb, .inr ⟨hk, rfl⟩⟩
        have h1 : (rounds f (n + 2))[j]? = some true := by
          rw [rounds]
          exact passTo_goes hgo (by rw [List.length_set, rounds_length]) (get_set_true hk) hs
        have hjl : j < f.blocks.length := by have := (List.getElem?_eq_some_iff.1 h1).1; rwa [rounds_length] at this
        have h2 : (rounds f (n + 1))[j]? = some false := by
          obtain ⟨x, hx⟩ : ∃ x, (rounds f (n + 1))[j]? = some x := ⟨_, List.getElem?_eq_getElem (by rw [rounds_length]; exact hjl)⟩
          cases x
          · exact hx
          · exact absurd hx hj
        have h3 := falses_lt (us := rounds f (n + 1)) (vs := rounds f (n + 2)) (by rw [rounds_length, rounds_length]) (fun j hj => rounds_mono f _ hj) h2 h1
        show falses (rounds f (n + 2)) + (n + 2) ≤ _
        omega
/-- The document's answer is the program's. -/
theorem rounds_eq {f : DFunc} (hgo : Goes13 f) : rounds f f.blocks.length = reached13 f := by
  apply List.ext_getElem?
  intro j
  by_cases hj : j < f.blocks.length
  · obtain ⟨n, hn⟩ : ∃ n, f.blocks.length = n + 1 := ⟨f.blocks.length - 1, by omega⟩
    have hp : 0 < f.blocks.length := by omega
    obtain ⟨x, hx⟩ : ∃ x, (rounds f f.blocks.length)[j]? = some x := ⟨_, List.getElem?_eq_getElem (by rw [rounds_length]; exact hj)⟩
    obtain ⟨y, hy⟩ : ∃ y, (reached13 f)[j]? = some y := ⟨_, List.getElem?_eq_getElem (by rw [reached13_length]; exact hj)⟩
    have h : x = true ↔ y = true := by
      constructor
      · intro e; subst e
        have := (reached13_iff hgo j).2 (rounds_sound hp _ j hx)
        rw [hy] at this; exact Option.some.inj this
      · intro e; subst e
        have hr := (reached13_iff hgo j).1 hy
        rcases rounds_all hgo hp n with h | h
        · have := h j hr
          rw [← hn, hx] at this; exact Option.some.inj this
        · cases x
          · have := falses_pos (us := rounds f (n + 1)) (by rw [← hn]; exact hx); omega
          · rfl
    rw [hx, hy]
    cases x <;> cases y <;> simp_all
  · rw [List.getElem?_eq_none (by rw [rounds_length]; omega), List.getElem?_eq_none (by rw [reached13_length]; omega)]
end Go.Proofs.Ytdlcmhkfglckfaa
