/-
  What trimming does to a block: what stays is used, and is numbered in order. No condition beyond those that each theorem states.
-/
import Derived.Test.YtdlcmhkfglckfaaU7
namespace Go.Proofs.Ytdlcmhkfglckfaa

/-- A block whose instructions use only what stands before them. -/
structure Sc13 (b : DBlock) : Prop where
  ok : Ok13 b
  sc : ∀ (i : Nat) x, b.ins[i]? = some x → ∀ v ∈ uses5 x, v < ((b.params.toNat + i : Nat) : Int)
theorem sc13_of5 {f : DFunc} {b : DBlock} (h : func5 f = true) (hb : b ∈ f.blocks) : Sc13 b := by
  refine ⟨ok13_of5 h hb, fun i x hx v hv => ?_⟩
  have hb5 := (func5_all h).2 b hb
  have h1 := allFrom_at b.ins b.params i x (block5_more hb5).1 hx
  have h2 := (inst5_all h1).2.1 v hv
  have := (block5_all hb5).1
  omega
theorem mark13_get {us : List Bool} {l : List Int} {v : Nat} (hv : v < us.length) (hl : ∀ x ∈ l, 0 ≤ x) : (mark13 us l)[v]? = if (v : Int) ∈ l then some true else us[v]? := by
  induction l using snoc_ind with
  | h0 => simp [mark13]
  | h1 l x ih =>
    have ih := ih fun y hy => hl y (List.mem_append_left _ hy)
    have hx := hl x (List.mem_append_right _ (List.mem_singleton.2 rfl))
    rw [mark13_snoc, List.getElem?_set, mark13_length]
    by_cases e : x.toNat = v
    · rw [if_pos e, if_pos (show x.toNat < us.length by omega), if_pos (List.mem_append_right _ (List.mem_singleton.2 (by omega)))]
    · rw [if_neg e, ih]
      have : ((v : Int) ∈ l ++ [x]) ↔ (v : Int) ∈ l := by
        rw [List.mem_append, List.mem_singleton]
        exact ⟨fun h => h.elim id (fun h => by omega), .inl⟩
      by_cases h : (v : Int) ∈ l
      · rw [if_pos h, if_pos (this.2 h)]
      · rw [if_neg h, if_neg (fun h' => h (this.1 h'))]
/-- Which values are used, from instruction k on. -/
def UsedFrom (b : DBlock) (k : Nat) (us : List Bool) : Prop := us.length = b.params.toNat + b.ins.length ∧ ∀ v : Nat, v < b.params.toNat + b.ins.length →
  (us[v]? = some true ↔ (v : Int) ∈ ends13 b.fin ∨ ∃ (i : Nat) (x : DInst), k ≤ i ∧ b.ins[i]? = some x ∧ (does13 x = true ∨ us[b.params.toNat + i]? = some true) ∧ (v : Int) ∈ uses5 x)
theorem usedFrom_step {b : DBlock} (hs : Sc13 b) {k : Nat} {x : DInst} {us : List Bool} (hx : b.ins[k]? = some x) (h : UsedFrom b (k + 1) us) : UsedFrom b k (stepU13 b.params.toNat k x us) := by
  obtain ⟨hl, hu⟩ := h
  have hk := (List.getElem?_eq_some_iff.1 hx).1
  have hlen : (stepU13 b.params.toNat k x us).length = us.length := by unfold stepU13; split; exact mark13_length _ _; rfl
  have hus : ∀ y ∈ uses5 x, 0 ≤ y := fun y hy => (hs.ok.uses x (List.mem_of_getElem? hx) y hy).1
  have get : ∀ v : Nat, v < us.length → ((stepU13 b.params.toNat k x us)[v]? = some true ↔ us[v]? = some true ∨ ((does13 x = true ∨ us[b.params.toNat + k]? = some true) ∧ (v : Int) ∈ uses5 x)) := fun v hv => by
    unfold stepU13
    by_cases hd : does13 x = true ∨ us[b.params.toNat + k]? = some true
    · rw [if_pos hd, mark13_get hv hus]
      by_cases hm : (v : Int) ∈ uses5 x
      · rw [if_pos hm]; exact ⟨fun _ => .inr ⟨hd, hm⟩, fun _ => rfl⟩
      · rw [if_neg hm]; exact ⟨.inl, fun h => h.elim id (fun h => absurd h.2 hm)⟩
    · rw [if_neg hd]; exact ⟨.inl, fun h => h.elim id (fun h => absurd h.1 hd)⟩
  have same : ∀ i : Nat, k ≤ i → i < b.ins.length → ((stepU13 b.params.toNat k x us)[b.params.toNat + i]? = some true ↔ us[b.params.toNat + i]? = some true) := fun i hi hil => by
    rw [get _ (by omega)]
    exact ⟨fun h => h.elim id (fun h => by have := hs.sc k x hx _ h.2; omega), .inl⟩
  refine ⟨by rw [hlen, hl], fun v hv => ?_⟩
  rw [get v (by omega), hu v hv]
  constructor
  · rintro ((h | ⟨i, y, h1, h2, h3, h4⟩) | ⟨h1, h2⟩)
    · exact .inl h
    · have hil := (List.getElem?_eq_some_iff.1 h2).1
      exact .inr ⟨i, y, by omega, h2, h3.imp id (same i (by omega) hil).2, h4⟩
    · exact .inr ⟨k, x, Nat.le_refl _, hx, h1.imp id (same k (Nat.le_refl _) hk).2, h2⟩
  · rintro (h | ⟨i, y, h1, h2, h3, h4⟩)
    · exact .inl (.inl h)
    · have hil := (List.getElem?_eq_some_iff.1 h2).1
      by_cases e : i = k
      · subst e
        rw [hx] at h2; cases h2
        exact .inr ⟨h3.imp id (same i (Nat.le_refl _) hil).1, h4⟩
      · exact .inl (.inr ⟨i, y, by omega, h2, h3.imp id (same i (by omega) hil).1, h4⟩)
theorem usedFrom_back {b : DBlock} (hs : Sc13 b) : ∀ (k : Nat) (us : List Bool), k ≤ b.ins.length → UsedFrom b k us → UsedFrom b 0 (back13 b k us)
  | 0, _, _, h => h
  | k + 1, us, hk, h => by
    have hx : b.ins[k]? = some b.ins[k] := List.getElem?_eq_getElem (by omega)
    rw [back13, hx]
    exact usedFrom_back hs k _ (by omega) (usedFrom_step hs hx h)
theorem used13_from {b : DBlock} (hs : Sc13 b) : UsedFrom b 0 (used13 b) := by
  refine usedFrom_back hs b.ins.length _ (Nat.le_refl _) ⟨by rw [mark13_length, List.length_replicate], fun v hv => ?_⟩
  rw [mark13_get (by rw [List.length_replicate]; exact hv) fun x hx => (hs.ok.ends x hx).1]
  constructor
  · intro h
    by_cases hm : (v : Int) ∈ ends13 b.fin
    · exact .inl hm
    · rw [if_neg hm, List.getElem?_replicate, if_pos hv] at h; cases h
  · rintro (h | ⟨i, x, h1, h2, _⟩)
    · rw [if_pos h]
    · have := (List.getElem?_eq_some_iff.1 h2).1; omega
/-- Which values are used. -/
theorem used13_iff {b : DBlock} (hs : Sc13 b) {v : Nat} (hv : v < b.params.toNat + b.ins.length) :
    (used13 b)[v]? = some true ↔ (v : Int) ∈ ends13 b.fin ∨ ∃ (i : Nat) (x : DInst), b.ins[i]? = some x ∧ (does13 x = true ∨ (used13 b)[b.params.toNat + i]? = some true) ∧ (v : Int) ∈ uses5 x := by
  rw [(used13_from hs).2 v hv]
  exact ⟨fun h => h.imp id fun ⟨i, x, _, h⟩ => ⟨i, x, h⟩, fun h => h.imp id fun ⟨i, x, h⟩ => ⟨i, x, Nat.zero_le _, h⟩⟩
/-- An instruction that stays. -/
def Kept13 (b : DBlock) (i : Nat) (x : DInst) : Prop := b.ins[i]? = some x ∧ (does13 x = true ∨ (used13 b)[b.params.toNat + i]? = some true)
def cnt13 (b : DBlock) (i : Nat) : Nat := (at13 b i).2.length
theorem at13_kept {b : DBlock} {i : Nat} {x : DInst} (h : Kept13 b i x) : at13 b (i + 1) = (updG (at13 b i).1 ((b.params.toNat + i : Nat) : Int) ((b.params.toNat + cnt13 b i : Nat) : Int), (at13 b i).2 ++ [inst13 (at13 b (i + 1)).1 x]) := by
  have h1 := at13_yes h.1 h.2
  rw [h1]; rfl
theorem at13_drop {b : DBlock} {i : Nat} {x : DInst} (hx : b.ins[i]? = some x) (h : ¬ Kept13 b i x) : at13 b (i + 1) = at13 b i := by
  rw [at13_next hx]; unfold insStep13; rw [if_neg (fun c => h ⟨hx, c⟩)]
theorem cnt_step (b : DBlock) (i : Nat) (hi : i < b.ins.length) : cnt13 b i ≤ cnt13 b (i + 1) ∧ (∀ x, Kept13 b i x → cnt13 b (i + 1) = cnt13 b i + 1) := by
  have hx : b.ins[i]? = some b.ins[i] := List.getElem?_eq_getElem hi
  unfold cnt13
  by_cases h : Kept13 b i b.ins[i]
  · have h2 := congrArg (fun z => z.2.length) (at13_kept h)
    simp only [List.length_append, List.length_cons, List.length_nil] at h2
    exact ⟨by omega, fun _ _ => by omega⟩
  · rw [at13_drop hx h]
    exact ⟨Nat.le_refl _, fun x hk => by have := hk.1; rw [hx] at this; cases this; exact absurd hk h⟩
/-- Numbers that were given are kept. -/
theorem g_mono (b : DBlock) {k m : Nat} (hkm : k ≤ m) (hm : m ≤ b.ins.length) {y : Int} (hy : y < ((b.params.toNat + k : Nat) : Int)) : (at13 b m).1 y = (at13 b k).1 y := by
  induction m with
  | zero => rw [show k = 0 by omega]
  | succ m ih =>
    by_cases e : k = m + 1
    · rw [e]
    · rw [← ih (by omega) (by omega)]
      have hx : b.ins[m]? = some b.ins[m] := List.getElem?_eq_getElem (by omega)
      by_cases h : Kept13 b m b.ins[m]
      · rw [at13_kept h]
        simp only [updG]
        rw [if_neg (by omega)]
      · rw [at13_drop hx h]
theorem g_param (b : DBlock) {k : Nat} (hk : k ≤ b.ins.length) {v : Nat} (hv : v < b.params.toNat) : (at13 b k).1 (v : Int) = some (v : Int) := by
  rw [g_mono b (Nat.zero_le k) hk (by omega)]
  simp only [at13, List.take_zero, go13, idG]
  rw [if_pos (by omega)]
theorem g_kept (b : DBlock) {i k : Nat} {x : DInst} (h : Kept13 b i x) (hik : i < k) (hk : k ≤ b.ins.length) : (at13 b k).1 ((b.params.toNat + i : Nat) : Int) = some ((b.params.toNat + cnt13 b i : Nat) : Int) := by
  rw [g_mono b (k := i + 1) (by omega) hk (by omega), at13_kept h]
  simp [updG]
theorem used_of_uses {b : DBlock} (hs : Sc13 b) {i : Nat} {x : DInst} (h : Kept13 b i x) {v : Int} (hv : v ∈ uses5 x) : (used13 b)[v.toNat]? = some true := by
  obtain ⟨h1, h2⟩ := hs.ok.uses x (List.mem_of_getElem? h.1) v hv
  refine (used13_iff hs (by omega)).2 (.inr ⟨i, x, h.1, h.2, ?_⟩)
  rwa [show ((v.toNat : Nat) : Int) = v by omega]
theorem used_of_ends {b : DBlock} (hs : Sc13 b) {v : Int} (hv : v ∈ ends13 b.fin) : (used13 b)[v.toNat]? = some true := by
  obtain ⟨h1, h2⟩ := hs.ok.ends v hv
  refine (used13_iff hs (by omega)).2 (.inl ?_)
  rwa [show ((v.toNat : Nat) : Int) = v by omega]
end Go.Proofs.Ytdlcmhkfglckfaa
