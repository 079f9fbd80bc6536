/-
  What trimming does to a block: what stays is used, and is numbered in order. No condition beyond those that each theorem states.
-/
import Derived.Test.YtdlcmhkfglckfaaU7
namespace Go.Proofs.Ytdlcmhkfglckfaa

/-- A block whose instructions use only what stands before them. -/
structure Sc13 (b : DBlock) : Prop where
  ok : Ok13 b
  sc : ∀ (i : Nat) x, b.ins[i]? = some x → ∀ v ∈ uses5 x, v < ((b.params.toNat + i : Nat) : Int)
theorem sc13_of5 {f : DFunc} {b : DBlock} (h : func5 f = true) (hb : b ∈ f.blocks) : Sc13 b := by
  refine ⟨ok13_of5 h hb, fun i x hx v hv => ?_⟩
  have hb5 := (func5_all h).2 b hb
  have h1 := allFrom_at b.ins b.params i x (block5_more hb5).1 hx
  have h2 := (inst5_all h1).2.1 v hv
  have := (block5_all hb5).1
  omega
theorem mark13_get {us : List Bool} {l : List Int} {v : Nat} (hv : v < us.length) (hl : ∀ x ∈ l, 0 ≤ x) : (mark13 us l)[v]? = if (v : Int) ∈ l then some true else us[v]? := by
  induction l using snoc_ind with
  | h0 => simp [mark13]
  | h1 l x ih =>
    have ih := ih fun y hy => hl y (List.mem_append_left _ hy)
    have hx := hl x (List.mem_append_right _ (List.mem_singleton.2 rfl))
    rw [mark13_snoc, List.getElem?_set, mark13_length]
    by_cases e : x.toNat = v
    · rw [if_pos e, if_pos (show x.toNat < us.length by omega), if_pos (List.mem_append_right _ (List.mem_singleton.2 (by omega)))]
    · rw [if_neg e, ih]
      have : ((v : Int) ∈ l ++ [x]) ↔ (v : Int) ∈ l := by
        rw [List.mem_append, List.mem_singleton]
        exact ⟨fun h => h.elim id (fun h => by omega), .inl⟩
      by_cases h : (v : Int) ∈ l
      · rw [if_pos h, if_pos (this.2 h)]
      · rw [if_neg h, if_neg (fun h' => h (this.1 h'))]
/-- Which values are used, from instruction k on. -/
def UsedFrom (b : DBlock) (k : Nat) (us : List Bool) : Prop := us.length = b.params.toNat + b.ins.length ∧ ∀ v : Nat, v < b.params.toNat + b.ins.length →
  (us[v]? = some true ↔ (v : Int) ∈ ends13 b.fin ∨ ∃ (i : Nat) (x : DInst), k ≤ i ∧ b.ins[i]? = some x ∧ (does13 x = true ∨ us[b.params.toNat + i]? = some true) ∧ (v : Int) ∈ uses5 x)
theorem usedFrom_step {b : DBlock} (hs : Sc13 b) {k : Nat} {x : DInst} {us : List Bool} (hx : b.ins[k]? = some x) (h : UsedFrom b (k + 1) us) : UsedFrom b k (stepU13 b.params.toNat k x us) := by
  obtain ⟨hl, hu⟩ := h
  have hk := (List.getElem?_eq_some_iff.1 hx).1
  have hlen : (stepU13 b.params.toNat k x us).length = us.length := by unfold stepU13; split; exact mark13_length _ _; rfl
  have hus : ∀ y ∈ uses5 x, 0 ≤ y := fun y hy => (hs.ok.uses x (List.mem_of_getElem? hx) y hy).1
  have get : ∀ v : Nat, v < us.length → ((stepU13 b.params.toNat k x us)[v]? = some true ↔ us[v]? = some true ∨ ((does13 x = true ∨ us[b.params.toNat + k]? = some true) ∧ (v : Int) ∈ uses5 x)) := fun v hv => by
    unfold stepU13
    by_cases hd : does13 x = true ∨ us[b.params.toNat + k]? = some true
    · rw [if_pos hd, mark13_get hv hus]
      by_cases hm : (v : Int) ∈ uses5 x
      · rw [if_pos hm]; exact ⟨fun _ => .inr ⟨hd, hm⟩, fun _ => rfl⟩
      · rw [if_neg hm]; exact ⟨.inl, fun h => h.elim id (fun h => absurd h.2 hm)⟩
    · rw [if_neg hd]; exact ⟨.inl, fun h => h.elim id (fun h => absurd h.1 hd)⟩
  have same : ∀ i : Nat, k ≤ i → i < b.ins.length → ((stepU13 b.params.toNat k x us)[b.params.toNat + i]? = some true ↔ us[b.params.toNat + i]? = some true) := fun i hi hil => by
    rw [get _ (by omega)]
    exact ⟨fun h => h.elim id (fun h => by have := hs.sc k x hx _ h.2; omega), .inl⟩
  refine ⟨by rw [hlen, hl], fun v hv => ?_⟩
  rw [get v (by omega), hu v hv]
  constructor
  · rintro ((h | ⟨i, y, h1, h2, h3, h4⟩) | ⟨h1, h2⟩)
    · exact .inl h
    · have hil := (List.getElem?_eq_some_iff.1 h2).1
      exact .inr ⟨i, y, by omega, h2, h3.imp id (same i (by omega) hil).2, h4⟩
    · exact .inr ⟨k, x, Nat.le_refl _, hx, h1.imp id (same k (Nat.le_refl _) hk).2, h2⟩
  · rintro (h | ⟨i, y, h1, h2, h3, h4⟩)
    · exact .inl (.inl h)
    · have hil := (List.getElem?_eq_some_iff.1 h2).1
      by_cases e : i = k
      · subst e
        rw [hx] at h2; cases h2
        exact .inr ⟨h3.imp id (same i (Nat.le_refl _) hil).1, h4⟩
      · exact .inl (.inr ⟨i, y, by omega, h2, h3.imp id (same i (by omega) hil).1, h4⟩)
theorem usedFrom_back {b : DBlock} (hs : Sc13 b) : ∀ (k : Nat) (us : List Bool), k ≤ b.ins.length → UsedFrom b k us → UsedFrom b 0 (back13 b k us)
  | 0, _, _, h => h
  | k + 1, us, hk, h => by
    have hx : b.ins[k]? = some b.ins[k] := List.getElem?_eq_getElem (by omega)
    rw [back13, hx]
    exact usedFrom_back hs k _ (by omega) (usedFrom_step hs hx h)
theorem used13_from {b : DBlock} (hs : Sc13 b) : UsedFrom b 0 (used13 b) := by
  refine usedFrom_back hs b.ins.length _ (Nat.le_refl _) ⟨by rw [mark13_length, List.length_replicate], fun v hv => ?_⟩
  rw [mark13_get (by rw [List.length_replicate]; exact hv) fun x hx => (hs.ok.ends x hx).1]
  constructor
  · intro h
    by_cases hm : (v : Int) ∈ ends13 b.fin
    · exact .inl hm
    · rw [if_neg hm, List.getElem?_replicate, if_pos hv] at h; cases h
  · rintro (h | ⟨i, x, h1, h2, _⟩)
    · rw [if_pos h]
    · have := (List.getElem?_eq_some_iff.1 h2).1; omega
/-- Which values are used. -/
theorem used13_iff {b : DBlock} (hs : Sc13 b) {v : Nat} (hv : v < b.params.toNat + b.ins.length) :
    (used13 b)[v]? = some true ↔ (v : Int) ∈ ends13 b.fin ∨ ∃ (i : Nat) (x : DInst), b.ins[i]? = some x ∧ (does13 x = true ∨ (used13 b)[b.params.toNat + i]? = some true) ∧ (v : Int) ∈ uses5 x := by
  rw [(used13_from hs).2 v hv]
  exact ⟨fun h => h.imp id fun ⟨i, x, _, h⟩ => ⟨i, x, h⟩, fun h => h.imp id fun ⟨i, x, h⟩ => ⟨i, x, Nat.zero_le _, h⟩⟩
/-- An instruction that stays. -/
def Kept13 (b : DBlock) (i : Nat) (x : DInst) : Prop := b.ins[i]? = some x ∧ (does13 x = true ∨ (used13 b)[b.params.toNat + i]? = some true)
def cnt13 (b : DBlock) (i : Nat) : Nat := (at13 b i).2.length
theorem at13_kept {b : DBlock} {i : Nat} {x : DInst} (h : Kept13 b i x) : at13 b (i + 1) = (updG (at13 b i).1 ((b.params.toNat + i : Nat) : Int) ((b.params.toNat + cnt13 b i : Nat) : Int), (at13 b i).2 ++ [inst13 (at13 b (i + 1)).1 x]) := by
  have h1 := at13_yes h.1 h.2
  rw [h1]; rfl
theorem at13_drop {b : DBlock} {i : Nat} {x : DInst} (hx : b.ins[i]? = some x) (h : ¬ Kept13 b i x) : at13 b (i + 1) = at13 b i := by
  rw [at13_next hx]; unfold insStep13; rw [if_neg (fun c => h ⟨hx, c⟩)]
theorem cnt_step (b : DBlock) (i : Nat) (hi : i < b.ins.length) : cnt13 b i ≤ cnt13 b (i + 1) ∧ (∀ x, Kept13 b i x → cnt13 b (i + 1) = cnt13 b i + 1) := by
  have hx : b.ins[i]? = some b.ins[i] := List.getElem?_eq_getElem hi
  unfold cnt13
  by_cases h : Kept13 b i b.ins[i]
  · have h2 := congrArg (fun z => z.2.length) (at13_kept h)
    simp only [List.length_append, List.length_cons, List.length_nil] at h2
    exact ⟨by omega, fun _ _ => by omega⟩
  · rw [at13_drop hx h]
    exact ⟨Nat.le_refl _, fun x hk => by have := hk.1; rw [hx] at this; cases this; exact absurd hk h⟩
theorem cnt_mono (b : DBlock) {i j : Nat} (hij : i ≤ j) (hj : j ≤ b.ins.length) : cnt13 b i ≤ cnt13 b j := by
  induction j with
  | zero => rw [show i = 0 by omega]; exact Nat.le_refl _
  | succ j ih =>
    by_cases e : i = j + 1
    · rw [e]; exact Nat.le_refl _
    · exact Nat.le_trans (ih (by omega) (by omega)) (cnt_step b j (by omega)).1
theorem cnt_lt (b : DBlock) {i j : Nat} {x : DInst} (hk : Kept13 b i x) (hij : i < j) (hj : j ≤ b.ins.length) : cnt13 b i < cnt13 b j := by
  have h1 := (cnt_step b i (by omega)).2 x hk
  have h2 := cnt_mono b (i := i + 1) (j := j) (by omega) hj
  omega
/-- Numbers that were given are kept. -/
theorem g_mono (b : DBlock) {k m : Nat} (hkm : k ≤ m) (hm : m ≤ b.ins.length) {y : Int} (hy : y < ((b.params.toNat + k : Nat) : Int)) : (at13 b m).1 y = (at13 b k).1 y := by
  induction m with
  | zero => rw [show k = 0 by omega]
  | succ m ih =>
    by_cases e : k = m + 1
    · rw [e]
    · rw [← ih (by omega) (by omega)]
      have hx : b.ins[m]? = some b.ins[m] := List.getElem?_eq_getElem (by omega)
      by_cases h : Kept13 b m b.ins[m]
      · rw [at13_kept h]
        simp only [updG]
        rw [if_neg (by omega)]
      · rw [at13_drop hx h]
theorem g_param (b : DBlock) {k : Nat} (hk : k ≤ b.ins.length) {v : Nat} (hv : v < b.params.toNat) : (at13 b k).1 (v : Int) = some (v : Int) := by
  rw [g_mono b (Nat.zero_le k) hk (by omega)]
  simp only [at13, List.take_zero, go13, idG]
  rw [if_pos (by omega)]
theorem g_kept (b : DBlock) {i k : Nat} {x : DInst} (h : Kept13 b i x) (hik : i < k) (hk : k ≤ b.ins.length) : (at13 b k).1 ((b.params.toNat + i : Nat) : Int) = some ((b.params.toNat + cnt13 b i : Nat) : Int) := by
  rw [g_mono b (k := i + 1) (by omega) hk (by omega), at13_kept h]
  simp [updG]
theorem ins_prefix (b : DBlock) {k m : Nat} (hkm : k ≤ m) (hm : m ≤ b.ins.length) : (at13 b k).2 <+: (at13 b m).2 := by
  induction m with
  | zero => rw [show k = 0 by omega]; exact List.prefix_rfl
  | succ m ih =>
    by_cases e : k = m + 1
    · rw [e]; exact List.prefix_rfl
    · refine (ih (by omega) (by omega)).trans ?_
      have hx : b.ins[m]? = some b.ins[m] := List.getElem?_eq_getElem (by omega)
      by_cases h : Kept13 b m b.ins[m]
      · have := congrArg (·.2) (at13_kept h)
        simp only at this
        rw [this]; exact List.prefix_append _ _
      · rw [at13_drop hx h]; exact List.prefix_rfl
/-- Where an instruction that stays stands. -/
theorem ins_at {b : DBlock} {i : Nat} {x : DInst} (h : Kept13 b i x) : (block13 b).ins[cnt13 b i]? = some (inst13 (at13 b (i + 1)).1 x) := by
  have hi := (List.getElem?_eq_some_iff.1 h.1).1
  obtain ⟨t, ht⟩ := ins_prefix b (k := i + 1) (m := b.ins.length) (by omega) (Nat.le_refl _)
  have h2 := congrArg (·.2) (at13_kept h)
  simp only at h2
  show (at13 b b.ins.length).2[cnt13 b i]? = _
  rw [← ht, h2, List.append_assoc]
  unfold cnt13
  rw [List.getElem?_append_right (Nat.le_refl _), Nat.sub_self]
  rfl
/-- Each instruction that is there has stayed. -/
theorem ins_from {b : DBlock} : ∀ (k : Nat), k ≤ b.ins.length → ∀ (j : Nat), j < cnt13 b k → ∃ i x, Kept13 b i x ∧ i < k ∧ cnt13 b i = j
  | 0, _, j, h => by simp [cnt13, at13, go13] at h
  | k + 1, hk, j, h => by
    have hx : b.ins[k]? = some b.ins[k] := List.getElem?_eq_getElem (by omega)
    by_cases hkp : Kept13 b k b.ins[k]
    · rw [(cnt_step b k (by omega)).2 _ hkp] at h
      by_cases e : j = cnt13 b k
      · exact ⟨k, _, hkp, by omega, e.symm⟩
      · obtain ⟨i, x, h1, h2, h3⟩ := ins_from (b := b) k (by omega) j (by omega)
        exact ⟨i, x, h1, by omega, h3⟩
    · have : cnt13 b (k + 1) = cnt13 b k := by unfold cnt13; rw [at13_drop hx hkp]
      rw [this] at h
      obtain ⟨i, x, h1, h2, h3⟩ := ins_from (b := b) k (by omega) j h
      exact ⟨i, x, h1, by omega, h3⟩
theorem uses_inst13 (g : Int → Option Int) (x : DInst) : uses5 (inst13 g x) = (uses5 x).map fun v => (g v).getD 0 := by
  by_cases h1 : 2 ≤ x.op ∧ x.op ≤ 11
  · have e : uses5 x = [x.a, x.b] := by unfold uses5; rw [if_pos h1]
    have hy : uses5 (inst13 g x) = [(inst13 g x).a, (inst13 g x).b] := by unfold uses5; exact if_pos h1
    have hl : 0 < (uses5 x).length := by rw [e]; simp
    rw [hy, ← i13_aU (by omega) hl, ← i13_bU (by omega) hl, e]; rfl
  · by_cases h2 : x.op = 13 ∨ x.op = 16
    · have e : uses5 x = [x.a] := by unfold uses5; rw [if_neg h1, if_pos h2]
      have hy : uses5 (inst13 g x) = [(inst13 g x).a] := by
        unfold uses5
        exact (if_neg h1).trans (if_pos h2)
      have hl : 0 < (uses5 x).length := by rw [e]; simp
      rw [hy, ← i13_aU (by omega) hl, e]; rfl
    · by_cases h3 : x.op = 14
      · have e : uses5 x = x.args := by unfold uses5; rw [if_neg h1, if_neg h2, if_pos h3]
        have hy : uses5 (inst13 g x) = (inst13 g x).args := by
          unfold uses5
          exact (if_neg h1).trans ((if_neg h2).trans (if_pos h3))
        rw [hy, e]
        by_cases h4 : 0 < (uses5 x).length
        · simp only [inst13]; rw [if_pos h4]; rfl
        · simp only [inst13]; rw [if_neg h4, List.eq_nil_of_length_eq_zero (l := x.args) (by rw [e] at h4; omega)]; rfl
      · have e : uses5 x = [] := by unfold uses5; rw [if_neg h1, if_neg h2, if_neg h3]
        have hy : uses5 (inst13 g x) = [] := by
          unfold uses5
          exact (if_neg h1).trans ((if_neg h2).trans (if_neg h3))
        rw [hy, e]; rfl
/-- A value that is used, or handed, has a number: below that of what stands behind it. -/
theorem num_of {b : DBlock} {k : Nat} (hk : k ≤ b.ins.length) {v : Int} (h0 : 0 ≤ v) (hv : v < ((b.params.toNat + k : Nat) : Int)) (hu : (used13 b)[v.toNat]? = some true) :
    ∃ n : Nat, (at13 b k).1 v = some (n : Int) ∧ (∀ m, k ≤ m → m ≤ b.ins.length → (at13 b m).1 v = some (n : Int)) ∧ n < b.params.toNat + cnt13 b k ∧ (∀ (i : Nat) x, v = ((b.params.toNat + i : Nat) : Int) → Kept13 b i x → n = b.params.toNat + cnt13 b i) := by
  by_cases hp : v < (b.params.toNat : Int)
  · obtain ⟨n, rfl⟩ := Int.eq_ofNat_of_zero_le h0
    exact ⟨n, g_param b hk (by omega), fun m _ hm => g_param b hm (by omega), by omega, fun i x e _ => by omega⟩
  · obtain ⟨i, rfl⟩ : ∃ i : Nat, v = ((b.params.toNat + i : Nat) : Int) := ⟨(v - b.params.toNat).toNat, by omega⟩
    rw [Int.toNat_natCast] at hu
    have hx : b.ins[i]? = some b.ins[i] := List.getElem?_eq_getElem (by omega)
    have hkp : Kept13 b i b.ins[i] := ⟨hx, .inr hu⟩
    refine ⟨_, g_kept b hkp (by omega) hk, fun m hkm hm => g_kept b hkp (by omega) hm, by have := cnt_lt b hkp (j := k) (by omega) hk; omega, fun i' x e _ => ?_⟩
    have : i' = i := by omega
    rw [this]
theorem used_of_uses {b : DBlock} (hs : Sc13 b) {i : Nat} {x : DInst} (h : Kept13 b i x) {v : Int} (hv : v ∈ uses5 x) : (used13 b)[v.toNat]? = some true := by
  obtain ⟨h1, h2⟩ := hs.ok.uses x (List.mem_of_getElem? h.1) v hv
  refine (used13_iff hs (by omega)).2 (.inr ⟨i, x, h.1, h.2, ?_⟩)
  rwa [show ((v.toNat : Nat) : Int) = v by omega]
theorem used_of_ends {b : DBlock} (hs : Sc13 b) {v : Int} (hv : v ∈ ends13 b.fin) : (used13 b)[v.toNat]? = some true := by
  obtain ⟨h1, h2⟩ := hs.ok.ends v hv
  refine (used13_iff hs (by omega)).2 (.inl ?_)
  rwa [show ((v.toNat : Nat) : Int) = v by omega]
theorem ends_block13 (b : DBlock) : ends13 (block13 b).fin = (ends13 b.fin).map fun v => ((at13 b b.ins.length).1 v).getD 0 := by
  show ends13 (term13 (at13 b b.ins.length).1 b.fin) = _
  unfold ends13 term13 anew13
  dsimp only
  by_cases h : b.fin.kind = 1
  · rw [if_pos h, if_pos h]; simp
  · rw [if_neg h, if_neg h, if_neg h]; simp
theorem len_block13 (b : DBlock) : (block13 b).ins.length = cnt13 b b.ins.length := rfl
theorem cnt_le (b : DBlock) : cnt13 b b.ins.length ≤ b.ins.length := at13_len b _ (Nat.le_refl _)
/-- A trimmed block uses only what stands before. -/
theorem sc_block13 {b : DBlock} (hs : Sc13 b) : Sc13 (block13 b) := by
  have hN : ((block13 b).params.toNat + (block13 b).ins.length : Nat) = b.params.toNat + cnt13 b b.ins.length := rfl
  have hin : ∀ (j : Nat) y, (block13 b).ins[j]? = some y → ∃ i x, Kept13 b i x ∧ i < b.ins.length ∧ cnt13 b i = j ∧ y = inst13 (at13 b (i + 1)).1 x := fun j y hy => by
    have hj := (List.getElem?_eq_some_iff.1 hy).1
    obtain ⟨i, x, h1, h2, h3⟩ := ins_from b.ins.length (Nat.le_refl _) j (by rw [← len_block13]; exact hj)
    refine ⟨i, x, h1, h2, h3, ?_⟩
    have := ins_at h1
    rw [h3, hy] at this
    exact Option.some.inj this
  have huse : ∀ (j : Nat) y, (block13 b).ins[j]? = some y → ∀ v ∈ uses5 y, 0 ≤ v ∧ v < ((b.params.toNat + j : Nat) : Int) := fun j y hy v hv => by
    obtain ⟨i, x, h1, h2, h3, rfl⟩ := hin j y hy
    rw [uses_inst13] at hv
    obtain ⟨u, hu, rfl⟩ := List.mem_map.1 hv
    obtain ⟨n, hn, _, hlt, _⟩ := num_of (k := i) (by omega) (hs.ok.uses x (List.mem_of_getElem? h1.1) u hu).1 (hs.sc i x h1.1 u hu) (used_of_uses hs h1 hu)
    have : (at13 b (i + 1)).1 u = some (n : Int) := by rw [g_mono b (k := i) (by omega) (by omega) (hs.sc i x h1.1 u hu)]; exact hn
    rw [this, ← h3]
    simp only [Option.getD_some]
    omega
  have hends : ∀ v ∈ ends13 (block13 b).fin, 0 ≤ v ∧ v < ((b.params.toNat + cnt13 b b.ins.length : Nat) : Int) := fun v hv => by
    rw [ends_block13] at hv
    obtain ⟨u, hu, rfl⟩ := List.mem_map.1 hv
    obtain ⟨n, hn, _, hlt, _⟩ := num_of (k := b.ins.length) (Nat.le_refl _) (hs.ok.ends u hu).1 (hs.ok.ends u hu).2 (used_of_ends hs hu)
    rw [hn]; simp only [Option.getD_some]; omega
  have hcl := cnt_le b
  have hlen : (block13 b).ins.length ≤ b.ins.length := hcl
  refine ⟨⟨hs.ok.p0, hs.ok.p1, Nat.le_trans hlen hs.ok.n, ?_, ?_, fun y hy => ?_, fun v hv => by rw [hN]; exact hends v hv, fun y hy v hv => ?_⟩, fun j y hy v hv => (huse j y hy v hv).2⟩
  · show (anew13 _ b.fin.args).length ≤ 1000
    rw [anew13, List.length_map]; exact hs.ok.a
  · show (anew13 _ b.fin.elses).length ≤ 1000
    rw [anew13, List.length_map]; exact hs.ok.e
  · obtain ⟨j, hj⟩ := List.mem_iff_getElem?.1 hy
    obtain ⟨i, x, h1, _, _, rfl⟩ := hin j y hj
    have := hs.ok.args x (List.mem_of_getElem? h1.1)
    unfold inst13; dsimp only
    split
    · rw [anew13, List.length_map]; exact this
    · exact this
  · obtain ⟨j, hj⟩ := List.mem_iff_getElem?.1 hy
    have h1 := huse j y hj v hv
    have := (List.getElem?_eq_some_iff.1 hj).1
    rw [hN]; rw [len_block13] at this; omega
/-- What was used is used. -/
theorem used_block13 {b : DBlock} (hs : Sc13 b) : ∀ (n i : Nat) (x : DInst), b.ins.length - i ≤ n → Kept13 b i x → (used13 b)[b.params.toNat + i]? = some true → (used13 (block13 b))[b.params.toNat + cnt13 b i]? = some true
  | 0, i, x, hn, h, _ => by have := (List.getElem?_eq_some_iff.1 h.1).1; omega
  | n + 1, i, x, hn, h, hu => by
    have hi := (List.getElem?_eq_some_iff.1 h.1).1
    have hc := cnt_lt b h (j := b.ins.length) hi (Nat.le_refl _)
    have hlt : b.params.toNat + cnt13 b i < (block13 b).params.toNat + (block13 b).ins.length := by rw [len_block13]; show b.params.toNat + cnt13 b i < b.params.toNat + _; omega
    rw [used13_iff (sc_block13 hs) hlt]
    rcases (used13_iff hs (by omega)).1 hu with he | ⟨j, y, hy, hl, hm⟩
    · left
      rw [ends_block13]
      exact List.mem_map.2 ⟨_, he, by rw [g_kept b h hi (Nat.le_refl _)]; rfl⟩
    · right
      have hky : Kept13 b j y := ⟨hy, hl⟩
      have hij := hs.sc j y hy _ hm
      have hj := (List.getElem?_eq_some_iff.1 hy).1
      refine ⟨cnt13 b j, _, ins_at hky, ?_, ?_⟩
      · rcases hl with hl | hl
        · exact .inl hl
        · exact .inr (used_block13 hs n j y (by omega) hky hl)
      · rw [uses_inst13]
        exact List.mem_map.2 ⟨_, hm, by rw [g_kept b h (k := j + 1) (by omega) (by omega)]; rfl⟩
/-- Of what stays each instruction does something, or its value is used. -/
theorem all_block13 {b : DBlock} (hs : Sc13 b) {j : Nat} {y : DInst} (hy : (block13 b).ins[j]? = some y) : does13 y = true ∨ (used13 (block13 b))[(block13 b).params.toNat + j]? = some true := by
  have hj := (List.getElem?_eq_some_iff.1 hy).1
  obtain ⟨i, x, h1, h2, h3⟩ := ins_from b.ins.length (Nat.le_refl _) j (by rw [← len_block13]; exact hj)
  have h4 := ins_at h1
  rw [h3, hy] at h4
  cases h4
  rcases h1.2 with h | h
  · exact .inl h
  · rw [← h3]; exact .inr (used_block13 hs _ i x (Nat.le_refl _) h1 h)
end Go.Proofs.Ytdlcmhkfglckfaa
