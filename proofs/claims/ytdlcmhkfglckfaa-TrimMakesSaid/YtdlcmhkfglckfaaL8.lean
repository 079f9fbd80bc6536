/-
  The document's numbers are the program's. No condition beyond those that each theorem states.
-/
import Derived.Test.YtdlcmhkfglckfaaL5
namespace Go.Proofs.Ytdlcmhkfglckfaa

/-- What stays of a block: which values have a number. -/
def StayL (b : DBlock) (us : List Bool) : Prop := us.length = b.params.toNat + b.ins.length ∧ (∀ v, v < b.params.toNat → us[v]? = some true) ∧
  ∀ (i : Nat) (x : DInst), b.ins[i]? = some x → (us[b.params.toNat + i]? = some true ↔ Kept13 b i x)
theorem num_succ {us : List Bool} {i : Nat} {x : Bool} (h : us[i]? = some x) : num13 us ((i + 1 : Nat) : Int) = num13 us (i : Int) + (if x = true then 1 else 0) := by
  unfold num13
  rw [Int.toNat_natCast, Int.toNat_natCast, cnt_next h]
  split <;> omega
theorem num_params {b : DBlock} {us : List Bool} (h : StayL b us) : ∀ v, v ≤ b.params.toNat → num13 us (v : Int) = (v : Int)
  | 0, _ => by simp [num13]
  | v + 1, hv => by rw [num_succ (h.2.1 v (by omega)), num_params h v (by omega)]; simp
theorem num_ins {b : DBlock} {us : List Bool} (h : StayL b us) : ∀ i, i ≤ b.ins.length → num13 us ((b.params.toNat + i : Nat) : Int) = ((b.params.toNat + cnt13 b i : Nat) : Int)
  | 0, _ => by
    have : cnt13 b 0 = 0 := by simp [cnt13, at13, go13]
    rw [this]; exact num_params h _ (Nat.le_refl _)
  | i + 1, hi => by
    obtain ⟨x, hx⟩ : ∃ x, us[b.params.toNat + i]? = some x := ⟨_, List.getElem?_eq_getElem (by rw [h.1]; omega)⟩
    have hy : b.ins[i]? = some b.ins[i] := List.getElem?_eq_getElem (by omega)
    have hk := h.2.2 i _ hy
    rw [show b.params.toNat + (i + 1) = b.params.toNat + i + 1 by omega, num_succ hx, num_ins h i (by omega)]
    by_cases hkp : Kept13 b i b.ins[i]
    · have e : x = true := by have := hk.2 hkp; rw [hx] at this; exact Option.some.inj this
      rw [if_pos e, (cnt_step b i (by omega)).2 _ hkp]; omega
    · have e : ¬ x = true := fun e => hkp (hk.1 (by rw [hx, e]))
      have : cnt13 b (i + 1) = cnt13 b i := by unfold cnt13; rw [at13_drop hy hkp]
      rw [if_neg e, this]; omega
/-- A value that stays has the number that the document gives it. -/
theorem num_g {b : DBlock} {us : List Bool} (h : StayL b us) {k : Nat} (hk : k ≤ b.ins.length) {v : Int} (h0 : 0 ≤ v) (hv : v < ((b.params.toNat + k : Nat) : Int)) (hu : (used13 b)[v.toNat]? = some true) : ((at13 b k).1 v).getD 0 = num13 us v := by
  by_cases hp : v < (b.params.toNat : Int)
  · obtain ⟨n, rfl⟩ := Int.eq_ofNat_of_zero_le h0
    rw [g_param b hk (by omega), num_params h n (by omega)]; rfl
  · obtain ⟨i, rfl⟩ : ∃ i : Nat, v = ((b.params.toNat + i : Nat) : Int) := ⟨(v - b.params.toNat).toNat, by omega⟩
    rw [Int.toNat_natCast] at hu
    have hx : b.ins[i]? = some b.ins[i] := List.getElem?_eq_getElem (by omega)
    rw [g_kept b ⟨hx, .inr hu⟩ (by omega) hk, num_ins h i (by omega)]; rfl
end Go.Proofs.Ytdlcmhkfglckfaa

namespace Go.Proofs.Ytdlcmhkfglckfaa

def rinst13 (us : List Bool) (x : DInst) : DInst :=
  ⟨x.op, if (2 ≤ x.op ∧ x.op ≤ 11) ∨ x.op = 13 ∨ x.op = 16 then num13 us x.a else x.a, if 2 ≤ x.op ∧ x.op ≤ 11 then num13 us x.b else x.b, x.k, x.name, x.args.map (num13 us)⟩
theorem rinst_eq {g : Int → Option Int} {us : List Bool} {x : DInst} {m : Int} (h5 : inst5 x m = true) (h : ∀ v ∈ uses5 x, (g v).getD 0 = num13 us v) : inst13 g x = rinst13 us x := by
  obtain ⟨_, ha, hb0, hk, hl, _, _⟩ := inst5_more h5
  have nil : ∀ l : List Int, l.length = 0 → anew13 g l = [] := fun l e => by rw [List.eq_nil_of_length_eq_zero e]; rfl
  have nil2 : ∀ l : List Int, l.length = 0 → l.map (num13 us) = [] := fun l e => by rw [List.eq_nil_of_length_eq_zero e]; rfl
  obtain ⟨op, a, b, k, nm, args⟩ := x
  dsimp only at ha hb0 hk hl
  by_cases h1 : 2 ≤ op ∧ op ≤ 11
  · have e : uses5 ⟨op, a, b, k, nm, args⟩ = [a, b] := by unfold uses5; rw [if_pos h1]
    rw [e] at h
    unfold inst13 rinst13
    rw [e]
    dsimp only
    rw [if_neg (by omega), if_pos (by simp), if_neg (by omega), if_pos (by simp), if_pos (by simp), h a (by simp), h b (by simp), nil args (hl (by omega)), nil2 args (hl (by omega)), if_pos (.inl h1), if_pos h1]
  · by_cases h2 : op = 13 ∨ op = 16
    · have e : uses5 ⟨op, a, b, k, nm, args⟩ = [a] := by unfold uses5; rw [if_neg h1, if_pos h2]
      rw [e] at h
      unfold inst13 rinst13
      rw [e]
      dsimp only
      rw [if_neg (by omega), if_pos (by simp), if_pos (by omega), if_pos (by simp), h a (by simp), nil args (hl (by omega)), nil2 args (hl (by omega)), hb0 h1, if_pos (.inr h2), if_neg h1]
    · by_cases h3 : op = 14
      · have e : uses5 ⟨op, a, b, k, nm, args⟩ = args := by unfold uses5; rw [if_neg h1, if_neg h2, if_pos h3]
        rw [e] at h
        have hm : anew13 g args = args.map (num13 us) := List.map_congr_left fun v hv => h v hv
        unfold inst13 rinst13
        rw [e]
        dsimp only
        rw [if_pos h3, if_pos (.inl h3), hm, hb0 h1, ha (by omega), if_neg (show ¬ ((2 ≤ op ∧ op ≤ 11) ∨ op = 13 ∨ op = 16) by omega), if_neg h1]
        split
        · rfl
        · rename_i hn; rw [List.eq_nil_of_length_eq_zero (l := args) (by omega)]; rfl
      · have e := uses_nil (x := ⟨op, a, b, k, nm, args⟩) h1 h2 h3
        unfold inst13 rinst13
        rw [e]
        dsimp only
        rw [if_neg h3, if_neg (by simp), if_neg (by omega), if_neg (by simp), if_neg (by simp), if_neg (show ¬ ((2 ≤ op ∧ op ≤ 11) ∨ op = 13 ∨ op = 16) by omega), if_neg h1, nil2 args (hl h3), List.eq_nil_of_length_eq_zero (hl h3)]
end Go.Proofs.Ytdlcmhkfglckfaa

namespace Go.Proofs.Ytdlcmhkfglckfaa

/-- The document's row, while the parameters are marked. -/
def PrmTo (b : DBlock) (us : List Bool) (i : Nat) : Prop := us.length = b.params.toNat + b.ins.length ∧ ∀ v, v < b.params.toNat + b.ins.length → us[v]? = if v < i then some true else (used13 b)[v]?
theorem prm_zero (b : DBlock) : PrmTo b (used13 b) 0 := ⟨used13_length b, fun v _ => by rw [if_neg (by omega)]⟩
theorem prm_step {b : DBlock} {us : List Bool} {i : Nat} (h : PrmTo b us i) (hi : i < b.params.toNat) : PrmTo b (us.set i true) (i + 1) :=
  ⟨by rw [List.length_set]; exact h.1, fun v hv => by
    rw [List.getElem?_set]
    by_cases e : i = v
    · rw [if_pos e, if_pos (by rw [h.1]; omega), if_pos (by omega)]
    · rw [if_neg e, h.2 v hv]
      by_cases e2 : v < i
      · rw [if_pos e2, if_pos (by omega)]
      · rw [if_neg e2, if_neg (by omega)]⟩
/-- And while the instructions that do something are. -/
def DoTo (b : DBlock) (us : List Bool) (k : Nat) : Prop := us.length = b.params.toNat + b.ins.length ∧ (∀ v, v < b.params.toNat → us[v]? = some true) ∧
  ∀ (i : Nat) (x : DInst), b.ins[i]? = some x → (i < k → (us[b.params.toNat + i]? = some true ↔ Kept13 b i x)) ∧ (k ≤ i → us[b.params.toNat + i]? = (used13 b)[b.params.toNat + i]?)
theorem do_zero {b : DBlock} {us : List Bool} {i : Nat} (h : PrmTo b us i) (hi : i = b.params.toNat) : DoTo b us 0 :=
  ⟨h.1, fun v hv => by rw [h.2 v (by omega), if_pos (by omega)], fun j x hx => ⟨fun e => absurd e (by omega), fun _ => by
    have hj := (List.getElem?_eq_some_iff.1 hx).1
    rw [h.2 _ (by omega), if_neg (by omega)]⟩⟩
theorem do_step {b : DBlock} {us : List Bool} {k : Nat} {x : DInst} {u y : Bool} (h : DoTo b us k) (hx : b.ins[k]? = some x) (hu : us[b.params.toNat + k]? = some u) (hy : y = (u || does13 x)) : DoTo b (us.set (b.params.toNat + k) y) (k + 1) := by
  have hk := (List.getElem?_eq_some_iff.1 hx).1
  have hl := h.1
  refine ⟨by rw [List.length_set]; exact hl, fun v hv => by rw [List.getElem?_set_ne (by omega)]; exact h.2.1 v hv, fun i z hz => ⟨fun hi => ?_, fun hi => ?_⟩⟩
  · by_cases e : i = k
    · subst e
      obtain rfl := Option.some.inj (hx.symm.trans hz)
      have hu2 := (h.2.2 i x hx).2 (Nat.le_refl _)
      rw [List.getElem?_set_self (by omega), hy, Kept13]
      rw [hu] at hu2
      rw [← hu2]
      cases u <;> cases hd : does13 x <;> simp [hx]
    · rw [List.getElem?_set_ne (by omega)]; exact (h.2.2 i z hz).1 (by omega)
  · rw [List.getElem?_set_ne (by omega)]; exact (h.2.2 i z hz).2 (by omega)
theorem do_all {b : DBlock} {us : List Bool} {k : Nat} (h : DoTo b us k) (hk : k = b.ins.length) : StayL b us :=
  ⟨h.1, h.2.1, fun i x hx => (h.2.2 i x hx).1 (by have := (List.getElem?_eq_some_iff.1 hx).1; omega)⟩
theorem rinst_at {f : DFunc} {b : DBlock} (h5 : func5 f = true) (hb : b ∈ f.blocks) {us : List Bool} (hst : StayL b us) {k : Nat} {x : DInst} (hk : Kept13 b k x) : inst13 (at13 b (k + 1)).1 x = rinst13 us x := by
  have hb5 := (func5_all h5).2 b hb
  have h1 := allFrom_at b.ins b.params k x (block5_more hb5).1 hk.1
  have hp := (block5_all hb5).1
  have hkl := (List.getElem?_eq_some_iff.1 hk.1).1
  exact rinst_eq h1 fun v hv => num_g hst (by omega) ((inst5_all h1).2.1 v hv).1 (by have := ((inst5_all h1).2.1 v hv).2; omega) (used_of_uses (sc13_of5 h5 hb) hk hv)
/-- The numbers that an instruction is asked for are in the row. -/
theorem rinst_in {f : DFunc} {b : DBlock} (h5 : func5 f = true) (hb : b ∈ f.blocks) {us : List Bool} (hst : StayL b us) {x : DInst} (hx : x ∈ b.ins) :
    ((2 ≤ x.op ∧ x.op ≤ 11) ∨ x.op = 13 ∨ x.op = 16 → x.a ≤ us.length) ∧ (2 ≤ x.op ∧ x.op ≤ 11 → x.b ≤ us.length) ∧ (∀ v ∈ x.args, v ≤ us.length) ∧ x.args.length ≤ 6 := by
  obtain ⟨i, hi⟩ := List.mem_iff_getElem?.1 hx
  have hb5 := (func5_all h5).2 b hb
  have h1 := allFrom_at b.ins b.params i x (block5_more hb5).1 hi
  have hu := (ok13_of5 h5 hb).uses x hx
  obtain ⟨_, _, _, _, hl, _⟩ := inst5_more h1
  rw [hst.1]
  refine ⟨fun h => ?_, fun h => ?_, fun v hv => ?_, (inst5_all h1).1⟩
  · refine Int.le_of_lt (hu x.a ?_).2
    unfold uses5
    by_cases h2 : 2 ≤ x.op ∧ x.op ≤ 11
    · rw [if_pos h2]; simp
    · rw [if_neg h2, if_pos (h.resolve_left h2)]; simp
  · refine Int.le_of_lt (hu x.b ?_).2
    unfold uses5
    rw [if_pos h]; simp
  · by_cases h14 : x.op = 14
    · refine Int.le_of_lt (hu v ?_).2
      unfold uses5
      rw [if_neg (by omega), if_neg (by omega), if_pos h14]; exact hv
    · rw [List.eq_nil_of_length_eq_zero (hl h14)] at hv; cases hv
theorem rterm_eq {f : DFunc} {b : DBlock} (h5 : func5 f = true) (hb : b ∈ f.blocks) {us : List Bool} (hst : StayL b us) :
    term13 (at13 b b.ins.length).1 b.fin = ⟨b.fin.kind, if b.fin.kind = 1 then b.fin.a else num13 us b.fin.a, b.fin.to, b.fin.args.map (num13 us), b.fin.els, b.fin.elses.map (num13 us)⟩ := by
  have hs := sc13_of5 h5 hb
  have key : ∀ v ∈ ends13 b.fin, ((at13 b b.ins.length).1 v).getD 0 = num13 us v := fun v hv => by
    have h1 := hs.ok.ends v hv
    exact num_g hst (Nat.le_refl _) h1.1 h1.2 (used_of_ends hs hv)
  have e1 : anew13 (at13 b b.ins.length).1 b.fin.args = b.fin.args.map (num13 us) := List.map_congr_left fun v hv => key v (by unfold ends13; simp [hv])
  have e2 : anew13 (at13 b b.ins.length).1 b.fin.elses = b.fin.elses.map (num13 us) := List.map_congr_left fun v hv => key v (by unfold ends13; simp [hv])
  unfold term13
  rw [e1, e2]
  by_cases hk : b.fin.kind = 1
  · rw [if_pos hk, if_pos hk]
  · rw [if_neg hk, if_neg hk, key _ (by unfold ends13; rw [if_neg hk]; simp)]
theorem rterm_in {f : DFunc} {b : DBlock} (h5 : func5 f = true) (hb : b ∈ f.blocks) {us : List Bool} (hst : StayL b us) :
    (∀ v ∈ b.fin.args, v ≤ us.length) ∧ (∀ v ∈ b.fin.elses, v ≤ us.length) ∧ (b.fin.kind ≠ 1 → b.fin.a ≤ us.length) ∧ b.fin.args.length ≤ 6 ∧ b.fin.elses.length ≤ 6 := by
  have he := (ok13_of5 h5 hb).ends
  obtain ⟨t1, t2, _⟩ := term5_all (block5_more ((func5_all h5).2 b hb)).2 h5
  rw [hst.1]
  exact ⟨fun v hv => Int.le_of_lt (he v (by unfold ends13; simp [hv])).2, fun v hv => Int.le_of_lt (he v (by unfold ends13; simp [hv])).2, fun hk => Int.le_of_lt (he _ (by unfold ends13; rw [if_neg hk]; simp)).2, t1, t2⟩
end Go.Proofs.Ytdlcmhkfglckfaa
