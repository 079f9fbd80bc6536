/-
  Contracts of layer 16 (slot). No condition beyond those that each theorem states.
-/
import Derived.Test.YtcmmhfknkldmcaaS4
namespace Go.Proofs.Ytcmmhfknkldmcaa
open Go.RowKit

structure RApart (b : DBlock) (l : List Int) : Prop where
  len : l.length = (last16 b).length
  nn : ∀ (v : Nat) x, l[v]? = some x → 0 ≤ x
  ap : ∀ (v w : Nat) x z, w < v → l[v]? = some x → l[w]? = some x → (last16 b)[w]? = some z → b.params ≤ v ∧ z ≤ v - b.params
/-- What stands between the steps: whose value is needed still holds its slot. -/
structure Inv16 (b : DBlock) (v : Nat) (T : Int → Option Int) (out : List Int) : Prop where
  low : ∀ w : Nat, w < v → (w : Int) < b.params → out[w]? = some (w : Int)
  held : ∀ (w : Nat) x z, w < v → out[w]? = some x → (last16 b)[w]? = some z → ((v : Int) ≤ b.params ∨ (v : Int) - 1 - b.params < z) → T x = some z
  ap : ∀ (u w : Nat) x z, w < u → out[u]? = some x → out[w]? = some x → (last16 b)[w]? = some z → b.params ≤ u ∧ z ≤ u - b.params
theorem inv16 {b : DBlock} (hok : Ok16 b) (v : Nat) (hv : v ≤ (last16 b).length) : Inv16 b v (giveAt16 b v).1 (giveAt16 b v).2 := by
  induction v with
  | zero => exact ⟨fun w h => by omega, fun w x z h => by omega, fun u w x z _ h => by simp [giveAt16] at h⟩
  | succ v ih =>
    obtain ⟨i1, i2, i3⟩ := ih (by omega)
    have hg := given16 hok v (by omega)
    have hlen := hg.len
    have hget : (last16 b).getD v 0 = (last16 b)[v]'(by omega) := by rw [List.getD_eq_getElem?_getD, List.getElem?_eq_getElem (by omega)]; rfl
    have hlv : ∀ z, (last16 b)[v]? = some z → z = (last16 b).getD v 0 := fun z hz => by rw [List.getD_eq_getElem?_getD, hz]; rfl
    rw [giveAt16_succ]
    unfold giveStep16
    have old : ∀ {x f : Int} {w : Nat}, w < v → ((giveAt16 b v).2 ++ [f])[w]? = some x → (giveAt16 b v).2[w]? = some x := fun hw h => by rwa [List.getElem?_append_left (by omega)] at h
    have new : ∀ {x f : Int}, ((giveAt16 b v).2 ++ [f])[v]? = some x → x = f := fun h => by
      rw [List.getElem?_append_right (by omega), hlen, Nat.sub_self] at h; simpa using h.symm
    by_cases hp : (v : Int) < b.params
    · rw [if_pos hp]
      refine ⟨fun w hw hwp => ?_, fun w x z hw hx hz hc => ?_, fun u w x z hwu hu hx hz => ?_⟩
      · by_cases e : w = v
        · subst e; rw [List.getElem?_append_right (by omega), hlen]; simp
        · rw [List.getElem?_append_left (by omega)]; exact i1 w (by omega) hwp
      · simp only [updG]
        by_cases e : w = v
        · subst e; rw [if_pos (new hx), hlv z hz]
        · have hx' := old (by omega) hx
          have h1 := i1 w (by omega) (by omega)
          rw [h1] at hx'; cases hx'
          rw [if_neg (by omega)]
          exact i2 w _ z (by omega) h1 hz (.inl (by omega))
      · by_cases e : u = v
        · subst e
          have h1 := i1 w hwu (by omega)
          have h2 := old hwu hx
          rw [h1] at h2; cases h2
          have := new hu
          omega
        · have hul : u < v := by
            have := (List.getElem?_eq_some_iff.1 hu).1
            rw [List.length_append, List.length_cons, List.length_nil] at this; omega
          exact i3 u w x z hwu (old hul hu) (old (by omega) hx) hz
    · rw [if_neg hp]
      have hf := first16_spec (T := freeG (giveAt16 b v).1 ((v : Int) - b.params)) (n := (last16 b).length) (out := (giveAt16 b v).2) (fun k l h => hg.key k l (freeG_some h).1) (by omega)
      have keep : ∀ (w : Nat) x z, w < v → (giveAt16 b v).2[w]? = some x → (last16 b)[w]? = some z → (v : Int) - b.params < z → freeG (giveAt16 b v).1 ((v : Int) - b.params) x = some z := fun w x z hw hx hz hc => by
        have h1 := i2 w x z hw hx hz (by omega)
        unfold freeG
        rw [h1]
        dsimp only
        rw [if_neg (by omega)]
      refine ⟨fun w hw hwp => ?_, fun w x z hw hx hz hc => ?_, fun u w x z hwu hu hx hz => ?_⟩
      · rw [List.getElem?_append_left (by omega)]; exact i1 w (by omega) hwp
      · simp only [updG]
        by_cases e : w = v
        · subst e; rw [if_pos (new hx), hlv z hz]
        · have h1 := keep w x z (by omega) (old (by omega) hx) hz (by omega)
          rw [if_neg (fun e => by rw [e, hf.1] at h1; cases h1)]
          exact h1
      · by_cases e : u = v
        · subst e
          refine ⟨by omega, ?_⟩
          by_cases hc : (u : Int) - b.params < z
          · have h1 := keep w x z hwu (old hwu hx) hz hc
            rw [new hu, hf.1] at h1; cases h1
          · omega
        · have hul : u < v := by
            have := (List.getElem?_eq_some_iff.1 hu).1
            rw [List.length_append, List.length_cons, List.length_nil] at this; omega
          exact i3 u w x z hwu (old hul hu) (old (by omega) hx) hz
theorem give16_apart {b : DBlock} (hok : Ok16 b) : RApart b (give16 b) := by
  have h := inv16 hok _ (Nat.le_refl _)
  refine ⟨by rw [give16_length hok, last16_length], fun v x hx => ?_, h.ap⟩
  exact ((given16 hok _ (Nat.le_refl _)).out x (List.mem_of_getElem? hx)).1
def iC (op a b : Int) : DInst := ⟨op, a, b, 0, ⟨#[]⟩, []⟩
def bSh16 : DBlock := ⟨0, [iC 1 0 0, iC 1 0 0, iC 2 0 1], ⟨3, 2, 0, [], 0, []⟩⟩
theorem sh16_eq : give16 bSh16 = [0, 1, 0] := by rfl
theorem ok16_sh : Ok16 bSh16 := ⟨by decide, by decide, by decide, by decide, by decide, by decide, by decide, by decide, by decide, by decide⟩
theorem intI {x : Int} (h : -1000 ≤ x ∧ x ≤ 1000) : inI x := by unfold inI; omega
theorem instLit {ro : Nat → Prop} {w : World} (op a b k : Int) (h1 : inI op) (h2 : inI a) (h3 : inI b) (h4 : inU k) : InstC ro w [.int .i64 op, .int .i64 a, .int .i64 b, .int .u64 k, .string ⟨#[]⟩, .slice none 0 0] ⟨op, a, b, k, ⟨#[]⟩, []⟩ :=
  ⟨_, rfl, slv_nil, h1, h2, h3, h4, Nat.zero_le _⟩
theorem termLit {ro : Nat → Prop} {w : World} (k a to els : Int) (h1 : inI k) (h2 : inI a) (h3 : inI to) (h4 : inI els) : TermC ro w [.int .i64 k, .int .i64 a, .int .i64 to, .slice none 0 0, .int .i64 els, .slice none 0 0] ⟨k, a, to, [], els, []⟩ :=
  ⟨_, _, rfl, slv_nil, slv_nil, h1, h2, h3, h4⟩

end Go.Proofs.Ytcmmhfknkldmcaa
