/-
  A statement whose order Go leaves open, with one store among what comes first: what need not wait for the store comes to the same ahead of it and behind it. No condition beyond those that each theorem states.
-/
import Derived.Test.YtdlcmhkfglckfaaA13
namespace Go.Proofs.Ytdlcmhkfglckfaa
open Go.RowKit

theorem store_run {P : Program} {n : Nat} {ops : Array Oper} {o : Oper} {σ : Env} {Q : Exit → Act → World → Prop} {i : Nat} {C : World → Prop} {w : World} (hi : ops[i]? = some o) (hdst : o.dst = none)
    (h : WL P n NoR ops [o] (.cut (CI n (fun _ : Unit => ([] : Env)) (fun _ w' => C w')) .fin) σ w) {a : Act} (hk : Known n a σ) {K : Act → World → Prop}
    (hK : ∀ w' u, C w' → K (a.put o.dst u) w') : wpOp P ops Q i K a w := by
  have h1 := h.out a hk
  have dstEq : ∀ u w', (Kt.cut (CI n (fun _ : Unit => ([] : Env)) (fun _ w' => C w')) .fin).post P NoR .normal (a.put o.dst u) w' → C w' := by
    rintro u w' ⟨_, _, hb⟩; exact hb
  unfold wpList at h1
  unfold wpOp
  simp only [hi]
  by_cases hw' : Region.wanted o (yielded ops a.tmps) = true
  · rw [if_pos hw'] at h1 ⊢
    rcases h1 with h1 | ⟨_, a', w', h2⟩
    · left
      unfold Oper.wp at *
      generalize (execOp a.eval o).run P w = r at *
      cases r with
      | ok nx w1 =>
        cases nx <;> simp only [Oper.upon] at h1 ⊢ <;> try (exact h1.elim)
        case value u => exact hK _ _ (dstEq u w1 h1)
        case skip => exact hK _ _ (dstEq undef w1 h1)
        case enter f args =>
          refine Calls.mono h1 fun e w2 h3 => ?_
          cases e with
          | returned u => exact hK _ _ (dstEq u w2 h3)
          | panicked c => exact h3.elim
          | outgrown => obtain ⟨a', w', h4⟩ := h3; exact h4.elim
        case row r args =>
          refine Rows.mono h1 fun u w2 h3 => ?_
          exact hK _ _ (dstEq u w2 h3)
        case defer dd =>
          obtain ⟨_, hk', _⟩ := h1
          have h5 := hk'.defers
          have h6 : ∀ dst : Option Nat, ({ tmps := a.tmps, defers := dd :: a.defers } : Act).put dst undef = { tmps := (({ tmps := a.tmps, defers := dd :: a.defers } : Act).put dst undef).tmps, defers := dd :: a.defers } := fun dst => by cases dst <;> rfl
          rw [h6] at h5
          cases h5
      | halt x w1 =>
        cases x <;> simp only [Oper.upon] at h1 ⊢ <;> exact h1.elim
    · exact h2.elim
  · rw [if_neg hw'] at h1 ⊢
    exact hK _ _ (dstEq undef w h1)

/-- The head's operations one by one; 's' is the store. -/
def AllS (P : Program) (n : Nat) (ops : Array Oper) (H0 : List Value) (σ : Env) (s : Nat) (C1 C2 : World → Prop) : Nat → List (Value × Bool) → List Oper → Prop
  | i, (v, b) :: H, o :: l => (bif Nat.beq i s then (∀ w, C1 w → WL P n NoR ops [o] (.cut (CI n (fun _ : Unit => ([] : Env)) (fun _ w' => C2 w')) .fin) (hEnv (fun _ => 0) (H0.map .q) ops (depsOf ops i) ++ σ) w)
      else (∀ C, C = C1 ∨ (bif b then False else C = C2) → ∀ w, C w → WL P n NoR ops [o] (.cut (CI n (fun _ : Unit => putS o.dst v []) (fun _ w' => Below w.heap.size w w')) .fin) (hEnv (fun _ => 0) (H0.map .q) ops (depsOf ops i) ++ σ) w)) ∧ AllS P n ops H0 σ s C1 C2 (i + 1) H l
  | _, [], _ => True
  | _, _ :: _, [] => False
theorem AllS.at {P : Program} {n : Nat} {ops : Array Oper} {H0 : List Value} {σ : Env} {s : Nat} {C1 C2 : World → Prop} : ∀ (H : List (Value × Bool)) (l : List Oper) (m : Nat), AllS P n ops H0 σ s C1 C2 m H l → ∀ (i : Nat) (v : Value × Bool) (o : Oper), H[i]? = some v → l[i]? = some o →
    (bif Nat.beq (m + i) s then (∀ w, C1 w → WL P n NoR ops [o] (.cut (CI n (fun _ : Unit => ([] : Env)) (fun _ w' => C2 w')) .fin) (hEnv (fun _ => 0) (H0.map .q) ops (depsOf ops (m + i)) ++ σ) w)
      else (∀ C, C = C1 ∨ (bif v.2 then False else C = C2) → ∀ w, C w → WL P n NoR ops [o] (.cut (CI n (fun _ : Unit => putS o.dst v.1 []) (fun _ w' => Below w.heap.size w w')) .fin) (hEnv (fun _ => 0) (H0.map .q) ops (depsOf ops (m + i)) ++ σ) w))
  | [], _, _, _, i, v, o, hi, _ => by simp at hi
  | _ :: _, [], _, _, i, v, o, _, ho => by simp at ho
  | x :: F, o' :: l, m, h, 0, v, o, hi, ho => by
    simp only [List.getElem?_cons_zero, Option.some.injEq] at hi ho
    subst hi; subst ho
    exact h.1
  | x :: F, o' :: l, m, h, i + 1, v, o, hi, ho => by
    rw [show m + (i + 1) = m + 1 + i by omega]
    exact AllS.at F l (m + 1) h.2 i v o (by simpa using hi) (by simpa using ho)
theorem W.drawS {P : Program} {n : Nat} {R : Exit → Act → World → Prop} {k : Kt} {w : World} {id : Nat} {l : List Oper} {w0 ws : World} {ro : Nat → Prop} {L L' : List (Nat × Obj)} {Rs : List Row} (hm : P.follows .mixedOrders = true) (h s : Nat) (HD : List (Value × Bool)) (hB : drawB l.toArray h = true) (hlen : Nat.beq HD.length h = true) (hD : HD.map (·.2) = (List.range h).map fun i => (depsOf l.toArray s).contains i)
    (hs : ((l.toArray[s]?).bind (·.dst)).isNone = true) (hs2 : Nat.blt s h = true) (σ : Env) {σ0 : Env} (hsub : Sub σ σ0) (hds : dstsB l.toArray h n σ = true) (hS : St w0 ws w ro L Rs)
    (hq : AllS P n l.toArray (HD.map (·.1)) σ s (fun w => St w0 ws w ro L Rs) (fun w => St w0 ws w ro L' Rs) 0 HD l)
    (fin : ∀ w', St w0 ws w' ro L' Rs → WL P n R l.toArray (l.drop h) k (hEnv (fun _ => 0) ((HD.map (·.1)).map .q) l.toArray (List.range h) ++ σ) w') :
    W P n R (.region id l.toArray true) k σ0 w := by
  refine ⟨fun a hk0 => wp_region_any hm ?_⟩
  obtain ⟨H, hHe⟩ : ∃ H, H = HD.map (·.1) := ⟨_, rfl⟩
  rw [← hHe] at hq fin
  have hH : H.length = h := by rw [hHe, List.length_map]; exact Nat.eq_of_beq_eq_true hlen
  have hslt : s < h := by simpa [Nat.blt_eq] using hs2
  have hk := hk0.sub hsub
  have hB' := hB
  simp only [drawB, Bool.and_eq_true, Nat.ble_eq] at hB'
  have hle : h ≤ l.toArray.size := hB'.1.1
  have hso : ∃ os, l.toArray[s]? = some os := ⟨_, Array.getElem?_eq_getElem (by omega)⟩
  obtain ⟨os, hso⟩ := hso
  refine wpAny_inv (l := l) (h := h) rfl hB (fun p a u => Known n a σ ∧ (∀ i v d, i < h → p i = true → H[i]? = some v → (l.toArray[i]?).bind (·.dst) = some d → a.tmps.getD d undef = v) ∧ St w0 ws u ro (bif p s then L' else L) Rs ∧ (p s = true → ∀ e ∈ os.after, Region.binds .any e = true → p e.on = true)) ?_ ?_ ?_ l.toArray.size _ a _ (by simp) (fun j _ _ hj => by rw [getD_replicate_false] at hj; cases hj) (fun t _ => getD_replicate_false _ _) ?_ ?_
  · rintro p p' a w hpp ⟨h1, h2, h3, h4⟩
    refine ⟨h1, fun i v d hi hp => h2 i v d hi (by rw [hpp i hi]; exact hp), by rw [← hpp s hslt]; exact h3, fun hp e he hb => ?_⟩
    have := headB_head hB'.1.2 hso hslt e he hb
    rw [← hpp e.on (by omega)]
    exact h4 (by rw [hpp s hslt]; exact hp) e he hb
  · rintro p a u i o ⟨h1, h2, h3, h4⟩ hi ho hpi hdep
    have hlH : i < H.length := by omega
    have hΦ : H[i]? = some H[i] := List.getElem?_eq_getElem hlH
    have hlD : i < HD.length := by rw [hHe, List.length_map] at hlH; exact hlH
    have hw := AllS.at HD l 0 hq i HD[i] o (List.getElem?_eq_getElem hlD) (by simpa using ho)
    have hv1 : HD[i].1 = H[i] := by simp [hHe]
    have hv2 : HD[i].2 = (depsOf l.toArray s).contains i := by
      have h9 := congrArg (fun z => z[i]?) hD
      simp only [List.getElem?_map, List.getElem?_eq_getElem hlD, List.getElem?_range hi, Option.map_some, Option.some.injEq] at h9
      exact h9
    rw [Nat.zero_add, hv1, hv2] at hw
    have hkd : Known n a (hEnv (fun _ => 0) (H.map .q) l.toArray (depsOf l.toArray i) ++ σ) := known_hEnv h1 fun j hj o2 d hHj hd => by
      simp only [depsOf, ho] at hj
      obtain ⟨e, he, rfl⟩ := List.mem_map.1 hj
      obtain ⟨he1, he2⟩ := List.mem_filter.1 he
      have hon := headB_head hB'.1.2 ho hi e (by simpa using he1) he2
      rw [List.getElem?_map] at hHj
      obtain ⟨v, hv, rfl⟩ := Option.map_eq_some_iff.1 hHj
      exact h2 e.on v d (by omega) (hdep e (by simpa using he1) he2) hv hd
    by_cases his : i = s
    · subst his
      rw [Nat.beq_refl, cond_true] at hw
      rw [hpi, cond_false] at h3
      have hdn : o.dst = none := by rw [ho] at hs; simpa using hs
      refine store_run ho hdn (hw u h3) hkd fun w' v hC => ?_
      have hpe : a.put o.dst v = a := by rw [hdn]; rfl
      rw [hpe]
      refine ⟨h1, fun j v' d hj hp hj2 hd => ?_, by simp only [Nat.beq_refl, cond_true]; exact hC, fun _ e he hb => ?_⟩
      · by_cases e : j = i
        · subst e; rw [ho] at hd; simp [hdn] at hd
        · simp only [beqF e, cond_false] at hp
          exact h2 j v' d hj hp hj2 hd
      · rw [hso] at ho; cases ho
        simp only [hdep e he hb]; cases Nat.beq e.on i <;> rfl
    · rw [beqF his, cond_false] at hw
      have hdst : ∀ d, o.dst = some d → (l.toArray[i]?).bind (·.dst) = some d := fun d e => by rw [ho]; exact e
      have hdd : dOk n o.dst = true := by
        cases hd : o.dst with
        | none => rfl
        | some d => simpa [dOk, Nat.blt_eq] using (dsts_spec hds hi (hdst d hd)).1
      have hC : ∃ C : World → Prop, C u ∧ (C = (fun w => St w0 ws w ro L Rs) ∨ (bif (depsOf l.toArray s).contains i then False else C = (fun w => St w0 ws w ro L' Rs))) := by
        cases hps : p s with
        | false => rw [hps] at h3; exact ⟨fun w => St w0 ws w ro L Rs, h3, .inl rfl⟩
        | true =>
          rw [hps] at h3
          refine ⟨fun w => St w0 ws w ro L' Rs, h3, .inr ?_⟩
          have hnc : (depsOf l.toArray s).contains i = false := by
            cases hc : (depsOf l.toArray s).contains i with
            | false => rfl
            | true =>
              simp only [List.contains_iff_mem, depsOf, hso] at hc
              obtain ⟨e, he, he3⟩ := List.mem_map.1 hc
              obtain ⟨he1, he2⟩ := List.mem_filter.1 he
              have := h4 hps e (by simpa using he1) he2
              rw [he3, hpi] at this; cases this
          rw [hnc]; rfl
      obtain ⟨C, hCu, hCo⟩ := hC
      refine quiet1_run (C := C) ho (fun w hw2 => hw C hCo w hw2) hkd hCu ?_ hdd
      intro w' v hb hv
      refine ⟨known_put h1 fun d e => (dsts_spec hds hi (hdst d e)).2.1, fun j v' d hj hp hj2 hd => ?_, ?_, ?_⟩
      · by_cases e : j = i
        · subst e
          rw [hΦ] at hj2; cases hj2
          rw [ho] at hd
          have hd' : o.dst = some d := hd
          rw [hd', put_same (by rw [h1.size]; exact (dsts_spec hds hi (hdst d hd')).1)]
          exact hv d hd'
        · simp only [beqF e, cond_false] at hp
          have h5 := h2 j v' d hj hp hj2 hd
          cases hod : o.dst with
          | none => exact h5
          | some d2 =>
            rw [← h5]
            exact put_other fun e2 => (dsts_spec hds hi (hdst d2 hod)).2.2 j d hj e hd e2.symm
      · have e : Nat.beq s i = false := beqF (fun e => his e.symm)
        simp only [e, cond_false]; exact h3.grow hb
      · intro hp e he hb2
        have e2 : Nat.beq s i = false := beqF (fun e => his e.symm)
        simp only [e2, cond_false] at hp
        simp only [h4 hp e he hb2]; cases Nat.beq e.on i <;> rfl
  · rintro a u ⟨h1, h2, h3, _⟩
    exact (fin u h3).out a (known_hEnv h1 fun i hi o d hHi hd => by
      rw [List.getElem?_map] at hHi
      obtain ⟨v, hv, rfl⟩ := Option.map_eq_some_iff.1 hHi
      exact h2 i v d (List.mem_range.1 hi) rfl hv hd)
  · have hf : (List.range h).filter (fun i => !(Array.replicate l.toArray.size false).getD i false) = List.range h := by
      rw [List.filter_eq_self]
      intro i _
      rw [getD_replicate_false]; rfl
    rw [hf, List.length_range]
    omega
  · refine ⟨hk, fun i v d _ hp => (by simp only [getD_replicate_false] at hp; cases hp), ?_, fun hp => (by simp only [getD_replicate_false] at hp; cases hp)⟩
    simp only [getD_replicate_false, cond_false]
    exact hS.grow ((Below.refl _ w).drew)
end Go.Proofs.Ytdlcmhkfglckfaa
