/-
  A statement whose order Go leaves open, where what is called hands back values that lie in memory: of each value what holds of it in every later world. No condition beyond those that each theorem states.
-/
import Derived.Test.YtcmmhfknkldmcaaDoorA10
namespace Go.Proofs.YtcmmhfknkldmcaaDoor
open Go.RowKit

theorem quietP_run {P : Program} {n : Nat} {ops : Array Oper} {o : Oper} {σ : Env} {Q : Exit → Act → World → Prop} {i d : Nat} {Φ : Value → World → Prop} {w : World} (hi : ops[i]? = some o) (hdst : o.dst = some d) (hlt : d < n)
    (h : WL P n NoR ops [o] (.cut (CI n (fun v : Value => putS o.dst v []) (fun v w' => Below w.heap.size w w' ∧ Φ v w')) .fin) σ w) {a : Act} (hk : Known n a σ) {K : Act → World → Prop}
    (hK : ∀ w' u, Below w.heap.size w w' → Φ u w' → K (a.put o.dst u) w') : wpOp P ops Q i K a w := by
  have h1 := h.out a hk
  have dstEq : ∀ u w', (Kt.cut (CI n (fun v : Value => putS o.dst v []) (fun v w' => Below w.heap.size w w' ∧ Φ v w')) .fin).post P NoR .normal (a.put o.dst u) w' → Below w.heap.size w w' ∧ Φ u w' := by
    rintro u w' ⟨v, hk', hb, hp⟩
    refine ⟨hb, ?_⟩
    have := hk'.at_ d v (by rw [hdst]; simp [putS, look])
    have hlt' : d < a.tmps.size := by rw [hk.size]; exact hlt
    rw [hdst] at this
    have e : u = v := by simpa [Act.put, Array.getD, hlt'] using this
    rw [e]; exact hp
  unfold wpList at h1
  unfold wpOp
  simp only [hi]
  by_cases hw' : Region.wanted o (yielded ops a.tmps) = true
  · rw [if_pos hw'] at h1 ⊢
    rcases h1 with h1 | ⟨_, a', w', h2⟩
    · left
      unfold Oper.wp at *
      generalize (execOp a.eval o).run P w = r at *
      cases r with
      | ok nx w1 =>
        cases nx <;> simp only [Oper.upon] at h1 ⊢ <;> try (exact h1.elim)
        case value u => obtain ⟨hb, he⟩ := dstEq u w1 h1; exact hK _ _ hb he
        case skip => obtain ⟨hb, he⟩ := dstEq undef w1 h1; exact hK _ _ hb he
        case enter f args =>
          refine Calls.mono h1 fun e w2 h3 => ?_
          cases e with
          | returned u => obtain ⟨hb, he⟩ := dstEq u w2 h3; exact hK _ _ hb he
          | panicked c => exact h3.elim
          | outgrown => obtain ⟨a', w', h4⟩ := h3; exact h4.elim
        case row r args =>
          refine Rows.mono h1 fun u w2 h3 => ?_
          obtain ⟨hb, he⟩ := dstEq u w2 h3; exact hK _ _ hb he
        case defer dd =>
          obtain ⟨_, hk', _⟩ := h1
          have h5 := hk'.defers
          have h6 : ∀ dst : Option Nat, ({ tmps := a.tmps, defers := dd :: a.defers } : Act).put dst undef = { tmps := (({ tmps := a.tmps, defers := dd :: a.defers } : Act).put dst undef).tmps, defers := dd :: a.defers } := fun dst => by cases dst <;> rfl
          rw [h6] at h5
          cases h5
      | halt x w1 =>
        cases x <;> simp only [Oper.upon] at h1 ⊢ <;> exact h1.elim
    · exact h2.elim
  · rw [if_neg hw'] at h1 ⊢
    obtain ⟨hb, he⟩ := dstEq undef w h1
    exact hK _ _ hb he

def PEnv (β : Nat → Value) (ops : Array Oper) : List Nat → Env
  | [] => []
  | i :: r => match (ops[i]?).bind (·.dst) with
    | some d => (d, β i) :: PEnv β ops r
    | none => PEnv β ops r
theorem look_PEnv (β : Nat → Value) (ops : Array Oper) : ∀ (is : List Nat) (t : Nat) (v : Value), look (PEnv β ops is) t = some v → ∃ i ∈ is, (ops[i]?).bind (·.dst) = some t ∧ v = β i
  | [], _, _, hv => by cases hv
  | i :: r, t, v, hv => by
    have rec_ : look (PEnv β ops r) t = some v → ∃ i' ∈ i :: r, (ops[i']?).bind (·.dst) = some t ∧ v = β i' := fun h => by
      obtain ⟨i', hi', rest⟩ := look_PEnv β ops r t v h
      exact ⟨i', List.mem_cons_of_mem _ hi', rest⟩
    simp only [PEnv] at hv
    cases hd : (ops[i]?).bind (·.dst) with
    | none => rw [hd] at hv; exact rec_ hv
    | some d =>
      rw [hd] at hv
      simp only [look] at hv
      cases hc : Nat.beq d t with
      | true =>
        rw [hc] at hv
        have e : d = t := Nat.eq_of_beq_eq_true hc
        subst e
        exact ⟨i, List.mem_cons_self, hd, (Option.some.inj hv).symm⟩
      | false => rw [hc] at hv; exact rec_ hv
def valAt (ops : Array Oper) (a : Act) (i : Nat) : Value := match (ops[i]?).bind (·.dst) with
  | some d => a.tmps.getD d undef
  | none => undef
theorem known_PEnv {n : Nat} {σ : Env} {ops : Array Oper} {a : Act} {is : List Nat} (hk : Known n a σ) : Known n a (PEnv (valAt ops a) ops is ++ σ) := by
  refine ⟨hk.size, hk.defers, fun t v hv => ?_⟩
  rcases look_append _ _ t v hv with h2 | h2
  · obtain ⟨i, _, hd, e⟩ := look_PEnv _ ops is t v h2
    rw [e, valAt, hd]
  · exact hk.at_ t v h2
/-- What is known of the values of some operations. -/
def DepsP (Φs : List (Value → World → Prop)) (β : Nat → Value) (w : World) : List Nat → Prop
  | [] => True
  | i :: r => (match Φs[i]? with | some Φ => Φ (β i) w | none => True) ∧ DepsP Φs β w r
theorem DepsP.of {Φs : List (Value → World → Prop)} {β : Nat → Value} {w : World} : ∀ {is : List Nat}, (∀ i ∈ is, ∀ Φ, Φs[i]? = some Φ → Φ (β i) w) → DepsP Φs β w is
  | [], _ => trivial
  | i :: r, h => ⟨by
      cases e : Φs[i]? with
      | none => trivial
      | some Φ => exact h i List.mem_cons_self Φ e, DepsP.of fun j hj => h j (List.mem_cons_of_mem _ hj)⟩
def allDst (ops : Array Oper) (h : Nat) : Bool := (List.range h).all fun i => ((ops[i]?).bind (·.dst)).isSome
/-- The head's operations one by one. -/
def AllP (P : Program) (n : Nat) (ops : Array Oper) (Φs0 : List (Value → World → Prop)) (σ : Env) (w1 : World) : Nat → List (Value → World → Prop) → List Oper → Prop
  | i, Φ :: F, o :: l => (∀ β w, Below w1.heap.size w1 w → DepsP Φs0 β w (depsOf ops i) → WL P n NoR ops [o] (.cut (CI n (fun v : Value => putS o.dst v []) (fun v w' => Below w.heap.size w w' ∧ Φ v w')) .fin) (PEnv β ops (depsOf ops i) ++ σ) w) ∧ AllP P n ops Φs0 σ w1 (i + 1) F l
  | _, [], _ => True
  | _, _ :: _, [] => False
theorem AllP.at {P : Program} {n : Nat} {ops : Array Oper} {F0 : List (Value → World → Prop)} {σ : Env} {w1 : World} : ∀ (F : List (Value → World → Prop)) (l : List Oper) (m : Nat), AllP P n ops F0 σ w1 m F l → ∀ (i : Nat) (Φ : Value → World → Prop) (o : Oper), F[i]? = some Φ → l[i]? = some o →
    ∀ β w, Below w1.heap.size w1 w → DepsP F0 β w (depsOf ops (m + i)) → WL P n NoR ops [o] (.cut (CI n (fun v : Value => putS o.dst v []) (fun v w' => Below w.heap.size w w' ∧ Φ v w')) .fin) (PEnv β ops (depsOf ops (m + i)) ++ σ) w
  | [], _, _, _, i, v, o, hi, _ => by simp at hi
  | _ :: _, [], _, _, i, v, o, _, ho => by simp at ho
  | x :: F, o' :: l, m, h, 0, v, o, hi, ho => by
    simp only [List.getElem?_cons_zero, Option.some.injEq] at hi ho
    subst hi; subst ho
    exact h.1
  | x :: F, o' :: l, m, h, i + 1, v, o, hi, ho => by
    rw [show m + (i + 1) = m + 1 + i by omega]
    exact AllP.at F l (m + 1) h.2 i v o (by simpa using hi) (by simpa using ho)
/-- What has come to be known of a value goes on in every later world. -/
def Stays (Φ : Value → World → Prop) : Prop := ∀ v w w', Φ v w → Below w.heap.size w w' → Φ v w'
def AllStay : List (Value → World → Prop) → Prop
  | [] => True
  | Φ :: r => Stays Φ ∧ AllStay r
theorem AllStay.at : ∀ {F : List (Value → World → Prop)}, AllStay F → ∀ (i : Nat) Φ, F[i]? = some Φ → Stays Φ
  | x :: F, h, 0, Φ, hi => by
    simp only [List.getElem?_cons_zero, Option.some.injEq] at hi
    subst hi; exact h.1
  | x :: F, h, i + 1, Φ, hi => AllStay.at h.2 i Φ (by simpa using hi)
theorem stays_eq {c : Value} : Stays fun v _ => v = c := fun _ _ _ h _ => h

theorem W.drawP {P : Program} {n : Nat} {R : Exit → Act → World → Prop} {k : Kt} {w : World} {id : Nat} {l : List Oper} (hm : P.follows .mixedOrders = true) (h : Nat) (Φs : List (Value → World → Prop)) (hB : drawB l.toArray h = true) (hlen : Nat.beq Φs.length h = true) (hall : allDst l.toArray h = true)
    (σ : Env) {σ0 : Env} (hsub : Sub σ σ0) (hds : dstsB l.toArray h n σ = true) (hst : AllStay Φs) (hq : AllP P n l.toArray Φs σ w 0 Φs l)
    (fin : ∀ β w', Below w.heap.size w w' → DepsP Φs β w' (List.range h) → WL P n R l.toArray (l.drop h) k (PEnv β l.toArray (List.range h) ++ σ) w') :
    W P n R (.region id l.toArray true) k σ0 w := by
  refine ⟨fun a hk0 => wp_region_any hm ?_⟩
  have hH : Φs.length = h := Nat.eq_of_beq_eq_true hlen
  have hk := hk0.sub hsub
  have hB' := hB
  simp only [drawB, Bool.and_eq_true, Nat.ble_eq] at hB'
  have hle : h ≤ l.toArray.size := hB'.1.1
  refine wpAny_inv (l := l) (h := h) rfl hB (fun p a u => Known n a σ ∧ Below w.heap.size w u ∧ ∀ i Φ, i < h → p i = true → Φs[i]? = some Φ → Φ (valAt l.toArray a i) u) ?_ ?_ ?_ l.toArray.size _ a _ (by simp) (fun j _ _ hj => by rw [getD_replicate_false] at hj; cases hj) (fun t _ => getD_replicate_false _ _) ?_ ?_
  · rintro p p' a w hpp ⟨h1, h2, h3⟩
    exact ⟨h1, h2, fun i Φ hi hp => h3 i Φ hi (by rw [hpp i hi]; exact hp)⟩
  · rintro p a u i o ⟨h1, h2, h3⟩ hi ho hpi hdep
    have hlH : i < Φs.length := by omega
    have hΦ : Φs[i]? = some Φs[i] := List.getElem?_eq_getElem hlH
    have hs := List.all_eq_true.1 hall i (List.mem_range.2 hi)
    rw [ho] at hs
    obtain ⟨d, hd⟩ : ∃ d, o.dst = some d := Option.isSome_iff_exists.1 hs
    have hd2 : (l.toArray[i]?).bind (·.dst) = some d := by rw [ho]; exact hd
    have hsp := dsts_spec hds hi hd2
    have hw := AllP.at Φs l 0 hq i Φs[i] o hΦ (by simpa using ho) (valAt l.toArray a) u h2 (DepsP.of fun j hj Φ hj2 => by
      simp only [Nat.zero_add, depsOf, ho] at hj
      obtain ⟨e, he, rfl⟩ := List.mem_map.1 hj
      obtain ⟨he1, he2⟩ := List.mem_filter.1 he
      have hon := headB_head hB'.1.2 ho hi e (by simpa using he1) he2
      exact h3 e.on Φ (by omega) (hdep e (by simpa using he1) he2) hj2)
    rw [Nat.zero_add] at hw
    refine quietP_run ho hd hsp.1 hw (known_PEnv h1) fun w' v hb hv => ⟨known_put h1 fun d' e => ?_, h2.trans (hb.mono h2.size), fun j Φ hj hp hj2 => ?_⟩
    · rw [hd] at e; cases e; exact hsp.2.1
    · by_cases e : j = i
      · subst e
        rw [hΦ] at hj2
        have e2 := Option.some.inj hj2
        subst e2
        rw [valAt, hd2, hd]
        simp only
        rw [put_same (by rw [h1.size]; exact hsp.1)]
        exact hv
      · simp only [beqF e, cond_false] at hp
        have h4 := h3 j Φ hj hp hj2
        have h5 : valAt l.toArray (a.put o.dst v) j = valAt l.toArray a j := by
          unfold valAt
          cases hdj : (l.toArray[j]?).bind (·.dst) with
          | none => rfl
          | some dj =>
            simp only
            rw [hd]
            exact put_other fun e2 => hsp.2.2 j dj hj e hdj e2.symm
        rw [h5]
        exact AllStay.at hst j Φ hj2 _ _ _ h4 hb
  · rintro a u ⟨h1, h2, h3⟩
    exact (fin (valAt l.toArray a) u h2 (DepsP.of fun i hi Φ hj2 => h3 i Φ (List.mem_range.1 hi) rfl hj2)).out a (known_PEnv h1)
  · have hf : (List.range h).filter (fun i => !(Array.replicate l.toArray.size false).getD i false) = List.range h := by
      rw [List.filter_eq_self]
      intro i _
      rw [getD_replicate_false]; rfl
    rw [hf, List.length_range]
    omega
  · refine ⟨hk, (Below.refl _ w).drew, fun i Φ _ hp => (by simp only [getD_replicate_false] at hp; cases hp)⟩
/-- Cells that lie in one block of the call's own, in chunks: a slice over it. -/
theorem slv_blk {α : Type} {ro : Nat → Prop} {w : World} {b e sz n : Nat} {c : Array Value} {Q : List Value → α → Prop} {cs : List Value} {xs : List α} (hb : w.heap[b]? = some (.cells c e (0, 0))) (hc : c.toList.take cs.length = cs) (h : Chunks sz Q cs xs) (hr : ro b) (hn : n = xs.length) (hm : xs.length ≤ maxLen) :
    SlV ro w sz Q (.slice (some ⟨b, 0, none⟩) n n) xs := by subst hn; exact ⟨_, _, rfl, Nat.le_refl _, hm, (fun e => by cases e), elems_block hb hc h hr⟩
theorem slv_nil {α : Type} {ro : Nat → Prop} {w : World} {sz : Nat} {Q : List Value → α → Prop} : SlV ro w sz Q (.slice none 0 0) ([] : List α) := ⟨none, 0, rfl, Nat.le_refl _, Nat.zero_le _, fun _ => rfl, fun i x hx => by simp at hx⟩
theorem chunks_ints : ∀ {l : List Int}, (∀ x ∈ l, inI x) → Chunks 1 IntC (l.map fun x => .int .i64 x) l := fun {l} h => by
  have := Chunks.flat (sz := 1) (Q := IntC) (f := fun x : Int => [Value.int .i64 x]) (fun _ => rfl) l (fun x hx => ⟨rfl, h x hx⟩)
  rwa [show (l.map fun x : Int => [Value.int .i64 x]).flatten = l.map fun x => Value.int .i64 x by clear this h; induction l with | nil => rfl | cons a r ih => simp_all] at this
end Go.Proofs.YtcmmhfknkldmcaaDoor
