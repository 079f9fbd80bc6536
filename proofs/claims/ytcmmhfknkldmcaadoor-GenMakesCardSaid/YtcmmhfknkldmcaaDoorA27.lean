/-
  A region that draws its order: a set of operations that only add to memory comes in any order; of each value a predicate that stays. No condition beyond those that each theorem states.
-/
import Derived.Test.YtcmmhfknkldmcaaDoorA26
namespace Go.Proofs.YtcmmhfknkldmcaaDoor
open Go.RowKit

abbrev Phi := Value → World → Prop
def assocP (V : List (Nat × Phi)) (i : Nat) : Phi := (V.find? fun p => Nat.beq p.1 i).elim (fun _ _ => True) (·.2)
def DepsA (V : List (Nat × Phi)) (β : Nat → Value) (w : World) : List Nat → Prop
  | [] => True
  | i :: r => assocP V i (β i) w ∧ DepsA V β w r
theorem DepsA.of {V : List (Nat × Phi)} {β : Nat → Value} {w : World} : ∀ {is : List Nat}, (∀ i ∈ is, assocP V i (β i) w) → DepsA V β w is
  | [], _ => trivial
  | i :: r, h => ⟨h i List.mem_cons_self, DepsA.of fun j hj => h j (List.mem_cons_of_mem _ hj)⟩
def StaysA : List (Nat × Phi) → Prop
  | [] => True
  | p :: V => Stays p.2 ∧ StaysA V
theorem StaysA.at : ∀ {V : List (Nat × Phi)}, StaysA V → ∀ p ∈ V, Stays p.2
  | _ :: _, h, _, hm => by
    rcases List.mem_cons.1 hm with e | hm
    · rw [e]; exact h.1
    · exact StaysA.at h.2 _ hm
theorem assocP_mem {V : List (Nat × Phi)} (hnd : (V.map (·.1)).Nodup) {i : Nat} {Φ : Phi} (h : (i, Φ) ∈ V) : assocP V i = Φ := by
  induction V with
  | nil => cases h
  | cons p V ih =>
    obtain ⟨j, u⟩ := p
    obtain ⟨h1, h2⟩ := List.nodup_cons.1 hnd
    unfold assocP
    rcases List.mem_cons.1 h with e | h
    · cases e; simp
    · have hne : ¬ j = i := fun e => h1 (by subst e; exact List.mem_map.2 ⟨_, h, rfl⟩)
      simp only [List.find?_cons, beqF hne]
      exact ih h2 h
section
variable {P : Program} {n : Nat} {ops : Array Oper} {R : Exit → Act → World → Prop} {k : Kt} {σ : Env} {w : World} {Q : Exit → Act → World → Prop} {S : World → Prop} {fuel : Nat}
def AllA (P : Program) (n : Nat) (ops : Array Oper) (V0 : List (Nat × Phi)) (σ : Env) (w1 : World) : List (Nat × Phi) → Prop
  | [] => True
  | (i, Φ) :: V => (∀ β u, Below w1.heap.size w1 u → DepsA V0 β u ((depsOf ops i).filter fun j => V0.any fun p => Nat.beq p.1 j) → ∃ o, ops[i]? = some o ∧
      WL P n NoR ops [o] (.cut (CI n (fun v : Value => putS o.dst v []) (fun v w' => Below u.heap.size u w' ∧ Φ v w')) .fin) (PEnv β ops ((depsOf ops i).filter fun j => V0.any fun p => Nat.beq p.1 j) ++ σ) u) ∧ AllA P n ops V0 σ w1 V
theorem AllA.at {V0 : List (Nat × Phi)} {w1 : World} : ∀ (V : List (Nat × Phi)), AllA P n ops V0 σ w1 V → ∀ i Φ o, (i, Φ) ∈ V → ops[i]? = some o → ∀ β u, Below w1.heap.size w1 u → DepsA V0 β u ((depsOf ops i).filter fun j => V0.any fun p => Nat.beq p.1 j) →
    WL P n NoR ops [o] (.cut (CI n (fun v : Value => putS o.dst v []) (fun v w' => Below u.heap.size u w' ∧ Φ v w')) .fin) (PEnv β ops ((depsOf ops i).filter fun j => V0.any fun p => Nat.beq p.1 j) ++ σ) u
  | [], _, _, _, _, h, _ => by cases h
  | (j, Ψ) :: V, h, i, Φ, o, hm, ho => by
    rcases List.mem_cons.1 hm with e | hm
    · cases e
      intro β u hb hd
      obtain ⟨o', ho', hw⟩ := h.1 β u hb hd
      rw [ho'] at ho
      cases ho
      exact hw
    · exact AllA.at V h.2 i Φ o hm ho
theorem WA.phaseI (V : List (Nat × Phi)) {l0 : Array Bool} (hB : setB ops l0 (V.map (·.1)) = true) (σ : Env) {σ0 : Env} (hsub : Sub σ σ0) (hds : dstsI ops (V.map (·.1)) n σ = true) (hst : StaysA V) (hq : AllA P n ops V σ w V) (hS : ∀ u, Below w.heap.size w u → S u)
    (fin : ∀ β u, Below w.heap.size w u → DepsA V β u (V.map (·.1)) → WA P n ops Q S fuel (setAll l0 (V.map (·.1))) (PEnv β ops (V.map (·.1)) ++ σ) u) : WA P n ops Q S (V.length + fuel) l0 σ0 w := by
  obtain ⟨hs0, hnd, hidx, _⟩ := setB_at hB
  refine ⟨fun a hk0 => ?_⟩
  have hk := hk0.sub hsub
  refine wpAnyH_set (l0 := l0) (idx := V.map (·.1)) hB (fun p a u => Known n a σ ∧ Below w.heap.size w u ∧ ∀ i Φ, (i, Φ) ∈ V → p i = true → Φ (valAt ops a i) u) ?_ ?_ ?_ ?_ V.length l0 a w hs0 (fun _ _ => rfl) (fun i hi _ _ h1 => ?_) ?_ ⟨hk, Below.refl _ w, fun i Φ hi hp => ?_⟩
  · rintro _ _ u ⟨_, h2, _⟩; exact hS u h2
  · rintro p p' a u hpp ⟨h1, h2, h3⟩
    exact ⟨h1, h2, fun i Φ hi hp => h3 i Φ hi (by rw [hpp i (List.mem_map.2 ⟨_, hi, rfl⟩)]; exact hp)⟩
  · rintro p a u i o ⟨h2, hbu, h3⟩ hi ho hpi hdep
    obtain ⟨⟨i', Φ⟩, hm, rfl⟩ := List.mem_map.1 hi
    obtain ⟨d, hd, hdn, hdσ, hdj⟩ := dstsI_spec hds hi
    have hod : o.dst = some d := by rw [ho] at hd; exact hd
    have hw := AllA.at V hq i' Φ o hm ho (valAt ops a) u hbu (DepsA.of fun j hj => by
      obtain ⟨hj1, hj2⟩ := List.mem_filter.1 hj
      obtain ⟨⟨j', Ψ⟩, hju, hje⟩ := List.any_eq_true.1 hj2
      have hje : j' = j := Nat.eq_of_beq_eq_true hje
      subst hje
      simp only [depsOf, ho] at hj1
      obtain ⟨e, he, hee⟩ := List.mem_map.1 hj1
      obtain ⟨he1, he2⟩ := List.mem_filter.1 he
      rw [assocP_mem hnd hju]
      exact h3 j' Ψ hju (by rw [← hee]; exact hdep e (by simpa using he1) he2 (by rw [hee]; exact List.mem_map.2 ⟨_, hju, rfl⟩)))
    refine quietP_run ho hod hdn hw (known_PEnv h2) fun w' v hb hv => ⟨known_put h2 fun d' e => ?_, hbu.trans (hb.mono hbu.size), fun j Ψ hj hp => ?_⟩
    · rw [hod] at e; cases e; exact hdσ
    · by_cases e : j = i'
      · subst e
        have e2 : Ψ = Φ := by rw [← assocP_mem hnd hj, ← assocP_mem hnd hm]
        rw [valAt, hd, hod, e2]
        simp only
        rw [put_same (by rw [h2.size]; exact hdn)]
        exact hv
      · simp only [beqF e, cond_false] at hp
        have h4 := h3 j Ψ hj hp
        have h5 : valAt ops (a.put o.dst v) j = valAt ops a j := by
          unfold valAt
          cases hdj' : (ops[j]?).bind (·.dst) with
          | none => rfl
          | some dj =>
            simp only
            rw [hod]
            exact put_other fun e2 => hdj j dj (List.mem_map.2 ⟨_, hj, rfl⟩) e hdj' e2.symm
        rw [h5]
        exact StaysA.at hst _ hj _ _ _ h4 hb
  · rintro a u ⟨h2, hbu, h3⟩
    refine (fin (valAt ops a) u hbu (DepsA.of fun j hj => ?_)).out a (known_PEnv h2)
    obtain ⟨⟨i', Φ⟩, hm, rfl⟩ := List.mem_map.1 hj
    rw [assocP_mem hnd hm]
    exact h3 i' Φ hm rfl
  · rw [(hidx i hi).2] at h1; cases h1
  · rw [List.filter_eq_self.2 (fun i hi => by rw [(hidx i hi).2]; rfl), List.length_map]
  · have hmi := (hidx i (List.mem_map.2 ⟨_, hi, rfl⟩)).2
    replace hp : l0.getD i false = true := hp
    rw [hmi] at hp; cases hp
end
end Go.Proofs.YtcmmhfknkldmcaaDoor
