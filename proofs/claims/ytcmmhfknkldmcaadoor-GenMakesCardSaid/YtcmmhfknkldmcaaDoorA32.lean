/-
  A region that draws its order, whose operations make memory of the call's own and write it: each operation has what it owns, and what it takes over from others. No condition beyond those that each theorem states.
-/
import Derived.Test.YtcmmhfknkldmcaaDoorA27
import Derived.Test.YtcmmhfknkldmcaaDoorA10
namespace Go.Proofs.YtcmmhfknkldmcaaDoor
open Go.RowKit

/-- As quietP_run, whatever holds behind the operation. -/
theorem quietG_run {P : Program} {n : Nat} {ops : Array Oper} {o : Oper} {σ : Env} {Q : Exit → Act → World → Prop} {i d : Nat} {Φ : Value → World → Prop} {w : World} (hi : ops[i]? = some o) (hdst : o.dst = some d) (hlt : d < n)
    (h : WL P n NoR ops [o] (.cut (CI n (fun v : Value => putS o.dst v []) Φ) .fin) σ w) {a : Act} (hk : Known n a σ) {K : Act → World → Prop}
    (hK : ∀ w' u, Φ u w' → K (a.put o.dst u) w') : wpOp P ops Q i K a w := by
  have h1 := h.out a hk
  have dstEq : ∀ u w', (Kt.cut (CI n (fun v : Value => putS o.dst v []) Φ) .fin).post P NoR .normal (a.put o.dst u) w' → Φ u w' := by
    rintro u w' ⟨v, hk', hp⟩
    have := hk'.at_ d v (by rw [hdst]; simp [putS, look])
    have hlt' : d < a.tmps.size := by rw [hk.size]; exact hlt
    rw [hdst] at this
    have e : u = v := by simpa [Act.put, Array.getD, hlt'] using this
    rw [e]; exact hp
  unfold wpList at h1
  unfold wpOp
  simp only [hi]
  by_cases hw' : Region.wanted o (yielded ops a.tmps) = true
  · rw [if_pos hw'] at h1 ⊢
    rcases h1 with h1 | ⟨_, a', w', h2⟩
    · left
      unfold Oper.wp at *
      generalize (execOp a.eval o).run P w = r at *
      cases r with
      | ok nx w1 =>
        cases nx <;> simp only [Oper.upon] at h1 ⊢ <;> try (exact h1.elim)
        case value u => exact hK _ _ (dstEq u w1 h1)
        case skip => exact hK _ _ (dstEq undef w1 h1)
        case enter f args =>
          refine Calls.mono h1 fun e w2 h3 => ?_
          cases e with
          | returned u => exact hK _ _ (dstEq u w2 h3)
          | panicked c => exact h3.elim
          | outgrown => obtain ⟨a', w', h4⟩ := h3; exact h4.elim
        case row r args => exact Rows.mono h1 fun u w2 h3 => hK _ _ (dstEq u w2 h3)
        case defer dd =>
          obtain ⟨_, hk', _⟩ := h1
          have h5 := hk'.defers
          have h6 : ∀ dst : Option Nat, ({ tmps := a.tmps, defers := dd :: a.defers } : Act).put dst undef = { tmps := (({ tmps := a.tmps, defers := dd :: a.defers } : Act).put dst undef).tmps, defers := dd :: a.defers } := fun dst => by cases dst <;> rfl
          rw [h6] at h5
          cases h5
      | halt x w1 =>
        cases x <;> simp only [Oper.upon] at h1 ⊢ <;> exact h1.elim
    · exact h2.elim
  · rw [if_neg hw'] at h1 ⊢
    exact hK _ _ (dstEq undef w h1)

abbrev Res := List (Nat × Obj) × List Row
abbrev PhiR := Value → Res → Prop
def assocR (V : List (Nat × PhiR)) (i : Nat) : PhiR := (V.find? fun p => Nat.beq p.1 i).elim (fun _ _ => True) (·.2)
def DepsR (V : List (Nat × PhiR)) (β : Nat → Value) (ρ : Nat → Res) : List Nat → Prop
  | [] => True
  | i :: r => assocR V i (β i) (ρ i) ∧ DepsR V β ρ r
theorem DepsR.of {V : List (Nat × PhiR)} {β : Nat → Value} {ρ : Nat → Res} : ∀ {is : List Nat}, (∀ i ∈ is, assocR V i (β i) (ρ i)) → DepsR V β ρ is
  | [], _ => trivial
  | i :: r, h => ⟨h i List.mem_cons_self, DepsR.of fun j hj => h j (List.mem_cons_of_mem _ hj)⟩
theorem assocR_mem {V : List (Nat × PhiR)} (hnd : (V.map (·.1)).Nodup) {i : Nat} {Φ : PhiR} (h : (i, Φ) ∈ V) : assocR V i = Φ := by
  induction V with
  | nil => cases h
  | cons p V ih =>
    obtain ⟨j, u⟩ := p
    obtain ⟨h1, h2⟩ := List.nodup_cons.1 hnd
    unfold assocR
    rcases List.mem_cons.1 h with e | h
    · cases e; simp
    · have hne : ¬ j = i := fun e => h1 (by subst e; exact List.mem_map.2 ⟨_, h, rfl⟩)
      simp only [List.find?_cons, beqF hne]
      exact ih h2 h
/-- What operation i takes over. -/
def used (C : List (Nat × Nat)) (i : Nat) : List Nat := (C.filter fun q => Nat.beq q.1 i).map (·.2)
/-- The operations whose own is still theirs. -/
def live (idx : List Nat) (C : List (Nat × Nat)) (p : Nat → Bool) : List Nat := idx.filter fun j => p j && !(C.any fun q => Nat.beq q.2 j && p q.1)
def resL (ρ : Nat → Res) (l : List Nat) : List (Nat × Obj) := l.flatMap fun j => (ρ j).1
def resR (ρ : Nat → Res) (l : List Nat) : List Row := l.flatMap fun j => (ρ j).2
def consB (ops : Array Oper) (idx : List Nat) (C : List (Nat × Nat)) : Bool := (C.all fun q => idx.contains q.1 && idx.contains q.2 && (depsOf ops q.1).contains q.2) && decide (C.map (·.2)).Nodup
theorem mem_used {C : List (Nat × Nat)} {i j : Nat} : j ∈ used C i ↔ (i, j) ∈ C := by
  unfold used
  constructor
  · intro h
    obtain ⟨⟨a, b⟩, h1, rfl⟩ := List.mem_map.1 h
    obtain ⟨h2, h3⟩ := List.mem_filter.1 h1
    have : a = i := Nat.eq_of_beq_eq_true h3
    subst this; exact h2
  · intro h; exact List.mem_map.2 ⟨(i, j), List.mem_filter.2 ⟨h, Nat.beq_refl i⟩, rfl⟩
theorem mem_live {idx : List Nat} {C : List (Nat × Nat)} {p : Nat → Bool} {j : Nat} : j ∈ live idx C p ↔ j ∈ idx ∧ p j = true ∧ ∀ q ∈ C, q.2 = j → p q.1 = false := by
  unfold live
  rw [List.mem_filter]
  simp only [Bool.and_eq_true, Bool.not_eq_true', List.any_eq_false]
  refine and_congr_right fun _ => and_congr_right fun _ => ⟨fun h q hq e => ?_, fun h q hq => ?_⟩
  · have := h q hq
    subst e
    simpa using this
  · intro h2
    obtain ⟨h3, h4⟩ := h2
    rw [h q hq (Nat.eq_of_beq_eq_true h3)] at h4; cases h4
theorem snd_inj {C : List (Nat × Nat)} (h : (C.map (·.2)).Nodup) {q r : Nat × Nat} (hq : q ∈ C) (hr : r ∈ C) (e : q.2 = r.2) : q = r := by
  induction C with
  | nil => cases hq
  | cons x C ih =>
    obtain ⟨h1, h2⟩ := List.nodup_cons.1 h
    rcases List.mem_cons.1 hq with e1 | hq1 <;> rcases List.mem_cons.1 hr with e2 | hr1
    · rw [e1, e2]
    · exact absurd (List.mem_map.2 ⟨r, hr1, by rw [← e, e1]⟩) h1
    · exact absurd (List.mem_map.2 ⟨q, hq1, by rw [e, e2]⟩) h1
    · exact ih h2 hq1 hr1
theorem live_step {idx : List Nat} {C : List (Nat × Nat)} {p : Nat → Bool} {i : Nat} (hnd : idx.Nodup) (hC : (C.map (·.2)).Nodup) (hci : ∀ q ∈ C, q.2 ∈ idx) (hi : i ∈ idx) (hp : p i = false) (hd : ∀ q ∈ C, q.1 = i → p q.2 = true) (hcl : ∀ q ∈ C, p q.1 = true → p q.2 = true) :
    ∃ rest, (live idx C p).Perm (used C i ++ rest) ∧ (live idx C (fun j => bif Nat.beq j i then true else p j)).Perm (i :: rest) ∧ i ∉ rest := by
  have hpi : ∀ j, j ≠ i → (bif Nat.beq j i then true else p j) = p j := fun j h => by rw [beqF h]; rfl
  have hii : (bif Nat.beq i i then true else p i) = true := by rw [Nat.beq_refl]; rfl
  have hln : (live idx C p).Nodup := hnd.filter _
  have hln2 : (live idx C (fun j => bif Nat.beq j i then true else p j)).Nodup := hnd.filter _
  have hun : (used C i).Nodup := List.Sublist.nodup (List.filter_sublist.map _) hC
  refine ⟨(live idx C p).filter fun j => !(used C i).contains j, ?_, ?_, ?_⟩
  · refine (List.perm_ext_iff_of_nodup hln (List.nodup_append.2 ⟨hun, hln.filter _, fun a ha b hb e => ?_⟩)).2 fun j => ?_
    · subst e
      have := (List.mem_filter.1 hb).2
      simp [ha] at this
    · rw [List.mem_append, List.mem_filter]
      constructor
      · intro h
        by_cases hu : j ∈ used C i
        · exact .inl hu
        · exact .inr ⟨h, by simpa using hu⟩
      · rintro (h | h)
        · have h1 := mem_used.1 h
          refine mem_live.2 ⟨hci _ h1, hd _ h1 rfl, fun q hq e => ?_⟩
          have := snd_inj hC hq h1 e
          rw [this]; exact hp
        · exact h.1
  · refine (List.perm_ext_iff_of_nodup hln2 (List.nodup_cons.2 ⟨fun h => ?_, hln.filter _⟩)).2 fun j => ?_
    · have := (mem_live.1 (List.mem_filter.1 h).1).2.1
      rw [hp] at this; cases this
    · rw [List.mem_cons, List.mem_filter]
      constructor
      · intro h
        obtain ⟨h1, h2, h3⟩ := mem_live.1 h
        by_cases e : j = i
        · exact .inl e
        · refine .inr ⟨mem_live.2 ⟨h1, by rwa [hpi j e] at h2, fun q hq e2 => ?_⟩, ?_⟩
          · have h4 := h3 q hq e2
            by_cases e3 : q.1 = i
            · rw [e3, hii] at h4; cases h4
            · rwa [hpi _ e3] at h4
          · simp only [Bool.not_eq_true', List.contains_eq_mem, decide_eq_false_iff_not]
            intro h5
            have h6 := h3 _ (mem_used.1 h5) rfl
            rw [hii] at h6; cases h6
      · rintro (ej | ⟨h, h2⟩)
        · rw [ej]
          refine mem_live.2 ⟨hi, hii, fun q hq e => ?_⟩
          by_cases e3 : q.1 = i
          · have := hd q hq e3
            rw [e, hp] at this; cases this
          · show (bif Nat.beq q.1 i then true else p q.1) = false
            rw [hpi _ e3]
            cases h4 : p q.1 with
            | false => rfl
            | true => have := hcl q hq h4; rw [e, hp] at this; cases this
        · obtain ⟨h3, h4, h5⟩ := mem_live.1 h
          have hji : j ≠ i := fun e => by rw [e, hp] at h4; cases h4
          refine mem_live.2 ⟨h3, by show (bif Nat.beq j i then true else p j) = true; rw [hpi j hji]; exact h4, fun q hq e => ?_⟩
          by_cases e3 : q.1 = i
          · have : j ∈ used C i := mem_used.2 (by rw [← e3, ← e]; exact hq)
            simp [this] at h2
          · show (bif Nat.beq q.1 i then true else p q.1) = false
            rw [hpi _ e3]; exact h5 q hq e
  · intro h
    have := (mem_live.1 (List.mem_filter.1 h).1).2.1
    rw [hp] at this; cases this
theorem resL_upd {ρ : Nat → Res} {i : Nat} {r : Res} {l : List Nat} (h : i ∉ l) : resL (fun j => if j = i then r else ρ j) l = resL ρ l := by
  unfold resL
  induction l with
  | nil => rfl
  | cons x l ih =>
    simp only [List.mem_cons, not_or] at h
    rw [List.flatMap_cons, List.flatMap_cons, ih h.2]
    have hx : ¬ x = i := fun e => h.1 e.symm
    simp only [hx, if_false]
theorem resR_upd {ρ : Nat → Res} {i : Nat} {r : Res} {l : List Nat} (h : i ∉ l) : resR (fun j => if j = i then r else ρ j) l = resR ρ l := by
  unfold resR
  induction l with
  | nil => rfl
  | cons x l ih =>
    simp only [List.mem_cons, not_or] at h
    rw [List.flatMap_cons, List.flatMap_cons, ih h.2]
    have hx : ¬ x = i := fun e => h.1 e.symm
    simp only [hx, if_false]
section
variable {P : Program} {n : Nat} {ops : Array Oper} {R : Exit → Act → World → Prop} {k : Kt} {σ : Env} {w : World} {Q : Exit → Act → World → Prop} {S : World → Prop} {fuel : Nat}
variable {w0 ws : World} {ro : Nat → Prop} {L : List (Nat × Obj)} {Rs : List Row}
def AllR (P : Program) (n : Nat) (ops : Array Oper) (V0 : List (Nat × PhiR)) (C : List (Nat × Nat)) (σ : Env) (w0 ws : World) (ro : Nat → Prop) : List (Nat × PhiR) → Prop
  | [] => True
  | (i, Φ) :: V => (∀ β ρ u LT RT, DepsR V0 β ρ ((depsOf ops i).filter fun j => V0.any fun p => Nat.beq p.1 j) → St w0 ws u ro (resL ρ (used C i) ++ LT) (resR ρ (used C i) ++ RT) → ∃ o, ops[i]? = some o ∧
      WL P n NoR ops [o] (.cut (CI n (fun v : Value => putS o.dst v []) (fun v w' => ∃ r, Φ v r ∧ St w0 ws w' ro (r.1 ++ LT) (r.2 ++ RT))) .fin) (PEnv β ops ((depsOf ops i).filter fun j => V0.any fun p => Nat.beq p.1 j) ++ σ) u) ∧ AllR P n ops V0 C σ w0 ws ro V
theorem AllR.at {V0 : List (Nat × PhiR)} {C : List (Nat × Nat)} : ∀ (V : List (Nat × PhiR)), AllR P n ops V0 C σ w0 ws ro V → ∀ i Φ o, (i, Φ) ∈ V → ops[i]? = some o → ∀ β ρ u LT RT, DepsR V0 β ρ ((depsOf ops i).filter fun j => V0.any fun p => Nat.beq p.1 j) → St w0 ws u ro (resL ρ (used C i) ++ LT) (resR ρ (used C i) ++ RT) →
    WL P n NoR ops [o] (.cut (CI n (fun v : Value => putS o.dst v []) (fun v w' => ∃ r, Φ v r ∧ St w0 ws w' ro (r.1 ++ LT) (r.2 ++ RT))) .fin) (PEnv β ops ((depsOf ops i).filter fun j => V0.any fun p => Nat.beq p.1 j) ++ σ) u
  | [], _, _, _, _, h, _ => by cases h
  | (j, Ψ) :: V, h, i, Φ, o, hm, ho => by
    rcases List.mem_cons.1 hm with e | hm
    · cases e
      intro β ρ u LT RT hd hS
      obtain ⟨o', ho', hw⟩ := h.1 β ρ u LT RT hd hS
      rw [ho'] at ho
      cases ho
      exact hw
    · exact AllR.at V h.2 i Φ o hm ho
theorem WA.phaseR (V : List (Nat × PhiR)) (C : List (Nat × Nat)) (F : List Nat) {l0 : Array Bool} (hB : setB ops l0 (V.map (·.1)) = true) (hCB : consB ops (V.map (·.1)) C = true) (hF : live (V.map (·.1)) C (fun _ => true) = F) (σ : Env) {σ0 : Env} (hsub : Sub σ σ0) (hds : dstsI ops (V.map (·.1)) n σ = true) (hS0 : St w0 ws w ro L Rs) (hq : AllR P n ops V C σ w0 ws ro V)
    (fin : ∀ β ρ u, DepsR V β ρ (V.map (·.1)) → St w0 ws u ro (resL ρ F ++ L) (resR ρ F ++ Rs) → WA P n ops Q (fun _ => True) fuel (setAll l0 (V.map (·.1))) (PEnv β ops (V.map (·.1)) ++ σ) u) : WA P n ops Q (fun _ => True) (V.length + fuel) l0 σ0 w := by
  obtain ⟨hs0, hnd, hidx, _⟩ := setB_at hB
  unfold consB at hCB
  simp only [Bool.and_eq_true, List.all_eq_true, decide_eq_true_eq, List.contains_iff_mem] at hCB
  obtain ⟨hC1, hC2⟩ := hCB
  refine ⟨fun a hk0 => ?_⟩
  have hk := hk0.sub hsub
  refine wpAnyH_set (S := fun _ => True) (l0 := l0) (idx := V.map (·.1)) hB (fun p a u => Known n a σ ∧ (∀ q ∈ C, p q.1 = true → p q.2 = true) ∧ ∃ ρ, (∀ i Φ, (i, Φ) ∈ V → p i = true → Φ (valAt ops a i) (ρ i)) ∧ St w0 ws u ro (resL ρ (live (V.map (·.1)) C p) ++ L) (resR ρ (live (V.map (·.1)) C p) ++ Rs)) (fun _ _ _ _ => trivial) ?_ ?_ ?_ V.length l0 a w hs0 (fun _ _ => rfl) (fun i hi _ _ h1 => ?_) ?_ ⟨hk, fun q hq hp => ?_, fun _ => ([], []), fun i Φ hi hp => ?_, ?_⟩
  · rintro p p' a u hpp ⟨h1, h2, ρ, h3, h4⟩
    have hl : live (V.map (·.1)) C p' = live (V.map (·.1)) C p := by
      unfold live
      refine List.filter_congr fun j hj => ?_
      rw [← hpp j hj]
      congr 2
      rw [Bool.eq_iff_iff]
      simp only [List.any_eq_true, Bool.and_eq_true]
      exact ⟨fun ⟨q, hq, a1, a2⟩ => ⟨q, hq, a1, by rw [hpp _ (hC1 q hq).1.1]; exact a2⟩, fun ⟨q, hq, a1, a2⟩ => ⟨q, hq, a1, by rw [← hpp _ (hC1 q hq).1.1]; exact a2⟩⟩
    exact ⟨h1, fun q hq hp => by rw [← hpp _ (hC1 q hq).1.2]; exact h2 q hq (by rw [hpp _ (hC1 q hq).1.1]; exact hp), ρ, fun i Φ hi hp => h3 i Φ hi (by rw [hpp i (List.mem_map.2 ⟨_, hi, rfl⟩)]; exact hp), by rw [hl]; exact h4⟩
  · rintro p a u i o ⟨h2, hcl, ρ, h3, hS⟩ hi ho hpi hdep
    obtain ⟨⟨i', Φ⟩, hm, rfl⟩ := List.mem_map.1 hi
    obtain ⟨d, hd, hdn, hdσ, hdj⟩ := dstsI_spec hds hi
    have hod : o.dst = some d := by rw [ho] at hd; exact hd
    have hdd : ∀ q ∈ C, q.1 = i' → p q.2 = true := fun q hq e => by
      have h5 := (hC1 q hq).2
      rw [e] at h5
      simp only [depsOf, ho] at h5
      obtain ⟨e', he', hee⟩ := List.mem_map.1 h5
      obtain ⟨he1, he2⟩ := List.mem_filter.1 he'
      rw [← hee]
      exact hdep e' (by simpa using he1) he2 (by rw [hee]; exact (hC1 q hq).1.2)
    obtain ⟨rest, hr1, hr2, hr3⟩ := live_step hnd hC2 (fun q hq => (hC1 q hq).1.2) hi hpi hdd hcl
    have hS1 : St w0 ws u ro (resL ρ (used C i') ++ (resL ρ rest ++ L)) (resR ρ (used C i') ++ (resR ρ rest ++ Rs)) := by
      have h6 := (hS.perm (List.Perm.append_right L (hr1.flatMap_right fun j => (ρ j).1))).permR (List.Perm.append_right Rs (hr1.flatMap_right fun j => (ρ j).2))
      simpa [resL, resR, List.flatMap_append, List.append_assoc] using h6
    have hw := AllR.at V hq i' Φ o hm ho (valAt ops a) ρ u _ _ (DepsR.of fun j hj => by
      obtain ⟨hj1, hj2⟩ := List.mem_filter.1 hj
      obtain ⟨⟨j', Ψ⟩, hju, hje⟩ := List.any_eq_true.1 hj2
      have hje : j' = j := Nat.eq_of_beq_eq_true hje
      subst hje
      simp only [depsOf, ho] at hj1
      obtain ⟨e, he, hee⟩ := List.mem_map.1 hj1
      obtain ⟨he1, he2⟩ := List.mem_filter.1 he
      rw [assocR_mem hnd hju]
      exact h3 j' Ψ hju (by rw [← hee]; exact hdep e (by simpa using he1) he2 (by rw [hee]; exact List.mem_map.2 ⟨_, hju, rfl⟩))) hS1
    refine quietG_run ho hod hdn hw (known_PEnv h2) ?_
    rintro w' v ⟨r, hv, hS2⟩
    refine ⟨known_put h2 fun d' e => ?_, fun q hq hp => ?_, fun j => if j = i' then r else ρ j, fun j Ψ hj hp => ?_, ?_⟩
    · rw [hod] at e; cases e; exact hdσ
    · by_cases e2 : q.2 = i'
      · simp [e2]
      · simp only [beqF e2, cond_false]
        by_cases e1 : q.1 = i'
        · exact hdd q hq e1
        · simp only [beqF e1, cond_false] at hp; exact hcl q hq hp
    · by_cases e : j = i'
      · subst e
        have e2 : Ψ = Φ := by rw [← assocR_mem hnd hj, ← assocR_mem hnd hm]
        rw [valAt, hd, hod, e2]
        simp only [if_true]
        rw [put_same (by rw [h2.size]; exact hdn)]
        exact hv
      · simp only [beqF e, cond_false] at hp
        have h4 := h3 j Ψ hj hp
        have h5 : valAt ops (a.put o.dst v) j = valAt ops a j := by
          unfold valAt
          cases hdj' : (ops[j]?).bind (·.dst) with
          | none => rfl
          | some dj =>
            simp only
            rw [hod]
            exact put_other fun e2 => hdj j dj (List.mem_map.2 ⟨_, hj, rfl⟩) e hdj' e2.symm
        simp only [h5, e, if_false]
        exact h4
    · have hp1 := List.Perm.append_right L (hr2.flatMap_right fun j => (if j = i' then r else ρ j).1)
      have hp2 := List.Perm.append_right Rs (hr2.flatMap_right fun j => (if j = i' then r else ρ j).2)
      refine (St.perm (L := resL (fun j => if j = i' then r else ρ j) (i' :: rest) ++ L) (St.permR (Rs := resR (fun j => if j = i' then r else ρ j) (i' :: rest) ++ Rs) ?_ hp2.symm) hp1.symm)
      have e1 : resL (fun j => if j = i' then r else ρ j) (i' :: rest) = r.1 ++ resL ρ rest := by
        rw [← resL_upd (ρ := ρ) (r := r) hr3]; simp [resL, List.flatMap_cons]
      have e2 : resR (fun j => if j = i' then r else ρ j) (i' :: rest) = r.2 ++ resR ρ rest := by
        rw [← resR_upd (ρ := ρ) (r := r) hr3]; simp [resR, List.flatMap_cons]
      rw [e1, e2, List.append_assoc, List.append_assoc]
      exact hS2
  · rintro a u ⟨h2, _, ρ, h3, hS⟩
    refine (fin (valAt ops a) ρ u (DepsR.of fun j hj => ?_) (by rw [← hF]; exact hS)).out a (known_PEnv h2)
    obtain ⟨⟨i', Φ⟩, hm, rfl⟩ := List.mem_map.1 hj
    rw [assocR_mem hnd hm]
    exact h3 i' Φ hm rfl
  · rw [(hidx i hi).2] at h1; cases h1
  · rw [List.filter_eq_self.2 (fun i hi => by rw [(hidx i hi).2]; rfl), List.length_map]
  · have hmi := (hidx _ (hC1 q hq).1.1).2
    replace hp : l0.getD q.1 false = true := hp
    rw [hmi] at hp; cases hp
  · have hmi := (hidx i (List.mem_map.2 ⟨_, hi, rfl⟩)).2
    replace hp : l0.getD i false = true := hp
    rw [hmi] at hp; cases hp
  · have hl0 : live (V.map (·.1)) C (fun i => l0.getD i false) = [] := by
      unfold live
      exact List.filter_eq_nil_iff.2 fun j hj => by simp only [(hidx j hj).2, Bool.false_and]; decide
    rw [hl0]
    exact hS0
end
end Go.Proofs.YtcmmhfknkldmcaaDoor

namespace Go.Proofs.YtcmmhfknkldmcaaDoor
open Go.RowKit

section
variable {w0 ws w w' : World} {ro : Nat → Prop} {L : List (Nat × Obj)} {Rs : List Row}
/-- What a call hands back: rows of its own, apart from each other. -/
abbrev Made (w w' : World) (Rs : List Row) : Prop := St w w w' (fun _ => False) [] Rs
theorem St.made (h : St w0 ws w ro L Rs) : Made w0 w Rs := ⟨h.below, fun _ hf => hf.elim, by simp, h.rows, fun x hx => ⟨(h.keys x (by simp only [keysOf, List.mem_append, List.map_nil, List.not_mem_nil, false_or] at hx ⊢; exact .inr hx)).1, (h.keys x (by simp only [keysOf, List.mem_append, List.map_nil, List.not_mem_nil, false_or] at hx ⊢; exact .inr hx)).2.1, fun hf => hf⟩, by have := h.nodup; simp only [keysOf, List.map_nil, List.nil_append] at this ⊢; exact (List.nodup_append.1 this).2.1⟩
theorem St.callRows {Rs' : List Row} (h : St w0 ws w ro L Rs) (hN : Made w w' Rs') : St w0 ws w' ro L (Rs' ++ Rs) := by
  have g := h.grow hN.below
  have hk : ∀ x, x ∈ keysOf L (Rs' ++ Rs) → x ∈ keysOf [] Rs' ∨ x ∈ keysOf L Rs := fun x hx => by
    simp only [keysOf, List.mem_append, List.filterMap_append, List.map_nil, List.not_mem_nil, false_or] at hx ⊢
    rcases hx with h | h | h
    · exact .inr (.inl h)
    · exact .inl h
    · exact .inr (.inr h)
  refine ⟨g.below, g.snap, g.own, ?_, ?_, ?_⟩
  · intro r hr
    rcases List.mem_append.1 hr with hr | hr
    · exact ownsRow_base (hN.rows r hr) h.below.size
    · exact g.rows r hr
  · intro x hx
    rcases hk x hx with hx | hx
    · obtain ⟨h1, h2, _⟩ := hN.keys x hx
      exact ⟨Nat.le_trans h.below.size h1, h2, fun hr => absurd (h.snap x hr).1 (by omega)⟩
    · exact g.keys x hx
  · have hp : List.Perm (keysOf L (Rs' ++ Rs)) (keysOf [] Rs' ++ keysOf L Rs) := by
      simp only [keysOf, List.filterMap_append, List.map_nil, List.nil_append]
      exact (List.perm_append_comm_assoc _ _ _)
    refine hp.nodup_iff.2 (List.nodup_append.2 ⟨hN.nodup, h.nodup, fun a ha b hb e => ?_⟩)
    subst e
    have h1 := (hN.keys a ha).1
    have h2 := (h.keys a hb).2.1
    omega
theorem Made.up {B : World} {Rs' : List Row} (hb : Below B.heap.size B w) (hN : Made w w' Rs') : Made B w' Rs' :=
  ⟨hb.trans (hN.below.mono hb.size), fun _ hf => hf.elim, by simp, fun r hr => ownsRow_base (hN.rows r hr) hb.size, fun x hx => ⟨Nat.le_trans hb.size (hN.keys x hx).1, (hN.keys x hx).2.1, fun hf => hf⟩, hN.nodup⟩
end
end Go.Proofs.YtcmmhfknkldmcaaDoor
