/-
  A region that draws its order: a set of operations, each of one value in the world at hand, comes in any order. No condition beyond those that each theorem states.
-/
import Derived.Test.YtcmmhfknkldmcaaA25
namespace Go.Proofs.Ytcmmhfknkldmcaa
open Go.RowKit

def setAll (l0 : Array Bool) (idx : List Nat) : Array Bool := ((List.range l0.size).map fun i => l0.getD i false || idx.contains i).toArray
theorem setAll_size (l0 : Array Bool) (idx : List Nat) : (setAll l0 idx).size = l0.size := by simp [setAll]
theorem setAll_getD (l0 : Array Bool) (idx : List Nat) (i : Nat) (h : i < l0.size) : (setAll l0 idx).getD i false = (l0.getD i false || idx.contains i) := by
  rw [Array.getD_eq_getD_getElem?]
  simp [setAll, h]
/-- What may come next is of the set until all of it has come. -/
def setB (ops : Array Oper) (l0 : Array Bool) (idx : List Nat) : Bool :=
  Nat.beq l0.size ops.size && decide idx.Nodup && (idx.all fun i => Nat.blt i ops.size && !(l0.getD i false)) &&
  (List.range ops.size).all fun j => match ops[j]? with
    | none => true
    | some o =>
      if l0.getD j false then o.after.toList.all fun e => !Region.binds .any e || l0.getD e.on false
      else if idx.contains j then o.after.toList.all fun e => !Region.binds .any e || l0.getD e.on false || (idx.contains e.on && Nat.blt (idx.idxOf e.on) (idx.idxOf j))
      else idx.all fun i => (clo ops 8 (depsOf ops j)).contains i
section
variable {P : Program} {ops : Array Oper} {Q : Exit → Act → World → Prop}
theorem setB_at {l0 : Array Bool} {idx : List Nat} (h : setB ops l0 idx = true) : l0.size = ops.size ∧ idx.Nodup ∧ (∀ i ∈ idx, i < ops.size ∧ l0.getD i false = false) ∧ ∀ j o, ops[j]? = some o →
    (l0.getD j false = true → ∀ e ∈ o.after, Region.binds .any e = true → l0.getD e.on false = true) ∧
    (l0.getD j false = false → j ∈ idx → ∀ e ∈ o.after, Region.binds .any e = true → l0.getD e.on false = true ∨ (e.on ∈ idx ∧ idx.idxOf e.on < idx.idxOf j)) ∧
    (l0.getD j false = false → j ∉ idx → ∀ i ∈ idx, i ∈ clo ops 8 (depsOf ops j)) := by
  unfold setB at h
  simp only [Bool.and_eq_true, List.all_eq_true, decide_eq_true_eq, Nat.blt_eq, Bool.not_eq_true', List.mem_range] at h
  obtain ⟨⟨⟨h1, h2⟩, h3⟩, h4⟩ := h
  refine ⟨Nat.eq_of_beq_eq_true h1, h2, h3, fun j o ho => ?_⟩
  have h5 := h4 j (Array.getElem?_eq_some_iff.1 ho).1
  rw [ho] at h5
  simp only at h5
  refine ⟨fun hj e he hb => ?_, fun hj hm e he hb => ?_, fun hj hm i hi => ?_⟩
  · rw [if_pos hj] at h5
    have h6 := List.all_eq_true.1 h5 e (by simpa using he)
    simpa [hb] using h6
  · rw [if_neg (by rw [hj]; decide), if_pos (by simpa using hm)] at h5
    have h6 := List.all_eq_true.1 h5 e (by simpa using he)
    simp only [hb, Bool.not_true, Bool.false_or, Bool.or_eq_true, Bool.and_eq_true, Nat.blt_eq, List.contains_iff_mem] at h6
    exact h6
  · rw [if_neg (by rw [hj]; decide), if_neg (by simpa using hm)] at h5
    simpa using List.all_eq_true.1 h5 i hi
theorem wpAnyH_set {S : World → Prop} {l0 : Array Bool} {idx : List Nat} (hB : setB ops l0 idx = true) (J : (Nat → Bool) → Act → World → Prop)
    (hJS : ∀ p a w, J p a w → S w) (hcong : ∀ p p' a w, (∀ i, i ∈ idx → p i = p' i) → J p a w → J p' a w)
    (step : ∀ p a w i o, J p a w → i ∈ idx → ops[i]? = some o → p i = false → (∀ e ∈ o.after, Region.binds .any e = true → e.on ∈ idx → p e.on = true) →
      wpOp P ops Q i (fun a' w' => J (fun j => bif Nat.beq j i then true else p j) a' w') a w) {fuel : Nat}
    (fin : ∀ a w, J (fun _ => true) a w → wpAnyH P .any ops Q S fuel (setAll l0 idx) a w) :
    ∀ (k : Nat) (listed : Array Bool) (a : Act) (w : World), listed.size = ops.size → (∀ t, t ∉ idx → listed.getD t false = l0.getD t false) → (∀ i ∈ idx, ∀ o, ops[i]? = some o → listed.getD i false = true → ∀ e ∈ o.after, Region.binds .any e = true → listed.getD e.on false = true) → (idx.filter fun i => !listed.getD i false).length = k →
      J (fun i => listed.getD i false) a w → wpAnyH P .any ops Q S (k + fuel) listed a w := by
  obtain ⟨hs0, hnd, hidx, hdep⟩ := setB_at hB
  intro k
  induction k with
  | zero =>
    intro listed a w hs hout hcl hk hJ
    have hall : ∀ i ∈ idx, listed.getD i false = true := fun i hi => by
      cases hc : listed.getD i false with
      | true => rfl
      | false =>
        have hm : i ∈ idx.filter fun i => !listed.getD i false := List.mem_filter.2 ⟨hi, by simp [hc]⟩
        have := List.length_pos_of_mem hm
        omega
    have e : listed = setAll l0 idx := by
      apply Array.ext_getElem?
      intro i
      by_cases hi : i < ops.size
      · have key : ∀ (l : Array Bool), l.size = ops.size → l[i]? = some (l.getD i false) := fun l hl => by
          rw [Array.getD_eq_getD_getElem?, Array.getElem?_eq_getElem (by omega)]; rfl
        rw [key listed hs, key _ (by rw [setAll_size]; exact hs0), setAll_getD _ _ _ (by omega)]
        by_cases hm : i ∈ idx
        · rw [hall i hm]; simp [hm]
        · rw [hout i hm]; simp [hm]
      · rw [Array.getElem?_eq_none (by omega), Array.getElem?_eq_none (by rw [setAll_size]; omega)]
    rw [Nat.zero_add, e]
    exact fin a w (hcong _ _ a w (fun i hi => hall i hi) hJ)
  | succ k ih =>
    intro listed a w hs hout hcl hk hJ
    have hex : ∃ i ∈ idx, listed.getD i false = false := by
      obtain ⟨i, hi⟩ := List.exists_mem_of_length_pos (l := idx.filter fun i => !listed.getD i false) (by omega)
      obtain ⟨h1, h2⟩ := List.mem_filter.1 hi
      exact ⟨i, h1, by simpa using h2⟩
    have hclosed : ∀ j oj, ops[j]? = some oj → listed.getD j false = true → ∀ e ∈ oj.after, Region.binds .any e = true → listed.getD e.on false = true := by
      intro j oj hoj hlj e he hb
      by_cases hm : j ∈ idx
      · exact hcl j hm oj hoj hlj e he hb
      · rw [hout j hm] at hlj
        have h1 := (hdep j oj hoj).1 hlj e he hb
        by_cases hm2 : e.on ∈ idx
        · rw [(hidx e.on hm2).2] at h1; cases h1
        · rw [hout _ hm2]; exact h1
    have hready : ∀ i ∈ Region.ready .any ops listed, i ∈ idx ∧ listed.getD i false = false ∧ ∃ o, ops[i]? = some o ∧ ∀ e ∈ o.after, Region.binds .any e = true → listed.getD e.on false = true := by
      intro i hi
      obtain ⟨h0, o, ho, hde⟩ := mem_ready.1 hi
      refine ⟨?_, getD_both h0, o, ho, hde⟩
      apply Classical.byContradiction
      intro hm
      obtain ⟨j, hj, hjf⟩ := hex
      have h1 := (hdep i o ho).2.2 (by rw [← hout i hm]; exact getD_both h0) hm j hj
      have h2 := clo_listed (listed := fun t => listed.getD t false) hclosed 8 (depsOf ops i) (fun t ht => by
        unfold depsOf at ht
        rw [ho] at ht
        obtain ⟨e, he, rfl⟩ := List.mem_map.1 ht
        obtain ⟨h3, h4⟩ := List.mem_filter.1 he
        exact hde e (by simpa using h3) h4) j h1
      rw [show listed.getD j false = true from h2] at hjf
      cases hjf
    rw [show k + 1 + fuel = (k + fuel) + 1 by omega]
    constructor
    · intro hnil
      obtain ⟨q, hq, hmin⟩ := Go.exists_least (p := fun q => ∃ i ∈ idx, listed.getD i false = false ∧ idx.idxOf i = q) (by obtain ⟨i, h1, h2⟩ := hex; exact ⟨_, i, h1, h2, rfl⟩)
      obtain ⟨i, hi, hif, hiq⟩ := hq
      have hlt := (hidx i hi).1
      have : i ∈ Region.ready .any ops listed := by
        rw [mem_ready]
        refine ⟨getD_in (by omega) hif, ops[i], Array.getElem?_eq_getElem hlt, fun e he hb => ?_⟩
        rcases (hdep i _ (Array.getElem?_eq_getElem hlt)).2.1 (hidx i hi).2 hi e he hb with h1 | ⟨h1, h2⟩
        · by_cases hm2 : e.on ∈ idx
          · rw [(hidx e.on hm2).2] at h1; cases h1
          · rw [hout _ hm2]; exact h1
        · cases hc : listed.getD e.on false with
          | true => rfl
          | false => have := hmin (idx.idxOf e.on) ⟨e.on, h1, hc, rfl⟩; omega
      rw [hnil] at this
      cases this
    · intro i hi
      obtain ⟨him, hif, o, ho, hde⟩ := hready i hi
      refine wpOp_mono (fun a' w' hJ' => ⟨hJS _ _ _ hJ', ih (listed.setIfInBounds i true) a' w' (by simp [hs]) (fun t ht => ?_) (fun j hj oj hoj hlj e he hb => ?_) ?_ ?_⟩) (step _ a w i o hJ him ho hif (fun e he hb _ => hde e he hb))
      · rw [getD_set_ne false (by intro e; subst e; exact ht him)]; exact hout t ht
      · by_cases hij : i = j
        · subst hij
          have e' : oj = o := Option.some.inj (hoj.symm.trans ho)
          subst e'
          exact getD_set_true (hde e he hb)
        · rw [getD_set_ne false hij] at hlj
          exact getD_set_true (hcl j hj oj hoj hlj e he hb)
      · have hc : ∀ (l : List Nat), l.Nodup → i ∈ l → (l.filter fun j => !listed.getD j false).length = (l.filter fun j => !(listed.setIfInBounds i true).getD j false).length + 1 := by
          intro l
          induction l with
          | nil => intro _ h; cases h
          | cons m l ihl =>
            intro hnd hm
            obtain ⟨hn1, hn2⟩ := List.nodup_cons.1 hnd
            by_cases him : i = m
            · subst him
              have h1 : (l.filter fun j => !listed.getD j false) = l.filter fun j => !(listed.setIfInBounds i true).getD j false := by
                apply List.filter_congr
                intro j hj
                rw [getD_set_ne false (fun e => hn1 (by rw [e]; exact hj))]
              have hlt := (hidx i ‹_›).1
              have h2 : (listed.setIfInBounds i true).getD i false = true := by
                have : i < listed.size := by omega
                simp [Array.getD, this]
              simp only [List.filter_cons, hif, h2, Bool.not_false, Bool.not_true, if_true, Bool.false_eq_true, if_false, List.length_cons, h1]
            · have h3 : (listed.setIfInBounds i true).getD m false = listed.getD m false := getD_set_ne false him
              have h4 := ihl hn2 ((List.mem_cons.1 hm).resolve_left him)
              simp only [List.filter_cons, h3]
              split <;> simp only [List.length_cons, h4]
        have := hc idx hnd him
        omega
      · refine hcong _ _ a' w' (fun j hj => ?_) hJ'
        have hlt := (hidx j hj).1
        by_cases e : j = i
        · subst e
          have : j < listed.size := by omega
          simp [Array.getD, this]
        · rw [beqF e, getD_set_ne false (fun e2 => e e2.symm)]; rfl
end
/-- The slots that the set writes are apart, and the slots of 'σ' are none of them. -/
def dstsI (ops : Array Oper) (idx : List Nat) (n : Nat) (σ : Env) : Bool :=
  idx.all fun i => match (ops[i]?).bind (·.dst) with
    | none => false
    | some d => Nat.blt d n && σ.all (fun p => !(Nat.beq p.1 d)) && idx.all fun j => Nat.beq i j || (match (ops[j]?).bind (·.dst) with | some d' => !(Nat.beq d' d) | none => true)
theorem dstsI_spec {ops : Array Oper} {idx : List Nat} {n : Nat} {σ : Env} (hds : dstsI ops idx n σ = true) {i : Nat} (hi : i ∈ idx) :
    ∃ d, (ops[i]?).bind (·.dst) = some d ∧ d < n ∧ (∀ p ∈ σ, p.1 ≠ d) ∧ ∀ j d', j ∈ idx → j ≠ i → (ops[j]?).bind (·.dst) = some d' → d' ≠ d := by
  have h1 := List.all_eq_true.1 hds i hi
  cases hd : (ops[i]?).bind (·.dst) with
  | none => rw [hd] at h1; cases h1
  | some d =>
    rw [hd] at h1
    simp only [Bool.and_eq_true, Nat.blt_eq, List.all_eq_true, Bool.or_eq_true, Bool.not_eq_true'] at h1
    obtain ⟨⟨h2, h3⟩, h4⟩ := h1
    refine ⟨d, rfl, h2, fun p hp e => ?_, fun j d' hj hne hd' e => ?_⟩
    · have h5 := h3 p hp
      rw [e, Nat.beq_refl] at h5
      cases h5
    · rcases h4 j hj with h5 | h5
      · exact hne (Nat.eq_of_beq_eq_true h5).symm
      · rw [hd'] at h5
        subst e
        simp only [Nat.beq_refl] at h5
        cases h5
def assoc (V : List (Nat × Value)) (i : Nat) : Value := (V.find? fun p => Nat.beq p.1 i).elim undef (·.2)
section
variable {P : Program} {n : Nat} {ops : Array Oper} {R : Exit → Act → World → Prop} {k : Kt} {σ : Env} {w : World} {Q : Exit → Act → World → Prop} {S : World → Prop} {fuel : Nat} {listed : Array Bool}
/-- Each of the set: one value in this world, which stays as it is; its guard (if it has one) is known. -/
def AllI (P : Program) (n : Nat) (ops : Array Oper) (V0 : List (Nat × Value)) (σ : Env) (w : World) : List (Nat × Value) → Prop
  | [] => True
  | (i, v) :: V => (∃ o, ops[i]? = some o ∧ WL P n NoR ops [o] (.cut (CI n (fun _ : Unit => putS o.dst v []) (fun _ w' => w' = w)) .fin) (PEnv (assoc V0) ops ((depsOf ops i).filter fun j => V0.any fun p => Nat.beq p.1 j) ++ σ) w) ∧ AllI P n ops V0 σ w V
theorem AllI.at {V0 : List (Nat × Value)} : ∀ (V : List (Nat × Value)), AllI P n ops V0 σ w V → ∀ i v o, (i, v) ∈ V → ops[i]? = some o →
    WL P n NoR ops [o] (.cut (CI n (fun _ : Unit => putS o.dst v []) (fun _ w' => w' = w)) .fin) (PEnv (assoc V0) ops ((depsOf ops i).filter fun j => V0.any fun p => Nat.beq p.1 j) ++ σ) w
  | [], _, _, _, _, h, _ => by cases h
  | (j, u) :: V, h, i, v, o, hm, ho => by
    rcases List.mem_cons.1 hm with e | hm
    · cases e
      obtain ⟨o', ho', hw⟩ := h.1
      rw [ho'] at ho
      cases ho
      exact hw
    · exact AllI.at V h.2 i v o hm ho
theorem assoc_mem {V : List (Nat × Value)} (hnd : (V.map (·.1)).Nodup) {i : Nat} {v : Value} (h : (i, v) ∈ V) : assoc V i = v := by
  induction V with
  | nil => cases h
  | cons p V ih =>
    obtain ⟨j, u⟩ := p
    obtain ⟨h1, h2⟩ := List.nodup_cons.1 hnd
    unfold assoc
    rcases List.mem_cons.1 h with e | h
    · cases e; simp
    · have hne : ¬ j = i := fun e => h1 (by subst e; exact List.mem_map.2 ⟨_, h, rfl⟩)
      simp only [List.find?_cons, beqF hne]
      exact ih h2 h
theorem known_PEnvA {V : List (Nat × Value)} {a : Act} {is : List Nat} (hk : Known n a σ) (h : ∀ i ∈ is, ∀ d, (ops[i]?).bind (·.dst) = some d → a.tmps.getD d undef = assoc V i) : Known n a (PEnv (assoc V) ops is ++ σ) := by
  refine ⟨hk.size, hk.defers, fun t v hv => ?_⟩
  rcases look_append _ _ t v hv with h2 | h2
  · obtain ⟨i, hi, hd, e⟩ := look_PEnv (assoc V) ops is t v h2
    rw [e]
    exact h i hi t hd
  · exact hk.at_ t v h2
theorem quietI_run {o : Oper} {Q : Exit → Act → World → Prop} {i d : Nat} {v : Value} (hi : ops[i]? = some o) (hdst : o.dst = some d) (hlt : d < n)
    (h : WL P n NoR ops [o] (.cut (CI n (fun _ : Unit => putS o.dst v []) (fun _ w' => w' = w)) .fin) σ w) {a : Act} (hk : Known n a σ) {K : Act → World → Prop} (hK : K (a.put o.dst v) w) : wpOp P ops Q i K a w := by
  have h1 := h.out a hk
  have dstEq : ∀ u w', (Kt.cut (CI n (fun _ : Unit => putS o.dst v []) (fun _ w' => w' = w)) .fin).post P NoR .normal (a.put o.dst u) w' → w' = w ∧ u = v := by
    rintro u w' ⟨_, hk', rfl⟩
    refine ⟨rfl, ?_⟩
    have := hk'.at_ d v (by rw [hdst]; simp [putS, look])
    have hlt' : d < a.tmps.size := by rw [hk.size]; exact hlt
    rw [hdst] at this
    simpa [Act.put, Array.getD, hlt'] using this
  unfold wpList at h1
  unfold wpOp
  simp only [hi]
  by_cases hw' : Region.wanted o (yielded ops a.tmps) = true
  · rw [if_pos hw'] at h1 ⊢
    rcases h1 with h1 | ⟨_, a', w', h2⟩
    · left
      unfold Oper.wp at *
      generalize (execOp a.eval o).run P w = r at *
      cases r with
      | ok nx w1 =>
        cases nx <;> simp only [Oper.upon] at h1 ⊢ <;> try (exact h1.elim)
        case value u => obtain ⟨e1, e2⟩ := dstEq u w1 h1; subst e1; subst e2; exact hK
        case skip => obtain ⟨e1, e2⟩ := dstEq undef w1 h1; subst e1; rw [e2]; exact hK
        case enter f args =>
          refine Calls.mono h1 fun e w2 h3 => ?_
          cases e with
          | returned u => obtain ⟨e1, e2⟩ := dstEq u w2 h3; subst e1; subst e2; exact hK
          | panicked c => exact h3.elim
          | outgrown => obtain ⟨a', w', h4⟩ := h3; exact h4.elim
        case row r args =>
          refine Rows.mono h1 fun u w2 h3 => ?_
          obtain ⟨e1, e2⟩ := dstEq u w2 h3; subst e1; subst e2; exact hK
        case defer dd =>
          obtain ⟨_, hk', _⟩ := h1
          have h5 := hk'.defers
          have h6 : ∀ dst : Option Nat, ({ tmps := a.tmps, defers := dd :: a.defers } : Act).put dst undef = { tmps := (({ tmps := a.tmps, defers := dd :: a.defers } : Act).put dst undef).tmps, defers := dd :: a.defers } := fun dst => by cases dst <;> rfl
          rw [h6] at h5
          cases h5
      | halt x w1 =>
        cases x <;> simp only [Oper.upon] at h1 ⊢ <;> exact h1.elim
    · exact h2.elim
  · rw [if_neg hw'] at h1 ⊢
    obtain ⟨_, e2⟩ := dstEq undef w h1
    rw [e2]; exact hK
/-- A set of operations, each of one value in the world at hand, in any order. -/
theorem WA.quiet (V : List (Nat × Value)) {l0 : Array Bool} (hB : setB ops l0 (V.map (·.1)) = true) (σ : Env) {σ0 : Env} (hsub : Sub σ σ0) (hds : dstsI ops (V.map (·.1)) n σ = true) (hq : AllI P n ops V σ w V)
    (hS : S w) (h : WA P n ops Q S fuel (setAll l0 (V.map (·.1))) (PEnv (assoc V) ops (V.map (·.1)) ++ σ) w) : WA P n ops Q S (V.length + fuel) l0 σ0 w := by
  obtain ⟨hs0, hnd, hidx, _⟩ := setB_at hB
  refine ⟨fun a hk0 => ?_⟩
  have hk := hk0.sub hsub
  refine wpAnyH_set (l0 := l0) (idx := V.map (·.1)) hB (fun p a u => u = w ∧ Known n a σ ∧ ∀ i v, (i, v) ∈ V → p i = true → valAt ops a i = v) ?_ ?_ ?_ ?_ V.length l0 a w hs0 (fun _ _ => rfl) (fun i hi _ _ h1 => ?_) ?_ ⟨rfl, hk, fun i v hi hp => ?_⟩
  · rintro _ _ _ ⟨rfl, _⟩; exact hS
  · rintro p p' a u hpp ⟨h1, h2, h3⟩
    exact ⟨h1, h2, fun i v hi hp => h3 i v hi (by rw [hpp i (List.mem_map.2 ⟨_, hi, rfl⟩)]; exact hp)⟩
  · rintro p a u i o ⟨rfl, h2, h3⟩ hi ho hpi hdep
    obtain ⟨⟨i', v⟩, hm, rfl⟩ := List.mem_map.1 hi
    obtain ⟨d, hd, hdn, hdσ, hdj⟩ := dstsI_spec hds hi
    have hod : o.dst = some d := by rw [ho] at hd; exact hd
    have hw := AllI.at V hq i' v o hm ho
    refine quietI_run ho hod hdn hw (known_PEnvA h2 fun j hj d' hd' => ?_) ⟨rfl, known_put h2 fun d' e => ?_, fun j u' hj hp => ?_⟩
    · obtain ⟨hj1, hj2⟩ := List.mem_filter.1 hj
      obtain ⟨⟨j', u'⟩, hju, hje⟩ := List.any_eq_true.1 hj2
      have hje : j' = j := Nat.eq_of_beq_eq_true hje
      subst hje
      simp only [depsOf, ho] at hj1
      obtain ⟨e, he, hee⟩ := List.mem_map.1 hj1
      obtain ⟨he1, he2⟩ := List.mem_filter.1 he
      have h4 := h3 j' u' hju (by rw [← hee]; exact hdep e (by simpa using he1) he2 (by rw [hee]; exact List.mem_map.2 ⟨_, hju, rfl⟩))
      rw [valAt, hd'] at h4
      rw [assoc_mem hnd hju]
      exact h4
    · rw [hod] at e; cases e; exact hdσ
    · by_cases e : j = i'
      · subst e
        have e2 : u' = v := by rw [← assoc_mem hnd hj, ← assoc_mem hnd hm]
        rw [valAt, hd, hod, e2]
        exact put_same (by rw [h2.size]; exact hdn)
      · simp only [beqF e, cond_false] at hp
        rw [← h3 j u' hj hp]
        unfold valAt
        cases hdj' : (ops[j]?).bind (·.dst) with
        | none => rfl
        | some dj =>
          simp only
          rw [hod]
          exact put_other fun e2 => hdj j dj (List.mem_map.2 ⟨_, hj, rfl⟩) e hdj' e2.symm
  · rintro a u ⟨rfl, h2, h3⟩
    refine h.out a (known_PEnvA h2 fun i hi d hd => ?_)
    obtain ⟨⟨i', v⟩, hm, rfl⟩ := List.mem_map.1 hi
    have h4 := h3 i' v hm rfl
    rw [valAt, hd] at h4
    rw [assoc_mem hnd hm]; exact h4
  · rw [(hidx i hi).2] at h1; cases h1
  · rw [List.filter_eq_self.2 (fun i hi => by rw [(hidx i hi).2]; rfl), List.length_map]
  · have hmi := (hidx i (List.mem_map.2 ⟨_, hi, rfl⟩)).2
    replace hp : l0.getD i false = true := hp
    rw [hmi] at hp; cases hp
end
section
variable {P : Program} {n : Nat} {ops : Array Oper} {σ : Env} {w : World} {Q : Exit → Act → World → Prop} {S : World → Prop} {fuel : Nat} {listed : Array Bool}
/-- One operation, the only one that may come next. -/
theorem WA.stepS (i : Nat) {o : Oper} (hr : Region.ready .any ops listed = [i]) (hi : ops[i]? = some o) (h : WL P n NoR ops [o] (.cut (fun a w => S w ∧ wpAnyH P .any ops Q S fuel (listed.setIfInBounds i true) a w) .fin) σ w) : WA P n ops Q S (fuel + 1) listed σ w :=
  ⟨fun a ha => wpAnyH_all hr (by simp) fun j hj => by
    obtain rfl : j = i := by simpa using hj
    have h1 := h.out a ha
    unfold wpList at h1
    unfold wpOp
    simp only [hi]
    by_cases hw : Region.wanted o (yielded ops a.tmps) = true
    · rw [if_pos hw] at h1 ⊢
      rcases h1 with h1 | ⟨_, a', w', h2⟩
      · left
        unfold Oper.wp at *
        generalize (execOp a.eval o).run P w = r at *
        cases r with
        | ok nx w1 =>
          cases nx <;> simp only [Oper.upon] at h1 ⊢ <;> try (exact h1.elim)
          case value u => exact h1
          case skip => exact h1
          case enter f args =>
            refine Calls.mono h1 fun e w2 h3 => ?_
            cases e with
            | returned u => exact h3
            | panicked c => exact h3.elim
            | outgrown => obtain ⟨a', w', h4⟩ := h3; exact h4.elim
          case row r args => exact Rows.mono h1 fun u w2 h3 => h3
          case defer dd => exact h1
        | halt x w1 => cases x <;> simp only [Oper.upon] at h1 ⊢ <;> exact h1.elim
      · exact h2.elim
    · rw [if_neg hw] at h1 ⊢
      exact h1⟩
theorem N.restS (hs : S w) (h : WA P n ops Q S fuel listed σ w) : N P n NoR (.cut (fun a w => S w ∧ wpAnyH P .any ops Q S fuel listed a w) .fin) σ w := ⟨fun a ha => ⟨hs, h.out a ha⟩⟩
end
/-- A walk of a whole call ends in no panic. -/
theorem fin_no_panic {P : Program} {fn : Func} {R : Value → World → Prop} (k : Kt) : ∀ c a w, ¬ k.post P (Fin P fn R) (.panic c) a w := by
  intro c a w
  induction k with
  | fin => rintro ⟨_, _, h, _⟩; cases h
  | seq y k ih => exact ih
  | blk id k ih => exact ih
  | scope k ih => exact ih
  | cut C k ih => exact ih
  | loop J m k ih => exact ih
end Go.Proofs.Ytcmmhfknkldmcaa
