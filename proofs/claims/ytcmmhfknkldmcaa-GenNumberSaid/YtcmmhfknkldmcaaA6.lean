/-
  A statement whose order Go leaves open, in the walks of these claims: what comes first in whatever order only reads, calls what hands back one value, or makes variables; what must come last comes in the order of the text. No condition beyond those that each theorem states.
-/
import Derived.Test.YtcmmhfknkldmcaaA5
import Derived.Orders
import Derived.StillTail
namespace Go.Proofs.Ytcmmhfknkldmcaa
open Go.RowKit

/-- Each operation of the head waits only for earlier ones; each of the tail waits for all of the head. -/
def depsOf (ops : Array Oper) (i : Nat) : List Nat := match ops[i]? with
  | some o => (o.after.toList.filter fun e => Region.binds .any e).map (·.on)
  | none => []
/-- What is waited for, by way of others as well. -/
def clo (ops : Array Oper) : Nat → List Nat → List Nat
  | 0, S => S
  | f + 1, S => clo ops f ((List.range ops.size).filter fun j => S.contains j || S.any fun i => (depsOf ops i).contains j)
def headB (ops : Array Oper) (h : Nat) : Bool :=
  ops.toList.zipIdx.all fun (o, i) =>
    if Nat.blt i h then o.after.toList.all fun e => !Region.binds .any e || Nat.blt e.on i
    else (List.range h).all fun j => (clo ops 3 (depsOf ops i)).contains j
def doneTo (m h : Nat) : Array Bool := ((List.range m).map fun i => Nat.blt i h).toArray
def drawB (ops : Array Oper) (h : Nat) : Bool := Nat.ble h ops.size && headB ops h && Region.seqB .any ops (ops.size - h) h (doneTo ops.size h)

section
variable {P : Program} {ops : Array Oper} {Q : Exit → Act → World → Prop}
theorem headB_head {h i : Nat} {o : Oper} (hb : headB ops h = true) (ho : ops[i]? = some o) (hi : i < h) : ∀ e ∈ o.after, Region.binds .any e = true → e.on < i := by
  intro e he hbi
  have hm : (o, i) ∈ ops.toList.zipIdx := by rw [List.mem_zipIdx_iff_getElem?]; simpa using ho
  have h1 := List.all_eq_true.1 hb _ hm
  simp only [show Nat.blt i h = true by simpa [Nat.blt_eq] using hi, if_true] at h1
  have h2 := List.all_eq_true.1 h1 e (by simpa using he)
  simpa [hbi, Nat.blt_eq] using h2
theorem clo_listed {listed : Nat → Bool} (closed : ∀ j oj, ops[j]? = some oj → listed j = true → ∀ e ∈ oj.after, Region.binds .any e = true → listed e.on = true) : ∀ (f : Nat) (S : List Nat), (∀ j ∈ S, listed j = true) → ∀ j ∈ clo ops f S, listed j = true
  | 0, _, h => h
  | f + 1, S, h => clo_listed closed f _ fun j hj => by
    obtain ⟨_, h2⟩ := List.mem_filter.1 hj
    simp only [Bool.or_eq_true, List.contains_iff_mem, List.any_eq_true] at h2
    rcases h2 with h2 | ⟨i, hi, h3⟩
    · exact h j h2
    · unfold depsOf at h3
      cases ho : ops[i]? with
      | none => rw [ho] at h3; simp at h3
      | some o =>
        rw [ho] at h3
        obtain ⟨e, he, rfl⟩ := List.mem_map.1 h3
        obtain ⟨h4, h5⟩ := List.mem_filter.1 he
        exact closed i o ho (h i hi) e (by simpa using h4) h5
theorem headB_tail {h t : Nat} {o : Oper} (hb : headB ops h = true) (ho : ops[t]? = some o) (ht : h ≤ t) {listed : Nat → Bool}
    (closed : ∀ j oj, ops[j]? = some oj → listed j = true → ∀ e ∈ oj.after, Region.binds .any e = true → listed e.on = true) (hd : ∀ e ∈ o.after, Region.binds .any e = true → listed e.on = true) : ∀ j, j < h → listed j = true := by
  intro j hj
  have hm : (o, t) ∈ ops.toList.zipIdx := by rw [List.mem_zipIdx_iff_getElem?]; simpa using ho
  have h1 := List.all_eq_true.1 hb _ hm
  have hnb : Nat.blt t h = false := by
    cases hc : Nat.blt t h with
    | false => rfl
    | true => have : t < h := by simpa [Nat.blt_eq] using hc
              omega
  simp only [hnb, Bool.false_eq_true, if_false] at h1
  have h2 := List.all_eq_true.1 h1 j (List.mem_range.2 hj)
  refine clo_listed closed 3 _ (fun i hi => ?_) j (by simpa [List.contains_iff_mem] using h2)
  unfold depsOf at hi
  rw [ho] at hi
  obtain ⟨e, he, rfl⟩ := List.mem_map.1 hi
  obtain ⟨h4, h5⟩ := List.mem_filter.1 he
  exact hd e (by simpa using h4) h5
/-- From a relation on what has come up to every order. -/
theorem wpAny_inv {l : List Oper} {h : Nat} (hops : ops = l.toArray) (hB : drawB ops h = true) (J : (Nat → Bool) → Act → World → Prop)
    (hcong : ∀ p p' a w, (∀ i, i < h → p i = p' i) → J p a w → J p' a w)
    (step : ∀ p a w i o, J p a w → i < h → ops[i]? = some o → p i = false → (∀ e ∈ o.after, Region.binds .any e = true → p e.on = true) →
      wpOp P ops Q i (fun a' w' => J (fun j => bif Nat.beq j i then true else p j) a' w') a w)
    (fin : ∀ a w, J (fun _ => true) a w → wpList P ops Q (l.drop h) a w) :
    ∀ (fuel : Nat) (listed : Array Bool) (a : Act) (w : World), listed.size = ops.size → (∀ j oj, ops[j]? = some oj → listed.getD j false = true → ∀ e ∈ oj.after, Region.binds .any e = true → listed.getD e.on false = true) → (∀ t, h ≤ t → listed.getD t false = false) → ((List.range h).filter fun i => !listed.getD i false).length + (ops.size - h) = fuel →
      J (fun i => listed.getD i false) a w → wpAny P .any ops Q fuel listed a w := by
  simp only [drawB, Bool.and_eq_true, Nat.ble_eq] at hB
  obtain ⟨⟨hle, hhead⟩, hseq⟩ := hB
  have allDone : ∀ (listed : Array Bool) (a : Act) (w : World), listed.size = ops.size → (∀ t, h ≤ t → listed.getD t false = false) → (∀ i, i < h → listed.getD i false = true) →
      J (fun i => listed.getD i false) a w → wpAny P .any ops Q (ops.size - h) listed a w := by
    intro listed a w hs ht hall hJ
    have hl : listed = doneTo ops.size h := by
      apply Array.ext_getElem?
      intro i
      have key : listed[i]? = if i < ops.size then some (listed.getD i false) else none := by
        by_cases hi : i < ops.size
        · rw [if_pos hi, Array.getD_eq_getD_getElem?, Array.getElem?_eq_getElem (by omega)]; rfl
        · rw [if_neg hi, Array.getElem?_eq_none (by omega)]
      rw [key]
      by_cases hi : i < ops.size
      · rw [if_pos hi]
        simp only [doneTo, List.getElem?_toArray, List.getElem?_map, List.getElem?_range hi, Option.map_some]
        congr 1
        by_cases hh : i < h
        · rw [hall i hh]; symm; simpa [Nat.blt_eq] using hh
        · rw [ht i (by omega)]
          cases hc : Nat.blt i h with
          | false => rfl
          | true => have : i < h := by simpa [Nat.blt_eq] using hc
                    omega
      · rw [if_neg hi]
        simp [doneTo, hi]
    have hJ' : J (fun _ => true) a w := hcong _ _ a w (fun i hi => hall i hi) hJ
    have := wpAny_of_seq (md := .any) (Q' := Q) (l.drop h) h listed a w (fun j => by rw [hops]; simp [List.getElem?_drop]) (by
      have e : (l.drop h).length = ops.size - h := by rw [hops]; simp
      rw [e, hl]; exact hseq) (fin a w hJ')
    have e : (l.drop h).length = ops.size - h := by rw [hops]; simp
    rwa [e] at this
  intro fuel
  induction fuel with
  | zero =>
    intro listed a w hs hcl ht hf hJ
    have hall : ∀ i, i < h → listed.getD i false = true := fun i hi => by
      cases hc : listed.getD i false with
      | true => rfl
      | false =>
        have hm : i ∈ (List.range h).filter fun i => !listed.getD i false := List.mem_filter.2 ⟨List.mem_range.2 hi, by simp [hc]⟩
        have hp := List.length_pos_of_mem hm
        omega
    have := allDone listed a w hs ht hall hJ
    rwa [show ops.size - h = 0 by omega] at this
  | succ fuel ih =>
    intro listed a w hs hcl ht hf hJ
    by_cases hall : ∀ i, i < h → listed.getD i false = true
    · have := allDone listed a w hs ht hall hJ
      have he : (List.range h).filter (fun i => !listed.getD i false) = [] := by
        rw [List.filter_eq_nil_iff]
        intro i hi
        simp [hall i (List.mem_range.1 hi)]
      rw [he] at hf
      rwa [show ops.size - h = fuel + 1 by simpa using hf] at this
    · -- the first that has not come up is ready
      have hex : ∃ i, i < h ∧ listed.getD i false = false := by
        apply Classical.byContradiction
        intro hn
        exact hall fun i hi => by
          cases hc : listed.getD i false with
          | true => rfl
          | false => exact absurd ⟨i, hi, hc⟩ hn
      have hready : ∀ i ∈ Region.ready .any ops listed, i < h ∧ listed.getD i false = false ∧ ∃ o, ops[i]? = some o ∧ ∀ e ∈ o.after, Region.binds .any e = true → listed.getD e.on false = true := by
        intro i hi
        obtain ⟨h0, o, ho, hdep⟩ := mem_ready.1 hi
        refine ⟨?_, getD_both h0, o, ho, hdep⟩
        apply Classical.byContradiction
        intro hge
        obtain ⟨j, hj, hjf⟩ := hex
        have := headB_tail hhead ho (Nat.le_of_not_lt hge) (listed := fun i => listed.getD i false) hcl hdep j hj
        rw [show listed.getD j false = true from this] at hjf
        cases hjf
      constructor
      · intro hnil
        obtain ⟨i, hi, hmin⟩ := Go.exists_least (p := fun i => i < h ∧ listed.getD i false = false) hex
        have hlt : i < ops.size := by omega
        have : i ∈ Region.ready .any ops listed := by
          rw [mem_ready]
          refine ⟨getD_in (by omega) hi.2, ops[i], Array.getElem?_eq_getElem hlt, fun e he hb => ?_⟩
          have hon := headB_head hhead (Array.getElem?_eq_getElem hlt) hi.1 e he hb
          cases hc : listed.getD e.on false with
          | true => rfl
          | false => have := hmin e.on ⟨by omega, hc⟩; omega
        rw [hnil] at this
        cases this
      · intro i hi
        obtain ⟨hih, hif, o, ho, hdep⟩ := hready i hi
        refine wpOp_mono (fun a' w' hJ' => ih (listed.setIfInBounds i true) a' w' (by simp [hs]) (fun j oj hoj hlj e he hb => ?_) (fun t htt => ?_) ?_ ?_) (step _ a w i o hJ hih ho hif hdep)
        · by_cases hij : i = j
          · subst hij
            have e' : oj = o := Option.some.inj (hoj.symm.trans ho)
            subst e'
            exact getD_set_true (hdep e he hb)
          · rw [getD_set_ne false hij] at hlj
            exact getD_set_true (hcl j oj hoj hlj e he hb)
        · rw [getD_set_ne false (by omega)]; exact ht t htt
        · have hc : ∀ (m : Nat), i < m → ((List.range m).filter fun j => !listed.getD j false).length = ((List.range m).filter fun j => !(listed.setIfInBounds i true).getD j false).length + 1 := by
            intro m hm
            induction m with
            | zero => omega
            | succ m ihm =>
              rw [List.range_succ, List.filter_append, List.filter_append, List.length_append, List.length_append]
              by_cases him : i = m
              · subst him
                have h1 : ((List.range i).filter fun j => !listed.getD j false) = ((List.range i).filter fun j => !(listed.setIfInBounds i true).getD j false) := by
                  apply List.filter_congr
                  intro j hj
                  rw [getD_set_ne false (by have := List.mem_range.1 hj; omega)]
                have h2 : (listed.setIfInBounds i true).getD i false = true := by
                  have : i < listed.size := by omega
                  simp [Array.getD, this]
                rw [h1]
                simp only [List.filter_cons, List.filter_nil, hif, h2, Bool.not_false, Bool.not_true, if_true, Bool.false_eq_true, if_false, List.length_cons, List.length_nil]
              · have h3 : (listed.setIfInBounds i true).getD m false = listed.getD m false := getD_set_ne false (by omega)
                have h4 : ([m].filter fun j => !listed.getD j false) = [m].filter fun j => !(listed.setIfInBounds i true).getD j false := by simp only [List.filter_cons, List.filter_nil, h3]
                rw [ihm (by omega), h4]
                omega
          have := hc h hih
          omega
        · refine hcong _ _ a' w' (fun j hj => ?_) hJ'
          by_cases e : j = i
          · subst e
            have : j < listed.size := by omega
            simp [Array.getD, this]
          · rw [beqF e, getD_set_ne false (by omega)]; rfl
end

/-- What an operation of the head comes to: one value, whatever the order; or a new variable. -/
inductive HOp where
  | q (v : Value)
  | a (t : TypeId) (zs : List Value)
def allocsOf (β : Nat → Nat) (p : Nat → Bool) : Nat → List HOp → List (Nat × Obj)
  | _, [] => []
  | i, .q _ :: r => allocsOf β p (i + 1) r
  | i, .a t zs :: r => (bif p i then [(β i, .cells zs.toArray t (0, 0))] else []) ++ allocsOf β p (i + 1) r
def hVal (β : Nat → Nat) (i : Nat) : HOp → Value
  | .q v => v
  | .a _ _ => .pointer (some ⟨β i, 0, none⟩)
def hEnv (β : Nat → Nat) (H : List HOp) (ops : Array Oper) : List Nat → Env
  | [] => []
  | i :: r => match H[i]?, (ops[i]?).bind (·.dst) with
    | some o, some d => (d, hVal β i o) :: hEnv β H ops r
    | _, _ => hEnv β H ops r
def NoR : Exit → Act → World → Prop := fun _ _ _ => False
/-- What is to be shown of an operation that comes to one value. -/
def Quiet1 (P : Program) (n : Nat) (ops : Array Oper) (o : Oper) (σ : Env) (C : World → Prop) (v : Value) : Prop :=
  ∀ w, C w → WL P n NoR ops [o] (.cut (CI n (fun _ : Unit => putS o.dst v []) (fun _ w' => Below w.heap.size w w')) .fin) σ w
theorem quiet1_run {P : Program} {n : Nat} {ops : Array Oper} {o : Oper} {σ : Env} {C : World → Prop} {v : Value} {Q : Exit → Act → World → Prop} {i : Nat} (hi : ops[i]? = some o) (h : Quiet1 P n ops o σ C v) {a : Act} {w : World} (hk : Known n a σ) (hw : C w) {K : Act → World → Prop}
    (hK : ∀ w' u, Below w.heap.size w w' → (∀ d, o.dst = some d → u = v) → K (a.put o.dst u) w') (hd : dOk n o.dst = true) : wpOp P ops Q i K a w := by
  have h1 := (h w hw).out a hk
  have dstEq : ∀ u w', (Kt.cut (CI n (fun _ : Unit => putS o.dst v []) (fun _ w' => Below w.heap.size w w')) .fin).post P NoR .normal (a.put o.dst u) w' → Below w.heap.size w w' ∧ (∀ d, o.dst = some d → u = v) := by
    rintro u w' ⟨_, hk', hb⟩
    refine ⟨hb, fun d e => ?_⟩
    have := hk'.at_ d v (by rw [e]; simp [putS, look])
    have hlt : d < a.tmps.size := by
      have := hd; rw [e] at this
      rw [hk.size]; simpa [dOk, Nat.blt_eq] using this
    rw [e] at this
    simpa [Act.put, Array.getD, hlt] using this
  unfold wpList at h1
  unfold wpOp
  simp only [hi]
  by_cases hw' : Region.wanted o (yielded ops a.tmps) = true
  · rw [if_pos hw'] at h1 ⊢
    rcases h1 with h1 | ⟨_, a', w', h2⟩
    · left
      unfold Oper.wp at *
      generalize (execOp a.eval o).run P w = r at *
      cases r with
      | ok nx w1 =>
        cases nx <;> simp only [Oper.upon] at h1 ⊢ <;> try (exact h1.elim)
        case value u => obtain ⟨hb, he⟩ := dstEq u w1 h1; exact hK _ _ hb he
        case skip => obtain ⟨hb, he⟩ := dstEq undef w1 h1; exact hK _ _ hb he
        case enter f args =>
          refine Calls.mono h1 fun e w2 h3 => ?_
          cases e with
          | returned u => obtain ⟨hb, he⟩ := dstEq u w2 h3; exact hK _ _ hb he
          | panicked c => exact h3.elim
          | outgrown => obtain ⟨a', w', h4⟩ := h3; exact h4.elim
        case row r args =>
          refine Rows.mono h1 fun u w2 h3 => ?_
          obtain ⟨hb, he⟩ := dstEq u w2 h3; exact hK _ _ hb he
        case defer dd =>
          obtain ⟨_, hk', _⟩ := h1
          have h5 := hk'.defers
          have h6 : ∀ dst : Option Nat, ({ tmps := a.tmps, defers := dd :: a.defers } : Act).put dst undef = { tmps := (({ tmps := a.tmps, defers := dd :: a.defers } : Act).put dst undef).tmps, defers := dd :: a.defers } := fun dst => by cases dst <;> rfl
          rw [h6] at h5
          cases h5
      | halt x w1 =>
        cases x <;> simp only [Oper.upon] at h1 ⊢ <;> exact h1.elim
    · exact h2.elim
  · rw [if_neg hw'] at h1 ⊢
    obtain ⟨hb, he⟩ := dstEq undef w h1
    exact hK _ _ hb he

theorem keysOf_perm {L L' : List (Nat × Obj)} (h : L.Perm L') (Rs : List Row) : (keysOf L Rs).Perm (keysOf L' Rs) := List.Perm.append (h.map _) (List.Perm.refl _)
theorem St.perm {w0 ws w : World} {ro : Nat → Prop} {L L' : List (Nat × Obj)} {Rs : List Row} (h : St w0 ws w ro L Rs) (hp : L.Perm L') : St w0 ws w ro L' Rs :=
  ⟨h.below, h.snap, fun p hp' => h.own p (hp.mem_iff.2 hp'), h.rows, fun x hx => h.keys x ((keysOf_perm hp Rs).mem_iff.2 hx), (keysOf_perm hp Rs).nodup_iff.1 h.nodup⟩
theorem allocsOf_congr {β β' : Nat → Nat} {p p' : Nat → Bool} : ∀ (H : List HOp) (i : Nat), (∀ j, i ≤ j → j < i + H.length → p j = p' j ∧ β j = β' j) → allocsOf β p i H = allocsOf β' p' i H
  | [], _, _ => rfl
  | .q _ :: r, i, h => by simp only [allocsOf]; exact allocsOf_congr r (i + 1) fun j h1 h2 => h j (by omega) (by simp only [List.length_cons]; omega)
  | .a t zs :: r, i, h => by
    have h0 := h i (Nat.le_refl _) (by simp)
    simp only [allocsOf, h0.1, h0.2]
    rw [allocsOf_congr r (i + 1) fun j h1 h2 => h j (by omega) (by simp only [List.length_cons]; omega)]
theorem allocsOf_add {β : Nat → Nat} {p : Nat → Bool} {m b : Nat} {t : TypeId} {zs : List Value} : ∀ (H : List HOp) (i : Nat), i ≤ m → H[m - i]? = some (.a t zs) → p m = false →
    ((b, Obj.cells zs.toArray t (0, 0)) :: allocsOf β p i H).Perm (allocsOf (fun j => bif Nat.beq j m then b else β j) (fun j => bif Nat.beq j m then true else p j) i H)
  | [], _, _, h, _ => by simp at h
  | o :: r, i, hi, h, hp => by
    by_cases e : i = m
    · subst e
      simp only [Nat.sub_self, List.getElem?_cons_zero, Option.some.injEq] at h
      subst h
      have h1 : allocsOf (fun j => bif Nat.beq j i then b else β j) (fun j => bif Nat.beq j i then true else p j) (i + 1) r = allocsOf β p (i + 1) r :=
        allocsOf_congr r (i + 1) fun j h1 _ => by rw [beqF (by omega : ¬ j = i)]; exact ⟨rfl, rfl⟩
      simp only [allocsOf, hp, cond_false, List.nil_append, h1, Nat.beq_refl, cond_true, List.singleton_append]
      exact List.Perm.refl _
    · have h' : r[m - (i + 1)]? = some (.a t zs) := by
        rw [show m - i = (m - (i + 1)) + 1 by omega] at h
        simpa using h
      have ih := allocsOf_add (β := β) (b := b) r (i + 1) (by omega) h' hp
      cases o with
      | q v => simpa [allocsOf] using ih
      | a t' zs' =>
        have e' : Nat.beq i m = false := beqF e
        simp only [allocsOf, e', cond_false]
        exact (List.perm_middle.symm).trans (List.Perm.append_left _ ih)

/-- The slots that a region writes are apart, and the slots of 'σ' are none of them. -/
def dstsB (ops : Array Oper) (h n : Nat) (σ : Env) : Bool :=
  (List.range h).all fun i => match (ops[i]?).bind (·.dst) with
    | none => true
    | some d => Nat.blt d n && σ.all (fun p => !(Nat.beq p.1 d)) && (List.range h).all fun j => Nat.beq i j || (match (ops[j]?).bind (·.dst) with | some d' => !(Nat.beq d' d) | none => true)
theorem look_append : ∀ (A B : Env) (t : Nat) (v : Value), look (A ++ B) t = some v → look A t = some v ∨ look B t = some v
  | [], _, _, _, hv => .inr hv
  | q :: A, B, t, v, hv => by
    simp only [List.cons_append, look] at hv ⊢
    cases hc : Nat.beq q.1 t with
    | true => rw [hc] at hv; exact .inl hv
    | false => rw [hc] at hv; exact look_append A B t v hv
theorem look_none : ∀ (A : Env) (d : Nat), (∀ p ∈ A, p.1 ≠ d) → look A d = none
  | [], _, _ => rfl
  | q :: A, d, hA => by
    simp only [look, beqF (hA q List.mem_cons_self), cond_false]
    exact look_none A d fun p hp => hA p (List.mem_cons_of_mem _ hp)
theorem look_hEnv (β : Nat → Nat) (H : List HOp) (ops : Array Oper) : ∀ (is : List Nat) (t : Nat) (v : Value), look (hEnv β H ops is) t = some v → ∃ i ∈ is, ∃ o, H[i]? = some o ∧ (ops[i]?).bind (·.dst) = some t ∧ v = hVal β i o
  | [], _, _, hv => by cases hv
  | i :: r, t, v, hv => by
    have rec_ : look (hEnv β H ops r) t = some v → ∃ i' ∈ i :: r, ∃ o, H[i']? = some o ∧ (ops[i']?).bind (·.dst) = some t ∧ v = hVal β i' o := fun h => by
      obtain ⟨i', hi', rest⟩ := look_hEnv β H ops r t v h
      exact ⟨i', List.mem_cons_of_mem _ hi', rest⟩
    simp only [hEnv] at hv
    cases ho : H[i]? with
    | none => rw [ho] at hv; exact rec_ hv
    | some o =>
      cases hd : (ops[i]?).bind (·.dst) with
      | none => rw [ho, hd] at hv; exact rec_ hv
      | some d =>
        rw [ho, hd] at hv
        simp only [look] at hv
        cases hc : Nat.beq d t with
        | true =>
          rw [hc] at hv
          have e : d = t := Nat.eq_of_beq_eq_true hc
          subst e
          exact ⟨i, List.mem_cons_self, o, ho, hd, (Option.some.inj hv).symm⟩
        | false => rw [hc] at hv; exact rec_ hv
theorem known_hEnv {n : Nat} {σ : Env} {β : Nat → Nat} {H : List HOp} {ops : Array Oper} {a : Act} {is : List Nat} (hk : Known n a σ) (h1 : ∀ i ∈ is, ∀ o d, H[i]? = some o → (ops[i]?).bind (·.dst) = some d → a.tmps.getD d undef = hVal β i o) :
    Known n a (hEnv β H ops is ++ σ) := by
  refine ⟨hk.size, hk.defers, fun t v hv => ?_⟩
  rcases look_append _ _ t v hv with h2 | h2
  · obtain ⟨i, hi, o, ho, hd, e⟩ := look_hEnv β H ops is t v h2
    rw [e]
    exact h1 i hi o t ho hd
  · exact hk.at_ t v h2
theorem dsts_spec {ops : Array Oper} {h n : Nat} {σ : Env} (hds : dstsB ops h n σ = true) {i d : Nat} (hi : i < h) (hd : (ops[i]?).bind (·.dst) = some d) :
    d < n ∧ (∀ p ∈ σ, p.1 ≠ d) ∧ ∀ j d', j < h → j ≠ i → (ops[j]?).bind (·.dst) = some d' → d' ≠ d := by
  have h1 := List.all_eq_true.1 hds i (List.mem_range.2 hi)
  rw [hd] at h1
  simp only [Bool.and_eq_true, Nat.blt_eq, List.all_eq_true, List.mem_range, Bool.or_eq_true, Bool.not_eq_true'] at h1
  obtain ⟨⟨h2, h3⟩, h4⟩ := h1
  refine ⟨h2, fun p hp e => ?_, fun j d' hj hne hd' e => ?_⟩
  · have h5 := h3 p hp
    rw [e] at h5
    rw [Nat.beq_refl] at h5
    cases h5
  · rcases h4 j hj with h5 | h5
    · exact hne (Nat.eq_of_beq_eq_true h5).symm
    · rw [hd'] at h5
      subst e
      simp only [Nat.beq_refl] at h5
      cases h5
theorem known_put {n : Nat} {σ : Env} {a : Act} {o : Option Nat} {u : Value} (hk : Known n a σ) (h2 : ∀ d, o = some d → ∀ p ∈ σ, p.1 ≠ d) : Known n (a.put o u) σ := by
  cases o with
  | none => exact hk
  | some d =>
    refine ⟨by simpa [Act.put] using hk.size, hk.defers, fun t v hv => ?_⟩
    have hne : d ≠ t := by
      intro e
      subst e
      rw [look_none σ d (h2 d rfl)] at hv
      cases hv
    have h3 := hk.at_ t v hv
    simp only [Act.put, Array.getD_eq_getD_getElem?] at h3 ⊢
    rw [Array.getElem?_setIfInBounds_ne hne]
    exact h3
theorem put_same {a : Act} {d : Nat} {u : Value} (h : d < a.tmps.size) : (a.put (some d) u).tmps.getD d undef = u := by
  simp [Act.put, Array.getD, h]
theorem put_other {a : Act} {d d2 : Nat} {u : Value} (h : d2 ≠ d) : (a.put (some d2) u).tmps.getD d undef = a.tmps.getD d undef := by
  simp only [Act.put, Array.getD_eq_getD_getElem?]
  rw [Array.getElem?_setIfInBounds_ne h]
theorem step_act {ops : Array Oper} {h n : Nat} {σ : Env} (hds : dstsB ops h n σ = true) {H : List HOp} {a : Act} {o : Oper} {i : Nat} {u : Value} {β β' : Nat → Nat} {p : Nat → Bool} {ho' : HOp} (hi : i < h) (ho : ops[i]? = some o) (hHi : H[i]? = some ho') (hsz : a.tmps.size = n)
    (hu : ∀ d, o.dst = some d → u = hVal β' i ho') (hβ : ∀ j, j ≠ i → β' j = β j)
    (hold : ∀ j o d, j < h → p j = true → H[j]? = some o → (ops[j]?).bind (·.dst) = some d → a.tmps.getD d undef = hVal β j o) :
    ∀ j o2 d, j < h → (bif Nat.beq j i then true else p j) = true → H[j]? = some o2 → (ops[j]?).bind (·.dst) = some d → (a.put o.dst u).tmps.getD d undef = hVal β' j o2 := by
  intro j o2 d hj hpj hHj hd
  by_cases e : j = i
  · subst e
    rw [hHi] at hHj
    have e2 : ho' = o2 := Option.some.inj hHj
    subst e2
    have h1 := (dsts_spec hds hj hd).1
    rw [ho] at hd
    have hd' : o.dst = some d := hd
    rw [hd', put_same (by omega), hu d hd']
  · rw [beqF e] at hpj
    have hv : hVal β' j o2 = hVal β j o2 := by cases o2 <;> simp [hVal, hβ j e]
    rw [hv, ← hold j o2 d hj hpj hHj hd]
    cases hd2 : o.dst with
    | none => rfl
    | some d2 =>
      have h3 := (dsts_spec hds hi (d := d2) (by rw [ho]; exact hd2)).2.2 j d hj e hd
      exact put_other fun e2 => h3 e2.symm
theorem allocsOf_q {β : Nat → Nat} {p : Nat → Bool} {i : Nat} {v : Value} : ∀ (H' : List HOp) (m : Nat), m ≤ i → H'[i - m]? = some (.q v) → allocsOf β (fun j => bif Nat.beq j i then true else p j) m H' = allocsOf β p m H'
  | [], _, _, _ => rfl
  | x :: r, m, hm, hx => by
    by_cases em : m = i
    · subst em
      simp only [Nat.sub_self, List.getElem?_cons_zero, Option.some.injEq] at hx
      subst hx
      simp only [allocsOf]
      exact allocsOf_congr r (m + 1) fun j h5 _ => ⟨by rw [beqF (by omega : ¬ j = m)]; rfl, rfl⟩
    · have hx' : r[i - (m + 1)]? = some (.q v) := by
        rw [show i - m = (i - (m + 1)) + 1 by omega] at hx
        simpa using hx
      have ih' := allocsOf_q (β := β) (p := p) r (m + 1) (by omega) hx'
      cases x with
      | q v' => simpa only [allocsOf] using ih'
      | a t' zs' => simp only [allocsOf, beqF em, cond_false]; rw [ih']
theorem allocsOf_none (β : Nat → Nat) (p : Nat → Bool) (hp : ∀ i, p i = false) : ∀ (H' : List HOp) (m : Nat), allocsOf β p m H' = []
  | [], _ => rfl
  | .q _ :: r, m => allocsOf_none β p hp r (m + 1)
  | .a t zs :: r, m => by simp only [allocsOf, hp, cond_false, List.nil_append]; exact allocsOf_none β p hp r (m + 1)

/-- What holds when some of the head has come up. -/
structure DrawJ (n h : Nat) (ops : Array Oper) (H : List HOp) (σ : Env) (w0 ws : World) (ro : Nat → Prop) (L : List (Nat × Obj)) (Rs : List Row) (p : Nat → Bool) (a : Act) (w : World) (β : Nat → Nat) : Prop where
  known : Known n a σ
  vals : ∀ i o d, i < h → p i = true → H[i]? = some o → (ops[i]?).bind (·.dst) = some d → a.tmps.getD d undef = hVal β i o
  st : St w0 ws w ro (allocsOf β p 0 H ++ L) Rs

section
variable {P : Program} {n : Nat} {R : Exit → Act → World → Prop} {k : Kt} {w : World}
variable {w0 ws : World} {ro : Nat → Prop} {L : List (Nat × Obj)} {Rs : List Row}
theorem drawJ_step {Q : Exit → Act → World → Prop} {ops : Array Oper} {h : Nat} {H : List HOp} {σ : Env} (hB : drawB ops h = true) (hH : H.length = h) (hds : dstsB ops h n σ = true)
    (hq : ∀ (i : Nat) (v : Value) (o : Oper), H[i]? = some (HOp.q v) → ops[i]? = some o → ∀ β, Quiet1 P n ops o (hEnv β H ops (depsOf ops i) ++ σ) (fun w => St w0 ws w ro L Rs) v)
    (ha : ∀ (i : Nat) (t : TypeId) (zs : List Value) (o : Oper), H[i]? = some (HOp.a t zs) → ops[i]? = some o → o.op = .alloc t ∧ o.guard = none ∧ TyZero P t zs)
    {p : Nat → Bool} {a : Act} {i : Nat} {o : Oper} {β : Nat → Nat} (hJ : DrawJ n h ops H σ w0 ws ro L Rs p a w β) (hi : i < h) (ho : ops[i]? = some o) (hpi : p i = false)
    (hdep : ∀ e ∈ o.after, Region.binds .any e = true → p e.on = true) :
    wpOp P ops Q i (fun a' w' => ∃ β, DrawJ n h ops H σ w0 ws ro L Rs (fun j => bif Nat.beq j i then true else p j) a' w' β) a w := by
  simp only [drawB, Bool.and_eq_true, Nat.ble_eq] at hB
  have hlH : i < H.length := by omega
  have hdst : ∀ d, o.dst = some d → (ops[i]?).bind (·.dst) = some d := fun d e => by rw [ho]; exact e
  cases hHi : H[i]'hlH with
  | q v =>
    have hHi' : H[i]? = some (.q v) := by rw [List.getElem?_eq_getElem hlH, hHi]
    have hkd : Known n a (hEnv β H ops (depsOf ops i) ++ σ) := known_hEnv hJ.known fun j hj o2 d hHj hd => by
      simp only [depsOf, ho] at hj
      obtain ⟨e, he, rfl⟩ := List.mem_map.1 hj
      obtain ⟨he1, he2⟩ := List.mem_filter.1 he
      have hon := headB_head hB.1.2 ho hi e (by simpa using he1) he2
      exact hJ.vals e.on o2 d (by omega) (hdep e (by simpa using he1) he2) hHj hd
    refine quiet1_run (C := fun w => St w0 ws w ro L Rs) ho (hq i v o hHi' ho β) hkd (hJ.st.drop (List.sublist_append_right _ _) (List.Sublist.refl _)) ?_ ?_
    · intro w' u hb hu
      refine ⟨β, known_put hJ.known fun d e => (dsts_spec hds hi (hdst d e)).2.1, step_act hds hi ho hHi' hJ.known.size (fun d hd => hu d hd) (fun _ _ => rfl) hJ.vals, ?_⟩
      rw [allocsOf_q H 0 (Nat.zero_le _) hHi']
      exact hJ.st.grow hb
    · cases hd : o.dst with
      | none => rfl
      | some d => simpa [dOk, Nat.blt_eq] using (dsts_spec hds hi (hdst d hd)).1
  | a t zs =>
    have hHi' : H[i]? = some (.a t zs) := by rw [List.getElem?_eq_getElem hlH, hHi]
    obtain ⟨hop, hgd, ⟨inf, z, hi1, hz1, hz2, _⟩⟩ := ha i t zs o hHi' ho
    unfold wpOp
    simp only [ho]
    rw [if_pos (by simp [Region.wanted, hgd])]
    left
    unfold Oper.wp
    have hrun : (execOp a.eval o).run P w = .ok (.value (.pointer (some ⟨w.heap.size, 0, none⟩))) (w.alloc (.cells zs.toArray t (0, 0))) := by
      simp [execOp, hop, Instr.alloc, zeroValue, typeInfo, hi1, hz1, newVar, newRow, hz2]
    rw [hrun]
    have hb1 : ∀ j, j ≠ i → (fun j => bif Nat.beq j i then w.heap.size else β j) j = β j := fun j hj => by simp only [beqF hj, cond_false]
    refine ⟨fun j => bif Nat.beq j i then w.heap.size else β j, known_put hJ.known fun d e => (dsts_spec hds hi (hdst d e)).2.1,
      step_act hds hi ho hHi' hJ.known.size (fun d _ => by simp only [hVal, Nat.beq_refl, cond_true]) hb1 hJ.vals, ?_⟩
    have h4 := hJ.st.alloc (.cells zs.toArray t (0, 0))
    exact h4.perm (List.Perm.append_right L (allocsOf_add H 0 (Nat.zero_le _) hHi' hpi))
/-- The region, whatever its order. 'σ': what is known of slots that it does not write. -/
theorem W.draw {id : Nat} {l : List Oper} (hm : P.follows .mixedOrders = true) (h : Nat) (H : List HOp) (hB : drawB l.toArray h = true) (hlen : Nat.beq H.length h = true) (σ : Env) {σ0 : Env} (hsub : Sub σ σ0) (hds : dstsB l.toArray h n σ = true)
    (hS : St w0 ws w ro L Rs)
    (hq : ∀ (i : Nat) (v : Value) (o : Oper), H[i]? = some (HOp.q v) → l.toArray[i]? = some o → ∀ β, Quiet1 P n l.toArray o (hEnv β H l.toArray (depsOf l.toArray i) ++ σ) (fun w => St w0 ws w ro L Rs) v)
    (ha : ∀ (i : Nat) (t : TypeId) (zs : List Value) (o : Oper), H[i]? = some (HOp.a t zs) → l.toArray[i]? = some o → o.op = .alloc t ∧ o.guard = none ∧ TyZero P t zs)
    (fin : ∀ w' β, St w0 ws w' ro (allocsOf β (fun _ => true) 0 H ++ L) Rs → WL P n R l.toArray (l.drop h) k (hEnv β H l.toArray (List.range h) ++ σ) w') :
    W P n R (.region id l.toArray true) k σ0 w := by
  refine ⟨fun a hk0 => wp_region_any hm ?_⟩
  have hH : H.length = h := Nat.eq_of_beq_eq_true hlen
  have hk := hk0.sub hsub
  have hle : h ≤ l.toArray.size := by
    have hB' := hB
    simp only [drawB, Bool.and_eq_true, Nat.ble_eq] at hB'
    exact hB'.1.1
  refine wpAny_inv (l := l) (h := h) rfl hB (fun p a w => ∃ β, DrawJ n h l.toArray H σ w0 ws ro L Rs p a w β) ?_ ?_ ?_ l.toArray.size _ a _ (by simp) (fun j _ _ hj => by rw [getD_replicate_false] at hj; cases hj) (fun t _ => getD_replicate_false _ _) ?_ ?_
  · rintro p p' a w hpp ⟨β, h1, h2, h3⟩
    refine ⟨β, h1, fun i o d hi hp => h2 i o d hi (by rw [hpp i hi]; exact hp), ?_⟩
    rwa [allocsOf_congr (β' := β) (p' := p') H 0 fun j _ hj => ⟨hpp j (by omega), rfl⟩] at h3
  · rintro p a w i o ⟨β, hJ⟩ hi ho hpi hdep
    exact drawJ_step hB hH hds hq ha hJ hi ho hpi hdep
  · rintro a w ⟨β, h1, h2, h3⟩
    exact (fin w β h3).out a (known_hEnv h1 fun i hi o d hHi hd => h2 i o d (List.mem_range.1 hi) rfl hHi hd)
  · have hf : (List.range h).filter (fun i => !(Array.replicate l.toArray.size false).getD i false) = List.range h := by
      rw [List.filter_eq_self]
      intro i _
      rw [getD_replicate_false]; rfl
    rw [hf, List.length_range]
    omega
  · refine ⟨fun _ => 0, hk, fun i o d _ hp => (by rw [getD_replicate_false] at hp; cases hp), ?_⟩
    rw [allocsOf_none _ _ (fun i => getD_replicate_false _ _)]
    exact hS.grow ((Below.refl _ w).drew)
/-- The head's operations one by one. -/
def AllQ (P : Program) (n : Nat) (ops : Array Oper) (H0 : List HOp) (σ : Env) (C : World → Prop) : Nat → List HOp → List Oper → Prop
  | i, .q v :: H, o :: l => (∀ β w, C w → WL P n NoR ops [o] (.cut (CI n (fun _ : Unit => putS o.dst v []) (fun _ w' => Below w.heap.size w w')) .fin) (hEnv β H0 ops (depsOf ops i) ++ σ) w) ∧ AllQ P n ops H0 σ C (i + 1) H l
  | i, .a t zs :: H, o :: l => (o.op = .alloc t ∧ o.guard = none ∧ TyZero P t zs) ∧ AllQ P n ops H0 σ C (i + 1) H l
  | _, [], _ => True
  | _, _ :: _, [] => False
theorem AllQ.q {ops : Array Oper} {H0 : List HOp} {σ : Env} {C : World → Prop} : ∀ (H : List HOp) (l : List Oper) (m : Nat), AllQ P n ops H0 σ C m H l → ∀ (i : Nat) (v : Value) (o : Oper), H[i]? = some (HOp.q v) → l[i]? = some o → ∀ β, Quiet1 P n ops o (hEnv β H0 ops (depsOf ops (m + i)) ++ σ) C v
  | [], _, _, _, i, v, o, hi, _ => by simp at hi
  | _ :: _, [], _, _, i, v, o, _, ho => by simp at ho
  | x :: H, o' :: l, m, h, 0, v, o, hi, ho => by
    simp only [List.getElem?_cons_zero, Option.some.injEq] at hi ho
    subst hi; subst ho
    exact fun β w hw => h.1 β w hw
  | x :: H, o' :: l, m, h, i + 1, v, o, hi, ho => by
    have h2 : AllQ P n ops H0 σ C (m + 1) H l := by cases x <;> exact h.2
    rw [show m + (i + 1) = m + 1 + i by omega]
    exact AllQ.q H l (m + 1) h2 i v o (by simpa using hi) (by simpa using ho)
theorem AllQ.a {ops : Array Oper} {H0 : List HOp} {σ : Env} {C : World → Prop} : ∀ (H : List HOp) (l : List Oper) (m : Nat), AllQ P n ops H0 σ C m H l → ∀ (i : Nat) (t : TypeId) (zs : List Value) (o : Oper), H[i]? = some (HOp.a t zs) → l[i]? = some o → o.op = .alloc t ∧ o.guard = none ∧ TyZero P t zs
  | [], _, _, _, i, t, zs, o, hi, _ => by simp at hi
  | _ :: _, [], _, _, i, t, zs, o, _, ho => by simp at ho
  | x :: H, o' :: l, m, h, 0, t, zs, o, hi, ho => by
    simp only [List.getElem?_cons_zero, Option.some.injEq] at hi ho
    subst hi; subst ho
    exact h.1
  | x :: H, o' :: l, m, h, i + 1, t, zs, o, hi, ho => by
    have h2 : AllQ P n ops H0 σ C (m + 1) H l := by cases x <;> exact h.2
    exact AllQ.a H l (m + 1) h2 i t zs o (by simpa using hi) (by simpa using ho)
theorem W.drawL {id : Nat} {l : List Oper} (hm : P.follows .mixedOrders = true) (h : Nat) (H : List HOp) (hB : drawB l.toArray h = true) (hlen : Nat.beq H.length h = true) (σ : Env) {σ0 : Env} (hsub : Sub σ σ0) (hds : dstsB l.toArray h n σ = true)
    (hS : St w0 ws w ro L Rs) (hq : AllQ P n l.toArray H σ (fun w => St w0 ws w ro L Rs) 0 H l)
    (fin : ∀ w' β, St w0 ws w' ro (allocsOf β (fun _ => true) 0 H ++ L) Rs → WL P n R l.toArray (l.drop h) k (hEnv β H l.toArray (List.range h) ++ σ) w') :
    W P n R (.region id l.toArray true) k σ0 w :=
  W.draw hm h H hB hlen σ hsub hds hS (fun i v o hi ho β => by
    have := AllQ.q H l 0 hq i v o hi (by simpa using ho) β
    rwa [Nat.zero_add] at this) (fun i t zs o hi ho => AllQ.a H l 0 hq i t zs o hi (by simpa using ho)) fin
end
end Go.Proofs.Ytcmmhfknkldmcaa
