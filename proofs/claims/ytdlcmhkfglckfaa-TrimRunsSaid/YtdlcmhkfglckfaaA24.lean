/-
  A region that draws its order, in phases: first what comes in any order and only adds to memory, then one operation after the other. No condition beyond those that each theorem states.
-/
import Derived.Test.YtdlcmhkfglckfaaA23
import Derived.Test.YtdlcmhkfglckfaaA11
import Derived.Test.YtdlcmhkfglckfaaA20
namespace Go.Proofs.Ytdlcmhkfglckfaa
open Go.RowKit

def headB8 (ops : Array Oper) (h : Nat) : Bool :=
  ops.toList.zipIdx.all fun (o, i) =>
    if Nat.blt i h then o.after.toList.all fun e => !Region.binds .any e || Nat.blt e.on i
    else (List.range h).all fun j => (clo ops 8 (depsOf ops i)).contains j
section
variable {P : Program} {ops : Array Oper} {Q : Exit → Act → World → Prop}
theorem headB8_head {h i : Nat} {o : Oper} (hb : headB8 ops h = true) (ho : ops[i]? = some o) (hi : i < h) : ∀ e ∈ o.after, Region.binds .any e = true → e.on < i := by
  intro e he hbi
  have hm : (o, i) ∈ ops.toList.zipIdx := by rw [List.mem_zipIdx_iff_getElem?]; simpa using ho
  have h1 := List.all_eq_true.1 hb _ hm
  simp only [show Nat.blt i h = true by simpa [Nat.blt_eq] using hi, if_true] at h1
  have h2 := List.all_eq_true.1 h1 e (by simpa using he)
  simpa [hbi, Nat.blt_eq] using h2
theorem headB8_tail {h t : Nat} {o : Oper} (hb : headB8 ops h = true) (ho : ops[t]? = some o) (ht : h ≤ t) {listed : Nat → Bool}
    (closed : ∀ j oj, ops[j]? = some oj → listed j = true → ∀ e ∈ oj.after, Region.binds .any e = true → listed e.on = true) (hd : ∀ e ∈ o.after, Region.binds .any e = true → listed e.on = true) : ∀ j, j < h → listed j = true := by
  intro j hj
  have hm : (o, t) ∈ ops.toList.zipIdx := by rw [List.mem_zipIdx_iff_getElem?]; simpa using ho
  have h1 := List.all_eq_true.1 hb _ hm
  have hnb : Nat.blt t h = false := by
    cases hc : Nat.blt t h with
    | false => rfl
    | true => have : t < h := by simpa [Nat.blt_eq] using hc
              omega
  simp only [hnb, Bool.false_eq_true, if_false] at h1
  have h2 := List.all_eq_true.1 h1 j (List.mem_range.2 hj)
  refine clo_listed closed 8 _ (fun i hi => ?_) j (by simpa [List.contains_iff_mem] using h2)
  unfold depsOf at hi
  rw [ho] at hi
  obtain ⟨e, he, rfl⟩ := List.mem_map.1 hi
  obtain ⟨h4, h5⟩ := List.mem_filter.1 he
  exact hd e (by simpa using h4) h5
end
def phaseB (ops : Array Oper) (h : Nat) : Bool := Nat.ble h ops.size && headB8 ops h
section
variable {P : Program} {ops : Array Oper} {Q : Exit → Act → World → Prop}
theorem wpAnyH_true : ∀ (fuel : Nat) (listed : Array Bool) (a : Act) (w : World), wpAny P .any ops Q fuel listed a w → wpAnyH P .any ops Q (fun _ => True) fuel listed a w
  | 0, _, _, _, h => h
  | fuel + 1, _, _, _, h => ⟨h.1, fun i hi => wpOp_mono (fun a' w' h' => ⟨trivial, wpAnyH_true fuel _ a' w' h'⟩) (h.2 i hi)⟩
theorem wpAny_phase {h : Nat} (hB : phaseB ops h = true) (J : (Nat → Bool) → Act → World → Prop)
    (hcong : ∀ p p' a w, (∀ i, i < h → p i = p' i) → J p a w → J p' a w)
    (step : ∀ p a w i o, J p a w → i < h → ops[i]? = some o → p i = false → (∀ e ∈ o.after, Region.binds .any e = true → p e.on = true) →
      wpOp P ops Q i (fun a' w' => J (fun j => bif Nat.beq j i then true else p j) a' w') a w)
    (fin : ∀ a w, J (fun _ => true) a w → wpAny P .any ops Q (ops.size - h) (doneTo ops.size h) a w) :
    ∀ (fuel : Nat) (listed : Array Bool) (a : Act) (w : World), listed.size = ops.size → (∀ j oj, ops[j]? = some oj → listed.getD j false = true → ∀ e ∈ oj.after, Region.binds .any e = true → listed.getD e.on false = true) → (∀ t, h ≤ t → listed.getD t false = false) → ((List.range h).filter fun i => !listed.getD i false).length + (ops.size - h) = fuel →
      J (fun i => listed.getD i false) a w → wpAny P .any ops Q fuel listed a w := by
  simp only [phaseB, Bool.and_eq_true, Nat.ble_eq] at hB
  obtain ⟨hle, hhead⟩ := hB
  have allDone : ∀ (listed : Array Bool) (a : Act) (w : World), listed.size = ops.size → (∀ t, h ≤ t → listed.getD t false = false) → (∀ i, i < h → listed.getD i false = true) →
      J (fun i => listed.getD i false) a w → wpAny P .any ops Q (ops.size - h) listed a w := by
    intro listed a w hs ht hall hJ
    have hl : listed = doneTo ops.size h := by
      apply Array.ext_getElem?
      intro i
      have key : listed[i]? = if i < ops.size then some (listed.getD i false) else none := by
        by_cases hi : i < ops.size
        · rw [if_pos hi, Array.getD_eq_getD_getElem?, Array.getElem?_eq_getElem (by omega)]; rfl
        · rw [if_neg hi, Array.getElem?_eq_none (by omega)]
      rw [key]
      by_cases hi : i < ops.size
      · rw [if_pos hi]
        simp only [doneTo, List.getElem?_toArray, List.getElem?_map, List.getElem?_range hi, Option.map_some]
        congr 1
        by_cases hh : i < h
        · rw [hall i hh]; symm; simpa [Nat.blt_eq] using hh
        · rw [ht i (by omega)]
          cases hc : Nat.blt i h with
          | false => rfl
          | true => have : i < h := by simpa [Nat.blt_eq] using hc
                    omega
      · rw [if_neg hi]
        simp [doneTo, hi]
    rw [hl]
    exact fin a w (hcong _ _ a w (fun i hi => hall i hi) hJ)
  intro fuel
  induction fuel with
  | zero =>
    intro listed a w hs hcl ht hf hJ
    have hall : ∀ i, i < h → listed.getD i false = true := fun i hi => by
      cases hc : listed.getD i false with
      | true => rfl
      | false =>
        have hm : i ∈ (List.range h).filter fun i => !listed.getD i false := List.mem_filter.2 ⟨List.mem_range.2 hi, by simp [hc]⟩
        have hp := List.length_pos_of_mem hm
        omega
    have := allDone listed a w hs ht hall hJ
    rwa [show ops.size - h = 0 by omega] at this
  | succ fuel ih =>
    intro listed a w hs hcl ht hf hJ
    by_cases hall : ∀ i, i < h → listed.getD i false = true
    · have := allDone listed a w hs ht hall hJ
      have he : (List.range h).filter (fun i => !listed.getD i false) = [] := by
        rw [List.filter_eq_nil_iff]
        intro i hi
        simp [hall i (List.mem_range.1 hi)]
      rw [he] at hf
      rwa [show ops.size - h = fuel + 1 by simpa using hf] at this
    · have hex : ∃ i, i < h ∧ listed.getD i false = false := by
        apply Classical.byContradiction
        intro hn
        exact hall fun i hi => by
          cases hc : listed.getD i false with
          | true => rfl
          | false => exact absurd ⟨i, hi, hc⟩ hn
      have hready : ∀ i ∈ Region.ready .any ops listed, i < h ∧ listed.getD i false = false ∧ ∃ o, ops[i]? = some o ∧ ∀ e ∈ o.after, Region.binds .any e = true → listed.getD e.on false = true := by
        intro i hi
        obtain ⟨h0, o, ho, hdep⟩ := mem_ready.1 hi
        refine ⟨?_, getD_both h0, o, ho, hdep⟩
        apply Classical.byContradiction
        intro hge
        obtain ⟨j, hj, hjf⟩ := hex
        have := headB8_tail hhead ho (Nat.le_of_not_lt hge) (listed := fun i => listed.getD i false) hcl hdep j hj
        rw [show listed.getD j false = true from this] at hjf
        cases hjf
      constructor
      · intro hnil
        obtain ⟨i, hi, hmin⟩ := Go.exists_least (p := fun i => i < h ∧ listed.getD i false = false) hex
        have hlt : i < ops.size := by omega
        have : i ∈ Region.ready .any ops listed := by
          rw [mem_ready]
          refine ⟨getD_in (by omega) hi.2, ops[i], Array.getElem?_eq_getElem hlt, fun e he hb => ?_⟩
          have hon := headB8_head hhead (Array.getElem?_eq_getElem hlt) hi.1 e he hb
          cases hc : listed.getD e.on false with
          | true => rfl
          | false => have := hmin e.on ⟨by omega, hc⟩; omega
        rw [hnil] at this
        cases this
      · intro i hi
        obtain ⟨hih, hif, o, ho, hdep⟩ := hready i hi
        refine wpOp_mono (fun a' w' hJ' => ih (listed.setIfInBounds i true) a' w' (by simp [hs]) (fun j oj hoj hlj e he hb => ?_) (fun t htt => ?_) ?_ ?_) (step _ a w i o hJ hih ho hif hdep)
        · by_cases hij : i = j
          · subst hij
            have e' : oj = o := Option.some.inj (hoj.symm.trans ho)
            subst e'
            exact getD_set_true (hdep e he hb)
          · rw [getD_set_ne false hij] at hlj
            exact getD_set_true (hcl j oj hoj hlj e he hb)
        · rw [getD_set_ne false (by omega)]; exact ht t htt
        · have hc : ∀ (m : Nat), i < m → ((List.range m).filter fun j => !listed.getD j false).length = ((List.range m).filter fun j => !(listed.setIfInBounds i true).getD j false).length + 1 := by
            intro m hm
            induction m with
            | zero => omega
            | succ m ihm =>
              rw [List.range_succ, List.filter_append, List.filter_append, List.length_append, List.length_append]
              by_cases him : i = m
              · subst him
                have h1 : ((List.range i).filter fun j => !listed.getD j false) = ((List.range i).filter fun j => !(listed.setIfInBounds i true).getD j false) := by
                  apply List.filter_congr
                  intro j hj
                  rw [getD_set_ne false (by have := List.mem_range.1 hj; omega)]
                have h2 : (listed.setIfInBounds i true).getD i false = true := by
                  have : i < listed.size := by omega
                  simp [Array.getD, this]
                rw [h1]
                simp only [List.filter_cons, List.filter_nil, hif, h2, Bool.not_false, Bool.not_true, if_true, Bool.false_eq_true, if_false, List.length_cons, List.length_nil]
              · have h3 : (listed.setIfInBounds i true).getD m false = listed.getD m false := getD_set_ne false (by omega)
                have h4 : ([m].filter fun j => !listed.getD j false) = [m].filter fun j => !(listed.setIfInBounds i true).getD j false := by simp only [List.filter_cons, List.filter_nil, h3]
                rw [ihm (by omega), h4]
                omega
          have := hc h hih
          omega
        · refine hcong _ _ a' w' (fun j hj => ?_) hJ'
          by_cases e : j = i
          · subst e
            have : j < listed.size := by omega
            simp [Array.getD, this]
          · rw [beqF e, getD_set_ne false (by omega)]; rfl
end
section
variable {P : Program} {ops : Array Oper} {C : Act → World → Prop} {Q : Exit → Act → World → Prop}
theorem wpOp_then {i : Nat} {a : Act} {w : World} {K : Act → World → Prop} (hh : wpOp P ops (Exit.then C NoR) i K a w) : wpOp P ops Q i K a w := by
  unfold wpOp at *
  split
  · simpa [*] using hh
  · rename_i o ho
    simp only [ho] at hh
    split
    · rename_i hw
      simp only [hw, if_true] at hh
      rcases hh with hh | ⟨_, _, _, hl⟩
      · left
        unfold Oper.wp at *
        generalize (execOp a.eval o).run P w = r at *
        cases r with
        | ok n w' =>
          cases n <;> simp only [Oper.upon] at hh ⊢ <;>
            first
              | exact hh
              | exact Calls.mono hh (fun e w'' he => by cases e <;> first | exact he | exact he.elim | (obtain ⟨_, _, h4⟩ := he; exact h4.elim))
        | halt x w' => cases x <;> simp only [Oper.upon] at hh ⊢ <;> exact hh.elim
      · exact hl.elim
    · rename_i hw; simp only [hw] at hh; exact hh
theorem wpAny_then (h : ∀ a w, C a w → Q .normal a w) : ∀ (fuel : Nat) (listed : Array Bool) (a : Act) (w : World), wpAny P .any ops (Exit.then C NoR) fuel listed a w → wpAny P .any ops Q fuel listed a w
  | 0, _, _, _, hh => ⟨hh.1, h _ _ hh.2⟩
  | fuel + 1, _, _, _, hh => ⟨fun e => h _ _ (hh.1 e), fun i hi => wpOp_then (wpOp_mono (fun a' w' h' => wpAny_then h fuel _ a' w' h') (hh.2 i hi))⟩
end
section
variable {P : Program} {n : Nat} {ops : Array Oper} {R : Exit → Act → World → Prop} {k : Kt} {σ : Env} {w : World} {Q : Exit → Act → World → Prop} {S : World → Prop} {fuel : Nat} {listed : Array Bool}
/-- A region that draws its order, in a plain walk. -/
theorem W.drawA {id : Nat} {l : List Oper} {α : Type} (F : α → Env) (I : α → World → Prop) (hm : P.follows .mixedOrders = true) (h : ∀ w', Below w.heap.size w w' → WA P n l.toArray (Exit.then (CI n F I) NoR) S l.toArray.size (Array.replicate l.toArray.size false) σ w') (h2 : ∀ x w', I x w' → N P n R k (F x) w') : W P n R (.region id l.toArray true) k σ w := by
  refine ⟨fun a ha => wp_region_any hm ?_⟩
  have hb : Below w.heap.size w { w with drawn := w.drawn + 1 } := (Below.refl _ w).drew
  have h1 := wpAny_of_held _ _ _ _ ((h _ hb).out a ha)
  exact wpAny_then (fun a' w' ⟨x, hk, hI⟩ => (h2 x w' hI).out a' hk) _ _ _ _ h1
/-- One operation, the only one that may come next. -/
theorem WA.step (i : Nat) {o : Oper} (hr : Region.ready .any ops listed = [i]) (hi : ops[i]? = some o) (h : WL P n NoR ops [o] (.cut (fun a w => wpAnyH P .any ops Q (fun _ => True) fuel (listed.setIfInBounds i true) a w) .fin) σ w) : WA P n ops Q (fun _ => True) (fuel + 1) listed σ w :=
  ⟨fun a ha => wpAnyH_all hr (by simp) fun j hj => by
    obtain rfl : j = i := by simpa using hj
    have h1 := h.out a ha
    unfold wpList at h1
    unfold wpOp
    simp only [hi]
    by_cases hw : Region.wanted o (yielded ops a.tmps) = true
    · rw [if_pos hw] at h1 ⊢
      rcases h1 with h1 | ⟨_, a', w', h2⟩
      · left
        unfold Oper.wp at *
        generalize (execOp a.eval o).run P w = r at *
        cases r with
        | ok nx w1 =>
          cases nx <;> simp only [Oper.upon] at h1 ⊢ <;> try (exact h1.elim)
          case value u => exact ⟨trivial, h1⟩
          case skip => exact ⟨trivial, h1⟩
          case enter f args =>
            refine Calls.mono h1 fun e w2 h3 => ?_
            cases e with
            | returned u => exact ⟨trivial, h3⟩
            | panicked c => exact h3.elim
            | outgrown => obtain ⟨a', w', h4⟩ := h3; exact h4.elim
          case row r args => exact Rows.mono h1 fun u w2 h3 => ⟨trivial, h3⟩
          case defer dd => exact ⟨trivial, h1⟩
        | halt x w1 => cases x <;> simp only [Oper.upon] at h1 ⊢ <;> exact h1.elim
      · exact h2.elim
    · rw [if_neg hw] at h1 ⊢
      exact ⟨trivial, h1⟩⟩
theorem N.rest (h : WA P n ops Q S fuel listed σ w) : N P n NoR (.cut (fun a w => wpAnyH P .any ops Q S fuel listed a w) .fin) σ w := ⟨fun a ha => h.out a ha⟩
theorem exec_extract {x : Operand} {vs : Array Value} {i : Nat} {v : Value} {d : Option Nat} {ty : TypeId} {pos : String} {af : Array Edge} {g : Option (Nat × Bool)} (hx : ev σ x = some (.tuple vs)) (hv : vs[i]? = some v) : ∀ a, Known n a σ → ∀ w, S w → (execOp a.eval ⟨d, .extract x i, ty, pos, af, g⟩).run P w = .ok (.value v) w := fun a ha w _ => by simp [execOp, ha.eval hx, Instr.extract, hv]
theorem W.drawA0 {id : Nat} {l : List Oper} (hm : P.follows .mixedOrders = true) (h : ∀ w', Below w.heap.size w w' → WA P n l.toArray (k.post P R) S l.toArray.size (Array.replicate l.toArray.size false) σ w') : W P n R (.region id l.toArray true) k σ w := by
  refine ⟨fun a ha => wp_region_any hm ?_⟩
  have hb : Below w.heap.size w { w with drawn := w.drawn + 1 } := (Below.refl _ w).drew
  exact wpAny_of_held _ _ _ _ ((h _ hb).out a ha)
theorem WA.sub {σ' : Env} (hs : Sub σ' σ) (h : WA P n ops Q S fuel listed σ' w) : WA P n ops Q S fuel listed σ w := ⟨fun a ha => h.out a (ha.sub hs)⟩
theorem WA.conv {fuel' : Nat} {listed' : Array Bool} (hf : fuel = fuel') (hl : listed = listed') (h : WA P n ops Q S fuel' listed' σ w) : WA P n ops Q S fuel listed σ w := by subst hf; subst hl; exact h
theorem WA.doneN (hr : Region.ready .any ops listed = []) (h : N P n R k σ w) : WA P n ops (k.post P R) S fuel listed σ w := ⟨fun a ha => wpAnyH_done hr (h.out a ha) fuel⟩
theorem wpOp_pure {i : Nat} {o : Oper} {v : Value} {a : Act} {K : Act → World → Prop} (hi : ops[i]? = some o) (hg : o.guard = none) (hex : (execOp a.eval o).run P w = .ok (.value v) w) (h : K (a.put o.dst v) w) : wpOp P ops Q i K a w := by
  unfold wpOp
  simp only [hi]
  rw [if_pos (by simp [Region.wanted, hg])]
  left
  unfold Oper.wp
  rw [hex]
  exact h
theorem WA.phaseP {l : List Oper} (m : Nat) (Φs : List (Value → World → Prop)) (hB : phaseB l.toArray m = true) (hlen : Nat.beq Φs.length m = true) (hall : allDst l.toArray m = true)
    (σ : Env) {σ0 : Env} (hsub : Sub σ σ0) (hds : dstsB l.toArray m n σ = true) (hst : AllStay Φs) (hq : AllP P n l.toArray Φs σ w 0 Φs l)
    (fin : ∀ β w', Below w.heap.size w w' → DepsP Φs β w' (List.range m) → WA P n l.toArray Q (fun _ => True) (l.toArray.size - m) (doneTo l.toArray.size m) (PEnv β l.toArray (List.range m) ++ σ) w') :
    WA P n l.toArray Q (fun _ => True) l.toArray.size (Array.replicate l.toArray.size false) σ0 w := by
  refine ⟨fun a hk0 => wpAnyH_true _ _ _ _ ?_⟩
  have hH : Φs.length = m := Nat.eq_of_beq_eq_true hlen
  have hk := hk0.sub hsub
  have hB' := hB
  simp only [phaseB, Bool.and_eq_true, Nat.ble_eq] at hB'
  refine wpAny_phase (h := m) hB (fun p a u => Known n a σ ∧ Below w.heap.size w u ∧ ∀ i Φ, i < m → p i = true → Φs[i]? = some Φ → Φ (valAt l.toArray a i) u) ?_ ?_ ?_ l.toArray.size _ a _ (by simp) (fun j _ _ hj => by rw [getD_replicate_false] at hj; cases hj) (fun t _ => getD_replicate_false _ _) ?_ ?_
  · rintro p p' a w hpp ⟨h1, h2, h3⟩
    exact ⟨h1, h2, fun i Φ hi hp => h3 i Φ hi (by rw [hpp i hi]; exact hp)⟩
  · rintro p a u i o ⟨h1, h2, h3⟩ hi ho hpi hdep
    have hlH : i < Φs.length := by omega
    have hΦ : Φs[i]? = some Φs[i] := List.getElem?_eq_getElem hlH
    have hs := List.all_eq_true.1 hall i (List.mem_range.2 hi)
    rw [ho] at hs
    obtain ⟨d, hd⟩ : ∃ d, o.dst = some d := Option.isSome_iff_exists.1 hs
    have hd2 : (l.toArray[i]?).bind (·.dst) = some d := by rw [ho]; exact hd
    have hsp := dsts_spec hds hi hd2
    have hw := AllP.at Φs l 0 hq i Φs[i] o hΦ (by simpa using ho) (valAt l.toArray a) u h2 (DepsP.of fun j hj Φ hj2 => by
      simp only [Nat.zero_add, depsOf, ho] at hj
      obtain ⟨e, he, rfl⟩ := List.mem_map.1 hj
      obtain ⟨he1, he2⟩ := List.mem_filter.1 he
      have hon := headB8_head hB'.2 ho hi e (by simpa using he1) he2
      exact h3 e.on Φ (by omega) (hdep e (by simpa using he1) he2) hj2)
    rw [Nat.zero_add] at hw
    refine quietP_run ho hd hsp.1 hw (known_PEnv h1) fun w' v hb hv => ⟨known_put h1 fun d' e => ?_, h2.trans (hb.mono h2.size), fun j Φ hj hp hj2 => ?_⟩
    · rw [hd] at e; cases e; exact hsp.2.1
    · by_cases e : j = i
      · subst e
        rw [hΦ] at hj2
        have e2 := Option.some.inj hj2
        subst e2
        rw [valAt, hd2, hd]
        simp only
        rw [put_same (by rw [h1.size]; exact hsp.1)]
        exact hv
      · simp only [beqF e, cond_false] at hp
        have h4 := h3 j Φ hj hp hj2
        have h5 : valAt l.toArray (a.put o.dst v) j = valAt l.toArray a j := by
          unfold valAt
          cases hdj : (l.toArray[j]?).bind (·.dst) with
          | none => rfl
          | some dj =>
            simp only
            rw [hd]
            exact put_other fun e2 => hsp.2.2 j dj hj e hdj e2.symm
        rw [h5]
        exact AllStay.at hst j Φ hj2 _ _ _ h4 hb
  · rintro a u ⟨h1, h2, h3⟩
    exact wpAny_of_held _ _ _ _ ((fin (valAt l.toArray a) u h2 (DepsP.of fun i hi Φ hj2 => h3 i Φ (List.mem_range.1 hi) rfl hj2)).out a (known_PEnv h1))
  · have hf : (List.range m).filter (fun i => !(Array.replicate l.toArray.size false).getD i false) = List.range m := by
      rw [List.filter_eq_self]
      intro i _
      rw [getD_replicate_false]; rfl
    rw [hf, List.length_range]
    omega
  · exact ⟨hk, Below.refl _ w, fun i Φ _ hp => (by simp only [getD_replicate_false] at hp; cases hp)⟩
theorem exec_assign {x : Operand} {v : Value} {d : Option Nat} {ty : TypeId} {pos : String} {af : Array Edge} {g : Option (Nat × Bool)} (hx : ev σ x = some v) : ∀ a, Known n a σ → ∀ w, True → (execOp a.eval ⟨d, .assign x, ty, pos, af, g⟩).run P w = .ok (.value v) w := fun a ha w _ => by simp [execOp, ha.eval hx]
/-- The slots that are written from operation 'm' on are apart, and the slots of 'σ' are none of them. -/
def dstsM (ops : Array Oper) (m n : Nat) (σ : Env) : Bool :=
  (List.range ops.size).all fun i => Nat.blt i m || match (ops[i]?).bind (·.dst) with
    | none => false
    | some d => Nat.blt d n && σ.all (fun p => !(Nat.beq p.1 d)) && (List.range ops.size).all fun j => Nat.blt j m || Nat.beq i j || (match (ops[j]?).bind (·.dst) with | some d' => !(Nat.beq d' d) | none => true)
theorem dstsM_spec {ops : Array Oper} {m n : Nat} {σ : Env} (hds : dstsM ops m n σ = true) {i : Nat} (hm : m ≤ i) (hi : i < ops.size) :
    ∃ d, (ops[i]?).bind (·.dst) = some d ∧ d < n ∧ (∀ p ∈ σ, p.1 ≠ d) ∧ ∀ j d', m ≤ j → j < ops.size → j ≠ i → (ops[j]?).bind (·.dst) = some d' → d' ≠ d := by
  have h1 := List.all_eq_true.1 hds i (List.mem_range.2 hi)
  have hb : ∀ j, m ≤ j → Nat.blt j m = false := fun j hj => by
    cases hc : Nat.blt j m with
    | false => rfl
    | true => have : j < m := by simpa [Nat.blt_eq] using hc
              omega
  rw [hb i hm, Bool.false_or] at h1
  cases hd : (ops[i]?).bind (·.dst) with
  | none => rw [hd] at h1; cases h1
  | some d =>
    rw [hd] at h1
    simp only [Bool.and_eq_true, Nat.blt_eq, List.all_eq_true, List.mem_range, Bool.or_eq_true, Bool.not_eq_true'] at h1
    obtain ⟨⟨h2, h3⟩, h4⟩ := h1
    refine ⟨d, rfl, h2, fun p hp e => ?_, fun j d' hmj hj hne hd' e => ?_⟩
    · have h5 := h3 p hp
      rw [e, Nat.beq_refl] at h5
      cases h5
    · rcases h4 j hj with (h5 | h5) | h5
      · omega
      · exact hne (Nat.eq_of_beq_eq_true h5).symm
      · rw [hd'] at h5
        subst e
        simp only [Nat.beq_refl] at h5
        cases h5
def valOf (m : Nat) (V : List Value) (i : Nat) : Value := V.getD (i - m) undef
def AllX (P : Program) (n : Nat) (ops : Array Oper) (m : Nat) (V0 : List Value) (σ : Env) : Nat → List Value → List Oper → Prop
  | i, v :: V, o :: l => (o.guard = none ∧ ∀ a, Known n a (PEnv (valOf m V0) ops ((depsOf ops i).filter (Nat.ble m ·)) ++ σ) → ∀ w, True → (execOp a.eval o).run P w = .ok (.value v) w) ∧ AllX P n ops m V0 σ (i + 1) V l
  | _, [], _ => True
  | _, _ :: _, [] => False
theorem AllX.at {m : Nat} {V0 : List Value} : ∀ (V : List Value) (l : List Oper) (q : Nat), AllX P n ops m V0 σ q V l → ∀ (i : Nat) (v : Value) (o : Oper), V[i]? = some v → l[i]? = some o →
    o.guard = none ∧ ∀ a, Known n a (PEnv (valOf m V0) ops ((depsOf ops (q + i)).filter (Nat.ble m ·)) ++ σ) → ∀ w, True → (execOp a.eval o).run P w = .ok (.value v) w
  | [], _, _, _, i, v, o, hi, _ => by simp at hi
  | _ :: _, [], _, _, i, v, o, _, ho => by simp at ho
  | x :: V, o' :: l, q, h, 0, v, o, hi, ho => by
    simp only [List.getElem?_cons_zero, Option.some.injEq] at hi ho
    subst hi; subst ho
    exact h.1
  | x :: V, o' :: l, q, h, i + 1, v, o, hi, ho => by
    rw [show q + (i + 1) = q + 1 + i by omega]
    exact AllX.at V l (q + 1) h.2 i v o (by simpa using hi) (by simpa using ho)
theorem known_PEnvV {m : Nat} {V : List Value} {a : Act} {is : List Nat} (hk : Known n a σ) (h : ∀ i ∈ is, ∀ d, (ops[i]?).bind (·.dst) = some d → a.tmps.getD d undef = valOf m V i) : Known n a (PEnv (valOf m V) ops is ++ σ) := by
  refine ⟨hk.size, hk.defers, fun t v hv => ?_⟩
  rcases look_append _ _ t v hv with h2 | h2
  · obtain ⟨i, hi, hd, e⟩ := look_PEnv (valOf m V) ops is t v h2
    rw [e]
    exact h i hi t hd
  · exact hk.at_ t v h2
theorem doneTo_getD (s m i : Nat) (hi : i < s) : (doneTo s m).getD i false = Nat.blt i m := by
  rw [Array.getD_eq_getD_getElem?]
  simp [doneTo, hi]
theorem doneTo_out (s m i : Nat) (hi : s ≤ i) : (doneTo s m).getD i false = false := by
  rw [Array.getD_eq_getD_getElem?]
  simp [doneTo, Nat.not_lt.2 hi]
theorem notDone_length (s m : Nat) : ∀ k, k ≤ s → ((List.range k).filter fun i => !(doneTo s m).getD i false).length = k - m := by
  intro k hk
  induction k with
  | zero => simp
  | succ k ih =>
    rw [List.range_succ, List.filter_append, List.length_append, ih (by omega)]
    have h3 := doneTo_getD s m k (by omega)
    by_cases e : k < m
    · have h2 : Nat.blt k m = true := by simpa [Nat.blt_eq] using e
      rw [h2] at h3
      simp only [List.filter_cons, List.filter_nil, h3, Bool.not_true, Bool.false_eq_true, if_false, List.length_nil]
      omega
    · have h2 : Nat.blt k m = false := by
        cases hc : Nat.blt k m with
        | false => rfl
        | true => exact absurd (by simpa [Nat.blt_eq] using hc) e
      rw [h2] at h3
      simp only [List.filter_cons, List.filter_nil, h3, Bool.not_false, if_true, List.length_cons, List.length_nil]
      omega
/-- What is left comes to one value each, whatever stands in memory, in any order. -/
theorem WA.pureRest {l : List Oper} (m : Nat) (V : List Value) (hB : phaseB l.toArray l.toArray.size = true) (hm : Nat.ble m l.toArray.size = true) (hlen : Nat.beq (m + V.length) l.toArray.size = true) (σ : Env) {σ0 : Env} (hsub : Sub σ σ0) (hds : dstsM l.toArray m n σ = true)
    (hq : AllX P n l.toArray m V σ m V (l.drop m)) (h : N P n R k (PEnv (valOf m V) l.toArray ((List.range l.toArray.size).filter (Nat.ble m ·)) ++ σ) w) :
    WA P n l.toArray (k.post P R) (fun _ => True) (l.toArray.size - m) (doneTo l.toArray.size m) σ0 w := by
  have hle : m ≤ l.toArray.size := by simpa using hm
  have hV : m + V.length = l.toArray.size := Nat.eq_of_beq_eq_true hlen
  have hhead : headB8 l.toArray l.toArray.size = true := by simp only [phaseB, Bool.and_eq_true] at hB; exact hB.2
  refine ⟨fun a hk0 => wpAnyH_true _ _ _ _ ?_⟩
  have hk := hk0.sub hsub
  refine wpAny_phase (h := l.toArray.size) hB (fun p a u => u = w ∧ (∀ i, i < m → p i = true) ∧ Known n a σ ∧ ∀ i, m ≤ i → i < l.toArray.size → p i = true → valAt l.toArray a i = valOf m V i) ?_ ?_ ?_ _ _ a _ (by simp [doneTo]) ?_ ?_ ?_ ?_
  · rintro p p' a u hpp ⟨h1, h2, h3, h4⟩
    exact ⟨h1, fun i hi => by rw [← hpp i (by omega)]; exact h2 i hi, h3, fun i hmi hi hp => h4 i hmi hi (by rw [hpp i hi]; exact hp)⟩
  · rintro p a u i o ⟨rfl, h2, h3, h4⟩ hi ho hpi hdep
    have hmi : m ≤ i := by
      apply Classical.byContradiction
      intro hc
      rw [h2 i (by omega)] at hpi; cases hpi
    obtain ⟨d, hd, hdn, hdσ, hdj⟩ := dstsM_spec hds hmi hi
    have hod : o.dst = some d := by rw [ho] at hd; exact hd
    have hVi : V[i - m]? = some (valOf m V i) := by
      have : i - m < V.length := by omega
      unfold valOf
      rw [List.getD_eq_getElem?_getD, List.getElem?_eq_getElem this]; rfl
    obtain ⟨hg, hex⟩ := AllX.at V (l.drop m) m hq (i - m) _ o hVi (by rw [List.getElem?_drop, show m + (i - m) = i by omega]; simpa using ho)
    rw [show m + (i - m) = i by omega] at hex
    refine wpOp_pure ho hg (hex a (known_PEnvV h3 fun j hj d' hd' => ?_) u trivial) ⟨rfl, fun j hj => ?_, ?_, fun j hmj hj hp => ?_⟩
    · obtain ⟨hj1, hj2⟩ := List.mem_filter.1 hj
      have hj2 : m ≤ j := by simpa using hj2
      simp only [depsOf, ho] at hj1
      obtain ⟨e, he, rfl⟩ := List.mem_map.1 hj1
      obtain ⟨he1, he2⟩ := List.mem_filter.1 he
      have hon := headB8_head hhead ho hi e (by simpa using he1) he2
      have h5 := h4 e.on hj2 (by omega) (hdep e (by simpa using he1) he2)
      rw [valAt, hd'] at h5
      exact h5
    · simp only [beqF (show ¬ j = i by omega), cond_false]
      exact h2 j hj
    · rw [hod]; exact known_put h3 fun d' e => by cases e; exact hdσ
    · by_cases e : j = i
      · subst e
        rw [valAt, hd, hod]
        exact put_same (by rw [h3.size]; exact hdn)
      · simp only [beqF e, cond_false] at hp
        rw [← h4 j hmj hj hp]
        unfold valAt
        cases hdj' : (l.toArray[j]?).bind (·.dst) with
        | none => rfl
        | some dj =>
          simp only
          rw [hod]
          exact put_other fun e2 => hdj j dj hmj hj e hdj' e2.symm
  · rintro a u ⟨rfl, h2, h3, h4⟩
    rw [Nat.sub_self]
    refine ⟨?_, h.out a (known_PEnvV h3 fun i hi d hd => ?_)⟩
    · rw [List.eq_nil_iff_forall_not_mem]
      intro i hi
      obtain ⟨h0, o, ho, _⟩ := mem_ready.1 hi
      have hlt := (Array.getElem?_eq_some_iff.1 ho).1
      have h5 := getD_both h0
      rw [doneTo_getD _ _ _ hlt, show Nat.blt i l.toArray.size = true by simpa [Nat.blt_eq] using hlt] at h5
      cases h5
    · obtain ⟨hi1, hi2⟩ := List.mem_filter.1 hi
      have h5 := h4 i (by simpa using hi2) (List.mem_range.1 hi1) rfl
      rw [valAt, hd] at h5
      exact h5
  · intro j oj hoj hlj e he hb
    have hlt := (Array.getElem?_eq_some_iff.1 hoj).1
    rw [doneTo_getD _ _ _ hlt] at hlj
    have hjm : j < m := by simpa using hlj
    have hon := headB8_head hhead hoj hlt e he hb
    rw [doneTo_getD _ _ _ (by omega)]
    simp; omega
  · intro t ht
    exact doneTo_out _ _ _ ht
  · rw [notDone_length _ m l.toArray.size (Nat.le_refl _), Nat.sub_self, Nat.add_zero]
  · refine ⟨rfl, fun i hi => ?_, hk, fun i hmi hi hp => ?_⟩
    · show (doneTo l.toArray.size m).getD i false = true
      rw [doneTo_getD _ _ _ (by omega)]; simpa using hi
    replace hp : (doneTo l.toArray.size m).getD i false = true := hp
    rw [doneTo_getD _ _ _ hi] at hp
    have : i < m := by simpa using hp
    omega
end
end Go.Proofs.Ytdlcmhkfglckfaa
