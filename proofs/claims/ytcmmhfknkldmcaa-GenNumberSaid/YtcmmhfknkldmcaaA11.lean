/-
  A statement whose order Go leaves open, where what is called hands back values that lie in memory: of each value what holds of it in every later world. No condition beyond those that each theorem states.
-/
import Derived.Test.YtcmmhfknkldmcaaA10
namespace Go.Proofs.Ytcmmhfknkldmcaa
open Go.RowKit

def PEnv (β : Nat → Value) (ops : Array Oper) : List Nat → Env
  | [] => []
  | i :: r => match (ops[i]?).bind (·.dst) with
    | some d => (d, β i) :: PEnv β ops r
    | none => PEnv β ops r
theorem look_PEnv (β : Nat → Value) (ops : Array Oper) : ∀ (is : List Nat) (t : Nat) (v : Value), look (PEnv β ops is) t = some v → ∃ i ∈ is, (ops[i]?).bind (·.dst) = some t ∧ v = β i
  | [], _, _, hv => by cases hv
  | i :: r, t, v, hv => by
    have rec_ : look (PEnv β ops r) t = some v → ∃ i' ∈ i :: r, (ops[i']?).bind (·.dst) = some t ∧ v = β i' := fun h => by
      obtain ⟨i', hi', rest⟩ := look_PEnv β ops r t v h
      exact ⟨i', List.mem_cons_of_mem _ hi', rest⟩
    simp only [PEnv] at hv
    cases hd : (ops[i]?).bind (·.dst) with
    | none => rw [hd] at hv; exact rec_ hv
    | some d =>
      rw [hd] at hv
      simp only [look] at hv
      cases hc : Nat.beq d t with
      | true =>
        rw [hc] at hv
        have e : d = t := Nat.eq_of_beq_eq_true hc
        subst e
        exact ⟨i, List.mem_cons_self, hd, (Option.some.inj hv).symm⟩
      | false => rw [hc] at hv; exact rec_ hv
def valAt (ops : Array Oper) (a : Act) (i : Nat) : Value := match (ops[i]?).bind (·.dst) with
  | some d => a.tmps.getD d undef
  | none => undef
/-- What is known of the values of some operations. -/
def DepsP (Φs : List (Value → World → Prop)) (β : Nat → Value) (w : World) : List Nat → Prop
  | [] => True
  | i :: r => (match Φs[i]? with | some Φ => Φ (β i) w | none => True) ∧ DepsP Φs β w r
theorem DepsP.of {Φs : List (Value → World → Prop)} {β : Nat → Value} {w : World} : ∀ {is : List Nat}, (∀ i ∈ is, ∀ Φ, Φs[i]? = some Φ → Φ (β i) w) → DepsP Φs β w is
  | [], _ => trivial
  | i :: r, h => ⟨by
      cases e : Φs[i]? with
      | none => trivial
      | some Φ => exact h i List.mem_cons_self Φ e, DepsP.of fun j hj => h j (List.mem_cons_of_mem _ hj)⟩
/-- The head's operations one by one. -/
def AllP (P : Program) (n : Nat) (ops : Array Oper) (Φs0 : List (Value → World → Prop)) (σ : Env) (w1 : World) : Nat → List (Value → World → Prop) → List Oper → Prop
  | i, Φ :: F, o :: l => (∀ β w, Below w1.heap.size w1 w → DepsP Φs0 β w (depsOf ops i) → WL P n NoR ops [o] (.cut (CI n (fun v : Value => putS o.dst v []) (fun v w' => Below w.heap.size w w' ∧ Φ v w')) .fin) (PEnv β ops (depsOf ops i) ++ σ) w) ∧ AllP P n ops Φs0 σ w1 (i + 1) F l
  | _, [], _ => True
  | _, _ :: _, [] => False
theorem AllP.at {P : Program} {n : Nat} {ops : Array Oper} {F0 : List (Value → World → Prop)} {σ : Env} {w1 : World} : ∀ (F : List (Value → World → Prop)) (l : List Oper) (m : Nat), AllP P n ops F0 σ w1 m F l → ∀ (i : Nat) (Φ : Value → World → Prop) (o : Oper), F[i]? = some Φ → l[i]? = some o →
    ∀ β w, Below w1.heap.size w1 w → DepsP F0 β w (depsOf ops (m + i)) → WL P n NoR ops [o] (.cut (CI n (fun v : Value => putS o.dst v []) (fun v w' => Below w.heap.size w w' ∧ Φ v w')) .fin) (PEnv β ops (depsOf ops (m + i)) ++ σ) w
  | [], _, _, _, i, v, o, hi, _ => by simp at hi
  | _ :: _, [], _, _, i, v, o, _, ho => by simp at ho
  | x :: F, o' :: l, m, h, 0, v, o, hi, ho => by
    simp only [List.getElem?_cons_zero, Option.some.injEq] at hi ho
    subst hi; subst ho
    exact h.1
  | x :: F, o' :: l, m, h, i + 1, v, o, hi, ho => by
    rw [show m + (i + 1) = m + 1 + i by omega]
    exact AllP.at F l (m + 1) h.2 i v o (by simpa using hi) (by simpa using ho)
/-- What has come to be known of a value goes on in every later world. -/
def Stays (Φ : Value → World → Prop) : Prop := ∀ v w w', Φ v w → Below w.heap.size w w' → Φ v w'
def AllStay : List (Value → World → Prop) → Prop
  | [] => True
  | Φ :: r => Stays Φ ∧ AllStay r
theorem AllStay.at : ∀ {F : List (Value → World → Prop)}, AllStay F → ∀ (i : Nat) Φ, F[i]? = some Φ → Stays Φ
  | x :: F, h, 0, Φ, hi => by
    simp only [List.getElem?_cons_zero, Option.some.injEq] at hi
    subst hi; exact h.1
  | x :: F, h, i + 1, Φ, hi => AllStay.at h.2 i Φ (by simpa using hi)
end Go.Proofs.Ytcmmhfknkldmcaa
