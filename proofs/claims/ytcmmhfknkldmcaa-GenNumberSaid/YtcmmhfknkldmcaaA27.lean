/-
  A region that draws its order: a set of operations that only add to memory comes in any order; of each value a predicate that stays. No condition beyond those that each theorem states.
-/
import Derived.Test.YtcmmhfknkldmcaaA26
namespace Go.Proofs.Ytcmmhfknkldmcaa
open Go.RowKit

abbrev Phi := Value → World → Prop
def assocP (V : List (Nat × Phi)) (i : Nat) : Phi := (V.find? fun p => Nat.beq p.1 i).elim (fun _ _ => True) (·.2)
def DepsA (V : List (Nat × Phi)) (β : Nat → Value) (w : World) : List Nat → Prop
  | [] => True
  | i :: r => assocP V i (β i) w ∧ DepsA V β w r
theorem DepsA.of {V : List (Nat × Phi)} {β : Nat → Value} {w : World} : ∀ {is : List Nat}, (∀ i ∈ is, assocP V i (β i) w) → DepsA V β w is
  | [], _ => trivial
  | i :: r, h => ⟨h i List.mem_cons_self, DepsA.of fun j hj => h j (List.mem_cons_of_mem _ hj)⟩
def StaysA : List (Nat × Phi) → Prop
  | [] => True
  | p :: V => Stays p.2 ∧ StaysA V
theorem StaysA.at : ∀ {V : List (Nat × Phi)}, StaysA V → ∀ p ∈ V, Stays p.2
  | _ :: _, h, _, hm => by
    rcases List.mem_cons.1 hm with e | hm
    · rw [e]; exact h.1
    · exact StaysA.at h.2 _ hm
section
variable {P : Program} {n : Nat} {ops : Array Oper} {R : Exit → Act → World → Prop} {k : Kt} {σ : Env} {w : World} {Q : Exit → Act → World → Prop} {S : World → Prop} {fuel : Nat}
def AllA (P : Program) (n : Nat) (ops : Array Oper) (V0 : List (Nat × Phi)) (σ : Env) (w1 : World) : List (Nat × Phi) → Prop
  | [] => True
  | (i, Φ) :: V => (∀ β u, Below w1.heap.size w1 u → DepsA V0 β u ((depsOf ops i).filter fun j => V0.any fun p => Nat.beq p.1 j) → ∃ o, ops[i]? = some o ∧
      WL P n NoR ops [o] (.cut (CI n (fun v : Value => putS o.dst v []) (fun v w' => Below u.heap.size u w' ∧ Φ v w')) .fin) (PEnv β ops ((depsOf ops i).filter fun j => V0.any fun p => Nat.beq p.1 j) ++ σ) u) ∧ AllA P n ops V0 σ w1 V
theorem AllA.at {V0 : List (Nat × Phi)} {w1 : World} : ∀ (V : List (Nat × Phi)), AllA P n ops V0 σ w1 V → ∀ i Φ o, (i, Φ) ∈ V → ops[i]? = some o → ∀ β u, Below w1.heap.size w1 u → DepsA V0 β u ((depsOf ops i).filter fun j => V0.any fun p => Nat.beq p.1 j) →
    WL P n NoR ops [o] (.cut (CI n (fun v : Value => putS o.dst v []) (fun v w' => Below u.heap.size u w' ∧ Φ v w')) .fin) (PEnv β ops ((depsOf ops i).filter fun j => V0.any fun p => Nat.beq p.1 j) ++ σ) u
  | [], _, _, _, _, h, _ => by cases h
  | (j, Ψ) :: V, h, i, Φ, o, hm, ho => by
    rcases List.mem_cons.1 hm with e | hm
    · cases e
      intro β u hb hd
      obtain ⟨o', ho', hw⟩ := h.1 β u hb hd
      rw [ho'] at ho
      cases ho
      exact hw
    · exact AllA.at V h.2 i Φ o hm ho
end
end Go.Proofs.Ytcmmhfknkldmcaa
