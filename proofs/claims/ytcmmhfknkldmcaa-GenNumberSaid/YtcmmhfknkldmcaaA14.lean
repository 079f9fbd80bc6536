/-
  A statement whose order Go leaves open, with one store among what comes first: what need not wait for the store comes to the same ahead of it and behind it. No condition beyond those that each theorem states.
-/
import Derived.Test.YtcmmhfknkldmcaaA13
namespace Go.Proofs.Ytcmmhfknkldmcaa
open Go.RowKit

/-- The head's operations one by one; 's' is the store. -/
def AllS (P : Program) (n : Nat) (ops : Array Oper) (H0 : List Value) (σ : Env) (s : Nat) (C1 C2 : World → Prop) : Nat → List (Value × Bool) → List Oper → Prop
  | i, (v, b) :: H, o :: l => (bif Nat.beq i s then (∀ w, C1 w → WL P n NoR ops [o] (.cut (CI n (fun _ : Unit => ([] : Env)) (fun _ w' => C2 w')) .fin) (hEnv (fun _ => 0) (H0.map .q) ops (depsOf ops i) ++ σ) w)
      else (∀ C, C = C1 ∨ (bif b then False else C = C2) → ∀ w, C w → WL P n NoR ops [o] (.cut (CI n (fun _ : Unit => putS o.dst v []) (fun _ w' => Below w.heap.size w w')) .fin) (hEnv (fun _ => 0) (H0.map .q) ops (depsOf ops i) ++ σ) w)) ∧ AllS P n ops H0 σ s C1 C2 (i + 1) H l
  | _, [], _ => True
  | _, _ :: _, [] => False
theorem AllS.at {P : Program} {n : Nat} {ops : Array Oper} {H0 : List Value} {σ : Env} {s : Nat} {C1 C2 : World → Prop} : ∀ (H : List (Value × Bool)) (l : List Oper) (m : Nat), AllS P n ops H0 σ s C1 C2 m H l → ∀ (i : Nat) (v : Value × Bool) (o : Oper), H[i]? = some v → l[i]? = some o →
    (bif Nat.beq (m + i) s then (∀ w, C1 w → WL P n NoR ops [o] (.cut (CI n (fun _ : Unit => ([] : Env)) (fun _ w' => C2 w')) .fin) (hEnv (fun _ => 0) (H0.map .q) ops (depsOf ops (m + i)) ++ σ) w)
      else (∀ C, C = C1 ∨ (bif v.2 then False else C = C2) → ∀ w, C w → WL P n NoR ops [o] (.cut (CI n (fun _ : Unit => putS o.dst v.1 []) (fun _ w' => Below w.heap.size w w')) .fin) (hEnv (fun _ => 0) (H0.map .q) ops (depsOf ops (m + i)) ++ σ) w))
  | [], _, _, _, i, v, o, hi, _ => by simp at hi
  | _ :: _, [], _, _, i, v, o, _, ho => by simp at ho
  | x :: F, o' :: l, m, h, 0, v, o, hi, ho => by
    simp only [List.getElem?_cons_zero, Option.some.injEq] at hi ho
    subst hi; subst ho
    exact h.1
  | x :: F, o' :: l, m, h, i + 1, v, o, hi, ho => by
    rw [show m + (i + 1) = m + 1 + i by omega]
    exact AllS.at F l (m + 1) h.2 i v o (by simpa using hi) (by simpa using ho)
end Go.Proofs.Ytcmmhfknkldmcaa
