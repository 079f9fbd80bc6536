/-
  An own block that is only read from here on. No condition beyond those that each theorem states.
-/
import Derived.Test.YtcmmhfknkldmcaaA14
namespace Go.Proofs.Ytcmmhfknkldmcaa
open Go.RowKit

section
variable {w0 ws w : World} {ro : Nat → Prop} {L : List (Nat × Obj)} {Rs : List Row} {b : Nat} {o : Obj}
/-- A row of the call's own that is only read from here on. -/
theorem St.giveRow {r : Row} (h : St w0 ws w ro L (r :: Rs)) : St w0 w w (fun x => ro x ∨ r.v.ownBlock = some x) L Rs := by
  have hs : List.Sublist (keysOf L Rs) (keysOf L (r :: Rs)) := List.Sublist.append (List.Sublist.refl _) ((List.sublist_cons_self r Rs).filterMap _)
  have hk : ∀ x, r.v.ownBlock = some x → x ∈ keysOf L (r :: Rs) := fun x e => by simp only [keysOf, List.mem_append, List.mem_filterMap]; exact .inr ⟨r, List.mem_cons_self, e⟩
  refine ⟨h.below, fun x hx => ⟨hx.elim (fun hx => (h.snap x hx).1) (fun hx => (h.keys x (hk x hx)).2.1), rfl⟩, h.own, fun q hq => h.rows q (List.mem_cons_of_mem _ hq), fun x hx => ?_, List.Nodup.sublist hs h.nodup⟩
  obtain ⟨h1, h2, h3⟩ := h.keys x (hs.subset hx)
  refine ⟨h1, h2, fun hr => hr.elim h3 fun e => ?_⟩
  have hnd := h.nodup
  simp only [keysOf, List.filterMap_cons, e] at hnd
  have hp : (List.map (·.1) L ++ x :: List.filterMap (fun q : Row => q.v.ownBlock) Rs).Perm (x :: (List.map (·.1) L ++ List.filterMap (fun q : Row => q.v.ownBlock) Rs)) := List.perm_middle
  have := (List.nodup_cons.1 (hp.nodup_iff.1 hnd)).1
  exact this hx
end
section
open Go.MapKept
variable {P : Program} {n : Nat} {R : Exit → Act → World → Prop} {k : Kt} {σ : Env} {w : World} {ops : Array Oper} {rest : List Oper}
variable {ty : TypeId} {pos : String} {af : Array Edge} {gd : Option (Nat × Bool)}
variable {w0 ws : World} {ro : Nat → Prop} {L : List (Nat × Obj)} {Rs : List Row}
variable {κ ν : Type} {kv : κ → Value} {vv : ν → Value} {es : Array MapEntry} {clock m : Nat} {g : κ → Option ν} {dk : TypeDesc} {mty kt et b : Nat}
end
section
variable {w0 ws w : World} {ro : Nat → Prop} {L : List (Nat × Obj)} {Rs : List Row} {a b c d r r' : Row}
/-- A row in other words. -/
theorem St.rw0 (h : St w0 ws w ro L (r :: Rs)) (e : r' = r) : St w0 ws w ro L (r' :: Rs) := by rw [e]; exact h
end
end Go.Proofs.Ytcmmhfknkldmcaa
