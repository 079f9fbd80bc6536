/-
  Rows that a call hands over, in the walks of these claims. No condition beyond those that each theorem states.
-/
import Derived.Test.YtcmmhfknkldmcaaA7
namespace Go.Proofs.Ytcmmhfknkldmcaa
open Go.RowKit

theorem chunks_all {α : Type} {sz : Nat} {Q : List Value → α → Prop} {cs : List Value} {xs : List α} {p : Value → Prop} (h : Chunks sz Q cs xs) (h0 : 0 < sz) (hq : ∀ c x, Q c x → ∀ u ∈ c, p u) : ∀ u ∈ cs, p u := by
  intro u hu
  obtain ⟨j, hj⟩ := List.mem_iff_getElem?.1 hu
  have hlt : j < xs.length * sz := by rw [← h.1]; exact (List.getElem?_eq_some_iff.1 hj).1
  have hi : j / sz < xs.length := (Nat.div_lt_iff_lt_mul h0).2 hlt
  refine hq _ _ (h.2 (j / sz) xs[j / sz] (List.getElem?_eq_getElem hi)) u ?_
  apply List.mem_iff_getElem?.2
  refine ⟨j % sz, ?_⟩
  rw [List.getElem?_take_of_lt (Nat.mod_lt _ h0), List.getElem?_drop]
  rw [show j / sz * sz + j % sz = j by rw [Nat.mul_comm]; exact Nat.div_add_mod j sz]
  exact hj
theorem elems_news {α : Type} {ro : Nat → Prop} {w : World} {sz : Nat} {Q : List Value → α → Prop} {ad : Option Addr} {xs : List α} (h : Elems ro w sz Q ad xs) :
    ∃ cs, Chunks sz Q cs xs ∧ (∀ b off, ad = some ⟨b, off, none⟩ → CellsAt w b off cs ∧ (cs ≠ [] → ro b)) ∧ (∀ a, ad = some a → xs.length ≠ 0 → a.spot = none) := by
  cases xs with
  | nil => exact ⟨[], Chunks.nil, fun b off _ => ⟨fun j v hj => by simp at hj, fun h => absurd rfl h⟩, fun a _ h0 => absurd rfl h0⟩
  | cons x r =>
    obtain ⟨b, off, c, e1, e2, _, _, _⟩ := h 0 x (by simp)
    subst e1
    obtain ⟨cs, h1, h2⟩ := elems_cells h
    refine ⟨cs, h2, fun b' off' e => ?_, fun a e _ => ?_⟩
    · cases e; exact ⟨h1, fun _ => e2⟩
    · cases e; rfl
theorem ownsRow_base {w : World} {base base' e sz n : Nat} {v : Value} {xs : List Value} (h : w.ownsRow base e sz v n xs) (hb : base' ≤ base) : w.ownsRow base' e sz v n xs := by
  refine ⟨h.1, ?_⟩
  rcases h.2 with h2 | ⟨g, cap, cur, hv, hg, r⟩
  · exact .inl h2
  · exact .inr ⟨g, cap, cur, hv, Nat.le_trans hb hg, r⟩
section
variable {w0 ws w w' : World} {ro : Nat → Prop} {L : List (Nat × Obj)} {Rs : List Row}
end
theorem Elems.keep {α : Type} {ro ro' : Nat → Prop} {w w' : World} {sz : Nat} {Q Q' : List Value → α → Prop} {ad : Option Addr} {xs : List α} (h : Elems ro w sz Q ad xs) (ha : Alike ro w ro' w') (hq : ∀ cs x, Q cs x → Q' cs x) : Elems ro' w' sz Q' ad xs := by
  intro i x hx
  obtain ⟨b, off, cs, e1, e2, e3, e4, e5⟩ := h i x hx
  exact ⟨b, off, cs, e1, (ha b e2).1, e3, e4.keep (ha b e2).2, hq _ _ e5⟩
/-- What is read, from the call's begin to a later world in which more is read. -/
theorem St.alikeTo {w0 ws w w' : World} {ro ro' : Nat → Prop} {L : List (Nat × Obj)} {Rs : List Row} (h : St w0 ws w ro L Rs) (hb : Below w.heap.size w w') (hs : ∀ b, ro b → ro' b) : Alike ro ws ro' w' := fun b hr =>
  ⟨hs b hr, (hb.block b (h.snap b hr).1).trans (h.snap b hr).2⟩
theorem Alike.mono {ro ro' ro'' : Nat → Prop} {w w' : World} (h : Alike ro w ro' w') (hs : ∀ b, ro' b → ro'' b) : Alike ro w ro'' w' := fun b hb => ⟨hs b (h b hb).1, (h b hb).2⟩
theorem Alike.refl {ro : Nat → Prop} {w : World} : Alike ro w ro w := fun _ h => ⟨h, rfl⟩
/-- What is read, and what the call has made since. -/
def roFrom (ro : Nat → Prop) (w w' : World) : Nat → Prop := fun x => ro x ∨ (w.heap.size ≤ x ∧ x < w'.heap.size)
theorem St.readNew {w0 ws w w' : World} {ro : Nat → Prop} {L : List (Nat × Obj)} {Rs : List Row} (h : St w0 ws w ro L Rs) (hb : Below w.heap.size w w') : St w0 w' w' (roFrom ro w w') L Rs :=
  h.read hb (fun b hr => hr.imp id (·.1)) (fun b hr => hr.elim (fun h1 => Nat.lt_of_lt_of_le (h.snap b h1).1 hb.size) (·.2))
theorem row_some {w : World} {base e sz n cap : Nat} {ad : Option Addr} {xs : List Value} (h : w.ownsRow base e sz (.slice ad n cap) n xs) (hn : n ≠ 0) : ∃ g, ad = some ⟨g, 0, none⟩ := by
  rcases h.2 with ⟨_, h0⟩ | ⟨g, cap', cur, hv, _⟩
  · exact absurd h0 hn
  · cases hv; exact ⟨g, rfl⟩
theorem take_next {α : Type} {l : List α} {k : Nat} {x : α} (h : l[k]? = some x) : l.take (k + 1) = l.take k ++ [x] := by
  rw [List.take_add_one, h]; rfl
end Go.Proofs.Ytcmmhfknkldmcaa
