/-
  Rows that a call hands over, in the walks of these claims. No condition beyond those that each theorem states.
-/
import Derived.Test.YtdlcmhkfglckfaaA7
import Derived.ProofKit
import Derived.OpenShut
import Derived.JoinedCond
import Derived.Carry
namespace Go.Proofs.Ytdlcmhkfglckfaa
open Go.RowKit

theorem chunks_all {α : Type} {sz : Nat} {Q : List Value → α → Prop} {cs : List Value} {xs : List α} {p : Value → Prop} (h : Chunks sz Q cs xs) (h0 : 0 < sz) (hq : ∀ c x, Q c x → ∀ u ∈ c, p u) : ∀ u ∈ cs, p u := by
  intro u hu
  obtain ⟨j, hj⟩ := List.mem_iff_getElem?.1 hu
  have hlt : j < xs.length * sz := by rw [← h.1]; exact (List.getElem?_eq_some_iff.1 hj).1
  have hi : j / sz < xs.length := (Nat.div_lt_iff_lt_mul h0).2 hlt
  refine hq _ _ (h.2 (j / sz) xs[j / sz] (List.getElem?_eq_getElem hi)) u ?_
  apply List.mem_iff_getElem?.2
  refine ⟨j % sz, ?_⟩
  rw [List.getElem?_take_of_lt (Nat.mod_lt _ h0), List.getElem?_drop]
  rw [show j / sz * sz + j % sz = j by rw [Nat.mul_comm]; exact Nat.div_add_mod j sz]
  exact hj
theorem elems_news {α : Type} {ro : Nat → Prop} {w : World} {sz : Nat} {Q : List Value → α → Prop} {ad : Option Addr} {xs : List α} (h : Elems ro w sz Q ad xs) :
    ∃ cs, Chunks sz Q cs xs ∧ (∀ b off, ad = some ⟨b, off, none⟩ → CellsAt w b off cs ∧ (cs ≠ [] → ro b)) ∧ (∀ a, ad = some a → xs.length ≠ 0 → a.spot = none) := by
  cases xs with
  | nil => exact ⟨[], Chunks.nil, fun b off _ => ⟨fun j v hj => by simp at hj, fun h => absurd rfl h⟩, fun a _ h0 => absurd rfl h0⟩
  | cons x r =>
    obtain ⟨b, off, c, e1, e2, _, _, _⟩ := h 0 x (by simp)
    subst e1
    obtain ⟨cs, h1, h2⟩ := elems_cells h
    refine ⟨cs, h2, fun b' off' e => ?_, fun a e _ => ?_⟩
    · cases e; exact ⟨h1, fun _ => e2⟩
    · cases e; rfl
theorem ownsRow_base {w : World} {base base' e sz n : Nat} {v : Value} {xs : List Value} (h : w.ownsRow base e sz v n xs) (hb : base' ≤ base) : w.ownsRow base' e sz v n xs := by
  refine ⟨h.1, ?_⟩
  rcases h.2 with h2 | ⟨g, cap, cur, hv, hg, r⟩
  · exact .inl h2
  · exact .inr ⟨g, cap, cur, hv, Nat.le_trans hb hg, r⟩
section
variable {w0 ws w w' : World} {ro : Nat → Prop} {L : List (Nat × Obj)} {Rs : List Row}
/-- A row that a call has made. -/
theorem St.callRow (h : St w0 ws w ro L Rs) (hb : Below w.heap.size w w') {e sz n : Nat} {v : Value} {xs : List Value} (ho : w'.ownsRow w.heap.size e sz v n xs) : St w0 ws w' ro L (⟨v, e, sz, n, xs⟩ :: Rs) := by
  have g := h.grow hb
  have hnew : ∀ b, v.ownBlock = some b → w.heap.size ≤ b ∧ b < w'.heap.size := fun b hv => ho.lt b hv
  refine ⟨g.below, g.snap, g.own, ?_, ?_, ?_⟩
  · intro r hr
    rcases List.mem_cons.1 hr with e' | hr
    · subst e'; exact ownsRow_base ho h.below.size
    · exact g.rows r hr
  · intro x hx
    simp only [keysOf, List.mem_append, List.mem_filterMap, List.mem_cons] at hx
    rcases hx with hx | ⟨q, hq | hq, he⟩
    · exact g.keys x (by simp only [keysOf, List.mem_append]; exact .inl hx)
    · subst hq
      obtain ⟨h1, h2⟩ := hnew x he
      exact ⟨Nat.le_trans h.below.size h1, h2, fun hr => absurd (h.snap x hr).1 (by omega)⟩
    · exact g.keys x (by simp only [keysOf, List.mem_append, List.mem_filterMap]; exact .inr ⟨q, hq, he⟩)
  · cases hv : v.ownBlock with
    | none => simpa [keysOf, List.filterMap_cons, hv] using g.nodup
    | some b =>
      have hp : List.Perm (keysOf L (⟨v, e, sz, n, xs⟩ :: Rs)) (b :: keysOf L Rs) := by
        simp only [keysOf, List.filterMap_cons, hv]
        exact List.perm_middle
      refine hp.nodup_iff.2 (List.nodup_cons.2 ⟨fun hx => ?_, g.nodup⟩)
      have := (h.keys b hx).2.1
      have := (hnew b hv).1
      omega
end
theorem Elems.keep {α : Type} {ro ro' : Nat → Prop} {w w' : World} {sz : Nat} {Q Q' : List Value → α → Prop} {ad : Option Addr} {xs : List α} (h : Elems ro w sz Q ad xs) (ha : Alike ro w ro' w') (hq : ∀ cs x, Q cs x → Q' cs x) : Elems ro' w' sz Q' ad xs := by
  intro i x hx
  obtain ⟨b, off, cs, e1, e2, e3, e4, e5⟩ := h i x hx
  exact ⟨b, off, cs, e1, (ha b e2).1, e3, e4.keep (ha b e2).2, hq _ _ e5⟩
/-- What is read, from the call's begin to a later world in which more is read. -/
theorem St.alikeTo {w0 ws w w' : World} {ro ro' : Nat → Prop} {L : List (Nat × Obj)} {Rs : List Row} (h : St w0 ws w ro L Rs) (hb : Below w.heap.size w w') (hs : ∀ b, ro b → ro' b) : Alike ro ws ro' w' := fun b hr =>
  ⟨hs b hr, (hb.block b (h.snap b hr).1).trans (h.snap b hr).2⟩
theorem Alike.mono {ro ro' ro'' : Nat → Prop} {w w' : World} (h : Alike ro w ro' w') (hs : ∀ b, ro' b → ro'' b) : Alike ro w ro'' w' := fun b hb => ⟨hs b (h b hb).1, (h b hb).2⟩
theorem Alike.refl {ro : Nat → Prop} {w : World} : Alike ro w ro w := fun _ h => ⟨h, rfl⟩
/-- What is read, and what the call has made since. -/
def roFrom (ro : Nat → Prop) (w w' : World) : Nat → Prop := fun x => ro x ∨ (w.heap.size ≤ x ∧ x < w'.heap.size)
theorem St.readNew {w0 ws w w' : World} {ro : Nat → Prop} {L : List (Nat × Obj)} {Rs : List Row} (h : St w0 ws w ro L Rs) (hb : Below w.heap.size w w') : St w0 w' w' (roFrom ro w w') L Rs :=
  h.read hb (fun b hr => hr.imp id (·.1)) (fun b hr => hr.elim (fun h1 => Nat.lt_of_lt_of_le (h.snap b h1).1 hb.size) (·.2))
theorem row_some {w : World} {base e sz n cap : Nat} {ad : Option Addr} {xs : List Value} (h : w.ownsRow base e sz (.slice ad n cap) n xs) (hn : n ≠ 0) : ∃ g, ad = some ⟨g, 0, none⟩ := by
  rcases h.2 with ⟨_, h0⟩ | ⟨g, cap', cur, hv, _⟩
  · exact absurd h0 hn
  · cases hv; exact ⟨g, rfl⟩
/-- All that there is, is only read from here on; what was the call's own is let go. -/
theorem St.readAll {w0 ws w w' : World} {ro : Nat → Prop} {L : List (Nat × Obj)} {Rs : List Row} (h : St w0 ws w ro L Rs) (hb : Below w.heap.size w w') : St w0 w' w' (fun x => x < w'.heap.size) [] [] :=
  ⟨h.below.trans (hb.mono h.below.size), fun b hb => ⟨hb, rfl⟩, by simp, by simp, by simp [keysOf], by simp [keysOf]⟩
theorem alikeAll {w w' : World} (hb : Below w.heap.size w w') : Alike (roFrom (fun x => x < w.heap.size) w w') w' (fun x => x < w'.heap.size) w' := fun _ hx => ⟨hx.elim (fun h => Nat.lt_of_lt_of_le h hb.size) (·.2), rfl⟩
theorem take_next {α : Type} {l : List α} {k : Nat} {x : α} (h : l[k]? = some x) : l.take (k + 1) = l.take k ++ [x] := by
  rw [List.take_add_one, h]; rfl
theorem one_ints {c : List Value} {x : Int} (h : IntC c x) : ∀ u ∈ c, u.oneCell' = true := by rw [h.1]; intro u hu; simp at hu; subst hu; rfl
theorem slv_one {α : Type} {ro : Nat → Prop} {w : World} {sz : Nat} {Q : List Value → α → Prop} {v : Value} {xs : List α} (h : SlV ro w sz Q v xs) : v.oneCell' = true := by
  obtain ⟨_, _, rfl, _⟩ := h; rfl
theorem one_func {ro : Nat → Prop} {w : World} {c : List Value} {x : DFunc} (h : FuncC ro w c x) : ∀ u ∈ c, u.oneCell' = true := by
  obtain ⟨s, rfl, h2, _⟩ := h
  intro u hu
  simp only [List.mem_cons, List.not_mem_nil, or_false] at hu
  rcases hu with rfl | rfl | rfl | rfl <;> first | rfl | exact slv_one h2
end Go.Proofs.Ytdlcmhkfglckfaa

namespace Go.Proofs.Ytdlcmhkfglckfaa
open Go.ChangeShapes Go.WideShapes Go.ChangeAt Go.RowKit

theorem trodAll_below {H : Type} {enc : TypeId × Value → H} {P : Program} (hl : laidOutB P = true) {W W' : World} (hb : Below W.heap.size W W') : ∀ (ts : List TypeId) (vs : List Value) (ds : List (DataW H)) (ps : List MemPlace),
    (∀ t ∈ ts, P.readableRec t = true ∧ t < P.types.size) → DataW.TrodAll enc P W 0 (fun _ => true) true ts vs ds ps → (∀ x ∈ ps, x.block < W.heap.size) → DataW.TrodAll enc P W' 0 (fun b => decide (b < W.heap.size)) true ts vs ds ps
  | [], [], [], ps, _, h, _ => h
  | t :: ts, v :: vs, d :: ds, ps, hr, h, hlt => by
    obtain ⟨p, q, h1, h2, rfl⟩ := h
    obtain ⟨r1, r2⟩ := hr t List.mem_cons_self
    exact ⟨p, q, Below.trod hl r1 r2 h1 hb fun x hx => hlt x (List.mem_append_left _ hx), trodAll_below hl hb ts vs ds q (fun t ht => hr t (List.mem_cons_of_mem _ ht)) h2 fun x hx => hlt x (List.mem_append_right _ hx), rfl⟩
  | [], _ :: _, _, _, _, h, _ => h.elim
  | [], [], _ :: _, _, _, h, _ => h.elim
  | _ :: _, [], _, _, _, h, _ => h.elim
  | _ :: _, _ :: _, [], _, _, h, _ => h.elim
theorem post_true {H : Type} {enc : TypeId × Value → H} {P : Program} {f : Func} {s : ChangeSpec} {W W' : World} {args : Array Value} {ds gs : List (DataW H)} {before : List MemPlace} {bt : TypeId}
    (hW : DataW.Whole enc P f.params.toList s.vars false W args.toList ds gs before) (hb : Below W.heap.size W W') (hrt : f.resultTypes = #[bt]) (hu : P.underlying bt = some .bool) (hvars : s.vars = [])
    (hres : (s.fn H (ds ++ gs)).results = [.lit (.bool true)]) (hargs : (s.fn H (ds ++ gs)).args = ds) (hsv : (s.fn H (ds ++ gs)).vars = []) (hl : laidOutB P = true) (hrd : ∀ t ∈ f.params.toList, P.readableRec t = true ∧ t < P.types.size) :
    s.post enc P f false true false false W args (.bool true) W' := by
  have hlt := hW.lt
  have hW' := hW
  obtain ⟨p, q, hA, hV, rfl, hfz, hnd⟩ := hW
  rw [hvars] at hV
  have hq : q = [] := by
    cases gs with
    | nil => exact hV
    | cons g gs => exact hV.elim
  subst hq
  refine ⟨ds, gs, p ++ [], [], p, [], hW', ?_, ?_, ?_, ?_, fun h => by cases h⟩
  · rw [hres, hrt]
    exact trodAll_cons_mk (shut_bool hu true) trodAll_mk0
  · rw [hargs]
    exact trodAll_below hl hb _ _ _ _ hrd hA fun x hx => hlt x (List.mem_append_left _ hx)
  · rw [hvars, hsv]; rfl
  · exact hb.frame _
end Go.Proofs.Ytdlcmhkfglckfaa
