/-
  A region that draws its order, in the walks of these claims: what only reads is taken first, the rest is walked in each order that is left. No condition beyond those that each theorem states.
-/
import Derived.Test.YtapjejjmhmdmdaaDoorA19
import Derived.OrdersHeld
namespace Go.Proofs.YtapjejjmhmdmdaaDoor
open Go.RowKit

section
variable {P : Program} {n : Nat} {ops : Array Oper}
/-- What is shown of operations, one after the other in some order, shown with a fence and other deferred calls. -/
theorem wpOpsIn_of {K : Act → World → Prop} {Q : Exit → Act → World → Prop} {r : Option Nat} {ds : List Deferred} (hd : ∀ (i : Nat) (o : Oper), ops[i]? = some o → noDefer o = true) :
    ∀ (l : List Nat) (tm : Array Value) (d1 : List Deferred) (w : World), wpOps P ops (Exit.then K NoR) l ⟨tm, d1⟩ w →
      (∀ tm' d' w', K ⟨tm', d'⟩ w' → Q .normal ⟨tm', d' ++ ds⟩ w') → wpOpsIn (wideR r) 0 P ops Q l ⟨tm, d1 ++ ds⟩ w
  | [], tm, d1, w, h, hk => hk tm d1 w h
  | i :: l, tm, d1, w, h, hk => by
    have ih := fun (tm : Array Value) (d1 : List Deferred) (w : World) => wpOpsIn_of (Q := Q) (r := r) (ds := ds) (K := K) hd l tm d1 w
    unfold wpOps at h
    unfold wpOpsIn
    cases ho : ops[i]? with
    | none => rw [ho] at h; exact ih _ _ _ h hk
    | some o =>
      rw [ho] at h
      dsimp only at h ⊢
      by_cases hw : Region.wanted o (yielded ops tm) = true
      · simp only [hw, if_true] at h ⊢
        refine ⟨fun _ _ => trivial, ?_⟩
        rw [Oper.semAt_eq _ _ _ (noDefer_spec (hd i o ho)), eval_defers tm (d1 ++ ds) d1]
        rcases h with h | ⟨_, _, _, hl⟩
        · unfold Oper.wp at h
          generalize (execOp (Act.mk tm d1).eval o).run P w = res at h ⊢
          cases res with
          | ok nx w1 =>
            cases nx <;> simp only [Oper.upon] at h <;> simp only [Oper.uponIn]
            case value v => rw [put_defers2 tm d1]; rw [put_act tm d1] at h; exact ih _ _ _ h hk
            case skip => rw [put_defers2 tm d1]; rw [put_act tm d1] at h; exact ih _ _ _ h hk
            case defer dd =>
              have e1 : ({ tmps := tm, defers := dd :: (d1 ++ ds) } : Act).put o.dst undef = { tmps := (({ tmps := tm, defers := dd :: d1 } : Act).put o.dst undef).tmps, defers := (dd :: d1) ++ ds } := by cases o.dst <;> rfl
              have e2 : ({ tmps := tm, defers := dd :: d1 } : Act).put o.dst undef = { tmps := (({ tmps := tm, defers := dd :: d1 } : Act).put o.dst undef).tmps, defers := dd :: d1 } := by cases o.dst <;> rfl
              rw [e1]; rw [e2] at h
              exact ih _ _ _ h hk
            case enter f args =>
              refine ⟨fun hh => (by cases hh), callsR (h.mono fun e w2 h2 => ?_)⟩
              cases e with
              | returned v => dsimp only at h2 ⊢; rw [put_defers2 tm d1]; rw [put_act tm d1] at h2; exact ih _ _ _ h2 hk
              | panicked c => exact h2.elim
              | outgrown => obtain ⟨_, _, h4⟩ := h2; exact h4.elim
            case row rr args =>
              refine ⟨fun hh => (by cases hh), rowsR (h.mono fun v w2 h2 => ?_)⟩
              rw [put_defers2 tm d1]; rw [put_act tm d1] at h2; exact ih _ _ _ h2 hk
          | halt x w1 => cases x <;> simp only [Oper.upon] at h <;> exact h.elim
        · exact hl.elim
      · simp only [hw, if_false, Bool.false_eq_true] at h ⊢
        refine ⟨fun _ _ => trivial, ?_⟩
        rw [put_defers2 tm d1]; rw [put_act tm d1] at h
        exact ih _ _ _ h hk

/-- Whatever order is picked from here on. -/
structure WA (P : Program) (n : Nat) (ops : Array Oper) (Q : Exit → Act → World → Prop) (S : World → Prop) (fuel : Nat) (listed : Array Bool) (σ : Env) (w : World) : Prop where
  out : ∀ a, Known n a σ → wpAnyH P .any ops Q S fuel listed a w
variable {Q : Exit → Act → World → Prop} {S : World → Prop} {fuel : Nat} {listed : Array Bool} {σ : Env} {w : World}
/-- An operation that only reads what 'S' tells is taken first. -/
theorem WA.take (i : Nat) {o : Oper} {v : Value} (hi : ops[i]? = some o) (hg : o.guard = none) (hs : Region.noSelect ops = true) (hf : Region.free .any ops listed i = true) (hr : (Region.ready .any ops listed).contains i = true) (hQ : ∀ c a w, ¬ Q (.panic c) a w) (hd : dOk n o.dst = true)
    (hex : ∀ a, Known n a σ → ∀ w, S w → (execOp a.eval o).run P w = .ok (.value v) w) (hS : S w) (h : WA P n ops Q S fuel (listed.setIfInBounds i true) (putS o.dst v σ) w) : WA P n ops Q S (fuel + 1) listed σ w :=
  ⟨fun a ha => wpAnyH_take hi hs hf hr (fun c a w h => absurd h (hQ c _ w)) (.inl ⟨by simp [Region.wanted, hg], hex a ha⟩) hS (h.out _ (ha.put hd v))⟩
theorem WA.done (hr : Region.ready .any ops listed = []) (h : ∀ a, Known n a σ → Q .normal a w) : WA P n ops Q S fuel listed σ w := ⟨fun a ha => wpAnyH_done hr (h a ha) fuel⟩
theorem wpOp_of {K : Act → World → Prop} {i : Nat} {o : Oper} {α : Type} (F : α → Env) (I : α → World → Prop) (hi : ops[i]? = some o) (h : WL P n NoR ops [o] (.cut (CI n F I) .fin) σ w) {a : Act} (ha : Known n a σ) (hk : ∀ x a' w', Known n a' (F x) → I x w' → K a' w') : wpOp P ops Q i K a w := by
  have h1 := h.out a ha
  unfold wpList at h1
  unfold wpOp
  simp only [hi]
  have fin : ∀ (a' : Act) (w' : World), (∃ x, Known n a' (F x) ∧ I x w') → K a' w' := fun a' w' ⟨x, hx, hI⟩ => hk x a' w' hx hI
  by_cases hw : Region.wanted o (yielded ops a.tmps) = true
  · rw [if_pos hw] at h1 ⊢
    rcases h1 with h1 | ⟨_, a', w', h2⟩
    · left
      unfold Oper.wp at *
      generalize (execOp a.eval o).run P w = r at *
      cases r with
      | ok nx w1 =>
        cases nx <;> simp only [Oper.upon] at h1 ⊢ <;> try (exact h1.elim)
        case value u => exact fin _ _ h1
        case skip => exact fin _ _ h1
        case enter f args =>
          refine Calls.mono h1 fun e w2 h3 => ?_
          cases e with
          | returned u => exact fin _ _ h3
          | panicked c => exact h3.elim
          | outgrown => obtain ⟨a', w', h4⟩ := h3; exact h4.elim
        case row r args => exact Rows.mono h1 fun u w2 h3 => fin _ _ h3
        case defer dd => exact fin _ _ h1
      | halt x w1 => cases x <;> simp only [Oper.upon] at h1 ⊢ <;> exact h1.elim
    · exact h2.elim
  · rw [if_neg hw] at h1 ⊢
    exact fin _ _ h1
theorem WA.one (i : Nat) {o : Oper} {α : Type} (F : α → Env) (I : α → World → Prop) (hr : Region.ready .any ops listed = [i]) (hi : ops[i]? = some o) (h : WL P n NoR ops [o] (.cut (CI n F I) .fin) σ w) (hk : ∀ x w', I x w' → S w' ∧ WA P n ops Q S fuel (listed.setIfInBounds i true) (F x) w') : WA P n ops Q S (fuel + 1) listed σ w :=
  ⟨fun a ha => wpAnyH_all hr (by simp) fun j hj => by
    obtain rfl : j = i := by simpa using hj
    exact wpOp_of F I hi h ha fun x a' w' hx hI => ⟨(hk x w' hI).1, (hk x w' hI).2.out a' hx⟩⟩
theorem WA.two (i j : Nat) {o o' : Oper} {α β : Type} (F : α → Env) (I : α → World → Prop) (G : β → Env) (I' : β → World → Prop) (hr : Region.ready .any ops listed = [i, j]) (hi : ops[i]? = some o) (hj : ops[j]? = some o')
    (h : WL P n NoR ops [o] (.cut (CI n F I) .fin) σ w) (hk : ∀ x w', I x w' → S w' ∧ WA P n ops Q S fuel (listed.setIfInBounds i true) (F x) w')
    (h' : WL P n NoR ops [o'] (.cut (CI n G I') .fin) σ w) (hk' : ∀ x w', I' x w' → S w' ∧ WA P n ops Q S fuel (listed.setIfInBounds j true) (G x) w') : WA P n ops Q S (fuel + 1) listed σ w :=
  ⟨fun a ha => wpAnyH_all hr (by simp) fun q hq => by
    simp only [List.mem_cons, List.not_mem_nil, or_false] at hq
    rcases hq with rfl | rfl
    · exact wpOp_of F I hi h ha fun x a' w' hx hI => ⟨(hk x w' hI).1, (hk x w' hI).2.out a' hx⟩
    · exact wpOp_of G I' hj h' ha fun x a' w' hx hI => ⟨(hk' x w' hI).1, (hk' x w' hI).2.out a' hx⟩⟩
theorem exec_move {x : Operand} {v : Value} {d : Option Nat} {ty : TypeId} {pos : String} {af : Array Edge} {g : Option (Nat × Bool)} (hx : ev σ x = some v) : ∀ a, Known n a σ → ∀ w, S w → (execOp a.eval ⟨d, .move x, ty, pos, af, g⟩).run P w = .ok (.value v) w := fun a ha w _ => by simp [execOp, ha.eval hx]
theorem exec_load1 {t : TypeId} {x : Operand} {ad : Addr} {v : Value} {d : Option Nat} {ty : TypeId} {pos : String} {af : Array Edge} {g : Option (Nat × Bool)} (h1 : tyOne P t = true) (hx : ev σ x = some (.pointer (some ad))) (hc : ∀ w, S w → w.cell? ad = some v) :
    ∀ a, Known n a σ → ∀ w, S w → (execOp a.eval ⟨d, .load t x, ty, pos, af, g⟩).run P w = .ok (.value v) w := fun a ha w hs => by simp [execOp, ha.eval hx, Instr.loadAt, Instr.sureAddr, tyOne_run h1 (hc w hs)]
theorem exec_loadN {t m : TypeId} {x : Operand} {b off : Nat} {cs : List Value} {d : Option Nat} {ty : TypeId} {pos : String} {af : Array Edge} {g : Option (Nat × Bool)} (h1 : tyAgg P t m = true) (hx : ev σ x = some (.pointer (some ⟨b, off, none⟩))) (hl : Nat.beq cs.length m = true) (hc : ∀ w, S w → CellsAt w b off cs) :
    ∀ a, Known n a σ → ∀ w, S w → (execOp a.eval ⟨d, .load t x, ty, pos, af, g⟩).run P w = .ok (.value (.agg cs.toArray)) w := fun a ha w hs => by simp [execOp, ha.eval hx, Instr.loadAt, Instr.sureAddr, tyAgg_run h1 hl (hc w hs)]
theorem exec_indexAddr {t e sz : Nat} {x i : Operand} {kk : IntKind} {b o len cap : Nat} {j : Nat} {d : Option Nat} {ty : TypeId} {pos : String} {af : Array Edge} {g : Option (Nat × Bool)} (hu : P.underlying t = some (.slice e)) (hs : (P.info? e).map (·.size) = some sz)
    (hx : ev σ x = some (.slice (some ⟨b, o, none⟩) len cap)) (hi : ev σ i = some (.int kk (j : Int))) (hj : j < len) : ∀ a, Known n a σ → ∀ w, S w → (execOp a.eval ⟨d, .indexAddr t x i, ty, pos, af, g⟩).run P w = .ok (.value (.pointer (some ⟨b, o + j * sz, none⟩))) w := fun a ha w _ => by
  cases hq : P.info? e with
  | none => rw [hq] at hs; cases hs
  | some q =>
    rw [hq] at hs
    simp at hs
    simp [execOp, ha.eval hx, ha.eval hi, Instr.indexAt, asIntOf, run_underlying hu, sizeOf, typeInfo, hq, hs, hj, addr_add]
end
section
variable {r : Option Nat} {ds : List Deferred} {P : Program} {n : Nat} {R : Exit → Act → World → Prop} {k : Kt} {σ : Env} {w : World}
/-- A region that draws its order, in a walk with a fence. -/
theorem WX.drawA {id : Nat} {l : List Oper} {α : Type} (S : World → Prop) (F : α → Env) (I : α → World → Prop) (hm : P.follows .mixedOrders = true) (hd : l.all noDefer = true) (h : ∀ w', Below w.heap.size w w' → WA P n l.toArray (Exit.then (CI n F I) NoR) S l.toArray.size (Array.replicate l.toArray.size false) σ w') (h2 : ∀ x w', I x w' → NX r ds P n R k (F x) w') : WX r ds P n R (.region id l.toArray true) k σ w := by
  refine ⟨fun tm ha => wpIn_region_draw fun t => ?_⟩
  have hb : Below w.heap.size w { w with drawn := w.drawn + 1 } := (Below.refl _ w).drew
  have h1 := wpAny_sound (md := .any) l.toArray.size t (Array.replicate l.toArray.size false) _ _ (wpAny_of_held _ _ _ _ ((h _ hb).out _ ha))
  have h3 := wpOpsIn_of (P := P) (Q := k.postX r P R) (r := r) (ds := ds) (K := CI n F I) (ops := l.toArray) (fun i o ho => by
    have hmem : o ∈ l := by have := Array.mem_of_getElem? ho; simpa using this
    exact List.all_eq_true.1 hd o hmem) _ tm [] _ h1 (fun tm' d' w' ⟨x, hk, hI⟩ => by
      have := hk.defers
      simp only at this
      subst this
      exact (h2 x w' hI).out tm' hk)
  simp only [Region.schedule, hm, Bool.true_or, if_true]
  exact h3
end
theorem Sub.ofEq {σ : Env} : ∀ {σ' : Env}, σ'.map (fun p => Go.Proofs.YtapjejjmhmdmdaaDoor.look σ p.1) = σ'.map (fun p => some p.2) → Sub σ' σ
  | [], _ => trivial
  | (t, v) :: r, h => by
    simp only [List.map_cons, List.cons.injEq] at h
    exact ⟨h.1, Sub.ofEq h.2⟩
/-- A cell of an own row whose elements are one cell each. -/
theorem row_cell {w : World} {base e n cap g : Nat} {xs : List Value} {j : Nat} {v : Value} (h : w.ownsRow base e 1 (.slice (some ⟨g, 0, none⟩) n cap) n xs) (hj : xs[j]? = some v) : w.cell? ⟨g, 0 + j * 1, none⟩ = some v := by
  rcases h.2 with ⟨hv, _⟩ | ⟨g', cap', cur, hv, _, hg, h1, h2, h3, h4⟩
  · cases hv
  · cases hv
    rw [cell_of_row w g _ cur e (0, 0) hg, Nat.zero_add, Nat.mul_one]
    rw [← h4, List.getElem?_take] at hj
    split at hj
    · simpa using hj
    · cases hj
end Go.Proofs.YtapjejjmhmdmdaaDoor
