/-
  Appends to a row without elements, in a region that draws; own rows that are read. No condition beyond those that each theorem states.
-/
import Derived.Test.YtcmmhfknkldmcaaDoorA15
import Derived.ArgAppend
import Derived.RangeFuncNested
import Derived.OrdersHeld
namespace Go.Proofs.YtcmmhfknkldmcaaDoor
open Go.RowKit

section
variable {P : Program} {n : Nat} {R : Exit → Act → World → Prop} {k : Kt} {σ : Env} {w : World} {ops : Array Oper} {rest : List Oper}
variable {d : Nat} {ty : TypeId} {pos : String} {af : Array Edge} {g : Option (Nat × Bool)}
variable {w0 ws : World} {ro : Nat → Prop} {L : List (Nat × Obj)} {Rs : List Row}

end
/-- An own row is read. -/
theorem St.rowCells {w0 ws w : World} {ro : Nat → Prop} {L : List (Nat × Obj)} {Rs : List Row} (h : St w0 ws w ro L Rs) (i : Nat) {g n cap e sz j : Nat} {cs c : List Value} (hr : Rs[i]? = some ⟨.slice (some ⟨g, 0, none⟩) n cap, e, sz, n, cs⟩)
    (hk : (cs.drop (j * sz)).take sz = c) : CellsAt w g (0 + j * sz) c := by
  intro i' v hv
  subst hk
  have hrow := h.rows _ (List.mem_of_getElem? hr)
  have h2 := hrow.cells (g := g) rfl (j * sz + i') v (chunk_get hv)
  simp only [addr_add, Nat.zero_add] at h2
  rw [Nat.zero_add]
  exact h2
end Go.Proofs.YtcmmhfknkldmcaaDoor

namespace Go.Proofs.YtcmmhfknkldmcaaDoor
open Go.RowKit

section
variable {P : Program} {n : Nat} {R : Exit → Act → World → Prop} {k : Kt} {σ : Env} {w : World} {ops : Array Oper} {rest : List Oper} {d : Nat}
variable {ty : TypeId} {pos : String} {af : Array Edge} {g : Option (Nat × Bool)}
theorem WL.neAgg {xT yT : TypeId} {x y : Operand} {xs ys : Array Value} (r : Bool) (hf : P.underlying xT = some (.struct (P.fieldsOf xT))) (hs : P.stoodInHeld xT = false) (hm : P.eqGuardType P.depth xT = false)
    (he : ∀ w, (Op.eqFields 9999 xs ys (P.fieldsOf xT).toList).run P w = .ok r w) (hg : want ops σ g = some true) (hd : Nat.blt d n = true)
    (hx : ev σ x = some (.agg xs)) (hy : ev σ y = some (.agg ys))
    (h : WL P n R ops rest k ((d, .bool (!r)) :: σ) w) : WL P n R ops (⟨some d, .binOp .neq xT x y yT, ty, pos, af, g⟩ :: rest) k σ w :=
  WL.valW (o := ⟨some d, .binOp .neq xT x y yT, ty, pos, af, g⟩) hg hd (fun a ha => by
    have h1 := run_neq_struct (P := P) w xT xs ys
    rw [run_equalIn_agg w 9999 xT xs ys hf hs, he w] at h1
    simp [execOp, ha.eval hx, ha.eval hy, run_eqGuard_agg, hm, h1]) h
end
end Go.Proofs.YtcmmhfknkldmcaaDoor

namespace Go.Proofs.YtcmmhfknkldmcaaDoor
open Go.RowKit

theorem St.callOwn {w0 ws w w' : World} {ro : Nat → Prop} {L : List (Nat × Obj)} {Rs : List Row} {g : Nat} {o : Obj} (h : St w0 ws w ro L Rs) (hb : Below w.heap.size w w') (hg : w.heap.size ≤ g) (ho : w'.heap[g]? = some o) : St w0 ws w' ro ((g, o) :: L) Rs := by
  have G := h.grow hb
  have hlt : g < w'.heap.size := (Array.getElem?_eq_some_iff.1 ho).1
  have hout : g ∉ keysOf L Rs := fun hx => by have := (h.keys g hx).2.1; omega
  refine ⟨G.below, G.snap, ?_, G.rows, ?_, ?_⟩
  · intro p hp
    rcases List.mem_cons.1 hp with e | hp
    · subst e; exact ho
    · exact G.own p hp
  · intro x hx
    have hx' : x = g ∨ x ∈ keysOf L Rs := by simpa [keysOf, or_assoc] using hx
    rcases hx' with e | hx'
    · subst e
      exact ⟨Nat.le_trans h.below.size hg, hlt, fun hr => absurd (h.snap _ hr).1 (by omega)⟩
    · exact G.keys x hx'
  · have : keysOf ((g, o) :: L) Rs = g :: keysOf L Rs := by simp [keysOf]
    rw [this]
    exact List.nodup_cons.2 ⟨hout, G.nodup⟩
end Go.Proofs.YtcmmhfknkldmcaaDoor

namespace Go.Proofs.YtcmmhfknkldmcaaDoor
open Go.RowKit

theorem cellsAt_block {w : World} {b e : Nat} {cs : List Value} (h : w.heap[b]? = some (.cells cs.toArray e (0, 0))) : CellsAt w b 0 cs := fun j v hj => by
  rw [cell_of_row w b (0 + j) cs.toArray e (0, 0) h]; simpa using hj
end Go.Proofs.YtcmmhfknkldmcaaDoor

namespace Go.Proofs.YtcmmhfknkldmcaaDoor
open Go.RowKit

end Go.Proofs.YtcmmhfknkldmcaaDoor

namespace Go.Proofs.YtcmmhfknkldmcaaDoor
open Go.RowKit

section
variable {P : Program} {n : Nat} {ops : Array Oper}
/-- Which operations are done: the bits of m. -/
def lb (n m : Nat) : Array Bool := ((List.range n).map fun i => Nat.testBit m i).toArray
/-- Whatever order is picked from here on. -/
structure WA (P : Program) (n : Nat) (ops : Array Oper) (Q : Exit → Act → World → Prop) (S : World → Prop) (fuel : Nat) (listed : Array Bool) (σ : Env) (w : World) : Prop where
  out : ∀ a, Known n a σ → wpAnyH P .any ops Q S fuel listed a w
variable {Q : Exit → Act → World → Prop} {S : World → Prop} {fuel : Nat} {listed : Array Bool} {σ : Env} {w : World}
/-- An operation that only reads what 'S' tells is taken first. -/
theorem WA.take (i : Nat) {o : Oper} {v : Value} (hi : ops[i]? = some o) (hg : o.guard = none) (hs : Region.noSelect ops = true) (hf : Region.free .any ops listed i = true) (hr : (Region.ready .any ops listed).contains i = true) (hQ : ∀ c a w, ¬ Q (.panic c) a w) (hd : dOk n o.dst = true)
    (hex : ∀ a, Known n a σ → ∀ w, S w → (execOp a.eval o).run P w = .ok (.value v) w) (hS : S w) (h : WA P n ops Q S fuel (listed.setIfInBounds i true) (putS o.dst v σ) w) : WA P n ops Q S (fuel + 1) listed σ w :=
  ⟨fun a ha => wpAnyH_take hi hs hf hr (fun c a w h => absurd h (hQ c _ w)) (.inl ⟨by simp [Region.wanted, hg], hex a ha⟩) hS (h.out _ (ha.put hd v))⟩
theorem WA.done (hr : Region.ready .any ops listed = []) (h : ∀ a, Known n a σ → Q .normal a w) : WA P n ops Q S fuel listed σ w := ⟨fun a ha => wpAnyH_done hr (h a ha) fuel⟩
theorem wpOp_of {K : Act → World → Prop} {i : Nat} {o : Oper} {α : Type} (F : α → Env) (I : α → World → Prop) (hi : ops[i]? = some o) (h : WL P n NoR ops [o] (.cut (CI n F I) .fin) σ w) {a : Act} (ha : Known n a σ) (hk : ∀ x a' w', Known n a' (F x) → I x w' → K a' w') : wpOp P ops Q i K a w := by
  have h1 := h.out a ha
  unfold wpList at h1
  unfold wpOp
  simp only [hi]
  have fin : ∀ (a' : Act) (w' : World), (∃ x, Known n a' (F x) ∧ I x w') → K a' w' := fun a' w' ⟨x, hx, hI⟩ => hk x a' w' hx hI
  by_cases hw : Region.wanted o (yielded ops a.tmps) = true
  · rw [if_pos hw] at h1 ⊢
    rcases h1 with h1 | ⟨_, a', w', h2⟩
    · left
      unfold Oper.wp at *
      generalize (execOp a.eval o).run P w = r at *
      cases r with
      | ok nx w1 =>
        cases nx <;> simp only [Oper.upon] at h1 ⊢ <;> try (exact h1.elim)
        case value u => exact fin _ _ h1
        case skip => exact fin _ _ h1
        case enter f args =>
          refine Calls.mono h1 fun e w2 h3 => ?_
          cases e with
          | returned u => exact fin _ _ h3
          | panicked c => exact h3.elim
          | outgrown => obtain ⟨a', w', h4⟩ := h3; exact h4.elim
        case row r args => exact Rows.mono h1 fun u w2 h3 => fin _ _ h3
        case defer dd => exact fin _ _ h1
      | halt x w1 => cases x <;> simp only [Oper.upon] at h1 ⊢ <;> exact h1.elim
    · exact h2.elim
  · rw [if_neg hw] at h1 ⊢
    exact fin _ _ h1
theorem WA.one (i : Nat) {o : Oper} {α : Type} (F : α → Env) (I : α → World → Prop) (hr : Region.ready .any ops listed = [i]) (hi : ops[i]? = some o) (h : WL P n NoR ops [o] (.cut (CI n F I) .fin) σ w) (hk : ∀ x w', I x w' → S w' ∧ WA P n ops Q S fuel (listed.setIfInBounds i true) (F x) w') : WA P n ops Q S (fuel + 1) listed σ w :=
  ⟨fun a ha => wpAnyH_all hr (by simp) fun j hj => by
    obtain rfl : j = i := by simpa using hj
    exact wpOp_of F I hi h ha fun x a' w' hx hI => ⟨(hk x w' hI).1, (hk x w' hI).2.out a' hx⟩⟩
theorem WA.two (i j : Nat) {o o' : Oper} {α β : Type} (F : α → Env) (I : α → World → Prop) (G : β → Env) (I' : β → World → Prop) (hr : Region.ready .any ops listed = [i, j]) (hi : ops[i]? = some o) (hj : ops[j]? = some o')
    (h : WL P n NoR ops [o] (.cut (CI n F I) .fin) σ w) (hk : ∀ x w', I x w' → S w' ∧ WA P n ops Q S fuel (listed.setIfInBounds i true) (F x) w')
    (h' : WL P n NoR ops [o'] (.cut (CI n G I') .fin) σ w) (hk' : ∀ x w', I' x w' → S w' ∧ WA P n ops Q S fuel (listed.setIfInBounds j true) (G x) w') : WA P n ops Q S (fuel + 1) listed σ w :=
  ⟨fun a ha => wpAnyH_all hr (by simp) fun q hq => by
    simp only [List.mem_cons, List.not_mem_nil, or_false] at hq
    rcases hq with rfl | rfl
    · exact wpOp_of F I hi h ha fun x a' w' hx hI => ⟨(hk x w' hI).1, (hk x w' hI).2.out a' hx⟩
    · exact wpOp_of G I' hj h' ha fun x a' w' hx hI => ⟨(hk' x w' hI).1, (hk' x w' hI).2.out a' hx⟩⟩
theorem exec_move {x : Operand} {v : Value} {d : Option Nat} {ty : TypeId} {pos : String} {af : Array Edge} {g : Option (Nat × Bool)} (hx : ev σ x = some v) : ∀ a, Known n a σ → ∀ w, S w → (execOp a.eval ⟨d, .move x, ty, pos, af, g⟩).run P w = .ok (.value v) w := fun a ha w _ => by simp [execOp, ha.eval hx]
theorem exec_load1 {t : TypeId} {x : Operand} {ad : Addr} {v : Value} {d : Option Nat} {ty : TypeId} {pos : String} {af : Array Edge} {g : Option (Nat × Bool)} (h1 : tyOne P t = true) (hx : ev σ x = some (.pointer (some ad))) (hc : ∀ w, S w → w.cell? ad = some v) :
    ∀ a, Known n a σ → ∀ w, S w → (execOp a.eval ⟨d, .load t x, ty, pos, af, g⟩).run P w = .ok (.value v) w := fun a ha w hs => by simp [execOp, ha.eval hx, Instr.loadAt, Instr.sureAddr, tyOne_run h1 (hc w hs)]
theorem exec_loadN {t m : TypeId} {x : Operand} {b off : Nat} {cs : List Value} {d : Option Nat} {ty : TypeId} {pos : String} {af : Array Edge} {g : Option (Nat × Bool)} (h1 : tyAgg P t m = true) (hx : ev σ x = some (.pointer (some ⟨b, off, none⟩))) (hl : Nat.beq cs.length m = true) (hc : ∀ w, S w → CellsAt w b off cs) :
    ∀ a, Known n a σ → ∀ w, S w → (execOp a.eval ⟨d, .load t x, ty, pos, af, g⟩).run P w = .ok (.value (.agg cs.toArray)) w := fun a ha w hs => by simp [execOp, ha.eval hx, Instr.loadAt, Instr.sureAddr, tyAgg_run h1 hl (hc w hs)]
theorem exec_indexAddr {t e sz : Nat} {x i : Operand} {kk : IntKind} {b o len cap : Nat} {j : Nat} {d : Option Nat} {ty : TypeId} {pos : String} {af : Array Edge} {g : Option (Nat × Bool)} (hu : P.underlying t = some (.slice e)) (hs : (P.info? e).map (·.size) = some sz)
    (hx : ev σ x = some (.slice (some ⟨b, o, none⟩) len cap)) (hi : ev σ i = some (.int kk (j : Int))) (hj : j < len) : ∀ a, Known n a σ → ∀ w, S w → (execOp a.eval ⟨d, .indexAddr t x i, ty, pos, af, g⟩).run P w = .ok (.value (.pointer (some ⟨b, o + j * sz, none⟩))) w := fun a ha w _ => by
  cases hq : P.info? e with
  | none => rw [hq] at hs; cases hs
  | some q =>
    rw [hq] at hs
    simp at hs
    simp [execOp, ha.eval hx, ha.eval hi, Instr.indexAt, asIntOf, run_underlying hu, sizeOf, typeInfo, hq, hs, hj, addr_add]
end
section
variable {r : Option Nat} {ds : List Deferred} {P : Program} {n : Nat} {R : Exit → Act → World → Prop} {k : Kt} {σ : Env} {w : World}
end
end Go.Proofs.YtcmmhfknkldmcaaDoor
