/-
  A region that draws its order, in phases: first what comes in any order and only adds to memory, then one operation after the other. No condition beyond those that each theorem states.
-/
import Derived.Test.YtcmmhfknkldmcaaDoorA20
import Derived.Test.YtcmmhfknkldmcaaDoorA11
namespace Go.Proofs.YtcmmhfknkldmcaaDoor
open Go.RowKit

section
variable {P : Program} {ops : Array Oper} {Q : Exit → Act → World → Prop}
end
section
variable {P : Program} {ops : Array Oper} {Q : Exit → Act → World → Prop}
end
section
variable {P : Program} {ops : Array Oper} {C : Act → World → Prop} {Q : Exit → Act → World → Prop}
end
section
variable {P : Program} {n : Nat} {ops : Array Oper} {R : Exit → Act → World → Prop} {k : Kt} {σ : Env} {w : World} {Q : Exit → Act → World → Prop} {S : World → Prop} {fuel : Nat} {listed : Array Bool}
/-- One operation, the only one that may come next. -/
theorem WA.step (i : Nat) {o : Oper} (hr : Region.ready .any ops listed = [i]) (hi : ops[i]? = some o) (h : WL P n NoR ops [o] (.cut (fun a w => wpAnyH P .any ops Q (fun _ => True) fuel (listed.setIfInBounds i true) a w) .fin) σ w) : WA P n ops Q (fun _ => True) (fuel + 1) listed σ w :=
  ⟨fun a ha => wpAnyH_all hr (by simp) fun j hj => by
    obtain rfl : j = i := by simpa using hj
    have h1 := h.out a ha
    unfold wpList at h1
    unfold wpOp
    simp only [hi]
    by_cases hw : Region.wanted o (yielded ops a.tmps) = true
    · rw [if_pos hw] at h1 ⊢
      rcases h1 with h1 | ⟨_, a', w', h2⟩
      · left
        unfold Oper.wp at *
        generalize (execOp a.eval o).run P w = r at *
        cases r with
        | ok nx w1 =>
          cases nx <;> simp only [Oper.upon] at h1 ⊢ <;> try (exact h1.elim)
          case value u => exact ⟨trivial, h1⟩
          case skip => exact ⟨trivial, h1⟩
          case enter f args =>
            refine Calls.mono h1 fun e w2 h3 => ?_
            cases e with
            | returned u => exact ⟨trivial, h3⟩
            | panicked c => exact h3.elim
            | outgrown => obtain ⟨a', w', h4⟩ := h3; exact h4.elim
          case row r args => exact Rows.mono h1 fun u w2 h3 => ⟨trivial, h3⟩
          case defer dd => exact ⟨trivial, h1⟩
        | halt x w1 => cases x <;> simp only [Oper.upon] at h1 ⊢ <;> exact h1.elim
      · exact h2.elim
    · rw [if_neg hw] at h1 ⊢
      exact ⟨trivial, h1⟩⟩
theorem N.rest (h : WA P n ops Q S fuel listed σ w) : N P n NoR (.cut (fun a w => wpAnyH P .any ops Q S fuel listed a w) .fin) σ w := ⟨fun a ha => h.out a ha⟩
theorem W.drawA0 {id : Nat} {l : List Oper} (hm : P.follows .mixedOrders = true) (h : ∀ w', Below w.heap.size w w' → WA P n l.toArray (k.post P R) S l.toArray.size (Array.replicate l.toArray.size false) σ w') : W P n R (.region id l.toArray true) k σ w := by
  refine ⟨fun a ha => wp_region_any hm ?_⟩
  have hb : Below w.heap.size w { w with drawn := w.drawn + 1 } := (Below.refl _ w).drew
  exact wpAny_of_held _ _ _ _ ((h _ hb).out a ha)
theorem WA.sub {σ' : Env} (hs : Sub σ' σ) (h : WA P n ops Q S fuel listed σ' w) : WA P n ops Q S fuel listed σ w := ⟨fun a ha => h.out a (ha.sub hs)⟩
theorem WA.conv {fuel' : Nat} {listed' : Array Bool} (hf : fuel = fuel') (hl : listed = listed') (h : WA P n ops Q S fuel' listed' σ w) : WA P n ops Q S fuel listed σ w := by subst hf; subst hl; exact h
theorem WA.doneN (hr : Region.ready .any ops listed = []) (h : N P n R k σ w) : WA P n ops (k.post P R) S fuel listed σ w := ⟨fun a ha => wpAnyH_done hr (h.out a ha) fuel⟩
def valOf (m : Nat) (V : List Value) (i : Nat) : Value := V.getD (i - m) undef
def AllX (P : Program) (n : Nat) (ops : Array Oper) (m : Nat) (V0 : List Value) (σ : Env) : Nat → List Value → List Oper → Prop
  | i, v :: V, o :: l => (o.guard = none ∧ ∀ a, Known n a (PEnv (valOf m V0) ops ((depsOf ops i).filter (Nat.ble m ·)) ++ σ) → ∀ w, True → (execOp a.eval o).run P w = .ok (.value v) w) ∧ AllX P n ops m V0 σ (i + 1) V l
  | _, [], _ => True
  | _, _ :: _, [] => False
theorem AllX.at {m : Nat} {V0 : List Value} : ∀ (V : List Value) (l : List Oper) (q : Nat), AllX P n ops m V0 σ q V l → ∀ (i : Nat) (v : Value) (o : Oper), V[i]? = some v → l[i]? = some o →
    o.guard = none ∧ ∀ a, Known n a (PEnv (valOf m V0) ops ((depsOf ops (q + i)).filter (Nat.ble m ·)) ++ σ) → ∀ w, True → (execOp a.eval o).run P w = .ok (.value v) w
  | [], _, _, _, i, v, o, hi, _ => by simp at hi
  | _ :: _, [], _, _, i, v, o, _, ho => by simp at ho
  | x :: V, o' :: l, q, h, 0, v, o, hi, ho => by
    simp only [List.getElem?_cons_zero, Option.some.injEq] at hi ho
    subst hi; subst ho
    exact h.1
  | x :: V, o' :: l, q, h, i + 1, v, o, hi, ho => by
    rw [show q + (i + 1) = q + 1 + i by omega]
    exact AllX.at V l (q + 1) h.2 i v o (by simpa using hi) (by simpa using ho)
end
end Go.Proofs.YtcmmhfknkldmcaaDoor

namespace Go.Proofs.YtcmmhfknkldmcaaDoor
open Go.RowKit

section
variable {P : Program} {n : Nat} {R : Exit → Act → World → Prop} {k : Kt} {σ : Env} {w : World} {ops : Array Oper} {rest : List Oper}
variable {d : Nat} {ty : TypeId} {pos : String} {af : Array Edge} {g : Option (Nat × Bool)}
theorem WL.convInt {src dst : TypeId} {x : Operand} {kk k2 : IntKind} {a : Int} (hs : (P.underlying src).isSome = true) (hu : P.underlying dst = some (.int k2)) (hg : want ops σ g = some true) (hd : Nat.blt d n = true)
    (hx : ev σ x = some (.int kk a)) (h : WL P n R ops rest k ((d, .int k2 (k2.wrap a)) :: σ) w) : WL P n R ops (⟨some d, .convert src dst x, ty, pos, af, g⟩ :: rest) k σ w :=
  WL.valW (o := ⟨some d, .convert src dst x, ty, pos, af, g⟩) hg hd (fun c hc => by
    have he : P.intKind dst = k2 := by simp [Program.intKind, hu]
    have h1 := run_convert_int (P := P) w src dst kk a hs (by rw [he]; exact hu)
    rw [he] at h1
    simp [execOp, hc.eval hx, h1]) h
/-- 's[l:]'. -/
def fromV (ad : Option Addr) (len cap l sz : Nat) : Value := .slice (if cap = l then ad else ad.map (·.add (l * sz))) (len - l) (cap - l)
theorem WL.sliceFrom {t e sz : TypeId} {x lo : Operand} {ad : Option Addr} {len cap l : Nat} {kl : IntKind} (hu : P.underlying t = some (.slice e)) (hs : (P.info? e).map (·.size) = some sz) (hg : want ops σ g = some true) (hd : Nat.blt d n = true)
    (hx : ev σ x = some (.slice ad len cap)) (hlo : ev σ lo = some (.int kl (l : Int))) (hl : l ≤ len) (h : WL P n R ops rest k ((d, fromV ad len cap l sz) :: σ) w) : WL P n R ops (⟨some d, .slice t x (some lo) none none, ty, pos, af, g⟩ :: rest) k σ w :=
  WL.valW (o := ⟨some d, .slice t x (some lo) none none, ty, pos, af, g⟩) hg hd (fun c hc => by
    have he : P.elem t = e := by simp [Program.elem, hu]
    have hu' : P.underlying t = some (.slice (P.elem t)) := by rw [he]; exact hu
    have h1 := run_slice_l (P := P) (w := w) t ad len cap hu' kl (l : Int) (by omega) (by omega)
    cases hq : P.info? e with
    | none => rw [hq] at hs; cases hs
    | some q =>
      rw [hq] at hs
      simp at hs
      rw [he] at h1
      simp [execOp, hc.eval hx, hc.eval hlo, run_sliceAt_slice _ t _ _ _ _ hu', h1, sizeOf, typeInfo, hq, hs, sliced, fromV]) h
theorem slv_from {α : Type} {ro : Nat → Prop} {u : World} {sz : Nat} {Q : List Value → α → Prop} {ad : Option Addr} {cap : Nat} {xs : List α} (h : SlV ro u sz Q (.slice ad xs.length cap) xs) (l : Nat) (hl : l ≤ xs.length) : SlV ro u sz Q (fromV ad xs.length cap l sz) (xs.drop l) := by
  obtain ⟨ad', cap', e, h1, h2, h3, h4⟩ := h
  cases e
  refine ⟨_, _, by rw [List.length_drop]; rfl, by rw [List.length_drop]; omega, by omega, fun e => ?_, fun i x hx => ?_⟩
  · by_cases hc : cap = l
    · omega
    · rw [if_neg hc] at e
      have := h3 (by simpa using e)
      omega
  · rw [List.getElem?_drop] at hx
    obtain ⟨b, o, cs, he, hr, hlen, hc, hq⟩ := h4 (l + i) x hx
    have hi := (List.getElem?_eq_some_iff.1 hx).1
    refine ⟨b, o + l * sz, cs, ?_, hr, hlen, ?_, hq⟩
    · rw [if_neg (by omega), he]; simp [addr_add]
    · rw [Nat.add_assoc, ← Nat.add_mul]; exact hc
theorem WL.makeFuncB {fn : Fn} {fsts caps : Array Operand} {bs vs : Array Value} (hg : want ops σ g = some true) (hd : Nat.blt d n = true) (hb : (fsts.toList.mapM (ev σ)) = some bs.toList) (hc : (caps.toList.mapM (ev σ)) = some vs.toList)
    (h : WL P n R ops rest k ((d, .func fn bs vs) :: σ) w) : WL P n R ops (⟨some d, .makeFunc fn fsts caps, ty, pos, af, g⟩ :: rest) k σ w :=
  WL.valW (o := ⟨some d, .makeFunc fn fsts caps, ty, pos, af, g⟩) hg hd (fun c hk => by
    have key : ∀ (l : List Operand) (r : List Value), l.mapM (ev σ) = some r → l.map c.eval = r := by
      intro l
      induction l with
      | nil => intro r hr; simp at hr; simp [hr]
      | cons x l ih =>
        intro r hr
        simp only [List.mapM_cons, Option.bind_eq_bind, Option.bind_eq_some_iff, Option.pure_def, Option.some.injEq] at hr
        obtain ⟨v, hv, r', hr', e⟩ := hr
        subst e
        simp [hk.eval hv, ih r' hr']
    have e : caps.map c.eval = vs := by
      apply Array.toList_inj.1
      rw [Array.toList_map]
      exact key _ _ hc
    have e2 : fsts.map c.eval = bs := by
      apply Array.toList_inj.1
      rw [Array.toList_map]
      exact key _ _ hb
    simp [execOp, Instr.makeFunc, e, e2]) h
/-- A call through a function value that has bound values. -/
theorem WL.callVB {f : Nat} {fn : Func} {x : Operand} {xs : Array Operand} {vs : List Value} {bs cs : Array Value} {tt : Array TypeId} {Rc : Value → World → Prop} (hf : P.funcs[f]? = some fn) (hb : (fn.body.isSome && !(fn.name == "runtime.NumGoroutine")) = true)
    (hg : want ops σ g = some true) (hd : Nat.blt d n = true) (hfx : ev σ x = some (.func (.func f) bs cs)) (hx : xs.toList.mapM (ev σ) = some vs) (hc : Ret P f (bs ++ vs.toArray ++ cs) w Rc)
    (h : ∀ v w', Rc v w' → WL P n R ops rest k ((d, v) :: σ) w') : WL P n R ops (⟨some d, .call { callee := .value x, args := xs, argTypes := tt }, ty, pos, af, g⟩ :: rest) k σ w :=
  WL.call (o := ⟨some d, .call { callee := .value x, args := xs, argTypes := tt }, ty, pos, af, g⟩) hg hd (fun c hk => by
    have key : ∀ (l : List Operand) (r : List Value), l.mapM (ev σ) = some r → l.map c.eval = r := by
      intro l
      induction l with
      | nil => intro r hr; simp at hr; simp [hr]
      | cons x l ih =>
        intro r hr
        simp only [List.mapM_cons, Option.bind_eq_bind, Option.bind_eq_some_iff, Option.pure_def, Option.some.injEq] at hr
        obtain ⟨v, hv, r', hr', e⟩ := hr
        subst e
        simp [hk.eval hv, ih r' hr']
    have e : xs.map c.eval = vs.toArray := by
      apply Array.toList_inj.1
      rw [Array.toList_map]
      exact key _ _ hx
    simp only [Bool.and_eq_true, Bool.not_eq_true', Option.isSome_iff_exists, beq_eq_false_iff_ne] at hb
    obtain ⟨⟨bd, hbd⟩, hnm⟩ := hb
    simp [execOp, resolve, invoke, hk.eval hfx, Deferred.ofValue, e, callFunc, hf, hbd, hnm]) hc h
/-- An element of an array that is a variable. -/
theorem WL.indexArr {t e sz len : Nat} {x i : Operand} {kk : IntKind} {b o : Nat} {j : Nat} (hu : P.underlying t = some (.array len e)) (hs : (P.info? e).map (·.size) = some sz) (hg : want ops σ g = some true) (hd : Nat.blt d n = true)
    (hx : ev σ x = some (.pointer (some ⟨b, o, none⟩))) (hi : ev σ i = some (.int kk (j : Int))) (hj : j < len)
    (h : WL P n R ops rest k ((d, .pointer (some ⟨b, o + j * sz, none⟩)) :: σ) w) : WL P n R ops (⟨some d, .indexAddr t x i, ty, pos, af, g⟩ :: rest) k σ w :=
  WL.valW (o := ⟨some d, .indexAddr t x i, ty, pos, af, g⟩) hg hd (fun c hc => by
    cases hq : P.info? e with
    | none => rw [hq] at hs; cases hs
    | some q =>
      rw [hq] at hs
      simp at hs
      simp [execOp, hc.eval hx, hc.eval hi, Instr.indexAt, asIntOf, run_underlying hu, sizeOf, typeInfo, hq, hs, hj, addr_add, Instr.sureAddr]) h
end
end Go.Proofs.YtcmmhfknkldmcaaDoor
