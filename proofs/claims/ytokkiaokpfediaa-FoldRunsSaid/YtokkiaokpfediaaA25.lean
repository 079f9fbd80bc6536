/-
  Further operations: numbers converted, slices of slices, functions with bound values, arrays that are variables, one cell of a row. No condition beyond those that each theorem states.
-/
import Derived.Test.YtokkiaokpfediaaA24
namespace Go.Proofs.Ytokkiaokpfediaa
open Go.RowKit

section
variable {P : Program} {n : Nat} {R : Exit → Act → World → Prop} {k : Kt} {σ : Env} {w : World} {ops : Array Oper} {rest : List Oper}
variable {d : Nat} {ty : TypeId} {pos : String} {af : Array Edge} {g : Option (Nat × Bool)}
theorem WL.convInt {src dst : TypeId} {x : Operand} {kk k2 : IntKind} {a : Int} (hs : (P.underlying src).isSome = true) (hu : P.underlying dst = some (.int k2)) (hg : want ops σ g = some true) (hd : Nat.blt d n = true)
    (hx : ev σ x = some (.int kk a)) (h : WL P n R ops rest k ((d, .int k2 (k2.wrap a)) :: σ) w) : WL P n R ops (⟨some d, .convert src dst x, ty, pos, af, g⟩ :: rest) k σ w :=
  WL.valW (o := ⟨some d, .convert src dst x, ty, pos, af, g⟩) hg hd (fun c hc => by
    have he : P.intKind dst = k2 := by simp [Program.intKind, hu]
    have h1 := run_convert_int (P := P) w src dst kk a hs (by rw [he]; exact hu)
    rw [he] at h1
    simp [execOp, hc.eval hx, h1]) h
/-- 's[l:]'. -/
def fromV (ad : Option Addr) (len cap l sz : Nat) : Value := .slice (if cap = l then ad else ad.map (·.add (l * sz))) (len - l) (cap - l)
theorem WL.sliceFrom {t e sz : TypeId} {x lo : Operand} {ad : Option Addr} {len cap l : Nat} {kl : IntKind} (hu : P.underlying t = some (.slice e)) (hs : (P.info? e).map (·.size) = some sz) (hg : want ops σ g = some true) (hd : Nat.blt d n = true)
    (hx : ev σ x = some (.slice ad len cap)) (hlo : ev σ lo = some (.int kl (l : Int))) (hl : l ≤ len) (h : WL P n R ops rest k ((d, fromV ad len cap l sz) :: σ) w) : WL P n R ops (⟨some d, .slice t x (some lo) none none, ty, pos, af, g⟩ :: rest) k σ w :=
  WL.valW (o := ⟨some d, .slice t x (some lo) none none, ty, pos, af, g⟩) hg hd (fun c hc => by
    have he : P.elem t = e := by simp [Program.elem, hu]
    have hu' : P.underlying t = some (.slice (P.elem t)) := by rw [he]; exact hu
    have h1 := run_slice_l (P := P) (w := w) t ad len cap hu' kl (l : Int) (by omega) (by omega)
    cases hq : P.info? e with
    | none => rw [hq] at hs; cases hs
    | some q =>
      rw [hq] at hs
      simp at hs
      rw [he] at h1
      simp [execOp, hc.eval hx, hc.eval hlo, run_sliceAt_slice _ t _ _ _ _ hu', h1, sizeOf, typeInfo, hq, hs, sliced, fromV]) h
theorem slv_from {α : Type} {ro : Nat → Prop} {u : World} {sz : Nat} {Q : List Value → α → Prop} {ad : Option Addr} {cap : Nat} {xs : List α} (h : SlV ro u sz Q (.slice ad xs.length cap) xs) (l : Nat) (hl : l ≤ xs.length) : SlV ro u sz Q (fromV ad xs.length cap l sz) (xs.drop l) := by
  obtain ⟨ad', cap', e, h1, h2, h3, h4⟩ := h
  cases e
  refine ⟨_, _, by rw [List.length_drop]; rfl, by rw [List.length_drop]; omega, by omega, fun e => ?_, fun i x hx => ?_⟩
  · by_cases hc : cap = l
    · omega
    · rw [if_neg hc] at e
      have := h3 (by simpa using e)
      omega
  · rw [List.getElem?_drop] at hx
    obtain ⟨b, o, cs, he, hr, hlen, hc, hq⟩ := h4 (l + i) x hx
    have hi := (List.getElem?_eq_some_iff.1 hx).1
    refine ⟨b, o + l * sz, cs, ?_, hr, hlen, ?_, hq⟩
    · rw [if_neg (by omega), he]; simp [addr_add]
    · rw [Nat.add_assoc, ← Nat.add_mul]; exact hc
theorem WL.makeFuncB {fn : Fn} {fsts caps : Array Operand} {bs vs : Array Value} (hg : want ops σ g = some true) (hd : Nat.blt d n = true) (hb : (fsts.toList.mapM (ev σ)) = some bs.toList) (hc : (caps.toList.mapM (ev σ)) = some vs.toList)
    (h : WL P n R ops rest k ((d, .func fn bs vs) :: σ) w) : WL P n R ops (⟨some d, .makeFunc fn fsts caps, ty, pos, af, g⟩ :: rest) k σ w :=
  WL.valW (o := ⟨some d, .makeFunc fn fsts caps, ty, pos, af, g⟩) hg hd (fun c hk => by
    have key : ∀ (l : List Operand) (r : List Value), l.mapM (ev σ) = some r → l.map c.eval = r := by
      intro l
      induction l with
      | nil => intro r hr; simp at hr; simp [hr]
      | cons x l ih =>
        intro r hr
        simp only [List.mapM_cons, Option.bind_eq_bind, Option.bind_eq_some_iff, Option.pure_def, Option.some.injEq] at hr
        obtain ⟨v, hv, r', hr', e⟩ := hr
        subst e
        simp [hk.eval hv, ih r' hr']
    have e : caps.map c.eval = vs := by
      apply Array.toList_inj.1
      rw [Array.toList_map]
      exact key _ _ hc
    have e2 : fsts.map c.eval = bs := by
      apply Array.toList_inj.1
      rw [Array.toList_map]
      exact key _ _ hb
    simp [execOp, Instr.makeFunc, e, e2]) h
/-- A call through a function value that has bound values. -/
theorem WL.callVB {f : Nat} {fn : Func} {x : Operand} {xs : Array Operand} {vs : List Value} {bs cs : Array Value} {tt : Array TypeId} {Rc : Value → World → Prop} (hf : P.funcs[f]? = some fn) (hb : (fn.body.isSome && !(fn.name == "runtime.NumGoroutine")) = true)
    (hg : want ops σ g = some true) (hd : Nat.blt d n = true) (hfx : ev σ x = some (.func (.func f) bs cs)) (hx : xs.toList.mapM (ev σ) = some vs) (hc : Ret P f (bs ++ vs.toArray ++ cs) w Rc)
    (h : ∀ v w', Rc v w' → WL P n R ops rest k ((d, v) :: σ) w') : WL P n R ops (⟨some d, .call { callee := .value x, args := xs, argTypes := tt }, ty, pos, af, g⟩ :: rest) k σ w :=
  WL.call (o := ⟨some d, .call { callee := .value x, args := xs, argTypes := tt }, ty, pos, af, g⟩) hg hd (fun c hk => by
    have key : ∀ (l : List Operand) (r : List Value), l.mapM (ev σ) = some r → l.map c.eval = r := by
      intro l
      induction l with
      | nil => intro r hr; simp at hr; simp [hr]
      | cons x l ih =>
        intro r hr
        simp only [List.mapM_cons, Option.bind_eq_bind, Option.bind_eq_some_iff, Option.pure_def, Option.some.injEq] at hr
        obtain ⟨v, hv, r', hr', e⟩ := hr
        subst e
        simp [hk.eval hv, ih r' hr']
    have e : xs.map c.eval = vs.toArray := by
      apply Array.toList_inj.1
      rw [Array.toList_map]
      exact key _ _ hx
    simp only [Bool.and_eq_true, Bool.not_eq_true', Option.isSome_iff_exists, beq_eq_false_iff_ne] at hb
    obtain ⟨⟨bd, hbd⟩, hnm⟩ := hb
    simp [execOp, resolve, invoke, hk.eval hfx, Deferred.ofValue, e, callFunc, hf, hbd, hnm]) hc h
/-- An element of an array that is a variable. -/
theorem WL.indexArr {t e sz len : Nat} {x i : Operand} {kk : IntKind} {b o : Nat} {j : Nat} (hu : P.underlying t = some (.array len e)) (hs : (P.info? e).map (·.size) = some sz) (hg : want ops σ g = some true) (hd : Nat.blt d n = true)
    (hx : ev σ x = some (.pointer (some ⟨b, o, none⟩))) (hi : ev σ i = some (.int kk (j : Int))) (hj : j < len)
    (h : WL P n R ops rest k ((d, .pointer (some ⟨b, o + j * sz, none⟩)) :: σ) w) : WL P n R ops (⟨some d, .indexAddr t x i, ty, pos, af, g⟩ :: rest) k σ w :=
  WL.valW (o := ⟨some d, .indexAddr t x i, ty, pos, af, g⟩) hg hd (fun c hc => by
    cases hq : P.info? e with
    | none => rw [hq] at hs; cases hs
    | some q =>
      rw [hq] at hs
      simp at hs
      simp [execOp, hc.eval hx, hc.eval hi, Instr.indexAt, asIntOf, run_underlying hu, sizeOf, typeInfo, hq, hs, hj, addr_add, Instr.sureAddr]) h
end
/-- One cell of a chunk is written. -/
theorem Chunks.setCell {α : Type} {sz : Nat} {Q : List Value → α → Prop} {cs : List Value} {xs : List α} {x y : α} {i c : Nat} {v : Value} (h : Chunks sz Q cs xs) (hx : xs[i]? = some x) (hc : c < sz) (hq : ∀ l, Q l x → Q (l.set c v) y) :
    Chunks sz Q (cs.take (i * sz + c) ++ [v] ++ cs.drop (i * sz + c + 1)) (xs.set i y) := by
  have hi := (List.getElem?_eq_some_iff.1 hx).1
  have hl := h.1
  have hle : i * sz + sz ≤ cs.length := by
    rw [hl]
    have := Nat.mul_le_mul_right sz (show i + 1 ≤ xs.length from hi)
    rw [Nat.add_mul] at this
    omega
  have e : cs.take (i * sz + c) ++ [v] ++ cs.drop (i * sz + c + 1) = cs.take (i * sz) ++ ((cs.drop (i * sz)).take sz).set c v ++ cs.drop (i * sz + sz) := by
    apply List.ext_getElem?
    intro j
    simp only [List.getElem?_append, List.length_append, List.length_take, List.length_set, List.length_drop, List.length_cons, List.length_nil, List.getElem?_set, List.getElem?_take, List.getElem?_drop]
    by_cases h1 : j < i * sz + c
    · by_cases h2 : j < i * sz
      · rw [if_pos (by omega), if_pos (by omega), if_pos h1, if_pos (by omega), if_pos (by omega), if_pos h2]
      · rw [if_pos (by omega), if_pos (by omega), if_pos h1, if_pos (by omega), if_neg (by omega), if_neg (by omega), if_pos (by omega)]
        congr 1; omega
    · by_cases h2 : j = i * sz + c
      · subst h2
        rw [if_pos (by omega), if_neg (by omega), if_pos (by omega), if_neg (by omega), if_pos (by omega), if_pos (by omega)]
        simp [show i * sz + c - min (i * sz + c) cs.length = 0 by omega]
      · by_cases h3 : j < i * sz + sz
        · rw [if_neg (by omega), if_pos (by omega), if_neg (by omega), if_neg (by omega), if_pos (by omega)]
          congr 1; omega
        · rw [if_neg (by omega), if_neg (by omega)]
          congr 1; omega
  rw [e]
  have h2 := h.setAt (c := ((cs.drop (i * sz)).take sz).set c v) (x := y) hi (by rw [List.length_set, List.length_take, List.length_drop]; omega) (hq _ (h.2 i x hx))
  exact h2
end Go.Proofs.Ytokkiaokpfediaa
