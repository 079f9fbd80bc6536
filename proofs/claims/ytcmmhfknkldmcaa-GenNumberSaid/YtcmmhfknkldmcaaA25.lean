/-
  Further operations: numbers converted, slices of slices, functions with bound values, arrays that are variables, one cell of a row. No condition beyond those that each theorem states.
-/
import Derived.Test.YtcmmhfknkldmcaaA24
namespace Go.Proofs.Ytcmmhfknkldmcaa
open Go.RowKit

section
variable {P : Program} {n : Nat} {R : Exit → Act → World → Prop} {k : Kt} {σ : Env} {w : World} {ops : Array Oper} {rest : List Oper}
variable {d : Nat} {ty : TypeId} {pos : String} {af : Array Edge} {g : Option (Nat × Bool)}
theorem WL.convInt {src dst : TypeId} {x : Operand} {kk k2 : IntKind} {a : Int} (hs : (P.underlying src).isSome = true) (hu : P.underlying dst = some (.int k2)) (hg : want ops σ g = some true) (hd : Nat.blt d n = true)
    (hx : ev σ x = some (.int kk a)) (h : WL P n R ops rest k ((d, .int k2 (k2.wrap a)) :: σ) w) : WL P n R ops (⟨some d, .convert src dst x, ty, pos, af, g⟩ :: rest) k σ w :=
  WL.valW (o := ⟨some d, .convert src dst x, ty, pos, af, g⟩) hg hd (fun c hc => by
    have he : P.intKind dst = k2 := by simp [Program.intKind, hu]
    have h1 := run_convert_int (P := P) w src dst kk a hs (by rw [he]; exact hu)
    rw [he] at h1
    simp [execOp, hc.eval hx, h1]) h
/-- 's[l:]'. -/
def fromV (ad : Option Addr) (len cap l sz : Nat) : Value := .slice (if cap = l then ad else ad.map (·.add (l * sz))) (len - l) (cap - l)
theorem WL.sliceFrom {t e sz : TypeId} {x lo : Operand} {ad : Option Addr} {len cap l : Nat} {kl : IntKind} (hu : P.underlying t = some (.slice e)) (hs : (P.info? e).map (·.size) = some sz) (hg : want ops σ g = some true) (hd : Nat.blt d n = true)
    (hx : ev σ x = some (.slice ad len cap)) (hlo : ev σ lo = some (.int kl (l : Int))) (hl : l ≤ len) (h : WL P n R ops rest k ((d, fromV ad len cap l sz) :: σ) w) : WL P n R ops (⟨some d, .slice t x (some lo) none none, ty, pos, af, g⟩ :: rest) k σ w :=
  WL.valW (o := ⟨some d, .slice t x (some lo) none none, ty, pos, af, g⟩) hg hd (fun c hc => by
    have he : P.elem t = e := by simp [Program.elem, hu]
    have hu' : P.underlying t = some (.slice (P.elem t)) := by rw [he]; exact hu
    have h1 := run_slice_l (P := P) (w := w) t ad len cap hu' kl (l : Int) (by omega) (by omega)
    cases hq : P.info? e with
    | none => rw [hq] at hs; cases hs
    | some q =>
      rw [hq] at hs
      simp at hs
      rw [he] at h1
      simp [execOp, hc.eval hx, hc.eval hlo, run_sliceAt_slice _ t _ _ _ _ hu', h1, sizeOf, typeInfo, hq, hs, sliced, fromV]) h
theorem slv_from {α : Type} {ro : Nat → Prop} {u : World} {sz : Nat} {Q : List Value → α → Prop} {ad : Option Addr} {cap : Nat} {xs : List α} (h : SlV ro u sz Q (.slice ad xs.length cap) xs) (l : Nat) (hl : l ≤ xs.length) : SlV ro u sz Q (fromV ad xs.length cap l sz) (xs.drop l) := by
  obtain ⟨ad', cap', e, h1, h2, h3, h4⟩ := h
  cases e
  refine ⟨_, _, by rw [List.length_drop]; rfl, by rw [List.length_drop]; omega, by omega, fun e => ?_, fun i x hx => ?_⟩
  · by_cases hc : cap = l
    · omega
    · rw [if_neg hc] at e
      have := h3 (by simpa using e)
      omega
  · rw [List.getElem?_drop] at hx
    obtain ⟨b, o, cs, he, hr, hlen, hc, hq⟩ := h4 (l + i) x hx
    have hi := (List.getElem?_eq_some_iff.1 hx).1
    refine ⟨b, o + l * sz, cs, ?_, hr, hlen, ?_, hq⟩
    · rw [if_neg (by omega), he]; simp [addr_add]
    · rw [Nat.add_assoc, ← Nat.add_mul]; exact hc
/-- An element of an array that is a variable. -/
theorem WL.indexArr {t e sz len : Nat} {x i : Operand} {kk : IntKind} {b o : Nat} {j : Nat} (hu : P.underlying t = some (.array len e)) (hs : (P.info? e).map (·.size) = some sz) (hg : want ops σ g = some true) (hd : Nat.blt d n = true)
    (hx : ev σ x = some (.pointer (some ⟨b, o, none⟩))) (hi : ev σ i = some (.int kk (j : Int))) (hj : j < len)
    (h : WL P n R ops rest k ((d, .pointer (some ⟨b, o + j * sz, none⟩)) :: σ) w) : WL P n R ops (⟨some d, .indexAddr t x i, ty, pos, af, g⟩ :: rest) k σ w :=
  WL.valW (o := ⟨some d, .indexAddr t x i, ty, pos, af, g⟩) hg hd (fun c hc => by
    cases hq : P.info? e with
    | none => rw [hq] at hs; cases hs
    | some q =>
      rw [hq] at hs
      simp at hs
      simp [execOp, hc.eval hx, hc.eval hi, Instr.indexAt, asIntOf, run_underlying hu, sizeOf, typeInfo, hq, hs, hj, addr_add, Instr.sureAddr]) h
end
end Go.Proofs.Ytcmmhfknkldmcaa
