/-
  Several rows that a call has made, handed over at once. No condition beyond those that each theorem states.
-/
import Derived.Test.YtcmmhfknkldmcaaA8
namespace Go.Proofs.Ytcmmhfknkldmcaa
open Go.RowKit

section
variable {w0 ws w w' : World} {ro : Nat → Prop} {L : List (Nat × Obj)} {Rs : List Row}
/-- What a call hands back: rows of its own, apart from each other. -/
abbrev Made (w w' : World) (Rs : List Row) : Prop := St w w w' (fun _ => False) [] Rs
theorem St.made (h : St w0 ws w ro L Rs) : Made w0 w Rs := ⟨h.below, fun _ hf => hf.elim, by simp, h.rows, fun x hx => ⟨(h.keys x (by simp only [keysOf, List.mem_append, List.map_nil, List.not_mem_nil, false_or] at hx ⊢; exact .inr hx)).1, (h.keys x (by simp only [keysOf, List.mem_append, List.map_nil, List.not_mem_nil, false_or] at hx ⊢; exact .inr hx)).2.1, fun hf => hf⟩, by have := h.nodup; simp only [keysOf, List.map_nil, List.nil_append] at this ⊢; exact (List.nodup_append.1 this).2.1⟩
theorem Made.up {B : World} {Rs' : List Row} (hb : Below B.heap.size B w) (hN : Made w w' Rs') : Made B w' Rs' :=
  ⟨hb.trans (hN.below.mono hb.size), fun _ hf => hf.elim, by simp, fun r hr => ownsRow_base (hN.rows r hr) hb.size, fun x hx => ⟨Nat.le_trans hb.size (hN.keys x hx).1, (hN.keys x hx).2.1, fun hf => hf⟩, hN.nodup⟩
end
end Go.Proofs.Ytcmmhfknkldmcaa
