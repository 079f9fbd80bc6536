/-
  An own array of values of one cell each, read and written at an index; a slice's own block in place of an own row; what a closure does to its caller's own memory. No condition beyond those that each theorem states.
-/
import Derived.Test.YtdlcmhkfglckfaaA12
namespace Go.Proofs.Ytdlcmhkfglckfaa
open Go.RowKit

/-- A block that holds the values of a list, one cell each. -/
def arrO {α : Type} (f : α → Value) (t : Nat) (u : List α) : Obj := .cells (u.map f).toArray t (0, 0)
section
variable {w0 ws w : World} {ro : Nat → Prop} {L : List (Nat × Obj)} {Rs : List Row} {α : Type} {f : α → Value} {t b : Nat} {u : List α}
theorem St.arr (h : St w0 ws w ro L Rs) (i : Nat) (hL : L[i]? = some (b, arrO f t u)) {j : Nat} {x : α} (hx : u[j]? = some x) : w.cell? ⟨b, 0 + j * 1, none⟩ = some (f x) := by
  have hb := h.own _ (List.mem_of_getElem? hL)
  rw [show 0 + j * 1 = j by omega, cell_of_row w b j _ t (0, 0) hb]
  simp [hx]
theorem arr_row {v : Value} (h : St w0 ws w ro ((b, arrO f t u) :: L) Rs) (hm : u.length ≤ maxLen) {nn : Nat} (hn : u.length = nn) (hv : v = .slice (some ⟨b, 0, none⟩) nn nn) {Q : List Value → α → Prop} (hQ : ∀ x ∈ u, Q [f x] x) {ro' : Nat → Prop} (hr : ro' b) : SlV ro' w 1 Q v u := by
  have hb := h.own _ List.mem_cons_self
  subst hn
  subst hv
  refine ⟨_, _, rfl, Nat.le_refl _, hm, (fun e => by cases e), fun i x hx => ⟨b, 0, [f x], rfl, hr, rfl, ?_, hQ x (List.mem_of_getElem? hx)⟩⟩
  intro j y hj
  cases j with
  | zero =>
    simp only [List.getElem?_cons_zero, Option.some.injEq] at hj
    subst hj
    exact h.arr 0 rfl hx
  | succ j => simp at hj
end
section
variable {P : Program} {n : Nat} {R : Exit → Act → World → Prop} {k : Kt} {σ : Env} {w : World} {ops : Array Oper} {rest : List Oper}
variable {d : Nat} {ty : TypeId} {pos : String} {af : Array Edge} {g : Option (Nat × Bool)}
variable {w0 ws : World} {ro : Nat → Prop} {L : List (Nat × Obj)} {Rs : List Row} {α : Type} {f : α → Value} {t b : Nat} {u : List α}
theorem WL.makeSliceL {t e m : Nat} {x y : Operand} {kk kk' : IntKind} {z : α} (by' : Nat) (hu : P.underlying t = some (.slice e)) (hz : TyZero P e [f z]) (hby : (P.info? e).map (·.bytes) = some by') (hg : want ops σ g = some true) (hd : Nat.blt d n = true)
    (hx : ev σ x = some (.int kk (m : Int))) (hy : ev σ y = some (.int kk' (m : Int))) (hS : St w0 ws w ro L Rs) (hmx : m ≤ maxLen) (hbytes : m * by' ≤ 281474976710656)
    (h : ∀ w' b, St w0 ws w' ro ((b, arrO f e (List.replicate m z)) :: L) Rs → WL P n R ops rest k ((d, .slice (some ⟨b, 0, none⟩) m m) :: σ) w') :
    WL P n R ops (⟨some d, .makeSlice t x y, ty, pos, af, g⟩ :: rest) k σ w := by
  obtain ⟨i, z', hi, hz1, hz2, hz3⟩ := hz
  have hb2 : i.bytes = by' := by rw [hi] at hby; simpa using hby
  have hbb : (i.bytes : Int) * (m : Int) ≤ 281474976710656 := by
    rw [hb2, ← Int.natCast_mul, Nat.mul_comm]
    omega
  have hr := run_make (P := P) w t e i z' hu hi hz1 kk kk' (m : Int) (m : Int) (by omega) (Int.le_refl _) hbb (by unfold maxLen at hmx; omega)
  simp only [Int.toNat_natCast] at hr
  refine WL.valW (o := ⟨some d, .makeSlice t x y, ty, pos, af, g⟩) (v := .slice (some ⟨w.heap.size, 0, none⟩) m m) (w' := w.alloc (.cells (madeCells z'.cells (m * i.size)) e)) hg hd (fun a ha => by simp [execOp, ha.eval hx, ha.eval hy, hr]) (h _ _ ?_)
  have e1 : (Obj.cells (madeCells z'.cells (m * i.size)) e) = arrO f e (List.replicate m z) := by
    unfold arrO
    rw [hz2, hz3]
    congr 1
    apply Array.toList_inj.1
    rw [made_toList [f z] (by simp) m]
    simp only [List.map_replicate]
    clear hr hbb hbytes hmx hx hy h
    induction m with
    | zero => rfl
    | succ m ih => rw [List.replicate_succ, List.flatten_cons, List.replicate_succ, ih]; rfl
  rw [e1]
  exact hS.alloc _
theorem WL.storeArr {tv e : TypeId} {x y : Operand} {j : Nat} {v : α} (i : Nat) (hg : want ops σ g = some true) (hx : ev σ x = some (.pointer (some ⟨b, 0 + j * 1, none⟩))) (hy : ev σ y = some (f v)) (hc : (f v).cells.toList = [f v])
    (hs : tySize P tv 1 = true) (h1 : (f v).oneCell' = true) (hL : L[i]? = some (b, arrO f e u)) (hlen : j < u.length) (hS : St w0 ws w ro L Rs)
    (h : ∀ w', St w0 ws w' ro (L.set i (b, arrO f e (u.set j v))) Rs → WL P n R ops rest k σ w') : WL P n R ops (⟨none, .store tv x y, ty, pos, af, g⟩ :: rest) k σ w := by
  have hlt : j < (u.map f).toArray.size := by simpa using hlen
  refine WL.store (c' := ((u.map f).set j (f v)).toArray) (L' := L.set i (b, arrO f e (u.set j v))) (off := 0 + j * 1) i hg hx hy hc (by simpa using hs) (by simpa using h1) hL (by rw [Nat.ble_eq]; simp; omega) ?_ ?_ hS h
  · apply Array.toList_inj.1
    simp only [List.length_cons, List.length_nil, show 0 + j * 1 = j by omega]
    rw [List.set_eq_take_append_cons_drop, if_pos (by simpa using hlen)]
    simp
  · simp [arrO, List.map_set]
end
end Go.Proofs.Ytdlcmhkfglckfaa
