/-
  An own array of values of one cell each, read and written at an index; a slice's own block in place of an own row; what a closure does to its caller's own memory. No condition beyond those that each theorem states.
-/
import Derived.Test.YtcmmhfknkldmcaaDoorA12
namespace Go.Proofs.YtcmmhfknkldmcaaDoor
open Go.RowKit

/-- A block that holds the values of a list, one cell each. -/
def arrO {α : Type} (f : α → Value) (t : Nat) (u : List α) : Obj := .cells (u.map f).toArray t (0, 0)
section
variable {w0 ws w : World} {ro : Nat → Prop} {L : List (Nat × Obj)} {Rs : List Row} {α : Type} {f : α → Value} {t b : Nat} {u : List α}
theorem St.arr (h : St w0 ws w ro L Rs) (i : Nat) (hL : L[i]? = some (b, arrO f t u)) {j : Nat} {x : α} (hx : u[j]? = some x) : w.cell? ⟨b, 0 + j * 1, none⟩ = some (f x) := by
  have hb := h.own _ (List.mem_of_getElem? hL)
  rw [show 0 + j * 1 = j by omega, cell_of_row w b j _ t (0, 0) hb]
  simp [hx]
theorem arr_row {v : Value} (h : St w0 ws w ro ((b, arrO f t u) :: L) Rs) (hm : u.length ≤ maxLen) {nn : Nat} (hn : u.length = nn) (hv : v = .slice (some ⟨b, 0, none⟩) nn nn) {Q : List Value → α → Prop} (hQ : ∀ x ∈ u, Q [f x] x) {ro' : Nat → Prop} (hr : ro' b) : SlV ro' w 1 Q v u := by
  have hb := h.own _ List.mem_cons_self
  subst hn
  subst hv
  refine ⟨_, _, rfl, Nat.le_refl _, hm, (fun e => by cases e), fun i x hx => ⟨b, 0, [f x], rfl, hr, rfl, ?_, hQ x (List.mem_of_getElem? hx)⟩⟩
  intro j y hj
  cases j with
  | zero =>
    simp only [List.getElem?_cons_zero, Option.some.injEq] at hj
    subst hj
    exact h.arr 0 rfl hx
  | succ j => simp at hj
end
section
variable {P : Program} {n : Nat} {R : Exit → Act → World → Prop} {k : Kt} {σ : Env} {w : World} {ops : Array Oper} {rest : List Oper}
variable {d : Nat} {ty : TypeId} {pos : String} {af : Array Edge} {g : Option (Nat × Bool)}
variable {w0 ws : World} {ro : Nat → Prop} {L : List (Nat × Obj)} {Rs : List Row} {α : Type} {f : α → Value} {t b : Nat} {u : List α}
theorem WL.makeSliceL {t e m : Nat} {x y : Operand} {kk kk' : IntKind} {z : α} (by' : Nat) (hu : P.underlying t = some (.slice e)) (hz : TyZero P e [f z]) (hby : (P.info? e).map (·.bytes) = some by') (hg : want ops σ g = some true) (hd : Nat.blt d n = true)
    (hx : ev σ x = some (.int kk (m : Int))) (hy : ev σ y = some (.int kk' (m : Int))) (hS : St w0 ws w ro L Rs) (hmx : m ≤ maxLen) (hbytes : m * by' ≤ 281474976710656)
    (h : ∀ w' b, St w0 ws w' ro ((b, arrO f e (List.replicate m z)) :: L) Rs → WL P n R ops rest k ((d, .slice (some ⟨b, 0, none⟩) m m) :: σ) w') :
    WL P n R ops (⟨some d, .makeSlice t x y, ty, pos, af, g⟩ :: rest) k σ w := by
  obtain ⟨i, z', hi, hz1, hz2, hz3⟩ := hz
  have hb2 : i.bytes = by' := by rw [hi] at hby; simpa using hby
  have hbb : (i.bytes : Int) * (m : Int) ≤ 281474976710656 := by
    rw [hb2, ← Int.natCast_mul, Nat.mul_comm]
    omega
  have hr := run_make (P := P) w t e i z' hu hi hz1 kk kk' (m : Int) (m : Int) (by omega) (Int.le_refl _) hbb (by unfold maxLen at hmx; omega)
  simp only [Int.toNat_natCast] at hr
  refine WL.valW (o := ⟨some d, .makeSlice t x y, ty, pos, af, g⟩) (v := .slice (some ⟨w.heap.size, 0, none⟩) m m) (w' := w.alloc (.cells (madeCells z'.cells (m * i.size)) e)) hg hd (fun a ha => by simp [execOp, ha.eval hx, ha.eval hy, hr]) (h _ _ ?_)
  have e1 : (Obj.cells (madeCells z'.cells (m * i.size)) e) = arrO f e (List.replicate m z) := by
    unfold arrO
    rw [hz2, hz3]
    congr 1
    apply Array.toList_inj.1
    rw [made_toList [f z] (by simp) m]
    simp only [List.map_replicate]
    clear hr hbb hbytes hmx hx hy h
    induction m with
    | zero => rfl
    | succ m ih => rw [List.replicate_succ, List.flatten_cons, List.replicate_succ, ih]; rfl
  rw [e1]
  exact hS.alloc _
theorem WL.storeArr {tv e : TypeId} {x y : Operand} {j : Nat} {v : α} (i : Nat) (hg : want ops σ g = some true) (hx : ev σ x = some (.pointer (some ⟨b, 0 + j * 1, none⟩))) (hy : ev σ y = some (f v)) (hc : (f v).cells.toList = [f v])
    (hs : tySize P tv 1 = true) (h1 : (f v).oneCell' = true) (hL : L[i]? = some (b, arrO f e u)) (hlen : j < u.length) (hS : St w0 ws w ro L Rs)
    (h : ∀ w', St w0 ws w' ro (L.set i (b, arrO f e (u.set j v))) Rs → WL P n R ops rest k σ w') : WL P n R ops (⟨none, .store tv x y, ty, pos, af, g⟩ :: rest) k σ w := by
  have hlt : j < (u.map f).toArray.size := by simpa using hlen
  refine WL.store (c' := ((u.map f).set j (f v)).toArray) (L' := L.set i (b, arrO f e (u.set j v))) (off := 0 + j * 1) i hg hx hy hc (by simpa using hs) (by simpa using h1) hL (by rw [Nat.ble_eq]; simp; omega) ?_ ?_ hS h
  · apply Array.toList_inj.1
    simp only [List.length_cons, List.length_nil, show 0 + j * 1 = j by omega]
    rw [List.set_eq_take_append_cons_drop, if_pos (by simpa using hlen)]
    simp
  · simp [arrO, List.map_set]
end
end Go.Proofs.YtcmmhfknkldmcaaDoor

namespace Go.Proofs.YtcmmhfknkldmcaaDoor
open Go.RowKit

/-- The head's operations one by one; 's' is the store. -/
def AllS (P : Program) (n : Nat) (ops : Array Oper) (H0 : List Value) (σ : Env) (s : Nat) (C1 C2 : World → Prop) : Nat → List (Value × Bool) → List Oper → Prop
  | i, (v, b) :: H, o :: l => (bif Nat.beq i s then (∀ w, C1 w → WL P n NoR ops [o] (.cut (CI n (fun _ : Unit => ([] : Env)) (fun _ w' => C2 w')) .fin) (hEnv (fun _ => 0) (H0.map .q) ops (depsOf ops i) ++ σ) w)
      else (∀ C, C = C1 ∨ (bif b then False else C = C2) → ∀ w, C w → WL P n NoR ops [o] (.cut (CI n (fun _ : Unit => putS o.dst v []) (fun _ w' => Below w.heap.size w w')) .fin) (hEnv (fun _ => 0) (H0.map .q) ops (depsOf ops i) ++ σ) w)) ∧ AllS P n ops H0 σ s C1 C2 (i + 1) H l
  | _, [], _ => True
  | _, _ :: _, [] => False
theorem AllS.at {P : Program} {n : Nat} {ops : Array Oper} {H0 : List Value} {σ : Env} {s : Nat} {C1 C2 : World → Prop} : ∀ (H : List (Value × Bool)) (l : List Oper) (m : Nat), AllS P n ops H0 σ s C1 C2 m H l → ∀ (i : Nat) (v : Value × Bool) (o : Oper), H[i]? = some v → l[i]? = some o →
    (bif Nat.beq (m + i) s then (∀ w, C1 w → WL P n NoR ops [o] (.cut (CI n (fun _ : Unit => ([] : Env)) (fun _ w' => C2 w')) .fin) (hEnv (fun _ => 0) (H0.map .q) ops (depsOf ops (m + i)) ++ σ) w)
      else (∀ C, C = C1 ∨ (bif v.2 then False else C = C2) → ∀ w, C w → WL P n NoR ops [o] (.cut (CI n (fun _ : Unit => putS o.dst v.1 []) (fun _ w' => Below w.heap.size w w')) .fin) (hEnv (fun _ => 0) (H0.map .q) ops (depsOf ops (m + i)) ++ σ) w))
  | [], _, _, _, i, v, o, hi, _ => by simp at hi
  | _ :: _, [], _, _, i, v, o, _, ho => by simp at ho
  | x :: F, o' :: l, m, h, 0, v, o, hi, ho => by
    simp only [List.getElem?_cons_zero, Option.some.injEq] at hi ho
    subst hi; subst ho
    exact h.1
  | x :: F, o' :: l, m, h, i + 1, v, o, hi, ho => by
    rw [show m + (i + 1) = m + 1 + i by omega]
    exact AllS.at F l (m + 1) h.2 i v o (by simpa using hi) (by simpa using ho)
end Go.Proofs.YtcmmhfknkldmcaaDoor

namespace Go.Proofs.YtcmmhfknkldmcaaDoor
open Go.RowKit

section
variable {w0 ws w : World} {ro : Nat → Prop} {L : List (Nat × Obj)} {Rs : List Row} {b : Nat} {o : Obj}
theorem St.give (h : St w0 ws w ro ((b, o) :: L) Rs) : St w0 w w (fun x => ro x ∨ x = b) L Rs := by
  have hk : b ∈ keysOf ((b, o) :: L) Rs := by simp [keysOf]
  have hnd := h.nodup
  simp only [keysOf, List.map_cons, List.cons_append, List.nodup_cons] at hnd
  refine ⟨h.below, fun x hx => ⟨hx.elim (fun hx => (h.snap x hx).1) (fun hx => by rw [hx]; exact (h.keys b hk).2.1), rfl⟩, fun p hp => h.own p (List.mem_cons_of_mem _ hp), h.rows, fun x hx => ?_, hnd.2⟩
  have hx' : x ∈ keysOf ((b, o) :: L) Rs := by simp only [keysOf, List.map_cons, List.cons_append]; exact List.mem_cons_of_mem _ hx
  obtain ⟨h1, h2, h3⟩ := h.keys x hx'
  exact ⟨h1, h2, fun hr => hr.elim h3 fun e => hnd.1 (by rw [← e]; exact hx)⟩
theorem St.giveAlike (h : St w0 ws w ro ((b, o) :: L) Rs) : Alike ro ws (fun x => ro x ∨ x = b) w := fun x hx => ⟨.inl hx, (h.snap x hx).2⟩
/-- A row of the call's own that is only read from here on. -/
theorem St.giveRow {r : Row} (h : St w0 ws w ro L (r :: Rs)) : St w0 w w (fun x => ro x ∨ r.v.ownBlock = some x) L Rs := by
  have hs : List.Sublist (keysOf L Rs) (keysOf L (r :: Rs)) := List.Sublist.append (List.Sublist.refl _) ((List.sublist_cons_self r Rs).filterMap _)
  have hk : ∀ x, r.v.ownBlock = some x → x ∈ keysOf L (r :: Rs) := fun x e => by simp only [keysOf, List.mem_append, List.mem_filterMap]; exact .inr ⟨r, List.mem_cons_self, e⟩
  refine ⟨h.below, fun x hx => ⟨hx.elim (fun hx => (h.snap x hx).1) (fun hx => (h.keys x (hk x hx)).2.1), rfl⟩, h.own, fun q hq => h.rows q (List.mem_cons_of_mem _ hq), fun x hx => ?_, List.Nodup.sublist hs h.nodup⟩
  obtain ⟨h1, h2, h3⟩ := h.keys x (hs.subset hx)
  refine ⟨h1, h2, fun hr => hr.elim h3 fun e => ?_⟩
  have hnd := h.nodup
  simp only [keysOf, List.filterMap_cons, e] at hnd
  have hp : (List.map (·.1) L ++ x :: List.filterMap (fun q : Row => q.v.ownBlock) Rs).Perm (x :: (List.map (·.1) L ++ List.filterMap (fun q : Row => q.v.ownBlock) Rs)) := List.perm_middle
  have := (List.nodup_cons.1 (hp.nodup_iff.1 hnd)).1
  exact this hx
theorem St.giveRowAlike {r : Row} (h : St w0 ws w ro L (r :: Rs)) : Alike ro ws (fun x => ro x ∨ r.v.ownBlock = some x) w := fun x hx => ⟨.inl hx, (h.snap x hx).2⟩
theorem St.permR {Rs' : List Row} (h : St w0 ws w ro L Rs) (hp : Rs.Perm Rs') : St w0 ws w ro L Rs' := by
  have hk : (keysOf L Rs).Perm (keysOf L Rs') := List.Perm.append_left _ (hp.filterMap _)
  exact ⟨h.below, h.snap, h.own, fun r hr => h.rows r (hp.mem_iff.2 hr), fun x hx => h.keys x (hk.mem_iff.2 hx), hk.nodup_iff.1 h.nodup⟩
/-- What is read more in between is forgotten. -/
theorem St.backTo {ro' : Nat → Prop} {ws0 : World} (h : St w0 ws w ro' L Rs) (ha : Alike ro ws0 ro' ws) : St w0 ws0 w ro L Rs :=
  ⟨h.below, fun b hb => ⟨(h.snap b (ha b hb).1).1, (h.snap b (ha b hb).1).2.trans (ha b hb).2⟩, h.own, h.rows, fun x hx => ⟨(h.keys x hx).1, (h.keys x hx).2.1, fun hr => (h.keys x hx).2.2 (ha x hr).1⟩, h.nodup⟩
end
theorem stays_new {α : Type} {B sz : Nat} {Q : List Value → α → Prop} {xs : List α} : Stays fun v u => SlV (fun b => B ≤ b ∧ b < u.heap.size) u sz Q v xs := fun _ _ _ h hb =>
  h.keep (fun b hr => ⟨⟨hr.1, Nat.lt_of_lt_of_le hr.2 hb.size⟩, hb.block b hr.2⟩) fun _ _ q => q
theorem newUp {α : Type} {B sz : Nat} {Q : List Value → α → Prop} {xs : List α} {v : Value} {wd w' : World} (h : SlV (fun b => wd.heap.size ≤ b ∧ b < w'.heap.size) w' sz Q v xs) (hb : B ≤ wd.heap.size) : SlV (fun b => B ≤ b ∧ b < w'.heap.size) w' sz Q v xs :=
  h.keep (fun _ hr => ⟨⟨Nat.le_trans hb hr.1, hr.2⟩, rfl⟩) fun _ _ q => q
section
open Go.MapKept
variable {P : Program} {n : Nat} {R : Exit → Act → World → Prop} {k : Kt} {σ : Env} {w : World} {ops : Array Oper} {rest : List Oper}
variable {ty : TypeId} {pos : String} {af : Array Edge} {gd : Option (Nat × Bool)}
variable {w0 ws : World} {ro : Nat → Prop} {L : List (Nat × Obj)} {Rs : List Row}
variable {κ ν : Type} {kv : κ → Value} {vv : ν → Value} {es : Array MapEntry} {clock m : Nat} {g : κ → Option ν} {dk : TypeDesc} {mty kt et b : Nat}
theorem WL.mapDel [DecidableEq κ] {x y : Operand} (i : Nat) (key : κ) (he : KeyE dk kv) (hm : P.underlying mty = some (.map kt et)) (hdk : P.underlying kt = some dk) (hM : MapG kv vv es clock m g) (hg : want ops σ gd = some true)
    (hx : ev σ x = some (.map (some b))) (hy : ev σ y = some (kv key)) (hL : L[i]? = some (b, .map es clock)) (hS : St w0 ws w ro L Rs)
    (h : ∀ w' es' clock', MapG kv vv es' clock' m (delG g key) → St w0 ws w' ro (L.set i (b, .map es' clock')) Rs → WL P n R ops rest k σ w') :
    WL P n R ops (⟨none, .call { callee := .builtin .delete, args := #[x, y], argTypes := #[mty, kt] }, ty, pos, af, gd⟩ :: rest) k σ w := by
  have hb := hS.own _ (List.mem_of_getElem? hL)
  obtain ⟨es', clock', hr, hM'⟩ := hM.run_del (P := P) he hm hdk hb key ty
  exact WL.valW (o := ⟨none, .call { callee := .builtin .delete, args := #[x, y], argTypes := #[mty, kt] }, ty, pos, af, gd⟩) (v := .tuple #[]) hg rfl (fun a ha => by simp [execOp, resolve, invoke, builtin, ha.eval hx, ha.eval hy, hr])
    (h _ _ _ hM' (hS.upd hL (grownBy_setObj w _ hb) (heap_set hb).1))
end
section
variable {w0 ws w : World} {ro : Nat → Prop} {L : List (Nat × Obj)} {Rs : List Row} {a b c d r r' : Row}
/-- A row in other words. -/
theorem St.rw0 (h : St w0 ws w ro L (r :: Rs)) (e : r' = r) : St w0 ws w ro L (r' :: Rs) := by rw [e]; exact h
theorem St.rw1 (h : St w0 ws w ro L (a :: r :: Rs)) (e : r' = r) : St w0 ws w ro L (a :: r' :: Rs) := by rw [e]; exact h
theorem St.rw2 (h : St w0 ws w ro L (a :: b :: r :: Rs)) (e : r' = r) : St w0 ws w ro L (a :: b :: r' :: Rs) := by rw [e]; exact h
theorem St.rw3 (h : St w0 ws w ro L (a :: b :: c :: r :: Rs)) (e : r' = r) : St w0 ws w ro L (a :: b :: c :: r' :: Rs) := by rw [e]; exact h
theorem St.rw4 (h : St w0 ws w ro L (a :: b :: c :: d :: r :: Rs)) (e : r' = r) : St w0 ws w ro L (a :: b :: c :: d :: r' :: Rs) := by rw [e]; exact h
end
end Go.Proofs.YtcmmhfknkldmcaaDoor
