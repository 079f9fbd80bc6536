/-
  Memory in the walks of these claims: which blocks the call owns, which it only reads, and the rules for operations that read, write or make memory. No condition beyond those that each theorem states.
-/
import Derived.Test.YtcmmhfknkldmcaaA2
namespace Go.Proofs.Ytcmmhfknkldmcaa
open Go.RowKit

structure Row where
  v : Value
  e : TypeId
  sz : Nat
  n : Nat
  xs : List Value
def keysOf (L : List (Nat × Obj)) (Rs : List Row) : List Nat := L.map (·.1) ++ Rs.filterMap (·.v.ownBlock)
/-- w0: the world at the call's begin; ws: the world in which what is only read is looked at; ro: the blocks that are only read; L: the call's own blocks; Rs: its own rows that may grow. -/
structure St (w0 ws w : World) (ro : Nat → Prop) (L : List (Nat × Obj)) (Rs : List Row) : Prop where
  below : Below w0.heap.size w0 w
  snap : ∀ b, ro b → b < w.heap.size ∧ w.heap[b]? = ws.heap[b]?
  own : ∀ p ∈ L, w.heap[p.1]? = some p.2
  rows : ∀ r ∈ Rs, w.ownsRow w0.heap.size r.e r.sz r.v r.n r.xs
  keys : ∀ x ∈ keysOf L Rs, w0.heap.size ≤ x ∧ x < w.heap.size ∧ ¬ ro x
  nodup : (keysOf L Rs).Nodup

theorem St.start {w : World} {ro : Nat → Prop} (h : ∀ b, ro b → b < w.heap.size) : St w w w ro [] [] :=
  ⟨Below.refl _ _, fun b hb => ⟨h b hb, rfl⟩, by simp, by simp, by simp [keysOf], by simp [keysOf]⟩

section
variable {w0 ws w w' : World} {ro : Nat → Prop} {L : List (Nat × Obj)} {Rs : List Row}
theorem keysOf_lt (h : St w0 ws w ro L Rs) {x : Nat} (hx : x ∈ keysOf L Rs) : x < w.heap.size := (h.keys x hx).2.1
/-- A world in which nothing that there was has turned. -/
theorem St.grow (h : St w0 ws w ro L Rs) (hb : Below w.heap.size w w') : St w0 ws w' ro L Rs := by
  refine ⟨h.below.trans (hb.mono h.below.size), ?_, ?_, ?_, ?_, h.nodup⟩
  · intro b hr
    obtain ⟨h1, h2⟩ := h.snap b hr
    exact ⟨Nat.lt_of_lt_of_le h1 hb.size, (hb.block b h1).trans h2⟩
  · intro p hp
    rw [hb.block p.1 (keysOf_lt h (by simp only [keysOf, List.mem_append, List.mem_map]; exact .inl ⟨p, hp, rfl⟩))]
    exact h.own p hp
  · intro r hr
    have hg : w.grownBy w' none := ⟨hb.os, hb.tape, hb.output, hb.size, fun k hk _ => hb.block k hk⟩
    exact (h.rows r hr).kept hg (by cases r.v.ownBlock <;> simp)
  · intro x hx
    obtain ⟨h1, h2, h3⟩ := h.keys x hx
    exact ⟨h1, Nat.lt_of_lt_of_le h2 hb.size, h3⟩
/-- Other blocks are read as well from here on: those of a result. -/
theorem St.read (h : St w0 ws w ro L Rs) (hb : Below w.heap.size w w') {ro' : Nat → Prop} (h1 : ∀ b, ro' b → ro b ∨ w.heap.size ≤ b) (h2 : ∀ b, ro' b → b < w'.heap.size) : St w0 w' w' ro' L Rs := by
  have g := h.grow hb
  refine ⟨g.below, fun b hr => ⟨h2 b hr, rfl⟩, g.own, g.rows, ?_, g.nodup⟩
  intro x hx
  obtain ⟨k1, k2, k3⟩ := g.keys x hx
  refine ⟨k1, k2, fun hr => ?_⟩
  rcases h1 x hr with h4 | h4
  · exact (h.keys x hx).2.2 h4
  · exact absurd (keysOf_lt h hx) (by omega)
theorem St.alloc (h : St w0 ws w ro L Rs) (o : Obj) : St w0 ws (w.alloc o) ro ((w.heap.size, o) :: L) Rs := by
  have g := h.grow ((Below.refl w.heap.size w).alloc (Nat.le_refl _) o)
  refine ⟨g.below, g.snap, ?_, g.rows, ?_, ?_⟩
  · intro p hp
    rcases List.mem_cons.1 hp with e | hp
    · subst e; exact Go.heap_alloc_new w o
    · exact g.own p hp
  · intro x hx
    simp only [keysOf, List.map_cons, List.cons_append, List.mem_cons] at hx
    rcases hx with e | hx
    · subst e
      refine ⟨h.below.size, by simp, fun hr => ?_⟩
      exact absurd (h.snap _ hr).1 (by omega)
    · exact g.keys x (by simpa [keysOf] using hx)
  · simp only [keysOf, List.map_cons, List.cons_append, List.nodup_cons]
    refine ⟨fun hx => ?_, h.nodup⟩
    exact absurd (keysOf_lt h (x := w.heap.size) (by simpa [keysOf] using hx)) (by omega)
theorem keysOf_set (L : List (Nat × Obj)) (Rs : List Row) (i b : Nat) (o o' : Obj) (hL : L[i]? = some (b, o)) : keysOf (L.set i (b, o')) Rs = keysOf L Rs := by
  have : (L.set i (b, o')).map (·.1) = L.map (·.1) := by
    apply List.ext_getElem?
    intro j
    simp only [List.getElem?_map, List.getElem?_set]
    split
    · rename_i e; subst e
      rw [hL]
      have := (List.getElem?_eq_some_iff.1 hL).1
      simp [this]
    · rfl
  simp [keysOf, this]
/-- One of the call's own blocks has turned. -/
theorem St.upd (h : St w0 ws w ro L Rs) {i b : Nat} {o o' : Obj} (hL : L[i]? = some (b, o)) (hg : w.grownBy w' (some b)) (ho : w'.heap[b]? = some o') : St w0 ws w' ro (L.set i (b, o')) Rs := by
  have hmem : (b, o) ∈ L := List.mem_of_getElem? hL
  have hkey : b ∈ keysOf L Rs := by simp only [keysOf, List.mem_append, List.mem_map]; exact .inl ⟨_, hmem, rfl⟩
  obtain ⟨k1, k2, k3⟩ := h.keys b hkey
  refine ⟨h.below.grown hg h.below.size (fun k e => by cases e; exact k1), ?_, ?_, ?_, ?_, ?_⟩
  · intro x hx
    obtain ⟨h1, h2⟩ := h.snap x hx
    refine ⟨Nat.lt_of_lt_of_le h1 hg.size, ?_⟩
    rw [hg.block x h1 (fun e => by cases e; exact k3 hx)]
    exact h2
  · intro p hp
    obtain ⟨j, hj⟩ := List.mem_iff_getElem?.1 hp
    rw [List.getElem?_set] at hj
    split at hj
    · split at hj
      · cases hj; exact ho
      · cases hj
    · rename_i hne
      have hpL : p ∈ L := List.mem_of_getElem? hj
      have hpk : p.1 ∈ keysOf L Rs := by simp only [keysOf, List.mem_append, List.mem_map]; exact .inl ⟨p, hpL, rfl⟩
      rw [hg.block p.1 (keysOf_lt h hpk) (fun e => ?_)]
      · exact h.own p hpL
      · have e' : p.1 = b := by cases e; rfl
        have hnd : (L.map (·.1)).Nodup := (List.nodup_append.1 h.nodup).1
        have h1 : (L.map (·.1))[i]? = some b := by simp [hL]
        have h2 : (L.map (·.1))[j]? = some b := by simp [hj, e']
        have hi := (List.getElem?_eq_some_iff.1 h1).1
        have hjj := (List.getElem?_eq_some_iff.1 h2).1
        have := (List.getElem_inj hnd (h₀ := hi) (h₁ := hjj)).1 (by rw [List.getElem?_eq_getElem hi] at h1; rw [List.getElem?_eq_getElem hjj] at h2; exact Option.some.inj (h1.trans h2.symm))
        exact hne this
  · intro r hr
    refine (h.rows r hr).kept hg ?_
    cases hv : r.v.ownBlock with
    | none => exact .inl rfl
    | some g =>
      refine .inr fun e => ?_
      cases e
      have hd := (List.nodup_append.1 h.nodup).2.2 b (List.mem_map.2 ⟨_, hmem, rfl⟩) b (List.mem_filterMap.2 ⟨r, hr, hv⟩)
      exact hd rfl
  · intro x hx
    rw [keysOf_set L Rs i b o o' hL] at hx
    obtain ⟨h1, h2, h3⟩ := h.keys x hx
    exact ⟨h1, Nat.lt_of_lt_of_le h2 hg.size, h3⟩
  · rw [keysOf_set L Rs i b o o' hL]; exact h.nodup
/-- Own blocks are let go. -/
theorem St.drop (h : St w0 ws w ro L Rs) {L' : List (Nat × Obj)} {Rs' : List Row} (h1 : List.Sublist L' L) (h2 : List.Sublist Rs' Rs) : St w0 ws w ro L' Rs' := by
  have hs : List.Sublist (keysOf L' Rs') (keysOf L Rs) := List.Sublist.append (h1.map _) (h2.filterMap _)
  exact ⟨h.below, h.snap, fun p hp => h.own p (h1.subset hp), fun r hr => h.rows r (h2.subset hr), fun x hx => h.keys x (hs.subset hx), List.Nodup.sublist hs h.nodup⟩
/-- A new own row that is nil. -/
theorem St.row0 (h : St w0 ws w ro L Rs) (e sz : Nat) : St w0 ws w ro L (⟨.slice none 0 0, e, sz, 0, []⟩ :: Rs) := by
  have hk : keysOf L (⟨.slice none 0 0, e, sz, 0, []⟩ :: Rs) = keysOf L Rs := by simp [keysOf, Value.ownBlock]
  refine ⟨h.below, h.snap, h.own, ?_, by rw [hk]; exact h.keys, by rw [hk]; exact h.nodup⟩
  intro r hr
  rcases List.mem_cons.1 hr with e | hr
  · subst e; exact World.ownsRow_nil _ _ _ _
  · exact h.rows r hr
/-- The first own row has grown. -/
theorem St.row1 {r r' : Row} (h : St w0 ws w ro L (r :: Rs)) (hg : w.grownBy w' r.v.ownBlock) (ho : w'.ownsRow w0.heap.size r'.e r'.sz r'.v r'.n r'.xs)
    (hb : ∀ b, r'.v.ownBlock = some b → r.v.ownBlock = some b ∨ w.heap.size ≤ b) : St w0 ws w' ro L (r' :: Rs) := by
  have hrow := h.rows r (List.mem_cons_self)
  have hkr : ∀ b, r.v.ownBlock = some b → b ∈ keysOf L (r :: Rs) := fun b e => by
    simp only [keysOf, List.mem_append, List.mem_filterMap]
    exact .inr ⟨r, List.mem_cons_self, e⟩
  have hsub : List.Sublist (keysOf L Rs) (keysOf L (r :: Rs)) := List.Sublist.append (List.Sublist.refl _) ((List.sublist_cons_self r Rs).filterMap _)
  have hne : ∀ x ∈ keysOf L Rs, some x ≠ r.v.ownBlock := fun x hx e => by
    have h3 := h.nodup
    simp only [keysOf, List.filterMap_cons, ← e] at h3
    simp only [keysOf, List.mem_append] at hx
    rcases hx with hx | hx
    · exact (List.nodup_append.1 h3).2.2 x hx x (List.mem_cons_self) rfl
    · exact (List.nodup_cons.1 (List.nodup_append.1 h3).2.1).1 hx
  refine ⟨h.below.grown hg h.below.size (fun b e => (h.keys b (hkr b e)).1), ?_, ?_, ?_, ?_, ?_⟩
  · intro x hx
    obtain ⟨h1, h2⟩ := h.snap x hx
    refine ⟨Nat.lt_of_lt_of_le h1 hg.size, ?_⟩
    rw [hg.block x h1 (fun e => (h.keys x (hkr x e.symm)).2.2 hx)]
    exact h2
  · intro p hp
    have hpk : p.1 ∈ keysOf L Rs := by simp only [keysOf, List.mem_append, List.mem_map]; exact .inl ⟨p, hp, rfl⟩
    rw [hg.block p.1 (h.keys p.1 (hsub.subset hpk)).2.1 (hne p.1 hpk)]
    exact h.own p hp
  · intro q hq
    rcases List.mem_cons.1 hq with e | hq
    · subst e; exact ho
    · refine (h.rows q (List.mem_cons_of_mem _ hq)).kept hg ?_
      cases hv : q.v.ownBlock with
      | none => exact .inl rfl
      | some b =>
        refine .inr fun e => hne b ?_ e
        simp only [keysOf, List.mem_append, List.mem_filterMap]
        exact .inr ⟨q, hq, hv⟩
  · intro x hx
    have old : x ∈ keysOf L Rs → w0.heap.size ≤ x ∧ x < w'.heap.size ∧ ¬ ro x := fun hx => by
      obtain ⟨h1, h2, h3⟩ := h.keys x (hsub.subset hx)
      exact ⟨h1, Nat.lt_of_lt_of_le h2 hg.size, h3⟩
    simp only [keysOf, List.mem_append, List.mem_filterMap, List.mem_cons] at hx
    rcases hx with hx | ⟨q, hq | hq, he⟩
    · exact old (by simp only [keysOf, List.mem_append]; exact .inl hx)
    · subst hq
      obtain ⟨h1, h2⟩ := ho.lt x he
      refine ⟨h1, h2, fun hr => ?_⟩
      rcases hb x he with h4 | h4
      · exact (h.keys x (hkr x h4)).2.2 hr
      · exact absurd (h.snap x hr).1 (by omega)
    · exact old (by simp only [keysOf, List.mem_append, List.mem_filterMap]; exact .inr ⟨q, hq, he⟩)
  · have hnd : (keysOf L Rs).Nodup := List.Nodup.sublist hsub h.nodup
    cases hv : r'.v.ownBlock with
    | none => simpa [keysOf, List.filterMap_cons, hv] using hnd
    | some b =>
      have hnew : b ∉ keysOf L Rs := fun hx => by
        rcases hb b hv with h4 | h4
        · exact hne b hx h4.symm
        · exact absurd (h.keys b (hsub.subset hx)).2.1 (by omega)
      have hp : List.Perm (keysOf L (r' :: Rs)) (b :: keysOf L Rs) := by
        simp only [keysOf, List.filterMap_cons, hv]
        exact List.perm_middle
      exact hp.nodup_iff.2 (List.nodup_cons.2 ⟨hnew, hnd⟩)

/-! ### Reading -/
theorem St.cell (h : St w0 ws w ro L Rs) (i : Nat) {b off t : Nat} {c : Array Value} {fr : Nat × Nat} {v : Value} (hL : L[i]? = some (b, .cells c t fr)) (hv : c[off]? = some v) : w.cell? ⟨b, off, none⟩ = some v := by
  rw [cell_of_row w b off c t fr (h.own _ (List.mem_of_getElem? hL))]
  exact hv
def CellsAt (w : World) (b off : Nat) (cs : List Value) : Prop := ∀ j v, cs[j]? = some v → w.cell? ⟨b, off + j, none⟩ = some v
theorem St.cells (h : St w0 ws w ro L Rs) (i : Nat) {b off m t : Nat} {c : Array Value} {fr : Nat × Nat} {cs : List Value} (hL : L[i]? = some (b, .cells c t fr)) (hv : (c.toList.drop off).take m = cs) : CellsAt w b off cs := by
  intro j v hj
  subst hv
  rw [cell_of_row w b (off + j) c t fr (h.own _ (List.mem_of_getElem? hL))]
  rw [List.getElem?_take] at hj
  split at hj
  · simpa using hj
  · cases hj
theorem St.roCell (h : St w0 ws w ro L Rs) {b off : Nat} {v : Value} (hr : ro b) (hc : ws.cell? ⟨b, off, none⟩ = some v) : w.cell? ⟨b, off, none⟩ = some v := by
  rw [World.cell?_of_block (w := ws) (w' := w) (a := ⟨b, off, none⟩) (h.snap b hr).2]
  exact hc
theorem St.roCells (h : St w0 ws w ro L Rs) {b off : Nat} {cs : List Value} (hr : ro b) (hc : CellsAt ws b off cs) : CellsAt w b off cs := fun j v hj => h.roCell hr (hc j v hj)
end

/-- A type whose variables are one cell. -/
def tyOne (P : Program) (t : TypeId) : Bool := match P.underlying t with
  | some (.struct _) | some (.array _ _) => false
  | some _ => match P.info? t with | some i => Nat.beq i.size 1 | none => false
  | none => false
/-- A struct's or an array's type, and its cells. -/
def tyAgg (P : Program) (t n : Nat) : Bool := match P.underlying t with
  | some (.struct _) | some (.array _ _) => match P.info? t with | some i => Nat.beq i.size n | none => false
  | _ => false
def tySize (P : Program) (t n : Nat) : Bool := match P.info? t with | some i => Nat.beq i.size n | none => false
/-- A type's zero value, cell by cell. -/
def TyZero (P : Program) (t : Nat) (zs : List Value) : Prop := ∃ i z, P.info? t = some i ∧ i.zero = some z ∧ z.cells = zs.toArray ∧ i.size = zs.length
def tyZero (P : Program) (t : Nat) : Option (List Value) := match P.info? t with
  | some i => match i.zero with
    | some z => bif Nat.beq i.size z.cells.size then some z.cells.toList else none
    | none => none
  | none => none
theorem tyZero_spec {P : Program} {t : Nat} {zs : List Value} (h : tyZero P t = some zs) : TyZero P t zs := by
  unfold tyZero at h
  split at h <;> try (cases h; done)
  rename_i i hi
  split at h <;> try (cases h; done)
  rename_i z hz
  cases hb : Nat.beq i.size z.cells.size with
  | false => rw [hb] at h; cases h
  | true =>
    rw [hb] at h
    simp only [cond_true, Option.some.injEq] at h
    subst h
    exact ⟨i, z, hi, hz, by simp, by rw [Nat.eq_of_beq_eq_true hb]; simp⟩
theorem CellsAt.part {w : World} {b off : Nat} {cs cs' : List Value} (h : CellsAt w b off cs) (i m : Nat) (e : (cs.drop i).take m = cs') : CellsAt w b (off + i) cs' := by
  intro j v hj
  subst e
  rw [List.getElem?_take] at hj
  split at hj
  · rw [Nat.add_assoc]; exact h (i + j) v (by simpa using hj)
  · cases hj
theorem tyOne_run {P : Program} {t : TypeId} (h : tyOne P t = true) {w : World} {a : Addr} {v : Value} (hc : w.cell? a = some v) : (loadVar t a).run P w = .ok v w := by
  unfold tyOne at h
  cases hu : P.underlying t with
  | none => rw [hu] at h; cases h
  | some d =>
    rw [hu] at h
    cases d <;> first | (cases h; done) | simp [loadVar, isAgg, run_underlying hu, hc]
theorem tyAgg_run {P : Program} {t n : Nat} (h : tyAgg P t n = true) {w : World} {b off : Nat} {cs : List Value} (hl : Nat.beq cs.length n = true) (hc : CellsAt w b off cs) : (loadVar t ⟨b, off, none⟩).run P w = .ok (.agg cs.toArray) w := by
  have hl' : cs.length = n := Nat.eq_of_beq_eq_true hl
  have hr := run_loadCells_list (P := P) w ⟨b, off, none⟩ cs (fun j v hv => by rw [addr_add]; exact hc j v hv)
  unfold tyAgg at h
  split at h <;> try (cases h; done)
  all_goals
    rename_i hu
    split at h <;> try (cases h; done)
    rename_i i hi
    have := Nat.eq_of_beq_eq_true h
    simp [loadVar, isAgg, run_underlying hu, sizeOf, typeInfo, hi, this, ← hl', hr]

section
variable {P : Program} {n : Nat} {R : Exit → Act → World → Prop} {k : Kt} {σ : Env} {w : World} {ops : Array Oper} {rest : List Oper}
variable {d : Nat} {ty : TypeId} {pos : String} {af : Array Edge} {g : Option (Nat × Bool)}
theorem WL.load1 {t : TypeId} {x : Operand} {ad : Addr} {v : Value} (h1 : tyOne P t = true) (hg : want ops σ g = some true) (hd : Nat.blt d n = true) (hx : ev σ x = some (.pointer (some ad))) (hc : w.cell? ad = some v)
    (h : WL P n R ops rest k ((d, v) :: σ) w) : WL P n R ops (⟨some d, .load t x, ty, pos, af, g⟩ :: rest) k σ w :=
  WL.valW (o := ⟨some d, .load t x, ty, pos, af, g⟩) hg hd (fun a ha => by simp [execOp, ha.eval hx, Instr.loadAt, Instr.sureAddr, tyOne_run h1 hc]) h
theorem WL.loadN {t m : TypeId} {x : Operand} {b off : Nat} {cs : List Value} (h1 : tyAgg P t m = true) (hg : want ops σ g = some true) (hd : Nat.blt d n = true) (hx : ev σ x = some (.pointer (some ⟨b, off, none⟩))) (hl : Nat.beq cs.length m = true) (hc : CellsAt w b off cs)
    (h : WL P n R ops rest k ((d, .agg cs.toArray) :: σ) w) : WL P n R ops (⟨some d, .load t x, ty, pos, af, g⟩ :: rest) k σ w :=
  WL.valW (o := ⟨some d, .load t x, ty, pos, af, g⟩) hg hd (fun a ha => by simp [execOp, ha.eval hx, Instr.loadAt, Instr.sureAddr, tyAgg_run h1 hl hc]) h

theorem WL.indexAddrE {t e sz : Nat} {x i : Operand} {kk : IntKind} {ad : Option Addr} {b o len cap : Nat} {j : Nat} (hu : P.underlying t = some (.slice e)) (hs : (P.info? e).map (·.size) = some sz) (hg : want ops σ g = some true) (hd : Nat.blt d n = true)
    (hx : ev σ x = some (.slice ad len cap)) (hi : ev σ i = some (.int kk (j : Int))) (hj : j < len) (hE : ad = some ⟨b, o, none⟩)
    (h : WL P n R ops rest k ((d, .pointer (some ⟨b, o + j * sz, none⟩)) :: σ) w) : WL P n R ops (⟨some d, .indexAddr t x i, ty, pos, af, g⟩ :: rest) k σ w := by
  subst hE
  exact WL.indexAddr hu hs hg hd hx hi hj h
variable {w0 ws : World} {ro : Nat → Prop} {L : List (Nat × Obj)} {Rs : List Row}
theorem WL.alloc {t : TypeId} {zs : List Value} (hz : TyZero P t zs) (hg : want ops σ g = some true) (hd : Nat.blt d n = true) (hS : St w0 ws w ro L Rs)
    (h : ∀ w' b, b = w.heap.size → St w0 ws w' ro ((b, .cells zs.toArray t (0, 0)) :: L) Rs → WL P n R ops rest k ((d, .pointer (some ⟨b, 0, none⟩)) :: σ) w') : WL P n R ops (⟨some d, .alloc t, ty, pos, af, g⟩ :: rest) k σ w := by
  obtain ⟨i, z, hi, hz1, hz2, hz3⟩ := hz
  exact WL.valW (o := ⟨some d, .alloc t, ty, pos, af, g⟩) (v := .pointer (some ⟨w.heap.size, 0, none⟩)) (w' := w.alloc (.cells zs.toArray t (0, 0))) hg hd (fun a _ => by
    simp [execOp, Instr.alloc, zeroValue, typeInfo, hi, hz1, newVar, newRow, hz2]) (h _ _ rfl (hS.alloc _))
theorem WL.box {t : TypeId} {x : Operand} {v : Value} {cs : List Value} (hg : want ops σ g = some true) (hd : Nat.blt d n = true) (hx : ev σ x = some v) (hv : v.cells.toList = cs) (hS : St w0 ws w ro L Rs)
    (h : ∀ w' b, b = w.heap.size → St w0 ws w' ro ((b, .cells cs.toArray t (0, 0)) :: L) Rs → WL P n R ops rest k ((d, .pointer (some ⟨b, 0, none⟩)) :: σ) w') : WL P n R ops (⟨some d, .box t x, ty, pos, af, g⟩ :: rest) k σ w := by
  subst hv
  exact WL.valW (o := ⟨some d, .box t x, ty, pos, af, g⟩) (v := .pointer (some ⟨w.heap.size, 0, none⟩)) (w' := w.alloc (.cells v.cells t (0, 0))) hg hd (fun a ha => by
    simp [execOp, ha.eval hx, Instr.box, newVar, newRow]) (h _ _ rfl (by have := hS.alloc (.cells v.cells t (0, 0)); simpa using this))
theorem grownBy_setRow (w : World) (b : Nat) (cs : Array Value) : w.grownBy (w.setRow b cs) (some b) :=
  ⟨rfl, rfl, rfl, by simp [World.setRow], fun k _ hne => setRow_other w b k cs (fun e => hne (by rw [e]))⟩
theorem run_storeVar_own {t b off e : Nat} {v : Value} {c : Array Value} (hs : tySize P t v.cells.toList.length = true) (h1 : v.cells.toList.all (·.oneCell') = true) (hb : w.heap[b]? = some (.cells c e (0, 0))) (hlen : Nat.ble (off + v.cells.toList.length) c.size = true) :
    (storeVar t ⟨b, off, none⟩ v).run P w = .ok () (w.setRow b (c.toList.take off ++ v.cells.toList ++ c.toList.drop (off + v.cells.toList.length)).toArray) := by
  unfold tySize at hs
  split at hs <;> try (cases hs; done)
  rename_i i hi
  have hsz := Nat.eq_of_beq_eq_true hs
  have hst := run_storeCells_at P b off e v.cells.toList 0 c w hb (by simpa using hlen) (List.all_eq_true.1 h1)
  simp only [Nat.add_zero] at hst
  have hsz' : v.cells.size = i.size := by rw [hsz, Array.length_toList]
  simp [storeVar, sizeOf, typeInfo, hi, hsz', hst]
theorem WL.store {t e : TypeId} {x y : Operand} {b off : Nat} {v : Value} {cs : List Value} {c c' : Array Value} {L' : List (Nat × Obj)} (i : Nat) (hg : want ops σ g = some true) (hx : ev σ x = some (.pointer (some ⟨b, off, none⟩))) (hy : ev σ y = some v) (hv : v.cells.toList = cs)
    (hs : tySize P t cs.length = true) (h1 : cs.all (·.oneCell') = true) (hL : L[i]? = some (b, .cells c e (0, 0))) (hlen : Nat.ble (off + cs.length) c.size = true) (hc' : (c.toList.take off ++ cs ++ c.toList.drop (off + cs.length)).toArray = c') (hL' : L.set i (b, .cells c' e (0, 0)) = L') (hS : St w0 ws w ro L Rs)
    (h : ∀ w', St w0 ws w' ro L' Rs → WL P n R ops rest k σ w') : WL P n R ops (⟨none, .store t x y, ty, pos, af, g⟩ :: rest) k σ w := by
  subst hv; subst hc'; subst hL'
  have hb := hS.own _ (List.mem_of_getElem? hL)
  have hr := run_storeVar_own (P := P) hs h1 hb hlen
  exact WL.unitW (o := ⟨none, .store t x y, ty, pos, af, g⟩) hg rfl (fun a ha => by simp [execOp, ha.eval hx, ha.eval hy, Instr.storeAt, Instr.sureAddr, hr])
    (h _ (hS.upd hL (grownBy_setRow w b _) (setRow_heap w b c _ e (0, 0) hb)))
theorem WL.store0 {t e : TypeId} {x y : Operand} {b off : Nat} {v : Value} {cs : List Value} {c : Array Value} {L0 : List (Nat × Obj)} (c' : Array Value) (hg : want ops σ g = some true) (hx : ev σ x = some (.pointer (some ⟨b, off, none⟩))) (hy : ev σ y = some v) (hv : v.cells.toList = cs) (hs : tySize P t cs.length = true) (h1 : cs.all (·.oneCell') = true) (hlen : Nat.ble (off + cs.length) c.size = true) (hc' : (c.toList.take off ++ cs ++ c.toList.drop (off + cs.length)).toArray = c') (hS : St w0 ws w ro ((b, .cells c e (0, 0)) :: L0) Rs)
    (h : ∀ w', St w0 ws w' ro ((b, .cells c' e (0, 0)) :: L0) Rs → WL P n R ops rest k σ w') : WL P n R ops (⟨none, .store t x y, ty, pos, af, g⟩ :: rest) k σ w := WL.store (L' := (b, .cells c' e (0, 0)) :: L0) 0 hg hx hy hv hs h1 rfl hlen hc' rfl hS h
theorem WL.store1 {t e : TypeId} {x y : Operand} {b off : Nat} {v : Value} {cs : List Value} {c : Array Value} {p0 : Nat × Obj} {L0 : List (Nat × Obj)} (c' : Array Value) (hg : want ops σ g = some true) (hx : ev σ x = some (.pointer (some ⟨b, off, none⟩))) (hy : ev σ y = some v) (hv : v.cells.toList = cs) (hs : tySize P t cs.length = true) (h1 : cs.all (·.oneCell') = true) (hlen : Nat.ble (off + cs.length) c.size = true) (hc' : (c.toList.take off ++ cs ++ c.toList.drop (off + cs.length)).toArray = c') (hS : St w0 ws w ro (p0 :: (b, .cells c e (0, 0)) :: L0) Rs)
    (h : ∀ w', St w0 ws w' ro (p0 :: (b, .cells c' e (0, 0)) :: L0) Rs → WL P n R ops rest k σ w') : WL P n R ops (⟨none, .store t x y, ty, pos, af, g⟩ :: rest) k σ w := WL.store (L' := p0 :: (b, .cells c' e (0, 0)) :: L0) 1 hg hx hy hv hs h1 rfl hlen hc' rfl hS h
theorem WL.store2 {t e : TypeId} {x y : Operand} {b off : Nat} {v : Value} {cs : List Value} {c : Array Value} {p0 p1 : Nat × Obj} {L0 : List (Nat × Obj)} (c' : Array Value) (hg : want ops σ g = some true) (hx : ev σ x = some (.pointer (some ⟨b, off, none⟩))) (hy : ev σ y = some v) (hv : v.cells.toList = cs) (hs : tySize P t cs.length = true) (h1 : cs.all (·.oneCell') = true) (hlen : Nat.ble (off + cs.length) c.size = true) (hc' : (c.toList.take off ++ cs ++ c.toList.drop (off + cs.length)).toArray = c') (hS : St w0 ws w ro (p0 :: p1 :: (b, .cells c e (0, 0)) :: L0) Rs)
    (h : ∀ w', St w0 ws w' ro (p0 :: p1 :: (b, .cells c' e (0, 0)) :: L0) Rs → WL P n R ops rest k σ w') : WL P n R ops (⟨none, .store t x y, ty, pos, af, g⟩ :: rest) k σ w := WL.store (L' := p0 :: p1 :: (b, .cells c' e (0, 0)) :: L0) 2 hg hx hy hv hs h1 rfl hlen hc' rfl hS h
theorem WL.build {t : TypeId} {parts : Array (Nat × Operand)} {ps : List (Nat × Value)} {cs : List Value} (hg : want ops σ g = some true) (hd : Nat.blt d n = true) (hp : parts.toList.mapM (fun p => (ev σ p.2).map fun v => (p.1, v)) = some ps) (hb : P.built t ps = some cs.toArray)
    (h : WL P n R ops rest k ((d, .agg cs.toArray) :: σ) w) : WL P n R ops (⟨some d, .build t parts, ty, pos, af, g⟩ :: rest) k σ w :=
  WL.valW (o := ⟨some d, .build t parts, ty, pos, af, g⟩) hg hd (fun a ha => by
    have key : ∀ (l : List (Nat × Operand)) (r : List (Nat × Value)), l.mapM (fun p => (ev σ p.2).map fun v => (p.1, v)) = some r → l.map (fun p => (p.1, a.eval p.2)) = r := by
      intro l
      induction l with
      | nil => intro r hr; simp at hr; simp [hr]
      | cons x l ih =>
        intro r hr
        simp only [List.mapM_cons, Option.bind_eq_bind, Option.bind_eq_some_iff, Option.pure_def, Option.some.injEq, Option.map_eq_some_iff] at hr
        obtain ⟨v, ⟨u, hu, hv⟩, r', hr', e⟩ := hr
        subst e; subst hv
        simp [ha.eval hu, ih r' hr']
    have e : (parts.map fun p => (p.1, a.eval p.2)) = ps.toArray := by
      apply Array.toList_inj.1
      rw [Array.toList_map]
      exact key _ _ hp
    have hb' := run_build (P := P) w t ps.toArray cs.toArray (by simpa using hb)
    simp [execOp, e, hb']) h
end
end Go.Proofs.Ytcmmhfknkldmcaa
