/-
  Slices in the walks of these claims: chunks of cells as data, a store into an own row, an append of a slice that is only read. No condition beyond those that each theorem states.
-/
import Derived.Test.YtcmmhfknkldmcaaA6
namespace Go.Proofs.Ytcmmhfknkldmcaa
open Go.RowKit

/-- Cells, chunk by chunk, as data. -/
def Chunks {α : Type} (sz : Nat) (Q : List Value → α → Prop) (cs : List Value) (xs : List α) : Prop :=
  cs.length = xs.length * sz ∧ ∀ (i : Nat) (x : α), xs[i]? = some x → Q ((cs.drop (i * sz)).take sz) x
theorem snoc_ind {α : Type} {p : List α → Prop} (h0 : p []) (h1 : ∀ l x, p l → p (l ++ [x])) (l : List α) : p l := by
  rw [← List.reverse_reverse l]
  induction l.reverse with
  | nil => simpa using h0
  | cons x r ih => simpa using h1 _ x ih
theorem Chunks.nil {α : Type} {sz : Nat} {Q : List Value → α → Prop} : Chunks sz Q [] ([] : List α) := ⟨by simp, by simp⟩
theorem Chunks.snoc {α : Type} {sz : Nat} {Q : List Value → α → Prop} {cs c : List Value} {xs : List α} {x : α} (h : Chunks sz Q cs xs) (hl : c.length = sz) (hq : Q c x) : Chunks sz Q (cs ++ c) (xs ++ [x]) := by
  refine ⟨by rw [List.length_append, h.1, hl, List.length_append, Nat.add_mul]; simp, fun i y hy => ?_⟩
  by_cases hi : i < xs.length
  · rw [List.getElem?_append_left hi] at hy
    have := h.2 i y hy
    have hle : (i + 1) * sz ≤ xs.length * sz := Nat.mul_le_mul_right _ hi
    rw [Nat.add_mul, Nat.one_mul] at hle
    rw [List.drop_append_of_le_length (by rw [h.1]; omega), List.take_append_of_le_length (by rw [List.length_drop, h.1]; omega)]
    exact this
  · rw [List.getElem?_append_right (by omega)] at hy
    have hi0 : i - xs.length = 0 := by
      have := (List.getElem?_eq_some_iff.1 hy).1
      simp at this
      omega
    rw [hi0] at hy
    simp at hy
    subst hy
    have hie : i = xs.length := by omega
    rw [hie, ← h.1, List.drop_left, List.take_of_length_le (by omega)]
    exact hq
theorem Chunks.mono {α : Type} {sz : Nat} {Q Q' : List Value → α → Prop} {cs : List Value} {xs : List α} (h : Chunks sz Q cs xs) (hq : ∀ c x, Q c x → Q' c x) : Chunks sz Q' cs xs := ⟨h.1, fun i x hx => hq _ _ (h.2 i x hx)⟩
theorem Chunks.flat {α : Type} {sz : Nat} {Q : List Value → α → Prop} {f : α → List Value} (hf : ∀ k, (f k).length = sz) : ∀ (xs : List α), (∀ k ∈ xs, Q (f k) k) → Chunks sz Q (xs.map f).flatten xs := by
  intro xs
  refine snoc_ind (p := fun xs => (∀ k ∈ xs, Q (f k) k) → Chunks sz Q (xs.map f).flatten xs) ?_ ?_ xs
  · intro _; exact ⟨by simp, by simp⟩
  · intro l x ih h
    have := (ih fun k hk => h k (List.mem_append_left _ hk)).snoc (hf x) (h x (by simp))
    simpa using this
theorem chunk_get {cs : List Value} {i sz j : Nat} {v : Value} (hv : ((cs.drop (i * sz)).take sz)[j]? = some v) : cs[i * sz + j]? = some v := by
  rw [List.getElem?_take] at hv
  split at hv
  · simpa [List.getElem?_drop] using hv
  · cases hv
theorem elems_block {α : Type} {ro : Nat → Prop} {w : World} {b e sz : Nat} {c : Array Value} {fr : Nat × Nat} {Q : List Value → α → Prop} {cs : List Value} {xs : List α} (hb : w.heap[b]? = some (.cells c e fr)) (hc : c.toList.take cs.length = cs) (h : Chunks sz Q cs xs) (hr : ro b) : Elems ro w sz Q (some ⟨b, 0, none⟩) xs := by
  intro i x hx
  have hi : i < xs.length := (List.getElem?_eq_some_iff.1 hx).1
  have hle : (i + 1) * sz ≤ xs.length * sz := Nat.mul_le_mul_right _ hi
  rw [Nat.add_mul, Nat.one_mul] at hle
  refine ⟨b, 0, (cs.drop (i * sz)).take sz, rfl, hr, by rw [List.length_take, List.length_drop, h.1]; omega, fun j v hj => ?_, h.2 i x hx⟩
  have h1 := chunk_get hj
  rw [cell_of_row w b _ c e fr hb, Nat.zero_add]
  rw [← hc, List.getElem?_take] at h1
  split at h1
  · simpa using h1
  · cases h1
/-- An own row as a slice that is only read. -/
theorem row_slv {α : Type} {ro : Nat → Prop} {w : World} {base e sz n : Nat} {v : Value} {cs : List Value} {xs : List α} {Q : List Value → α → Prop} (h : w.ownsRow base e sz v n cs) (hc : Chunks sz Q cs xs) (hn : n = xs.length) (hro : ∀ b, v.ownBlock = some b → ro b) : SlV ro w sz Q v xs := by
  rcases h.2 with ⟨hv, h0⟩ | ⟨g, cap, cur, hv, _, hg, h1, h2, h3, h4⟩
  · subst hv
    have hx : xs = [] := List.eq_nil_of_length_eq_zero (by omega)
    subst hx
    exact ⟨none, 0, rfl, Nat.le_refl _, Nat.zero_le _, fun _ => rfl, fun i x hx => by simp at hx⟩
  · subst hv
    have hl : cs.length = n * sz := h.1
    exact ⟨some ⟨g, 0, none⟩, cap, by rw [hn], by omega, h2, (fun e => by cases e), elems_block hg (by rw [hl]; exact h4) hc (hro g rfl)⟩
/-- What a slice's elements are, in one row of cells. -/
theorem elems_cells {α : Type} {ro : Nat → Prop} {w : World} {sz : Nat} {Q : List Value → α → Prop} {b off : Nat} : ∀ {xs : List α}, Elems ro w sz Q (some ⟨b, off, none⟩) xs → ∃ cs, CellsAt w b off cs ∧ Chunks sz Q cs xs := by
  intro xs
  refine snoc_ind (p := fun xs => Elems ro w sz Q (some ⟨b, off, none⟩) xs → ∃ cs, CellsAt w b off cs ∧ Chunks sz Q cs xs) ?_ ?_ xs
  · intro _; exact ⟨[], fun j v hj => by simp at hj, Chunks.nil⟩
  · intro l x ih h
    obtain ⟨cs, h1, h2⟩ := ih fun i y hy => h i y (by
      have := (List.getElem?_eq_some_iff.1 hy).1
      rw [List.getElem?_append_left this]; exact hy)
    obtain ⟨b', off', c, e1, _, e3, e4, e5⟩ := h l.length x (by simp)
    cases e1
    refine ⟨cs ++ c, fun j v hj => ?_, h2.snoc e3 e5⟩
    by_cases hlt : j < cs.length
    · rw [List.getElem?_append_left hlt] at hj; exact h1 j v hj
    · rw [List.getElem?_append_right (by omega)] at hj
      have := e4 (j - cs.length) v hj
      rw [← h2.1, Nat.add_assoc, show cs.length + (j - cs.length) = j by omega] at this
      exact this

section
variable {w0 ws w w' : World} {ro : Nat → Prop} {L : List (Nat × Obj)} {Rs : List Row}
/-- A store into the first own row. -/
theorem St.rowSet {g e sz n cap off : Nat} {xs cs : List Value} {cur : Array Value} (h : St w0 ws w ro L (⟨.slice (some ⟨g, 0, none⟩) n cap, e, sz, n, xs⟩ :: Rs)) (hcur : w.heap[g]? = some (.cells cur e (0, 0))) (hlen : off + cs.length ≤ n * sz) :
    St w0 ws (w.setRow g (cur.toList.take off ++ cs ++ cur.toList.drop (off + cs.length)).toArray) ro L (⟨.slice (some ⟨g, 0, none⟩) n cap, e, sz, n, xs.take off ++ cs ++ xs.drop (off + cs.length)⟩ :: Rs) := by
  have hrow := h.rows _ List.mem_cons_self
  refine h.row1 (r' := ⟨.slice (some ⟨g, 0, none⟩) n cap, e, sz, n, xs.take off ++ cs ++ xs.drop (off + cs.length)⟩) (grownBy_setRow w g _) ?_ (fun b hb => .inl hb)
  rcases hrow.2 with ⟨hv, _⟩ | ⟨g', cap', cur', hv, hb, hg, h1, h2, h3, h4⟩
  · cases hv
  · cases hv
    rw [hcur] at hg
    have e1 : cur = cur' := by injection hg with hg; injection hg
    subst e1
    have hl := hrow.1
    simp only at hl h1 h2 h3 h4 hb
    have hsz : n * sz ≤ cap * sz := Nat.mul_le_mul_right _ h1
    have hcl : cur.toList.length = cap * sz := by rw [Array.length_toList]; exact h3
    refine ⟨?_, .inr ⟨g, cap, _, rfl, hb, setRow_heap w g cur _ e (0, 0) hcur, h1, h2, ?_, ?_⟩⟩
    · simp only [List.length_append, List.length_take, List.length_drop, hl]; omega
    · simp only [List.size_toArray, List.length_append, List.length_take, List.length_drop, hcl]; omega
    · rw [← h4]
      apply List.ext_getElem?
      intro j
      simp only [List.getElem?_take, List.getElem?_append, List.length_append, List.length_take, List.length_drop, hcl, List.getElem?_drop]
      repeat' split
      all_goals first | rfl | omega | (congr 1; omega) | (rw [List.getElem?_eq_none (by omega)]) | skip
end

section
variable {P : Program} {n : Nat} {R : Exit → Act → World → Prop} {k : Kt} {σ : Env} {w : World} {ops : Array Oper} {rest : List Oper}
variable {d : Nat} {ty : TypeId} {pos : String} {af : Array Edge} {g : Option (Nat × Bool)}
variable {w0 ws : World} {ro : Nat → Prop} {L : List (Nat × Obj)} {Rs : List Row}
/-- 'T{}': an own row without elements. -/
theorem WL.buildSlice0 {t e sz : Nat} (hu : P.underlying t = some (.slice e)) (hz : (P.info? e).map (·.size) = some sz) (hg : want ops σ g = some true) (hd : Nat.blt d n = true) (hS : St w0 ws w ro L Rs)
    (h : ∀ w' b, St w0 ws w' ro L (⟨.slice (some ⟨b, 0, none⟩) 0 0, e, sz, 0, []⟩ :: Rs) → WL P n R ops rest k ((d, .slice (some ⟨b, 0, none⟩) 0 0) :: σ) w') : WL P n R ops (⟨some d, .buildSlice t 0 #[], ty, pos, af, g⟩ :: rest) k σ w := by
  refine WL.valW (o := ⟨some d, .buildSlice t 0 #[], ty, pos, af, g⟩) (v := .slice (some ⟨w.heap.size, 0, none⟩) 0 0) (w' := w.alloc (.cells #[] e (0, 0))) hg hd (fun a ha => ?_) (h _ _ ((hS.alloc _).toRow (by simp) (by simp) (Nat.le_refl _) (Nat.zero_le _)))
  cases hi : P.info? e with
  | none => rw [hi] at hz; cases hz
  | some i =>
    simp [execOp, Instr.buildSlice, run_underlying hu, sizeOf, typeInfo, hi, Instr.fill, newRow, Array.range_zero']
/-- append of a slice that is only read. -/
theorem WL.appendRo {t e m c : Nat} {x y : Operand} {zs news : List Value} {r : Row} {ad : Option Addr} (by' : Nat) (hu : P.underlying t = some (.slice e)) (hz : TyZero P e zs) (hby : (P.info? e).map (·.bytes) = some by') (h0 : Nat.blt 0 zs.length = true) (hg : want ops σ g = some true) (hd : Nat.blt d n = true)
    (hx : ev σ x = some r.v) (hy : ev σ y = some (.slice ad m c)) (hl : news.length = m * zs.length) (hnil : ad = none → m = 0 ∧ c = 0) (hcs : ∀ b off, ad = some ⟨b, off, none⟩ → CellsAt w b off news) (hspot : ∀ a, ad = some a → m ≠ 0 → a.spot = none) (h1 : ∀ u ∈ news, u.oneCell' = true) (hre : r.e = e) (hrs : r.sz = zs.length)
    (hS : St w0 ws w ro L (r :: Rs)) (hmx : r.n + m ≤ maxLen) (hbytes : (r.n + m) * by' ≤ 140737488355328)
    (h : ∀ w' v', St w0 ws w' ro L (⟨v', e, zs.length, r.n + m, r.xs ++ news⟩ :: Rs) → (r.v ≠ .slice none 0 0 → v' ≠ .slice none 0 0) → WL P n R ops rest k ((d, v') :: σ) w') :
    WL P n R ops (⟨some d, .call { callee := .builtin .append, args := #[x, y], argTypes := #[t, t] }, ty, pos, af, g⟩ :: rest) k σ w := by
  obtain ⟨i, z, hi, hz1, hz2, hz3⟩ := hz
  have h0' : 0 < zs.length := by simpa [Nat.blt_eq] using h0
  have hrow := hS.rows r List.mem_cons_self
  rw [hre, hrs] at hrow
  have hby' : i.bytes = by' := by rw [hi] at hby; simpa using hby
  subst hby'
  cases ad with
  | none =>
    obtain ⟨rfl, rfl⟩ := hnil rfl
    have hn0 : news = [] := List.eq_nil_of_length_eq_zero (by simpa using hl)
    subst hn0
    have hrun := run_append_owned_none (P := P) (w := w) w0.heap.size t ty e i zs.length hu hi r.v r.n r.xs hrow
    refine WL.valW (o := ⟨some d, .call { callee := .builtin .append, args := #[x, y], argTypes := #[t, t] }, ty, pos, af, g⟩) (v := r.v) (w' := w) hg hd (fun a ha => ?_) (h w r.v ?_ (fun h => h))
    · simp [execOp, resolve, invoke, builtin, ha.eval hx, ha.eval hy, hrun]
    · have e2 : (⟨r.v, e, zs.length, r.n + 0, r.xs ++ []⟩ : Row) = r := by rw [← hre, ← hrs]; cases r; simp
      rw [e2]
      exact hS
  | some a =>
    have hnews : ∀ j u, news[j]? = some u → w.cell? (a.add j) = some u := by
      intro j u hu'
      by_cases hm : m = 0
      · subst hm
        have hn0 : news = [] := List.eq_nil_of_length_eq_zero (by simpa using hl)
        subst hn0
        simp at hu'
      · have hsp := hspot a rfl hm
        obtain ⟨b, off, sp⟩ := a
        simp only at hsp
        subst hsp
        rw [addr_add]
        exact hcs b off rfl j u hu'
    rw [← hz3] at hrow hl h0'
    obtain ⟨v', w', hr, ho, hgr, hnl, hplace⟩ := append_own2 (P := P) w w0.heap.size t ty e hu hi hz1 (by rw [hz2, hz3]; simp) h0' hrow a m c news hl hnews h1 hmx hbytes hS.below.size
    refine WL.valW (o := ⟨some d, .call { callee := .builtin .append, args := #[x, y], argTypes := #[t, t] }, ty, pos, af, g⟩) (v := v') (w' := w') hg hd (fun a ha => ?_) (h w' v' ?_ ?_)
    · simp [execOp, resolve, invoke, builtin, ha.eval hx, ha.eval hy, hr]
    · exact hS.row1 (r' := ⟨v', e, zs.length, r.n + m, r.xs ++ news⟩) hgr (by rw [← hz3]; exact ho) hplace
    · intro hne
      rcases hnl with hnl | hm
      · exact hnl
      · intro e'
        have h5 := ho.2
        obtain ⟨v2, w2, hr2, _, _, hnil2⟩ := run_append_own (P := P) w w0.heap.size t ty e i z i.size i.bytes hu hi hz1 rfl rfl (by rw [hz2, hz3]; simp) h0' r.v r.n r.xs hrow a m c news hl hnews h1 hmx hbytes hS.below.size
        rw [hr] at hr2
        have e3 : v' = v2 := by injection hr2
        exact hne (hnil2.1 (e3 ▸ e')).1
theorem WL.storeRow {t e sz m cap off b : Nat} {x y : Operand} {v : Value} {cs xs : List Value} (hg : want ops σ g = some true) (hx : ev σ x = some (.pointer (some ⟨b, off, none⟩))) (hy : ev σ y = some v) (hv : v.cells.toList = cs)
    (hs : tySize P t cs.length = true) (h1 : cs.all (·.oneCell') = true) (hS : St w0 ws w ro L (⟨.slice (some ⟨b, 0, none⟩) m cap, e, sz, m, xs⟩ :: Rs)) (hlen : off + cs.length ≤ m * sz)
    (h : ∀ w', St w0 ws w' ro L (⟨.slice (some ⟨b, 0, none⟩) m cap, e, sz, m, xs.take off ++ cs ++ xs.drop (off + cs.length)⟩ :: Rs) → WL P n R ops rest k σ w') : WL P n R ops (⟨none, .store t x y, ty, pos, af, g⟩ :: rest) k σ w := by
  subst hv
  have hrow := hS.rows _ List.mem_cons_self
  rcases hrow.2 with ⟨hv, _⟩ | ⟨g', cap', cur, hv, _, hb, h2, _, h3, _⟩
  · cases hv
  · cases hv
    simp only at h2 h3
    have hsz : m * sz ≤ cap * sz := Nat.mul_le_mul_right _ h2
    have hr := run_storeVar_own (P := P) (off := off) hs h1 hb (by rw [Nat.ble_eq]; rw [h3]; exact Nat.le_trans hlen hsz)
    exact WL.unitW (o := ⟨none, .store t x y, ty, pos, af, g⟩) hg rfl (fun a ha => by simp [execOp, ha.eval hx, ha.eval hy, Instr.storeAt, Instr.sureAddr, hr]) (h _ (hS.rowSet hb hlen))
end
end Go.Proofs.Ytcmmhfknkldmcaa
