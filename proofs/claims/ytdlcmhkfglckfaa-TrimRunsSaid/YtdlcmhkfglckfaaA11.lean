/-
  Slices in the walks of these claims: chunks of cells as data, a store into an own row, an append of a slice that is only read. No condition beyond those that each theorem states.
-/
import Derived.Test.YtdlcmhkfglckfaaA6
import Derived.ProofKit
import Derived.OpenShut
import Derived.JoinedCond
import Derived.Carry
import Derived.ChangeArms
namespace Go.Proofs.Ytdlcmhkfglckfaa
open Go.RowKit

/-- Cells, chunk by chunk, as data. -/
def Chunks {α : Type} (sz : Nat) (Q : List Value → α → Prop) (cs : List Value) (xs : List α) : Prop :=
  cs.length = xs.length * sz ∧ ∀ (i : Nat) (x : α), xs[i]? = some x → Q ((cs.drop (i * sz)).take sz) x
theorem snoc_ind {α : Type} {p : List α → Prop} (h0 : p []) (h1 : ∀ l x, p l → p (l ++ [x])) (l : List α) : p l := by
  rw [← List.reverse_reverse l]
  induction l.reverse with
  | nil => simpa using h0
  | cons x r ih => simpa using h1 _ x ih
theorem Chunks.nil {α : Type} {sz : Nat} {Q : List Value → α → Prop} : Chunks sz Q [] ([] : List α) := ⟨by simp, by simp⟩
theorem Chunks.snoc {α : Type} {sz : Nat} {Q : List Value → α → Prop} {cs c : List Value} {xs : List α} {x : α} (h : Chunks sz Q cs xs) (hl : c.length = sz) (hq : Q c x) : Chunks sz Q (cs ++ c) (xs ++ [x]) := by
  refine ⟨by rw [List.length_append, h.1, hl, List.length_append, Nat.add_mul]; simp, fun i y hy => ?_⟩
  by_cases hi : i < xs.length
  · rw [List.getElem?_append_left hi] at hy
    have := h.2 i y hy
    have hle : (i + 1) * sz ≤ xs.length * sz := Nat.mul_le_mul_right _ hi
    rw [Nat.add_mul, Nat.one_mul] at hle
    rw [List.drop_append_of_le_length (by rw [h.1]; omega), List.take_append_of_le_length (by rw [List.length_drop, h.1]; omega)]
    exact this
  · rw [List.getElem?_append_right (by omega)] at hy
    have hi0 : i - xs.length = 0 := by
      have := (List.getElem?_eq_some_iff.1 hy).1
      simp at this
      omega
    rw [hi0] at hy
    simp at hy
    subst hy
    have hie : i = xs.length := by omega
    rw [hie, ← h.1, List.drop_left, List.take_of_length_le (by omega)]
    exact hq
theorem Chunks.mono {α : Type} {sz : Nat} {Q Q' : List Value → α → Prop} {cs : List Value} {xs : List α} (h : Chunks sz Q cs xs) (hq : ∀ c x, Q c x → Q' c x) : Chunks sz Q' cs xs := ⟨h.1, fun i x hx => hq _ _ (h.2 i x hx)⟩
theorem Chunks.flat {α : Type} {sz : Nat} {Q : List Value → α → Prop} {f : α → List Value} (hf : ∀ k, (f k).length = sz) : ∀ (xs : List α), (∀ k ∈ xs, Q (f k) k) → Chunks sz Q (xs.map f).flatten xs := by
  intro xs
  refine snoc_ind (p := fun xs => (∀ k ∈ xs, Q (f k) k) → Chunks sz Q (xs.map f).flatten xs) ?_ ?_ xs
  · intro _; exact ⟨by simp, by simp⟩
  · intro l x ih h
    have := (ih fun k hk => h k (List.mem_append_left _ hk)).snoc (hf x) (h x (by simp))
    simpa using this
theorem Chunks.setAt {α : Type} {sz : Nat} {Q : List Value → α → Prop} {cs c : List Value} {xs : List α} {x : α} {i : Nat} (h : Chunks sz Q cs xs) (hi : i < xs.length) (hl : c.length = sz) (hq : Q c x) : Chunks sz Q (cs.take (i * sz) ++ c ++ cs.drop (i * sz + sz)) (xs.set i x) := by
  have hle : (i + 1) * sz ≤ xs.length * sz := Nat.mul_le_mul_right _ hi
  rw [Nat.add_mul, Nat.one_mul] at hle
  have hl1 : (cs.take (i * sz)).length = i * sz := by rw [List.length_take, h.1]; omega
  refine ⟨by simp only [List.length_append, List.length_take, List.length_drop, h.1, hl, List.length_set]; omega, fun j y hy => ?_⟩
  rw [List.getElem?_set] at hy
  by_cases e : i = j
  · subst e
    rw [if_pos rfl, if_pos hi] at hy
    cases hy
    rw [List.append_assoc, List.drop_append_of_le_length (by omega), List.drop_eq_nil_of_le (by omega), List.nil_append, List.take_append_of_le_length (by omega), List.take_of_length_le (by omega)]
    exact hq
  · rw [if_neg e] at hy
    have h1 := h.2 j y hy
    have hj : j < xs.length := (List.getElem?_eq_some_iff.1 hy).1
    have hlj : (j + 1) * sz ≤ xs.length * sz := Nat.mul_le_mul_right _ hj
    rw [Nat.add_mul, Nat.one_mul] at hlj
    have key : ((cs.take (i * sz) ++ c ++ cs.drop (i * sz + sz)).drop (j * sz)).take sz = (cs.drop (j * sz)).take sz := by
      apply List.ext_getElem?
      intro m
      simp only [List.getElem?_take]
      by_cases hm : m < sz
      · rw [if_pos hm, if_pos hm, List.getElem?_drop, List.getElem?_drop]
        rcases Nat.lt_or_ge j i with hji | hji
        · have h2 : (j + 1) * sz ≤ i * sz := Nat.mul_le_mul_right _ hji
          rw [Nat.add_mul, Nat.one_mul] at h2
          rw [List.append_assoc, List.getElem?_append_left (by omega), List.getElem?_take_of_lt (by omega)]
        · have h2 : (i + 1) * sz ≤ j * sz := Nat.mul_le_mul_right _ (by omega)
          rw [Nat.add_mul, Nat.one_mul] at h2
          rw [List.getElem?_append_right (by simp only [List.length_append]; omega), List.getElem?_drop]
          congr 1
          simp only [List.length_append]
          omega
      · rw [if_neg hm, if_neg hm]
    rw [key]
    exact h1
theorem chunk_get {cs : List Value} {i sz j : Nat} {v : Value} (hv : ((cs.drop (i * sz)).take sz)[j]? = some v) : cs[i * sz + j]? = some v := by
  rw [List.getElem?_take] at hv
  split at hv
  · simpa [List.getElem?_drop] using hv
  · cases hv
theorem elems_block {α : Type} {ro : Nat → Prop} {w : World} {b e sz : Nat} {c : Array Value} {fr : Nat × Nat} {Q : List Value → α → Prop} {cs : List Value} {xs : List α} (hb : w.heap[b]? = some (.cells c e fr)) (hc : c.toList.take cs.length = cs) (h : Chunks sz Q cs xs) (hr : ro b) : Elems ro w sz Q (some ⟨b, 0, none⟩) xs := by
  intro i x hx
  have hi : i < xs.length := (List.getElem?_eq_some_iff.1 hx).1
  have hle : (i + 1) * sz ≤ xs.length * sz := Nat.mul_le_mul_right _ hi
  rw [Nat.add_mul, Nat.one_mul] at hle
  refine ⟨b, 0, (cs.drop (i * sz)).take sz, rfl, hr, by rw [List.length_take, List.length_drop, h.1]; omega, fun j v hj => ?_, h.2 i x hx⟩
  have h1 := chunk_get hj
  rw [cell_of_row w b _ c e fr hb, Nat.zero_add]
  rw [← hc, List.getElem?_take] at h1
  split at h1
  · simpa using h1
  · cases h1
/-- An own row as a slice that is only read. -/
theorem row_slv {α : Type} {ro : Nat → Prop} {w : World} {base e sz n : Nat} {v : Value} {cs : List Value} {xs : List α} {Q : List Value → α → Prop} (h : w.ownsRow base e sz v n cs) (hc : Chunks sz Q cs xs) (hn : n = xs.length) (hro : ∀ b, v.ownBlock = some b → ro b) : SlV ro w sz Q v xs := by
  rcases h.2 with ⟨hv, h0⟩ | ⟨g, cap, cur, hv, _, hg, h1, h2, h3, h4⟩
  · subst hv
    have hx : xs = [] := List.eq_nil_of_length_eq_zero (by omega)
    subst hx
    exact ⟨none, 0, rfl, Nat.le_refl _, Nat.zero_le _, fun _ => rfl, fun i x hx => by simp at hx⟩
  · subst hv
    have hl : cs.length = n * sz := h.1
    exact ⟨some ⟨g, 0, none⟩, cap, by rw [hn], by omega, h2, (fun e => by cases e), elems_block hg (by rw [hl]; exact h4) hc (hro g rfl)⟩
/-- What a slice's elements are, in one row of cells. -/
theorem elems_cells {α : Type} {ro : Nat → Prop} {w : World} {sz : Nat} {Q : List Value → α → Prop} {b off : Nat} : ∀ {xs : List α}, Elems ro w sz Q (some ⟨b, off, none⟩) xs → ∃ cs, CellsAt w b off cs ∧ Chunks sz Q cs xs := by
  intro xs
  refine snoc_ind (p := fun xs => Elems ro w sz Q (some ⟨b, off, none⟩) xs → ∃ cs, CellsAt w b off cs ∧ Chunks sz Q cs xs) ?_ ?_ xs
  · intro _; exact ⟨[], fun j v hj => by simp at hj, Chunks.nil⟩
  · intro l x ih h
    obtain ⟨cs, h1, h2⟩ := ih fun i y hy => h i y (by
      have := (List.getElem?_eq_some_iff.1 hy).1
      rw [List.getElem?_append_left this]; exact hy)
    obtain ⟨b', off', c, e1, _, e3, e4, e5⟩ := h l.length x (by simp)
    cases e1
    refine ⟨cs ++ c, fun j v hj => ?_, h2.snoc e3 e5⟩
    by_cases hlt : j < cs.length
    · rw [List.getElem?_append_left hlt] at hj; exact h1 j v hj
    · rw [List.getElem?_append_right (by omega)] at hj
      have := e4 (j - cs.length) v hj
      rw [← h2.1, Nat.add_assoc, show cs.length + (j - cs.length) = j by omega] at this
      exact this

section
variable {w0 ws w w' : World} {ro : Nat → Prop} {L : List (Nat × Obj)} {Rs : List Row}
/-- A store into the first own row. -/
theorem St.rowSet {g e sz n cap off : Nat} {xs cs : List Value} {cur : Array Value} (h : St w0 ws w ro L (⟨.slice (some ⟨g, 0, none⟩) n cap, e, sz, n, xs⟩ :: Rs)) (hcur : w.heap[g]? = some (.cells cur e (0, 0))) (hlen : off + cs.length ≤ n * sz) :
    St w0 ws (w.setRow g (cur.toList.take off ++ cs ++ cur.toList.drop (off + cs.length)).toArray) ro L (⟨.slice (some ⟨g, 0, none⟩) n cap, e, sz, n, xs.take off ++ cs ++ xs.drop (off + cs.length)⟩ :: Rs) := by
  have hrow := h.rows _ List.mem_cons_self
  refine h.row1 (r' := ⟨.slice (some ⟨g, 0, none⟩) n cap, e, sz, n, xs.take off ++ cs ++ xs.drop (off + cs.length)⟩) (grownBy_setRow w g _) ?_ (fun b hb => .inl hb)
  rcases hrow.2 with ⟨hv, _⟩ | ⟨g', cap', cur', hv, hb, hg, h1, h2, h3, h4⟩
  · cases hv
  · cases hv
    rw [hcur] at hg
    have e1 : cur = cur' := by injection hg with hg; injection hg
    subst e1
    have hl := hrow.1
    simp only at hl h1 h2 h3 h4 hb
    have hsz : n * sz ≤ cap * sz := Nat.mul_le_mul_right _ h1
    have hcl : cur.toList.length = cap * sz := by rw [Array.length_toList]; exact h3
    refine ⟨?_, .inr ⟨g, cap, _, rfl, hb, setRow_heap w g cur _ e (0, 0) hcur, h1, h2, ?_, ?_⟩⟩
    · simp only [List.length_append, List.length_take, List.length_drop, hl]; omega
    · simp only [List.size_toArray, List.length_append, List.length_take, List.length_drop, hcl]; omega
    · rw [← h4]
      apply List.ext_getElem?
      intro j
      simp only [List.getElem?_take, List.getElem?_append, List.length_append, List.length_take, List.length_drop, hcl, List.getElem?_drop]
      repeat' split
      all_goals first | rfl | omega | (congr 1; omega) | (rw [List.getElem?_eq_none (by omega)]) | skip
end

section
variable {P : Program} {n : Nat} {R : Exit → Act → World → Prop} {k : Kt} {σ : Env} {w : World} {ops : Array Oper} {rest : List Oper}
variable {d : Nat} {ty : TypeId} {pos : String} {af : Array Edge} {g : Option (Nat × Bool)}
variable {w0 ws : World} {ro : Nat → Prop} {L : List (Nat × Obj)} {Rs : List Row}
theorem WL.eqNil {xT yT e : TypeId} {x y : Operand} {ad : Option Addr} {m c : Nat} (hu : P.underlying xT = some (.slice e)) (hg : want ops σ g = some true) (hd : Nat.blt d n = true) (hx : ev σ x = some (.slice ad m c)) (hy : ev σ y = some (.slice none 0 0))
    (h : WL P n R ops rest k ((d, .bool ad.isNone) :: σ) w) : WL P n R ops (⟨some d, .binOp .eql xT x y yT, ty, pos, af, g⟩ :: rest) k σ w :=
  WL.valW (o := ⟨some d, .binOp .eql xT x y yT, ty, pos, af, g⟩) hg hd (fun a ha => by
    have hr := Lib.run_eql_slice_nil (P := P) w xT e ad m c 0 0 hu
    simp [execOp, ha.eval hx, ha.eval hy, eqGuard, hr]) h
theorem WL.neNil {xT yT e : TypeId} {x y : Operand} {ad : Option Addr} {m c : Nat} (hu : P.underlying xT = some (.slice e)) (hg : want ops σ g = some true) (hd : Nat.blt d n = true) (hx : ev σ x = some (.slice ad m c)) (hy : ev σ y = some (.slice none 0 0))
    (h : WL P n R ops rest k ((d, .bool (!ad.isNone)) :: σ) w) : WL P n R ops (⟨some d, .binOp .neq xT x y yT, ty, pos, af, g⟩ :: rest) k σ w :=
  WL.valW (o := ⟨some d, .binOp .neq xT x y yT, ty, pos, af, g⟩) hg hd (fun a ha => by
    have hr := run_neq_slice_nil_any (P := P) w xT e ad m c 0 0 hu
    simp [execOp, ha.eval hx, ha.eval hy, eqGuard, hr]) h
/-- 'T{}': an own row without elements. -/
theorem WL.buildSlice0 {t e sz : Nat} (hu : P.underlying t = some (.slice e)) (hz : (P.info? e).map (·.size) = some sz) (hg : want ops σ g = some true) (hd : Nat.blt d n = true) (hS : St w0 ws w ro L Rs)
    (h : ∀ w' b, St w0 ws w' ro L (⟨.slice (some ⟨b, 0, none⟩) 0 0, e, sz, 0, []⟩ :: Rs) → WL P n R ops rest k ((d, .slice (some ⟨b, 0, none⟩) 0 0) :: σ) w') : WL P n R ops (⟨some d, .buildSlice t 0 #[], ty, pos, af, g⟩ :: rest) k σ w := by
  refine WL.valW (o := ⟨some d, .buildSlice t 0 #[], ty, pos, af, g⟩) (v := .slice (some ⟨w.heap.size, 0, none⟩) 0 0) (w' := w.alloc (.cells #[] e (0, 0))) hg hd (fun a ha => ?_) (h _ _ ((hS.alloc _).toRow (by simp) (by simp) (Nat.le_refl _) (Nat.zero_le _)))
  cases hi : P.info? e with
  | none => rw [hi] at hz; cases hz
  | some i =>
    simp [execOp, Instr.buildSlice, run_underlying hu, sizeOf, typeInfo, hi, Instr.fill, newRow, Array.range_zero']
/-- append of a slice that is only read. -/
theorem WL.appendRo {t e m c : Nat} {x y : Operand} {zs news : List Value} {r : Row} {ad : Option Addr} (by' : Nat) (hu : P.underlying t = some (.slice e)) (hz : TyZero P e zs) (hby : (P.info? e).map (·.bytes) = some by') (h0 : Nat.blt 0 zs.length = true) (hg : want ops σ g = some true) (hd : Nat.blt d n = true)
    (hx : ev σ x = some r.v) (hy : ev σ y = some (.slice ad m c)) (hl : news.length = m * zs.length) (hnil : ad = none → m = 0 ∧ c = 0) (hcs : ∀ b off, ad = some ⟨b, off, none⟩ → CellsAt w b off news) (hspot : ∀ a, ad = some a → m ≠ 0 → a.spot = none) (h1 : ∀ u ∈ news, u.oneCell' = true) (hre : r.e = e) (hrs : r.sz = zs.length)
    (hS : St w0 ws w ro L (r :: Rs)) (hmx : r.n + m ≤ maxLen) (hbytes : (r.n + m) * by' ≤ 140737488355328)
    (h : ∀ w' v', St w0 ws w' ro L (⟨v', e, zs.length, r.n + m, r.xs ++ news⟩ :: Rs) → (r.v ≠ .slice none 0 0 → v' ≠ .slice none 0 0) → WL P n R ops rest k ((d, v') :: σ) w') :
    WL P n R ops (⟨some d, .call { callee := .builtin .append, args := #[x, y], argTypes := #[t, t] }, ty, pos, af, g⟩ :: rest) k σ w := by
  obtain ⟨i, z, hi, hz1, hz2, hz3⟩ := hz
  have h0' : 0 < zs.length := by simpa [Nat.blt_eq] using h0
  have hrow := hS.rows r List.mem_cons_self
  rw [hre, hrs] at hrow
  have hby' : i.bytes = by' := by rw [hi] at hby; simpa using hby
  subst hby'
  cases ad with
  | none =>
    obtain ⟨rfl, rfl⟩ := hnil rfl
    have hn0 : news = [] := List.eq_nil_of_length_eq_zero (by simpa using hl)
    subst hn0
    have hrun := run_append_owned_none (P := P) (w := w) w0.heap.size t ty e i zs.length hu hi r.v r.n r.xs hrow
    refine WL.valW (o := ⟨some d, .call { callee := .builtin .append, args := #[x, y], argTypes := #[t, t] }, ty, pos, af, g⟩) (v := r.v) (w' := w) hg hd (fun a ha => ?_) (h w r.v ?_ (fun h => h))
    · simp [execOp, resolve, invoke, builtin, ha.eval hx, ha.eval hy, hrun]
    · have e2 : (⟨r.v, e, zs.length, r.n + 0, r.xs ++ []⟩ : Row) = r := by rw [← hre, ← hrs]; cases r; simp
      rw [e2]
      exact hS
  | some a =>
    have hnews : ∀ j u, news[j]? = some u → w.cell? (a.add j) = some u := by
      intro j u hu'
      by_cases hm : m = 0
      · subst hm
        have hn0 : news = [] := List.eq_nil_of_length_eq_zero (by simpa using hl)
        subst hn0
        simp at hu'
      · have hsp := hspot a rfl hm
        obtain ⟨b, off, sp⟩ := a
        simp only at hsp
        subst hsp
        rw [addr_add]
        exact hcs b off rfl j u hu'
    rw [← hz3] at hrow hl h0'
    obtain ⟨v', w', hr, ho, hgr, hnl, hplace⟩ := append_own2 (P := P) w w0.heap.size t ty e hu hi hz1 (by rw [hz2, hz3]; simp) h0' hrow a m c news hl hnews h1 hmx hbytes hS.below.size
    refine WL.valW (o := ⟨some d, .call { callee := .builtin .append, args := #[x, y], argTypes := #[t, t] }, ty, pos, af, g⟩) (v := v') (w' := w') hg hd (fun a ha => ?_) (h w' v' ?_ ?_)
    · simp [execOp, resolve, invoke, builtin, ha.eval hx, ha.eval hy, hr]
    · exact hS.row1 (r' := ⟨v', e, zs.length, r.n + m, r.xs ++ news⟩) hgr (by rw [← hz3]; exact ho) hplace
    · intro hne
      rcases hnl with hnl | hm
      · exact hnl
      · intro e'
        have h5 := ho.2
        obtain ⟨v2, w2, hr2, _, _, hnil2⟩ := run_append_own (P := P) w w0.heap.size t ty e i z i.size i.bytes hu hi hz1 rfl rfl (by rw [hz2, hz3]; simp) h0' r.v r.n r.xs hrow a m c news hl hnews h1 hmx hbytes hS.below.size
        rw [hr] at hr2
        have e3 : v' = v2 := by injection hr2
        exact hne (hnil2.1 (e3 ▸ e')).1
theorem WL.storeRow {t e sz m cap off b : Nat} {x y : Operand} {v : Value} {cs xs : List Value} (hg : want ops σ g = some true) (hx : ev σ x = some (.pointer (some ⟨b, off, none⟩))) (hy : ev σ y = some v) (hv : v.cells.toList = cs)
    (hs : tySize P t cs.length = true) (h1 : cs.all (·.oneCell') = true) (hS : St w0 ws w ro L (⟨.slice (some ⟨b, 0, none⟩) m cap, e, sz, m, xs⟩ :: Rs)) (hlen : off + cs.length ≤ m * sz)
    (h : ∀ w', St w0 ws w' ro L (⟨.slice (some ⟨b, 0, none⟩) m cap, e, sz, m, xs.take off ++ cs ++ xs.drop (off + cs.length)⟩ :: Rs) → WL P n R ops rest k σ w') : WL P n R ops (⟨none, .store t x y, ty, pos, af, g⟩ :: rest) k σ w := by
  subst hv
  have hrow := hS.rows _ List.mem_cons_self
  rcases hrow.2 with ⟨hv, _⟩ | ⟨g', cap', cur, hv, _, hb, h2, _, h3, _⟩
  · cases hv
  · cases hv
    simp only at h2 h3
    have hsz : m * sz ≤ cap * sz := Nat.mul_le_mul_right _ h2
    have hr := run_storeVar_own (P := P) (off := off) hs h1 hb (by rw [Nat.ble_eq]; rw [h3]; exact Nat.le_trans hlen hsz)
    exact WL.unitW (o := ⟨none, .store t x y, ty, pos, af, g⟩) hg rfl (fun a ha => by simp [execOp, ha.eval hx, ha.eval hy, Instr.storeAt, Instr.sureAddr, hr]) (h _ (hS.rowSet hb hlen))
end
end Go.Proofs.Ytdlcmhkfglckfaa

namespace Go.Proofs.Ytdlcmhkfglckfaa
open Go.RowKit

theorem chunks_all {α : Type} {sz : Nat} {Q : List Value → α → Prop} {cs : List Value} {xs : List α} {p : Value → Prop} (h : Chunks sz Q cs xs) (h0 : 0 < sz) (hq : ∀ c x, Q c x → ∀ u ∈ c, p u) : ∀ u ∈ cs, p u := by
  intro u hu
  obtain ⟨j, hj⟩ := List.mem_iff_getElem?.1 hu
  have hlt : j < xs.length * sz := by rw [← h.1]; exact (List.getElem?_eq_some_iff.1 hj).1
  have hi : j / sz < xs.length := (Nat.div_lt_iff_lt_mul h0).2 hlt
  refine hq _ _ (h.2 (j / sz) xs[j / sz] (List.getElem?_eq_getElem hi)) u ?_
  apply List.mem_iff_getElem?.2
  refine ⟨j % sz, ?_⟩
  rw [List.getElem?_take_of_lt (Nat.mod_lt _ h0), List.getElem?_drop]
  rw [show j / sz * sz + j % sz = j by rw [Nat.mul_comm]; exact Nat.div_add_mod j sz]
  exact hj
theorem elems_news {α : Type} {ro : Nat → Prop} {w : World} {sz : Nat} {Q : List Value → α → Prop} {ad : Option Addr} {xs : List α} (h : Elems ro w sz Q ad xs) :
    ∃ cs, Chunks sz Q cs xs ∧ (∀ b off, ad = some ⟨b, off, none⟩ → CellsAt w b off cs ∧ (cs ≠ [] → ro b)) ∧ (∀ a, ad = some a → xs.length ≠ 0 → a.spot = none) := by
  cases xs with
  | nil => exact ⟨[], Chunks.nil, fun b off _ => ⟨fun j v hj => by simp at hj, fun h => absurd rfl h⟩, fun a _ h0 => absurd rfl h0⟩
  | cons x r =>
    obtain ⟨b, off, c, e1, e2, _, _, _⟩ := h 0 x (by simp)
    subst e1
    obtain ⟨cs, h1, h2⟩ := elems_cells h
    refine ⟨cs, h2, fun b' off' e => ?_, fun a e _ => ?_⟩
    · cases e; exact ⟨h1, fun _ => e2⟩
    · cases e; rfl
theorem ownsRow_base {w : World} {base base' e sz n : Nat} {v : Value} {xs : List Value} (h : w.ownsRow base e sz v n xs) (hb : base' ≤ base) : w.ownsRow base' e sz v n xs := by
  refine ⟨h.1, ?_⟩
  rcases h.2 with h2 | ⟨g, cap, cur, hv, hg, r⟩
  · exact .inl h2
  · exact .inr ⟨g, cap, cur, hv, Nat.le_trans hb hg, r⟩
section
variable {w0 ws w w' : World} {ro : Nat → Prop} {L : List (Nat × Obj)} {Rs : List Row}
/-- A row that a call has made. -/
theorem St.callRow (h : St w0 ws w ro L Rs) (hb : Below w.heap.size w w') {e sz n : Nat} {v : Value} {xs : List Value} (ho : w'.ownsRow w.heap.size e sz v n xs) : St w0 ws w' ro L (⟨v, e, sz, n, xs⟩ :: Rs) := by
  have g := h.grow hb
  have hnew : ∀ b, v.ownBlock = some b → w.heap.size ≤ b ∧ b < w'.heap.size := fun b hv => ho.lt b hv
  refine ⟨g.below, g.snap, g.own, ?_, ?_, ?_⟩
  · intro r hr
    rcases List.mem_cons.1 hr with e' | hr
    · subst e'; exact ownsRow_base ho h.below.size
    · exact g.rows r hr
  · intro x hx
    simp only [keysOf, List.mem_append, List.mem_filterMap, List.mem_cons] at hx
    rcases hx with hx | ⟨q, hq | hq, he⟩
    · exact g.keys x (by simp only [keysOf, List.mem_append]; exact .inl hx)
    · subst hq
      obtain ⟨h1, h2⟩ := hnew x he
      exact ⟨Nat.le_trans h.below.size h1, h2, fun hr => absurd (h.snap x hr).1 (by omega)⟩
    · exact g.keys x (by simp only [keysOf, List.mem_append, List.mem_filterMap]; exact .inr ⟨q, hq, he⟩)
  · cases hv : v.ownBlock with
    | none => simpa [keysOf, List.filterMap_cons, hv] using g.nodup
    | some b =>
      have hp : List.Perm (keysOf L (⟨v, e, sz, n, xs⟩ :: Rs)) (b :: keysOf L Rs) := by
        simp only [keysOf, List.filterMap_cons, hv]
        exact List.perm_middle
      refine hp.nodup_iff.2 (List.nodup_cons.2 ⟨fun hx => ?_, g.nodup⟩)
      have := (h.keys b hx).2.1
      have := (hnew b hv).1
      omega
end
theorem Elems.keep {α : Type} {ro ro' : Nat → Prop} {w w' : World} {sz : Nat} {Q Q' : List Value → α → Prop} {ad : Option Addr} {xs : List α} (h : Elems ro w sz Q ad xs) (ha : Alike ro w ro' w') (hq : ∀ cs x, Q cs x → Q' cs x) : Elems ro' w' sz Q' ad xs := by
  intro i x hx
  obtain ⟨b, off, cs, e1, e2, e3, e4, e5⟩ := h i x hx
  exact ⟨b, off, cs, e1, (ha b e2).1, e3, e4.keep (ha b e2).2, hq _ _ e5⟩
/-- What is read, from the call's begin to a later world in which more is read. -/
theorem St.alikeTo {w0 ws w w' : World} {ro ro' : Nat → Prop} {L : List (Nat × Obj)} {Rs : List Row} (h : St w0 ws w ro L Rs) (hb : Below w.heap.size w w') (hs : ∀ b, ro b → ro' b) : Alike ro ws ro' w' := fun b hr =>
  ⟨hs b hr, (hb.block b (h.snap b hr).1).trans (h.snap b hr).2⟩
theorem Alike.mono {ro ro' ro'' : Nat → Prop} {w w' : World} (h : Alike ro w ro' w') (hs : ∀ b, ro' b → ro'' b) : Alike ro w ro'' w' := fun b hb => ⟨hs b (h b hb).1, (h b hb).2⟩
theorem Alike.refl {ro : Nat → Prop} {w : World} : Alike ro w ro w := fun _ h => ⟨h, rfl⟩
/-- What is read, and what the call has made since. -/
def roFrom (ro : Nat → Prop) (w w' : World) : Nat → Prop := fun x => ro x ∨ (w.heap.size ≤ x ∧ x < w'.heap.size)
theorem St.readNew {w0 ws w w' : World} {ro : Nat → Prop} {L : List (Nat × Obj)} {Rs : List Row} (h : St w0 ws w ro L Rs) (hb : Below w.heap.size w w') : St w0 w' w' (roFrom ro w w') L Rs :=
  h.read hb (fun b hr => hr.imp id (·.1)) (fun b hr => hr.elim (fun h1 => Nat.lt_of_lt_of_le (h.snap b h1).1 hb.size) (·.2))
theorem row_some {w : World} {base e sz n cap : Nat} {ad : Option Addr} {xs : List Value} (h : w.ownsRow base e sz (.slice ad n cap) n xs) (hn : n ≠ 0) : ∃ g, ad = some ⟨g, 0, none⟩ := by
  rcases h.2 with ⟨_, h0⟩ | ⟨g, cap', cur, hv, _⟩
  · exact absurd h0 hn
  · cases hv; exact ⟨g, rfl⟩
/-- All that there is, is only read from here on; what was the call's own is let go. -/
theorem St.readAll {w0 ws w w' : World} {ro : Nat → Prop} {L : List (Nat × Obj)} {Rs : List Row} (h : St w0 ws w ro L Rs) (hb : Below w.heap.size w w') : St w0 w' w' (fun x => x < w'.heap.size) [] [] :=
  ⟨h.below.trans (hb.mono h.below.size), fun b hb => ⟨hb, rfl⟩, by simp, by simp, by simp [keysOf], by simp [keysOf]⟩
theorem alikeAll {w w' : World} (hb : Below w.heap.size w w') : Alike (roFrom (fun x => x < w.heap.size) w w') w' (fun x => x < w'.heap.size) w' := fun _ hx => ⟨hx.elim (fun h => Nat.lt_of_lt_of_le h hb.size) (·.2), rfl⟩
theorem take_next {α : Type} {l : List α} {k : Nat} {x : α} (h : l[k]? = some x) : l.take (k + 1) = l.take k ++ [x] := by
  rw [List.take_add_one, h]; rfl
theorem take_full {α : Type} {xs ys : List α} {k : Nat} (h : xs.take k = ys.take k) (h1 : k = xs.length) (h2 : xs.length = ys.length) : xs = ys := by
  subst h1; rw [List.take_length] at h; rw [h, h2, List.take_length]
theorem one_ints {c : List Value} {x : Int} (h : IntC c x) : ∀ u ∈ c, u.oneCell' = true := by rw [h.1]; intro u hu; simp at hu; subst hu; rfl
theorem slv_one {α : Type} {ro : Nat → Prop} {w : World} {sz : Nat} {Q : List Value → α → Prop} {v : Value} {xs : List α} (h : SlV ro w sz Q v xs) : v.oneCell' = true := by
  obtain ⟨_, _, rfl, _⟩ := h; rfl
theorem one_inst {ro : Nat → Prop} {w : World} {c : List Value} {x : DInst} (h : InstC ro w c x) : ∀ u ∈ c, u.oneCell' = true := by
  obtain ⟨sv, rfl, h2, _⟩ := h
  intro u hu
  simp only [List.mem_cons, List.not_mem_nil, or_false] at hu
  rcases hu with rfl | rfl | rfl | rfl | rfl | rfl <;> first | rfl | exact slv_one h2
theorem one_func {ro : Nat → Prop} {w : World} {c : List Value} {x : DFunc} (h : FuncC ro w c x) : ∀ u ∈ c, u.oneCell' = true := by
  obtain ⟨s, rfl, h2, _⟩ := h
  intro u hu
  simp only [List.mem_cons, List.not_mem_nil, or_false] at hu
  rcases hu with rfl | rfl | rfl | rfl <;> first | rfl | exact slv_one h2
theorem one_term {ro : Nat → Prop} {w : World} {c : List Value} {x : DTerm} (h : TermC ro w c x) : ∀ u ∈ c, u.oneCell' = true := by
  obtain ⟨s1, s2, rfl, h1, h2, _⟩ := h
  intro u hu
  simp only [List.mem_cons, List.not_mem_nil, or_false] at hu
  rcases hu with rfl | rfl | rfl | rfl | rfl | rfl <;> first | rfl | exact slv_one h1 | exact slv_one h2
theorem one_block {ro : Nat → Prop} {w : World} {c : List Value} {x : DBlock} (h : BlockC ro w c x) : ∀ u ∈ c, u.oneCell' = true := by
  obtain ⟨s, ts, rfl, h1, h2, _⟩ := h
  intro u hu
  rcases List.mem_cons.1 hu with rfl | hu
  · rfl
  · rcases List.mem_cons.1 hu with rfl | hu
    · exact slv_one h1
    · exact one_term h2 u hu
end Go.Proofs.Ytdlcmhkfglckfaa

namespace Go.Proofs.Ytdlcmhkfglckfaa
open Go.ChangeShapes Go.WideShapes Go.ChangeAt Go.RowKit

theorem trodAll_below {H : Type} {enc : TypeId × Value → H} {P : Program} (hl : laidOutB P = true) {W W' : World} (hb : Below W.heap.size W W') : ∀ (ts : List TypeId) (vs : List Value) (ds : List (DataW H)) (ps : List MemPlace),
    (∀ t ∈ ts, P.readableRec t = true ∧ t < P.types.size) → DataW.TrodAll enc P W 0 (fun _ => true) true ts vs ds ps → (∀ x ∈ ps, x.block < W.heap.size) → DataW.TrodAll enc P W' 0 (fun b => decide (b < W.heap.size)) true ts vs ds ps
  | [], [], [], ps, _, h, _ => h
  | t :: ts, v :: vs, d :: ds, ps, hr, h, hlt => by
    obtain ⟨p, q, h1, h2, rfl⟩ := h
    obtain ⟨r1, r2⟩ := hr t List.mem_cons_self
    exact ⟨p, q, Below.trod hl r1 r2 h1 hb fun x hx => hlt x (List.mem_append_left _ hx), trodAll_below hl hb ts vs ds q (fun t ht => hr t (List.mem_cons_of_mem _ ht)) h2 fun x hx => hlt x (List.mem_append_right _ hx), rfl⟩
  | [], _ :: _, _, _, _, h, _ => h.elim
  | [], [], _ :: _, _, _, h, _ => h.elim
  | _ :: _, [], _, _, _, h, _ => h.elim
  | _ :: _, _ :: _, [], _, _, h, _ => h.elim
theorem post_true {H : Type} {enc : TypeId × Value → H} {P : Program} {f : Func} {s : ChangeSpec} {W W' : World} {args : Array Value} {ds gs : List (DataW H)} {before : List MemPlace} {bt : TypeId}
    (hW : DataW.Whole enc P f.params.toList s.vars false W args.toList ds gs before) (hb : Below W.heap.size W W') (hrt : f.resultTypes = #[bt]) (hu : P.underlying bt = some .bool) (hvars : s.vars = [])
    (hres : (s.fn H (ds ++ gs)).results = [.lit (.bool true)]) (hargs : (s.fn H (ds ++ gs)).args = ds) (hsv : (s.fn H (ds ++ gs)).vars = []) (hl : laidOutB P = true) (hrd : ∀ t ∈ f.params.toList, P.readableRec t = true ∧ t < P.types.size) :
    s.post enc P f false true false false W args (.bool true) W' := by
  have hlt := hW.lt
  have hW' := hW
  obtain ⟨p, q, hA, hV, rfl, hfz, hnd⟩ := hW
  rw [hvars] at hV
  have hq : q = [] := by
    cases gs with
    | nil => exact hV
    | cons g gs => exact hV.elim
  subst hq
  refine ⟨ds, gs, p ++ [], [], p, [], hW', ?_, ?_, ?_, ?_, fun h => by cases h⟩
  · rw [hres, hrt]
    exact trodAll_cons_mk (shut_bool hu true) trodAll_mk0
  · rw [hargs]
    exact trodAll_below hl hb _ _ _ _ hrd hA fun x hx => hlt x (List.mem_append_left _ hx)
  · rw [hvars, hsv]; rfl
  · exact hb.frame _
end Go.Proofs.Ytdlcmhkfglckfaa

namespace Go.Proofs.Ytdlcmhkfglckfaa
open Go.ChangeShapes Go.WideShapes Go.ChangeAt Go.RowKit

section
variable {H : Type} {enc : TypeId × Value → H} {P : Program} {w : World} {sp : Nat → Bool}

/-- Whatever reads as a value of type 't', of sizes that may be, stands for something plain. -/
def Opens {α : Type} (enc : TypeId × Value → H) (P : Program) (w : World) (sp : Nat → Bool) (t : TypeId) (Q : List Value → α → Prop) : Prop :=
  ∀ fuel cs x, DataW.trod enc P w 0 sp true fuel t cs = some x → (∀ z ∈ x.1.weights P t, z ≤ reachBytes) → ∃ y, Q cs y
theorem Opens.mono {α : Type} {t : TypeId} {Q Q' : List Value → α → Prop} (h : Opens enc P w sp t Q) (hq : ∀ cs y, Q cs y → Q' cs y) : Opens enc P w sp t Q' := fun fuel cs x h1 h2 => by
  obtain ⟨y, hy⟩ := h fuel cs x h1 h2
  exact ⟨y, hq _ _ hy⟩
theorem opens_i64 {t : TypeId} (ht : P.underlying t = some (.int .i64)) : Opens enc P w sp t IntC := fun fuel cs x h _ => by
  obtain ⟨n, rfl, _, hw⟩ := DataW.trod_int ht h
  exact ⟨n, rfl, by simpa [inI, Lit.wf, IntKind.min, IntKind.max, IntKind.signed, IntKind.bits] using hw⟩
def U64C (cs : List Value) (x : Int) : Prop := cs = [.int .u64 x] ∧ inU x
theorem opens_u64 {t : TypeId} (ht : P.underlying t = some (.int .u64)) : Opens enc P w sp t U64C := fun fuel cs x h _ => by
  obtain ⟨n, rfl, _, hw⟩ := DataW.trod_int ht h
  exact ⟨n, rfl, by simpa [inU, Lit.wf, IntKind.min, IntKind.max, IntKind.signed, IntKind.bits] using hw⟩
theorem opens_bool {t : TypeId} (ht : P.underlying t = some .bool) : Opens enc P w sp t BoolC := fun fuel cs x h _ => by
  obtain ⟨n, rfl, _⟩ := DataW.trod_bool ht h
  exact ⟨n, rfl⟩
theorem opens_str {t : TypeId} (ht : P.underlying t = some .string) : Opens enc P w sp t StrC := fun fuel cs x h _ => by
  obtain ⟨n, rfl, _, hs⟩ := DataW.trod_string ht h
  exact ⟨n, rfl, hs⟩
theorem list_of {α : Type} (R : Nat → α → Prop) : ∀ n, (∀ i, i < n → ∃ y, R i y) → ∃ ys : List α, ys.length = n ∧ ∀ i y, ys[i]? = some y → R i y
  | 0, _ => ⟨[], rfl, fun i y h => by simp at h⟩
  | n + 1, h => by
    obtain ⟨ys, hl, hr⟩ := list_of R n fun i hi => h i (by omega)
    obtain ⟨y, hy⟩ := h n (by omega)
    refine ⟨ys ++ [y], by simp [hl], fun i z hz => ?_⟩
    rw [List.getElem?_append] at hz
    split at hz
    · exact hr i z hz
    · rename_i hge
      have e : i - ys.length = 0 := by
        cases hk : i - ys.length with
        | zero => rfl
        | succ k => rw [hk] at hz; simp at hz
      rw [e] at hz
      simp only [List.getElem?_cons_zero, Option.some.injEq] at hz
      subst hz
      have : i = n := by omega
      subst this
      exact hy
theorem mem_weightsAll {e : TypeId} {z : Nat} : ∀ {ds : List (DataW H)} {d : DataW H}, d ∈ ds → z ∈ d.weights P e → z ∈ DataW.weightsAll P e ds
  | _ :: _, _, hd, hz => by
    unfold DataW.weightsAll
    rcases List.mem_cons.1 hd with rfl | hd
    · exact List.mem_append_left _ hz
    · exact List.mem_append_right _ (mem_weightsAll hd hz)
theorem mem_weightsEach {z : Nat} : ∀ {ts : List TypeId} {ds : List (DataW H)} {i : Nat} {t : TypeId} {d : DataW H}, ts[i]? = some t → ds[i]? = some d → z ∈ d.weights P t → z ∈ DataW.weightsEach P ts ds
  | [], _, _, _, _, h, _, _ => by simp at h
  | _ :: _, [], _, _, _, _, h, _ => by simp at h
  | t' :: ts, d' :: ds, 0, t, d, h1, h2, hz => by
    simp only [List.getElem?_cons_zero, Option.some.injEq] at h1 h2
    subst h1; subst h2
    unfold DataW.weightsEach
    exact List.mem_append_left _ hz
  | t' :: ts, d' :: ds, i + 1, t, d, h1, h2, hz => by
    unfold DataW.weightsEach
    exact List.mem_append_right _ (mem_weightsEach (by simpa using h1) (by simpa using h2) hz)
theorem cell_lt {a : Addr} {v : Value} (h : w.cell? a = some v) : a.block < w.heap.size := by
  apply Classical.byContradiction
  intro hn
  have : w.heap[a.block]? = none := Array.getElem?_eq_none (by omega)
  unfold World.cell? at h
  rw [this] at h
  simp at h
theorem addN (b off k : Nat) : (⟨b, off, none⟩ : Addr).add k = ⟨b, off + k, none⟩ := by
  unfold Addr.add
  split
  · rename_i h; subst h; rfl
  · rfl
/-- What was there when the call began. -/
def roW (w : World) : Nat → Prop := fun b => b < w.heap.size
theorem opens_sl {α : Type} {t e : TypeId} {sz by_ : Nat} {Q : List Value → α → Prop} {B : α → Prop} (ht : P.underlying t = some (.slice e)) (hc : P.cellsOf e = sz) (hb : P.bytesOf e = by_) (h0 : 0 < sz)
    (hE : Opens enc P w sp e fun cs y => Q cs y ∧ B y) : Opens enc P w sp t fun cs (ys : List α) => (∃ v, cs = [v] ∧ SlV (roW w) w sz Q v ys) ∧ (∀ y ∈ ys, B y) ∧ ys.length * by_ ≤ reachBytes := fun fuel cs x h hz => by
  subst hc
  subst hb
  rcases DataW.trod_slice ht h with ⟨rfl, rfl⟩ | ⟨a, len, cap, elems, rest, n, _, rfl, rfl, _, hl, hcm, hlen, hel, _⟩
  · exact ⟨[], ⟨_, rfl, none, 0, rfl, Nat.le_refl _, Nat.zero_le _, fun _ => rfl, fun i x hx => by simp at hx⟩, fun y hy => by simp at hy, by simp⟩
  · have hw : ∀ z, z ∈ ((elems.map (·.1)).length * P.bytesOf e + (rest.map (·.1)).length * P.bytesOf e) :: (DataW.weightsAll P e (elems.map (·.1)) ++ DataW.weightsAll P e (rest.map (·.1))) → z ≤ reachBytes := by
      intro z hm
      apply hz
      simp only [DataW.weights, ht]
      rw [Nat.add_mul]
      exact hm
    have hel' : ∀ i, i < len → ∃ y : α, (∃ cs', cs'.length = P.cellsOf e ∧ (∀ j, j < P.cellsOf e → w.cell? ((a.add (i * P.cellsOf e)).add j) = cs'[j]?) ∧ Q cs' y) ∧ B y := by
      intro i hi
      have h1 := hel i hi
      rw [List.getElem?_eq_getElem (by omega)] at h1
      obtain ⟨cs', h2, h3⟩ := Option.bind_eq_some_iff.1 h1
      obtain ⟨_, h4, h5⟩ := World.cells?_some h2
      obtain ⟨y, hy, hB⟩ := hE n cs' _ h3 fun z hm => hw z (List.mem_cons_of_mem _ (List.mem_append_left _ (mem_weightsAll (List.mem_map.2 ⟨_, List.getElem_mem _, rfl⟩) hm)))
      exact ⟨y, ⟨cs', h4, h5, hy⟩, hB⟩
    have hsp : 0 < len → a.spot = none := fun hpos => by
      obtain ⟨y, ⟨cs', h4, h5, _⟩, _⟩ := hel' 0 hpos
      have h6 := h5 0 h0
      rw [List.getElem?_eq_getElem (by omega)] at h6
      simpa [Addr.add] using World.cell?_spot h6
    obtain ⟨ys, hyl, hy⟩ := list_of _ len hel'
    refine ⟨ys, ⟨_, rfl, some a, cap, by rw [hyl], by omega, hcm, fun e => by simp at e, fun i y hi => ?_⟩, fun y hm => ?_, ?_⟩
    · obtain ⟨⟨cs', h4, h5, hq⟩, _⟩ := hy i y hi
      have h6 := h5 0 h0
      rw [List.getElem?_eq_getElem (by omega)] at h6
      have hlt := cell_lt h6
      obtain ⟨b, off, spot⟩ := a
      have hsp' : spot = none := hsp (by have := (List.getElem?_eq_some_iff.1 hi).1; omega)
      subst hsp'
      rw [addN, addN] at hlt
      refine ⟨b, off, cs', rfl, hlt, h4, fun j v hj => ?_, hq⟩
      have hjl : j < P.cellsOf e := by rw [← h4]; exact (List.getElem?_eq_some_iff.1 hj).1
      have h7 := h5 j hjl
      rw [hj, addN, addN] at h7
      exact h7
    · obtain ⟨i, hi⟩ := List.getElem?_of_mem hm
      exact (hy i y hi).2
    · have := hw _ List.mem_cons_self
      simp only [List.length_map] at this
      rw [hyl, ← hlen]
      omega
/-- The fields of a struct. -/
theorem open_fields {t : TypeId} {fs : Array Field} {fuel : Nat} {cs : List Value} {x : DataW H × List MemPlace} (ht : P.underlying t = some (.struct fs)) (h : DataW.trod enc P w 0 sp true fuel t cs = some x) (hz : ∀ z ∈ x.1.weights P t, z ≤ reachBytes) :
    cs.length = P.cellsOf t ∧ ∀ (i : Nat) (f : Field) (ft off k : Nat) (α : Type) (Q : List Value → α → Prop), fs[i]? = some f → f.type = ft → f.offset = off → P.cellsOf ft = k → Opens enc P w sp ft Q → ∃ y, Q ((cs.drop off).take k) y := by
  obtain ⟨xs, n, _, rfl, hl, hxl, hf⟩ := DataW.trod_struct ht h
  refine ⟨hl, fun i f ft off k α Q hi e1 e2 e3 ho => ?_⟩
  subst e1; subst e2; subst e3
  have h1 := hf i f hi
  have hlt : i < xs.length := by rw [hxl]; exact (Array.getElem?_eq_some_iff.1 hi).1
  rw [List.getElem?_eq_getElem hlt] at h1
  refine ho n _ _ h1 fun z hm => hz z ?_
  simp only [DataW.weights, ht]
  exact mem_weightsEach (i := i) (by simp only [List.getElem?_map, Array.getElem?_toList, hi]; rfl) (by simp [hlt]) hm

/-- From the argument to its cells. -/
theorem open_agg {α : Type} {t : TypeId} {fs : Array Field} {r : Reach} {b0 : Nat} {v : Value} {d : DataW H} {ps : List MemPlace} {Q : List Value → α → Prop} (ht : P.underlying t = some (.struct fs)) (hval : Value.okWide P w r b0 t v)
    (hd : DataW.Trod enc P w 0 sp true t v d ps) (ho : Opens enc P w sp t Q) (hz : ∀ z ∈ d.weights P t, z ≤ reachBytes) : ∃ cs y, v = .agg cs.toArray ∧ Q cs y := by
  unfold Value.okWide at hval
  rw [ht] at hval
  obtain ⟨cs, rfl, _, _⟩ := hval
  obtain ⟨fuel, h⟩ := hd
  obtain ⟨y, hy⟩ := ho fuel _ _ h hz
  exact ⟨cs.toList, y, by simp, by simpa [Value.cells] using hy⟩
end
/-! ### What the sizes are that may be -/
def okInst (x : DInst) : Prop := x.args.length * 8 ≤ reachBytes
def okTerm (x : DTerm) : Prop := x.args.length * 8 ≤ reachBytes ∧ x.elses.length * 8 ≤ reachBytes
def okBlock (x : DBlock) : Prop := (∀ i ∈ x.ins, okInst i) ∧ x.ins.length * 72 ≤ reachBytes ∧ okTerm x.fin
def okFunc (x : DFunc) : Prop := (∀ b ∈ x.blocks, okBlock b) ∧ x.blocks.length * 112 ≤ reachBytes
def okMod (x : DMod) : Prop := (∀ f ∈ x.funcs, okFunc f) ∧ x.funcs.length * 56 ≤ reachBytes ∧ x.globs.length * 40 ≤ reachBytes
end Go.Proofs.Ytdlcmhkfglckfaa

namespace Go.Proofs.Ytdlcmhkfglckfaa
open Go.RowKit

theorem quietP_run {P : Program} {n : Nat} {ops : Array Oper} {o : Oper} {σ : Env} {Q : Exit → Act → World → Prop} {i d : Nat} {Φ : Value → World → Prop} {w : World} (hi : ops[i]? = some o) (hdst : o.dst = some d) (hlt : d < n)
    (h : WL P n NoR ops [o] (.cut (CI n (fun v : Value => putS o.dst v []) (fun v w' => Below w.heap.size w w' ∧ Φ v w')) .fin) σ w) {a : Act} (hk : Known n a σ) {K : Act → World → Prop}
    (hK : ∀ w' u, Below w.heap.size w w' → Φ u w' → K (a.put o.dst u) w') : wpOp P ops Q i K a w := by
  have h1 := h.out a hk
  have dstEq : ∀ u w', (Kt.cut (CI n (fun v : Value => putS o.dst v []) (fun v w' => Below w.heap.size w w' ∧ Φ v w')) .fin).post P NoR .normal (a.put o.dst u) w' → Below w.heap.size w w' ∧ Φ u w' := by
    rintro u w' ⟨v, hk', hb, hp⟩
    refine ⟨hb, ?_⟩
    have := hk'.at_ d v (by rw [hdst]; simp [putS, look])
    have hlt' : d < a.tmps.size := by rw [hk.size]; exact hlt
    rw [hdst] at this
    have e : u = v := by simpa [Act.put, Array.getD, hlt'] using this
    rw [e]; exact hp
  unfold wpList at h1
  unfold wpOp
  simp only [hi]
  by_cases hw' : Region.wanted o (yielded ops a.tmps) = true
  · rw [if_pos hw'] at h1 ⊢
    rcases h1 with h1 | ⟨_, a', w', h2⟩
    · left
      unfold Oper.wp at *
      generalize (execOp a.eval o).run P w = r at *
      cases r with
      | ok nx w1 =>
        cases nx <;> simp only [Oper.upon] at h1 ⊢ <;> try (exact h1.elim)
        case value u => obtain ⟨hb, he⟩ := dstEq u w1 h1; exact hK _ _ hb he
        case skip => obtain ⟨hb, he⟩ := dstEq undef w1 h1; exact hK _ _ hb he
        case enter f args =>
          refine Calls.mono h1 fun e w2 h3 => ?_
          cases e with
          | returned u => obtain ⟨hb, he⟩ := dstEq u w2 h3; exact hK _ _ hb he
          | panicked c => exact h3.elim
          | outgrown => obtain ⟨a', w', h4⟩ := h3; exact h4.elim
        case row r args =>
          refine Rows.mono h1 fun u w2 h3 => ?_
          obtain ⟨hb, he⟩ := dstEq u w2 h3; exact hK _ _ hb he
        case defer dd =>
          obtain ⟨_, hk', _⟩ := h1
          have h5 := hk'.defers
          have h6 : ∀ dst : Option Nat, ({ tmps := a.tmps, defers := dd :: a.defers } : Act).put dst undef = { tmps := (({ tmps := a.tmps, defers := dd :: a.defers } : Act).put dst undef).tmps, defers := dd :: a.defers } := fun dst => by cases dst <;> rfl
          rw [h6] at h5
          cases h5
      | halt x w1 =>
        cases x <;> simp only [Oper.upon] at h1 ⊢ <;> exact h1.elim
    · exact h2.elim
  · rw [if_neg hw'] at h1 ⊢
    obtain ⟨hb, he⟩ := dstEq undef w h1
    exact hK _ _ hb he

def PEnv (β : Nat → Value) (ops : Array Oper) : List Nat → Env
  | [] => []
  | i :: r => match (ops[i]?).bind (·.dst) with
    | some d => (d, β i) :: PEnv β ops r
    | none => PEnv β ops r
theorem look_PEnv (β : Nat → Value) (ops : Array Oper) : ∀ (is : List Nat) (t : Nat) (v : Value), look (PEnv β ops is) t = some v → ∃ i ∈ is, (ops[i]?).bind (·.dst) = some t ∧ v = β i
  | [], _, _, hv => by cases hv
  | i :: r, t, v, hv => by
    have rec_ : look (PEnv β ops r) t = some v → ∃ i' ∈ i :: r, (ops[i']?).bind (·.dst) = some t ∧ v = β i' := fun h => by
      obtain ⟨i', hi', rest⟩ := look_PEnv β ops r t v h
      exact ⟨i', List.mem_cons_of_mem _ hi', rest⟩
    simp only [PEnv] at hv
    cases hd : (ops[i]?).bind (·.dst) with
    | none => rw [hd] at hv; exact rec_ hv
    | some d =>
      rw [hd] at hv
      simp only [look] at hv
      cases hc : Nat.beq d t with
      | true =>
        rw [hc] at hv
        have e : d = t := Nat.eq_of_beq_eq_true hc
        subst e
        exact ⟨i, List.mem_cons_self, hd, (Option.some.inj hv).symm⟩
      | false => rw [hc] at hv; exact rec_ hv
def valAt (ops : Array Oper) (a : Act) (i : Nat) : Value := match (ops[i]?).bind (·.dst) with
  | some d => a.tmps.getD d undef
  | none => undef
theorem known_PEnv {n : Nat} {σ : Env} {ops : Array Oper} {a : Act} {is : List Nat} (hk : Known n a σ) : Known n a (PEnv (valAt ops a) ops is ++ σ) := by
  refine ⟨hk.size, hk.defers, fun t v hv => ?_⟩
  rcases look_append _ _ t v hv with h2 | h2
  · obtain ⟨i, _, hd, e⟩ := look_PEnv _ ops is t v h2
    rw [e, valAt, hd]
  · exact hk.at_ t v h2
/-- What is known of the values of some operations. -/
def DepsP (Φs : List (Value → World → Prop)) (β : Nat → Value) (w : World) : List Nat → Prop
  | [] => True
  | i :: r => (match Φs[i]? with | some Φ => Φ (β i) w | none => True) ∧ DepsP Φs β w r
theorem DepsP.of {Φs : List (Value → World → Prop)} {β : Nat → Value} {w : World} : ∀ {is : List Nat}, (∀ i ∈ is, ∀ Φ, Φs[i]? = some Φ → Φ (β i) w) → DepsP Φs β w is
  | [], _ => trivial
  | i :: r, h => ⟨by
      cases e : Φs[i]? with
      | none => trivial
      | some Φ => exact h i List.mem_cons_self Φ e, DepsP.of fun j hj => h j (List.mem_cons_of_mem _ hj)⟩
def allDst (ops : Array Oper) (h : Nat) : Bool := (List.range h).all fun i => ((ops[i]?).bind (·.dst)).isSome
/-- The head's operations one by one. -/
def AllP (P : Program) (n : Nat) (ops : Array Oper) (Φs0 : List (Value → World → Prop)) (σ : Env) (w1 : World) : Nat → List (Value → World → Prop) → List Oper → Prop
  | i, Φ :: F, o :: l => (∀ β w, Below w1.heap.size w1 w → DepsP Φs0 β w (depsOf ops i) → WL P n NoR ops [o] (.cut (CI n (fun v : Value => putS o.dst v []) (fun v w' => Below w.heap.size w w' ∧ Φ v w')) .fin) (PEnv β ops (depsOf ops i) ++ σ) w) ∧ AllP P n ops Φs0 σ w1 (i + 1) F l
  | _, [], _ => True
  | _, _ :: _, [] => False
theorem AllP.at {P : Program} {n : Nat} {ops : Array Oper} {F0 : List (Value → World → Prop)} {σ : Env} {w1 : World} : ∀ (F : List (Value → World → Prop)) (l : List Oper) (m : Nat), AllP P n ops F0 σ w1 m F l → ∀ (i : Nat) (Φ : Value → World → Prop) (o : Oper), F[i]? = some Φ → l[i]? = some o →
    ∀ β w, Below w1.heap.size w1 w → DepsP F0 β w (depsOf ops (m + i)) → WL P n NoR ops [o] (.cut (CI n (fun v : Value => putS o.dst v []) (fun v w' => Below w.heap.size w w' ∧ Φ v w')) .fin) (PEnv β ops (depsOf ops (m + i)) ++ σ) w
  | [], _, _, _, i, v, o, hi, _ => by simp at hi
  | _ :: _, [], _, _, i, v, o, _, ho => by simp at ho
  | x :: F, o' :: l, m, h, 0, v, o, hi, ho => by
    simp only [List.getElem?_cons_zero, Option.some.injEq] at hi ho
    subst hi; subst ho
    exact h.1
  | x :: F, o' :: l, m, h, i + 1, v, o, hi, ho => by
    rw [show m + (i + 1) = m + 1 + i by omega]
    exact AllP.at F l (m + 1) h.2 i v o (by simpa using hi) (by simpa using ho)
/-- What has come to be known of a value goes on in every later world. -/
def Stays (Φ : Value → World → Prop) : Prop := ∀ v w w', Φ v w → Below w.heap.size w w' → Φ v w'
def AllStay : List (Value → World → Prop) → Prop
  | [] => True
  | Φ :: r => Stays Φ ∧ AllStay r
theorem AllStay.at : ∀ {F : List (Value → World → Prop)}, AllStay F → ∀ (i : Nat) Φ, F[i]? = some Φ → Stays Φ
  | x :: F, h, 0, Φ, hi => by
    simp only [List.getElem?_cons_zero, Option.some.injEq] at hi
    subst hi; exact h.1
  | x :: F, h, i + 1, Φ, hi => AllStay.at h.2 i Φ (by simpa using hi)
theorem stays_eq {c : Value} : Stays fun v _ => v = c := fun _ _ _ h _ => h

theorem W.drawP {P : Program} {n : Nat} {R : Exit → Act → World → Prop} {k : Kt} {w : World} {id : Nat} {l : List Oper} (hm : P.follows .mixedOrders = true) (h : Nat) (Φs : List (Value → World → Prop)) (hB : drawB l.toArray h = true) (hlen : Nat.beq Φs.length h = true) (hall : allDst l.toArray h = true)
    (σ : Env) {σ0 : Env} (hsub : Sub σ σ0) (hds : dstsB l.toArray h n σ = true) (hst : AllStay Φs) (hq : AllP P n l.toArray Φs σ w 0 Φs l)
    (fin : ∀ β w', Below w.heap.size w w' → DepsP Φs β w' (List.range h) → WL P n R l.toArray (l.drop h) k (PEnv β l.toArray (List.range h) ++ σ) w') :
    W P n R (.region id l.toArray true) k σ0 w := by
  refine ⟨fun a hk0 => wp_region_any hm ?_⟩
  have hH : Φs.length = h := Nat.eq_of_beq_eq_true hlen
  have hk := hk0.sub hsub
  have hB' := hB
  simp only [drawB, Bool.and_eq_true, Nat.ble_eq] at hB'
  have hle : h ≤ l.toArray.size := hB'.1.1
  refine wpAny_inv (l := l) (h := h) rfl hB (fun p a u => Known n a σ ∧ Below w.heap.size w u ∧ ∀ i Φ, i < h → p i = true → Φs[i]? = some Φ → Φ (valAt l.toArray a i) u) ?_ ?_ ?_ l.toArray.size _ a _ (by simp) (fun j _ _ hj => by rw [getD_replicate_false] at hj; cases hj) (fun t _ => getD_replicate_false _ _) ?_ ?_
  · rintro p p' a w hpp ⟨h1, h2, h3⟩
    exact ⟨h1, h2, fun i Φ hi hp => h3 i Φ hi (by rw [hpp i hi]; exact hp)⟩
  · rintro p a u i o ⟨h1, h2, h3⟩ hi ho hpi hdep
    have hlH : i < Φs.length := by omega
    have hΦ : Φs[i]? = some Φs[i] := List.getElem?_eq_getElem hlH
    have hs := List.all_eq_true.1 hall i (List.mem_range.2 hi)
    rw [ho] at hs
    obtain ⟨d, hd⟩ : ∃ d, o.dst = some d := Option.isSome_iff_exists.1 hs
    have hd2 : (l.toArray[i]?).bind (·.dst) = some d := by rw [ho]; exact hd
    have hsp := dsts_spec hds hi hd2
    have hw := AllP.at Φs l 0 hq i Φs[i] o hΦ (by simpa using ho) (valAt l.toArray a) u h2 (DepsP.of fun j hj Φ hj2 => by
      simp only [Nat.zero_add, depsOf, ho] at hj
      obtain ⟨e, he, rfl⟩ := List.mem_map.1 hj
      obtain ⟨he1, he2⟩ := List.mem_filter.1 he
      have hon := headB_head hB'.1.2 ho hi e (by simpa using he1) he2
      exact h3 e.on Φ (by omega) (hdep e (by simpa using he1) he2) hj2)
    rw [Nat.zero_add] at hw
    refine quietP_run ho hd hsp.1 hw (known_PEnv h1) fun w' v hb hv => ⟨known_put h1 fun d' e => ?_, h2.trans (hb.mono h2.size), fun j Φ hj hp hj2 => ?_⟩
    · rw [hd] at e; cases e; exact hsp.2.1
    · by_cases e : j = i
      · subst e
        rw [hΦ] at hj2
        have e2 := Option.some.inj hj2
        subst e2
        rw [valAt, hd2, hd]
        simp only
        rw [put_same (by rw [h1.size]; exact hsp.1)]
        exact hv
      · simp only [beqF e, cond_false] at hp
        have h4 := h3 j Φ hj hp hj2
        have h5 : valAt l.toArray (a.put o.dst v) j = valAt l.toArray a j := by
          unfold valAt
          cases hdj : (l.toArray[j]?).bind (·.dst) with
          | none => rfl
          | some dj =>
            simp only
            rw [hd]
            exact put_other fun e2 => hsp.2.2 j dj hj e hdj e2.symm
        rw [h5]
        exact AllStay.at hst j Φ hj2 _ _ _ h4 hb
  · rintro a u ⟨h1, h2, h3⟩
    exact (fin (valAt l.toArray a) u h2 (DepsP.of fun i hi Φ hj2 => h3 i Φ (List.mem_range.1 hi) rfl hj2)).out a (known_PEnv h1)
  · have hf : (List.range h).filter (fun i => !(Array.replicate l.toArray.size false).getD i false) = List.range h := by
      rw [List.filter_eq_self]
      intro i _
      rw [getD_replicate_false]; rfl
    rw [hf, List.length_range]
    omega
  · refine ⟨hk, (Below.refl _ w).drew, fun i Φ _ hp => (by simp only [getD_replicate_false] at hp; cases hp)⟩
/-- Cells that lie in one block of the call's own, in chunks: a slice over it. -/
theorem slv_blk {α : Type} {ro : Nat → Prop} {w : World} {b e sz n : Nat} {c : Array Value} {Q : List Value → α → Prop} {cs : List Value} {xs : List α} (hb : w.heap[b]? = some (.cells c e (0, 0))) (hc : c.toList.take cs.length = cs) (h : Chunks sz Q cs xs) (hr : ro b) (hn : n = xs.length) (hm : xs.length ≤ maxLen) :
    SlV ro w sz Q (.slice (some ⟨b, 0, none⟩) n n) xs := by subst hn; exact ⟨_, _, rfl, Nat.le_refl _, hm, (fun e => by cases e), elems_block hb hc h hr⟩
theorem slv_nil {α : Type} {ro : Nat → Prop} {w : World} {sz : Nat} {Q : List Value → α → Prop} : SlV ro w sz Q (.slice none 0 0) ([] : List α) := ⟨none, 0, rfl, Nat.le_refl _, Nat.zero_le _, fun _ => rfl, fun i x hx => by simp at hx⟩
theorem chunks_ints : ∀ {l : List Int}, (∀ x ∈ l, inI x) → Chunks 1 IntC (l.map fun x => .int .i64 x) l := fun {l} h => by
  have := Chunks.flat (sz := 1) (Q := IntC) (f := fun x : Int => [Value.int .i64 x]) (fun _ => rfl) l (fun x hx => ⟨rfl, h x hx⟩)
  rwa [show (l.map fun x : Int => [Value.int .i64 x]).flatten = l.map fun x => Value.int .i64 x by clear this h; induction l with | nil => rfl | cons a r ih => simp_all] at this
end Go.Proofs.Ytdlcmhkfglckfaa
