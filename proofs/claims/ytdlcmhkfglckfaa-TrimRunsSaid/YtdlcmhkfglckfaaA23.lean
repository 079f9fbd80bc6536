/-
  Appends to a row without elements, in a region that draws; own rows that are read. No condition beyond those that each theorem states.
-/
import Derived.Test.YtdlcmhkfglckfaaA15
import Derived.ArgAppend
namespace Go.Proofs.Ytdlcmhkfglckfaa
open Go.RowKit

section
variable {P : Program} {n : Nat} {R : Exit → Act → World → Prop} {k : Kt} {σ : Env} {w : World} {ops : Array Oper} {rest : List Oper}
variable {d : Nat} {ty : TypeId} {pos : String} {af : Array Edge} {g : Option (Nat × Bool)}
variable {w0 ws : World} {ro : Nat → Prop} {L : List (Nat × Obj)} {Rs : List Row}

theorem below_grown {w w' : World} (h : w.grownBy w' none) : Below w.heap.size w w' :=
  ⟨h.os, h.tape, h.output, h.size, fun b hb => h.block b hb (by simp)⟩
theorem WL.append0 {t e m c B b : Nat} {x y : Operand} {zs news : List Value} {ad : Option Addr} (by' : Nat) (hu : P.underlying t = some (.slice e)) (hz : TyZero P e zs) (hby : (P.info? e).map (·.bytes) = some by') (h0 : Nat.blt 0 zs.length = true) (hg : want ops σ g = some true) (hd : Nat.blt d n = true)
    (hx : ev σ x = some (.slice (some ⟨b, 0, none⟩) 0 0)) (hy : ev σ y = some (.slice ad m c)) (hl : news.length = m * zs.length) (hnil : ad = none → m = 0 ∧ c = 0) (hcs : ∀ b off, ad = some ⟨b, off, none⟩ → CellsAt w b off news) (hspot : ∀ a, ad = some a → m ≠ 0 → a.spot = none) (h1 : ∀ u ∈ news, u.oneCell' = true)
    (hrow : w.ownsRow B e zs.length (.slice (some ⟨b, 0, none⟩) 0 0) 0 []) (hB : B ≤ w.heap.size) (hmx : m ≤ maxLen) (hbytes : m * by' ≤ 140737488355328)
    (h : ∀ w' v', Below w.heap.size w w' → w'.ownsRow B e zs.length v' m news → WL P n R ops rest k ((d, v') :: σ) w') :
    WL P n R ops (⟨some d, .call { callee := .builtin .append, args := #[x, y], argTypes := #[t, t] }, ty, pos, af, g⟩ :: rest) k σ w := by
  obtain ⟨i, z, hi, hz1, hz2, hz3⟩ := hz
  have h0' : 0 < zs.length := by simpa [Nat.blt_eq] using h0
  have hby' : i.bytes = by' := by rw [hi] at hby; simpa using hby
  subst hby'
  by_cases hm : m = 0
  · subst hm
    have hn0 : news = [] := List.eq_nil_of_length_eq_zero (by simpa using hl)
    subst hn0
    have key : (Builtin.append_ #[t, t] ty #[.slice (some ⟨b, 0, none⟩) 0 0, .slice ad 0 c]).run P w = .ok (.slice (some ⟨b, 0, none⟩) 0 0) w := by
      cases ad with
      | none =>
        obtain ⟨_, rfl⟩ := hnil rfl
        exact run_append_owned_none (P := P) (w := w) B t ty e i zs.length hu hi _ 0 [] hrow
      | some a =>
        have hr := run_append_room_cells (P := P) w t ty e i hu hi b 0 0 0 a 0 c [] (by simp) (by simp) (by simp) (Nat.le_refl _) (by simp) (by simp)
        simpa [World.setCells] using hr
    exact WL.valW (o := ⟨some d, .call { callee := .builtin .append, args := #[x, y], argTypes := #[t, t] }, ty, pos, af, g⟩) hg hd (fun a ha => by simp [execOp, resolve, invoke, builtin, ha.eval hx, ha.eval hy, key]) (h w _ (Below.refl _ _) hrow)
  · cases ad with
    | none => exact absurd (hnil rfl).1 hm
    | some a =>
      have hnews : ∀ j u, news[j]? = some u → w.cell? (a.add j) = some u := by
        intro j u hu'
        have hsp := hspot a rfl hm
        obtain ⟨b', off, sp⟩ := a
        simp only at hsp
        subst hsp
        rw [addr_add]
        exact hcs b' off rfl j u hu'
      have hzs : z.cells.size = zs.length := by rw [hz2]; simp
      obtain ⟨v', w', hr, ho, hgr⟩ := run_append_arg_grows (P := P) w t ty e i z zs.length i.bytes hu hi hz1 hz3 rfl hzs h0' ⟨b, 0, none⟩ 0 0 [] (by simp) (by simp) a m c news hl hnews (by omega) (by omega) (by simpa using hbytes)
      rw [Nat.zero_add, List.nil_append] at ho
      exact WL.valW (o := ⟨some d, .call { callee := .builtin .append, args := #[x, y], argTypes := #[t, t] }, ty, pos, af, g⟩) hg hd (fun a ha => by simp [execOp, resolve, invoke, builtin, ha.eval hx, ha.eval hy, hr]) (h w' v' (below_grown hgr) (ownsRow_base ho hB))
end
theorem stays_own {B e sz n : Nat} {cs : List Value} : Stays fun v u => u.ownsRow B e sz v n cs := fun v w w' h hb => by
  refine ⟨h.1, ?_⟩
  rcases h.2 with h2 | ⟨g, cap, cur, h1, h2, h3, h4⟩
  · exact .inl h2
  · exact .inr ⟨g, cap, cur, h1, h2, (hb.block g (Array.getElem?_eq_some_iff.1 h3).1).trans h3, h4⟩
/-- An own row is read. -/
theorem St.rowCells {w0 ws w : World} {ro : Nat → Prop} {L : List (Nat × Obj)} {Rs : List Row} (h : St w0 ws w ro L Rs) (i : Nat) {g n cap e sz j : Nat} {cs c : List Value} (hr : Rs[i]? = some ⟨.slice (some ⟨g, 0, none⟩) n cap, e, sz, n, cs⟩)
    (hk : (cs.drop (j * sz)).take sz = c) : CellsAt w g (0 + j * sz) c := by
  intro i' v hv
  subst hk
  have hrow := h.rows _ (List.mem_of_getElem? hr)
  have h2 := hrow.cells (g := g) rfl (j * sz + i') v (chunk_get hv)
  simp only [addr_add, Nat.zero_add] at h2
  rw [Nat.zero_add]
  exact h2
end Go.Proofs.Ytdlcmhkfglckfaa
