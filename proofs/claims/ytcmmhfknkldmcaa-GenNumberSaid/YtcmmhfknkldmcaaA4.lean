/-
  Slices that the call makes itself, in the walks of these claims: a literal slice, make, append. No condition beyond those that each theorem states.
-/
import Derived.Test.YtcmmhfknkldmcaaA3
namespace Go.Proofs.Ytcmmhfknkldmcaa
open Go.RowKit

def fillS (sz : Nat) (zs : List Value) (len : Nat) (ps : List (Nat × Value)) : Option (Array Value) :=
  Instr.fill (fun i => some (i * sz, sz)) ((Array.range (len * sz)).map (zs.toArray[· % zs.toArray.size]!)) ps
theorem made_toList (zs : List Value) (h0 : 0 < zs.length) (m : Nat) : (madeCells zs.toArray (m * zs.length)).toList = (List.replicate m zs).flatten := by
  induction m with
  | zero => simp [madeCells]
  | succ m ih =>
    rw [List.replicate_succ', List.flatten_append, ← ih]
    apply List.ext_getElem?
    intro j
    simp only [madeCells, Array.toList_map, Array.toList_range, List.getElem?_map, List.size_toArray, List.flatten_cons, List.flatten_nil, List.append_nil]
    by_cases hj : j < m * zs.length
    · rw [List.getElem?_append_left (by simpa using hj)]
      have h1 : j < (m + 1) * zs.length := by rw [Nat.add_mul]; omega
      simp [hj, h1]
    · rw [List.getElem?_append_right (by simpa using Nat.le_of_not_lt hj)]
      simp only [List.length_map, List.length_range]
      by_cases h2 : j < (m + 1) * zs.length
      · have h3 : j - m * zs.length < zs.length := by rw [Nat.add_mul] at h2; omega
        have h4 : j % zs.length = j - m * zs.length := by
          have : j = (j - m * zs.length) + m * zs.length := by omega
          rw [this, Nat.add_mul_mod_self_right, Nat.mod_eq_of_lt h3]; omega
        simp [h2, h4, h3]
      · have h3 : ¬ (j - m * zs.length < zs.length) := by rw [Nat.add_mul] at h2; omega
        rw [List.getElem?_eq_none (by simpa using Nat.le_of_not_lt h2), List.getElem?_eq_none (by omega)]
        rfl

/-- Where an own row lies behind an append: where it lay, or in a new block. -/
theorem append_own2 {P : Program} (w : World) (base t ty e : Nat) {i : TypeInfo} {z : Value} (hu : P.underlying t = some (.slice e)) (hi : P.info? e = some i) (hz : i.zero = some z) (hzs : z.cells.size = i.size) (hsz : 0 < i.size)
    {v : Value} {n : Nat} {xs : List Value} (hown : w.ownsRow base e i.size v n xs) (a : Addr) (m c : Nat) (news : List Value) (hl : news.length = m * i.size) (hnews : ∀ j u, news[j]? = some u → w.cell? (a.add j) = some u) (h1 : ∀ u ∈ news, u.oneCell' = true)
    (h63 : n + m ≤ maxLen) (hbytes : (n + m) * i.bytes ≤ 140737488355328) (hbase : base ≤ w.heap.size) :
    ∃ v' w', (Builtin.append_ #[t, t] ty #[v, .slice (some a) m c]).run P w = .ok v' w' ∧ w'.ownsRow base e i.size v' (n + m) (xs ++ news) ∧ w.grownBy w' v.ownBlock ∧
      (v' ≠ .slice none 0 0 ∨ m = 0) ∧ ∀ q, v'.ownBlock = some q → v.ownBlock = some q ∨ w.heap.size ≤ q := by
  obtain ⟨v', w', hr, ho, hg, hnil⟩ := run_append_own (P := P) w base t ty e i z i.size i.bytes hu hi hz rfl rfl hzs hsz v n xs hown a m c news hl hnews h1 h63 hbytes hbase
  have hsmall : n + m ≤ 9223372036854775807 := by simp only [maxLen] at h63; omega
  refine ⟨v', w', hr, ho, hg, ?_, ?_⟩
  · by_cases hm : m = 0
    · exact .inr hm
    · exact .inl fun e => hm (hnil.1 e).2
  · intro q hq
    have hown2 := hown.2
    rcases hown2 with ⟨rfl, rfl⟩ | ⟨g, cap, cur, rfl, hbg, hgg, hnc, hcm, hcs, htake⟩
    · by_cases hm : m = 0
      · have := hnil.2 ⟨rfl, hm⟩
        subst this
        cases hq
      · have hr2 := run_append_nil (P := P) w t ty e i z hu hi hz a m c news hl hnews (by omega) (by omega) (by have hb := hbytes; simp only [Nat.zero_add] at hb; omega)
        rw [hr] at hr2
        simp only [Result.ok.injEq] at hr2
        rw [hr2.1] at hq
        simp only [Value.ownBlock, Option.some.injEq] at hq
        exact .inr (by omega)
    · by_cases hroom : n + m ≤ cap
      · have hfit : n * i.size + news.length ≤ cur.size := by rw [hl, hcs, ← Nat.add_mul]; exact Nat.mul_le_mul_right _ hroom
        have hr2 := run_append_room (P := P) w t ty e i hu hi g n cap cur hgg a m c news hl hnews h1 hroom hfit
        rw [hr] at hr2
        simp only [Result.ok.injEq] at hr2
        rw [hr2.1] at hq
        exact .inl hq
      · have holds : ∀ j u, xs[j]? = some u → w.cell? ((⟨g, 0, none⟩ : Addr).add j) = some u := hown.cells (g := g) rfl
        have hr2 := run_append_grow (P := P) w t ty e i z hu hi hz ⟨g, 0, none⟩ n cap xs hown.1 holds a m c news hl hnews (by omega) (by omega) (growslice_fits (by omega) hbytes)
        rw [hr] at hr2
        simp only [Result.ok.injEq] at hr2
        rw [hr2.1] at hq
        simp only [Value.ownBlock, Option.some.injEq] at hq
        exact .inr (by omega)

section
variable {P : Program} {n : Nat} {R : Exit → Act → World → Prop} {k : Kt} {σ : Env} {w : World} {ops : Array Oper} {rest : List Oper}
variable {d : Nat} {ty : TypeId} {pos : String} {af : Array Edge} {g : Option (Nat × Bool)}
variable {w0 ws : World} {ro : Nat → Prop} {L : List (Nat × Obj)} {Rs : List Row}

theorem evParts {a : Act} (ha : Known n a σ) : ∀ (l : List (Nat × Operand)) (r : List (Nat × Value)), l.mapM (fun p => (ev σ p.2).map fun v => (p.1, v)) = some r → l.map (fun p => (p.1, a.eval p.2)) = r
  | [], r, hr => by simp at hr; simp [hr]
  | x :: l, r, hr => by
    simp only [List.mapM_cons, Option.bind_eq_bind, Option.bind_eq_some_iff, Option.pure_def, Option.some.injEq, Option.map_eq_some_iff] at hr
    obtain ⟨v, ⟨u, hu, hv⟩, r', hr', e⟩ := hr
    subst e; subst hv
    simp [ha.eval hu, evParts ha l r' hr']
theorem WL.buildSlice {t e len : Nat} {parts : Array (Nat × Operand)} {ps : List (Nat × Value)} {zs cs : List Value} (hu : P.underlying t = some (.slice e)) (hz : TyZero P e zs) (hg : want ops σ g = some true) (hd : Nat.blt d n = true)
    (hlen : (Nat.ble (len * zs.length) 16777216 && !(Nat.beq (len * zs.length) 0)) = true) (hp : parts.toList.mapM (fun p => (ev σ p.2).map fun v => (p.1, v)) = some ps) (hb : fillS zs.length zs len ps = some cs.toArray) (hS : St w0 ws w ro L Rs)
    (h : ∀ w' b, b = w.heap.size → St w0 ws w' ro ((b, .cells cs.toArray e (0, 0)) :: L) Rs → WL P n R ops rest k ((d, .slice (some ⟨b, 0, none⟩) len len) :: σ) w') : WL P n R ops (⟨some d, .buildSlice t len parts, ty, pos, af, g⟩ :: rest) k σ w := by
  obtain ⟨i, z, hi, hz1, hz2, hz3⟩ := hz
  refine WL.valW (o := ⟨some d, .buildSlice t len parts, ty, pos, af, g⟩) (v := .slice (some ⟨w.heap.size, 0, none⟩) len len) (w' := w.alloc (.cells cs.toArray e (0, 0))) hg hd (fun a ha => ?_) (h _ _ rfl (hS.alloc _))
  have e1 : (parts.map fun p => (p.1, a.eval p.2)) = ps.toArray := by
    apply Array.toList_inj.1
    rw [Array.toList_map]
    exact evParts ha _ _ hp
  simp only [Bool.and_eq_true, Nat.ble_eq, Bool.not_eq_true', ← hz3] at hlen
  have h1 : ¬ (16777216 < len * i.size) := by omega
  have h0 : ¬ (len * i.size = 0) := by intro e; rw [e] at hlen; simp at hlen
  rw [fillS, ← hz3] at hb
  have hb2 : Instr.fill (fun j => some (j * i.size, i.size)) (Array.map (fun x => zs[x % zs.length]?.getD default) (Array.range (len * i.size))) ps = some cs.toArray := by simpa using hb
  simp only [execOp, e1, Instr.buildSlice, Sem.run_bind, run_underlying hu, Result.andThen_ok, sizeOf, typeInfo, zeroValue]
  simp [hi, hz1, hz2, h1, h0, hb2, newRow]

/-- append of the literal slice that has just been made: the call's own row, first in the list, grows. -/
theorem WL.append {t e m : Nat} {x y : Operand} {zs cs : List Value} {r : Row} {b : Nat} (by' : Nat) (hu : P.underlying t = some (.slice e)) (hz : TyZero P e zs) (hby : (P.info? e).map (·.bytes) = some by') (h0 : Nat.blt 0 zs.length = true) (hg : want ops σ g = some true) (hd : Nat.blt d n = true)
    (hx : ev σ x = some r.v) (hy : ev σ y = some (.slice (some ⟨b, 0, none⟩) m m)) (hl : Nat.beq cs.length (m * zs.length) = true) (h1 : cs.all (·.oneCell') = true) (hre : r.e = e) (hrs : r.sz = zs.length)
    (hS : St w0 ws w ro ((b, .cells cs.toArray e (0, 0)) :: L) (r :: Rs)) (hmx : r.n + m ≤ maxLen) (hbytes : (r.n + m) * by' ≤ 140737488355328)
    (h : ∀ w' v', v' ≠ .slice none 0 0 ∨ m = 0 → St w0 ws w' ro L (⟨v', e, zs.length, r.n + m, r.xs ++ cs⟩ :: Rs) → WL P n R ops rest k ((d, v') :: σ) w') :
    WL P n R ops (⟨some d, .call { callee := .builtin .append, args := #[x, y], argTypes := #[t, t] }, ty, pos, af, g⟩ :: rest) k σ w := by
  obtain ⟨i, z, hi, hz1, hz2, hz3⟩ := hz
  have hlen : cs.length = m * zs.length := Nat.eq_of_beq_eq_true hl
  have h0' : 0 < zs.length := by simpa [Nat.blt_eq] using h0
  have hrow := hS.rows r List.mem_cons_self
  rw [hre, hrs] at hrow
  rw [← hz3] at hrow hlen h0'
  have hcs : CellsAt w b 0 cs := hS.cells 0 (m := cs.length) (cs := cs) (off := 0) rfl (by simp)
  have hby' : i.bytes = by' := by rw [hi] at hby; simpa using hby
  subst hby'
  obtain ⟨v', w', hr, ho, hgr, hnil, hplace⟩ := append_own2 (P := P) w w0.heap.size t ty e hu hi hz1 (by rw [hz2, hz3]; simp) h0' hrow ⟨b, 0, none⟩ m m cs hlen
    (fun j u hu => by rw [addr_add]; exact hcs j u hu) (List.all_eq_true.1 h1) hmx hbytes hS.below.size
  refine WL.valW (o := ⟨some d, .call { callee := .builtin .append, args := #[x, y], argTypes := #[t, t] }, ty, pos, af, g⟩) (v := v') (w' := w') hg hd (fun a ha => ?_) (h w' v' hnil ?_)
  · simp [execOp, resolve, invoke, builtin, ha.eval hx, ha.eval hy, hr]
  · have hS' := hS.drop (L' := L) (Rs' := r :: Rs) (List.sublist_cons_self _ _) (List.Sublist.refl _)
    exact hS'.row1 (r' := ⟨v', e, zs.length, r.n + m, r.xs ++ cs⟩) hgr (by rw [← hz3]; exact ho) hplace

/-- The first own block becomes an own row. -/
theorem St.toRow {b e sz n cap : Nat} {c : Array Value} {xs : List Value} (h : St w0 ws w ro ((b, .cells c e (0, 0)) :: L) Rs) (hc : c.size = cap * sz) (hx : c.toList.take (n * sz) = xs) (hn : n ≤ cap) (hm : cap ≤ maxLen) :
    St w0 ws w ro L (⟨.slice (some ⟨b, 0, none⟩) n cap, e, sz, n, xs⟩ :: Rs) := by
  have hp : (keysOf ((b, .cells c e (0, 0)) :: L) Rs).Perm (keysOf L (⟨.slice (some ⟨b, 0, none⟩) n cap, e, sz, n, xs⟩ :: Rs)) := by
    simp only [keysOf, List.map_cons, List.cons_append, List.filterMap_cons, Value.ownBlock]
    exact List.perm_middle.symm
  refine ⟨h.below, h.snap, fun p hp' => h.own p (List.mem_cons_of_mem _ hp'), ?_, fun x hx => h.keys x (hp.mem_iff.2 hx), hp.nodup_iff.1 h.nodup⟩
  intro r hr
  rcases List.mem_cons.1 hr with e' | hr
  · subst e'
    have hb := h.own _ List.mem_cons_self
    have hk := (h.keys b (by simp [keysOf])).1
    refine ⟨?_, .inr ⟨b, cap, c, rfl, hk, hb, hn, hm, hc, hx⟩⟩
    rw [← hx, List.length_take, Array.length_toList, hc, Nat.min_eq_left (Nat.mul_le_mul_right _ hn)]
  · exact h.rows r hr
theorem WL.makeSlice {t e m : Nat} {x y : Operand} {kk kk' : IntKind} {zs : List Value} (by' : Nat) (hu : P.underlying t = some (.slice e)) (hz : TyZero P e zs) (hby : (P.info? e).map (·.bytes) = some by') (h0 : Nat.blt 0 zs.length = true) (hg : want ops σ g = some true) (hd : Nat.blt d n = true)
    (hx : ev σ x = some (.int kk (m : Int))) (hy : ev σ y = some (.int kk' (m : Int))) (hS : St w0 ws w ro L Rs) (hmx : m ≤ maxLen) (hbytes : m * by' ≤ 281474976710656)
    (h : ∀ w' b, St w0 ws w' ro L (⟨.slice (some ⟨b, 0, none⟩) m m, e, zs.length, m, (List.replicate m zs).flatten⟩ :: Rs) → WL P n R ops rest k ((d, .slice (some ⟨b, 0, none⟩) m m) :: σ) w') :
    WL P n R ops (⟨some d, .makeSlice t x y, ty, pos, af, g⟩ :: rest) k σ w := by
  obtain ⟨i, z, hi, hz1, hz2, hz3⟩ := hz
  have h0' : 0 < zs.length := by simpa [Nat.blt_eq] using h0
  have hb2 : i.bytes = by' := by rw [hi] at hby; simpa using hby
  have hbb : (i.bytes : Int) * (m : Int) ≤ 281474976710656 := by
    rw [hb2, ← Int.natCast_mul, Nat.mul_comm]
    omega
  have hr := run_make (P := P) w t e i z hu hi hz1 kk kk' (m : Int) (m : Int) (by omega) (Int.le_refl _) hbb (by unfold maxLen at hmx; omega)
  simp only [Int.toNat_natCast] at hr
  refine WL.valW (o := ⟨some d, .makeSlice t x y, ty, pos, af, g⟩) (v := .slice (some ⟨w.heap.size, 0, none⟩) m m) (w' := w.alloc (.cells (madeCells z.cells (m * i.size)) e)) hg hd (fun a ha => by simp [execOp, ha.eval hx, ha.eval hy, hr]) (h _ _ ?_)
  rw [hz2, hz3]
  exact (hS.alloc _).toRow (size_madeCells _ _) (by rw [made_toList zs h0', List.take_of_length_le]; simp [List.length_flatten]) (Nat.le_refl _) hmx
theorem St.dropN (h : St w0 ws w ro L Rs) (m : Nat) : St w0 ws w ro (L.drop m) Rs := h.drop (List.drop_sublist m L) (List.Sublist.refl _)
theorem St.dropR (h : St w0 ws w ro L Rs) (m : Nat) : St w0 ws w ro L (Rs.drop m) := h.drop (List.Sublist.refl _) (List.drop_sublist m Rs)
end
end Go.Proofs.Ytcmmhfknkldmcaa
