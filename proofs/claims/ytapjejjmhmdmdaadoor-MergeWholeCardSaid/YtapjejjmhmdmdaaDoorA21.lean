/-
  An argument opened where what is read is of bounded bulk: its reading as data, with a measure that the bulk bounds. No condition beyond those that each theorem states.
-/
import Derived.Test.YtapjejjmhmdmdaaDoorA10
namespace Go.Proofs.YtapjejjmhmdmdaaDoor
open Go.ChangeShapes Go.WideShapes Go.ChangeAt Go.RowKit

section
variable {H : Type} {enc : TypeId × Value → H} {P : Program} {w : World} {sp : Nat → Bool}
theorem bulk_one (d : DataW H) : 1 ≤ Rows.uptoBulk d := by
  cases d with
  | lit l => cases l <;> simp [Rows.uptoBulk]
  | nil => simp [Rows.uptoBulk]
  | ptr d => simp [Rows.uptoBulk]
  | slice elems spare => simp [Rows.uptoBulk]
  | agg parts => simp [Rows.uptoBulk]
  | iface t d => simp [Rows.uptoBulk]
  | map entries => simp [Rows.uptoBulk]
  | held h => simp [Rows.uptoBulk]
/-- Whatever reads as a value of type 't' stands for something plain, of a measure that its bulk bounds. -/
def OpensU {α : Type} (enc : TypeId × Value → H) (P : Program) (w : World) (sp : Nat → Bool) (t : TypeId) (Q : List Value → α → Prop) (μ : α → Nat) : Prop :=
  ∀ fuel cs x, DataW.trod enc P w 0 sp true fuel t cs = some x → ∃ y, Q cs y ∧ μ y ≤ Rows.uptoBulk x.1
theorem OpensU.mono {α : Type} {t : TypeId} {Q Q' : List Value → α → Prop} {μ μ' : α → Nat} (h : OpensU enc P w sp t Q μ) (hq : ∀ cs y, Q cs y → Q' cs y) (hm : ∀ y, μ' y ≤ μ y) : OpensU enc P w sp t Q' μ' := fun fuel cs x h1 => by
  obtain ⟨y, hy, hb⟩ := h fuel cs x h1
  exact ⟨y, hq _ _ hy, Nat.le_trans (hm y) hb⟩
theorem opensU_i64 {t : TypeId} (ht : P.underlying t = some (.int .i64)) : OpensU enc P w sp t IntC fun _ => 1 := fun fuel cs x h => by
  obtain ⟨n, rfl, _, hw⟩ := DataW.trod_int ht h
  exact ⟨n, ⟨rfl, by simpa [inI, Lit.wf, IntKind.min, IntKind.max, IntKind.signed, IntKind.bits] using hw⟩, bulk_one _⟩
theorem opensU_u64 {t : TypeId} (ht : P.underlying t = some (.int .u64)) : OpensU enc P w sp t U64C fun _ => 1 := fun fuel cs x h => by
  obtain ⟨n, rfl, _, hw⟩ := DataW.trod_int ht h
  exact ⟨n, ⟨rfl, by simpa [inU, Lit.wf, IntKind.min, IntKind.max, IntKind.signed, IntKind.bits] using hw⟩, bulk_one _⟩
theorem opensU_bool {t : TypeId} (ht : P.underlying t = some .bool) : OpensU enc P w sp t BoolC fun _ => 1 := fun fuel cs x h => by
  obtain ⟨n, rfl, _⟩ := DataW.trod_bool ht h
  exact ⟨n, rfl, bulk_one _⟩
theorem opensU_str {t : TypeId} (ht : P.underlying t = some .string) : OpensU enc P w sp t StrC fun s => s.size + 1 := fun fuel cs x h => by
  obtain ⟨n, rfl, hx, hs⟩ := DataW.trod_string ht h
  refine ⟨n, ⟨rfl, hs⟩, ?_⟩
  subst hx
  show n.data.size + 1 ≤ n.data.toList.length + 1
  rw [Array.length_toList]
  exact Nat.le_refl _
theorem bulk_append (l r : List (DataW H)) : Rows.uptoBulkAll (l ++ r) = Rows.uptoBulkAll l + Rows.uptoBulkAll r := by
  induction l with
  | nil => simp [Rows.uptoBulkAll]
  | cons x l ih => simp only [List.cons_append, Rows.uptoBulkAll, ih]; omega
theorem bulk_mem {d : DataW H} : ∀ {l : List (DataW H)}, d ∈ l → Rows.uptoBulk d ≤ Rows.uptoBulkAll l
  | x :: l, h => by
    simp only [Rows.uptoBulkAll]
    rcases List.mem_cons.1 h with rfl | h
    · omega
    · have := bulk_mem h; omega
theorem bulk_sum {α : Type} {μ : α → Nat} : ∀ (ys : List α) (ds : List (DataW H)), ys.length = ds.length → (∀ (i : Nat) y d, ys[i]? = some y → ds[i]? = some d → μ y ≤ Rows.uptoBulk d) → (ys.map μ).sum ≤ Rows.uptoBulkAll ds
  | [], ds, _, _ => by simp
  | y :: ys, [], h, _ => by simp at h
  | y :: ys, d :: ds, h, hb => by
    have h0 := hb 0 y d rfl rfl
    have h1 := bulk_sum ys ds (by simpa using h) (fun i y' d' hy hd => hb (i + 1) y' d' (by simpa using hy) (by simpa using hd))
    simp only [List.map_cons, List.sum_cons, Rows.uptoBulkAll]
    omega
theorem opensU_sl {α : Type} {t e : TypeId} {sz : Nat} {Q : List Value → α → Prop} {μ : α → Nat} (ht : P.underlying t = some (.slice e)) (hc : P.cellsOf e = sz) (h0 : 0 < sz)
    (hE : OpensU enc P w sp e Q μ) : OpensU enc P w sp t (fun cs (ys : List α) => ∃ v, cs = [v] ∧ SlV (roW w) w sz Q v ys) (fun ys => (ys.map μ).sum + 1) := fun fuel cs x h => by
  subst hc
  rcases DataW.trod_slice ht h with ⟨rfl, rfl⟩ | ⟨a, len, cap, elems, rest, n, _, rfl, rfl, _, hl, hcm, hlen, hel, _⟩
  · exact ⟨[], ⟨_, rfl, none, 0, rfl, Nat.le_refl _, Nat.zero_le _, fun _ => rfl, fun i x hx => by simp at hx⟩, by simp [Rows.uptoBulk]⟩
  · have hel' : ∀ i, i < len → ∃ y : α, (∃ cs', cs'.length = P.cellsOf e ∧ (∀ j, j < P.cellsOf e → w.cell? ((a.add (i * P.cellsOf e)).add j) = cs'[j]?) ∧ Q cs' y) ∧ ∀ z, elems[i]? = some z → μ y ≤ Rows.uptoBulk z.1 := by
      intro i hi
      have h1 := hel i hi
      rw [List.getElem?_eq_getElem (by omega)] at h1
      obtain ⟨cs', h2, h3⟩ := Option.bind_eq_some_iff.1 h1
      obtain ⟨_, h4, h5⟩ := World.cells?_some h2
      obtain ⟨y, hy, hB⟩ := hE n cs' _ h3
      refine ⟨y, ⟨cs', h4, h5, hy⟩, fun z hz => ?_⟩
      rw [List.getElem?_eq_getElem (by omega)] at hz
      cases hz
      exact hB
    have hsp : 0 < len → a.spot = none := fun hpos => by
      obtain ⟨y, ⟨cs', h4, h5, _⟩, _⟩ := hel' 0 hpos
      have h6 := h5 0 h0
      rw [List.getElem?_eq_getElem (by omega)] at h6
      simpa [Addr.add] using World.cell?_spot h6
    obtain ⟨ys, hyl, hy⟩ := list_of _ len hel'
    refine ⟨ys, ⟨_, rfl, some a, cap, by rw [hyl], by omega, hcm, fun e => by simp at e, fun i y hi => ?_⟩, ?_⟩
    · obtain ⟨⟨cs', h4, h5, hq⟩, _⟩ := hy i y hi
      have h6 := h5 0 h0
      rw [List.getElem?_eq_getElem (by omega)] at h6
      have hlt := cell_lt h6
      obtain ⟨b, off, spot⟩ := a
      have hsp' : spot = none := hsp (by have := (List.getElem?_eq_some_iff.1 hi).1; omega)
      subst hsp'
      rw [addN, addN] at hlt
      refine ⟨b, off, cs', rfl, hlt, h4, fun j v hj => ?_, hq⟩
      have hjl : j < P.cellsOf e := by rw [← h4]; exact (List.getElem?_eq_some_iff.1 hj).1
      have h7 := h5 j hjl
      rw [hj, addN, addN] at h7
      exact h7
    · have hs := bulk_sum (μ := μ) ys (elems.map (·.1)) (by simp [hyl, hlen]) (fun i y d hy' hd => by
        rw [List.getElem?_map] at hd
        obtain ⟨z, hz, rfl⟩ := Option.map_eq_some_iff.1 hd
        exact (hy i y hy').2 z hz)
      simp only [Rows.uptoBulk]
      omega
/-- The fields of a struct. -/
theorem open_fieldsU {t : TypeId} {fs : Array Field} {fuel : Nat} {cs : List Value} {x : DataW H × List MemPlace} (ht : P.underlying t = some (.struct fs)) (h : DataW.trod enc P w 0 sp true fuel t cs = some x) :
    cs.length = P.cellsOf t ∧ ∃ zs : List (DataW H), x.1 = .agg zs ∧ zs.length = fs.size ∧ ∀ (i : Nat) (f : Field) (ft off k : Nat) (α : Type) (Q : List Value → α → Prop) (μ : α → Nat), fs[i]? = some f → f.type = ft → f.offset = off → P.cellsOf ft = k → OpensU enc P w sp ft Q μ → ∃ y, Q ((cs.drop off).take k) y ∧ ∀ z, zs[i]? = some z → μ y ≤ Rows.uptoBulk z := by
  obtain ⟨xs, n, _, rfl, hl, hxl, hf⟩ := DataW.trod_struct ht h
  refine ⟨hl, xs.map (·.1), rfl, by simp [hxl], fun i f ft off k α Q μ hi e1 e2 e3 ho => ?_⟩
  subst e1; subst e2; subst e3
  have h1 := hf i f hi
  have hlt : i < xs.length := by rw [hxl]; exact (Array.getElem?_eq_some_iff.1 hi).1
  rw [List.getElem?_eq_getElem hlt] at h1
  obtain ⟨y, hy, hb⟩ := ho n _ _ h1
  refine ⟨y, hy, fun z hz => ?_⟩
  rw [List.getElem?_map, List.getElem?_eq_getElem hlt] at hz
  cases hz
  exact hb
/-- From the argument to its cells. -/
theorem openU_agg {α : Type} {t : TypeId} {fs : Array Field} {r : Reach} {b0 : Nat} {v : Value} {d : DataW H} {ps : List MemPlace} {Q : List Value → α → Prop} {μ : α → Nat} (ht : P.underlying t = some (.struct fs)) (hval : Value.okWide P w r b0 t v)
    (hd : DataW.Trod enc P w 0 sp true t v d ps) (ho : OpensU enc P w sp t Q μ) : ∃ cs y, v = .agg cs.toArray ∧ Q cs y ∧ μ y ≤ Rows.uptoBulk d := by
  unfold Value.okWide at hval
  rw [ht] at hval
  obtain ⟨cs, rfl, _, _⟩ := hval
  obtain ⟨fuel, h⟩ := hd
  obtain ⟨y, hy, hb⟩ := ho fuel _ _ h
  exact ⟨cs.toList, y, by simp, by simpa [Value.cells] using hy, hb⟩
theorem openU_sl {α : Type} {t e : TypeId} {r : Reach} {b0 sz : Nat} {v : Value} {d : DataW H} {ps : List MemPlace} {Q : List Value → α → Prop} {μ : List α → Nat} (ht : P.underlying t = some (.slice e)) (hval : Value.okWide P w r b0 t v)
    (hd : DataW.Trod enc P w 0 sp true t v d ps) (ho : OpensU enc P w sp t (fun cs (ys : List α) => ∃ v, cs = [v] ∧ SlV (roW w) w sz Q v ys) μ) : ∃ ys, SlV (roW w) w sz Q v ys ∧ μ ys ≤ Rows.uptoBulk d := by
  obtain ⟨a, len, cap, rfl⟩ := okWide_slice ht hval
  obtain ⟨fuel, h⟩ := hd
  obtain ⟨ys, ⟨u, hu, hs⟩, hb⟩ := ho fuel _ _ h
  simp [Value.cells] at hu
  subst hu
  exact ⟨ys, hs, hb⟩
theorem upto_bound {l : List (DataW H)} (hk : Rows.uptoSmall H l = true) : Rows.uptoBulkAll l ≤ 1048576 := of_decide_eq_true hk
theorem sum_ge {α : Type} {μ : α → Nat} (l : List α) (h : ∀ x ∈ l, 1 ≤ μ x) : l.length ≤ (l.map μ).sum := by
  induction l with
  | nil => simp
  | cons x l ih =>
    have h0 := h x (by simp)
    have h1 := ih fun y hy => h y (List.mem_cons_of_mem _ hy)
    simp only [List.length_cons, List.map_cons, List.sum_cons]
    omega
end
/-! ### How much there is -/
def szInst (x : DInst) : Nat := x.args.length + 1
def szTerm (x : DTerm) : Nat := x.args.length + x.elses.length + 1
def szBlock (x : DBlock) : Nat := (x.ins.map szInst).sum + szTerm x.fin + 1
def szFunc (x : DFunc) : Nat := (x.blocks.map szBlock).sum + 1
def szMod (x : DMod) : Nat := (x.funcs.map szFunc).sum + x.globs.length + 1
theorem sum_mem {α : Type} {μ : α → Nat} : ∀ {l : List α} {x : α}, x ∈ l → μ x ≤ (l.map μ).sum
  | y :: l, x, h => by
    simp only [List.map_cons, List.sum_cons]
    rcases List.mem_cons.1 h with rfl | h
    · omega
    · have := sum_mem (μ := μ) h; omega
theorem okInst_of {x : DInst} (h : szInst x ≤ 1048576) : okInst x := by unfold szInst at h; unfold okInst reachBytes; omega
theorem okTerm_of {x : DTerm} (h : szTerm x ≤ 1048576) : okTerm x := by unfold szTerm at h; unfold okTerm reachBytes; omega
theorem okBlock_of {x : DBlock} (h : szBlock x ≤ 1048576) : okBlock x := by
  unfold szBlock at h
  have h1 := sum_ge (μ := szInst) x.ins (fun _ _ => by unfold szInst; omega)
  exact ⟨fun i hi => okInst_of (by have := sum_mem (μ := szInst) hi; omega), by unfold reachBytes; omega, okTerm_of (by omega)⟩
theorem okFunc_of {x : DFunc} (h : szFunc x ≤ 1048576) : okFunc x := by
  unfold szFunc at h
  have h1 := sum_ge (μ := szBlock) x.blocks (fun _ _ => by unfold szBlock; omega)
  exact ⟨fun b hb => okBlock_of (by have := sum_mem (μ := szBlock) hb; omega), by unfold reachBytes; omega⟩
theorem szMod_len (x : DMod) : x.funcs.length + x.globs.length ≤ szMod x := by
  have h1 := sum_ge (μ := szFunc) x.funcs (fun _ _ => by unfold szFunc; omega)
  unfold szMod; omega
theorem okMod_of {x : DMod} (h : szMod x ≤ 1048576) : okMod x := by
  have h0 := szMod_len x
  unfold szMod at h h0
  exact ⟨fun f hf => okFunc_of (by have := sum_mem (μ := szFunc) hf; omega), by unfold reachBytes; omega, by unfold reachBytes; omega⟩
theorem sum_le {α : Type} {μ ν : α → Nat} : ∀ (l : List α), (∀ x ∈ l, μ x ≤ ν x) → (l.map μ).sum ≤ (l.map ν).sum
  | [], _ => by simp
  | x :: l, h => by
    have h0 := h x (by simp)
    have h1 := sum_le l fun y hy => h y (List.mem_cons_of_mem _ hy)
    simp only [List.map_cons, List.sum_cons]; omega
end Go.Proofs.YtapjejjmhmdmdaaDoor
