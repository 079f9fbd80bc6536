/-
  An argument opened: from its reading as data to what a walk knows of it. No condition beyond those that each theorem states.
-/
import Derived.Test.YtdlcmhkfglckfaaA9
import Derived.ChangeArms
namespace Go.Proofs.Ytdlcmhkfglckfaa
open Go.ChangeShapes Go.WideShapes Go.ChangeAt Go.RowKit

section
variable {H : Type} {enc : TypeId × Value → H} {P : Program} {w : World} {sp : Nat → Bool}

/-- Whatever reads as a value of type 't', of sizes that may be, stands for something plain. -/
def Opens {α : Type} (enc : TypeId × Value → H) (P : Program) (w : World) (sp : Nat → Bool) (t : TypeId) (Q : List Value → α → Prop) : Prop :=
  ∀ fuel cs x, DataW.trod enc P w 0 sp true fuel t cs = some x → (∀ z ∈ x.1.weights P t, z ≤ reachBytes) → ∃ y, Q cs y
theorem Opens.mono {α : Type} {t : TypeId} {Q Q' : List Value → α → Prop} (h : Opens enc P w sp t Q) (hq : ∀ cs y, Q cs y → Q' cs y) : Opens enc P w sp t Q' := fun fuel cs x h1 h2 => by
  obtain ⟨y, hy⟩ := h fuel cs x h1 h2
  exact ⟨y, hq _ _ hy⟩
theorem opens_i64 {t : TypeId} (ht : P.underlying t = some (.int .i64)) : Opens enc P w sp t IntC := fun fuel cs x h _ => by
  obtain ⟨n, rfl, _, hw⟩ := DataW.trod_int ht h
  exact ⟨n, rfl, by simpa [inI, Lit.wf, IntKind.min, IntKind.max, IntKind.signed, IntKind.bits] using hw⟩
def U64C (cs : List Value) (x : Int) : Prop := cs = [.int .u64 x] ∧ inU x
theorem opens_u64 {t : TypeId} (ht : P.underlying t = some (.int .u64)) : Opens enc P w sp t U64C := fun fuel cs x h _ => by
  obtain ⟨n, rfl, _, hw⟩ := DataW.trod_int ht h
  exact ⟨n, rfl, by simpa [inU, Lit.wf, IntKind.min, IntKind.max, IntKind.signed, IntKind.bits] using hw⟩
theorem opens_bool {t : TypeId} (ht : P.underlying t = some .bool) : Opens enc P w sp t BoolC := fun fuel cs x h _ => by
  obtain ⟨n, rfl, _⟩ := DataW.trod_bool ht h
  exact ⟨n, rfl⟩
theorem opens_str {t : TypeId} (ht : P.underlying t = some .string) : Opens enc P w sp t StrC := fun fuel cs x h _ => by
  obtain ⟨n, rfl, _, hs⟩ := DataW.trod_string ht h
  exact ⟨n, rfl, hs⟩
theorem list_of {α : Type} (R : Nat → α → Prop) : ∀ n, (∀ i, i < n → ∃ y, R i y) → ∃ ys : List α, ys.length = n ∧ ∀ i y, ys[i]? = some y → R i y
  | 0, _ => ⟨[], rfl, fun i y h => by simp at h⟩
  | n + 1, h => by
    obtain ⟨ys, hl, hr⟩ := list_of R n fun i hi => h i (by omega)
    obtain ⟨y, hy⟩ := h n (by omega)
    refine ⟨ys ++ [y], by simp [hl], fun i z hz => ?_⟩
    rw [List.getElem?_append] at hz
    split at hz
    · exact hr i z hz
    · rename_i hge
      have e : i - ys.length = 0 := by
        cases hk : i - ys.length with
        | zero => rfl
        | succ k => rw [hk] at hz; simp at hz
      rw [e] at hz
      simp only [List.getElem?_cons_zero, Option.some.injEq] at hz
      subst hz
      have : i = n := by omega
      subst this
      exact hy
theorem mem_weightsAll {e : TypeId} {z : Nat} : ∀ {ds : List (DataW H)} {d : DataW H}, d ∈ ds → z ∈ d.weights P e → z ∈ DataW.weightsAll P e ds
  | _ :: _, _, hd, hz => by
    unfold DataW.weightsAll
    rcases List.mem_cons.1 hd with rfl | hd
    · exact List.mem_append_left _ hz
    · exact List.mem_append_right _ (mem_weightsAll hd hz)
theorem mem_weightsEach {z : Nat} : ∀ {ts : List TypeId} {ds : List (DataW H)} {i : Nat} {t : TypeId} {d : DataW H}, ts[i]? = some t → ds[i]? = some d → z ∈ d.weights P t → z ∈ DataW.weightsEach P ts ds
  | [], _, _, _, _, h, _, _ => by simp at h
  | _ :: _, [], _, _, _, _, h, _ => by simp at h
  | t' :: ts, d' :: ds, 0, t, d, h1, h2, hz => by
    simp only [List.getElem?_cons_zero, Option.some.injEq] at h1 h2
    subst h1; subst h2
    unfold DataW.weightsEach
    exact List.mem_append_left _ hz
  | t' :: ts, d' :: ds, i + 1, t, d, h1, h2, hz => by
    unfold DataW.weightsEach
    exact List.mem_append_right _ (mem_weightsEach (by simpa using h1) (by simpa using h2) hz)
theorem cell_lt {a : Addr} {v : Value} (h : w.cell? a = some v) : a.block < w.heap.size := by
  apply Classical.byContradiction
  intro hn
  have : w.heap[a.block]? = none := Array.getElem?_eq_none (by omega)
  unfold World.cell? at h
  rw [this] at h
  simp at h
theorem addN (b off k : Nat) : (⟨b, off, none⟩ : Addr).add k = ⟨b, off + k, none⟩ := by
  unfold Addr.add
  split
  · rename_i h; subst h; rfl
  · rfl
/-- What was there when the call began. -/
def roW (w : World) : Nat → Prop := fun b => b < w.heap.size
theorem opens_sl {α : Type} {t e : TypeId} {sz by_ : Nat} {Q : List Value → α → Prop} {B : α → Prop} (ht : P.underlying t = some (.slice e)) (hc : P.cellsOf e = sz) (hb : P.bytesOf e = by_) (h0 : 0 < sz)
    (hE : Opens enc P w sp e fun cs y => Q cs y ∧ B y) : Opens enc P w sp t fun cs (ys : List α) => (∃ v, cs = [v] ∧ SlV (roW w) w sz Q v ys) ∧ (∀ y ∈ ys, B y) ∧ ys.length * by_ ≤ reachBytes := fun fuel cs x h hz => by
  subst hc
  subst hb
  rcases DataW.trod_slice ht h with ⟨rfl, rfl⟩ | ⟨a, len, cap, elems, rest, n, _, rfl, rfl, _, hl, hcm, hlen, hel, _⟩
  · exact ⟨[], ⟨_, rfl, none, 0, rfl, Nat.le_refl _, Nat.zero_le _, fun _ => rfl, fun i x hx => by simp at hx⟩, fun y hy => by simp at hy, by simp⟩
  · have hw : ∀ z, z ∈ ((elems.map (·.1)).length * P.bytesOf e + (rest.map (·.1)).length * P.bytesOf e) :: (DataW.weightsAll P e (elems.map (·.1)) ++ DataW.weightsAll P e (rest.map (·.1))) → z ≤ reachBytes := by
      intro z hm
      apply hz
      simp only [DataW.weights, ht]
      rw [Nat.add_mul]
      exact hm
    have hel' : ∀ i, i < len → ∃ y : α, (∃ cs', cs'.length = P.cellsOf e ∧ (∀ j, j < P.cellsOf e → w.cell? ((a.add (i * P.cellsOf e)).add j) = cs'[j]?) ∧ Q cs' y) ∧ B y := by
      intro i hi
      have h1 := hel i hi
      rw [List.getElem?_eq_getElem (by omega)] at h1
      obtain ⟨cs', h2, h3⟩ := Option.bind_eq_some_iff.1 h1
      obtain ⟨_, h4, h5⟩ := World.cells?_some h2
      obtain ⟨y, hy, hB⟩ := hE n cs' _ h3 fun z hm => hw z (List.mem_cons_of_mem _ (List.mem_append_left _ (mem_weightsAll (List.mem_map.2 ⟨_, List.getElem_mem _, rfl⟩) hm)))
      exact ⟨y, ⟨cs', h4, h5, hy⟩, hB⟩
    have hsp : 0 < len → a.spot = none := fun hpos => by
      obtain ⟨y, ⟨cs', h4, h5, _⟩, _⟩ := hel' 0 hpos
      have h6 := h5 0 h0
      rw [List.getElem?_eq_getElem (by omega)] at h6
      simpa [Addr.add] using World.cell?_spot h6
    obtain ⟨ys, hyl, hy⟩ := list_of _ len hel'
    refine ⟨ys, ⟨_, rfl, some a, cap, by rw [hyl], by omega, hcm, fun e => by simp at e, fun i y hi => ?_⟩, fun y hm => ?_, ?_⟩
    · obtain ⟨⟨cs', h4, h5, hq⟩, _⟩ := hy i y hi
      have h6 := h5 0 h0
      rw [List.getElem?_eq_getElem (by omega)] at h6
      have hlt := cell_lt h6
      obtain ⟨b, off, spot⟩ := a
      have hsp' : spot = none := hsp (by have := (List.getElem?_eq_some_iff.1 hi).1; omega)
      subst hsp'
      rw [addN, addN] at hlt
      refine ⟨b, off, cs', rfl, hlt, h4, fun j v hj => ?_, hq⟩
      have hjl : j < P.cellsOf e := by rw [← h4]; exact (List.getElem?_eq_some_iff.1 hj).1
      have h7 := h5 j hjl
      rw [hj, addN, addN] at h7
      exact h7
    · obtain ⟨i, hi⟩ := List.getElem?_of_mem hm
      exact (hy i y hi).2
    · have := hw _ List.mem_cons_self
      simp only [List.length_map] at this
      rw [hyl, ← hlen]
      omega
/-- The fields of a struct. -/
theorem open_fields {t : TypeId} {fs : Array Field} {fuel : Nat} {cs : List Value} {x : DataW H × List MemPlace} (ht : P.underlying t = some (.struct fs)) (h : DataW.trod enc P w 0 sp true fuel t cs = some x) (hz : ∀ z ∈ x.1.weights P t, z ≤ reachBytes) :
    cs.length = P.cellsOf t ∧ ∀ (i : Nat) (f : Field) (ft off k : Nat) (α : Type) (Q : List Value → α → Prop), fs[i]? = some f → f.type = ft → f.offset = off → P.cellsOf ft = k → Opens enc P w sp ft Q → ∃ y, Q ((cs.drop off).take k) y := by
  obtain ⟨xs, n, _, rfl, hl, hxl, hf⟩ := DataW.trod_struct ht h
  refine ⟨hl, fun i f ft off k α Q hi e1 e2 e3 ho => ?_⟩
  subst e1; subst e2; subst e3
  have h1 := hf i f hi
  have hlt : i < xs.length := by rw [hxl]; exact (Array.getElem?_eq_some_iff.1 hi).1
  rw [List.getElem?_eq_getElem hlt] at h1
  refine ho n _ _ h1 fun z hm => hz z ?_
  simp only [DataW.weights, ht]
  exact mem_weightsEach (i := i) (by simp only [List.getElem?_map, Array.getElem?_toList, hi]; rfl) (by simp [hlt]) hm

/-- From the argument to its cells. -/
theorem open_agg {α : Type} {t : TypeId} {fs : Array Field} {r : Reach} {b0 : Nat} {v : Value} {d : DataW H} {ps : List MemPlace} {Q : List Value → α → Prop} (ht : P.underlying t = some (.struct fs)) (hval : Value.okWide P w r b0 t v)
    (hd : DataW.Trod enc P w 0 sp true t v d ps) (ho : Opens enc P w sp t Q) (hz : ∀ z ∈ d.weights P t, z ≤ reachBytes) : ∃ cs y, v = .agg cs.toArray ∧ Q cs y := by
  unfold Value.okWide at hval
  rw [ht] at hval
  obtain ⟨cs, rfl, _, _⟩ := hval
  obtain ⟨fuel, h⟩ := hd
  obtain ⟨y, hy⟩ := ho fuel _ _ h hz
  exact ⟨cs.toList, y, by simp, by simpa [Value.cells] using hy⟩
end
/-! ### What the sizes are that may be -/
def okInst (x : DInst) : Prop := x.args.length * 8 ≤ reachBytes
def okTerm (x : DTerm) : Prop := x.args.length * 8 ≤ reachBytes ∧ x.elses.length * 8 ≤ reachBytes
def okBlock (x : DBlock) : Prop := (∀ i ∈ x.ins, okInst i) ∧ x.ins.length * 72 ≤ reachBytes ∧ okTerm x.fin
def okFunc (x : DFunc) : Prop := (∀ b ∈ x.blocks, okBlock b) ∧ x.blocks.length * 112 ≤ reachBytes
def okMod (x : DMod) : Prop := (∀ f ∈ x.funcs, okFunc f) ∧ x.funcs.length * 56 ≤ reachBytes ∧ x.globs.length * 40 ≤ reachBytes
end Go.Proofs.Ytdlcmhkfglckfaa
