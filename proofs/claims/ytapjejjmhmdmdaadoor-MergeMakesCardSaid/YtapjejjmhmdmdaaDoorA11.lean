/-
  An argument opened: from its reading as data to what a walk knows of it. No condition beyond those that each theorem states.
-/
import Derived.Test.YtapjejjmhmdmdaaDoorA9
import Derived.ChangeArms
namespace Go.Proofs.YtapjejjmhmdmdaaDoor
open Go.ChangeShapes Go.WideShapes Go.ChangeAt Go.RowKit

section
variable {H : Type} {enc : TypeId × Value → H} {P : Program} {w : World} {sp : Nat → Bool}

/-- Whatever reads as a value of type 't', of sizes that may be, stands for something plain. -/
def Opens {α : Type} (enc : TypeId × Value → H) (P : Program) (w : World) (sp : Nat → Bool) (t : TypeId) (Q : List Value → α → Prop) : Prop :=
  ∀ fuel cs x, DataW.trod enc P w 0 sp true fuel t cs = some x → (∀ z ∈ x.1.weights P t, z ≤ reachBytes) → ∃ y, Q cs y
theorem Opens.mono {α : Type} {t : TypeId} {Q Q' : List Value → α → Prop} (h : Opens enc P w sp t Q) (hq : ∀ cs y, Q cs y → Q' cs y) : Opens enc P w sp t Q' := fun fuel cs x h1 h2 => by
  obtain ⟨y, hy⟩ := h fuel cs x h1 h2
  exact ⟨y, hq _ _ hy⟩
theorem opens_i64 {t : TypeId} (ht : P.underlying t = some (.int .i64)) : Opens enc P w sp t IntC := fun fuel cs x h _ => by
  obtain ⟨n, rfl, _, hw⟩ := DataW.trod_int ht h
  exact ⟨n, rfl, by simpa [inI, Lit.wf, IntKind.min, IntKind.max, IntKind.signed, IntKind.bits] using hw⟩
def U64C (cs : List Value) (x : Int) : Prop := cs = [.int .u64 x] ∧ inU x
theorem opens_u64 {t : TypeId} (ht : P.underlying t = some (.int .u64)) : Opens enc P w sp t U64C := fun fuel cs x h _ => by
  obtain ⟨n, rfl, _, hw⟩ := DataW.trod_int ht h
  exact ⟨n, rfl, by simpa [inU, Lit.wf, IntKind.min, IntKind.max, IntKind.signed, IntKind.bits] using hw⟩
theorem opens_bool {t : TypeId} (ht : P.underlying t = some .bool) : Opens enc P w sp t BoolC := fun fuel cs x h _ => by
  obtain ⟨n, rfl, _⟩ := DataW.trod_bool ht h
  exact ⟨n, rfl⟩
theorem opens_str {t : TypeId} (ht : P.underlying t = some .string) : Opens enc P w sp t StrC := fun fuel cs x h _ => by
  obtain ⟨n, rfl, _, hs⟩ := DataW.trod_string ht h
  exact ⟨n, rfl, hs⟩
theorem list_of {α : Type} (R : Nat → α → Prop) : ∀ n, (∀ i, i < n → ∃ y, R i y) → ∃ ys : List α, ys.length = n ∧ ∀ i y, ys[i]? = some y → R i y
  | 0, _ => ⟨[], rfl, fun i y h => by simp at h⟩
  | n + 1, h => by
    obtain ⟨ys, hl, hr⟩ := list_of R n fun i hi => h i (by omega)
    obtain ⟨y, hy⟩ := h n (by omega)
    refine ⟨ys ++ [y], by simp [hl], fun i z hz => ?_⟩
    rw [List.getElem?_append] at hz
    split at hz
    · exact hr i z hz
    · rename_i hge
      have e : i - ys.length = 0 := by
        cases hk : i - ys.length with
        | zero => rfl
        | succ k => rw [hk] at hz; simp at hz
      rw [e] at hz
      simp only [List.getElem?_cons_zero, Option.some.injEq] at hz
      subst hz
      have : i = n := by omega
      subst this
      exact hy
theorem mem_weightsAll {e : TypeId} {z : Nat} : ∀ {ds : List (DataW H)} {d : DataW H}, d ∈ ds → z ∈ d.weights P e → z ∈ DataW.weightsAll P e ds
  | _ :: _, _, hd, hz => by
    unfold DataW.weightsAll
    rcases List.mem_cons.1 hd with rfl | hd
    · exact List.mem_append_left _ hz
    · exact List.mem_append_right _ (mem_weightsAll hd hz)
theorem mem_weightsEach {z : Nat} : ∀ {ts : List TypeId} {ds : List (DataW H)} {i : Nat} {t : TypeId} {d : DataW H}, ts[i]? = some t → ds[i]? = some d → z ∈ d.weights P t → z ∈ DataW.weightsEach P ts ds
  | [], _, _, _, _, h, _, _ => by simp at h
  | _ :: _, [], _, _, _, _, h, _ => by simp at h
  | t' :: ts, d' :: ds, 0, t, d, h1, h2, hz => by
    simp only [List.getElem?_cons_zero, Option.some.injEq] at h1 h2
    subst h1; subst h2
    unfold DataW.weightsEach
    exact List.mem_append_left _ hz
  | t' :: ts, d' :: ds, i + 1, t, d, h1, h2, hz => by
    unfold DataW.weightsEach
    exact List.mem_append_right _ (mem_weightsEach (by simpa using h1) (by simpa using h2) hz)
theorem cell_lt {a : Addr} {v : Value} (h : w.cell? a = some v) : a.block < w.heap.size := by
  apply Classical.byContradiction
  intro hn
  have : w.heap[a.block]? = none := Array.getElem?_eq_none (by omega)
  unfold World.cell? at h
  rw [this] at h
  simp at h
theorem addN (b off k : Nat) : (⟨b, off, none⟩ : Addr).add k = ⟨b, off + k, none⟩ := by
  unfold Addr.add
  split
  · rename_i h; subst h; rfl
  · rfl
/-- What was there when the call began. -/
def roW (w : World) : Nat → Prop := fun b => b < w.heap.size
theorem opens_sl {α : Type} {t e : TypeId} {sz by_ : Nat} {Q : List Value → α → Prop} {B : α → Prop} (ht : P.underlying t = some (.slice e)) (hc : P.cellsOf e = sz) (hb : P.bytesOf e = by_) (h0 : 0 < sz)
    (hE : Opens enc P w sp e fun cs y => Q cs y ∧ B y) : Opens enc P w sp t fun cs (ys : List α) => (∃ v, cs = [v] ∧ SlV (roW w) w sz Q v ys) ∧ (∀ y ∈ ys, B y) ∧ ys.length * by_ ≤ reachBytes := fun fuel cs x h hz => by
  subst hc
  subst hb
  rcases DataW.trod_slice ht h with ⟨rfl, rfl⟩ | ⟨a, len, cap, elems, rest, n, _, rfl, rfl, _, hl, hcm, hlen, hel, _⟩
  · exact ⟨[], ⟨_, rfl, none, 0, rfl, Nat.le_refl _, Nat.zero_le _, fun _ => rfl, fun i x hx => by simp at hx⟩, fun y hy => by simp at hy, by simp⟩
  · have hw : ∀ z, z ∈ ((elems.map (·.1)).length * P.bytesOf e + (rest.map (·.1)).length * P.bytesOf e) :: (DataW.weightsAll P e (elems.map (·.1)) ++ DataW.weightsAll P e (rest.map (·.1))) → z ≤ reachBytes := by
      intro z hm
      apply hz
      simp only [DataW.weights, ht]
      rw [Nat.add_mul]
      exact hm
    have hel' : ∀ i, i < len → ∃ y : α, (∃ cs', cs'.length = P.cellsOf e ∧ (∀ j, j < P.cellsOf e → w.cell? ((a.add (i * P.cellsOf e)).add j) = cs'[j]?) ∧ Q cs' y) ∧ B y := by
      intro i hi
      have h1 := hel i hi
      rw [List.getElem?_eq_getElem (by omega)] at h1
      obtain ⟨cs', h2, h3⟩ := Option.bind_eq_some_iff.1 h1
      obtain ⟨_, h4, h5⟩ := World.cells?_some h2
      obtain ⟨y, hy, hB⟩ := hE n cs' _ h3 fun z hm => hw z (List.mem_cons_of_mem _ (List.mem_append_left _ (mem_weightsAll (List.mem_map.2 ⟨_, List.getElem_mem _, rfl⟩) hm)))
      exact ⟨y, ⟨cs', h4, h5, hy⟩, hB⟩
    have hsp : 0 < len → a.spot = none := fun hpos => by
      obtain ⟨y, ⟨cs', h4, h5, _⟩, _⟩ := hel' 0 hpos
      have h6 := h5 0 h0
      rw [List.getElem?_eq_getElem (by omega)] at h6
      simpa [Addr.add] using World.cell?_spot h6
    obtain ⟨ys, hyl, hy⟩ := list_of _ len hel'
    refine ⟨ys, ⟨_, rfl, some a, cap, by rw [hyl], by omega, hcm, fun e => by simp at e, fun i y hi => ?_⟩, fun y hm => ?_, ?_⟩
    · obtain ⟨⟨cs', h4, h5, hq⟩, _⟩ := hy i y hi
      have h6 := h5 0 h0
      rw [List.getElem?_eq_getElem (by omega)] at h6
      have hlt := cell_lt h6
      obtain ⟨b, off, spot⟩ := a
      have hsp' : spot = none := hsp (by have := (List.getElem?_eq_some_iff.1 hi).1; omega)
      subst hsp'
      rw [addN, addN] at hlt
      refine ⟨b, off, cs', rfl, hlt, h4, fun j v hj => ?_, hq⟩
      have hjl : j < P.cellsOf e := by rw [← h4]; exact (List.getElem?_eq_some_iff.1 hj).1
      have h7 := h5 j hjl
      rw [hj, addN, addN] at h7
      exact h7
    · obtain ⟨i, hi⟩ := List.getElem?_of_mem hm
      exact (hy i y hi).2
    · have := hw _ List.mem_cons_self
      simp only [List.length_map] at this
      rw [hyl, ← hlen]
      omega
/-- The fields of a struct. -/
theorem open_fields {t : TypeId} {fs : Array Field} {fuel : Nat} {cs : List Value} {x : DataW H × List MemPlace} (ht : P.underlying t = some (.struct fs)) (h : DataW.trod enc P w 0 sp true fuel t cs = some x) (hz : ∀ z ∈ x.1.weights P t, z ≤ reachBytes) :
    cs.length = P.cellsOf t ∧ ∀ (i : Nat) (f : Field) (ft off k : Nat) (α : Type) (Q : List Value → α → Prop), fs[i]? = some f → f.type = ft → f.offset = off → P.cellsOf ft = k → Opens enc P w sp ft Q → ∃ y, Q ((cs.drop off).take k) y := by
  obtain ⟨xs, n, _, rfl, hl, hxl, hf⟩ := DataW.trod_struct ht h
  refine ⟨hl, fun i f ft off k α Q hi e1 e2 e3 ho => ?_⟩
  subst e1; subst e2; subst e3
  have h1 := hf i f hi
  have hlt : i < xs.length := by rw [hxl]; exact (Array.getElem?_eq_some_iff.1 hi).1
  rw [List.getElem?_eq_getElem hlt] at h1
  refine ho n _ _ h1 fun z hm => hz z ?_
  simp only [DataW.weights, ht]
  exact mem_weightsEach (i := i) (by simp only [List.getElem?_map, Array.getElem?_toList, hi]; rfl) (by simp [hlt]) hm

end
/-! ### What the sizes are that may be -/
def okInst (x : DInst) : Prop := x.args.length * 8 ≤ reachBytes
def okTerm (x : DTerm) : Prop := x.args.length * 8 ≤ reachBytes ∧ x.elses.length * 8 ≤ reachBytes
def okBlock (x : DBlock) : Prop := (∀ i ∈ x.ins, okInst i) ∧ x.ins.length * 72 ≤ reachBytes ∧ okTerm x.fin
def okFunc (x : DFunc) : Prop := (∀ b ∈ x.blocks, okBlock b) ∧ x.blocks.length * 112 ≤ reachBytes
def okMod (x : DMod) : Prop := (∀ f ∈ x.funcs, okFunc f) ∧ x.funcs.length * 56 ≤ reachBytes ∧ x.globs.length * 40 ≤ reachBytes
end Go.Proofs.YtapjejjmhmdmdaaDoor

namespace Go.Proofs.YtapjejjmhmdmdaaDoor
open Go.RowKit

theorem quietP_run {P : Program} {n : Nat} {ops : Array Oper} {o : Oper} {σ : Env} {Q : Exit → Act → World → Prop} {i d : Nat} {Φ : Value → World → Prop} {w : World} (hi : ops[i]? = some o) (hdst : o.dst = some d) (hlt : d < n)
    (h : WL P n NoR ops [o] (.cut (CI n (fun v : Value => putS o.dst v []) (fun v w' => Below w.heap.size w w' ∧ Φ v w')) .fin) σ w) {a : Act} (hk : Known n a σ) {K : Act → World → Prop}
    (hK : ∀ w' u, Below w.heap.size w w' → Φ u w' → K (a.put o.dst u) w') : wpOp P ops Q i K a w := by
  have h1 := h.out a hk
  have dstEq : ∀ u w', (Kt.cut (CI n (fun v : Value => putS o.dst v []) (fun v w' => Below w.heap.size w w' ∧ Φ v w')) .fin).post P NoR .normal (a.put o.dst u) w' → Below w.heap.size w w' ∧ Φ u w' := by
    rintro u w' ⟨v, hk', hb, hp⟩
    refine ⟨hb, ?_⟩
    have := hk'.at_ d v (by rw [hdst]; simp [putS, look])
    have hlt' : d < a.tmps.size := by rw [hk.size]; exact hlt
    rw [hdst] at this
    have e : u = v := by simpa [Act.put, Array.getD, hlt'] using this
    rw [e]; exact hp
  unfold wpList at h1
  unfold wpOp
  simp only [hi]
  by_cases hw' : Region.wanted o (yielded ops a.tmps) = true
  · rw [if_pos hw'] at h1 ⊢
    rcases h1 with h1 | ⟨_, a', w', h2⟩
    · left
      unfold Oper.wp at *
      generalize (execOp a.eval o).run P w = r at *
      cases r with
      | ok nx w1 =>
        cases nx <;> simp only [Oper.upon] at h1 ⊢ <;> try (exact h1.elim)
        case value u => obtain ⟨hb, he⟩ := dstEq u w1 h1; exact hK _ _ hb he
        case skip => obtain ⟨hb, he⟩ := dstEq undef w1 h1; exact hK _ _ hb he
        case enter f args =>
          refine Calls.mono h1 fun e w2 h3 => ?_
          cases e with
          | returned u => obtain ⟨hb, he⟩ := dstEq u w2 h3; exact hK _ _ hb he
          | panicked c => exact h3.elim
          | outgrown => obtain ⟨a', w', h4⟩ := h3; exact h4.elim
        case row r args =>
          refine Rows.mono h1 fun u w2 h3 => ?_
          obtain ⟨hb, he⟩ := dstEq u w2 h3; exact hK _ _ hb he
        case defer dd =>
          obtain ⟨_, hk', _⟩ := h1
          have h5 := hk'.defers
          have h6 : ∀ dst : Option Nat, ({ tmps := a.tmps, defers := dd :: a.defers } : Act).put dst undef = { tmps := (({ tmps := a.tmps, defers := dd :: a.defers } : Act).put dst undef).tmps, defers := dd :: a.defers } := fun dst => by cases dst <;> rfl
          rw [h6] at h5
          cases h5
      | halt x w1 =>
        cases x <;> simp only [Oper.upon] at h1 ⊢ <;> exact h1.elim
    · exact h2.elim
  · rw [if_neg hw'] at h1 ⊢
    obtain ⟨hb, he⟩ := dstEq undef w h1
    exact hK _ _ hb he

def PEnv (β : Nat → Value) (ops : Array Oper) : List Nat → Env
  | [] => []
  | i :: r => match (ops[i]?).bind (·.dst) with
    | some d => (d, β i) :: PEnv β ops r
    | none => PEnv β ops r
theorem look_PEnv (β : Nat → Value) (ops : Array Oper) : ∀ (is : List Nat) (t : Nat) (v : Value), look (PEnv β ops is) t = some v → ∃ i ∈ is, (ops[i]?).bind (·.dst) = some t ∧ v = β i
  | [], _, _, hv => by cases hv
  | i :: r, t, v, hv => by
    have rec_ : look (PEnv β ops r) t = some v → ∃ i' ∈ i :: r, (ops[i']?).bind (·.dst) = some t ∧ v = β i' := fun h => by
      obtain ⟨i', hi', rest⟩ := look_PEnv β ops r t v h
      exact ⟨i', List.mem_cons_of_mem _ hi', rest⟩
    simp only [PEnv] at hv
    cases hd : (ops[i]?).bind (·.dst) with
    | none => rw [hd] at hv; exact rec_ hv
    | some d =>
      rw [hd] at hv
      simp only [look] at hv
      cases hc : Nat.beq d t with
      | true =>
        rw [hc] at hv
        have e : d = t := Nat.eq_of_beq_eq_true hc
        subst e
        exact ⟨i, List.mem_cons_self, hd, (Option.some.inj hv).symm⟩
      | false => rw [hc] at hv; exact rec_ hv
def valAt (ops : Array Oper) (a : Act) (i : Nat) : Value := match (ops[i]?).bind (·.dst) with
  | some d => a.tmps.getD d undef
  | none => undef
theorem known_PEnv {n : Nat} {σ : Env} {ops : Array Oper} {a : Act} {is : List Nat} (hk : Known n a σ) : Known n a (PEnv (valAt ops a) ops is ++ σ) := by
  refine ⟨hk.size, hk.defers, fun t v hv => ?_⟩
  rcases look_append _ _ t v hv with h2 | h2
  · obtain ⟨i, _, hd, e⟩ := look_PEnv _ ops is t v h2
    rw [e, valAt, hd]
  · exact hk.at_ t v h2
/-- What is known of the values of some operations. -/
def DepsP (Φs : List (Value → World → Prop)) (β : Nat → Value) (w : World) : List Nat → Prop
  | [] => True
  | i :: r => (match Φs[i]? with | some Φ => Φ (β i) w | none => True) ∧ DepsP Φs β w r
theorem DepsP.of {Φs : List (Value → World → Prop)} {β : Nat → Value} {w : World} : ∀ {is : List Nat}, (∀ i ∈ is, ∀ Φ, Φs[i]? = some Φ → Φ (β i) w) → DepsP Φs β w is
  | [], _ => trivial
  | i :: r, h => ⟨by
      cases e : Φs[i]? with
      | none => trivial
      | some Φ => exact h i List.mem_cons_self Φ e, DepsP.of fun j hj => h j (List.mem_cons_of_mem _ hj)⟩
/-- The head's operations one by one. -/
def AllP (P : Program) (n : Nat) (ops : Array Oper) (Φs0 : List (Value → World → Prop)) (σ : Env) (w1 : World) : Nat → List (Value → World → Prop) → List Oper → Prop
  | i, Φ :: F, o :: l => (∀ β w, Below w1.heap.size w1 w → DepsP Φs0 β w (depsOf ops i) → WL P n NoR ops [o] (.cut (CI n (fun v : Value => putS o.dst v []) (fun v w' => Below w.heap.size w w' ∧ Φ v w')) .fin) (PEnv β ops (depsOf ops i) ++ σ) w) ∧ AllP P n ops Φs0 σ w1 (i + 1) F l
  | _, [], _ => True
  | _, _ :: _, [] => False
theorem AllP.at {P : Program} {n : Nat} {ops : Array Oper} {F0 : List (Value → World → Prop)} {σ : Env} {w1 : World} : ∀ (F : List (Value → World → Prop)) (l : List Oper) (m : Nat), AllP P n ops F0 σ w1 m F l → ∀ (i : Nat) (Φ : Value → World → Prop) (o : Oper), F[i]? = some Φ → l[i]? = some o →
    ∀ β w, Below w1.heap.size w1 w → DepsP F0 β w (depsOf ops (m + i)) → WL P n NoR ops [o] (.cut (CI n (fun v : Value => putS o.dst v []) (fun v w' => Below w.heap.size w w' ∧ Φ v w')) .fin) (PEnv β ops (depsOf ops (m + i)) ++ σ) w
  | [], _, _, _, i, v, o, hi, _ => by simp at hi
  | _ :: _, [], _, _, i, v, o, _, ho => by simp at ho
  | x :: F, o' :: l, m, h, 0, v, o, hi, ho => by
    simp only [List.getElem?_cons_zero, Option.some.injEq] at hi ho
    subst hi; subst ho
    exact h.1
  | x :: F, o' :: l, m, h, i + 1, v, o, hi, ho => by
    rw [show m + (i + 1) = m + 1 + i by omega]
    exact AllP.at F l (m + 1) h.2 i v o (by simpa using hi) (by simpa using ho)
/-- What has come to be known of a value goes on in every later world. -/
def Stays (Φ : Value → World → Prop) : Prop := ∀ v w w', Φ v w → Below w.heap.size w w' → Φ v w'
def AllStay : List (Value → World → Prop) → Prop
  | [] => True
  | Φ :: r => Stays Φ ∧ AllStay r
theorem AllStay.at : ∀ {F : List (Value → World → Prop)}, AllStay F → ∀ (i : Nat) Φ, F[i]? = some Φ → Stays Φ
  | x :: F, h, 0, Φ, hi => by
    simp only [List.getElem?_cons_zero, Option.some.injEq] at hi
    subst hi; exact h.1
  | x :: F, h, i + 1, Φ, hi => AllStay.at h.2 i Φ (by simpa using hi)
theorem stays_eq {c : Value} : Stays fun v _ => v = c := fun _ _ _ h _ => h

/-- Cells that lie in one block of the call's own, in chunks: a slice over it. -/
theorem slv_blk {α : Type} {ro : Nat → Prop} {w : World} {b e sz n : Nat} {c : Array Value} {Q : List Value → α → Prop} {cs : List Value} {xs : List α} (hb : w.heap[b]? = some (.cells c e (0, 0))) (hc : c.toList.take cs.length = cs) (h : Chunks sz Q cs xs) (hr : ro b) (hn : n = xs.length) (hm : xs.length ≤ maxLen) :
    SlV ro w sz Q (.slice (some ⟨b, 0, none⟩) n n) xs := by subst hn; exact ⟨_, _, rfl, Nat.le_refl _, hm, (fun e => by cases e), elems_block hb hc h hr⟩
theorem slv_nil {α : Type} {ro : Nat → Prop} {w : World} {sz : Nat} {Q : List Value → α → Prop} : SlV ro w sz Q (.slice none 0 0) ([] : List α) := ⟨none, 0, rfl, Nat.le_refl _, Nat.zero_le _, fun _ => rfl, fun i x hx => by simp at hx⟩
theorem chunks_ints : ∀ {l : List Int}, (∀ x ∈ l, inI x) → Chunks 1 IntC (l.map fun x => .int .i64 x) l := fun {l} h => by
  have := Chunks.flat (sz := 1) (Q := IntC) (f := fun x : Int => [Value.int .i64 x]) (fun _ => rfl) l (fun x hx => ⟨rfl, h x hx⟩)
  rwa [show (l.map fun x : Int => [Value.int .i64 x]).flatten = l.map fun x => Value.int .i64 x by clear this h; induction l with | nil => rfl | cons a r ih => simp_all] at this
end Go.Proofs.YtapjejjmhmdmdaaDoor
