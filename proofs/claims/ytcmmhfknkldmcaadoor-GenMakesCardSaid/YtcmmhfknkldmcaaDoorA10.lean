/-
  Rows that a call hands over, in the walks of these claims. No condition beyond those that each theorem states.
-/
import Derived.Test.YtcmmhfknkldmcaaDoorA7
import Derived.ProofKit
import Derived.OpenShut
import Derived.JoinedCond
import Derived.Carry
import Derived.ChangeArms
namespace Go.Proofs.YtcmmhfknkldmcaaDoor
open Go.RowKit

theorem chunks_all {α : Type} {sz : Nat} {Q : List Value → α → Prop} {cs : List Value} {xs : List α} {p : Value → Prop} (h : Chunks sz Q cs xs) (h0 : 0 < sz) (hq : ∀ c x, Q c x → ∀ u ∈ c, p u) : ∀ u ∈ cs, p u := by
  intro u hu
  obtain ⟨j, hj⟩ := List.mem_iff_getElem?.1 hu
  have hlt : j < xs.length * sz := by rw [← h.1]; exact (List.getElem?_eq_some_iff.1 hj).1
  have hi : j / sz < xs.length := (Nat.div_lt_iff_lt_mul h0).2 hlt
  refine hq _ _ (h.2 (j / sz) xs[j / sz] (List.getElem?_eq_getElem hi)) u ?_
  apply List.mem_iff_getElem?.2
  refine ⟨j % sz, ?_⟩
  rw [List.getElem?_take_of_lt (Nat.mod_lt _ h0), List.getElem?_drop]
  rw [show j / sz * sz + j % sz = j by rw [Nat.mul_comm]; exact Nat.div_add_mod j sz]
  exact hj
theorem elems_news {α : Type} {ro : Nat → Prop} {w : World} {sz : Nat} {Q : List Value → α → Prop} {ad : Option Addr} {xs : List α} (h : Elems ro w sz Q ad xs) :
    ∃ cs, Chunks sz Q cs xs ∧ (∀ b off, ad = some ⟨b, off, none⟩ → CellsAt w b off cs ∧ (cs ≠ [] → ro b)) ∧ (∀ a, ad = some a → xs.length ≠ 0 → a.spot = none) := by
  cases xs with
  | nil => exact ⟨[], Chunks.nil, fun b off _ => ⟨fun j v hj => by simp at hj, fun h => absurd rfl h⟩, fun a _ h0 => absurd rfl h0⟩
  | cons x r =>
    obtain ⟨b, off, c, e1, e2, _, _, _⟩ := h 0 x (by simp)
    subst e1
    obtain ⟨cs, h1, h2⟩ := elems_cells h
    refine ⟨cs, h2, fun b' off' e => ?_, fun a e _ => ?_⟩
    · cases e; exact ⟨h1, fun _ => e2⟩
    · cases e; rfl
theorem ownsRow_base {w : World} {base base' e sz n : Nat} {v : Value} {xs : List Value} (h : w.ownsRow base e sz v n xs) (hb : base' ≤ base) : w.ownsRow base' e sz v n xs := by
  refine ⟨h.1, ?_⟩
  rcases h.2 with h2 | ⟨g, cap, cur, hv, hg, r⟩
  · exact .inl h2
  · exact .inr ⟨g, cap, cur, hv, Nat.le_trans hb hg, r⟩
section
variable {w0 ws w w' : World} {ro : Nat → Prop} {L : List (Nat × Obj)} {Rs : List Row}
/-- A row that a call has made. -/
theorem St.callRow (h : St w0 ws w ro L Rs) (hb : Below w.heap.size w w') {e sz n : Nat} {v : Value} {xs : List Value} (ho : w'.ownsRow w.heap.size e sz v n xs) : St w0 ws w' ro L (⟨v, e, sz, n, xs⟩ :: Rs) := by
  have g := h.grow hb
  have hnew : ∀ b, v.ownBlock = some b → w.heap.size ≤ b ∧ b < w'.heap.size := fun b hv => ho.lt b hv
  refine ⟨g.below, g.snap, g.own, ?_, ?_, ?_⟩
  · intro r hr
    rcases List.mem_cons.1 hr with e' | hr
    · subst e'; exact ownsRow_base ho h.below.size
    · exact g.rows r hr
  · intro x hx
    simp only [keysOf, List.mem_append, List.mem_filterMap, List.mem_cons] at hx
    rcases hx with hx | ⟨q, hq | hq, he⟩
    · exact g.keys x (by simp only [keysOf, List.mem_append]; exact .inl hx)
    · subst hq
      obtain ⟨h1, h2⟩ := hnew x he
      exact ⟨Nat.le_trans h.below.size h1, h2, fun hr => absurd (h.snap x hr).1 (by omega)⟩
    · exact g.keys x (by simp only [keysOf, List.mem_append, List.mem_filterMap]; exact .inr ⟨q, hq, he⟩)
  · cases hv : v.ownBlock with
    | none => simpa [keysOf, List.filterMap_cons, hv] using g.nodup
    | some b =>
      have hp : List.Perm (keysOf L (⟨v, e, sz, n, xs⟩ :: Rs)) (b :: keysOf L Rs) := by
        simp only [keysOf, List.filterMap_cons, hv]
        exact List.perm_middle
      refine hp.nodup_iff.2 (List.nodup_cons.2 ⟨fun hx => ?_, g.nodup⟩)
      have := (h.keys b hx).2.1
      have := (hnew b hv).1
      omega
end
theorem Elems.keep {α : Type} {ro ro' : Nat → Prop} {w w' : World} {sz : Nat} {Q Q' : List Value → α → Prop} {ad : Option Addr} {xs : List α} (h : Elems ro w sz Q ad xs) (ha : Alike ro w ro' w') (hq : ∀ cs x, Q cs x → Q' cs x) : Elems ro' w' sz Q' ad xs := by
  intro i x hx
  obtain ⟨b, off, cs, e1, e2, e3, e4, e5⟩ := h i x hx
  exact ⟨b, off, cs, e1, (ha b e2).1, e3, e4.keep (ha b e2).2, hq _ _ e5⟩
/-- What is read, from the call's begin to a later world in which more is read. -/
theorem St.alikeTo {w0 ws w w' : World} {ro ro' : Nat → Prop} {L : List (Nat × Obj)} {Rs : List Row} (h : St w0 ws w ro L Rs) (hb : Below w.heap.size w w') (hs : ∀ b, ro b → ro' b) : Alike ro ws ro' w' := fun b hr =>
  ⟨hs b hr, (hb.block b (h.snap b hr).1).trans (h.snap b hr).2⟩
theorem Alike.mono {ro ro' ro'' : Nat → Prop} {w w' : World} (h : Alike ro w ro' w') (hs : ∀ b, ro' b → ro'' b) : Alike ro w ro'' w' := fun b hb => ⟨hs b (h b hb).1, (h b hb).2⟩
theorem Alike.refl {ro : Nat → Prop} {w : World} : Alike ro w ro w := fun _ h => ⟨h, rfl⟩
/-- What is read, and what the call has made since. -/
def roFrom (ro : Nat → Prop) (w w' : World) : Nat → Prop := fun x => ro x ∨ (w.heap.size ≤ x ∧ x < w'.heap.size)
theorem St.readNew {w0 ws w w' : World} {ro : Nat → Prop} {L : List (Nat × Obj)} {Rs : List Row} (h : St w0 ws w ro L Rs) (hb : Below w.heap.size w w') : St w0 w' w' (roFrom ro w w') L Rs :=
  h.read hb (fun b hr => hr.imp id (·.1)) (fun b hr => hr.elim (fun h1 => Nat.lt_of_lt_of_le (h.snap b h1).1 hb.size) (·.2))
theorem row_some {w : World} {base e sz n cap : Nat} {ad : Option Addr} {xs : List Value} (h : w.ownsRow base e sz (.slice ad n cap) n xs) (hn : n ≠ 0) : ∃ g, ad = some ⟨g, 0, none⟩ := by
  rcases h.2 with ⟨_, h0⟩ | ⟨g, cap', cur, hv, _⟩
  · exact absurd h0 hn
  · cases hv; exact ⟨g, rfl⟩
theorem take_next {α : Type} {l : List α} {k : Nat} {x : α} (h : l[k]? = some x) : l.take (k + 1) = l.take k ++ [x] := by
  rw [List.take_add_one, h]; rfl
theorem one_ints {c : List Value} {x : Int} (h : IntC c x) : ∀ u ∈ c, u.oneCell' = true := by rw [h.1]; intro u hu; simp at hu; subst hu; rfl
end Go.Proofs.YtcmmhfknkldmcaaDoor

namespace Go.Proofs.YtcmmhfknkldmcaaDoor
open Go.ChangeShapes Go.WideShapes Go.ChangeAt Go.RowKit

theorem trodAll_below {H : Type} {enc : TypeId × Value → H} {P : Program} (hl : laidOutB P = true) {W W' : World} (hb : Below W.heap.size W W') : ∀ (ts : List TypeId) (vs : List Value) (ds : List (DataW H)) (ps : List MemPlace),
    (∀ t ∈ ts, P.readableRec t = true ∧ t < P.types.size) → DataW.TrodAll enc P W 0 (fun _ => true) true ts vs ds ps → (∀ x ∈ ps, x.block < W.heap.size) → DataW.TrodAll enc P W' 0 (fun b => decide (b < W.heap.size)) true ts vs ds ps
  | [], [], [], ps, _, h, _ => h
  | t :: ts, v :: vs, d :: ds, ps, hr, h, hlt => by
    obtain ⟨p, q, h1, h2, rfl⟩ := h
    obtain ⟨r1, r2⟩ := hr t List.mem_cons_self
    exact ⟨p, q, Below.trod hl r1 r2 h1 hb fun x hx => hlt x (List.mem_append_left _ hx), trodAll_below hl hb ts vs ds q (fun t ht => hr t (List.mem_cons_of_mem _ ht)) h2 fun x hx => hlt x (List.mem_append_right _ hx), rfl⟩
  | [], _ :: _, _, _, _, h, _ => h.elim
  | [], [], _ :: _, _, _, h, _ => h.elim
  | _ :: _, [], _, _, _, h, _ => h.elim
  | _ :: _, _ :: _, [], _, _, h, _ => h.elim
theorem post_true {H : Type} {enc : TypeId × Value → H} {P : Program} {f : Func} {s : ChangeSpec} {W W' : World} {args : Array Value} {ds gs : List (DataW H)} {before : List MemPlace} {bt : TypeId}
    (hW : DataW.Whole enc P f.params.toList s.vars false W args.toList ds gs before) (hb : Below W.heap.size W W') (hrt : f.resultTypes = #[bt]) (hu : P.underlying bt = some .bool) (hvars : s.vars = [])
    (hres : (s.fn H (ds ++ gs)).results = [.lit (.bool true)]) (hargs : (s.fn H (ds ++ gs)).args = ds) (hsv : (s.fn H (ds ++ gs)).vars = []) (hl : laidOutB P = true) (hrd : ∀ t ∈ f.params.toList, P.readableRec t = true ∧ t < P.types.size) :
    s.post enc P f false true false false W args (.bool true) W' := by
  have hlt := hW.lt
  have hW' := hW
  obtain ⟨p, q, hA, hV, rfl, hfz, hnd⟩ := hW
  rw [hvars] at hV
  have hq : q = [] := by
    cases gs with
    | nil => exact hV
    | cons g gs => exact hV.elim
  subst hq
  refine ⟨ds, gs, p ++ [], [], p, [], hW', ?_, ?_, ?_, ?_, fun h => by cases h⟩
  · rw [hres, hrt]
    exact trodAll_cons_mk (shut_bool hu true) trodAll_mk0
  · rw [hargs]
    exact trodAll_below hl hb _ _ _ _ hrd hA fun x hx => hlt x (List.mem_append_left _ hx)
  · rw [hvars, hsv]; rfl
  · exact hb.frame _
end Go.Proofs.YtcmmhfknkldmcaaDoor

namespace Go.Proofs.YtcmmhfknkldmcaaDoor
open Go.ChangeShapes Go.WideShapes Go.ChangeAt Go.RowKit

section
variable {H : Type} {enc : TypeId × Value → H} {P : Program} {w : World} {sp : Nat → Bool}

/-- Whatever reads as a value of type 't', of sizes that may be, stands for something plain. -/
def Opens {α : Type} (enc : TypeId × Value → H) (P : Program) (w : World) (sp : Nat → Bool) (t : TypeId) (Q : List Value → α → Prop) : Prop :=
  ∀ fuel cs x, DataW.trod enc P w 0 sp true fuel t cs = some x → (∀ z ∈ x.1.weights P t, z ≤ reachBytes) → ∃ y, Q cs y
theorem Opens.mono {α : Type} {t : TypeId} {Q Q' : List Value → α → Prop} (h : Opens enc P w sp t Q) (hq : ∀ cs y, Q cs y → Q' cs y) : Opens enc P w sp t Q' := fun fuel cs x h1 h2 => by
  obtain ⟨y, hy⟩ := h fuel cs x h1 h2
  exact ⟨y, hq _ _ hy⟩
theorem opens_i64 {t : TypeId} (ht : P.underlying t = some (.int .i64)) : Opens enc P w sp t IntC := fun fuel cs x h _ => by
  obtain ⟨n, rfl, _, hw⟩ := DataW.trod_int ht h
  exact ⟨n, rfl, by simpa [inI, Lit.wf, IntKind.min, IntKind.max, IntKind.signed, IntKind.bits] using hw⟩
def U64C (cs : List Value) (x : Int) : Prop := cs = [.int .u64 x] ∧ inU x
theorem opens_u64 {t : TypeId} (ht : P.underlying t = some (.int .u64)) : Opens enc P w sp t U64C := fun fuel cs x h _ => by
  obtain ⟨n, rfl, _, hw⟩ := DataW.trod_int ht h
  exact ⟨n, rfl, by simpa [inU, Lit.wf, IntKind.min, IntKind.max, IntKind.signed, IntKind.bits] using hw⟩
theorem opens_bool {t : TypeId} (ht : P.underlying t = some .bool) : Opens enc P w sp t BoolC := fun fuel cs x h _ => by
  obtain ⟨n, rfl, _⟩ := DataW.trod_bool ht h
  exact ⟨n, rfl⟩
theorem opens_str {t : TypeId} (ht : P.underlying t = some .string) : Opens enc P w sp t StrC := fun fuel cs x h _ => by
  obtain ⟨n, rfl, _, hs⟩ := DataW.trod_string ht h
  exact ⟨n, rfl, hs⟩
theorem list_of {α : Type} (R : Nat → α → Prop) : ∀ n, (∀ i, i < n → ∃ y, R i y) → ∃ ys : List α, ys.length = n ∧ ∀ i y, ys[i]? = some y → R i y
  | 0, _ => ⟨[], rfl, fun i y h => by simp at h⟩
  | n + 1, h => by
    obtain ⟨ys, hl, hr⟩ := list_of R n fun i hi => h i (by omega)
    obtain ⟨y, hy⟩ := h n (by omega)
    refine ⟨ys ++ [y], by simp [hl], fun i z hz => ?_⟩
    rw [List.getElem?_append] at hz
    split at hz
    · exact hr i z hz
    · rename_i hge
      have e : i - ys.length = 0 := by
        cases hk : i - ys.length with
        | zero => rfl
        | succ k => rw [hk] at hz; simp at hz
      rw [e] at hz
      simp only [List.getElem?_cons_zero, Option.some.injEq] at hz
      subst hz
      have : i = n := by omega
      subst this
      exact hy
theorem mem_weightsAll {e : TypeId} {z : Nat} : ∀ {ds : List (DataW H)} {d : DataW H}, d ∈ ds → z ∈ d.weights P e → z ∈ DataW.weightsAll P e ds
  | _ :: _, _, hd, hz => by
    unfold DataW.weightsAll
    rcases List.mem_cons.1 hd with rfl | hd
    · exact List.mem_append_left _ hz
    · exact List.mem_append_right _ (mem_weightsAll hd hz)
theorem mem_weightsEach {z : Nat} : ∀ {ts : List TypeId} {ds : List (DataW H)} {i : Nat} {t : TypeId} {d : DataW H}, ts[i]? = some t → ds[i]? = some d → z ∈ d.weights P t → z ∈ DataW.weightsEach P ts ds
  | [], _, _, _, _, h, _, _ => by simp at h
  | _ :: _, [], _, _, _, _, h, _ => by simp at h
  | t' :: ts, d' :: ds, 0, t, d, h1, h2, hz => by
    simp only [List.getElem?_cons_zero, Option.some.injEq] at h1 h2
    subst h1; subst h2
    unfold DataW.weightsEach
    exact List.mem_append_left _ hz
  | t' :: ts, d' :: ds, i + 1, t, d, h1, h2, hz => by
    unfold DataW.weightsEach
    exact List.mem_append_right _ (mem_weightsEach (by simpa using h1) (by simpa using h2) hz)
theorem cell_lt {a : Addr} {v : Value} (h : w.cell? a = some v) : a.block < w.heap.size := by
  apply Classical.byContradiction
  intro hn
  have : w.heap[a.block]? = none := Array.getElem?_eq_none (by omega)
  unfold World.cell? at h
  rw [this] at h
  simp at h
theorem addN (b off k : Nat) : (⟨b, off, none⟩ : Addr).add k = ⟨b, off + k, none⟩ := by
  unfold Addr.add
  split
  · rename_i h; subst h; rfl
  · rfl
/-- What was there when the call began. -/
def roW (w : World) : Nat → Prop := fun b => b < w.heap.size
theorem opens_sl {α : Type} {t e : TypeId} {sz by_ : Nat} {Q : List Value → α → Prop} {B : α → Prop} (ht : P.underlying t = some (.slice e)) (hc : P.cellsOf e = sz) (hb : P.bytesOf e = by_) (h0 : 0 < sz)
    (hE : Opens enc P w sp e fun cs y => Q cs y ∧ B y) : Opens enc P w sp t fun cs (ys : List α) => (∃ v, cs = [v] ∧ SlV (roW w) w sz Q v ys) ∧ (∀ y ∈ ys, B y) ∧ ys.length * by_ ≤ reachBytes := fun fuel cs x h hz => by
  subst hc
  subst hb
  rcases DataW.trod_slice ht h with ⟨rfl, rfl⟩ | ⟨a, len, cap, elems, rest, n, _, rfl, rfl, _, hl, hcm, hlen, hel, _⟩
  · exact ⟨[], ⟨_, rfl, none, 0, rfl, Nat.le_refl _, Nat.zero_le _, fun _ => rfl, fun i x hx => by simp at hx⟩, fun y hy => by simp at hy, by simp⟩
  · have hw : ∀ z, z ∈ ((elems.map (·.1)).length * P.bytesOf e + (rest.map (·.1)).length * P.bytesOf e) :: (DataW.weightsAll P e (elems.map (·.1)) ++ DataW.weightsAll P e (rest.map (·.1))) → z ≤ reachBytes := by
      intro z hm
      apply hz
      simp only [DataW.weights, ht]
      rw [Nat.add_mul]
      exact hm
    have hel' : ∀ i, i < len → ∃ y : α, (∃ cs', cs'.length = P.cellsOf e ∧ (∀ j, j < P.cellsOf e → w.cell? ((a.add (i * P.cellsOf e)).add j) = cs'[j]?) ∧ Q cs' y) ∧ B y := by
      intro i hi
      have h1 := hel i hi
      rw [List.getElem?_eq_getElem (by omega)] at h1
      obtain ⟨cs', h2, h3⟩ := Option.bind_eq_some_iff.1 h1
      obtain ⟨_, h4, h5⟩ := World.cells?_some h2
      obtain ⟨y, hy, hB⟩ := hE n cs' _ h3 fun z hm => hw z (List.mem_cons_of_mem _ (List.mem_append_left _ (mem_weightsAll (List.mem_map.2 ⟨_, List.getElem_mem _, rfl⟩) hm)))
      exact ⟨y, ⟨cs', h4, h5, hy⟩, hB⟩
    have hsp : 0 < len → a.spot = none := fun hpos => by
      obtain ⟨y, ⟨cs', h4, h5, _⟩, _⟩ := hel' 0 hpos
      have h6 := h5 0 h0
      rw [List.getElem?_eq_getElem (by omega)] at h6
      simpa [Addr.add] using World.cell?_spot h6
    obtain ⟨ys, hyl, hy⟩ := list_of _ len hel'
    refine ⟨ys, ⟨_, rfl, some a, cap, by rw [hyl], by omega, hcm, fun e => by simp at e, fun i y hi => ?_⟩, fun y hm => ?_, ?_⟩
    · obtain ⟨⟨cs', h4, h5, hq⟩, _⟩ := hy i y hi
      have h6 := h5 0 h0
      rw [List.getElem?_eq_getElem (by omega)] at h6
      have hlt := cell_lt h6
      obtain ⟨b, off, spot⟩ := a
      have hsp' : spot = none := hsp (by have := (List.getElem?_eq_some_iff.1 hi).1; omega)
      subst hsp'
      rw [addN, addN] at hlt
      refine ⟨b, off, cs', rfl, hlt, h4, fun j v hj => ?_, hq⟩
      have hjl : j < P.cellsOf e := by rw [← h4]; exact (List.getElem?_eq_some_iff.1 hj).1
      have h7 := h5 j hjl
      rw [hj, addN, addN] at h7
      exact h7
    · obtain ⟨i, hi⟩ := List.getElem?_of_mem hm
      exact (hy i y hi).2
    · have := hw _ List.mem_cons_self
      simp only [List.length_map] at this
      rw [hyl, ← hlen]
      omega
/-- The fields of a struct. -/
theorem open_fields {t : TypeId} {fs : Array Field} {fuel : Nat} {cs : List Value} {x : DataW H × List MemPlace} (ht : P.underlying t = some (.struct fs)) (h : DataW.trod enc P w 0 sp true fuel t cs = some x) (hz : ∀ z ∈ x.1.weights P t, z ≤ reachBytes) :
    cs.length = P.cellsOf t ∧ ∀ (i : Nat) (f : Field) (ft off k : Nat) (α : Type) (Q : List Value → α → Prop), fs[i]? = some f → f.type = ft → f.offset = off → P.cellsOf ft = k → Opens enc P w sp ft Q → ∃ y, Q ((cs.drop off).take k) y := by
  obtain ⟨xs, n, _, rfl, hl, hxl, hf⟩ := DataW.trod_struct ht h
  refine ⟨hl, fun i f ft off k α Q hi e1 e2 e3 ho => ?_⟩
  subst e1; subst e2; subst e3
  have h1 := hf i f hi
  have hlt : i < xs.length := by rw [hxl]; exact (Array.getElem?_eq_some_iff.1 hi).1
  rw [List.getElem?_eq_getElem hlt] at h1
  refine ho n _ _ h1 fun z hm => hz z ?_
  simp only [DataW.weights, ht]
  exact mem_weightsEach (i := i) (by simp only [List.getElem?_map, Array.getElem?_toList, hi]; rfl) (by simp [hlt]) hm

/-- From the argument to its cells. -/
theorem open_agg {α : Type} {t : TypeId} {fs : Array Field} {r : Reach} {b0 : Nat} {v : Value} {d : DataW H} {ps : List MemPlace} {Q : List Value → α → Prop} (ht : P.underlying t = some (.struct fs)) (hval : Value.okWide P w r b0 t v)
    (hd : DataW.Trod enc P w 0 sp true t v d ps) (ho : Opens enc P w sp t Q) (hz : ∀ z ∈ d.weights P t, z ≤ reachBytes) : ∃ cs y, v = .agg cs.toArray ∧ Q cs y := by
  unfold Value.okWide at hval
  rw [ht] at hval
  obtain ⟨cs, rfl, _, _⟩ := hval
  obtain ⟨fuel, h⟩ := hd
  obtain ⟨y, hy⟩ := ho fuel _ _ h hz
  exact ⟨cs.toList, y, by simp, by simpa [Value.cells] using hy⟩
end
/-! ### What the sizes are that may be -/
def okInst (x : DInst) : Prop := x.args.length * 8 ≤ reachBytes
def okTerm (x : DTerm) : Prop := x.args.length * 8 ≤ reachBytes ∧ x.elses.length * 8 ≤ reachBytes
def okBlock (x : DBlock) : Prop := (∀ i ∈ x.ins, okInst i) ∧ x.ins.length * 72 ≤ reachBytes ∧ okTerm x.fin
def okFunc (x : DFunc) : Prop := (∀ b ∈ x.blocks, okBlock b) ∧ x.blocks.length * 112 ≤ reachBytes
def okMod (x : DMod) : Prop := (∀ f ∈ x.funcs, okFunc f) ∧ x.funcs.length * 56 ≤ reachBytes ∧ x.globs.length * 40 ≤ reachBytes
end Go.Proofs.YtcmmhfknkldmcaaDoor
