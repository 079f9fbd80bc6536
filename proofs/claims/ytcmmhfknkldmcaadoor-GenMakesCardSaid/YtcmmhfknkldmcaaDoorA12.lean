/-
  Maps that the call makes itself, in the walks of these claims: made, stored into, asked, asked with 'ok', taken from. No condition beyond those that each theorem states.
-/
import Derived.Test.YtcmmhfknkldmcaaDoorA11
import Derived.MapKept
namespace Go.Proofs.YtcmmhfknkldmcaaDoor
open Go.RowKit Go.MapKept

/-- What a map's entries say: of each key that is there, its value; at most n of them. -/
structure MapG {κ ν : Type} (kv : κ → Value) (vv : ν → Value) (es : Array MapEntry) (clock n : Nat) (g : κ → Option ν) : Prop where
  stamped : Stamped es clock
  size : es.size ≤ n
  key : ∀ x ∈ es.toList, ∃ k v, x.key = kv k ∧ x.val = vv v ∧ g k = some v
  has : ∀ k v, g k = some v → ∃ x ∈ es.toList, x.key = kv k ∧ x.val = vv v
structure KeyE {κ : Type} (d : TypeDesc) (kv : κ → Value) : Prop where
  key : ∀ k, IsKey d (kv k)
  inj : ∀ a b, kv a = kv b → a = b
def kI (x : Int) : Value := .int .i64 x
theorem keyE_int : KeyE (.int .i64) kI := ⟨fun _ => rfl, fun a b h => by simpa [kI] using h⟩
def updG {κ ν : Type} [DecidableEq κ] (g : κ → Option ν) (k : κ) (v : ν) : κ → Option ν := fun x => if x = k then some v else g x
def delG {κ ν : Type} [DecidableEq κ] (g : κ → Option ν) (k : κ) : κ → Option ν := fun x => if x = k then none else g x
section
variable {κ ν : Type} {kv : κ → Value} {vv : ν → Value} {es : Array MapEntry} {clock n : Nat} {g : κ → Option ν} {d : TypeDesc}
theorem MapG.empty : MapG kv vv #[] 0 0 (fun _ => none) := ⟨stamped_empty 0, Nat.le_refl _, by simp, by simp⟩
theorem MapG.isKey (h : MapG kv vv es clock n g) (he : KeyE d kv) : ∀ x ∈ es.toList, IsKey d x.key := fun x hx => by
  obtain ⟨k, _, e, _⟩ := h.key x hx; rw [e]; exact he.key k
theorem MapG.mono (h : MapG kv vv es clock n g) {n' : Nat} (hn : n ≤ n') : MapG kv vv es clock n' g := ⟨h.stamped, Nat.le_trans h.size hn, h.key, h.has⟩
/-- Which entry a key finds. -/
theorem MapG.find (h : MapG kv vv es clock n g) (he : KeyE d kv) (k : κ) :
    (g k = none ∧ Instr.findNow d (kv k) es.toList 0 = some none ∧ ∀ x ∈ es.toList, x.key ≠ kv k) ∨
    ∃ j e v, g k = some v ∧ Instr.findNow d (kv k) es.toList 0 = some (some (j, vv v)) ∧ es.toList[j]? = some e ∧ e.key = kv k := by
  rcases findNow_spec (he.key k) es.toList 0 (h.isKey he) with ⟨h1, h2⟩ | ⟨j, e, h1, h2, h3⟩
  · left
    refine ⟨?_, h1, h2⟩
    cases hg : g k with
    | none => rfl
    | some v => obtain ⟨x, hx, e, _⟩ := h.has k v hg; exact absurd e (h2 x hx)
  · right
    obtain ⟨k', v, e1, e2, e3⟩ := h.key e (List.mem_of_getElem? h2)
    have : k' = k := he.inj _ _ (by rw [← e1, h3])
    subst this
    exact ⟨j, e, v, e3, by rw [h1, e2, Nat.zero_add], h2, h3⟩
theorem MapG.same (h : MapG kv vv es clock n g) {x y : MapEntry} (hx : x ∈ es.toList) (hy : y ∈ es.toList) (e : x.key = y.key) : x = y := by
  have h3 := h.stamped.2.2
  obtain ⟨i, hi⟩ := List.mem_iff_getElem?.1 hx
  obtain ⟨j, hj⟩ := List.mem_iff_getElem?.1 hy
  have h1 : (es.toList.map (·.key))[i]? = some x.key := by simp only [List.getElem?_map, hi, Option.map_some]
  have h2 : (es.toList.map (·.key))[j]? = some x.key := by simp only [List.getElem?_map, hj, Option.map_some, e]
  have hlt : i < (es.toList.map (·.key)).length := (List.getElem?_eq_some_iff.1 h1).1
  have := (List.getElem?_inj hlt h3).1 (h1.trans h2.symm)
  subst this
  rw [hi] at hj
  exact Option.some.inj hj
variable {P : Program} {w : World} {mty kt et : TypeId} {b : Nat}
theorem MapG.run_get (h : MapG kv vv es clock n g) (he : KeyE d kv) (hm : P.underlying mty = some (.map kt et)) (hd : P.underlying kt = some d) (hb : w.heap[b]? = some (.map es clock)) {z : Value} (hz : (zeroValue et).run P w = .ok z w) (k : κ) (c : Bool) :
    (Instr.lookup mty (.map (some b)) (kv k) c).run P w = .ok (if c then .tuple #[(g k).elim z vv, .bool (g k).isSome] else (g k).elim z vv) w := by
  rcases h.find he k with ⟨h1, h2, h3⟩ | ⟨j, e, u, h1, h2, h3, h4⟩
  · simp [Instr.lookup, run_underlying hm, MapKept.run_getObj_map hb, run_checkKey hd (he.key k), run_findKey hd h2, hz, h1, Result.andThen]
  · simp [Instr.lookup, run_underlying hm, MapKept.run_getObj_map hb, run_checkKey hd (he.key k), run_findKey hd h2, h1, Result.andThen]
variable [DecidableEq κ]
theorem MapG.push (h : MapG kv vv es clock n g) (he : KeyE d kv) (k : κ) (v : ν) (hk : ∀ x ∈ es.toList, x.key ≠ kv k) : MapG kv vv (es.push { key := kv k, val := vv v, born := clock }) (clock + 1) (n + 1) (updG g k v) := by
  refine ⟨stamped_push h.stamped hk, by simpa using h.size, ?_, ?_⟩
  · intro x hx
    simp only [Array.toList_push, List.mem_append, List.mem_singleton] at hx
    rcases hx with hx | rfl
    · obtain ⟨k', v', e1, e2, e3⟩ := h.key x hx
      refine ⟨k', v', e1, e2, ?_⟩
      have : k' ≠ k := fun e => hk x hx (by rw [e1, e])
      simp [updG, this, e3]
    · exact ⟨k, v, rfl, rfl, by simp [updG]⟩
  · intro k' v' hg
    simp only [updG] at hg
    simp only [Array.toList_push, List.mem_append, List.mem_singleton]
    split at hg
    · rename_i e
      cases hg
      exact ⟨_, .inr rfl, by rw [e], rfl⟩
    · obtain ⟨x, hx, r⟩ := h.has k' v' hg
      exact ⟨x, .inl hx, r⟩
theorem mem_modify {α : Type} {es : Array α} {j : Nat} {f : α → α} {x : α} (hx : x ∈ (es.modify j f).toList) : ∃ i y, es.toList[i]? = some y ∧ x = if i = j then f y else y := by
  obtain ⟨i, hi⟩ := List.mem_iff_getElem?.1 hx
  have hi' : (es.modify j f)[i]? = some x := by rw [← Array.getElem?_toList]; exact hi
  rw [Array.getElem?_modify] at hi'
  by_cases e : j = i
  · rw [if_pos e] at hi'
    simp only [Option.map_eq_some_iff] at hi'
    obtain ⟨y, hy, r⟩ := hi'
    exact ⟨i, y, by simpa using hy, by rw [if_pos e.symm, r]⟩
  · rw [if_neg e] at hi'
    exact ⟨i, x, by simpa using hi', by rw [if_neg (fun h => e h.symm)]⟩
theorem modify_mem {α : Type} {es : Array α} {j : Nat} {f : α → α} {i : Nat} {y : α} (hy : es.toList[i]? = some y) : (if i = j then f y else y) ∈ (es.modify j f).toList := by
  apply List.mem_iff_getElem?.2
  refine ⟨i, ?_⟩
  have : (es.modify j f)[i]? = some (if i = j then f y else y) := by
    rw [Array.getElem?_modify]
    have hy' : es[i]? = some y := by simpa using hy
    by_cases e : j = i
    · rw [if_pos e, if_pos e.symm, hy']; rfl
    · rw [if_neg e, if_neg (fun h => e h.symm), hy']
  rw [← Array.getElem?_toList] at this; exact this
theorem MapG.modify (h : MapG kv vv es clock n g) (he : KeyE d kv) (k : κ) (v : ν) {j : Nat} {e : MapEntry} (hj : es.toList[j]? = some e) (hk : e.key = kv k) :
    MapG kv vv (es.modify j fun e => { e with key := kv k, val := vv v }) clock n (updG g k v) := by
  have hj' : es[j]? = some e := by simpa using hj
  refine ⟨stamped_modify h.stamped _ _ (fun _ _ => rfl) (fun e' _ he' => by rw [hj'] at he'; cases he'; exact hk.symm), by simpa using h.size, ?_, ?_⟩
  · intro x hx
    obtain ⟨i, y, hy, rfl⟩ := mem_modify hx
    by_cases hij : i = j
    · rw [if_pos hij]; exact ⟨k, v, rfl, rfl, by simp [updG]⟩
    · rw [if_neg hij]
      obtain ⟨k', v', e1, e2, e3⟩ := h.key y (List.mem_of_getElem? hy)
      refine ⟨k', v', e1, e2, ?_⟩
      have : k' ≠ k := fun q => by
        have h3 : y = e := h.same (List.mem_of_getElem? hy) (List.mem_of_getElem? hj) (by rw [e1, q, hk])
        subst h3
        have h4 := h.stamped.2.2
        have h1 : (es.toList.map (·.key))[i]? = some y.key := by simp only [List.getElem?_map, hy, Option.map_some]
        have h2 : (es.toList.map (·.key))[j]? = some y.key := by simp only [List.getElem?_map, hj, Option.map_some]
        exact hij ((List.getElem?_inj (List.getElem?_eq_some_iff.1 h1).1 h4).1 (h1.trans h2.symm))
      simp [updG, this, e3]
  · intro k' v' hg
    simp only [updG] at hg
    split at hg
    · rename_i q
      cases hg
      have := modify_mem (j := j) (f := fun e : MapEntry => { e with key := kv k, val := vv v }) hj
      rw [if_pos rfl] at this
      exact ⟨_, this, by rw [q], rfl⟩
    · rename_i q
      obtain ⟨x, hx, e1, e2⟩ := h.has k' v' hg
      obtain ⟨i, hi⟩ := List.mem_iff_getElem?.1 hx
      have hij : i ≠ j := fun r => by
        subst r; rw [hj] at hi; cases hi
        exact q (he.inj _ _ (by rw [← e1, hk]))
      have := modify_mem (j := j) (f := fun e : MapEntry => { e with key := kv k, val := vv v }) hi
      rw [if_neg hij] at this
      exact ⟨x, this, e1, e2⟩
theorem MapG.erase (h : MapG kv vv es clock n g) (he : KeyE d kv) (k : κ) {j : Nat} {e : MapEntry} (hj : es.toList[j]? = some e) (hk : e.key = kv k) :
    MapG kv vv (es.eraseIdxIfInBounds j) clock n (delG g k) := by
  have hlt : j < es.size := by simpa using (List.getElem?_eq_some_iff.1 hj).1
  have hl : (es.eraseIdxIfInBounds j).toList = es.toList.eraseIdx j := by
    unfold Array.eraseIdxIfInBounds
    rw [dif_pos hlt]; simp
  have hmem : ∀ x, x ∈ es.toList.eraseIdx j ↔ ∃ i, i ≠ j ∧ es.toList[i]? = some x := fun x => by
    rw [List.mem_eraseIdx_iff_getElem?]
  refine ⟨stamped_erase h.stamped _, ?_, ?_, ?_⟩
  · have : (es.eraseIdxIfInBounds j).size ≤ es.size := by
      have h1 : (es.eraseIdxIfInBounds j).size = (es.toList.eraseIdx j).length := by rw [← hl, Array.length_toList]
      have h2 := List.length_eraseIdx_le (l := es.toList) (i := j)
      rw [h1]; simpa using h2
    exact Nat.le_trans this h.size
  · intro x hx
    rw [hl, hmem] at hx
    obtain ⟨i, hij, hi⟩ := hx
    obtain ⟨k', v', e1, e2, e3⟩ := h.key x (List.mem_of_getElem? hi)
    refine ⟨k', v', e1, e2, ?_⟩
    have : k' ≠ k := fun q => by
      have h4 := h.stamped.2.2
      have h1 : (es.toList.map (·.key))[i]? = some x.key := by simp only [List.getElem?_map, hi, Option.map_some]
      have h2 : (es.toList.map (·.key))[j]? = some x.key := by simp only [List.getElem?_map, hj, Option.map_some, hk, e1, q]
      exact hij ((List.getElem?_inj (List.getElem?_eq_some_iff.1 h1).1 h4).1 (h1.trans h2.symm))
    simp [delG, this, e3]
  · intro k' v' hg
    simp only [delG] at hg
    split at hg
    · cases hg
    · rename_i q
      obtain ⟨x, hx, e1, e2⟩ := h.has k' v' hg
      obtain ⟨i, hi⟩ := List.mem_iff_getElem?.1 hx
      refine ⟨x, ?_, e1, e2⟩
      rw [hl, hmem]
      refine ⟨i, fun r => ?_, hi⟩
      subst r; rw [hj] at hi; cases hi
      exact q (he.inj _ _ (by rw [← e1, hk]))
theorem grownBy_setObj (w : World) {b : Nat} {o : Obj} (o' : Obj) (hb : w.heap[b]? = some o) : w.grownBy { w with heap := w.heap.setIfInBounds b o' } (some b) :=
  ⟨rfl, rfl, rfl, by simp, fun k _ hne => (heap_set hb).2 k (fun e => hne (by rw [e]))⟩
theorem MapG.run_put (h : MapG kv vv es clock n g) (he : KeyE d kv) (hm : P.underlying mty = some (.map kt et)) (hd : P.underlying kt = some d) (hb : w.heap[b]? = some (.map es clock)) (k : κ) (v : ν) :
    ∃ es' clock', (Instr.mapUpdate mty (.map (some b)) (kv k) (vv v)).run P w = .ok () { w with heap := w.heap.setIfInBounds b (.map es' clock') } ∧ MapG kv vv es' clock' (n + 1) (updG g k v) := by
  rcases h.find he k with ⟨h1, h2, h3⟩ | ⟨j, e, u, h1, h2, h3, h4⟩
  · refine ⟨_, _, ?_, h.push he k v h3⟩
    simp [Instr.mapUpdate, run_underlying hm, MapKept.run_getObj_map hb, run_checkKey hd (he.key k), run_findKey hd h2, run_setObj_map _ hb, Result.andThen]
  · have hj : es[j]? = some e := by simpa using h3
    refine ⟨_, _, ?_, (h.modify he k v h3 h4).mono (Nat.le_succ _)⟩
    simp [Instr.mapUpdate, run_underlying hm, MapKept.run_getObj_map hb, run_checkKey hd (he.key k), run_findKey hd h2, hj, h4, run_keyThatStays (he.key k), run_setObj_map _ hb, Result.andThen]
theorem MapG.run_del (h : MapG kv vv es clock n g) (he : KeyE d kv) (hm : P.underlying mty = some (.map kt et)) (hd : P.underlying kt = some d) (hb : w.heap[b]? = some (.map es clock)) (k : κ) (ty : TypeId) :
    ∃ es' clock', (Builtin.delete_ #[mty, kt] ty #[.map (some b), kv k]).run P w = .ok (.tuple #[]) { w with heap := w.heap.setIfInBounds b (.map es' clock') } ∧ MapG kv vv es' clock' n (delG g k) := by
  rcases h.find he k with ⟨h1, h2, h3⟩ | ⟨j, e, u, h1, h2, h3, h4⟩
  · refine ⟨es, clock, ?_, ?_⟩
    · simp [Builtin.delete_, run_underlying hm, MapKept.run_getObj_map hb, run_checkKey hd (he.key k), run_findKey hd h2, run_setObj_map _ hb, Result.andThen]
    · have : delG g k = g := by
        funext x; simp only [delG]; split
        · rename_i e; rw [e, h1]
        · rfl
      rw [this]; exact h
  · refine ⟨_, _, ?_, h.erase he k h3 h4⟩
    simp [Builtin.delete_, run_underlying hm, MapKept.run_getObj_map hb, run_checkKey hd (he.key k), run_findKey hd h2, run_setObj_map _ hb, Result.andThen]
end
/-- The zero value that a look-up gives where nothing is. -/
def zeroB (P : Program) (t : Nat) (z : Value) : Prop := (P.info? t).bind (·.zero) = some z
theorem run_zeroB {P : Program} {t : Nat} {z : Value} (h : zeroB P t z) (w : World) : (zeroValue t).run P w = .ok z w := by
  unfold zeroB at h
  cases hi : P.info? t with
  | none => rw [hi] at h; cases h
  | some i => rw [hi] at h; simp only [Option.bind_some] at h; simp [zeroValue, typeInfo, hi, h]
section
variable {P : Program} {n : Nat} {R : Exit → Act → World → Prop} {k : Kt} {σ : Env} {w : World} {ops : Array Oper} {rest : List Oper}
variable {d : Nat} {ty : TypeId} {pos : String} {af : Array Edge} {gd : Option (Nat × Bool)}
variable {w0 ws : World} {ro : Nat → Prop} {L : List (Nat × Obj)} {Rs : List Row}
variable {κ ν : Type} {kv : κ → Value} {vv : ν → Value} {es : Array MapEntry} {clock m : Nat} {g : κ → Option ν} {dk : TypeDesc} {mty kt et b : Nat}
theorem WL.makeMap {t : TypeId} (hg : want ops σ gd = some true) (hd : Nat.blt d n = true) (hS : St w0 ws w ro L Rs)
    (h : ∀ w' b, St w0 ws w' ro ((b, .map #[] 0) :: L) Rs → WL P n R ops rest k ((d, .map (some b)) :: σ) w') : WL P n R ops (⟨some d, .makeMap t none, ty, pos, af, gd⟩ :: rest) k σ w :=
  WL.valW (o := ⟨some d, .makeMap t none, ty, pos, af, gd⟩) (v := .map (some w.heap.size)) (w' := w.alloc (.map #[] 0)) hg hd (fun a _ => by
    simp [execOp, run_makeMap]) (h _ _ (hS.alloc _))
theorem WL.mapPut [DecidableEq κ] {x y z : Operand} (i : Nat) (key : κ) (val : ν) (he : KeyE dk kv) (hm : P.underlying mty = some (.map kt et)) (hdk : P.underlying kt = some dk) (hM : MapG kv vv es clock m g) (hg : want ops σ gd = some true)
    (hx : ev σ x = some (.map (some b))) (hy : ev σ y = some (kv key)) (hz : ev σ z = some (vv val)) (hL : L[i]? = some (b, .map es clock)) (hS : St w0 ws w ro L Rs)
    (h : ∀ w' es' clock', MapG kv vv es' clock' (m + 1) (updG g key val) → St w0 ws w' ro (L.set i (b, .map es' clock')) Rs → WL P n R ops rest k σ w') : WL P n R ops (⟨none, .mapUpdate mty x y z, ty, pos, af, gd⟩ :: rest) k σ w := by
  have hb := hS.own _ (List.mem_of_getElem? hL)
  obtain ⟨es', clock', hr, hM'⟩ := hM.run_put (P := P) he hm hdk hb key val
  exact WL.unitW (o := ⟨none, .mapUpdate mty x y z, ty, pos, af, gd⟩) hg rfl (fun a ha => by simp [execOp, ha.eval hx, ha.eval hy, ha.eval hz, hr])
    (h _ _ _ hM' (hS.upd hL (grownBy_setObj w _ hb) (heap_set hb).1))
/-- A look-up; 'heap' says where the map lies: an own block ('hS.own _ (List.mem_of_getElem? (i := 0) rfl)'), or one that is only read. -/
theorem WL.mapGet {x y : Operand} {zv v : Value} (key : κ) (he : KeyE dk kv) (hm : P.underlying mty = some (.map kt et)) (hdk : P.underlying kt = some dk) (hz : zeroB P et zv) (hM : MapG kv vv es clock m g) (hg : want ops σ gd = some true) (hd : Nat.blt d n = true)
    (hx : ev σ x = some (.map (some b))) (hy : ev σ y = some (kv key)) (hb : w.heap[b]? = some (.map es clock)) (hv : (g key).elim zv vv = v)
    (h : WL P n R ops rest k ((d, v) :: σ) w) : WL P n R ops (⟨some d, .lookup mty x y false, ty, pos, af, gd⟩ :: rest) k σ w := by
  have hr := hM.run_get (P := P) he hm hdk hb (run_zeroB hz w) key false
  subst hv
  exact WL.valW (o := ⟨some d, .lookup mty x y false, ty, pos, af, gd⟩) hg hd (fun a ha => by simp [execOp, ha.eval hx, ha.eval hy, hr]) h
theorem WL.mapGetOk {x y : Operand} {zv v : Value} {c : Bool} (key : κ) (he : KeyE dk kv) (hm : P.underlying mty = some (.map kt et)) (hdk : P.underlying kt = some dk) (hz : zeroB P et zv) (hM : MapG kv vv es clock m g) (hg : want ops σ gd = some true) (hd : Nat.blt d n = true)
    (hx : ev σ x = some (.map (some b))) (hy : ev σ y = some (kv key)) (hb : w.heap[b]? = some (.map es clock)) (hv : (g key).elim zv vv = v) (hc : (g key).isSome = c)
    (h : WL P n R ops rest k ((d, .tuple #[v, .bool c]) :: σ) w) : WL P n R ops (⟨some d, .lookup mty x y true, ty, pos, af, gd⟩ :: rest) k σ w := by
  have hr := hM.run_get (P := P) he hm hdk hb (run_zeroB hz w) key true
  subst hv; subst hc
  exact WL.valW (o := ⟨some d, .lookup mty x y true, ty, pos, af, gd⟩) hg hd (fun a ha => by simp [execOp, ha.eval hx, ha.eval hy, hr]) h
end
end Go.Proofs.YtcmmhfknkldmcaaDoor
