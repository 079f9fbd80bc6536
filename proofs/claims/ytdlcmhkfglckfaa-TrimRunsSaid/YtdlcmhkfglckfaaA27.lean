/-
  Further operations: numbers converted, slices of slices, functions with bound values, arrays that are variables, one cell of a row. No condition beyond those that each theorem states.
-/
import Derived.Test.YtdlcmhkfglckfaaA24
namespace Go.Proofs.Ytdlcmhkfglckfaa
open Go.RowKit

section
variable {P : Program} {n : Nat} {R : Exit → Act → World → Prop} {k : Kt} {σ : Env} {w : World} {ops : Array Oper} {rest : List Oper}
variable {d : Nat} {ty : TypeId} {pos : String} {af : Array Edge} {g : Option (Nat × Bool)}
theorem WL.convInt {src dst : TypeId} {x : Operand} {kk k2 : IntKind} {a : Int} (hs : (P.underlying src).isSome = true) (hu : P.underlying dst = some (.int k2)) (hg : want ops σ g = some true) (hd : Nat.blt d n = true)
    (hx : ev σ x = some (.int kk a)) (h : WL P n R ops rest k ((d, .int k2 (k2.wrap a)) :: σ) w) : WL P n R ops (⟨some d, .convert src dst x, ty, pos, af, g⟩ :: rest) k σ w :=
  WL.valW (o := ⟨some d, .convert src dst x, ty, pos, af, g⟩) hg hd (fun c hc => by
    have he : P.intKind dst = k2 := by simp [Program.intKind, hu]
    have h1 := run_convert_int (P := P) w src dst kk a hs (by rw [he]; exact hu)
    rw [he] at h1
    simp [execOp, hc.eval hx, h1]) h
/-- 's[l:]'. -/
def fromV (ad : Option Addr) (len cap l sz : Nat) : Value := .slice (if cap = l then ad else ad.map (·.add (l * sz))) (len - l) (cap - l)
theorem WL.sliceFrom {t e sz : TypeId} {x lo : Operand} {ad : Option Addr} {len cap l : Nat} {kl : IntKind} (hu : P.underlying t = some (.slice e)) (hs : (P.info? e).map (·.size) = some sz) (hg : want ops σ g = some true) (hd : Nat.blt d n = true)
    (hx : ev σ x = some (.slice ad len cap)) (hlo : ev σ lo = some (.int kl (l : Int))) (hl : l ≤ len) (h : WL P n R ops rest k ((d, fromV ad len cap l sz) :: σ) w) : WL P n R ops (⟨some d, .slice t x (some lo) none none, ty, pos, af, g⟩ :: rest) k σ w :=
  WL.valW (o := ⟨some d, .slice t x (some lo) none none, ty, pos, af, g⟩) hg hd (fun c hc => by
    have he : P.elem t = e := by simp [Program.elem, hu]
    have hu' : P.underlying t = some (.slice (P.elem t)) := by rw [he]; exact hu
    have h1 := run_slice_l (P := P) (w := w) t ad len cap hu' kl (l : Int) (by omega) (by omega)
    cases hq : P.info? e with
    | none => rw [hq] at hs; cases hs
    | some q =>
      rw [hq] at hs
      simp at hs
      rw [he] at h1
      simp [execOp, hc.eval hx, hc.eval hlo, run_sliceAt_slice _ t _ _ _ _ hu', h1, sizeOf, typeInfo, hq, hs, sliced, fromV]) h
theorem slv_from {α : Type} {ro : Nat → Prop} {u : World} {sz : Nat} {Q : List Value → α → Prop} {ad : Option Addr} {cap : Nat} {xs : List α} (h : SlV ro u sz Q (.slice ad xs.length cap) xs) (l : Nat) (hl : l ≤ xs.length) : SlV ro u sz Q (fromV ad xs.length cap l sz) (xs.drop l) := by
  obtain ⟨ad', cap', e, h1, h2, h3, h4⟩ := h
  cases e
  refine ⟨_, _, by rw [List.length_drop]; rfl, by rw [List.length_drop]; omega, by omega, fun e => ?_, fun i x hx => ?_⟩
  · by_cases hc : cap = l
    · omega
    · rw [if_neg hc] at e
      have := h3 (by simpa using e)
      omega
  · rw [List.getElem?_drop] at hx
    obtain ⟨b, o, cs, he, hr, hlen, hc, hq⟩ := h4 (l + i) x hx
    have hi := (List.getElem?_eq_some_iff.1 hx).1
    refine ⟨b, o + l * sz, cs, ?_, hr, hlen, ?_, hq⟩
    · rw [if_neg (by omega), he]; simp [addr_add]
    · rw [Nat.add_assoc, ← Nat.add_mul]; exact hc
theorem WL.makeFuncB {fn : Fn} {fsts caps : Array Operand} {bs vs : Array Value} (hg : want ops σ g = some true) (hd : Nat.blt d n = true) (hb : (fsts.toList.mapM (ev σ)) = some bs.toList) (hc : (caps.toList.mapM (ev σ)) = some vs.toList)
    (h : WL P n R ops rest k ((d, .func fn bs vs) :: σ) w) : WL P n R ops (⟨some d, .makeFunc fn fsts caps, ty, pos, af, g⟩ :: rest) k σ w :=
  WL.valW (o := ⟨some d, .makeFunc fn fsts caps, ty, pos, af, g⟩) hg hd (fun c hk => by
    have key : ∀ (l : List Operand) (r : List Value), l.mapM (ev σ) = some r → l.map c.eval = r := by
      intro l
      induction l with
      | nil => intro r hr; simp at hr; simp [hr]
      | cons x l ih =>
        intro r hr
        simp only [List.mapM_cons, Option.bind_eq_bind, Option.bind_eq_some_iff, Option.pure_def, Option.some.injEq] at hr
        obtain ⟨v, hv, r', hr', e⟩ := hr
        subst e
        simp [hk.eval hv, ih r' hr']
    have e : caps.map c.eval = vs := by
      apply Array.toList_inj.1
      rw [Array.toList_map]
      exact key _ _ hc
    have e2 : fsts.map c.eval = bs := by
      apply Array.toList_inj.1
      rw [Array.toList_map]
      exact key _ _ hb
    simp [execOp, Instr.makeFunc, e, e2]) h
/-- A call through a function value that has bound values. -/
theorem WL.callVB {f : Nat} {fn : Func} {x : Operand} {xs : Array Operand} {vs : List Value} {bs cs : Array Value} {tt : Array TypeId} {Rc : Value → World → Prop} (hf : P.funcs[f]? = some fn) (hb : (fn.body.isSome && !(fn.name == "runtime.NumGoroutine")) = true)
    (hg : want ops σ g = some true) (hd : Nat.blt d n = true) (hfx : ev σ x = some (.func (.func f) bs cs)) (hx : xs.toList.mapM (ev σ) = some vs) (hc : Ret P f (bs ++ vs.toArray ++ cs) w Rc)
    (h : ∀ v w', Rc v w' → WL P n R ops rest k ((d, v) :: σ) w') : WL P n R ops (⟨some d, .call { callee := .value x, args := xs, argTypes := tt }, ty, pos, af, g⟩ :: rest) k σ w :=
  WL.call (o := ⟨some d, .call { callee := .value x, args := xs, argTypes := tt }, ty, pos, af, g⟩) hg hd (fun c hk => by
    have key : ∀ (l : List Operand) (r : List Value), l.mapM (ev σ) = some r → l.map c.eval = r := by
      intro l
      induction l with
      | nil => intro r hr; simp at hr; simp [hr]
      | cons x l ih =>
        intro r hr
        simp only [List.mapM_cons, Option.bind_eq_bind, Option.bind_eq_some_iff, Option.pure_def, Option.some.injEq] at hr
        obtain ⟨v, hv, r', hr', e⟩ := hr
        subst e
        simp [hk.eval hv, ih r' hr']
    have e : xs.map c.eval = vs.toArray := by
      apply Array.toList_inj.1
      rw [Array.toList_map]
      exact key _ _ hx
    simp only [Bool.and_eq_true, Bool.not_eq_true', Option.isSome_iff_exists, beq_eq_false_iff_ne] at hb
    obtain ⟨⟨bd, hbd⟩, hnm⟩ := hb
    simp [execOp, resolve, invoke, hk.eval hfx, Deferred.ofValue, e, callFunc, hf, hbd, hnm]) hc h
/-- An element of an array that is a variable. -/
theorem WL.indexArr {t e sz len : Nat} {x i : Operand} {kk : IntKind} {b o : Nat} {j : Nat} (hu : P.underlying t = some (.array len e)) (hs : (P.info? e).map (·.size) = some sz) (hg : want ops σ g = some true) (hd : Nat.blt d n = true)
    (hx : ev σ x = some (.pointer (some ⟨b, o, none⟩))) (hi : ev σ i = some (.int kk (j : Int))) (hj : j < len)
    (h : WL P n R ops rest k ((d, .pointer (some ⟨b, o + j * sz, none⟩)) :: σ) w) : WL P n R ops (⟨some d, .indexAddr t x i, ty, pos, af, g⟩ :: rest) k σ w :=
  WL.valW (o := ⟨some d, .indexAddr t x i, ty, pos, af, g⟩) hg hd (fun c hc => by
    cases hq : P.info? e with
    | none => rw [hq] at hs; cases hs
    | some q =>
      rw [hq] at hs
      simp at hs
      simp [execOp, hc.eval hx, hc.eval hi, Instr.indexAt, asIntOf, run_underlying hu, sizeOf, typeInfo, hq, hs, hj, addr_add, Instr.sureAddr]) h
end
/-- One cell of a chunk is written. -/
theorem Chunks.setCell {α : Type} {sz : Nat} {Q : List Value → α → Prop} {cs : List Value} {xs : List α} {x y : α} {i c : Nat} {v : Value} (h : Chunks sz Q cs xs) (hx : xs[i]? = some x) (hc : c < sz) (hq : ∀ l, Q l x → Q (l.set c v) y) :
    Chunks sz Q (cs.take (i * sz + c) ++ [v] ++ cs.drop (i * sz + c + 1)) (xs.set i y) := by
  have hi := (List.getElem?_eq_some_iff.1 hx).1
  have hl := h.1
  have hle : i * sz + sz ≤ cs.length := by
    rw [hl]
    have := Nat.mul_le_mul_right sz (show i + 1 ≤ xs.length from hi)
    rw [Nat.add_mul] at this
    omega
  have e : cs.take (i * sz + c) ++ [v] ++ cs.drop (i * sz + c + 1) = cs.take (i * sz) ++ ((cs.drop (i * sz)).take sz).set c v ++ cs.drop (i * sz + sz) := by
    apply List.ext_getElem?
    intro j
    simp only [List.getElem?_append, List.length_append, List.length_take, List.length_set, List.length_drop, List.length_cons, List.length_nil, List.getElem?_set, List.getElem?_take, List.getElem?_drop]
    by_cases h1 : j < i * sz + c
    · by_cases h2 : j < i * sz
      · rw [if_pos (by omega), if_pos (by omega), if_pos h1, if_pos (by omega), if_pos (by omega), if_pos h2]
      · rw [if_pos (by omega), if_pos (by omega), if_pos h1, if_pos (by omega), if_neg (by omega), if_neg (by omega), if_pos (by omega)]
        congr 1; omega
    · by_cases h2 : j = i * sz + c
      · subst h2
        rw [if_pos (by omega), if_neg (by omega), if_pos (by omega), if_neg (by omega), if_pos (by omega), if_pos (by omega)]
        simp [show i * sz + c - min (i * sz + c) cs.length = 0 by omega]
      · by_cases h3 : j < i * sz + sz
        · rw [if_neg (by omega), if_pos (by omega), if_neg (by omega), if_neg (by omega), if_pos (by omega)]
          congr 1; omega
        · rw [if_neg (by omega), if_neg (by omega)]
          congr 1; omega
  rw [e]
  have h2 := h.setAt (c := ((cs.drop (i * sz)).take sz).set c v) (x := y) hi (by rw [List.length_set, List.length_take, List.length_drop]; omega) (hq _ (h.2 i x hx))
  exact h2
end Go.Proofs.Ytdlcmhkfglckfaa

namespace Go.Proofs.Ytdlcmhkfglckfaa
open Go.RowKit

def setAll (l0 : Array Bool) (idx : List Nat) : Array Bool := ((List.range l0.size).map fun i => l0.getD i false || idx.contains i).toArray
theorem setAll_size (l0 : Array Bool) (idx : List Nat) : (setAll l0 idx).size = l0.size := by simp [setAll]
theorem setAll_getD (l0 : Array Bool) (idx : List Nat) (i : Nat) (h : i < l0.size) : (setAll l0 idx).getD i false = (l0.getD i false || idx.contains i) := by
  rw [Array.getD_eq_getD_getElem?]
  simp [setAll, h]
/-- What may come next is of the set until all of it has come. -/
def setB (ops : Array Oper) (l0 : Array Bool) (idx : List Nat) : Bool :=
  Nat.beq l0.size ops.size && decide idx.Nodup && (idx.all fun i => Nat.blt i ops.size && !(l0.getD i false)) &&
  (List.range ops.size).all fun j => match ops[j]? with
    | none => true
    | some o =>
      if l0.getD j false then o.after.toList.all fun e => !Region.binds .any e || l0.getD e.on false
      else if idx.contains j then o.after.toList.all fun e => !Region.binds .any e || l0.getD e.on false || (idx.contains e.on && Nat.blt (idx.idxOf e.on) (idx.idxOf j))
      else idx.all fun i => (clo ops 8 (depsOf ops j)).contains i
section
variable {P : Program} {ops : Array Oper} {Q : Exit → Act → World → Prop}
theorem setB_at {l0 : Array Bool} {idx : List Nat} (h : setB ops l0 idx = true) : l0.size = ops.size ∧ idx.Nodup ∧ (∀ i ∈ idx, i < ops.size ∧ l0.getD i false = false) ∧ ∀ j o, ops[j]? = some o →
    (l0.getD j false = true → ∀ e ∈ o.after, Region.binds .any e = true → l0.getD e.on false = true) ∧
    (l0.getD j false = false → j ∈ idx → ∀ e ∈ o.after, Region.binds .any e = true → l0.getD e.on false = true ∨ (e.on ∈ idx ∧ idx.idxOf e.on < idx.idxOf j)) ∧
    (l0.getD j false = false → j ∉ idx → ∀ i ∈ idx, i ∈ clo ops 8 (depsOf ops j)) := by
  unfold setB at h
  simp only [Bool.and_eq_true, List.all_eq_true, decide_eq_true_eq, Nat.blt_eq, Bool.not_eq_true', List.mem_range] at h
  obtain ⟨⟨⟨h1, h2⟩, h3⟩, h4⟩ := h
  refine ⟨Nat.eq_of_beq_eq_true h1, h2, h3, fun j o ho => ?_⟩
  have h5 := h4 j (Array.getElem?_eq_some_iff.1 ho).1
  rw [ho] at h5
  simp only at h5
  refine ⟨fun hj e he hb => ?_, fun hj hm e he hb => ?_, fun hj hm i hi => ?_⟩
  · rw [if_pos hj] at h5
    have h6 := List.all_eq_true.1 h5 e (by simpa using he)
    simpa [hb] using h6
  · rw [if_neg (by rw [hj]; decide), if_pos (by simpa using hm)] at h5
    have h6 := List.all_eq_true.1 h5 e (by simpa using he)
    simp only [hb, Bool.not_true, Bool.false_or, Bool.or_eq_true, Bool.and_eq_true, Nat.blt_eq, List.contains_iff_mem] at h6
    exact h6
  · rw [if_neg (by rw [hj]; decide), if_neg (by simpa using hm)] at h5
    simpa using List.all_eq_true.1 h5 i hi
theorem wpAnyH_set {S : World → Prop} {l0 : Array Bool} {idx : List Nat} (hB : setB ops l0 idx = true) (J : (Nat → Bool) → Act → World → Prop)
    (hJS : ∀ p a w, J p a w → S w) (hcong : ∀ p p' a w, (∀ i, i ∈ idx → p i = p' i) → J p a w → J p' a w)
    (step : ∀ p a w i o, J p a w → i ∈ idx → ops[i]? = some o → p i = false → (∀ e ∈ o.after, Region.binds .any e = true → e.on ∈ idx → p e.on = true) →
      wpOp P ops Q i (fun a' w' => J (fun j => bif Nat.beq j i then true else p j) a' w') a w) {fuel : Nat}
    (fin : ∀ a w, J (fun _ => true) a w → wpAnyH P .any ops Q S fuel (setAll l0 idx) a w) :
    ∀ (k : Nat) (listed : Array Bool) (a : Act) (w : World), listed.size = ops.size → (∀ t, t ∉ idx → listed.getD t false = l0.getD t false) → (∀ i ∈ idx, ∀ o, ops[i]? = some o → listed.getD i false = true → ∀ e ∈ o.after, Region.binds .any e = true → listed.getD e.on false = true) → (idx.filter fun i => !listed.getD i false).length = k →
      J (fun i => listed.getD i false) a w → wpAnyH P .any ops Q S (k + fuel) listed a w := by
  obtain ⟨hs0, hnd, hidx, hdep⟩ := setB_at hB
  intro k
  induction k with
  | zero =>
    intro listed a w hs hout hcl hk hJ
    have hall : ∀ i ∈ idx, listed.getD i false = true := fun i hi => by
      cases hc : listed.getD i false with
      | true => rfl
      | false =>
        have hm : i ∈ idx.filter fun i => !listed.getD i false := List.mem_filter.2 ⟨hi, by simp [hc]⟩
        have := List.length_pos_of_mem hm
        omega
    have e : listed = setAll l0 idx := by
      apply Array.ext_getElem?
      intro i
      by_cases hi : i < ops.size
      · have key : ∀ (l : Array Bool), l.size = ops.size → l[i]? = some (l.getD i false) := fun l hl => by
          rw [Array.getD_eq_getD_getElem?, Array.getElem?_eq_getElem (by omega)]; rfl
        rw [key listed hs, key _ (by rw [setAll_size]; exact hs0), setAll_getD _ _ _ (by omega)]
        by_cases hm : i ∈ idx
        · rw [hall i hm]; simp [hm]
        · rw [hout i hm]; simp [hm]
      · rw [Array.getElem?_eq_none (by omega), Array.getElem?_eq_none (by rw [setAll_size]; omega)]
    rw [Nat.zero_add, e]
    exact fin a w (hcong _ _ a w (fun i hi => hall i hi) hJ)
  | succ k ih =>
    intro listed a w hs hout hcl hk hJ
    have hex : ∃ i ∈ idx, listed.getD i false = false := by
      obtain ⟨i, hi⟩ := List.exists_mem_of_length_pos (l := idx.filter fun i => !listed.getD i false) (by omega)
      obtain ⟨h1, h2⟩ := List.mem_filter.1 hi
      exact ⟨i, h1, by simpa using h2⟩
    have hclosed : ∀ j oj, ops[j]? = some oj → listed.getD j false = true → ∀ e ∈ oj.after, Region.binds .any e = true → listed.getD e.on false = true := by
      intro j oj hoj hlj e he hb
      by_cases hm : j ∈ idx
      · exact hcl j hm oj hoj hlj e he hb
      · rw [hout j hm] at hlj
        have h1 := (hdep j oj hoj).1 hlj e he hb
        by_cases hm2 : e.on ∈ idx
        · rw [(hidx e.on hm2).2] at h1; cases h1
        · rw [hout _ hm2]; exact h1
    have hready : ∀ i ∈ Region.ready .any ops listed, i ∈ idx ∧ listed.getD i false = false ∧ ∃ o, ops[i]? = some o ∧ ∀ e ∈ o.after, Region.binds .any e = true → listed.getD e.on false = true := by
      intro i hi
      obtain ⟨h0, o, ho, hde⟩ := mem_ready.1 hi
      refine ⟨?_, getD_both h0, o, ho, hde⟩
      apply Classical.byContradiction
      intro hm
      obtain ⟨j, hj, hjf⟩ := hex
      have h1 := (hdep i o ho).2.2 (by rw [← hout i hm]; exact getD_both h0) hm j hj
      have h2 := clo_listed (listed := fun t => listed.getD t false) hclosed 8 (depsOf ops i) (fun t ht => by
        unfold depsOf at ht
        rw [ho] at ht
        obtain ⟨e, he, rfl⟩ := List.mem_map.1 ht
        obtain ⟨h3, h4⟩ := List.mem_filter.1 he
        exact hde e (by simpa using h3) h4) j h1
      rw [show listed.getD j false = true from h2] at hjf
      cases hjf
    rw [show k + 1 + fuel = (k + fuel) + 1 by omega]
    constructor
    · intro hnil
      obtain ⟨q, hq, hmin⟩ := Go.exists_least (p := fun q => ∃ i ∈ idx, listed.getD i false = false ∧ idx.idxOf i = q) (by obtain ⟨i, h1, h2⟩ := hex; exact ⟨_, i, h1, h2, rfl⟩)
      obtain ⟨i, hi, hif, hiq⟩ := hq
      have hlt := (hidx i hi).1
      have : i ∈ Region.ready .any ops listed := by
        rw [mem_ready]
        refine ⟨getD_in (by omega) hif, ops[i], Array.getElem?_eq_getElem hlt, fun e he hb => ?_⟩
        rcases (hdep i _ (Array.getElem?_eq_getElem hlt)).2.1 (hidx i hi).2 hi e he hb with h1 | ⟨h1, h2⟩
        · by_cases hm2 : e.on ∈ idx
          · rw [(hidx e.on hm2).2] at h1; cases h1
          · rw [hout _ hm2]; exact h1
        · cases hc : listed.getD e.on false with
          | true => rfl
          | false => have := hmin (idx.idxOf e.on) ⟨e.on, h1, hc, rfl⟩; omega
      rw [hnil] at this
      cases this
    · intro i hi
      obtain ⟨him, hif, o, ho, hde⟩ := hready i hi
      refine wpOp_mono (fun a' w' hJ' => ⟨hJS _ _ _ hJ', ih (listed.setIfInBounds i true) a' w' (by simp [hs]) (fun t ht => ?_) (fun j hj oj hoj hlj e he hb => ?_) ?_ ?_⟩) (step _ a w i o hJ him ho hif (fun e he hb _ => hde e he hb))
      · rw [getD_set_ne false (by intro e; subst e; exact ht him)]; exact hout t ht
      · by_cases hij : i = j
        · subst hij
          have e' : oj = o := Option.some.inj (hoj.symm.trans ho)
          subst e'
          exact getD_set_true (hde e he hb)
        · rw [getD_set_ne false hij] at hlj
          exact getD_set_true (hcl j hj oj hoj hlj e he hb)
      · have hc : ∀ (l : List Nat), l.Nodup → i ∈ l → (l.filter fun j => !listed.getD j false).length = (l.filter fun j => !(listed.setIfInBounds i true).getD j false).length + 1 := by
          intro l
          induction l with
          | nil => intro _ h; cases h
          | cons m l ihl =>
            intro hnd hm
            obtain ⟨hn1, hn2⟩ := List.nodup_cons.1 hnd
            by_cases him : i = m
            · subst him
              have h1 : (l.filter fun j => !listed.getD j false) = l.filter fun j => !(listed.setIfInBounds i true).getD j false := by
                apply List.filter_congr
                intro j hj
                rw [getD_set_ne false (fun e => hn1 (by rw [e]; exact hj))]
              have hlt := (hidx i ‹_›).1
              have h2 : (listed.setIfInBounds i true).getD i false = true := by
                have : i < listed.size := by omega
                simp [Array.getD, this]
              simp only [List.filter_cons, hif, h2, Bool.not_false, Bool.not_true, if_true, Bool.false_eq_true, if_false, List.length_cons, h1]
            · have h3 : (listed.setIfInBounds i true).getD m false = listed.getD m false := getD_set_ne false him
              have h4 := ihl hn2 ((List.mem_cons.1 hm).resolve_left him)
              simp only [List.filter_cons, h3]
              split <;> simp only [List.length_cons, h4]
        have := hc idx hnd him
        omega
      · refine hcong _ _ a' w' (fun j hj => ?_) hJ'
        have hlt := (hidx j hj).1
        by_cases e : j = i
        · subst e
          have : j < listed.size := by omega
          simp [Array.getD, this]
        · rw [beqF e, getD_set_ne false (fun e2 => e e2.symm)]; rfl
end
/-- The slots that the set writes are apart, and the slots of 'σ' are none of them. -/
def dstsI (ops : Array Oper) (idx : List Nat) (n : Nat) (σ : Env) : Bool :=
  idx.all fun i => match (ops[i]?).bind (·.dst) with
    | none => false
    | some d => Nat.blt d n && σ.all (fun p => !(Nat.beq p.1 d)) && idx.all fun j => Nat.beq i j || (match (ops[j]?).bind (·.dst) with | some d' => !(Nat.beq d' d) | none => true)
theorem dstsI_spec {ops : Array Oper} {idx : List Nat} {n : Nat} {σ : Env} (hds : dstsI ops idx n σ = true) {i : Nat} (hi : i ∈ idx) :
    ∃ d, (ops[i]?).bind (·.dst) = some d ∧ d < n ∧ (∀ p ∈ σ, p.1 ≠ d) ∧ ∀ j d', j ∈ idx → j ≠ i → (ops[j]?).bind (·.dst) = some d' → d' ≠ d := by
  have h1 := List.all_eq_true.1 hds i hi
  cases hd : (ops[i]?).bind (·.dst) with
  | none => rw [hd] at h1; cases h1
  | some d =>
    rw [hd] at h1
    simp only [Bool.and_eq_true, Nat.blt_eq, List.all_eq_true, Bool.or_eq_true, Bool.not_eq_true'] at h1
    obtain ⟨⟨h2, h3⟩, h4⟩ := h1
    refine ⟨d, rfl, h2, fun p hp e => ?_, fun j d' hj hne hd' e => ?_⟩
    · have h5 := h3 p hp
      rw [e, Nat.beq_refl] at h5
      cases h5
    · rcases h4 j hj with h5 | h5
      · exact hne (Nat.eq_of_beq_eq_true h5).symm
      · rw [hd'] at h5
        subst e
        simp only [Nat.beq_refl] at h5
        cases h5
def assoc (V : List (Nat × Value)) (i : Nat) : Value := (V.find? fun p => Nat.beq p.1 i).elim undef (·.2)
section
variable {P : Program} {n : Nat} {ops : Array Oper} {R : Exit → Act → World → Prop} {k : Kt} {σ : Env} {w : World} {Q : Exit → Act → World → Prop} {S : World → Prop} {fuel : Nat} {listed : Array Bool}
/-- Each of the set: one value in this world, which stays as it is; its guard (if it has one) is known. -/
def AllI (P : Program) (n : Nat) (ops : Array Oper) (V0 : List (Nat × Value)) (σ : Env) (w : World) : List (Nat × Value) → Prop
  | [] => True
  | (i, v) :: V => (∃ o, ops[i]? = some o ∧ WL P n NoR ops [o] (.cut (CI n (fun _ : Unit => putS o.dst v []) (fun _ w' => w' = w)) .fin) (PEnv (assoc V0) ops ((depsOf ops i).filter fun j => V0.any fun p => Nat.beq p.1 j) ++ σ) w) ∧ AllI P n ops V0 σ w V
theorem AllI.at {V0 : List (Nat × Value)} : ∀ (V : List (Nat × Value)), AllI P n ops V0 σ w V → ∀ i v o, (i, v) ∈ V → ops[i]? = some o →
    WL P n NoR ops [o] (.cut (CI n (fun _ : Unit => putS o.dst v []) (fun _ w' => w' = w)) .fin) (PEnv (assoc V0) ops ((depsOf ops i).filter fun j => V0.any fun p => Nat.beq p.1 j) ++ σ) w
  | [], _, _, _, _, h, _ => by cases h
  | (j, u) :: V, h, i, v, o, hm, ho => by
    rcases List.mem_cons.1 hm with e | hm
    · cases e
      obtain ⟨o', ho', hw⟩ := h.1
      rw [ho'] at ho
      cases ho
      exact hw
    · exact AllI.at V h.2 i v o hm ho
theorem assoc_mem {V : List (Nat × Value)} (hnd : (V.map (·.1)).Nodup) {i : Nat} {v : Value} (h : (i, v) ∈ V) : assoc V i = v := by
  induction V with
  | nil => cases h
  | cons p V ih =>
    obtain ⟨j, u⟩ := p
    obtain ⟨h1, h2⟩ := List.nodup_cons.1 hnd
    unfold assoc
    rcases List.mem_cons.1 h with e | h
    · cases e; simp
    · have hne : ¬ j = i := fun e => h1 (by subst e; exact List.mem_map.2 ⟨_, h, rfl⟩)
      simp only [List.find?_cons, beqF hne]
      exact ih h2 h
theorem known_PEnvA {V : List (Nat × Value)} {a : Act} {is : List Nat} (hk : Known n a σ) (h : ∀ i ∈ is, ∀ d, (ops[i]?).bind (·.dst) = some d → a.tmps.getD d undef = assoc V i) : Known n a (PEnv (assoc V) ops is ++ σ) := by
  refine ⟨hk.size, hk.defers, fun t v hv => ?_⟩
  rcases look_append _ _ t v hv with h2 | h2
  · obtain ⟨i, hi, hd, e⟩ := look_PEnv (assoc V) ops is t v h2
    rw [e]
    exact h i hi t hd
  · exact hk.at_ t v h2
theorem quietI_run {o : Oper} {Q : Exit → Act → World → Prop} {i d : Nat} {v : Value} (hi : ops[i]? = some o) (hdst : o.dst = some d) (hlt : d < n)
    (h : WL P n NoR ops [o] (.cut (CI n (fun _ : Unit => putS o.dst v []) (fun _ w' => w' = w)) .fin) σ w) {a : Act} (hk : Known n a σ) {K : Act → World → Prop} (hK : K (a.put o.dst v) w) : wpOp P ops Q i K a w := by
  have h1 := h.out a hk
  have dstEq : ∀ u w', (Kt.cut (CI n (fun _ : Unit => putS o.dst v []) (fun _ w' => w' = w)) .fin).post P NoR .normal (a.put o.dst u) w' → w' = w ∧ u = v := by
    rintro u w' ⟨_, hk', rfl⟩
    refine ⟨rfl, ?_⟩
    have := hk'.at_ d v (by rw [hdst]; simp [putS, look])
    have hlt' : d < a.tmps.size := by rw [hk.size]; exact hlt
    rw [hdst] at this
    simpa [Act.put, Array.getD, hlt'] using this
  unfold wpList at h1
  unfold wpOp
  simp only [hi]
  by_cases hw' : Region.wanted o (yielded ops a.tmps) = true
  · rw [if_pos hw'] at h1 ⊢
    rcases h1 with h1 | ⟨_, a', w', h2⟩
    · left
      unfold Oper.wp at *
      generalize (execOp a.eval o).run P w = r at *
      cases r with
      | ok nx w1 =>
        cases nx <;> simp only [Oper.upon] at h1 ⊢ <;> try (exact h1.elim)
        case value u => obtain ⟨e1, e2⟩ := dstEq u w1 h1; subst e1; subst e2; exact hK
        case skip => obtain ⟨e1, e2⟩ := dstEq undef w1 h1; subst e1; rw [e2]; exact hK
        case enter f args =>
          refine Calls.mono h1 fun e w2 h3 => ?_
          cases e with
          | returned u => obtain ⟨e1, e2⟩ := dstEq u w2 h3; subst e1; subst e2; exact hK
          | panicked c => exact h3.elim
          | outgrown => obtain ⟨a', w', h4⟩ := h3; exact h4.elim
        case row r args =>
          refine Rows.mono h1 fun u w2 h3 => ?_
          obtain ⟨e1, e2⟩ := dstEq u w2 h3; subst e1; subst e2; exact hK
        case defer dd =>
          obtain ⟨_, hk', _⟩ := h1
          have h5 := hk'.defers
          have h6 : ∀ dst : Option Nat, ({ tmps := a.tmps, defers := dd :: a.defers } : Act).put dst undef = { tmps := (({ tmps := a.tmps, defers := dd :: a.defers } : Act).put dst undef).tmps, defers := dd :: a.defers } := fun dst => by cases dst <;> rfl
          rw [h6] at h5
          cases h5
      | halt x w1 =>
        cases x <;> simp only [Oper.upon] at h1 ⊢ <;> exact h1.elim
    · exact h2.elim
  · rw [if_neg hw'] at h1 ⊢
    obtain ⟨_, e2⟩ := dstEq undef w h1
    rw [e2]; exact hK
/-- A set of operations, each of one value in the world at hand, in any order. -/
theorem WA.quiet (V : List (Nat × Value)) {l0 : Array Bool} (hB : setB ops l0 (V.map (·.1)) = true) (σ : Env) {σ0 : Env} (hsub : Sub σ σ0) (hds : dstsI ops (V.map (·.1)) n σ = true) (hq : AllI P n ops V σ w V)
    (hS : S w) (h : WA P n ops Q S fuel (setAll l0 (V.map (·.1))) (PEnv (assoc V) ops (V.map (·.1)) ++ σ) w) : WA P n ops Q S (V.length + fuel) l0 σ0 w := by
  obtain ⟨hs0, hnd, hidx, _⟩ := setB_at hB
  refine ⟨fun a hk0 => ?_⟩
  have hk := hk0.sub hsub
  refine wpAnyH_set (l0 := l0) (idx := V.map (·.1)) hB (fun p a u => u = w ∧ Known n a σ ∧ ∀ i v, (i, v) ∈ V → p i = true → valAt ops a i = v) ?_ ?_ ?_ ?_ V.length l0 a w hs0 (fun _ _ => rfl) (fun i hi _ _ h1 => ?_) ?_ ⟨rfl, hk, fun i v hi hp => ?_⟩
  · rintro _ _ _ ⟨rfl, _⟩; exact hS
  · rintro p p' a u hpp ⟨h1, h2, h3⟩
    exact ⟨h1, h2, fun i v hi hp => h3 i v hi (by rw [hpp i (List.mem_map.2 ⟨_, hi, rfl⟩)]; exact hp)⟩
  · rintro p a u i o ⟨rfl, h2, h3⟩ hi ho hpi hdep
    obtain ⟨⟨i', v⟩, hm, rfl⟩ := List.mem_map.1 hi
    obtain ⟨d, hd, hdn, hdσ, hdj⟩ := dstsI_spec hds hi
    have hod : o.dst = some d := by rw [ho] at hd; exact hd
    have hw := AllI.at V hq i' v o hm ho
    refine quietI_run ho hod hdn hw (known_PEnvA h2 fun j hj d' hd' => ?_) ⟨rfl, known_put h2 fun d' e => ?_, fun j u' hj hp => ?_⟩
    · obtain ⟨hj1, hj2⟩ := List.mem_filter.1 hj
      obtain ⟨⟨j', u'⟩, hju, hje⟩ := List.any_eq_true.1 hj2
      have hje : j' = j := Nat.eq_of_beq_eq_true hje
      subst hje
      simp only [depsOf, ho] at hj1
      obtain ⟨e, he, hee⟩ := List.mem_map.1 hj1
      obtain ⟨he1, he2⟩ := List.mem_filter.1 he
      have h4 := h3 j' u' hju (by rw [← hee]; exact hdep e (by simpa using he1) he2 (by rw [hee]; exact List.mem_map.2 ⟨_, hju, rfl⟩))
      rw [valAt, hd'] at h4
      rw [assoc_mem hnd hju]
      exact h4
    · rw [hod] at e; cases e; exact hdσ
    · by_cases e : j = i'
      · subst e
        have e2 : u' = v := by rw [← assoc_mem hnd hj, ← assoc_mem hnd hm]
        rw [valAt, hd, hod, e2]
        exact put_same (by rw [h2.size]; exact hdn)
      · simp only [beqF e, cond_false] at hp
        rw [← h3 j u' hj hp]
        unfold valAt
        cases hdj' : (ops[j]?).bind (·.dst) with
        | none => rfl
        | some dj =>
          simp only
          rw [hod]
          exact put_other fun e2 => hdj j dj (List.mem_map.2 ⟨_, hj, rfl⟩) e hdj' e2.symm
  · rintro a u ⟨rfl, h2, h3⟩
    refine h.out a (known_PEnvA h2 fun i hi d hd => ?_)
    obtain ⟨⟨i', v⟩, hm, rfl⟩ := List.mem_map.1 hi
    have h4 := h3 i' v hm rfl
    rw [valAt, hd] at h4
    rw [assoc_mem hnd hm]; exact h4
  · rw [(hidx i hi).2] at h1; cases h1
  · rw [List.filter_eq_self.2 (fun i hi => by rw [(hidx i hi).2]; rfl), List.length_map]
  · have hmi := (hidx i (List.mem_map.2 ⟨_, hi, rfl⟩)).2
    replace hp : l0.getD i false = true := hp
    rw [hmi] at hp; cases hp
end
section
variable {P : Program} {n : Nat} {ops : Array Oper} {σ : Env} {w : World} {Q : Exit → Act → World → Prop} {S : World → Prop} {fuel : Nat} {listed : Array Bool}
/-- One operation, the only one that may come next. -/
theorem WA.stepS (i : Nat) {o : Oper} (hr : Region.ready .any ops listed = [i]) (hi : ops[i]? = some o) (h : WL P n NoR ops [o] (.cut (fun a w => S w ∧ wpAnyH P .any ops Q S fuel (listed.setIfInBounds i true) a w) .fin) σ w) : WA P n ops Q S (fuel + 1) listed σ w :=
  ⟨fun a ha => wpAnyH_all hr (by simp) fun j hj => by
    obtain rfl : j = i := by simpa using hj
    have h1 := h.out a ha
    unfold wpList at h1
    unfold wpOp
    simp only [hi]
    by_cases hw : Region.wanted o (yielded ops a.tmps) = true
    · rw [if_pos hw] at h1 ⊢
      rcases h1 with h1 | ⟨_, a', w', h2⟩
      · left
        unfold Oper.wp at *
        generalize (execOp a.eval o).run P w = r at *
        cases r with
        | ok nx w1 =>
          cases nx <;> simp only [Oper.upon] at h1 ⊢ <;> try (exact h1.elim)
          case value u => exact h1
          case skip => exact h1
          case enter f args =>
            refine Calls.mono h1 fun e w2 h3 => ?_
            cases e with
            | returned u => exact h3
            | panicked c => exact h3.elim
            | outgrown => obtain ⟨a', w', h4⟩ := h3; exact h4.elim
          case row r args => exact Rows.mono h1 fun u w2 h3 => h3
          case defer dd => exact h1
        | halt x w1 => cases x <;> simp only [Oper.upon] at h1 ⊢ <;> exact h1.elim
      · exact h2.elim
    · rw [if_neg hw] at h1 ⊢
      exact h1⟩
theorem N.restS (hs : S w) (h : WA P n ops Q S fuel listed σ w) : N P n NoR (.cut (fun a w => S w ∧ wpAnyH P .any ops Q S fuel listed a w) .fin) σ w := ⟨fun a ha => ⟨hs, h.out a ha⟩⟩
theorem exec_fieldAddr {s f b o off : Nat} {x : Operand} {d : Option Nat} {ty : TypeId} {pos : String} {af : Array Edge} {g : Option (Nat × Bool)} (hf : fOff P s f off = true) (hx : ev σ x = some (.pointer (some ⟨b, o, none⟩))) : ∀ a, Known n a σ → ∀ w, S w → (execOp a.eval ⟨d, .fieldAddr s x f, ty, pos, af, g⟩).run P w = .ok (.value (.pointer (some ⟨b, o + off, none⟩))) w := fun a ha w _ => by
  unfold fOff at hf
  split at hf
  · rename_i fs hu
    split at hf
    · rename_i fd hfd
      simp only [Bool.and_eq_true] at hf
      obtain ⟨h1, h2⟩ := hf
      have h1 : fd.offset = off := Nat.eq_of_beq_eq_true h1
      split at h2
      · rename_i i hi
        have hne : ¬ i.size = 0 := by
          intro e
          rw [e] at h2
          simp at h2
        simp [execOp, ha.eval hx, Instr.fieldAt, run_underlying hu, hfd, fieldPlace, sizeOf, typeInfo, hi, hne, h1, addr_add, Instr.sureAddr]
      · cases h2
    · cases hf
  · cases hf
theorem exec_nilCheck {x : Operand} {ad : Addr} {d : Option Nat} {ty : TypeId} {pos : String} {af : Array Edge} {g : Option (Nat × Bool)} (hx : ev σ x = some (.pointer (some ad))) : ∀ a, Known n a σ → ∀ w, S w → (execOp a.eval ⟨d, .nilCheck x, ty, pos, af, g⟩).run P w = .ok (.value (.pointer (some ad))) w := fun a ha w _ => by simp [execOp, ha.eval hx]
theorem exec_add {xT yT : TypeId} {x y : Operand} {p q c : Int} {d : Option Nat} {ty : TypeId} {pos : String} {af : Array Edge} {g : Option (Nat × Bool)} (hx : ev σ x = some (.int .i64 p)) (hy : ev σ y = some (.int .i64 q)) (e : p + q = c) (hc : -9223372036854775808 ≤ c ∧ c ≤ 9223372036854775807) : ∀ a, Known n a σ → ∀ w, S w → (execOp a.eval ⟨d, .binOp .add xT x y yT, ty, pos, af, g⟩).run P w = .ok (.value (.int .i64 c)) w := fun a ha w _ => by
  have h1 := run_binI (P := P) (op := .add) (xT := xT) (x := x) (y := y) (kk := .i64) (a := p) (b := q) (v := .int .i64 c) (by simp [binI, e, wrap64 hc]) w
  simp only [execOp, ha.eval hx, ha.eval hy, Sem.run_bind] at h1 ⊢
  rw [h1]; rfl
end
/-- A walk of a whole call ends in no panic. -/
theorem fin_no_panic {P : Program} {fn : Func} {R : Value → World → Prop} (k : Kt) : ∀ c a w, ¬ k.post P (Fin P fn R) (.panic c) a w := by
  intro c a w
  induction k with
  | fin => rintro ⟨_, _, h, _⟩; cases h
  | seq y k ih => exact ih
  | blk id k ih => exact ih
  | scope k ih => exact ih
  | cut C k ih => exact ih
  | loop J m k ih => exact ih
end Go.Proofs.Ytdlcmhkfglckfaa

namespace Go.Proofs.Ytdlcmhkfglckfaa
open Go.RowKit

abbrev Phi := Value → World → Prop
def assocP (V : List (Nat × Phi)) (i : Nat) : Phi := (V.find? fun p => Nat.beq p.1 i).elim (fun _ _ => True) (·.2)
def DepsA (V : List (Nat × Phi)) (β : Nat → Value) (w : World) : List Nat → Prop
  | [] => True
  | i :: r => assocP V i (β i) w ∧ DepsA V β w r
theorem DepsA.of {V : List (Nat × Phi)} {β : Nat → Value} {w : World} : ∀ {is : List Nat}, (∀ i ∈ is, assocP V i (β i) w) → DepsA V β w is
  | [], _ => trivial
  | i :: r, h => ⟨h i List.mem_cons_self, DepsA.of fun j hj => h j (List.mem_cons_of_mem _ hj)⟩
def StaysA : List (Nat × Phi) → Prop
  | [] => True
  | p :: V => Stays p.2 ∧ StaysA V
theorem StaysA.at : ∀ {V : List (Nat × Phi)}, StaysA V → ∀ p ∈ V, Stays p.2
  | _ :: _, h, _, hm => by
    rcases List.mem_cons.1 hm with e | hm
    · rw [e]; exact h.1
    · exact StaysA.at h.2 _ hm
theorem assocP_mem {V : List (Nat × Phi)} (hnd : (V.map (·.1)).Nodup) {i : Nat} {Φ : Phi} (h : (i, Φ) ∈ V) : assocP V i = Φ := by
  induction V with
  | nil => cases h
  | cons p V ih =>
    obtain ⟨j, u⟩ := p
    obtain ⟨h1, h2⟩ := List.nodup_cons.1 hnd
    unfold assocP
    rcases List.mem_cons.1 h with e | h
    · cases e; simp
    · have hne : ¬ j = i := fun e => h1 (by subst e; exact List.mem_map.2 ⟨_, h, rfl⟩)
      simp only [List.find?_cons, beqF hne]
      exact ih h2 h
section
variable {P : Program} {n : Nat} {ops : Array Oper} {R : Exit → Act → World → Prop} {k : Kt} {σ : Env} {w : World} {Q : Exit → Act → World → Prop} {S : World → Prop} {fuel : Nat}
def AllA (P : Program) (n : Nat) (ops : Array Oper) (V0 : List (Nat × Phi)) (σ : Env) (w1 : World) : List (Nat × Phi) → Prop
  | [] => True
  | (i, Φ) :: V => (∀ β u, Below w1.heap.size w1 u → DepsA V0 β u ((depsOf ops i).filter fun j => V0.any fun p => Nat.beq p.1 j) → ∃ o, ops[i]? = some o ∧
      WL P n NoR ops [o] (.cut (CI n (fun v : Value => putS o.dst v []) (fun v w' => Below u.heap.size u w' ∧ Φ v w')) .fin) (PEnv β ops ((depsOf ops i).filter fun j => V0.any fun p => Nat.beq p.1 j) ++ σ) u) ∧ AllA P n ops V0 σ w1 V
theorem AllA.at {V0 : List (Nat × Phi)} {w1 : World} : ∀ (V : List (Nat × Phi)), AllA P n ops V0 σ w1 V → ∀ i Φ o, (i, Φ) ∈ V → ops[i]? = some o → ∀ β u, Below w1.heap.size w1 u → DepsA V0 β u ((depsOf ops i).filter fun j => V0.any fun p => Nat.beq p.1 j) →
    WL P n NoR ops [o] (.cut (CI n (fun v : Value => putS o.dst v []) (fun v w' => Below u.heap.size u w' ∧ Φ v w')) .fin) (PEnv β ops ((depsOf ops i).filter fun j => V0.any fun p => Nat.beq p.1 j) ++ σ) u
  | [], _, _, _, _, h, _ => by cases h
  | (j, Ψ) :: V, h, i, Φ, o, hm, ho => by
    rcases List.mem_cons.1 hm with e | hm
    · cases e
      intro β u hb hd
      obtain ⟨o', ho', hw⟩ := h.1 β u hb hd
      rw [ho'] at ho
      cases ho
      exact hw
    · exact AllA.at V h.2 i Φ o hm ho
theorem WA.phaseI (V : List (Nat × Phi)) {l0 : Array Bool} (hB : setB ops l0 (V.map (·.1)) = true) (σ : Env) {σ0 : Env} (hsub : Sub σ σ0) (hds : dstsI ops (V.map (·.1)) n σ = true) (hst : StaysA V) (hq : AllA P n ops V σ w V) (hS : ∀ u, Below w.heap.size w u → S u)
    (fin : ∀ β u, Below w.heap.size w u → DepsA V β u (V.map (·.1)) → WA P n ops Q S fuel (setAll l0 (V.map (·.1))) (PEnv β ops (V.map (·.1)) ++ σ) u) : WA P n ops Q S (V.length + fuel) l0 σ0 w := by
  obtain ⟨hs0, hnd, hidx, _⟩ := setB_at hB
  refine ⟨fun a hk0 => ?_⟩
  have hk := hk0.sub hsub
  refine wpAnyH_set (l0 := l0) (idx := V.map (·.1)) hB (fun p a u => Known n a σ ∧ Below w.heap.size w u ∧ ∀ i Φ, (i, Φ) ∈ V → p i = true → Φ (valAt ops a i) u) ?_ ?_ ?_ ?_ V.length l0 a w hs0 (fun _ _ => rfl) (fun i hi _ _ h1 => ?_) ?_ ⟨hk, Below.refl _ w, fun i Φ hi hp => ?_⟩
  · rintro _ _ u ⟨_, h2, _⟩; exact hS u h2
  · rintro p p' a u hpp ⟨h1, h2, h3⟩
    exact ⟨h1, h2, fun i Φ hi hp => h3 i Φ hi (by rw [hpp i (List.mem_map.2 ⟨_, hi, rfl⟩)]; exact hp)⟩
  · rintro p a u i o ⟨h2, hbu, h3⟩ hi ho hpi hdep
    obtain ⟨⟨i', Φ⟩, hm, rfl⟩ := List.mem_map.1 hi
    obtain ⟨d, hd, hdn, hdσ, hdj⟩ := dstsI_spec hds hi
    have hod : o.dst = some d := by rw [ho] at hd; exact hd
    have hw := AllA.at V hq i' Φ o hm ho (valAt ops a) u hbu (DepsA.of fun j hj => by
      obtain ⟨hj1, hj2⟩ := List.mem_filter.1 hj
      obtain ⟨⟨j', Ψ⟩, hju, hje⟩ := List.any_eq_true.1 hj2
      have hje : j' = j := Nat.eq_of_beq_eq_true hje
      subst hje
      simp only [depsOf, ho] at hj1
      obtain ⟨e, he, hee⟩ := List.mem_map.1 hj1
      obtain ⟨he1, he2⟩ := List.mem_filter.1 he
      rw [assocP_mem hnd hju]
      exact h3 j' Ψ hju (by rw [← hee]; exact hdep e (by simpa using he1) he2 (by rw [hee]; exact List.mem_map.2 ⟨_, hju, rfl⟩)))
    refine quietP_run ho hod hdn hw (known_PEnv h2) fun w' v hb hv => ⟨known_put h2 fun d' e => ?_, hbu.trans (hb.mono hbu.size), fun j Ψ hj hp => ?_⟩
    · rw [hod] at e; cases e; exact hdσ
    · by_cases e : j = i'
      · subst e
        have e2 : Ψ = Φ := by rw [← assocP_mem hnd hj, ← assocP_mem hnd hm]
        rw [valAt, hd, hod, e2]
        simp only
        rw [put_same (by rw [h2.size]; exact hdn)]
        exact hv
      · simp only [beqF e, cond_false] at hp
        have h4 := h3 j Ψ hj hp
        have h5 : valAt ops (a.put o.dst v) j = valAt ops a j := by
          unfold valAt
          cases hdj' : (ops[j]?).bind (·.dst) with
          | none => rfl
          | some dj =>
            simp only
            rw [hod]
            exact put_other fun e2 => hdj j dj (List.mem_map.2 ⟨_, hj, rfl⟩) e hdj' e2.symm
        rw [h5]
        exact StaysA.at hst _ hj _ _ _ h4 hb
  · rintro a u ⟨h2, hbu, h3⟩
    refine (fin (valAt ops a) u hbu (DepsA.of fun j hj => ?_)).out a (known_PEnv h2)
    obtain ⟨⟨i', Φ⟩, hm, rfl⟩ := List.mem_map.1 hj
    rw [assocP_mem hnd hm]
    exact h3 i' Φ hm rfl
  · rw [(hidx i hi).2] at h1; cases h1
  · rw [List.filter_eq_self.2 (fun i hi => by rw [(hidx i hi).2]; rfl), List.length_map]
  · have hmi := (hidx i (List.mem_map.2 ⟨_, hi, rfl⟩)).2
    replace hp : l0.getD i false = true := hp
    rw [hmi] at hp; cases hp
end
end Go.Proofs.Ytdlcmhkfglckfaa
