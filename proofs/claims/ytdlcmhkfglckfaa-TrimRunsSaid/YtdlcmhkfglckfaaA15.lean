/-
  An own array of values of one cell each, read and written at an index; a slice's own block in place of an own row; what a closure does to its caller's own memory. No condition beyond those that each theorem states.
-/
import Derived.Test.YtdlcmhkfglckfaaA12
namespace Go.Proofs.Ytdlcmhkfglckfaa
open Go.RowKit

/-- A block that holds the values of a list, one cell each. -/
def arrO {α : Type} (f : α → Value) (t : Nat) (u : List α) : Obj := .cells (u.map f).toArray t (0, 0)
section
variable {w0 ws w : World} {ro : Nat → Prop} {L : List (Nat × Obj)} {Rs : List Row} {α : Type} {f : α → Value} {t b : Nat} {u : List α}
theorem St.arr (h : St w0 ws w ro L Rs) (i : Nat) (hL : L[i]? = some (b, arrO f t u)) {j : Nat} {x : α} (hx : u[j]? = some x) : w.cell? ⟨b, 0 + j * 1, none⟩ = some (f x) := by
  have hb := h.own _ (List.mem_of_getElem? hL)
  rw [show 0 + j * 1 = j by omega, cell_of_row w b j _ t (0, 0) hb]
  simp [hx]
theorem arr_row {v : Value} (h : St w0 ws w ro ((b, arrO f t u) :: L) Rs) (hm : u.length ≤ maxLen) {nn : Nat} (hn : u.length = nn) (hv : v = .slice (some ⟨b, 0, none⟩) nn nn) {Q : List Value → α → Prop} (hQ : ∀ x ∈ u, Q [f x] x) {ro' : Nat → Prop} (hr : ro' b) : SlV ro' w 1 Q v u := by
  have hb := h.own _ List.mem_cons_self
  subst hn
  subst hv
  refine ⟨_, _, rfl, Nat.le_refl _, hm, (fun e => by cases e), fun i x hx => ⟨b, 0, [f x], rfl, hr, rfl, ?_, hQ x (List.mem_of_getElem? hx)⟩⟩
  intro j y hj
  cases j with
  | zero =>
    simp only [List.getElem?_cons_zero, Option.some.injEq] at hj
    subst hj
    exact h.arr 0 rfl hx
  | succ j => simp at hj
end
section
variable {P : Program} {n : Nat} {R : Exit → Act → World → Prop} {k : Kt} {σ : Env} {w : World} {ops : Array Oper} {rest : List Oper}
variable {d : Nat} {ty : TypeId} {pos : String} {af : Array Edge} {g : Option (Nat × Bool)}
variable {w0 ws : World} {ro : Nat → Prop} {L : List (Nat × Obj)} {Rs : List Row} {α : Type} {f : α → Value} {t b : Nat} {u : List α}
theorem WL.makeSliceL {t e m : Nat} {x y : Operand} {kk kk' : IntKind} {z : α} (by' : Nat) (hu : P.underlying t = some (.slice e)) (hz : TyZero P e [f z]) (hby : (P.info? e).map (·.bytes) = some by') (hg : want ops σ g = some true) (hd : Nat.blt d n = true)
    (hx : ev σ x = some (.int kk (m : Int))) (hy : ev σ y = some (.int kk' (m : Int))) (hS : St w0 ws w ro L Rs) (hmx : m ≤ maxLen) (hbytes : m * by' ≤ 281474976710656)
    (h : ∀ w' b, St w0 ws w' ro ((b, arrO f e (List.replicate m z)) :: L) Rs → WL P n R ops rest k ((d, .slice (some ⟨b, 0, none⟩) m m) :: σ) w') :
    WL P n R ops (⟨some d, .makeSlice t x y, ty, pos, af, g⟩ :: rest) k σ w := by
  obtain ⟨i, z', hi, hz1, hz2, hz3⟩ := hz
  have hb2 : i.bytes = by' := by rw [hi] at hby; simpa using hby
  have hbb : (i.bytes : Int) * (m : Int) ≤ 281474976710656 := by
    rw [hb2, ← Int.natCast_mul, Nat.mul_comm]
    omega
  have hr := run_make (P := P) w t e i z' hu hi hz1 kk kk' (m : Int) (m : Int) (by omega) (Int.le_refl _) hbb (by unfold maxLen at hmx; omega)
  simp only [Int.toNat_natCast] at hr
  refine WL.valW (o := ⟨some d, .makeSlice t x y, ty, pos, af, g⟩) (v := .slice (some ⟨w.heap.size, 0, none⟩) m m) (w' := w.alloc (.cells (madeCells z'.cells (m * i.size)) e)) hg hd (fun a ha => by simp [execOp, ha.eval hx, ha.eval hy, hr]) (h _ _ ?_)
  have e1 : (Obj.cells (madeCells z'.cells (m * i.size)) e) = arrO f e (List.replicate m z) := by
    unfold arrO
    rw [hz2, hz3]
    congr 1
    apply Array.toList_inj.1
    rw [made_toList [f z] (by simp) m]
    simp only [List.map_replicate]
    clear hr hbb hbytes hmx hx hy h
    induction m with
    | zero => rfl
    | succ m ih => rw [List.replicate_succ, List.flatten_cons, List.replicate_succ, ih]; rfl
  rw [e1]
  exact hS.alloc _
theorem WL.storeArr {tv e : TypeId} {x y : Operand} {j : Nat} {v : α} (i : Nat) (hg : want ops σ g = some true) (hx : ev σ x = some (.pointer (some ⟨b, 0 + j * 1, none⟩))) (hy : ev σ y = some (f v)) (hc : (f v).cells.toList = [f v])
    (hs : tySize P tv 1 = true) (h1 : (f v).oneCell' = true) (hL : L[i]? = some (b, arrO f e u)) (hlen : j < u.length) (hS : St w0 ws w ro L Rs)
    (h : ∀ w', St w0 ws w' ro (L.set i (b, arrO f e (u.set j v))) Rs → WL P n R ops rest k σ w') : WL P n R ops (⟨none, .store tv x y, ty, pos, af, g⟩ :: rest) k σ w := by
  have hlt : j < (u.map f).toArray.size := by simpa using hlen
  refine WL.store (c' := ((u.map f).set j (f v)).toArray) (L' := L.set i (b, arrO f e (u.set j v))) (off := 0 + j * 1) i hg hx hy hc (by simpa using hs) (by simpa using h1) hL (by rw [Nat.ble_eq]; simp; omega) ?_ ?_ hS h
  · apply Array.toList_inj.1
    simp only [List.length_cons, List.length_nil, show 0 + j * 1 = j by omega]
    rw [List.set_eq_take_append_cons_drop, if_pos (by simpa using hlen)]
    simp
  · simp [arrO, List.map_set]
end
end Go.Proofs.Ytdlcmhkfglckfaa

namespace Go.Proofs.Ytdlcmhkfglckfaa
open Go.RowKit

theorem store_run {P : Program} {n : Nat} {ops : Array Oper} {o : Oper} {σ : Env} {Q : Exit → Act → World → Prop} {i : Nat} {C : World → Prop} {w : World} (hi : ops[i]? = some o) (hdst : o.dst = none)
    (h : WL P n NoR ops [o] (.cut (CI n (fun _ : Unit => ([] : Env)) (fun _ w' => C w')) .fin) σ w) {a : Act} (hk : Known n a σ) {K : Act → World → Prop}
    (hK : ∀ w' u, C w' → K (a.put o.dst u) w') : wpOp P ops Q i K a w := by
  have h1 := h.out a hk
  have dstEq : ∀ u w', (Kt.cut (CI n (fun _ : Unit => ([] : Env)) (fun _ w' => C w')) .fin).post P NoR .normal (a.put o.dst u) w' → C w' := by
    rintro u w' ⟨_, _, hb⟩; exact hb
  unfold wpList at h1
  unfold wpOp
  simp only [hi]
  by_cases hw' : Region.wanted o (yielded ops a.tmps) = true
  · rw [if_pos hw'] at h1 ⊢
    rcases h1 with h1 | ⟨_, a', w', h2⟩
    · left
      unfold Oper.wp at *
      generalize (execOp a.eval o).run P w = r at *
      cases r with
      | ok nx w1 =>
        cases nx <;> simp only [Oper.upon] at h1 ⊢ <;> try (exact h1.elim)
        case value u => exact hK _ _ (dstEq u w1 h1)
        case skip => exact hK _ _ (dstEq undef w1 h1)
        case enter f args =>
          refine Calls.mono h1 fun e w2 h3 => ?_
          cases e with
          | returned u => exact hK _ _ (dstEq u w2 h3)
          | panicked c => exact h3.elim
          | outgrown => obtain ⟨a', w', h4⟩ := h3; exact h4.elim
        case row r args =>
          refine Rows.mono h1 fun u w2 h3 => ?_
          exact hK _ _ (dstEq u w2 h3)
        case defer dd =>
          obtain ⟨_, hk', _⟩ := h1
          have h5 := hk'.defers
          have h6 : ∀ dst : Option Nat, ({ tmps := a.tmps, defers := dd :: a.defers } : Act).put dst undef = { tmps := (({ tmps := a.tmps, defers := dd :: a.defers } : Act).put dst undef).tmps, defers := dd :: a.defers } := fun dst => by cases dst <;> rfl
          rw [h6] at h5
          cases h5
      | halt x w1 =>
        cases x <;> simp only [Oper.upon] at h1 ⊢ <;> exact h1.elim
    · exact h2.elim
  · rw [if_neg hw'] at h1 ⊢
    exact hK _ _ (dstEq undef w h1)

/-- The head's operations one by one; 's' is the store. -/
def AllS (P : Program) (n : Nat) (ops : Array Oper) (H0 : List Value) (σ : Env) (s : Nat) (C1 C2 : World → Prop) : Nat → List (Value × Bool) → List Oper → Prop
  | i, (v, b) :: H, o :: l => (bif Nat.beq i s then (∀ w, C1 w → WL P n NoR ops [o] (.cut (CI n (fun _ : Unit => ([] : Env)) (fun _ w' => C2 w')) .fin) (hEnv (fun _ => 0) (H0.map .q) ops (depsOf ops i) ++ σ) w)
      else (∀ C, C = C1 ∨ (bif b then False else C = C2) → ∀ w, C w → WL P n NoR ops [o] (.cut (CI n (fun _ : Unit => putS o.dst v []) (fun _ w' => Below w.heap.size w w')) .fin) (hEnv (fun _ => 0) (H0.map .q) ops (depsOf ops i) ++ σ) w)) ∧ AllS P n ops H0 σ s C1 C2 (i + 1) H l
  | _, [], _ => True
  | _, _ :: _, [] => False
theorem AllS.at {P : Program} {n : Nat} {ops : Array Oper} {H0 : List Value} {σ : Env} {s : Nat} {C1 C2 : World → Prop} : ∀ (H : List (Value × Bool)) (l : List Oper) (m : Nat), AllS P n ops H0 σ s C1 C2 m H l → ∀ (i : Nat) (v : Value × Bool) (o : Oper), H[i]? = some v → l[i]? = some o →
    (bif Nat.beq (m + i) s then (∀ w, C1 w → WL P n NoR ops [o] (.cut (CI n (fun _ : Unit => ([] : Env)) (fun _ w' => C2 w')) .fin) (hEnv (fun _ => 0) (H0.map .q) ops (depsOf ops (m + i)) ++ σ) w)
      else (∀ C, C = C1 ∨ (bif v.2 then False else C = C2) → ∀ w, C w → WL P n NoR ops [o] (.cut (CI n (fun _ : Unit => putS o.dst v.1 []) (fun _ w' => Below w.heap.size w w')) .fin) (hEnv (fun _ => 0) (H0.map .q) ops (depsOf ops (m + i)) ++ σ) w))
  | [], _, _, _, i, v, o, hi, _ => by simp at hi
  | _ :: _, [], _, _, i, v, o, _, ho => by simp at ho
  | x :: F, o' :: l, m, h, 0, v, o, hi, ho => by
    simp only [List.getElem?_cons_zero, Option.some.injEq] at hi ho
    subst hi; subst ho
    exact h.1
  | x :: F, o' :: l, m, h, i + 1, v, o, hi, ho => by
    rw [show m + (i + 1) = m + 1 + i by omega]
    exact AllS.at F l (m + 1) h.2 i v o (by simpa using hi) (by simpa using ho)
theorem W.drawS {P : Program} {n : Nat} {R : Exit → Act → World → Prop} {k : Kt} {w : World} {id : Nat} {l : List Oper} {w0 ws : World} {ro : Nat → Prop} {L L' : List (Nat × Obj)} {Rs : List Row} (hm : P.follows .mixedOrders = true) (h s : Nat) (HD : List (Value × Bool)) (hB : drawB l.toArray h = true) (hlen : Nat.beq HD.length h = true) (hD : HD.map (·.2) = (List.range h).map fun i => (depsOf l.toArray s).contains i)
    (hs : ((l.toArray[s]?).bind (·.dst)).isNone = true) (hs2 : Nat.blt s h = true) (σ : Env) {σ0 : Env} (hsub : Sub σ σ0) (hds : dstsB l.toArray h n σ = true) (hS : St w0 ws w ro L Rs)
    (hq : AllS P n l.toArray (HD.map (·.1)) σ s (fun w => St w0 ws w ro L Rs) (fun w => St w0 ws w ro L' Rs) 0 HD l)
    (fin : ∀ w', St w0 ws w' ro L' Rs → WL P n R l.toArray (l.drop h) k (hEnv (fun _ => 0) ((HD.map (·.1)).map .q) l.toArray (List.range h) ++ σ) w') :
    W P n R (.region id l.toArray true) k σ0 w := by
  refine ⟨fun a hk0 => wp_region_any hm ?_⟩
  obtain ⟨H, hHe⟩ : ∃ H, H = HD.map (·.1) := ⟨_, rfl⟩
  rw [← hHe] at hq fin
  have hH : H.length = h := by rw [hHe, List.length_map]; exact Nat.eq_of_beq_eq_true hlen
  have hslt : s < h := by simpa [Nat.blt_eq] using hs2
  have hk := hk0.sub hsub
  have hB' := hB
  simp only [drawB, Bool.and_eq_true, Nat.ble_eq] at hB'
  have hle : h ≤ l.toArray.size := hB'.1.1
  have hso : ∃ os, l.toArray[s]? = some os := ⟨_, Array.getElem?_eq_getElem (by omega)⟩
  obtain ⟨os, hso⟩ := hso
  refine wpAny_inv (l := l) (h := h) rfl hB (fun p a u => Known n a σ ∧ (∀ i v d, i < h → p i = true → H[i]? = some v → (l.toArray[i]?).bind (·.dst) = some d → a.tmps.getD d undef = v) ∧ St w0 ws u ro (bif p s then L' else L) Rs ∧ (p s = true → ∀ e ∈ os.after, Region.binds .any e = true → p e.on = true)) ?_ ?_ ?_ l.toArray.size _ a _ (by simp) (fun j _ _ hj => by rw [getD_replicate_false] at hj; cases hj) (fun t _ => getD_replicate_false _ _) ?_ ?_
  · rintro p p' a w hpp ⟨h1, h2, h3, h4⟩
    refine ⟨h1, fun i v d hi hp => h2 i v d hi (by rw [hpp i hi]; exact hp), by rw [← hpp s hslt]; exact h3, fun hp e he hb => ?_⟩
    have := headB_head hB'.1.2 hso hslt e he hb
    rw [← hpp e.on (by omega)]
    exact h4 (by rw [hpp s hslt]; exact hp) e he hb
  · rintro p a u i o ⟨h1, h2, h3, h4⟩ hi ho hpi hdep
    have hlH : i < H.length := by omega
    have hΦ : H[i]? = some H[i] := List.getElem?_eq_getElem hlH
    have hlD : i < HD.length := by rw [hHe, List.length_map] at hlH; exact hlH
    have hw := AllS.at HD l 0 hq i HD[i] o (List.getElem?_eq_getElem hlD) (by simpa using ho)
    have hv1 : HD[i].1 = H[i] := by simp [hHe]
    have hv2 : HD[i].2 = (depsOf l.toArray s).contains i := by
      have h9 := congrArg (fun z => z[i]?) hD
      simp only [List.getElem?_map, List.getElem?_eq_getElem hlD, List.getElem?_range hi, Option.map_some, Option.some.injEq] at h9
      exact h9
    rw [Nat.zero_add, hv1, hv2] at hw
    have hkd : Known n a (hEnv (fun _ => 0) (H.map .q) l.toArray (depsOf l.toArray i) ++ σ) := known_hEnv h1 fun j hj o2 d hHj hd => by
      simp only [depsOf, ho] at hj
      obtain ⟨e, he, rfl⟩ := List.mem_map.1 hj
      obtain ⟨he1, he2⟩ := List.mem_filter.1 he
      have hon := headB_head hB'.1.2 ho hi e (by simpa using he1) he2
      rw [List.getElem?_map] at hHj
      obtain ⟨v, hv, rfl⟩ := Option.map_eq_some_iff.1 hHj
      exact h2 e.on v d (by omega) (hdep e (by simpa using he1) he2) hv hd
    by_cases his : i = s
    · subst his
      rw [Nat.beq_refl, cond_true] at hw
      rw [hpi, cond_false] at h3
      have hdn : o.dst = none := by rw [ho] at hs; simpa using hs
      refine store_run ho hdn (hw u h3) hkd fun w' v hC => ?_
      have hpe : a.put o.dst v = a := by rw [hdn]; rfl
      rw [hpe]
      refine ⟨h1, fun j v' d hj hp hj2 hd => ?_, by simp only [Nat.beq_refl, cond_true]; exact hC, fun _ e he hb => ?_⟩
      · by_cases e : j = i
        · subst e; rw [ho] at hd; simp [hdn] at hd
        · simp only [beqF e, cond_false] at hp
          exact h2 j v' d hj hp hj2 hd
      · rw [hso] at ho; cases ho
        simp only [hdep e he hb]; cases Nat.beq e.on i <;> rfl
    · rw [beqF his, cond_false] at hw
      have hdst : ∀ d, o.dst = some d → (l.toArray[i]?).bind (·.dst) = some d := fun d e => by rw [ho]; exact e
      have hdd : dOk n o.dst = true := by
        cases hd : o.dst with
        | none => rfl
        | some d => simpa [dOk, Nat.blt_eq] using (dsts_spec hds hi (hdst d hd)).1
      have hC : ∃ C : World → Prop, C u ∧ (C = (fun w => St w0 ws w ro L Rs) ∨ (bif (depsOf l.toArray s).contains i then False else C = (fun w => St w0 ws w ro L' Rs))) := by
        cases hps : p s with
        | false => rw [hps] at h3; exact ⟨fun w => St w0 ws w ro L Rs, h3, .inl rfl⟩
        | true =>
          rw [hps] at h3
          refine ⟨fun w => St w0 ws w ro L' Rs, h3, .inr ?_⟩
          have hnc : (depsOf l.toArray s).contains i = false := by
            cases hc : (depsOf l.toArray s).contains i with
            | false => rfl
            | true =>
              simp only [List.contains_iff_mem, depsOf, hso] at hc
              obtain ⟨e, he, he3⟩ := List.mem_map.1 hc
              obtain ⟨he1, he2⟩ := List.mem_filter.1 he
              have := h4 hps e (by simpa using he1) he2
              rw [he3, hpi] at this; cases this
          rw [hnc]; rfl
      obtain ⟨C, hCu, hCo⟩ := hC
      refine quiet1_run (C := C) ho (fun w hw2 => hw C hCo w hw2) hkd hCu ?_ hdd
      intro w' v hb hv
      refine ⟨known_put h1 fun d e => (dsts_spec hds hi (hdst d e)).2.1, fun j v' d hj hp hj2 hd => ?_, ?_, ?_⟩
      · by_cases e : j = i
        · subst e
          rw [hΦ] at hj2; cases hj2
          rw [ho] at hd
          have hd' : o.dst = some d := hd
          rw [hd', put_same (by rw [h1.size]; exact (dsts_spec hds hi (hdst d hd')).1)]
          exact hv d hd'
        · simp only [beqF e, cond_false] at hp
          have h5 := h2 j v' d hj hp hj2 hd
          cases hod : o.dst with
          | none => exact h5
          | some d2 =>
            rw [← h5]
            exact put_other fun e2 => (dsts_spec hds hi (hdst d2 hod)).2.2 j d hj e hd e2.symm
      · have e : Nat.beq s i = false := beqF (fun e => his e.symm)
        simp only [e, cond_false]; exact h3.grow hb
      · intro hp e he hb2
        have e2 : Nat.beq s i = false := beqF (fun e => his e.symm)
        simp only [e2, cond_false] at hp
        simp only [h4 hp e he hb2]; cases Nat.beq e.on i <;> rfl
  · rintro a u ⟨h1, h2, h3, _⟩
    exact (fin u h3).out a (known_hEnv h1 fun i hi o d hHi hd => by
      rw [List.getElem?_map] at hHi
      obtain ⟨v, hv, rfl⟩ := Option.map_eq_some_iff.1 hHi
      exact h2 i v d (List.mem_range.1 hi) rfl hv hd)
  · have hf : (List.range h).filter (fun i => !(Array.replicate l.toArray.size false).getD i false) = List.range h := by
      rw [List.filter_eq_self]
      intro i _
      rw [getD_replicate_false]; rfl
    rw [hf, List.length_range]
    omega
  · refine ⟨hk, fun i v d _ hp => (by simp only [getD_replicate_false] at hp; cases hp), ?_, fun hp => (by simp only [getD_replicate_false] at hp; cases hp)⟩
    simp only [getD_replicate_false, cond_false]
    exact hS.grow ((Below.refl _ w).drew)
end Go.Proofs.Ytdlcmhkfglckfaa

namespace Go.Proofs.Ytdlcmhkfglckfaa
open Go.RowKit

section
variable {w0 ws w : World} {ro : Nat → Prop} {L : List (Nat × Obj)} {Rs : List Row} {b : Nat} {o : Obj}
theorem St.give (h : St w0 ws w ro ((b, o) :: L) Rs) : St w0 w w (fun x => ro x ∨ x = b) L Rs := by
  have hk : b ∈ keysOf ((b, o) :: L) Rs := by simp [keysOf]
  have hnd := h.nodup
  simp only [keysOf, List.map_cons, List.cons_append, List.nodup_cons] at hnd
  refine ⟨h.below, fun x hx => ⟨hx.elim (fun hx => (h.snap x hx).1) (fun hx => by rw [hx]; exact (h.keys b hk).2.1), rfl⟩, fun p hp => h.own p (List.mem_cons_of_mem _ hp), h.rows, fun x hx => ?_, hnd.2⟩
  have hx' : x ∈ keysOf ((b, o) :: L) Rs := by simp only [keysOf, List.map_cons, List.cons_append]; exact List.mem_cons_of_mem _ hx
  obtain ⟨h1, h2, h3⟩ := h.keys x hx'
  exact ⟨h1, h2, fun hr => hr.elim h3 fun e => hnd.1 (by rw [← e]; exact hx)⟩
theorem St.giveAlike (h : St w0 ws w ro ((b, o) :: L) Rs) : Alike ro ws (fun x => ro x ∨ x = b) w := fun x hx => ⟨.inl hx, (h.snap x hx).2⟩
theorem St.giveLe (h : St w0 ws w ro ((b, o) :: L) Rs) : w0.heap.size ≤ b := (h.keys b (by simp [keysOf])).1
/-- A row of the call's own that is only read from here on. -/
theorem St.giveRow {r : Row} (h : St w0 ws w ro L (r :: Rs)) : St w0 w w (fun x => ro x ∨ r.v.ownBlock = some x) L Rs := by
  have hs : List.Sublist (keysOf L Rs) (keysOf L (r :: Rs)) := List.Sublist.append (List.Sublist.refl _) ((List.sublist_cons_self r Rs).filterMap _)
  have hk : ∀ x, r.v.ownBlock = some x → x ∈ keysOf L (r :: Rs) := fun x e => by simp only [keysOf, List.mem_append, List.mem_filterMap]; exact .inr ⟨r, List.mem_cons_self, e⟩
  refine ⟨h.below, fun x hx => ⟨hx.elim (fun hx => (h.snap x hx).1) (fun hx => (h.keys x (hk x hx)).2.1), rfl⟩, h.own, fun q hq => h.rows q (List.mem_cons_of_mem _ hq), fun x hx => ?_, List.Nodup.sublist hs h.nodup⟩
  obtain ⟨h1, h2, h3⟩ := h.keys x (hs.subset hx)
  refine ⟨h1, h2, fun hr => hr.elim h3 fun e => ?_⟩
  have hnd := h.nodup
  simp only [keysOf, List.filterMap_cons, e] at hnd
  have hp : (List.map (·.1) L ++ x :: List.filterMap (fun q : Row => q.v.ownBlock) Rs).Perm (x :: (List.map (·.1) L ++ List.filterMap (fun q : Row => q.v.ownBlock) Rs)) := List.perm_middle
  have := (List.nodup_cons.1 (hp.nodup_iff.1 hnd)).1
  exact this hx
theorem St.giveRowAlike {r : Row} (h : St w0 ws w ro L (r :: Rs)) : Alike ro ws (fun x => ro x ∨ r.v.ownBlock = some x) w := fun x hx => ⟨.inl hx, (h.snap x hx).2⟩
theorem St.giveRowLe {r : Row} (h : St w0 ws w ro L (r :: Rs)) : ∀ x, r.v.ownBlock = some x → w0.heap.size ≤ x := fun x e =>
  (h.keys x (by simp only [keysOf, List.mem_append, List.mem_filterMap]; exact .inr ⟨r, List.mem_cons_self, e⟩)).1
theorem St.permR {Rs' : List Row} (h : St w0 ws w ro L Rs) (hp : Rs.Perm Rs') : St w0 ws w ro L Rs' := by
  have hk : (keysOf L Rs).Perm (keysOf L Rs') := List.Perm.append_left _ (hp.filterMap _)
  exact ⟨h.below, h.snap, h.own, fun r hr => h.rows r (hp.mem_iff.2 hr), fun x hx => h.keys x (hk.mem_iff.2 hx), hk.nodup_iff.1 h.nodup⟩
/-- What is read more in between is forgotten. -/
theorem St.backTo {ro' : Nat → Prop} {ws0 : World} (h : St w0 ws w ro' L Rs) (ha : Alike ro ws0 ro' ws) : St w0 ws0 w ro L Rs :=
  ⟨h.below, fun b hb => ⟨(h.snap b (ha b hb).1).1, (h.snap b (ha b hb).1).2.trans (ha b hb).2⟩, h.own, h.rows, fun x hx => ⟨(h.keys x hx).1, (h.keys x hx).2.1, fun hr => (h.keys x hx).2.2 (ha x hr).1⟩, h.nodup⟩
end
theorem stays_new {α : Type} {B sz : Nat} {Q : List Value → α → Prop} {xs : List α} : Stays fun v u => SlV (fun b => B ≤ b ∧ b < u.heap.size) u sz Q v xs := fun _ _ _ h hb =>
  h.keep (fun b hr => ⟨⟨hr.1, Nat.lt_of_lt_of_le hr.2 hb.size⟩, hb.block b hr.2⟩) fun _ _ q => q
theorem newUp {α : Type} {B sz : Nat} {Q : List Value → α → Prop} {xs : List α} {v : Value} {wd w' : World} (h : SlV (fun b => wd.heap.size ≤ b ∧ b < w'.heap.size) w' sz Q v xs) (hb : B ≤ wd.heap.size) : SlV (fun b => B ≤ b ∧ b < w'.heap.size) w' sz Q v xs :=
  h.keep (fun _ hr => ⟨⟨Nat.le_trans hb hr.1, hr.2⟩, rfl⟩) fun _ _ q => q
section
open Go.MapKept
variable {P : Program} {n : Nat} {R : Exit → Act → World → Prop} {k : Kt} {σ : Env} {w : World} {ops : Array Oper} {rest : List Oper}
variable {ty : TypeId} {pos : String} {af : Array Edge} {gd : Option (Nat × Bool)}
variable {w0 ws : World} {ro : Nat → Prop} {L : List (Nat × Obj)} {Rs : List Row}
variable {κ ν : Type} {kv : κ → Value} {vv : ν → Value} {es : Array MapEntry} {clock m : Nat} {g : κ → Option ν} {dk : TypeDesc} {mty kt et b : Nat}
theorem WL.mapDel [DecidableEq κ] {x y : Operand} (i : Nat) (key : κ) (he : KeyE dk kv) (hm : P.underlying mty = some (.map kt et)) (hdk : P.underlying kt = some dk) (hM : MapG kv vv es clock m g) (hg : want ops σ gd = some true)
    (hx : ev σ x = some (.map (some b))) (hy : ev σ y = some (kv key)) (hL : L[i]? = some (b, .map es clock)) (hS : St w0 ws w ro L Rs)
    (h : ∀ w' es' clock', MapG kv vv es' clock' m (delG g key) → St w0 ws w' ro (L.set i (b, .map es' clock')) Rs → WL P n R ops rest k σ w') :
    WL P n R ops (⟨none, .call { callee := .builtin .delete, args := #[x, y], argTypes := #[mty, kt] }, ty, pos, af, gd⟩ :: rest) k σ w := by
  have hb := hS.own _ (List.mem_of_getElem? hL)
  obtain ⟨es', clock', hr, hM'⟩ := hM.run_del (P := P) he hm hdk hb key ty
  exact WL.valW (o := ⟨none, .call { callee := .builtin .delete, args := #[x, y], argTypes := #[mty, kt] }, ty, pos, af, gd⟩) (v := .tuple #[]) hg rfl (fun a ha => by simp [execOp, resolve, invoke, builtin, ha.eval hx, ha.eval hy, hr])
    (h _ _ _ hM' (hS.upd hL (grownBy_setObj w _ hb) (heap_set hb).1))
end
end Go.Proofs.Ytdlcmhkfglckfaa
