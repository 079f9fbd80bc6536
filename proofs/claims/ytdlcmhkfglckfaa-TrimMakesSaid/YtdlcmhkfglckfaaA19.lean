/-
  A loop over a function, in the walks of these claims: what an iterator promises, the loop, and how a function with such a loop ends. No condition beyond those that each theorem states.
-/
import Derived.Test.YtdlcmhkfglckfaaA18
namespace Go.Proofs.Ytdlcmhkfglckfaa
open Go.RowKit

/-- All that there is but what is the call's own. -/
def othK (A : World) (L : List (Nat × Obj)) (Rs : List Row) : Nat → Prop := fun b => b < A.heap.size ∧ b ∉ keysOf L Rs
section
variable {w0 ws w A B : World} {ro : Nat → Prop} {L L' : List (Nat × Obj)} {Rs Rs' : List Row}
theorem St.wide (h : St w0 ws w ro L Rs) : St w0 w w (othK w L Rs) L Rs :=
  ⟨h.below, fun b hb => ⟨hb.1, rfl⟩, h.own, h.rows, fun x hx => ⟨(h.keys x hx).1, (h.keys x hx).2.1, fun hn => hn.2 hx⟩, h.nodup⟩
theorem St.narrow (h : St w0 ws A ro L Rs) (h2 : St w0 A B (othK A L Rs) L' Rs') : St w0 ws B ro L' Rs' := by
  have hro : ∀ b, ro b → othK A L Rs b := fun b hb => ⟨(h.snap b hb).1, fun hk => (h.keys b hk).2.2 hb⟩
  exact ⟨h2.below, fun b hb => ⟨(h2.snap b (hro b hb)).1, (h2.snap b (hro b hb)).2.trans (h.snap b hb).2⟩, h2.own, h2.rows, fun x hx => ⟨(h2.keys x hx).1, (h2.keys x hx).2.1, fun hn => (h2.keys x hx).2.2 (hro x hn)⟩, h2.nodup⟩
/-- A block that is no cells, laid behind 'Bd', turns. -/
theorem St.record (h : St w0 ws A ro L Rs) {row : Option Nat} (hg : A.grownBy B row) {Bd : Nat} (hBd : w0.heap.size ≤ Bd) (hr : ∀ q, row = some q → Bd ≤ q ∧ ∃ o, A.heap[q]? = some o ∧ o.isCells = false) (hro : ∀ b, ro b → b < Bd) (hL : ∀ p ∈ L, p.2.isCells = true ∨ p.1 < Bd) : St w0 ws B ro L Rs := by
  refine ⟨h.below.grown hg h.below.size (fun k e => Nat.le_trans hBd (hr k e).1), ?_, ?_, ?_, ?_, h.nodup⟩
  · intro b hb
    obtain ⟨h1, h2⟩ := h.snap b hb
    refine ⟨Nat.lt_of_lt_of_le h1 hg.size, (hg.block b h1 fun e => ?_).trans h2⟩
    have := (hr b e.symm).1
    have := hro b hb
    omega
  · intro p hp
    have h1 := h.own p hp
    refine (hg.block p.1 (Array.getElem?_eq_some_iff.1 h1).1 fun e => ?_).trans h1
    obtain ⟨h2, o, h3, h4⟩ := hr _ e.symm
    rw [h1] at h3
    cases h3
    rcases hL p hp with h5 | h5
    · rw [h4] at h5; cases h5
    · omega
  · intro q hq
    refine (h.rows q hq).kept hg ?_
    cases hv : q.v.ownBlock with
    | none => exact .inl rfl
    | some g =>
      refine .inr fun e => ?_
      obtain ⟨_, o, h3, h4⟩ := hr g e.symm
      rcases (h.rows q hq).2 with ⟨h5, _⟩ | ⟨g', cap, cur, h5, _, h6, _⟩
      · rw [h5] at hv; cases hv
      · rw [h5] at hv
        simp only [Value.ownBlock, Option.some.injEq] at hv
        subst hv
        rw [h6] at h3
        cases h3
        cases h4
  · intro x hx
    obtain ⟨h1, h2, h3⟩ := h.keys x hx
    exact ⟨h1, Nat.lt_of_lt_of_le h2 hg.size, h3⟩
/-- What is the call's own is known by its kind: cells not of type T, or a block ahead of 'Bd' that is no cells. -/
def TyOk (T Bd : Nat) (L : List (Nat × Obj)) (Rs : List Row) : Prop := (∀ p ∈ L, (∃ c t fr, p.2 = .cells c t fr ∧ t ≠ T) ∨ (p.1 < Bd ∧ p.2.isCells = false)) ∧ ∀ r ∈ Rs, r.e ≠ T
theorem TyOk.cells {T Bd : Nat} (h : TyOk T Bd L Rs) : ∀ p ∈ L, p.2.isCells = true ∨ p.1 < Bd := fun p hp => by
  rcases h.1 p hp with ⟨c, t, fr, e, _⟩ | ⟨h1, _⟩
  · left; rw [e]; rfl
  · exact .inr h1
/-- Which blocks are not the call's own. -/
theorem St.notOwn (h : St w0 ws A ro L Rs) {T Bd k : Nat} {o : Obj} (ht : TyOk T Bd L Rs) (hk : A.heap[k]? = some o) (ho : (∃ c fr, o = .cells c T fr) ∨ (Bd ≤ k ∧ o.isCells = false)) : othK A L Rs k := by
  refine ⟨(Array.getElem?_eq_some_iff.1 hk).1, fun hx => ?_⟩
  simp only [keysOf, List.mem_append, List.mem_map, List.mem_filterMap] at hx
  rcases hx with ⟨p, hp, rfl⟩ | ⟨q, hq, hv⟩
  · have h1 := h.own p hp
    rw [hk] at h1
    cases h1
    rcases ht.1 p hp with ⟨c, t, fr, e, hne⟩ | ⟨h2, h3⟩
    · rcases ho with ⟨c', fr', e'⟩ | ⟨_, h4⟩
      · rw [e] at e'; cases e'; exact hne rfl
      · rw [e] at h4; cases h4
    · rcases ho with ⟨c', fr', e'⟩ | ⟨h4, _⟩
      · rw [e'] at h3; cases h3
      · omega
  · rcases (h.rows q hq).2 with ⟨h5, _⟩ | ⟨g', cap, cur, h5, _, h6, _⟩
    · rw [h5] at hv; cases hv
    · rw [h5] at hv
      simp only [Value.ownBlock, Option.some.injEq] at hv
      subst hv
      rw [hk] at h6
      cases h6
      rcases ho with ⟨c', fr', e'⟩ | ⟨_, h4⟩
      · cases e'; exact ht.2 q hq rfl
      · cases h4
end
/-- What a round keeps for the iterator: what there was at the call's begin, and cells of type T. -/
structure KpT (w0 : World) (T : Nat) (A B : World) : Prop where
  below : Below w0.heap.size w0 A → Below w0.heap.size w0 B
  kept : ∀ (k : Nat) (c : Array Value) (fr : Nat × Nat), A.heap[k]? = some (Obj.cells c T fr) → B.heap[k]? = some (Obj.cells c T fr)
theorem KpT.trans {w0 A B C : World} {T : Nat} (h : KpT w0 T A B) (k : KpT w0 T B C) : KpT w0 T A C := ⟨fun x => k.below (h.below x), fun i c fr hi => k.kept i c fr (h.kept i c fr hi)⟩
theorem KpT.ofSt {w0 ws A B : World} {ro : Nat → Prop} {L L' : List (Nat × Obj)} {Rs Rs' : List Row} {T Bd : Nat} (h : St w0 ws A ro L Rs) (ht : TyOk T Bd L Rs) (h2 : St w0 A B (othK A L Rs) L' Rs') : KpT w0 T A B :=
  ⟨fun _ => h2.below, fun k c fr hk => (h2.snap k (h.notOwn ht hk (.inl ⟨c, fr, rfl⟩))).2.trans hk⟩
theorem KpT.put {w0 A : World} {T l : Nat} {o o' : Obj} (hl : w0.heap.size ≤ l) (hk : A.heap[l]? = some o) (ho : o.isCells = false) : KpT w0 T A (A.putObj l o') := by
  refine ⟨fun h => h.grown (grownBy_putObj' A l o') h.size (fun k e => by cases e; exact hl), fun k c fr hc => ?_⟩
  rw [World.putObj_heap_other (fun e => by subst e; rw [hk] at hc; cases hc; cases ho)]
  exact hc
/-- An iterator over xs: whoever is handed to it as 'yield', and whatever he keeps in mind. -/
def IterK {α : Type} (P : Program) (gf : Nat) (lb : Array Value) (enc : α → Value) (xs : List α) (w0 : World) (T : Nat) (w : World) : Prop :=
  ∀ (l : Nat) (J : List α → World → Prop) (W : World), Below w.heap.size w W → (∀ s A B, J s A → Below A.heap.size A B → J s B) →
    (∀ pre e A, J pre A → pre ++ [e] <+: xs → YieldAt Fence.wide 0 P l #[enc e] A fun e' B => e' = .returned (.bool true) ∧ J (pre ++ [e]) B ∧ KpT w0 T A B) → J [] W →
    Calls P gf (#[.func (.yield l) #[] #[]] ++ lb) W fun e' W' => (∃ v, e' = .returned v) ∧ J xs W'
def markOf (D : Nat) : Deferred := { target := .collected D, args := #[] }

section
variable {P : Program} {n : Nat} {R : Exit → Act → World → Prop} {k : Kt} {σ : Env} {w : World}
/-- 'for x := range g { .. }', of which no round is left early. -/
theorem WX.range {α γ : Type} {g : Operand} {p : Nat} {assign body : Code} {gf : Nat} {fn : Func} {lb : Array Value} {enc : α → Value} {xs : List α} {w0 ws : World} {ro : Nat → Prop} {T : Nat}
    (hg : ev σ g = some (.func (.func gf) #[] lb)) (hf : P.funcs[gf]? = some fn) (hb : (fn.body.isSome && !(fn.name == "runtime.NumGoroutine")) = true) (hp : Nat.blt p n = true)
    (hit : IterK P gf lb enc xs w0 T w) (LI : List α → γ → List (Nat × Obj)) (RI : List α → γ → List Row) (FI : List α → γ → Prop) (x0 : γ) (h0 : FI [] x0) (hS : St w0 ws w ro (LI [] x0) (RI [] x0))
    (hT : ∀ pre x, FI pre x → TyOk T w.heap.size (LI pre x) (RI pre x))
    (round : ∀ l pre e x A, FI pre x → pre ++ [e] <+: xs → St w0 A A (othK A (LI pre x) (RI pre x)) (LI pre x) (RI pre x) →
      ∃ (β : Type) (σ1 : β → Env) (L1 : β → List (Nat × Obj)) (R1 : β → List Row), (∀ y, TyOk T w.heap.size (L1 y) (R1 y)) ∧
        WX (some l) [] P n NoR assign (.cut (CX n [] σ1 fun y B => St w0 A B (othK A (LI pre x) (RI pre x)) (L1 y) (R1 y)) .fin) ((p, enc e) :: σ) A ∧
        ∀ y B, St w0 B B (othK B (L1 y) (R1 y)) (L1 y) (R1 y) →
          WX (some l) [] P n NoR body (.cut (CX n [] (fun _ : γ => []) fun x' C => FI (pre ++ [e]) x' ∧ St w0 B C (othK B (L1 y) (R1 y)) (LI (pre ++ [e]) x') (RI (pre ++ [e]) x')) .fin) (σ1 y) B)
    (after : ∀ D W x, FI xs x → St w0 ws W ro (LI xs x) (RI xs x) → w.heap.size ≤ D → W.heap[D]? = some (.deferred (some [])) → NX none [markOf D] P n R k σ W) :
    WX none [] P n R (.rangeFunc g #[p] assign body) k σ w := by
  refine ⟨fun tm ha => wpIn_rangeFunc fun fn0 hfn0 => ?_⟩
  have hw0 : w0.heap.size ≤ w.heap.size := hS.below.size
  have hro : ∀ b, ro b → b < w.heap.size := fun b hb => (hS.snap b hb).1
  obtain ⟨rec, hrec⟩ : ∃ rec : LoopState → Option Code → Loop, rec = fun st pe => { state := st, pending := pe, fn := fn0, tmps := tm, params := #[p], assign, body, defers := w.heap.size } := ⟨_, rfl⟩
  obtain ⟨W1, hW1⟩ : ∃ W1, (w.alloc (.deferred (some []))).alloc (.loop (rec .ready none)) = W1 := ⟨_, rfl⟩
  have hL1 : W1.heap[w.heap.size + 1]? = some (.loop (rec .ready none)) := by
    rw [← hW1]; have := World.alloc_heap_new (w.alloc (.deferred (some []))) (.loop (rec .ready none)); rwa [World.size_alloc] at this
  have hK1 : W1.heap[w.heap.size]? = some (.deferred (some [])) := by
    rw [← hW1]; exact (Below.heap_alloc _ _ _ (by simp)).trans (World.alloc_heap_new w _)
  have hb1 : Below w.heap.size w W1 := by
    rw [← hW1]; exact ((Below.refl _ w).alloc (Nat.le_refl _) _).alloc (by simp) _
  have hname : fn.name ≠ "runtime.NumGoroutine" := by
    simp only [Bool.and_eq_true, Bool.not_eq_true', beq_eq_false_iff_ne] at hb; exact hb.2
  refine ⟨w.heap.size + 1, [markOf w.heap.size], W1, { target := .fn (.func gf) lb, args := #[.func (.yield (w.heap.size + 1)) #[] #[]] }, W1, gf,
    #[.func (.yield (w.heap.size + 1)) #[] #[]] ++ lb, W1, ?_, ?_, fun _ _ => trivial, ?_, fun h => (by cases h), ?_⟩
  · rw [← hW1, hrec]; exact run_enterLoop_outer _ _ _ _ _
  · simp only [resolve, ha.evalX hg]
    simp [go_sem]
  · obtain ⟨c, hc⟩ : ∃ c, fn.body = some c := by
      cases hc : fn.body with
      | none => rw [hc] at hb; cases hb
      | some c => exact ⟨c, rfl⟩
    simp [invoke, go_sem, callFunc, hf, hname, hc, mark]
  · refine callsR (r := none) ?_
    refine (hit (w.heap.size + 1) (fun pre W => ∃ x, FI pre x ∧ St w0 ws W ro (LI pre x) (RI pre x) ∧ W.heap[w.heap.size + 1]? = some (.loop (rec .ready none)) ∧ W.heap[w.heap.size]? = some (.deferred (some [])))
      W1 hb1 ?_ ?_ ⟨x0, h0, hS.grow hb1, hL1, hK1⟩).mono ?_
    · rintro s A B ⟨x, h1, h2, h3, h4⟩ hAB
      exact ⟨x, h1, h2.grow hAB, (hAB.block _ (Array.getElem?_eq_some_iff.1 h3).1).trans h3, (hAB.block _ (Array.getElem?_eq_some_iff.1 h4).1).trans h4⟩
    · rintro pre e A ⟨x, hF, hSA, hl, hk⟩ hpre
      have hy := run_yield (P := P) (args := #[enc e]) hl (by rw [hrec]; rfl)
      rw [hrec] at hy
      refine ⟨fn0, _, assign, body, hy, roundIn_of_wpIn trivial ?_⟩
      obtain ⟨β, σ1, L1, R1, hT1, has, hbo⟩ := round (w.heap.size + 1) pre e x A hF hpre hSA.wide
      have hkn : Known n ⟨(#[p].zip #[enc e]).foldl (fun t (q, v) => t.setIfInBounds q v) tm, []⟩ ((p, enc e) :: σ) := by
        have := ha.put (d := some p) (by simpa [dOk] using hp) (enc e)
        simpa [Act.put, putS] using this
      refine wpIn_mono (has.out _ hkn) ?_
      intro ex a1 w1 hq
      cases ex with
      | normal =>
        obtain ⟨y, tm1, rfl, hk1, hS1⟩ := hq
        have hnl : othK A (LI pre x) (RI pre x) (w.heap.size + 1) := hSA.notOwn (hT pre x hF) hl (.inr ⟨by omega, rfl⟩)
        have hnk : othK A (LI pre x) (RI pre x) w.heap.size := hSA.notOwn (hT pre x hF) hk (.inr ⟨by omega, rfl⟩)
        have hl1 := (hS1.snap _ hnl).2.trans hl
        have hk1' := (hS1.snap _ hnk).2.trans hk
        refine ⟨_, run_beginRound hl1 (by rw [hrec]), ?_⟩
        have hB := (hSA.narrow hS1)
        have hB2 := hB.record (grownBy_putObj' w1 (w.heap.size + 1) (.loop { rec .ready none with state := .busy })) (Bd := w.heap.size) hw0 (fun q e => by cases e; exact ⟨by omega, _, hl1, rfl⟩) hro (hT1 y).cells
        have hl2 : (w1.putObj (w.heap.size + 1) (.loop { rec .ready none with state := .busy })).heap[w.heap.size + 1]? = some (.loop { rec .ready none with state := .busy }) := World.putObj_heap_same (Array.getElem?_eq_some_iff.1 hl1).1
        have hk2 : (w1.putObj (w.heap.size + 1) (.loop { rec .ready none with state := .busy })).heap[w.heap.size]? = some (.deferred (some [])) := (World.putObj_heap_other (by omega)).trans hk1'
        refine wpIn_mono ((hbo y _ hB2.wide).out tm1 hk1) ?_
        intro ex2 a2 w2 hq2
        cases ex2 with
        | normal =>
          obtain ⟨x', tm2, rfl, _, hF', hS2⟩ := hq2
          have hnl2 := hB2.notOwn (hT1 y) hl2 (.inr ⟨by omega, rfl⟩)
          have hnk2 := hB2.notOwn (hT1 y) hk2 (.inr ⟨by omega, rfl⟩)
          have hl3 := (hS2.snap _ hnl2).2.trans hl2
          have hk3 := (hS2.snap _ hnk2).2.trans hk2
          have hend := run_endRound (P := P) none hl3
          refine ⟨_, _, hend, rfl, ⟨x', hF', ?_, ?_, ?_⟩, ?_⟩
          · exact (hB2.narrow hS2).record (grownBy_putObj' _ _ _) (Bd := w.heap.size) hw0 (fun q e => by cases e; exact ⟨by omega, _, hl3, rfl⟩) hro (hT _ x' hF').cells
          · rw [World.putObj_heap_same (Array.getElem?_eq_some_iff.1 hl3).1, hrec]; rfl
          · exact (World.putObj_heap_other (by omega)).trans hk3
          · exact (((KpT.ofSt hSA (hT pre x hF) hS1).trans (KpT.put (by omega) hl1 rfl)).trans (KpT.ofSt hB2 (hT1 y) hS2)).trans (KpT.put (by omega) hl3 rfl)
        | ret => exact hq2.elim
        | exit id => exact hq2.elim
        | goto t => exact hq2.elim
        | panic ch => exact hq2.elim
        | outgrown => exact hq2.elim
      | ret => exact hq.elim
      | exit id => exact hq.elim
      | goto t => exact hq.elim
      | panic ch => exact hq.elim
      | outgrown => exact hq.elim
    · rintro e W2 ⟨⟨v, rfl⟩, x, hF, hSW, hl, hk⟩
      refine ⟨none, _, by have := run_endLoop (P := P) hl (by rw [hrec]; simp); rw [hrec] at this; exact this, ?_⟩
      refine (after w.heap.size _ x hF (hSW.record (grownBy_putObj' W2 (w.heap.size + 1) _) (Bd := w.heap.size) hw0 (fun q e => by cases e; exact ⟨by omega, _, hl, rfl⟩) hro (hT _ x hF).cells) (Nat.le_refl _) ?_).out tm ha
      exact (World.putObj_heap_other (by omega)).trans hk
/-- The end of a body with a loop over a function. -/
def FinM (P : Program) (fn : Func) (R : Value → World → Prop) : Exit → Act → World → Prop := bodyPostM Fence.wide 0 P fn fun e w' => ∃ v, e = .returned v ∧ R v w'
theorem FinM.ret1 {fn : Func} {R : Value → World → Prop} {t D : Nat} {v : Value} (hr : fn.results = #[.tmp t]) (hv : look σ t = some v) (hD : w.heap[D]? = some (.deferred (some []))) (hR : R v (w.putObj D (.deferred none))) :
    WX none [markOf D] P n (FinM P fn R) .ret k σ w :=
  WX.ret fun tm ha => ⟨by simp, .inl ⟨D, _, rfl, run_takeDeferred hD, v, by rw [results_tmp hr, ha.at_ t v hv], v, rfl, hR⟩⟩
end
end Go.Proofs.Ytdlcmhkfglckfaa
