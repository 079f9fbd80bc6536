/-
  The frame of a walk, written anew for these claims: what is known of the slots is a list; the code is walked by one rule a form; what stands behind is a list of continuations. No condition beyond those that each theorem states.
-/
import Derived.Test.YtcmmhfknkldmcaaRows
import Derived.WalkKit
import Derived.WalkSpells
import Derived.Deep.Quiet
import Derived.Deep.LoopGhost
import Derived.Scope
namespace Go.Proofs.Ytcmmhfknkldmcaa
open Go.RowKit

abbrev Env := List (Nat × Value)
def look : Env → Nat → Option Value
  | [], _ => none
  | (a, v) :: r, t => bif Nat.beq a t then some v else look r t
def ev (σ : Env) : Operand → Option Value
  | .tmp t => look σ t
  | .const v => some v
  | .global g => some (.pointer (some ⟨g, 0, none⟩))
  | .func f => some (.func (.func f) #[] #[])
structure Known (n : Nat) (a : Act) (σ : Env) : Prop where
  size : a.tmps.size = n
  defers : a.defers = []
  at_ : ∀ t v, look σ t = some v → a.tmps.getD t undef = v
def putS : Option Nat → Value → Env → Env
  | some d, v, σ => (d, v) :: σ
  | none, _, σ => σ
def dOk (n : Nat) : Option Nat → Bool
  | some d => Nat.blt d n
  | none => true

theorem beqF {a b : Nat} (h : ¬ a = b) : Nat.beq a b = false := by
  cases e : Nat.beq a b with
  | false => rfl
  | true => exact absurd (Nat.eq_of_beq_eq_true e) h

theorem Known.eval {n : Nat} {a : Act} {σ : Env} (h : Known n a σ) {x : Operand} {v : Value} (hx : ev σ x = some v) : a.eval x = v := by
  cases x with
  | tmp t => exact h.at_ t v hx
  | const u => simpa [ev, Act.eval] using hx
  | global g => simpa [ev, Act.eval] using hx
  | func f => simpa [ev, Act.eval] using hx
theorem Known.put {n : Nat} {a : Act} {σ : Env} (h : Known n a σ) {d : Option Nat} (hd : dOk n d = true) (v : Value) : Known n (a.put d v) (putS d v σ) := by
  cases d with
  | none => exact h
  | some d =>
    have hlt : d < n := by simpa [dOk, Nat.blt_eq] using hd
    refine ⟨by simpa [Act.put] using h.size, h.defers, ?_⟩
    intro t u hu
    simp only [putS, look] at hu
    by_cases e : d = t
    · subst e
      simp at hu
      subst hu
      have : d < a.tmps.size := by rw [h.size]; exact hlt
      simp [Act.put, Array.getD, this]
    · have e' : Nat.beq d t = false := beqF e
      rw [e'] at hu
      simp only [cond_false] at hu
      have := h.at_ t u hu
      simp only [Act.put, Array.getD_eq_getD_getElem?] at this ⊢
      rw [Array.getElem?_setIfInBounds_ne (by omega)]
      exact this
def Sub : Env → Env → Prop
  | [], _ => True
  | (t, v) :: r, σ => look σ t = some v ∧ Sub r σ
theorem Sub.look {σ σ' : Env} (h : Sub σ' σ) : ∀ t v, look σ' t = some v → look σ t = some v := by
  induction σ' with
  | nil => intro t v hv; cases hv
  | cons p r ih =>
    obtain ⟨a, u⟩ := p
    intro t v hv
    simp only [Go.Proofs.Ytcmmhfknkldmcaa.look] at hv
    by_cases e : a = t
    · subst e
      simp at hv
      subst hv
      exact h.1
    · have e' : Nat.beq a t = false := beqF e
      rw [e'] at hv
      exact ih h.2 t v hv
theorem Known.sub {n : Nat} {a : Act} {σ σ' : Env} (h : Known n a σ) (hs : Sub σ' σ) : Known n a σ' :=
  ⟨h.size, h.defers, fun t v hv => h.at_ t v (hs.look t v hv)⟩

inductive Kt where
  | fin
  | seq (y : Code) (k : Kt)
  | blk (id : Nat) (k : Kt)
  | scope (k : Kt)
  | cut (C : Act → World → Prop) (k : Kt)
  | loop (J : Nat → Act → World → Prop) (m : Nat) (k : Kt)
def Kt.post (P : Program) (R : Exit → Act → World → Prop) : Kt → Exit → Act → World → Prop
  | .fin => R
  | .seq y k => Exit.then (y.wp P (k.post P R)) (k.post P R)
  | .blk id k => Exit.inBlock id (k.post P R)
  | .scope k => Exit.noGoto (k.post P R)
  | .cut C k => Exit.then C (k.post P R)
  | .loop J m k => Exit.then (fun a w => ∃ m', m' < m ∧ J m' a w) (k.post P R)
theorem Kt.post_ret (P : Program) (R : Exit → Act → World → Prop) (k : Kt) (a : Act) (w : World) (h : R .ret a w) : k.post P R .ret a w := by
  induction k with
  | fin => exact h
  | seq y k ih => exact ih
  | blk id k ih => exact ih
  | scope k ih => exact ih
  | cut C k ih => exact ih
  | loop J m k ih => exact ih

section
variable (P : Program) (n : Nat) (R : Exit → Act → World → Prop)
structure W (c : Code) (k : Kt) (σ : Env) (w : World) : Prop where
  out : ∀ a, Known n a σ → c.wp P (k.post P R) a w
/-- The normal end of what stood before the continuation. -/
structure N (k : Kt) (σ : Env) (w : World) : Prop where
  out : ∀ a, Known n a σ → k.post P R .normal a w
/-- A jump out of block 'id'. -/
structure X (id : Nat) (k : Kt) (σ : Env) (w : World) : Prop where
  out : ∀ a, Known n a σ → k.post P R (.exit id) a w
structure WL (ops : Array Oper) (l : List Oper) (k : Kt) (σ : Env) (w : World) : Prop where
  out : ∀ a, Known n a σ → wpList P ops (k.post P R) l a w
end

section
variable {P : Program} {n : Nat} {R : Exit → Act → World → Prop} {k : Kt} {σ : Env} {w : World}
theorem W.seq {x y : Code} (h : W P n R x (.seq y k) σ w) : W P n R (.seq x y) k σ w := ⟨fun a ha => wp_seq (h.out a ha)⟩
theorem W.block {id : Nat} {c : Code} (h : W P n R c (.blk id k) σ w) : W P n R (.block id c) k σ w := ⟨fun a ha => wp_block (h.out a ha)⟩
theorem W.scope {c : Code} (h : W P n R c (.scope k) σ w) : W P n R (.scope c) k σ w := ⟨fun a ha => wp_scope_straight (h.out a ha)⟩
theorem N.scope (h : N P n R k σ w) : N P n R (.scope k) σ w := ⟨fun a ha => h.out a ha⟩
theorem X.scope {id : Nat} (h : X P n R id k σ w) : X P n R id (.scope k) σ w := ⟨fun a ha => h.out a ha⟩
theorem W.region {id : Nat} {l : List Oper} (h : WL P n R l.toArray l k σ w) : W P n R (.region id l.toArray false) k σ w := ⟨fun a ha => wp_region_lit (h.out a ha)⟩
theorem W.skip (h : N P n R k σ w) : W P n R .skip k σ w := ⟨fun a ha => wp_skip (h.out a ha)⟩
theorem W.exit {id : Nat} (h : X P n R id k σ w) : W P n R (.exit id) k σ w := ⟨fun a ha => wp_exit (h.out a ha)⟩
theorem W.ret (h : ∀ a, Known n a σ → R .ret a w) : W P n R .ret k σ w := ⟨fun a ha => wp_ret (Kt.post_ret P R k a w (h a ha))⟩
theorem W.condT {c : Operand} {x y : Code} (hc : ev σ c = some (.bool true)) (h : W P n R x k σ w) : W P n R (.cond c x y) k σ w :=
  ⟨fun a ha => wp_cond_true (ha.eval hc) (h.out a ha)⟩
theorem W.condF {c : Operand} {x y : Code} (hc : ev σ c = some (.bool false)) (h : W P n R y k σ w) : W P n R (.cond c x y) k σ w :=
  ⟨fun a ha => wp_cond_false (ha.eval hc) (h.out a ha)⟩
theorem W.cond {c : Operand} {x y : Code} {t : Bool} (hc : ev σ c = some (.bool t)) (ht : t = true → W P n R x k σ w) (hf : t = false → W P n R y k σ w) : W P n R (.cond c x y) k σ w :=
  ⟨fun a ha => wp_cond_split (ha.eval hc) (fun e => (ht e).out a ha) (fun e => (hf e).out a ha)⟩
theorem W.sub {c : Code} {σ' : Env} (hs : Sub σ' σ) (h : W P n R c k σ' w) : W P n R c k σ w := ⟨fun a ha => h.out a (ha.sub hs)⟩
theorem WL.nil {ops : Array Oper} (h : N P n R k σ w) : WL P n R ops [] k σ w := ⟨fun a ha => wpList_nil (h.out a ha)⟩
theorem WL.sub {ops : Array Oper} {l : List Oper} {σ' : Env} (hs : Sub σ' σ) (h : WL P n R ops l k σ' w) : WL P n R ops l k σ w := ⟨fun a ha => h.out a (ha.sub hs)⟩
theorem N.seq {y : Code} (h : W P n R y k σ w) : N P n R (.seq y k) σ w := ⟨fun a ha => h.out a ha⟩
theorem N.blk {id : Nat} (h : N P n R k σ w) : N P n R (.blk id k) σ w := ⟨fun a ha => h.out a ha⟩
theorem X.seq {id : Nat} {y : Code} (h : X P n R id k σ w) : X P n R id (.seq y k) σ w := ⟨fun a ha => h.out a ha⟩
theorem X.blk {id : Nat} (h : N P n R k σ w) : X P n R id (.blk id k) σ w := ⟨fun a ha => by
  show Exit.inBlock id (k.post P R) (.exit id) a w
  simpa [Exit.inBlock] using h.out a ha⟩
theorem X.blk_ne {id id' : Nat} (hne : Nat.beq id id' = false) (h : X P n R id k σ w) : X P n R id (.blk id' k) σ w := ⟨fun a ha => by
  show Exit.inBlock id' (k.post P R) (.exit id) a w
  have : id ≠ id' := by intro e; subst e; simp at hne
  simpa [Exit.inBlock, this] using h.out a ha⟩
theorem X.cut {id : Nat} {C : Act → World → Prop} (h : X P n R id k σ w) : X P n R id (.cut C k) σ w := ⟨fun a ha => h.out a ha⟩
theorem X.loop {id m : Nat} {J : Nat → Act → World → Prop} (h : X P n R id k σ w) : X P n R id (.loop J m k) σ w := ⟨fun a ha => h.out a ha⟩

/-- A loop: of each round's head what is known is 'F x', and 'I x' holds, for some x; each round lowers 'μ'. -/
def LI (n : Nat) {α : Type} (F : α → Env) (I : α → World → Prop) (μ : α → Nat) : Nat → Act → World → Prop :=
  fun m a w => ∃ x, μ x = m ∧ Known n a (F x) ∧ I x w
theorem W.loop {c : Code} {α : Type} (F : α → Env) (I : α → World → Prop) (μ : α → Nat) (x0 : α) (hs : Sub (F x0) σ) (h0 : I x0 w)
    (round : ∀ x w, I x w → W P n R c (.loop (LI n F I μ) (μ x) k) (F x) w) : W P n R (.loop c) k σ w :=
  ⟨fun a ha => wp_loop_ghost (LI n F I μ) (μ x0) ⟨x0, rfl, ha.sub hs, h0⟩ fun m a w ⟨x, hm, hk, hI⟩ => by
    subst hm
    exact (round x w hI).out a hk⟩
theorem N.loop {α : Type} {F : α → Env} {I : α → World → Prop} {μ : α → Nat} {m : Nat} (x : α) (hs : Sub (F x) σ) (hI : I x w) (hm : μ x < m) : N P n R (.loop (LI n F I μ) m k) σ w :=
  ⟨fun _ ha => ⟨μ x, hm, x, rfl, ha.sub hs, hI⟩⟩
/-- Ways that meet again. -/
def CI (n : Nat) {α : Type} (F : α → Env) (I : α → World → Prop) : Act → World → Prop := fun a w => ∃ x, Known n a (F x) ∧ I x w
theorem W.cut {c y : Code} {α : Type} (F : α → Env) (I : α → World → Prop) (hx : W P n R c (.cut (CI n F I) k) σ w) (hy : ∀ x w, I x w → W P n R y k (F x) w) : W P n R (.seq c y) k σ w :=
  ⟨fun a ha => wp_seq (wp_mono (hx.out a ha) fun e a' w' q => by
    cases e with
    | normal => obtain ⟨x, hk, hI⟩ := q; exact (hy x w' hI).out a' hk
    | exit id => exact q
    | goto l => exact q
    | ret => exact q
    | panic ch => exact q
    | outgrown => exact q)⟩
theorem N.cut {α : Type} {F : α → Env} {I : α → World → Prop} (x : α) (hs : Sub (F x) σ) (hI : I x w) : N P n R (.cut (CI n F I) k) σ w := ⟨fun _ ha => ⟨x, ha.sub hs, hI⟩⟩
end

/-- A call that returns a value. -/
def Ret (P : Program) (f : FuncId) (args : Array Value) (w : World) (R : Value → World → Prop) : Prop :=
  Calls P f args w fun e w' => ∃ v, e = .returned v ∧ R v w'
theorem Ret.mono {P : Program} {f : FuncId} {args : Array Value} {w : World} {R R' : Value → World → Prop} (h : Ret P f args w R) (hr : ∀ v w', R v w' → R' v w') : Ret P f args w R' :=
  Calls.mono h fun _ _ ⟨v, e, r⟩ => ⟨v, e, hr _ _ r⟩

def envFrom : Nat → List Value → Env
  | _, [] => []
  | i, v :: r => (i, v) :: envFrom (i + 1) r
theorem look_envFrom : ∀ (l : List Value) (i t : Nat) (v : Value), look (envFrom i l) t = some v → i ≤ t ∧ l[t - i]? = some v
  | [], _, _, _, h => by cases h
  | u :: r, i, t, v, h => by
    simp only [envFrom, look] at h
    by_cases e : i = t
    · subst e; simp at h; subst h; simp
    · have e' : Nat.beq i t = false := beqF e
      rw [e'] at h
      obtain ⟨h1, h2⟩ := look_envFrom r (i + 1) t v h
      refine ⟨by omega, ?_⟩
      have : t - i = (t - (i + 1)) + 1 := by omega
      rw [this]; simpa using h2
/-- The end of a body. -/
def Fin (P : Program) (fn : Func) (R : Value → World → Prop) : Exit → Act → World → Prop := bodyPost P fn fun e w' => ∃ v, e = .returned v ∧ R v w'
theorem Ret.enter {P : Program} {f : FuncId} {fn : Func} {c : Code} {args : List Value} {w : World} {R : Value → World → Prop} {n : Nat} {σ : Env}
    (hf : P.funcs[f]? = some fn) (hb : fn.body = some c) (hn : fn.ntmps = n) (hle : Nat.ble args.length n = true) (hσ : envFrom 0 args = σ)
    (h : W P n (Fin P fn R) c .fin σ w) : Ret P f args.toArray w R := by
  have hle' : args.length ≤ n := by simpa using hle
  refine calls_of_wp hf hb (h.out _ ⟨?_, rfl, ?_⟩)
  · simp [hn]; omega
  · intro t v hv
    subst hσ
    obtain ⟨_, h2⟩ := look_envFrom args 0 t v hv
    simp only [Nat.sub_zero] at h2
    have hlt : t < args.length := (List.getElem?_eq_some_iff.1 h2).1
    rw [Array.getD_eq_getD_getElem?, Array.getElem?_append_left (by simpa using hlt)]
    simp [h2]
theorem Fin.ret1 {P : Program} {fn : Func} {R : Value → World → Prop} {n : Nat} {k : Kt} {σ : Env} {w : World} {t : Nat} {v : Value} (hr : fn.results = #[.tmp t]) (hv : look σ t = some v) (hR : R v w) :
    W P n (Fin P fn R) .ret k σ w :=
  W.ret fun a ha => ⟨ha.defers, v, by rw [results_tmp hr, ha.at_ t v hv], v, rfl, hR⟩
theorem Fin.ret2 {P : Program} {fn : Func} {R : Value → World → Prop} {n : Nat} {k : Kt} {σ : Env} {w : World} {t u : Nat} {v v' : Value} (hr : fn.results = #[.tmp t, .tmp u]) (hv : look σ t = some v) (hv' : look σ u = some v') (hR : R (.tuple #[v, v']) w) :
    W P n (Fin P fn R) .ret k σ w :=
  W.ret fun a ha => ⟨ha.defers, .tuple #[v, v'], by rw [results_tmp2 hr, ha.at_ t v hv, ha.at_ u v' hv'], _, rfl, hR⟩
theorem Fin.end0 {P : Program} {fn : Func} {R : Value → World → Prop} {n : Nat} {σ : Env} {w : World} (hr : fn.results = #[]) (hR : R (.tuple #[]) w) :
    N P n (Fin P fn R) .fin σ w :=
  ⟨fun a ha => ⟨ha.defers, .tuple #[], by rw [results_none hr], _, rfl, hR⟩⟩
theorem Fin.retC {P : Program} {fn : Func} {R : Value → World → Prop} {n : Nat} {k : Kt} {σ : Env} {w : World} {t ty : Nat} {a : Addr} {v : Value} (hr : fn.results = #[.cell t ty]) (hv : look σ t = some (.pointer (some a)))
    (hl : (loadVar ty a).run P w = .ok v w) (hR : R v w) : W P n (Fin P fn R) .ret k σ w :=
  W.ret fun b hb => ⟨hb.defers, v, by
    have h1 := hb.at_ t _ hv
    rw [Array.getD_eq_getD_getElem?] at h1
    simp [results, hr, h1, asAddr, hl], v, rfl, hR⟩
theorem Fin.retCT {P : Program} {fn : Func} {R : Value → World → Prop} {n : Nat} {k : Kt} {σ : Env} {w : World} {t ty u : Nat} {a : Addr} {v v' : Value} (hr : fn.results = #[.cell t ty, .tmp u]) (hv : look σ t = some (.pointer (some a)))
    (hl : (loadVar ty a).run P w = .ok v w) (hv' : look σ u = some v') (hR : R (.tuple #[v, v']) w) : W P n (Fin P fn R) .ret k σ w :=
  W.ret fun b hb => ⟨hb.defers, .tuple #[v, v'], by
    have h1 := hb.at_ t _ hv
    have h2 := hb.at_ u _ hv'
    rw [Array.getD_eq_getD_getElem?] at h1 h2
    simp [results, hr, h1, h2, asAddr, hl], _, rfl, hR⟩
end Go.Proofs.Ytcmmhfknkldmcaa
