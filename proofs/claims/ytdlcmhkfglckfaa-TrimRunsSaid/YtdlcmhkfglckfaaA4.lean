/-
  The frame of a walk, written anew for these claims: what is known of the slots is a list; the code is walked by one rule a form; what stands behind is a list of continuations. No condition beyond those that each theorem states.
-/
import Derived.Test.YtdlcmhkfglckfaaRows
import Derived.WalkKit
import Derived.WalkSpells
import Derived.Deep.Quiet
import Derived.Deep.LoopGhost
import Derived.Scope
namespace Go.Proofs.Ytdlcmhkfglckfaa
open Go.RowKit

abbrev Env := List (Nat × Value)
def look : Env → Nat → Option Value
  | [], _ => none
  | (a, v) :: r, t => bif Nat.beq a t then some v else look r t
def ev (σ : Env) : Operand → Option Value
  | .tmp t => look σ t
  | .const v => some v
  | .global g => some (.pointer (some ⟨g, 0, none⟩))
  | .func f => some (.func (.func f) #[] #[])
structure Known (n : Nat) (a : Act) (σ : Env) : Prop where
  size : a.tmps.size = n
  defers : a.defers = []
  at_ : ∀ t v, look σ t = some v → a.tmps.getD t undef = v
def putS : Option Nat → Value → Env → Env
  | some d, v, σ => (d, v) :: σ
  | none, _, σ => σ
def dOk (n : Nat) : Option Nat → Bool
  | some d => Nat.blt d n
  | none => true

theorem beqF {a b : Nat} (h : ¬ a = b) : Nat.beq a b = false := by
  cases e : Nat.beq a b with
  | false => rfl
  | true => exact absurd (Nat.eq_of_beq_eq_true e) h

theorem Known.eval {n : Nat} {a : Act} {σ : Env} (h : Known n a σ) {x : Operand} {v : Value} (hx : ev σ x = some v) : a.eval x = v := by
  cases x with
  | tmp t => exact h.at_ t v hx
  | const u => simpa [ev, Act.eval] using hx
  | global g => simpa [ev, Act.eval] using hx
  | func f => simpa [ev, Act.eval] using hx
theorem Known.put {n : Nat} {a : Act} {σ : Env} (h : Known n a σ) {d : Option Nat} (hd : dOk n d = true) (v : Value) : Known n (a.put d v) (putS d v σ) := by
  cases d with
  | none => exact h
  | some d =>
    have hlt : d < n := by simpa [dOk, Nat.blt_eq] using hd
    refine ⟨by simpa [Act.put] using h.size, h.defers, ?_⟩
    intro t u hu
    simp only [putS, look] at hu
    by_cases e : d = t
    · subst e
      simp at hu
      subst hu
      have : d < a.tmps.size := by rw [h.size]; exact hlt
      simp [Act.put, Array.getD, this]
    · have e' : Nat.beq d t = false := beqF e
      rw [e'] at hu
      simp only [cond_false] at hu
      have := h.at_ t u hu
      simp only [Act.put, Array.getD_eq_getD_getElem?] at this ⊢
      rw [Array.getElem?_setIfInBounds_ne (by omega)]
      exact this
def Sub : Env → Env → Prop
  | [], _ => True
  | (t, v) :: r, σ => look σ t = some v ∧ Sub r σ
theorem Sub.look {σ σ' : Env} (h : Sub σ' σ) : ∀ t v, look σ' t = some v → look σ t = some v := by
  induction σ' with
  | nil => intro t v hv; cases hv
  | cons p r ih =>
    obtain ⟨a, u⟩ := p
    intro t v hv
    simp only [Go.Proofs.Ytdlcmhkfglckfaa.look] at hv
    by_cases e : a = t
    · subst e
      simp at hv
      subst hv
      exact h.1
    · have e' : Nat.beq a t = false := beqF e
      rw [e'] at hv
      exact ih h.2 t v hv
theorem Known.sub {n : Nat} {a : Act} {σ σ' : Env} (h : Known n a σ) (hs : Sub σ' σ) : Known n a σ' :=
  ⟨h.size, h.defers, fun t v hv => h.at_ t v (hs.look t v hv)⟩

inductive Kt where
  | fin
  | seq (y : Code) (k : Kt)
  | blk (id : Nat) (k : Kt)
  | scope (k : Kt)
  | cut (C : Act → World → Prop) (k : Kt)
  | loop (J : Nat → Act → World → Prop) (m : Nat) (k : Kt)
def Kt.post (P : Program) (R : Exit → Act → World → Prop) : Kt → Exit → Act → World → Prop
  | .fin => R
  | .seq y k => Exit.then (y.wp P (k.post P R)) (k.post P R)
  | .blk id k => Exit.inBlock id (k.post P R)
  | .scope k => Exit.noGoto (k.post P R)
  | .cut C k => Exit.then C (k.post P R)
  | .loop J m k => Exit.then (fun a w => ∃ m', m' < m ∧ J m' a w) (k.post P R)
theorem Kt.post_ret (P : Program) (R : Exit → Act → World → Prop) (k : Kt) (a : Act) (w : World) (h : R .ret a w) : k.post P R .ret a w := by
  induction k with
  | fin => exact h
  | seq y k ih => exact ih
  | blk id k ih => exact ih
  | scope k ih => exact ih
  | cut C k ih => exact ih
  | loop J m k ih => exact ih

section
variable (P : Program) (n : Nat) (R : Exit → Act → World → Prop)
structure W (c : Code) (k : Kt) (σ : Env) (w : World) : Prop where
  out : ∀ a, Known n a σ → c.wp P (k.post P R) a w
/-- The normal end of what stood before the continuation. -/
structure N (k : Kt) (σ : Env) (w : World) : Prop where
  out : ∀ a, Known n a σ → k.post P R .normal a w
/-- A jump out of block 'id'. -/
structure X (id : Nat) (k : Kt) (σ : Env) (w : World) : Prop where
  out : ∀ a, Known n a σ → k.post P R (.exit id) a w
structure WL (ops : Array Oper) (l : List Oper) (k : Kt) (σ : Env) (w : World) : Prop where
  out : ∀ a, Known n a σ → wpList P ops (k.post P R) l a w
end

section
variable {P : Program} {n : Nat} {R : Exit → Act → World → Prop} {k : Kt} {σ : Env} {w : World}
theorem W.seq {x y : Code} (h : W P n R x (.seq y k) σ w) : W P n R (.seq x y) k σ w := ⟨fun a ha => wp_seq (h.out a ha)⟩
theorem W.block {id : Nat} {c : Code} (h : W P n R c (.blk id k) σ w) : W P n R (.block id c) k σ w := ⟨fun a ha => wp_block (h.out a ha)⟩
theorem W.scope {c : Code} (h : W P n R c (.scope k) σ w) : W P n R (.scope c) k σ w := ⟨fun a ha => wp_scope_straight (h.out a ha)⟩
theorem W.label {l : Nat} (h : N P n R k σ w) : W P n R (.label l) k σ w := ⟨fun a ha => wp_label (h.out a ha)⟩
theorem N.scope (h : N P n R k σ w) : N P n R (.scope k) σ w := ⟨fun a ha => h.out a ha⟩
theorem X.scope {id : Nat} (h : X P n R id k σ w) : X P n R id (.scope k) σ w := ⟨fun a ha => h.out a ha⟩
theorem W.region {id : Nat} {l : List Oper} (h : WL P n R l.toArray l k σ w) : W P n R (.region id l.toArray false) k σ w := ⟨fun a ha => wp_region_lit (h.out a ha)⟩
theorem W.skip (h : N P n R k σ w) : W P n R .skip k σ w := ⟨fun a ha => wp_skip (h.out a ha)⟩
theorem W.exit {id : Nat} (h : X P n R id k σ w) : W P n R (.exit id) k σ w := ⟨fun a ha => wp_exit (h.out a ha)⟩
theorem W.ret (h : ∀ a, Known n a σ → R .ret a w) : W P n R .ret k σ w := ⟨fun a ha => wp_ret (Kt.post_ret P R k a w (h a ha))⟩
theorem W.condT {c : Operand} {x y : Code} (hc : ev σ c = some (.bool true)) (h : W P n R x k σ w) : W P n R (.cond c x y) k σ w :=
  ⟨fun a ha => wp_cond_true (ha.eval hc) (h.out a ha)⟩
theorem W.condF {c : Operand} {x y : Code} (hc : ev σ c = some (.bool false)) (h : W P n R y k σ w) : W P n R (.cond c x y) k σ w :=
  ⟨fun a ha => wp_cond_false (ha.eval hc) (h.out a ha)⟩
theorem W.cond {c : Operand} {x y : Code} {t : Bool} (hc : ev σ c = some (.bool t)) (ht : t = true → W P n R x k σ w) (hf : t = false → W P n R y k σ w) : W P n R (.cond c x y) k σ w :=
  ⟨fun a ha => wp_cond_split (ha.eval hc) (fun e => (ht e).out a ha) (fun e => (hf e).out a ha)⟩
theorem W.sub {c : Code} {σ' : Env} (hs : Sub σ' σ) (h : W P n R c k σ' w) : W P n R c k σ w := ⟨fun a ha => h.out a (ha.sub hs)⟩
theorem WL.nil {ops : Array Oper} (h : N P n R k σ w) : WL P n R ops [] k σ w := ⟨fun a ha => wpList_nil (h.out a ha)⟩
theorem WL.sub {ops : Array Oper} {l : List Oper} {σ' : Env} (hs : Sub σ' σ) (h : WL P n R ops l k σ' w) : WL P n R ops l k σ w := ⟨fun a ha => h.out a (ha.sub hs)⟩
theorem N.seq {y : Code} (h : W P n R y k σ w) : N P n R (.seq y k) σ w := ⟨fun a ha => h.out a ha⟩
theorem N.blk {id : Nat} (h : N P n R k σ w) : N P n R (.blk id k) σ w := ⟨fun a ha => h.out a ha⟩
theorem X.seq {id : Nat} {y : Code} (h : X P n R id k σ w) : X P n R id (.seq y k) σ w := ⟨fun a ha => h.out a ha⟩
theorem X.blk {id : Nat} (h : N P n R k σ w) : X P n R id (.blk id k) σ w := ⟨fun a ha => by
  show Exit.inBlock id (k.post P R) (.exit id) a w
  simpa [Exit.inBlock] using h.out a ha⟩
theorem X.blk_ne {id id' : Nat} (hne : Nat.beq id id' = false) (h : X P n R id k σ w) : X P n R id (.blk id' k) σ w := ⟨fun a ha => by
  show Exit.inBlock id' (k.post P R) (.exit id) a w
  have : id ≠ id' := by intro e; subst e; simp at hne
  simpa [Exit.inBlock, this] using h.out a ha⟩
theorem X.cut {id : Nat} {C : Act → World → Prop} (h : X P n R id k σ w) : X P n R id (.cut C k) σ w := ⟨fun a ha => h.out a ha⟩
theorem X.loop {id m : Nat} {J : Nat → Act → World → Prop} (h : X P n R id k σ w) : X P n R id (.loop J m k) σ w := ⟨fun a ha => h.out a ha⟩

/-- A loop: of each round's head what is known is 'F x', and 'I x' holds, for some x; each round lowers 'μ'. -/
def LI (n : Nat) {α : Type} (F : α → Env) (I : α → World → Prop) (μ : α → Nat) : Nat → Act → World → Prop :=
  fun m a w => ∃ x, μ x = m ∧ Known n a (F x) ∧ I x w
theorem W.loop {c : Code} {α : Type} (F : α → Env) (I : α → World → Prop) (μ : α → Nat) (x0 : α) (hs : Sub (F x0) σ) (h0 : I x0 w)
    (round : ∀ x w, I x w → W P n R c (.loop (LI n F I μ) (μ x) k) (F x) w) : W P n R (.loop c) k σ w :=
  ⟨fun a ha => wp_loop_ghost (LI n F I μ) (μ x0) ⟨x0, rfl, ha.sub hs, h0⟩ fun m a w ⟨x, hm, hk, hI⟩ => by
    subst hm
    exact (round x w hI).out a hk⟩
theorem N.loop {α : Type} {F : α → Env} {I : α → World → Prop} {μ : α → Nat} {m : Nat} (x : α) (hs : Sub (F x) σ) (hI : I x w) (hm : μ x < m) : N P n R (.loop (LI n F I μ) m k) σ w :=
  ⟨fun _ ha => ⟨μ x, hm, x, rfl, ha.sub hs, hI⟩⟩
/-- Ways that meet again. -/
def CI (n : Nat) {α : Type} (F : α → Env) (I : α → World → Prop) : Act → World → Prop := fun a w => ∃ x, Known n a (F x) ∧ I x w
theorem W.cut {c y : Code} {α : Type} (F : α → Env) (I : α → World → Prop) (hx : W P n R c (.cut (CI n F I) k) σ w) (hy : ∀ x w, I x w → W P n R y k (F x) w) : W P n R (.seq c y) k σ w :=
  ⟨fun a ha => wp_seq (wp_mono (hx.out a ha) fun e a' w' q => by
    cases e with
    | normal => obtain ⟨x, hk, hI⟩ := q; exact (hy x w' hI).out a' hk
    | exit id => exact q
    | goto l => exact q
    | ret => exact q
    | panic ch => exact q
    | outgrown => exact q)⟩
/-- The same where nothing follows in the sequence but the continuation. -/
theorem W.cutN {c : Code} {α : Type} (F : α → Env) (I : α → World → Prop) (hx : W P n R c (.cut (CI n F I) k) σ w) (hy : ∀ x w, I x w → N P n R k (F x) w) : W P n R c k σ w :=
  ⟨fun a ha => wp_mono (hx.out a ha) fun e a' w' q => by
    cases e with
    | normal => obtain ⟨x, hk, hI⟩ := q; exact (hy x w' hI).out a' hk
    | exit id => exact q
    | goto l => exact q
    | ret => exact q
    | panic ch => exact q
    | outgrown => exact q⟩
theorem N.cut {α : Type} {F : α → Env} {I : α → World → Prop} (x : α) (hs : Sub (F x) σ) (hI : I x w) : N P n R (.cut (CI n F I) k) σ w := ⟨fun _ ha => ⟨x, ha.sub hs, hI⟩⟩
end

/-- A call that returns a value. -/
def Ret (P : Program) (f : FuncId) (args : Array Value) (w : World) (R : Value → World → Prop) : Prop :=
  Calls P f args w fun e w' => ∃ v, e = .returned v ∧ R v w'
theorem Ret.mono {P : Program} {f : FuncId} {args : Array Value} {w : World} {R R' : Value → World → Prop} (h : Ret P f args w R) (hr : ∀ v w', R v w' → R' v w') : Ret P f args w R' :=
  Calls.mono h fun _ _ ⟨v, e, r⟩ => ⟨v, e, hr _ _ r⟩

def envFrom : Nat → List Value → Env
  | _, [] => []
  | i, v :: r => (i, v) :: envFrom (i + 1) r
theorem look_envFrom : ∀ (l : List Value) (i t : Nat) (v : Value), look (envFrom i l) t = some v → i ≤ t ∧ l[t - i]? = some v
  | [], _, _, _, h => by cases h
  | u :: r, i, t, v, h => by
    simp only [envFrom, look] at h
    by_cases e : i = t
    · subst e; simp at h; subst h; simp
    · have e' : Nat.beq i t = false := beqF e
      rw [e'] at h
      obtain ⟨h1, h2⟩ := look_envFrom r (i + 1) t v h
      refine ⟨by omega, ?_⟩
      have : t - i = (t - (i + 1)) + 1 := by omega
      rw [this]; simpa using h2
/-- The end of a body. -/
def Fin (P : Program) (fn : Func) (R : Value → World → Prop) : Exit → Act → World → Prop := bodyPost P fn fun e w' => ∃ v, e = .returned v ∧ R v w'
theorem Ret.enter {P : Program} {f : FuncId} {fn : Func} {c : Code} {args : List Value} {w : World} {R : Value → World → Prop} {n : Nat} {σ : Env}
    (hf : P.funcs[f]? = some fn) (hb : fn.body = some c) (hn : fn.ntmps = n) (hle : Nat.ble args.length n = true) (hσ : envFrom 0 args = σ)
    (h : W P n (Fin P fn R) c .fin σ w) : Ret P f args.toArray w R := by
  have hle' : args.length ≤ n := by simpa using hle
  refine calls_of_wp hf hb (h.out _ ⟨?_, rfl, ?_⟩)
  · simp [hn]; omega
  · intro t v hv
    subst hσ
    obtain ⟨_, h2⟩ := look_envFrom args 0 t v hv
    simp only [Nat.sub_zero] at h2
    have hlt : t < args.length := (List.getElem?_eq_some_iff.1 h2).1
    rw [Array.getD_eq_getD_getElem?, Array.getElem?_append_left (by simpa using hlt)]
    simp [h2]
theorem Fin.ret1 {P : Program} {fn : Func} {R : Value → World → Prop} {n : Nat} {k : Kt} {σ : Env} {w : World} {t : Nat} {v : Value} (hr : fn.results = #[.tmp t]) (hv : look σ t = some v) (hR : R v w) :
    W P n (Fin P fn R) .ret k σ w :=
  W.ret fun a ha => ⟨ha.defers, v, by rw [results_tmp hr, ha.at_ t v hv], v, rfl, hR⟩
theorem Fin.ret2 {P : Program} {fn : Func} {R : Value → World → Prop} {n : Nat} {k : Kt} {σ : Env} {w : World} {t u : Nat} {v v' : Value} (hr : fn.results = #[.tmp t, .tmp u]) (hv : look σ t = some v) (hv' : look σ u = some v') (hR : R (.tuple #[v, v']) w) :
    W P n (Fin P fn R) .ret k σ w :=
  W.ret fun a ha => ⟨ha.defers, .tuple #[v, v'], by rw [results_tmp2 hr, ha.at_ t v hv, ha.at_ u v' hv'], _, rfl, hR⟩
theorem Fin.ret0 {P : Program} {fn : Func} {R : Value → World → Prop} {n : Nat} {k : Kt} {σ : Env} {w : World} (hr : fn.results = #[]) (hR : R (.tuple #[]) w) :
    W P n (Fin P fn R) .ret k σ w :=
  W.ret fun a ha => ⟨ha.defers, .tuple #[], by rw [results_none hr], _, rfl, hR⟩
theorem Fin.end0 {P : Program} {fn : Func} {R : Value → World → Prop} {n : Nat} {σ : Env} {w : World} (hr : fn.results = #[]) (hR : R (.tuple #[]) w) :
    N P n (Fin P fn R) .fin σ w :=
  ⟨fun a ha => ⟨ha.defers, .tuple #[], by rw [results_none hr], _, rfl, hR⟩⟩
theorem Fin.retC {P : Program} {fn : Func} {R : Value → World → Prop} {n : Nat} {k : Kt} {σ : Env} {w : World} {t ty : Nat} {a : Addr} {v : Value} (hr : fn.results = #[.cell t ty]) (hv : look σ t = some (.pointer (some a)))
    (hl : (loadVar ty a).run P w = .ok v w) (hR : R v w) : W P n (Fin P fn R) .ret k σ w :=
  W.ret fun b hb => ⟨hb.defers, v, by
    have h1 := hb.at_ t _ hv
    rw [Array.getD_eq_getD_getElem?] at h1
    simp [results, hr, h1, asAddr, hl], v, rfl, hR⟩
theorem Fin.retCT {P : Program} {fn : Func} {R : Value → World → Prop} {n : Nat} {k : Kt} {σ : Env} {w : World} {t ty u : Nat} {a : Addr} {v v' : Value} (hr : fn.results = #[.cell t ty, .tmp u]) (hv : look σ t = some (.pointer (some a)))
    (hl : (loadVar ty a).run P w = .ok v w) (hv' : look σ u = some v') (hR : R (.tuple #[v, v']) w) : W P n (Fin P fn R) .ret k σ w :=
  W.ret fun b hb => ⟨hb.defers, .tuple #[v, v'], by
    have h1 := hb.at_ t _ hv
    have h2 := hb.at_ u _ hv'
    rw [Array.getD_eq_getD_getElem?] at h1 h2
    simp [results, hr, h1, h2, asAddr, hl], _, rfl, hR⟩
end Go.Proofs.Ytdlcmhkfglckfaa

namespace Go.Proofs.Ytdlcmhkfglckfaa
open Go.RowKit

def want (ops : Array Oper) (σ : Env) : Option (Nat × Bool) → Option Bool
  | none => some true
  | some (j, b) => match (ops[j]?).bind (·.dst) with
    | some t => match look σ t with
      | some (.bool c) => some (c == b)
      | some (.tuple _) => some false
      | _ => none
    | none => none
theorem Known.wanted {n : Nat} {a : Act} {σ : Env} (h : Known n a σ) {ops : Array Oper} {o : Oper} {r : Bool} (hw : want ops σ o.guard = some r) : Region.wanted o (yielded ops a.tmps) = r := by
  unfold Region.wanted
  cases hg : o.guard with
  | none => simpa [want, hg] using hw
  | some p =>
    obtain ⟨j, b⟩ := p
    rw [hg] at hw
    simp only [want] at hw
    cases ht : (ops[j]?).bind (·.dst) with
    | none => rw [ht] at hw; cases hw
    | some t =>
      rw [ht] at hw
      dsimp only at hw
      cases hl : look σ t with
      | none => rw [hl] at hw; cases hw
      | some v =>
        rw [hl] at hw
        have := h.at_ t _ hl
        rw [Array.getD_eq_getD_getElem?] at this
        cases v <;> dsimp only at hw <;> try (cases hw; done)
        case bool c =>
          have h2 : a.tmps[t]? = some (.bool c) := by
            cases h3 : a.tmps[t]? with
            | none => rw [h3] at this; simp [undef] at this
            | some u => rw [h3] at this; simpa using this
          simp only [yielded, ht, Option.bind_some, h2]
          simp only [Option.some.injEq] at hw
          subst hw
          cases c <;> cases b <;> rfl
        case tuple vs =>
          simp only [Option.some.injEq] at hw
          subst hw
          simp only [yielded, ht, Option.bind_some]
          cases h3 : a.tmps[t]? with
          | none => rfl
          | some u => rw [h3] at this; simp at this; subst this; rfl

section
variable {P : Program} {n : Nat} {R : Exit → Act → World → Prop} {k : Kt} {σ : Env} {w : World} {ops : Array Oper} {rest : List Oper}
theorem WL.valW {o : Oper} {v : Value} {w' : World} (hg : want ops σ o.guard = some true) (hd : dOk n o.dst = true) (hr : ∀ a, Known n a σ → (execOp a.eval o).run P w = .ok (.value v) w')
    (h : WL P n R ops rest k (putS o.dst v σ) w') : WL P n R ops (o :: rest) k σ w :=
  ⟨fun a ha => by
    unfold wpList
    rw [if_pos (ha.wanted hg)]
    left
    unfold Oper.wp
    rw [hr a ha]
    exact h.out _ (ha.put hd v)⟩
theorem WL.unitW {o : Oper} {w' : World} (hg : want ops σ o.guard = some true) (hd : o.dst = none) (hr : ∀ a, Known n a σ → (execOp a.eval o).run P w = .ok .skip w')
    (h : WL P n R ops rest k σ w') : WL P n R ops (o :: rest) k σ w :=
  ⟨fun a ha => by
    unfold wpList
    rw [if_pos (ha.wanted hg)]
    left
    unfold Oper.wp
    rw [hr a ha]
    have := ha.put (d := o.dst) (by rw [hd]; rfl) undef
    rw [hd] at this
    have h2 := h.out _ this
    simpa only [Oper.upon, hd] using h2⟩
theorem WL.skp {d : Nat} {op : Op} {ty : TypeId} {pos : String} {af : Array Edge} {g : Option (Nat × Bool)} (hg : want ops σ g = some false) (hd : Nat.blt d n = true)
    (h : WL P n R ops rest k ((d, undef) :: σ) w) : WL P n R ops (⟨some d, op, ty, pos, af, g⟩ :: rest) k σ w :=
  ⟨fun a ha => by
    unfold wpList
    rw [if_neg (by rw [ha.wanted (o := ⟨some d, op, ty, pos, af, g⟩) hg]; simp)]
    exact h.out _ (ha.put (d := some d) hd undef)⟩
theorem WL.call {o : Oper} {f : FuncId} {args : Array Value} {Rc : Value → World → Prop} (hg : want ops σ o.guard = some true) (hd : dOk n o.dst = true)
    (hr : ∀ a, Known n a σ → (execOp a.eval o).run P w = .ok (.enter f args) w) (hc : Ret P f args w Rc)
    (h : ∀ v w', Rc v w' → WL P n R ops rest k (putS o.dst v σ) w') : WL P n R ops (o :: rest) k σ w :=
  ⟨fun a ha => by
    unfold wpList
    rw [if_pos (ha.wanted hg)]
    left
    unfold Oper.wp
    rw [hr a ha]
    exact Calls.mono hc fun e w' ⟨v, he, hR⟩ => by
      subst he
      exact (h v w' hR).out _ (ha.put hd v)⟩
/-- A slot's value under another name. -/
theorem WL.set {l : List Oper} (t : Nat) {v v' : Value} (hv : look σ t = some v) (e : v = v') (h : WL P n R ops l k ((t, v') :: σ) w) : WL P n R ops l k σ w :=
  ⟨fun a ha => h.out a ⟨ha.size, ha.defers, fun u x hx => by
    simp only [look] at hx
    by_cases he : t = u
    · subst he; simp at hx; subst hx; subst e; exact ha.at_ t v hv
    · rw [beqF he] at hx; exact ha.at_ u x hx⟩⟩
theorem W.set {c : Code} (t : Nat) {v v' : Value} (hv : look σ t = some v) (e : v = v') (h : W P n R c k ((t, v') :: σ) w) : W P n R c k σ w :=
  ⟨fun a ha => h.out a ⟨ha.size, ha.defers, fun u x hx => by
    simp only [look] at hx
    by_cases he : t = u
    · subst he; simp at hx; subst hx; subst e; exact ha.at_ t v hv
    · rw [beqF he] at hx; exact ha.at_ u x hx⟩⟩

variable {d : Nat} {ty : TypeId} {pos : String} {af : Array Edge} {g : Option (Nat × Bool)}
theorem WL.move {x : Operand} {v : Value} (hg : want ops σ g = some true) (hd : Nat.blt d n = true) (hx : ev σ x = some v)
    (h : WL P n R ops rest k ((d, v) :: σ) w) : WL P n R ops (⟨some d, .move x, ty, pos, af, g⟩ :: rest) k σ w :=
  WL.valW (o := ⟨some d, .move x, ty, pos, af, g⟩) (v := v) hg hd (fun a ha => by simp [execOp, ha.eval hx]) h
theorem WL.assign {x : Operand} {v : Value} (hg : want ops σ g = some true) (hd : Nat.blt d n = true) (hx : ev σ x = some v)
    (h : WL P n R ops rest k ((d, v) :: σ) w) : WL P n R ops (⟨some d, .assign x, ty, pos, af, g⟩ :: rest) k σ w :=
  WL.valW (o := ⟨some d, .assign x, ty, pos, af, g⟩) (v := v) hg hd (fun a ha => by simp [execOp, ha.eval hx]) h
theorem WL.pick {c x y : Operand} {b : Bool} {vx vy v : Value} (hg : want ops σ g = some true) (hd : Nat.blt d n = true) (hc : ev σ c = some (.bool b)) (hx : ev σ x = some vx) (hy : ev σ y = some vy) (hv : (bif b then vx else vy) = v)
    (h : WL P n R ops rest k ((d, v) :: σ) w) : WL P n R ops (⟨some d, .pick c x y, ty, pos, af, g⟩ :: rest) k σ w :=
  WL.valW (o := ⟨some d, .pick c x y, ty, pos, af, g⟩) (v := v) hg hd (fun a ha => by
    subst hv
    cases b <;> simp [execOp, ha.eval hc, ha.eval hx, ha.eval hy, asBool]) h
def binI : BinOp → IntKind → Int → Int → Option Value
  | .eql, _, a, b => some (.bool (decide (a = b)))
  | .neq, _, a, b => some (.bool (!decide (a = b)))
  | .lss, _, a, b => some (.bool (decide (a < b)))
  | .leq, _, a, b => some (.bool (decide (a ≤ b)))
  | .gtr, _, a, b => some (.bool (decide (b < a)))
  | .geq, _, a, b => some (.bool (decide (b ≤ a)))
  | .add, k, a, b => some (.int k (k.wrap (a + b)))
  | .sub, k, a, b => some (.int k (k.wrap (a - b)))
  | .mul, k, a, b => some (.int k (k.wrap (a * b)))
  | .and, k, a, b => some (.int k (k.wrap (BitVec.ofInt k.bits a &&& BitVec.ofInt k.bits b).toNat))
  | .or, k, a, b => some (.int k (k.wrap (BitVec.ofInt k.bits a ||| BitVec.ofInt k.bits b).toNat))
  | .xor, k, a, b => some (.int k (k.wrap (BitVec.ofInt k.bits a ^^^ BitVec.ofInt k.bits b).toNat))
  | .andNot, k, a, b => some (.int k (k.wrap (BitVec.ofInt k.bits a &&& ~~~BitVec.ofInt k.bits b).toNat))
  | _, _, _, _ => none
theorem int_beq (a b : Int) : (a == b) = decide (a = b) := by
  rw [Bool.eq_iff_iff]; simp
theorem run_binI {op : BinOp} {xT : TypeId} {x y : Operand} {kk : IntKind} {a b : Int} {v : Value} (hv : binI op kk a b = some v) (w : World) :
    Sem.run P (do eqGuard op xT x y (.int kk a) (.int kk b); binOp op xT (.int kk a) (.int kk b)) w = .ok v w := by
  cases op <;> simp only [binI, Option.some.injEq, reduceCtorEq] at hv <;> subst hv <;>
    simp [eqGuard, binOp, Op.intCmp, Op.intArith, Op.intBits, int_beq, bne]
theorem WL.bin {op : BinOp} {xT yT : TypeId} {x y : Operand} {kk : IntKind} {a b : Int} {v : Value} (hg : want ops σ g = some true) (hd : Nat.blt d n = true)
    (hx : ev σ x = some (.int kk a)) (hy : ev σ y = some (.int kk b)) (hv : binI op kk a b = some v)
    (h : WL P n R ops rest k ((d, v) :: σ) w) : WL P n R ops (⟨some d, .binOp op xT x y yT, ty, pos, af, g⟩ :: rest) k σ w :=
  WL.valW (o := ⟨some d, .binOp op xT x y yT, ty, pos, af, g⟩) (v := v) hg hd (fun c hc => by
    have := run_binI (P := P) (xT := xT) (x := x) (y := y) hv w
    simp only [execOp, hc.eval hx, hc.eval hy, Sem.run_bind] at this ⊢
    rw [this]; rfl) h
theorem wrap64 {a : Int} (h : -9223372036854775808 ≤ a ∧ a ≤ 9223372036854775807) : IntKind.i64.wrap a = a := by
  rw [IntKind.wrap_i64]; omega
theorem WL.add {xT yT : TypeId} {x y : Operand} {a b c : Int} (hg : want ops σ g = some true) (hd : Nat.blt d n = true)
    (hx : ev σ x = some (.int .i64 a)) (hy : ev σ y = some (.int .i64 b)) (hc : a + b = c) (hb : -9223372036854775808 ≤ c ∧ c ≤ 9223372036854775807)
    (h : WL P n R ops rest k ((d, .int .i64 c) :: σ) w) : WL P n R ops (⟨some d, .binOp .add xT x y yT, ty, pos, af, g⟩ :: rest) k σ w :=
  WL.bin hg hd hx hy (by simp only [binI]; rw [hc, wrap64 hb]) h
theorem WL.sub_ {xT yT : TypeId} {x y : Operand} {a b c : Int} (hg : want ops σ g = some true) (hd : Nat.blt d n = true)
    (hx : ev σ x = some (.int .i64 a)) (hy : ev σ y = some (.int .i64 b)) (hc : a - b = c) (hb : -9223372036854775808 ≤ c ∧ c ≤ 9223372036854775807)
    (h : WL P n R ops rest k ((d, .int .i64 c) :: σ) w) : WL P n R ops (⟨some d, .binOp .sub xT x y yT, ty, pos, af, g⟩ :: rest) k σ w :=
  WL.bin hg hd hx hy (by simp only [binI]; rw [hc, wrap64 hb]) h
theorem WL.mul {xT yT : TypeId} {x y : Operand} {a b c : Int} (hg : want ops σ g = some true) (hd : Nat.blt d n = true)
    (hx : ev σ x = some (.int .i64 a)) (hy : ev σ y = some (.int .i64 b)) (hc : a * b = c) (hb : -9223372036854775808 ≤ c ∧ c ≤ 9223372036854775807)
    (h : WL P n R ops rest k ((d, .int .i64 c) :: σ) w) : WL P n R ops (⟨some d, .binOp .mul xT x y yT, ty, pos, af, g⟩ :: rest) k σ w :=
  WL.bin hg hd hx hy (by simp only [binI]; rw [hc, wrap64 hb]) h
theorem WL.remC {xT yT : TypeId} {x y : Operand} {kk : IntKind} {a b : Int} (hg : want ops σ g = some true) (hd : Nat.blt d n = true)
    (hx : ev σ x = some (.int kk a)) (hy : ev σ y = some (.int kk b)) (hb : b ≠ 0)
    (h : WL P n R ops rest k ((d, .int kk (a.tmod b)) :: σ) w) : WL P n R ops (⟨some d, .binOp .rem xT x y yT, ty, pos, af, g⟩ :: rest) k σ w :=
  WL.valW (o := ⟨some d, .binOp .rem xT x y yT, ty, pos, af, g⟩) hg hd (fun c hc => by simp [execOp, hc.eval hx, hc.eval hy, eqGuard, binOp, Op.intDiv, hb]) h
theorem WL.quoC {xT yT : TypeId} {x y : Operand} {kk : IntKind} {a b : Int} (hg : want ops σ g = some true) (hd : Nat.blt d n = true)
    (hx : ev σ x = some (.int kk a)) (hy : ev σ y = some (.int kk b)) (hb : b ≠ 0)
    (h : WL P n R ops rest k ((d, .int kk (kk.wrap (a.tdiv b))) :: σ) w) : WL P n R ops (⟨some d, .binOp .quo xT x y yT, ty, pos, af, g⟩ :: rest) k σ w :=
  WL.valW (o := ⟨some d, .binOp .quo xT x y yT, ty, pos, af, g⟩) hg hd (fun c hc => by simp [execOp, hc.eval hx, hc.eval hy, eqGuard, binOp, Op.intDiv, hb]) h
theorem WL.shl {xT yT : TypeId} {x y : Operand} {kk kk' : IntKind} {a b : Int} (hg : want ops σ g = some true) (hd : Nat.blt d n = true)
    (hx : ev σ x = some (.int kk a)) (hy : ev σ y = some (.int kk' b)) (hb : 0 ≤ b)
    (h : WL P n R ops rest k ((d, .int kk (kk.wrap (a * 2 ^ min b.toNat kk.bits))) :: σ) w) : WL P n R ops (⟨some d, .binOp .shl xT x y yT, ty, pos, af, g⟩ :: rest) k σ w :=
  WL.valW (o := ⟨some d, .binOp .shl xT x y yT, ty, pos, af, g⟩) hg hd (fun c hc => by
    have hn : ¬ b < 0 := by omega
    simp [execOp, hc.eval hx, hc.eval hy, eqGuard, binOp, Op.shift, hn]) h
theorem WL.shr {xT yT : TypeId} {x y : Operand} {kk kk' : IntKind} {a b : Int} (hg : want ops σ g = some true) (hd : Nat.blt d n = true)
    (hx : ev σ x = some (.int kk a)) (hy : ev σ y = some (.int kk' b)) (hb : 0 ≤ b)
    (h : WL P n R ops rest k ((d, .int kk (a.fdiv (2 ^ min b.toNat kk.bits))) :: σ) w) : WL P n R ops (⟨some d, .binOp .shr xT x y yT, ty, pos, af, g⟩ :: rest) k σ w :=
  WL.valW (o := ⟨some d, .binOp .shr xT x y yT, ty, pos, af, g⟩) hg hd (fun c hc => by
    have hn : ¬ b < 0 := by omega
    simp [execOp, hc.eval hx, hc.eval hy, eqGuard, binOp, Op.shift, hn]) h
theorem bytes_eq_iff {a b : ByteArray} : (a.toList == b.toList) = decide (a = b) := by
  rw [Bool.eq_iff_iff]
  simp only [beq_iff_eq, decide_eq_true_eq]
  constructor
  · intro h
    rw [ByteArray.toList_eq, ByteArray.toList_eq] at h
    exact Go.WideShapes.bytes_inj h
  · intro h; rw [h]
theorem WL.eqStr {xT yT : TypeId} {x y : Operand} {a b : ByteArray} (hg : want ops σ g = some true) (hd : Nat.blt d n = true)
    (hx : ev σ x = some (.string a)) (hy : ev σ y = some (.string b))
    (h : WL P n R ops rest k ((d, .bool (decide (a = b))) :: σ) w) : WL P n R ops (⟨some d, .binOp .eql xT x y yT, ty, pos, af, g⟩ :: rest) k σ w :=
  WL.valW (o := ⟨some d, .binOp .eql xT x y yT, ty, pos, af, g⟩) hg hd (fun c hc => by
    simp [execOp, hc.eval hx, hc.eval hy, eqGuard, binOp, Op.stringOp, ← bytes_eq_iff]) h
theorem WL.neStr {xT yT : TypeId} {x y : Operand} {a b : ByteArray} (hg : want ops σ g = some true) (hd : Nat.blt d n = true)
    (hx : ev σ x = some (.string a)) (hy : ev σ y = some (.string b))
    (h : WL P n R ops rest k ((d, .bool (!decide (a = b))) :: σ) w) : WL P n R ops (⟨some d, .binOp .neq xT x y yT, ty, pos, af, g⟩ :: rest) k σ w :=
  WL.valW (o := ⟨some d, .binOp .neq xT x y yT, ty, pos, af, g⟩) hg hd (fun c hc => by
    simp [execOp, hc.eval hx, hc.eval hy, eqGuard, binOp, Op.stringOp, ← bytes_eq_iff]) h
theorem WL.eqBool {xT yT : TypeId} {x y : Operand} {a b : Bool} (hu : P.underlying xT = some .bool) (hg : want ops σ g = some true) (hd : Nat.blt d n = true)
    (hx : ev σ x = some (.bool a)) (hy : ev σ y = some (.bool b))
    (h : WL P n R ops rest k ((d, .bool (a == b)) :: σ) w) : WL P n R ops (⟨some d, .binOp .eql xT x y yT, ty, pos, af, g⟩ :: rest) k σ w :=
  WL.valW (o := ⟨some d, .binOp .eql xT x y yT, ty, pos, af, g⟩) hg hd (fun c hc => by
    simp [execOp, hc.eval hx, hc.eval hy, eqGuard, binOp, run_equal_bool, hu]) h
theorem WL.neBool {xT yT : TypeId} {x y : Operand} {a b : Bool} (hu : P.underlying xT = some .bool) (hg : want ops σ g = some true) (hd : Nat.blt d n = true)
    (hx : ev σ x = some (.bool a)) (hy : ev σ y = some (.bool b))
    (h : WL P n R ops rest k ((d, .bool (a != b)) :: σ) w) : WL P n R ops (⟨some d, .binOp .neq xT x y yT, ty, pos, af, g⟩ :: rest) k σ w :=
  WL.valW (o := ⟨some d, .binOp .neq xT x y yT, ty, pos, af, g⟩) hg hd (fun c hc => by
    simp [execOp, hc.eval hx, hc.eval hy, eqGuard, binOp, run_equal_bool, hu, bne]) h
theorem WL.not {xT : TypeId} {x : Operand} {a : Bool} (hg : want ops σ g = some true) (hd : Nat.blt d n = true) (hx : ev σ x = some (.bool a))
    (h : WL P n R ops rest k ((d, .bool (!a)) :: σ) w) : WL P n R ops (⟨some d, .unOp .not xT x, ty, pos, af, g⟩ :: rest) k σ w :=
  WL.valW (o := ⟨some d, .unOp .not xT x, ty, pos, af, g⟩) hg hd (fun c hc => by simp [execOp, hc.eval hx, Op.unary]) h
theorem WL.neg {xT : TypeId} {x : Operand} {kk : IntKind} {a : Int} (hg : want ops σ g = some true) (hd : Nat.blt d n = true) (hx : ev σ x = some (.int kk a))
    (h : WL P n R ops rest k ((d, .int kk (kk.wrap (0 - a))) :: σ) w) : WL P n R ops (⟨some d, .unOp .neg xT x, ty, pos, af, g⟩ :: rest) k σ w :=
  WL.valW (o := ⟨some d, .unOp .neg xT x, ty, pos, af, g⟩) hg hd (fun c hc => by simp [execOp, hc.eval hx, Op.unary, Op.intArith]) h
theorem WL.makeFunc {fn : Fn} {caps : Array Operand} {vs : Array Value} (hg : want ops σ g = some true) (hd : Nat.blt d n = true) (hc : (caps.toList.mapM (ev σ)) = some vs.toList)
    (h : WL P n R ops rest k ((d, .func fn #[] vs) :: σ) w) : WL P n R ops (⟨some d, .makeFunc fn #[] caps, ty, pos, af, g⟩ :: rest) k σ w :=
  WL.valW (o := ⟨some d, .makeFunc fn #[] caps, ty, pos, af, g⟩) hg hd (fun c hk => by
    have key : ∀ (l : List Operand) (r : List Value), l.mapM (ev σ) = some r → l.map c.eval = r := by
      intro l
      induction l with
      | nil => intro r hr; simp at hr; simp [hr]
      | cons x l ih =>
        intro r hr
        simp only [List.mapM_cons, Option.bind_eq_bind, Option.bind_eq_some_iff, Option.pure_def, Option.some.injEq] at hr
        obtain ⟨v, hv, r', hr', e⟩ := hr
        subst e
        simp [hk.eval hv, ih r' hr']
    have e : caps.map c.eval = vs := by
      apply Array.toList_inj.1
      rw [Array.toList_map]
      exact key _ _ hc
    simp [execOp, Instr.makeFunc, e]) h
theorem WL.lenSlice {t : TypeId} {x : Operand} {e : TypeId} {ad : Option Addr} {len cap : Nat} (hu : P.underlying t = some (.slice e)) (hg : want ops σ g = some true) (hd : Nat.blt d n = true) (hx : ev σ x = some (.slice ad len cap))
    (h : WL P n R ops rest k ((d, .int .i64 len) :: σ) w) : WL P n R ops (⟨some d, .call { callee := .builtin .len, args := #[x], argTypes := #[t] }, ty, pos, af, g⟩ :: rest) k σ w :=
  WL.valW (o := ⟨some d, .call { callee := .builtin .len, args := #[x], argTypes := #[t] }, ty, pos, af, g⟩) hg hd (fun c hc => by
    simp [execOp, resolve, invoke, builtin, hc.eval hx, Builtin.len_, run_underlying hu, goInt]) h
theorem WL.lenStr {t : TypeId} {x : Operand} {s : ByteArray} (hu : P.underlying t = some .string) (hg : want ops σ g = some true) (hd : Nat.blt d n = true) (hx : ev σ x = some (.string s))
    (h : WL P n R ops rest k ((d, .int .i64 s.size) :: σ) w) : WL P n R ops (⟨some d, .call { callee := .builtin .len, args := #[x], argTypes := #[t] }, ty, pos, af, g⟩ :: rest) k σ w :=
  WL.valW (o := ⟨some d, .call { callee := .builtin .len, args := #[x], argTypes := #[t] }, ty, pos, af, g⟩) hg hd (fun c hc => by
    simp [execOp, resolve, invoke, builtin, hc.eval hx, Builtin.len_, run_underlying hu, goInt]) h
theorem WL.max2 {tt : Array TypeId} {x y : Operand} {kk : IntKind} {a b : Int} (hg : want ops σ g = some true) (hd : Nat.blt d n = true) (hx : ev σ x = some (.int kk a)) (hy : ev σ y = some (.int kk b))
    (h : WL P n R ops rest k ((d, .int kk (if b > a then b else a)) :: σ) w) : WL P n R ops (⟨some d, .call { callee := .builtin .max, args := #[x, y], argTypes := tt }, ty, pos, af, g⟩ :: rest) k σ w :=
  WL.valW (o := ⟨some d, .call { callee := .builtin .max, args := #[x, y], argTypes := tt }, ty, pos, af, g⟩) hg hd (fun c hc => by
    simp [execOp, resolve, invoke, builtin, hc.eval hx, hc.eval hy, Builtin.max_, Builtin.max2]) h
theorem WL.min2 {tt : Array TypeId} {x y : Operand} {kk : IntKind} {a b : Int} (hg : want ops σ g = some true) (hd : Nat.blt d n = true) (hx : ev σ x = some (.int kk a)) (hy : ev σ y = some (.int kk b))
    (h : WL P n R ops rest k ((d, .int kk (if b < a then b else a)) :: σ) w) : WL P n R ops (⟨some d, .call { callee := .builtin .min, args := #[x, y], argTypes := tt }, ty, pos, af, g⟩ :: rest) k σ w :=
  WL.valW (o := ⟨some d, .call { callee := .builtin .min, args := #[x, y], argTypes := tt }, ty, pos, af, g⟩) hg hd (fun c hc => by
    simp [execOp, resolve, invoke, builtin, hc.eval hx, hc.eval hy, Builtin.min_, Builtin.min2]) h
theorem WL.extract {x : Operand} {vs : Array Value} {i : Nat} {v : Value} (hg : want ops σ g = some true) (hd : Nat.blt d n = true) (hx : ev σ x = some (.tuple vs)) (hv : vs[i]? = some v)
    (h : WL P n R ops rest k ((d, v) :: σ) w) : WL P n R ops (⟨some d, .extract x i, ty, pos, af, g⟩ :: rest) k σ w :=
  WL.valW (o := ⟨some d, .extract x i, ty, pos, af, g⟩) hg hd (fun c hc => by simp [execOp, hc.eval hx, Instr.extract, hv]) h
theorem WL.nilPtr {x : Operand} {ad : Addr} (hg : want ops σ g = some true) (hd : Nat.blt d n = true) (hx : ev σ x = some (.pointer (some ad)))
    (h : WL P n R ops rest k ((d, .pointer (some ad)) :: σ) w) : WL P n R ops (⟨some d, .nilCheck x, ty, pos, af, g⟩ :: rest) k σ w :=
  WL.valW (o := ⟨some d, .nilCheck x, ty, pos, af, g⟩) hg hd (fun c hc => by simp [execOp, hc.eval hx]) h
/-- The place of a field. -/
def fOff (P : Program) (s f : Nat) (off : Nat) : Bool :=
  match P.underlying s with
  | some (.struct fs) => match fs[f]? with
    | some fd => Nat.beq fd.offset off && (match P.info? fd.type with | some i => !(Nat.beq i.size 0) | none => false)
    | none => false
  | _ => false
theorem addr_add (b o m : Nat) : (⟨b, o, none⟩ : Addr).add m = ⟨b, o + m, none⟩ := by unfold Addr.add; split <;> simp_all
theorem WL.fieldAddr {s f : Nat} {x : Operand} {b o off : Nat} (hf : fOff P s f off = true) (hg : want ops σ g = some true) (hd : Nat.blt d n = true) (hx : ev σ x = some (.pointer (some ⟨b, o, none⟩)))
    (h : WL P n R ops rest k ((d, .pointer (some ⟨b, o + off, none⟩)) :: σ) w) : WL P n R ops (⟨some d, .fieldAddr s x f, ty, pos, af, g⟩ :: rest) k σ w :=
  WL.valW (o := ⟨some d, .fieldAddr s x f, ty, pos, af, g⟩) hg hd (fun c hc => by
    unfold fOff at hf
    split at hf <;> try (cases hf; done)
    rename_i fs hu
    split at hf <;> try (cases hf; done)
    rename_i fd hfd
    simp only [Bool.and_eq_true] at hf
    obtain ⟨h1, h2⟩ := hf
    split at h2 <;> try (cases h2; done)
    rename_i i hi
    have e1 : fd.offset = off := Nat.eq_of_beq_eq_true h1
    have e2 : i.size ≠ 0 := by intro e; rw [e] at h2; simp at h2
    simp [execOp, hc.eval hx, Instr.fieldAt, run_underlying hu, hfd, Instr.sureAddr, fieldPlace, sizeOf, typeInfo, hi, e2, addr_add, e1]) h
theorem WL.indexAddr {t e sz : Nat} {x i : Operand} {kk : IntKind} {b o len cap : Nat} {j : Nat} (hu : P.underlying t = some (.slice e)) (hs : (P.info? e).map (·.size) = some sz) (hg : want ops σ g = some true) (hd : Nat.blt d n = true)
    (hx : ev σ x = some (.slice (some ⟨b, o, none⟩) len cap)) (hi : ev σ i = some (.int kk (j : Int))) (hj : j < len)
    (h : WL P n R ops rest k ((d, .pointer (some ⟨b, o + j * sz, none⟩)) :: σ) w) : WL P n R ops (⟨some d, .indexAddr t x i, ty, pos, af, g⟩ :: rest) k σ w :=
  WL.valW (o := ⟨some d, .indexAddr t x i, ty, pos, af, g⟩) hg hd (fun c hc => by
    cases hq : P.info? e with
    | none => rw [hq] at hs; cases hs
    | some inf =>
      rw [hq] at hs
      simp at hs
      simp [execOp, hc.eval hx, hc.eval hi, Instr.indexAt, asIntOf, run_underlying hu, sizeOf, typeInfo, hq, hs, hj, addr_add]) h
/-- The function that a call enters. -/
theorem WL.callF {f : Nat} {fn : Func} {xs : Array Operand} {vs : List Value} {tt : Array TypeId} {Rc : Value → World → Prop} (hf : P.funcs[f]? = some fn) (hb : (fn.body.isSome && !(fn.name == "runtime.NumGoroutine")) = true)
    (hg : want ops σ g = some true) (hd : Nat.blt d n = true) (hx : xs.toList.mapM (ev σ) = some vs) (hc : Ret P f vs.toArray w Rc)
    (h : ∀ v w', Rc v w' → WL P n R ops rest k ((d, v) :: σ) w') : WL P n R ops (⟨some d, .call { callee := .value (.func f), args := xs, argTypes := tt }, ty, pos, af, g⟩ :: rest) k σ w :=
  WL.call (o := ⟨some d, .call { callee := .value (.func f), args := xs, argTypes := tt }, ty, pos, af, g⟩) hg hd (fun c hk => by
    have key : ∀ (l : List Operand) (r : List Value), l.mapM (ev σ) = some r → l.map c.eval = r := by
      intro l
      induction l with
      | nil => intro r hr; simp at hr; simp [hr]
      | cons x l ih =>
        intro r hr
        simp only [List.mapM_cons, Option.bind_eq_bind, Option.bind_eq_some_iff, Option.pure_def, Option.some.injEq] at hr
        obtain ⟨v, hv, r', hr', e⟩ := hr
        subst e
        simp [hk.eval hv, ih r' hr']
    have e : xs.map c.eval = vs.toArray := by
      apply Array.toList_inj.1
      rw [Array.toList_map]
      exact key _ _ hx
    simp only [Bool.and_eq_true, Bool.not_eq_true', Option.isSome_iff_exists, beq_eq_false_iff_ne] at hb
    obtain ⟨⟨bd, hbd⟩, hnm⟩ := hb
    simp [execOp, resolve, invoke, Act.eval, Deferred.ofValue, e, callFunc, hf, hbd, hnm]) hc h
/-- The same through a function value. -/
theorem WL.callV {f : Nat} {fn : Func} {x : Operand} {xs : Array Operand} {vs : List Value} {cs : Array Value} {tt : Array TypeId} {Rc : Value → World → Prop} (hf : P.funcs[f]? = some fn) (hb : (fn.body.isSome && !(fn.name == "runtime.NumGoroutine")) = true)
    (hg : want ops σ g = some true) (hd : Nat.blt d n = true) (hfx : ev σ x = some (.func (.func f) #[] cs)) (hx : xs.toList.mapM (ev σ) = some vs) (hc : Ret P f (vs.toArray ++ cs) w Rc)
    (h : ∀ v w', Rc v w' → WL P n R ops rest k ((d, v) :: σ) w') : WL P n R ops (⟨some d, .call { callee := .value x, args := xs, argTypes := tt }, ty, pos, af, g⟩ :: rest) k σ w :=
  WL.call (o := ⟨some d, .call { callee := .value x, args := xs, argTypes := tt }, ty, pos, af, g⟩) hg hd (fun c hk => by
    have key : ∀ (l : List Operand) (r : List Value), l.mapM (ev σ) = some r → l.map c.eval = r := by
      intro l
      induction l with
      | nil => intro r hr; simp at hr; simp [hr]
      | cons x l ih =>
        intro r hr
        simp only [List.mapM_cons, Option.bind_eq_bind, Option.bind_eq_some_iff, Option.pure_def, Option.some.injEq] at hr
        obtain ⟨v, hv, r', hr', e⟩ := hr
        subst e
        simp [hk.eval hv, ih r' hr']
    have e : xs.map c.eval = vs.toArray := by
      apply Array.toList_inj.1
      rw [Array.toList_map]
      exact key _ _ hx
    simp only [Bool.and_eq_true, Bool.not_eq_true', Option.isSome_iff_exists, beq_eq_false_iff_ne] at hb
    obtain ⟨⟨bd, hbd⟩, hnm⟩ := hb
    simp [execOp, resolve, invoke, hk.eval hfx, Deferred.ofValue, e, callFunc, hf, hbd, hnm]) hc h
end
end Go.Proofs.Ytdlcmhkfglckfaa

namespace Go.Proofs.Ytdlcmhkfglckfaa
open Go.RowKit

structure Row where
  v : Value
  e : TypeId
  sz : Nat
  n : Nat
  xs : List Value
def keysOf (L : List (Nat × Obj)) (Rs : List Row) : List Nat := L.map (·.1) ++ Rs.filterMap (·.v.ownBlock)
/-- w0: the world at the call's begin; ws: the world in which what is only read is looked at; ro: the blocks that are only read; L: the call's own blocks; Rs: its own rows that may grow. -/
structure St (w0 ws w : World) (ro : Nat → Prop) (L : List (Nat × Obj)) (Rs : List Row) : Prop where
  below : Below w0.heap.size w0 w
  snap : ∀ b, ro b → b < w.heap.size ∧ w.heap[b]? = ws.heap[b]?
  own : ∀ p ∈ L, w.heap[p.1]? = some p.2
  rows : ∀ r ∈ Rs, w.ownsRow w0.heap.size r.e r.sz r.v r.n r.xs
  keys : ∀ x ∈ keysOf L Rs, w0.heap.size ≤ x ∧ x < w.heap.size ∧ ¬ ro x
  nodup : (keysOf L Rs).Nodup

theorem St.start {w : World} {ro : Nat → Prop} (h : ∀ b, ro b → b < w.heap.size) : St w w w ro [] [] :=
  ⟨Below.refl _ _, fun b hb => ⟨h b hb, rfl⟩, by simp, by simp, by simp [keysOf], by simp [keysOf]⟩

section
variable {w0 ws w w' : World} {ro : Nat → Prop} {L : List (Nat × Obj)} {Rs : List Row}
theorem keysOf_lt (h : St w0 ws w ro L Rs) {x : Nat} (hx : x ∈ keysOf L Rs) : x < w.heap.size := (h.keys x hx).2.1
/-- A world in which nothing that there was has turned. -/
theorem St.grow (h : St w0 ws w ro L Rs) (hb : Below w.heap.size w w') : St w0 ws w' ro L Rs := by
  refine ⟨h.below.trans (hb.mono h.below.size), ?_, ?_, ?_, ?_, h.nodup⟩
  · intro b hr
    obtain ⟨h1, h2⟩ := h.snap b hr
    exact ⟨Nat.lt_of_lt_of_le h1 hb.size, (hb.block b h1).trans h2⟩
  · intro p hp
    rw [hb.block p.1 (keysOf_lt h (by simp only [keysOf, List.mem_append, List.mem_map]; exact .inl ⟨p, hp, rfl⟩))]
    exact h.own p hp
  · intro r hr
    have hg : w.grownBy w' none := ⟨hb.os, hb.tape, hb.output, hb.size, fun k hk _ => hb.block k hk⟩
    exact (h.rows r hr).kept hg (by cases r.v.ownBlock <;> simp)
  · intro x hx
    obtain ⟨h1, h2, h3⟩ := h.keys x hx
    exact ⟨h1, Nat.lt_of_lt_of_le h2 hb.size, h3⟩
/-- Other blocks are read as well from here on: those of a result. -/
theorem St.read (h : St w0 ws w ro L Rs) (hb : Below w.heap.size w w') {ro' : Nat → Prop} (h1 : ∀ b, ro' b → ro b ∨ w.heap.size ≤ b) (h2 : ∀ b, ro' b → b < w'.heap.size) : St w0 w' w' ro' L Rs := by
  have g := h.grow hb
  refine ⟨g.below, fun b hr => ⟨h2 b hr, rfl⟩, g.own, g.rows, ?_, g.nodup⟩
  intro x hx
  obtain ⟨k1, k2, k3⟩ := g.keys x hx
  refine ⟨k1, k2, fun hr => ?_⟩
  rcases h1 x hr with h4 | h4
  · exact (h.keys x hx).2.2 h4
  · exact absurd (keysOf_lt h hx) (by omega)
/-- The world itself is what is looked at. -/
theorem St.now (h : St w0 ws w ro L Rs) : St w0 w w ro L Rs := ⟨h.below, fun b hr => ⟨(h.snap b hr).1, rfl⟩, h.own, h.rows, h.keys, h.nodup⟩
theorem St.alloc (h : St w0 ws w ro L Rs) (o : Obj) : St w0 ws (w.alloc o) ro ((w.heap.size, o) :: L) Rs := by
  have g := h.grow ((Below.refl w.heap.size w).alloc (Nat.le_refl _) o)
  refine ⟨g.below, g.snap, ?_, g.rows, ?_, ?_⟩
  · intro p hp
    rcases List.mem_cons.1 hp with e | hp
    · subst e; exact Go.heap_alloc_new w o
    · exact g.own p hp
  · intro x hx
    simp only [keysOf, List.map_cons, List.cons_append, List.mem_cons] at hx
    rcases hx with e | hx
    · subst e
      refine ⟨h.below.size, by simp, fun hr => ?_⟩
      exact absurd (h.snap _ hr).1 (by omega)
    · exact g.keys x (by simpa [keysOf] using hx)
  · simp only [keysOf, List.map_cons, List.cons_append, List.nodup_cons]
    refine ⟨fun hx => ?_, h.nodup⟩
    exact absurd (keysOf_lt h (x := w.heap.size) (by simpa [keysOf] using hx)) (by omega)
theorem keysOf_set (L : List (Nat × Obj)) (Rs : List Row) (i b : Nat) (o o' : Obj) (hL : L[i]? = some (b, o)) : keysOf (L.set i (b, o')) Rs = keysOf L Rs := by
  have : (L.set i (b, o')).map (·.1) = L.map (·.1) := by
    apply List.ext_getElem?
    intro j
    simp only [List.getElem?_map, List.getElem?_set]
    split
    · rename_i e; subst e
      rw [hL]
      have := (List.getElem?_eq_some_iff.1 hL).1
      simp [this]
    · rfl
  simp [keysOf, this]
/-- One of the call's own blocks has turned. -/
theorem St.upd (h : St w0 ws w ro L Rs) {i b : Nat} {o o' : Obj} (hL : L[i]? = some (b, o)) (hg : w.grownBy w' (some b)) (ho : w'.heap[b]? = some o') : St w0 ws w' ro (L.set i (b, o')) Rs := by
  have hmem : (b, o) ∈ L := List.mem_of_getElem? hL
  have hkey : b ∈ keysOf L Rs := by simp only [keysOf, List.mem_append, List.mem_map]; exact .inl ⟨_, hmem, rfl⟩
  obtain ⟨k1, k2, k3⟩ := h.keys b hkey
  refine ⟨h.below.grown hg h.below.size (fun k e => by cases e; exact k1), ?_, ?_, ?_, ?_, ?_⟩
  · intro x hx
    obtain ⟨h1, h2⟩ := h.snap x hx
    refine ⟨Nat.lt_of_lt_of_le h1 hg.size, ?_⟩
    rw [hg.block x h1 (fun e => by cases e; exact k3 hx)]
    exact h2
  · intro p hp
    obtain ⟨j, hj⟩ := List.mem_iff_getElem?.1 hp
    rw [List.getElem?_set] at hj
    split at hj
    · split at hj
      · cases hj; exact ho
      · cases hj
    · rename_i hne
      have hpL : p ∈ L := List.mem_of_getElem? hj
      have hpk : p.1 ∈ keysOf L Rs := by simp only [keysOf, List.mem_append, List.mem_map]; exact .inl ⟨p, hpL, rfl⟩
      rw [hg.block p.1 (keysOf_lt h hpk) (fun e => ?_)]
      · exact h.own p hpL
      · have e' : p.1 = b := by cases e; rfl
        have hnd : (L.map (·.1)).Nodup := (List.nodup_append.1 h.nodup).1
        have h1 : (L.map (·.1))[i]? = some b := by simp [hL]
        have h2 : (L.map (·.1))[j]? = some b := by simp [hj, e']
        have hi := (List.getElem?_eq_some_iff.1 h1).1
        have hjj := (List.getElem?_eq_some_iff.1 h2).1
        have := (List.getElem_inj hnd (h₀ := hi) (h₁ := hjj)).1 (by rw [List.getElem?_eq_getElem hi] at h1; rw [List.getElem?_eq_getElem hjj] at h2; exact Option.some.inj (h1.trans h2.symm))
        exact hne this
  · intro r hr
    refine (h.rows r hr).kept hg ?_
    cases hv : r.v.ownBlock with
    | none => exact .inl rfl
    | some g =>
      refine .inr fun e => ?_
      cases e
      have hd := (List.nodup_append.1 h.nodup).2.2 b (List.mem_map.2 ⟨_, hmem, rfl⟩) b (List.mem_filterMap.2 ⟨r, hr, hv⟩)
      exact hd rfl
  · intro x hx
    rw [keysOf_set L Rs i b o o' hL] at hx
    obtain ⟨h1, h2, h3⟩ := h.keys x hx
    exact ⟨h1, Nat.lt_of_lt_of_le h2 hg.size, h3⟩
  · rw [keysOf_set L Rs i b o o' hL]; exact h.nodup
/-- Own blocks are let go. -/
theorem St.drop (h : St w0 ws w ro L Rs) {L' : List (Nat × Obj)} {Rs' : List Row} (h1 : List.Sublist L' L) (h2 : List.Sublist Rs' Rs) : St w0 ws w ro L' Rs' := by
  have hs : List.Sublist (keysOf L' Rs') (keysOf L Rs) := List.Sublist.append (h1.map _) (h2.filterMap _)
  exact ⟨h.below, h.snap, fun p hp => h.own p (h1.subset hp), fun r hr => h.rows r (h2.subset hr), fun x hx => h.keys x (hs.subset hx), List.Nodup.sublist hs h.nodup⟩
/-- A new own row that is nil. -/
theorem St.row0 (h : St w0 ws w ro L Rs) (e sz : Nat) : St w0 ws w ro L (⟨.slice none 0 0, e, sz, 0, []⟩ :: Rs) := by
  have hk : keysOf L (⟨.slice none 0 0, e, sz, 0, []⟩ :: Rs) = keysOf L Rs := by simp [keysOf, Value.ownBlock]
  refine ⟨h.below, h.snap, h.own, ?_, by rw [hk]; exact h.keys, by rw [hk]; exact h.nodup⟩
  intro r hr
  rcases List.mem_cons.1 hr with e | hr
  · subst e; exact World.ownsRow_nil _ _ _ _
  · exact h.rows r hr
/-- The first own row has grown. -/
theorem St.row1 {r r' : Row} (h : St w0 ws w ro L (r :: Rs)) (hg : w.grownBy w' r.v.ownBlock) (ho : w'.ownsRow w0.heap.size r'.e r'.sz r'.v r'.n r'.xs)
    (hb : ∀ b, r'.v.ownBlock = some b → r.v.ownBlock = some b ∨ w.heap.size ≤ b) : St w0 ws w' ro L (r' :: Rs) := by
  have hrow := h.rows r (List.mem_cons_self)
  have hkr : ∀ b, r.v.ownBlock = some b → b ∈ keysOf L (r :: Rs) := fun b e => by
    simp only [keysOf, List.mem_append, List.mem_filterMap]
    exact .inr ⟨r, List.mem_cons_self, e⟩
  have hsub : List.Sublist (keysOf L Rs) (keysOf L (r :: Rs)) := List.Sublist.append (List.Sublist.refl _) ((List.sublist_cons_self r Rs).filterMap _)
  have hne : ∀ x ∈ keysOf L Rs, some x ≠ r.v.ownBlock := fun x hx e => by
    have h3 := h.nodup
    simp only [keysOf, List.filterMap_cons, ← e] at h3
    simp only [keysOf, List.mem_append] at hx
    rcases hx with hx | hx
    · exact (List.nodup_append.1 h3).2.2 x hx x (List.mem_cons_self) rfl
    · exact (List.nodup_cons.1 (List.nodup_append.1 h3).2.1).1 hx
  refine ⟨h.below.grown hg h.below.size (fun b e => (h.keys b (hkr b e)).1), ?_, ?_, ?_, ?_, ?_⟩
  · intro x hx
    obtain ⟨h1, h2⟩ := h.snap x hx
    refine ⟨Nat.lt_of_lt_of_le h1 hg.size, ?_⟩
    rw [hg.block x h1 (fun e => (h.keys x (hkr x e.symm)).2.2 hx)]
    exact h2
  · intro p hp
    have hpk : p.1 ∈ keysOf L Rs := by simp only [keysOf, List.mem_append, List.mem_map]; exact .inl ⟨p, hp, rfl⟩
    rw [hg.block p.1 (h.keys p.1 (hsub.subset hpk)).2.1 (hne p.1 hpk)]
    exact h.own p hp
  · intro q hq
    rcases List.mem_cons.1 hq with e | hq
    · subst e; exact ho
    · refine (h.rows q (List.mem_cons_of_mem _ hq)).kept hg ?_
      cases hv : q.v.ownBlock with
      | none => exact .inl rfl
      | some b =>
        refine .inr fun e => hne b ?_ e
        simp only [keysOf, List.mem_append, List.mem_filterMap]
        exact .inr ⟨q, hq, hv⟩
  · intro x hx
    have old : x ∈ keysOf L Rs → w0.heap.size ≤ x ∧ x < w'.heap.size ∧ ¬ ro x := fun hx => by
      obtain ⟨h1, h2, h3⟩ := h.keys x (hsub.subset hx)
      exact ⟨h1, Nat.lt_of_lt_of_le h2 hg.size, h3⟩
    simp only [keysOf, List.mem_append, List.mem_filterMap, List.mem_cons] at hx
    rcases hx with hx | ⟨q, hq | hq, he⟩
    · exact old (by simp only [keysOf, List.mem_append]; exact .inl hx)
    · subst hq
      obtain ⟨h1, h2⟩ := ho.lt x he
      refine ⟨h1, h2, fun hr => ?_⟩
      rcases hb x he with h4 | h4
      · exact (h.keys x (hkr x h4)).2.2 hr
      · exact absurd (h.snap x hr).1 (by omega)
    · exact old (by simp only [keysOf, List.mem_append, List.mem_filterMap]; exact .inr ⟨q, hq, he⟩)
  · have hnd : (keysOf L Rs).Nodup := List.Nodup.sublist hsub h.nodup
    cases hv : r'.v.ownBlock with
    | none => simpa [keysOf, List.filterMap_cons, hv] using hnd
    | some b =>
      have hnew : b ∉ keysOf L Rs := fun hx => by
        rcases hb b hv with h4 | h4
        · exact hne b hx h4.symm
        · exact absurd (h.keys b (hsub.subset hx)).2.1 (by omega)
      have hp : List.Perm (keysOf L (r' :: Rs)) (b :: keysOf L Rs) := by
        simp only [keysOf, List.filterMap_cons, hv]
        exact List.perm_middle
      exact hp.nodup_iff.2 (List.nodup_cons.2 ⟨hnew, hnd⟩)

/-! ### Reading -/
theorem St.cell (h : St w0 ws w ro L Rs) (i : Nat) {b off t : Nat} {c : Array Value} {fr : Nat × Nat} {v : Value} (hL : L[i]? = some (b, .cells c t fr)) (hv : c[off]? = some v) : w.cell? ⟨b, off, none⟩ = some v := by
  rw [cell_of_row w b off c t fr (h.own _ (List.mem_of_getElem? hL))]
  exact hv
def CellsAt (w : World) (b off : Nat) (cs : List Value) : Prop := ∀ j v, cs[j]? = some v → w.cell? ⟨b, off + j, none⟩ = some v
theorem St.cells (h : St w0 ws w ro L Rs) (i : Nat) {b off m t : Nat} {c : Array Value} {fr : Nat × Nat} {cs : List Value} (hL : L[i]? = some (b, .cells c t fr)) (hv : (c.toList.drop off).take m = cs) : CellsAt w b off cs := by
  intro j v hj
  subst hv
  rw [cell_of_row w b (off + j) c t fr (h.own _ (List.mem_of_getElem? hL))]
  rw [List.getElem?_take] at hj
  split at hj
  · simpa using hj
  · cases hj
theorem St.roCell (h : St w0 ws w ro L Rs) {b off : Nat} {v : Value} (hr : ro b) (hc : ws.cell? ⟨b, off, none⟩ = some v) : w.cell? ⟨b, off, none⟩ = some v := by
  rw [World.cell?_of_block (w := ws) (w' := w) (a := ⟨b, off, none⟩) (h.snap b hr).2]
  exact hc
theorem St.roCells (h : St w0 ws w ro L Rs) {b off : Nat} {cs : List Value} (hr : ro b) (hc : CellsAt ws b off cs) : CellsAt w b off cs := fun j v hj => h.roCell hr (hc j v hj)
end

/-- A type whose variables are one cell. -/
def tyOne (P : Program) (t : TypeId) : Bool := match P.underlying t with
  | some (.struct _) | some (.array _ _) => false
  | some _ => match P.info? t with | some i => Nat.beq i.size 1 | none => false
  | none => false
/-- A struct's or an array's type, and its cells. -/
def tyAgg (P : Program) (t n : Nat) : Bool := match P.underlying t with
  | some (.struct _) | some (.array _ _) => match P.info? t with | some i => Nat.beq i.size n | none => false
  | _ => false
def tySize (P : Program) (t n : Nat) : Bool := match P.info? t with | some i => Nat.beq i.size n | none => false
/-- A type's zero value, cell by cell. -/
def TyZero (P : Program) (t : Nat) (zs : List Value) : Prop := ∃ i z, P.info? t = some i ∧ i.zero = some z ∧ z.cells = zs.toArray ∧ i.size = zs.length
def tyZero (P : Program) (t : Nat) : Option (List Value) := match P.info? t with
  | some i => match i.zero with
    | some z => bif Nat.beq i.size z.cells.size then some z.cells.toList else none
    | none => none
  | none => none
theorem tyZero_spec {P : Program} {t : Nat} {zs : List Value} (h : tyZero P t = some zs) : TyZero P t zs := by
  unfold tyZero at h
  split at h <;> try (cases h; done)
  rename_i i hi
  split at h <;> try (cases h; done)
  rename_i z hz
  cases hb : Nat.beq i.size z.cells.size with
  | false => rw [hb] at h; cases h
  | true =>
    rw [hb] at h
    simp only [cond_true, Option.some.injEq] at h
    subst h
    exact ⟨i, z, hi, hz, by simp, by rw [Nat.eq_of_beq_eq_true hb]; simp⟩
theorem CellsAt.part {w : World} {b off : Nat} {cs cs' : List Value} (h : CellsAt w b off cs) (i m : Nat) (e : (cs.drop i).take m = cs') : CellsAt w b (off + i) cs' := by
  intro j v hj
  subst e
  rw [List.getElem?_take] at hj
  split at hj
  · rw [Nat.add_assoc]; exact h (i + j) v (by simpa using hj)
  · cases hj
theorem tyOne_run {P : Program} {t : TypeId} (h : tyOne P t = true) {w : World} {a : Addr} {v : Value} (hc : w.cell? a = some v) : (loadVar t a).run P w = .ok v w := by
  unfold tyOne at h
  cases hu : P.underlying t with
  | none => rw [hu] at h; cases h
  | some d =>
    rw [hu] at h
    cases d <;> first | (cases h; done) | simp [loadVar, isAgg, run_underlying hu, hc]
theorem tyAgg_run {P : Program} {t n : Nat} (h : tyAgg P t n = true) {w : World} {b off : Nat} {cs : List Value} (hl : Nat.beq cs.length n = true) (hc : CellsAt w b off cs) : (loadVar t ⟨b, off, none⟩).run P w = .ok (.agg cs.toArray) w := by
  have hl' : cs.length = n := Nat.eq_of_beq_eq_true hl
  have hr := run_loadCells_list (P := P) w ⟨b, off, none⟩ cs (fun j v hv => by rw [addr_add]; exact hc j v hv)
  unfold tyAgg at h
  split at h <;> try (cases h; done)
  all_goals
    rename_i hu
    split at h <;> try (cases h; done)
    rename_i i hi
    have := Nat.eq_of_beq_eq_true h
    simp [loadVar, isAgg, run_underlying hu, sizeOf, typeInfo, hi, this, ← hl', hr]

section
variable {P : Program} {n : Nat} {R : Exit → Act → World → Prop} {k : Kt} {σ : Env} {w : World} {ops : Array Oper} {rest : List Oper}
variable {d : Nat} {ty : TypeId} {pos : String} {af : Array Edge} {g : Option (Nat × Bool)}
theorem WL.load1 {t : TypeId} {x : Operand} {ad : Addr} {v : Value} (h1 : tyOne P t = true) (hg : want ops σ g = some true) (hd : Nat.blt d n = true) (hx : ev σ x = some (.pointer (some ad))) (hc : w.cell? ad = some v)
    (h : WL P n R ops rest k ((d, v) :: σ) w) : WL P n R ops (⟨some d, .load t x, ty, pos, af, g⟩ :: rest) k σ w :=
  WL.valW (o := ⟨some d, .load t x, ty, pos, af, g⟩) hg hd (fun a ha => by simp [execOp, ha.eval hx, Instr.loadAt, Instr.sureAddr, tyOne_run h1 hc]) h
theorem WL.loadN {t m : TypeId} {x : Operand} {b off : Nat} {cs : List Value} (h1 : tyAgg P t m = true) (hg : want ops σ g = some true) (hd : Nat.blt d n = true) (hx : ev σ x = some (.pointer (some ⟨b, off, none⟩))) (hl : Nat.beq cs.length m = true) (hc : CellsAt w b off cs)
    (h : WL P n R ops rest k ((d, .agg cs.toArray) :: σ) w) : WL P n R ops (⟨some d, .load t x, ty, pos, af, g⟩ :: rest) k σ w :=
  WL.valW (o := ⟨some d, .load t x, ty, pos, af, g⟩) hg hd (fun a ha => by simp [execOp, ha.eval hx, Instr.loadAt, Instr.sureAddr, tyAgg_run h1 hl hc]) h

theorem WL.indexAddrE {t e sz : Nat} {x i : Operand} {kk : IntKind} {ad : Option Addr} {b o len cap : Nat} {j : Nat} (hu : P.underlying t = some (.slice e)) (hs : (P.info? e).map (·.size) = some sz) (hg : want ops σ g = some true) (hd : Nat.blt d n = true)
    (hx : ev σ x = some (.slice ad len cap)) (hi : ev σ i = some (.int kk (j : Int))) (hj : j < len) (hE : ad = some ⟨b, o, none⟩)
    (h : WL P n R ops rest k ((d, .pointer (some ⟨b, o + j * sz, none⟩)) :: σ) w) : WL P n R ops (⟨some d, .indexAddr t x i, ty, pos, af, g⟩ :: rest) k σ w := by
  subst hE
  exact WL.indexAddr hu hs hg hd hx hi hj h
variable {w0 ws : World} {ro : Nat → Prop} {L : List (Nat × Obj)} {Rs : List Row}
theorem WL.alloc {t : TypeId} {zs : List Value} (hz : TyZero P t zs) (hg : want ops σ g = some true) (hd : Nat.blt d n = true) (hS : St w0 ws w ro L Rs)
    (h : ∀ w' b, b = w.heap.size → St w0 ws w' ro ((b, .cells zs.toArray t (0, 0)) :: L) Rs → WL P n R ops rest k ((d, .pointer (some ⟨b, 0, none⟩)) :: σ) w') : WL P n R ops (⟨some d, .alloc t, ty, pos, af, g⟩ :: rest) k σ w := by
  obtain ⟨i, z, hi, hz1, hz2, hz3⟩ := hz
  exact WL.valW (o := ⟨some d, .alloc t, ty, pos, af, g⟩) (v := .pointer (some ⟨w.heap.size, 0, none⟩)) (w' := w.alloc (.cells zs.toArray t (0, 0))) hg hd (fun a _ => by
    simp [execOp, Instr.alloc, zeroValue, typeInfo, hi, hz1, newVar, newRow, hz2]) (h _ _ rfl (hS.alloc _))
theorem WL.box {t : TypeId} {x : Operand} {v : Value} {cs : List Value} (hg : want ops σ g = some true) (hd : Nat.blt d n = true) (hx : ev σ x = some v) (hv : v.cells.toList = cs) (hS : St w0 ws w ro L Rs)
    (h : ∀ w' b, b = w.heap.size → St w0 ws w' ro ((b, .cells cs.toArray t (0, 0)) :: L) Rs → WL P n R ops rest k ((d, .pointer (some ⟨b, 0, none⟩)) :: σ) w') : WL P n R ops (⟨some d, .box t x, ty, pos, af, g⟩ :: rest) k σ w := by
  subst hv
  exact WL.valW (o := ⟨some d, .box t x, ty, pos, af, g⟩) (v := .pointer (some ⟨w.heap.size, 0, none⟩)) (w' := w.alloc (.cells v.cells t (0, 0))) hg hd (fun a ha => by
    simp [execOp, ha.eval hx, Instr.box, newVar, newRow]) (h _ _ rfl (by have := hS.alloc (.cells v.cells t (0, 0)); simpa using this))
theorem grownBy_setRow (w : World) (b : Nat) (cs : Array Value) : w.grownBy (w.setRow b cs) (some b) :=
  ⟨rfl, rfl, rfl, by simp [World.setRow], fun k _ hne => setRow_other w b k cs (fun e => hne (by rw [e]))⟩
theorem run_storeVar_own {t b off e : Nat} {v : Value} {c : Array Value} (hs : tySize P t v.cells.toList.length = true) (h1 : v.cells.toList.all (·.oneCell') = true) (hb : w.heap[b]? = some (.cells c e (0, 0))) (hlen : Nat.ble (off + v.cells.toList.length) c.size = true) :
    (storeVar t ⟨b, off, none⟩ v).run P w = .ok () (w.setRow b (c.toList.take off ++ v.cells.toList ++ c.toList.drop (off + v.cells.toList.length)).toArray) := by
  unfold tySize at hs
  split at hs <;> try (cases hs; done)
  rename_i i hi
  have hsz := Nat.eq_of_beq_eq_true hs
  have hst := run_storeCells_at P b off e v.cells.toList 0 c w hb (by simpa using hlen) (List.all_eq_true.1 h1)
  simp only [Nat.add_zero] at hst
  have hsz' : v.cells.size = i.size := by rw [hsz, Array.length_toList]
  simp [storeVar, sizeOf, typeInfo, hi, hsz', hst]
theorem WL.store {t e : TypeId} {x y : Operand} {b off : Nat} {v : Value} {cs : List Value} {c c' : Array Value} {L' : List (Nat × Obj)} (i : Nat) (hg : want ops σ g = some true) (hx : ev σ x = some (.pointer (some ⟨b, off, none⟩))) (hy : ev σ y = some v) (hv : v.cells.toList = cs)
    (hs : tySize P t cs.length = true) (h1 : cs.all (·.oneCell') = true) (hL : L[i]? = some (b, .cells c e (0, 0))) (hlen : Nat.ble (off + cs.length) c.size = true) (hc' : (c.toList.take off ++ cs ++ c.toList.drop (off + cs.length)).toArray = c') (hL' : L.set i (b, .cells c' e (0, 0)) = L') (hS : St w0 ws w ro L Rs)
    (h : ∀ w', St w0 ws w' ro L' Rs → WL P n R ops rest k σ w') : WL P n R ops (⟨none, .store t x y, ty, pos, af, g⟩ :: rest) k σ w := by
  subst hv; subst hc'; subst hL'
  have hb := hS.own _ (List.mem_of_getElem? hL)
  have hr := run_storeVar_own (P := P) hs h1 hb hlen
  exact WL.unitW (o := ⟨none, .store t x y, ty, pos, af, g⟩) hg rfl (fun a ha => by simp [execOp, ha.eval hx, ha.eval hy, Instr.storeAt, Instr.sureAddr, hr])
    (h _ (hS.upd hL (grownBy_setRow w b _) (setRow_heap w b c _ e (0, 0) hb)))
theorem WL.build {t : TypeId} {parts : Array (Nat × Operand)} {ps : List (Nat × Value)} {cs : List Value} (hg : want ops σ g = some true) (hd : Nat.blt d n = true) (hp : parts.toList.mapM (fun p => (ev σ p.2).map fun v => (p.1, v)) = some ps) (hb : P.built t ps = some cs.toArray)
    (h : WL P n R ops rest k ((d, .agg cs.toArray) :: σ) w) : WL P n R ops (⟨some d, .build t parts, ty, pos, af, g⟩ :: rest) k σ w :=
  WL.valW (o := ⟨some d, .build t parts, ty, pos, af, g⟩) hg hd (fun a ha => by
    have key : ∀ (l : List (Nat × Operand)) (r : List (Nat × Value)), l.mapM (fun p => (ev σ p.2).map fun v => (p.1, v)) = some r → l.map (fun p => (p.1, a.eval p.2)) = r := by
      intro l
      induction l with
      | nil => intro r hr; simp at hr; simp [hr]
      | cons x l ih =>
        intro r hr
        simp only [List.mapM_cons, Option.bind_eq_bind, Option.bind_eq_some_iff, Option.pure_def, Option.some.injEq, Option.map_eq_some_iff] at hr
        obtain ⟨v, ⟨u, hu, hv⟩, r', hr', e⟩ := hr
        subst e; subst hv
        simp [ha.eval hu, ih r' hr']
    have e : (parts.map fun p => (p.1, a.eval p.2)) = ps.toArray := by
      apply Array.toList_inj.1
      rw [Array.toList_map]
      exact key _ _ hp
    have hb' := run_build (P := P) w t ps.toArray cs.toArray (by simpa using hb)
    simp [execOp, e, hb']) h
end
end Go.Proofs.Ytdlcmhkfglckfaa

namespace Go.Proofs.Ytdlcmhkfglckfaa
open Go.RowKit

def fillS (sz : Nat) (zs : List Value) (len : Nat) (ps : List (Nat × Value)) : Option (Array Value) :=
  Instr.fill (fun i => some (i * sz, sz)) ((Array.range (len * sz)).map (zs.toArray[· % zs.toArray.size]!)) ps
theorem made_toList (zs : List Value) (h0 : 0 < zs.length) (m : Nat) : (madeCells zs.toArray (m * zs.length)).toList = (List.replicate m zs).flatten := by
  induction m with
  | zero => simp [madeCells]
  | succ m ih =>
    rw [List.replicate_succ', List.flatten_append, ← ih]
    apply List.ext_getElem?
    intro j
    simp only [madeCells, Array.toList_map, Array.toList_range, List.getElem?_map, List.size_toArray, List.flatten_cons, List.flatten_nil, List.append_nil]
    by_cases hj : j < m * zs.length
    · rw [List.getElem?_append_left (by simpa using hj)]
      have h1 : j < (m + 1) * zs.length := by rw [Nat.add_mul]; omega
      simp [hj, h1]
    · rw [List.getElem?_append_right (by simpa using Nat.le_of_not_lt hj)]
      simp only [List.length_map, List.length_range]
      by_cases h2 : j < (m + 1) * zs.length
      · have h3 : j - m * zs.length < zs.length := by rw [Nat.add_mul] at h2; omega
        have h4 : j % zs.length = j - m * zs.length := by
          have : j = (j - m * zs.length) + m * zs.length := by omega
          rw [this, Nat.add_mul_mod_self_right, Nat.mod_eq_of_lt h3]; omega
        simp [h2, h4, h3]
      · have h3 : ¬ (j - m * zs.length < zs.length) := by rw [Nat.add_mul] at h2; omega
        rw [List.getElem?_eq_none (by simpa using Nat.le_of_not_lt h2), List.getElem?_eq_none (by omega)]
        rfl

/-- Where an own row lies behind an append: where it lay, or in a new block. -/
theorem append_own2 {P : Program} (w : World) (base t ty e : Nat) {i : TypeInfo} {z : Value} (hu : P.underlying t = some (.slice e)) (hi : P.info? e = some i) (hz : i.zero = some z) (hzs : z.cells.size = i.size) (hsz : 0 < i.size)
    {v : Value} {n : Nat} {xs : List Value} (hown : w.ownsRow base e i.size v n xs) (a : Addr) (m c : Nat) (news : List Value) (hl : news.length = m * i.size) (hnews : ∀ j u, news[j]? = some u → w.cell? (a.add j) = some u) (h1 : ∀ u ∈ news, u.oneCell' = true)
    (h63 : n + m ≤ maxLen) (hbytes : (n + m) * i.bytes ≤ 140737488355328) (hbase : base ≤ w.heap.size) :
    ∃ v' w', (Builtin.append_ #[t, t] ty #[v, .slice (some a) m c]).run P w = .ok v' w' ∧ w'.ownsRow base e i.size v' (n + m) (xs ++ news) ∧ w.grownBy w' v.ownBlock ∧
      (v' ≠ .slice none 0 0 ∨ m = 0) ∧ ∀ q, v'.ownBlock = some q → v.ownBlock = some q ∨ w.heap.size ≤ q := by
  obtain ⟨v', w', hr, ho, hg, hnil⟩ := run_append_own (P := P) w base t ty e i z i.size i.bytes hu hi hz rfl rfl hzs hsz v n xs hown a m c news hl hnews h1 h63 hbytes hbase
  have hsmall : n + m ≤ 9223372036854775807 := by simp only [maxLen] at h63; omega
  refine ⟨v', w', hr, ho, hg, ?_, ?_⟩
  · by_cases hm : m = 0
    · exact .inr hm
    · exact .inl fun e => hm (hnil.1 e).2
  · intro q hq
    have hown2 := hown.2
    rcases hown2 with ⟨rfl, rfl⟩ | ⟨g, cap, cur, rfl, hbg, hgg, hnc, hcm, hcs, htake⟩
    · by_cases hm : m = 0
      · have := hnil.2 ⟨rfl, hm⟩
        subst this
        cases hq
      · have hr2 := run_append_nil (P := P) w t ty e i z hu hi hz a m c news hl hnews (by omega) (by omega) (by have hb := hbytes; simp only [Nat.zero_add] at hb; omega)
        rw [hr] at hr2
        simp only [Result.ok.injEq] at hr2
        rw [hr2.1] at hq
        simp only [Value.ownBlock, Option.some.injEq] at hq
        exact .inr (by omega)
    · by_cases hroom : n + m ≤ cap
      · have hfit : n * i.size + news.length ≤ cur.size := by rw [hl, hcs, ← Nat.add_mul]; exact Nat.mul_le_mul_right _ hroom
        have hr2 := run_append_room (P := P) w t ty e i hu hi g n cap cur hgg a m c news hl hnews h1 hroom hfit
        rw [hr] at hr2
        simp only [Result.ok.injEq] at hr2
        rw [hr2.1] at hq
        exact .inl hq
      · have holds : ∀ j u, xs[j]? = some u → w.cell? ((⟨g, 0, none⟩ : Addr).add j) = some u := hown.cells (g := g) rfl
        have hr2 := run_append_grow (P := P) w t ty e i z hu hi hz ⟨g, 0, none⟩ n cap xs hown.1 holds a m c news hl hnews (by omega) (by omega) (growslice_fits (by omega) hbytes)
        rw [hr] at hr2
        simp only [Result.ok.injEq] at hr2
        rw [hr2.1] at hq
        simp only [Value.ownBlock, Option.some.injEq] at hq
        exact .inr (by omega)

section
variable {P : Program} {n : Nat} {R : Exit → Act → World → Prop} {k : Kt} {σ : Env} {w : World} {ops : Array Oper} {rest : List Oper}
variable {d : Nat} {ty : TypeId} {pos : String} {af : Array Edge} {g : Option (Nat × Bool)}
variable {w0 ws : World} {ro : Nat → Prop} {L : List (Nat × Obj)} {Rs : List Row}

theorem evParts {a : Act} (ha : Known n a σ) : ∀ (l : List (Nat × Operand)) (r : List (Nat × Value)), l.mapM (fun p => (ev σ p.2).map fun v => (p.1, v)) = some r → l.map (fun p => (p.1, a.eval p.2)) = r
  | [], r, hr => by simp at hr; simp [hr]
  | x :: l, r, hr => by
    simp only [List.mapM_cons, Option.bind_eq_bind, Option.bind_eq_some_iff, Option.pure_def, Option.some.injEq, Option.map_eq_some_iff] at hr
    obtain ⟨v, ⟨u, hu, hv⟩, r', hr', e⟩ := hr
    subst e; subst hv
    simp [ha.eval hu, evParts ha l r' hr']
theorem WL.buildSlice {t e len : Nat} {parts : Array (Nat × Operand)} {ps : List (Nat × Value)} {zs cs : List Value} (hu : P.underlying t = some (.slice e)) (hz : TyZero P e zs) (hg : want ops σ g = some true) (hd : Nat.blt d n = true)
    (hlen : (Nat.ble (len * zs.length) 16777216 && !(Nat.beq (len * zs.length) 0)) = true) (hp : parts.toList.mapM (fun p => (ev σ p.2).map fun v => (p.1, v)) = some ps) (hb : fillS zs.length zs len ps = some cs.toArray) (hS : St w0 ws w ro L Rs)
    (h : ∀ w' b, b = w.heap.size → St w0 ws w' ro ((b, .cells cs.toArray e (0, 0)) :: L) Rs → WL P n R ops rest k ((d, .slice (some ⟨b, 0, none⟩) len len) :: σ) w') : WL P n R ops (⟨some d, .buildSlice t len parts, ty, pos, af, g⟩ :: rest) k σ w := by
  obtain ⟨i, z, hi, hz1, hz2, hz3⟩ := hz
  refine WL.valW (o := ⟨some d, .buildSlice t len parts, ty, pos, af, g⟩) (v := .slice (some ⟨w.heap.size, 0, none⟩) len len) (w' := w.alloc (.cells cs.toArray e (0, 0))) hg hd (fun a ha => ?_) (h _ _ rfl (hS.alloc _))
  have e1 : (parts.map fun p => (p.1, a.eval p.2)) = ps.toArray := by
    apply Array.toList_inj.1
    rw [Array.toList_map]
    exact evParts ha _ _ hp
  simp only [Bool.and_eq_true, Nat.ble_eq, Bool.not_eq_true', ← hz3] at hlen
  have h1 : ¬ (16777216 < len * i.size) := by omega
  have h0 : ¬ (len * i.size = 0) := by intro e; rw [e] at hlen; simp at hlen
  rw [fillS, ← hz3] at hb
  have hb2 : Instr.fill (fun j => some (j * i.size, i.size)) (Array.map (fun x => zs[x % zs.length]?.getD default) (Array.range (len * i.size))) ps = some cs.toArray := by simpa using hb
  simp only [execOp, e1, Instr.buildSlice, Sem.run_bind, run_underlying hu, Result.andThen_ok, sizeOf, typeInfo, zeroValue]
  simp [hi, hz1, hz2, h1, h0, hb2, newRow]

/-- append of the literal slice that has just been made: the call's own row, first in the list, grows. -/
theorem WL.append {t e m : Nat} {x y : Operand} {zs cs : List Value} {r : Row} {b : Nat} (by' : Nat) (hu : P.underlying t = some (.slice e)) (hz : TyZero P e zs) (hby : (P.info? e).map (·.bytes) = some by') (h0 : Nat.blt 0 zs.length = true) (hg : want ops σ g = some true) (hd : Nat.blt d n = true)
    (hx : ev σ x = some r.v) (hy : ev σ y = some (.slice (some ⟨b, 0, none⟩) m m)) (hl : Nat.beq cs.length (m * zs.length) = true) (h1 : cs.all (·.oneCell') = true) (hre : r.e = e) (hrs : r.sz = zs.length)
    (hS : St w0 ws w ro ((b, .cells cs.toArray e (0, 0)) :: L) (r :: Rs)) (hmx : r.n + m ≤ maxLen) (hbytes : (r.n + m) * by' ≤ 140737488355328)
    (h : ∀ w' v', v' ≠ .slice none 0 0 ∨ m = 0 → St w0 ws w' ro L (⟨v', e, zs.length, r.n + m, r.xs ++ cs⟩ :: Rs) → WL P n R ops rest k ((d, v') :: σ) w') :
    WL P n R ops (⟨some d, .call { callee := .builtin .append, args := #[x, y], argTypes := #[t, t] }, ty, pos, af, g⟩ :: rest) k σ w := by
  obtain ⟨i, z, hi, hz1, hz2, hz3⟩ := hz
  have hlen : cs.length = m * zs.length := Nat.eq_of_beq_eq_true hl
  have h0' : 0 < zs.length := by simpa [Nat.blt_eq] using h0
  have hrow := hS.rows r List.mem_cons_self
  rw [hre, hrs] at hrow
  rw [← hz3] at hrow hlen h0'
  have hcs : CellsAt w b 0 cs := hS.cells 0 (m := cs.length) (cs := cs) (off := 0) rfl (by simp)
  have hby' : i.bytes = by' := by rw [hi] at hby; simpa using hby
  subst hby'
  obtain ⟨v', w', hr, ho, hgr, hnil, hplace⟩ := append_own2 (P := P) w w0.heap.size t ty e hu hi hz1 (by rw [hz2, hz3]; simp) h0' hrow ⟨b, 0, none⟩ m m cs hlen
    (fun j u hu => by rw [addr_add]; exact hcs j u hu) (List.all_eq_true.1 h1) hmx hbytes hS.below.size
  refine WL.valW (o := ⟨some d, .call { callee := .builtin .append, args := #[x, y], argTypes := #[t, t] }, ty, pos, af, g⟩) (v := v') (w' := w') hg hd (fun a ha => ?_) (h w' v' hnil ?_)
  · simp [execOp, resolve, invoke, builtin, ha.eval hx, ha.eval hy, hr]
  · have hS' := hS.drop (L' := L) (Rs' := r :: Rs) (List.sublist_cons_self _ _) (List.Sublist.refl _)
    exact hS'.row1 (r' := ⟨v', e, zs.length, r.n + m, r.xs ++ cs⟩) hgr (by rw [← hz3]; exact ho) hplace

/-- The first own block becomes an own row. -/
theorem St.toRow {b e sz n cap : Nat} {c : Array Value} {xs : List Value} (h : St w0 ws w ro ((b, .cells c e (0, 0)) :: L) Rs) (hc : c.size = cap * sz) (hx : c.toList.take (n * sz) = xs) (hn : n ≤ cap) (hm : cap ≤ maxLen) :
    St w0 ws w ro L (⟨.slice (some ⟨b, 0, none⟩) n cap, e, sz, n, xs⟩ :: Rs) := by
  have hp : (keysOf ((b, .cells c e (0, 0)) :: L) Rs).Perm (keysOf L (⟨.slice (some ⟨b, 0, none⟩) n cap, e, sz, n, xs⟩ :: Rs)) := by
    simp only [keysOf, List.map_cons, List.cons_append, List.filterMap_cons, Value.ownBlock]
    exact List.perm_middle.symm
  refine ⟨h.below, h.snap, fun p hp' => h.own p (List.mem_cons_of_mem _ hp'), ?_, fun x hx => h.keys x (hp.mem_iff.2 hx), hp.nodup_iff.1 h.nodup⟩
  intro r hr
  rcases List.mem_cons.1 hr with e' | hr
  · subst e'
    have hb := h.own _ List.mem_cons_self
    have hk := (h.keys b (by simp [keysOf])).1
    refine ⟨?_, .inr ⟨b, cap, c, rfl, hk, hb, hn, hm, hc, hx⟩⟩
    rw [← hx, List.length_take, Array.length_toList, hc, Nat.min_eq_left (Nat.mul_le_mul_right _ hn)]
  · exact h.rows r hr
theorem WL.makeSlice {t e m : Nat} {x y : Operand} {kk kk' : IntKind} {zs : List Value} (by' : Nat) (hu : P.underlying t = some (.slice e)) (hz : TyZero P e zs) (hby : (P.info? e).map (·.bytes) = some by') (h0 : Nat.blt 0 zs.length = true) (hg : want ops σ g = some true) (hd : Nat.blt d n = true)
    (hx : ev σ x = some (.int kk (m : Int))) (hy : ev σ y = some (.int kk' (m : Int))) (hS : St w0 ws w ro L Rs) (hmx : m ≤ maxLen) (hbytes : m * by' ≤ 281474976710656)
    (h : ∀ w' b, St w0 ws w' ro L (⟨.slice (some ⟨b, 0, none⟩) m m, e, zs.length, m, (List.replicate m zs).flatten⟩ :: Rs) → WL P n R ops rest k ((d, .slice (some ⟨b, 0, none⟩) m m) :: σ) w') :
    WL P n R ops (⟨some d, .makeSlice t x y, ty, pos, af, g⟩ :: rest) k σ w := by
  obtain ⟨i, z, hi, hz1, hz2, hz3⟩ := hz
  have h0' : 0 < zs.length := by simpa [Nat.blt_eq] using h0
  have hb2 : i.bytes = by' := by rw [hi] at hby; simpa using hby
  have hbb : (i.bytes : Int) * (m : Int) ≤ 281474976710656 := by
    rw [hb2, ← Int.natCast_mul, Nat.mul_comm]
    omega
  have hr := run_make (P := P) w t e i z hu hi hz1 kk kk' (m : Int) (m : Int) (by omega) (Int.le_refl _) hbb (by unfold maxLen at hmx; omega)
  simp only [Int.toNat_natCast] at hr
  refine WL.valW (o := ⟨some d, .makeSlice t x y, ty, pos, af, g⟩) (v := .slice (some ⟨w.heap.size, 0, none⟩) m m) (w' := w.alloc (.cells (madeCells z.cells (m * i.size)) e)) hg hd (fun a ha => by simp [execOp, ha.eval hx, ha.eval hy, hr]) (h _ _ ?_)
  rw [hz2, hz3]
  exact (hS.alloc _).toRow (size_madeCells _ _) (by rw [made_toList zs h0', List.take_of_length_le]; simp [List.length_flatten]) (Nat.le_refl _) hmx
theorem St.dropN (h : St w0 ws w ro L Rs) (m : Nat) : St w0 ws w ro (L.drop m) Rs := h.drop (List.drop_sublist m L) (List.Sublist.refl _)
theorem St.dropR (h : St w0 ws w ro L Rs) (m : Nat) : St w0 ws w ro L (Rs.drop m) := h.drop (List.Sublist.refl _) (List.drop_sublist m Rs)
end
end Go.Proofs.Ytdlcmhkfglckfaa
