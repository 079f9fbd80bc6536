/-
  Appends to a row without elements, in a region that draws; own rows that are read. No condition beyond those that each theorem states.
-/
import Derived.Test.YtdlcmhkfglckfaaA16
import Derived.ArgAppend
import Derived.Test.YtdlcmhkfglckfaaA17
import Derived.RangeFuncNested
namespace Go.Proofs.Ytdlcmhkfglckfaa
open Go.RowKit

section
variable {P : Program} {n : Nat} {R : Exit → Act → World → Prop} {k : Kt} {σ : Env} {w : World} {ops : Array Oper} {rest : List Oper}
variable {d : Nat} {ty : TypeId} {pos : String} {af : Array Edge} {g : Option (Nat × Bool)}
variable {w0 ws : World} {ro : Nat → Prop} {L : List (Nat × Obj)} {Rs : List Row}

end
end Go.Proofs.Ytdlcmhkfglckfaa

namespace Go.Proofs.Ytdlcmhkfglckfaa
open Go.RowKit

def wideR (r : Option Nat) : Fence := { Fence.wide with round := r }
theorem callsR {r : Option Nat} {n : Nat} {P : Program} {f : FuncId} {args : Array Value} {w : World} {R : Ending → World → Prop} (h : Calls P f args w R) : CallsIn (wideR r) n P f args w R :=
  (callsIn_wide (n := n)).2 h
theorem rowsR {r : Option Nat} {n : Nat} {P : Program} {row : String} {args : Array Value} {w : World} {R : Value → World → Prop} (h : Rows P row args w R) : RowsIn (wideR r) n P row args w R :=
  fun c cs _ => let ⟨v, w', q, s⟩ := h c cs; ⟨v, w', q, stepsIn_wide.2 s⟩
def noDefer (o : Oper) : Bool := match o.op with
  | .defer _ => false
  | _ => true
theorem noDefer_spec {o : Oper} (h : noDefer o = true) : ∀ c, o.op ≠ .defer c := fun c e => by
  unfold noDefer at h; rw [e] at h; cases h
theorem eval_defers (tm : Array Value) (d d' : List Deferred) : (Act.mk tm d).eval = (Act.mk tm d').eval := funext fun x => by cases x <;> rfl
theorem put_defers2 (tm : Array Value) (d d' : List Deferred) (dst : Option Tmp) (v : Value) : (Act.mk tm d').put dst v = { tmps := ((Act.mk tm d).put dst v).tmps, defers := d' } := by cases dst <;> rfl
theorem put_act (tm : Array Value) (d : List Deferred) (dst : Option Tmp) (v : Value) : (Act.mk tm d).put dst v = { tmps := ((Act.mk tm d).put dst v).tmps, defers := d } := by cases dst <;> rfl

/-- What the plain walk of some operations has shown, shown with a fence and other deferred calls. -/
theorem wpListIn_of {P : Program} {ops : Array Oper} {K : Act → World → Prop} {Q : Exit → Act → World → Prop} {r : Option Nat} {ds : List Deferred} {l2 : List Oper} :
    ∀ (l1 : List Oper) (tm : Array Value) (d1 : List Deferred) (w : World), l1.all noDefer = true → wpList P ops (Exit.then K NoR) l1 ⟨tm, d1⟩ w →
      (∀ tm' d' w', K ⟨tm', d'⟩ w' → wpListIn (wideR r) 0 P ops Q l2 ⟨tm', d' ++ ds⟩ w') → wpListIn (wideR r) 0 P ops Q (l1 ++ l2) ⟨tm, d1 ++ ds⟩ w
  | [], tm, d1, w, _, h, hk => hk tm d1 w h
  | o :: l1, tm, d1, w, hd, h, hk => by
    simp only [List.all_cons, Bool.and_eq_true] at hd
    have ih := fun (tm : Array Value) (d1 : List Deferred) (w : World) => wpListIn_of (Q := Q) (r := r) (ds := ds) (l2 := l2) (K := K) (P := P) (ops := ops) l1 tm d1 w hd.2
    unfold wpList at h
    simp only [List.cons_append]
    unfold wpListIn
    by_cases hw : Region.wanted o (yielded ops tm) = true
    · simp only [hw, if_true] at h ⊢
      refine ⟨fun _ _ => trivial, ?_⟩
      rw [Oper.semAt_eq _ _ _ (noDefer_spec hd.1), eval_defers tm (d1 ++ ds) d1]
      rcases h with h | ⟨_, _, _, hl⟩
      · unfold Oper.wp at h
        generalize (execOp (Act.mk tm d1).eval o).run P w = res at h ⊢
        cases res with
        | ok nx w1 =>
          cases nx <;> simp only [Oper.upon] at h <;> simp only [Oper.uponIn]
          case value v => rw [put_defers2 tm d1]; rw [put_act tm d1] at h; exact ih _ _ _ h hk
          case skip => rw [put_defers2 tm d1]; rw [put_act tm d1] at h; exact ih _ _ _ h hk
          case defer dd =>
            have e1 : ({ tmps := tm, defers := dd :: (d1 ++ ds) } : Act).put o.dst undef = { tmps := (({ tmps := tm, defers := dd :: d1 } : Act).put o.dst undef).tmps, defers := (dd :: d1) ++ ds } := by cases o.dst <;> rfl
            have e2 : ({ tmps := tm, defers := dd :: d1 } : Act).put o.dst undef = { tmps := (({ tmps := tm, defers := dd :: d1 } : Act).put o.dst undef).tmps, defers := dd :: d1 } := by cases o.dst <;> rfl
            rw [e1]; rw [e2] at h
            exact ih _ _ _ h hk
          case enter f args =>
            refine ⟨fun hh => (by cases hh), callsR (h.mono fun e w2 h2 => ?_)⟩
            cases e with
            | returned v => dsimp only at h2 ⊢; rw [put_defers2 tm d1]; rw [put_act tm d1] at h2; exact ih _ _ _ h2 hk
            | panicked c => exact h2.elim
            | outgrown => obtain ⟨_, _, h4⟩ := h2; exact h4.elim
          case row rr args =>
            refine ⟨fun hh => (by cases hh), rowsR (h.mono fun v w2 h2 => ?_)⟩
            rw [put_defers2 tm d1]; rw [put_act tm d1] at h2; exact ih _ _ _ h2 hk
        | halt x w1 => cases x <;> simp only [Oper.upon] at h <;> exact h.elim
      · exact hl.elim
    · simp only [hw, if_false, Bool.false_eq_true] at h ⊢
      refine ⟨fun _ _ => trivial, ?_⟩
      rw [put_defers2 tm d1]; rw [put_act tm d1] at h
      exact ih _ _ _ h hk

/-- What stands behind, with a fence. -/
def Kt.postX (r : Option Nat) (P : Program) (R : Exit → Act → World → Prop) : Kt → Exit → Act → World → Prop
  | .fin => R
  | .seq y k => Exit.then (y.wpIn (wideR r) 0 P (k.postX r P R)) (k.postX r P R)
  | .blk id k => Exit.inBlock id (k.postX r P R)
  | .scope k => Exit.noGoto (k.postX r P R)
  | .cut C k => Exit.then C (k.postX r P R)
  | .loop J m k => Exit.then (fun a w => ∃ m', m' < m ∧ J m' a w) (k.postX r P R)
theorem Kt.postX_ret (r : Option Nat) (P : Program) (R : Exit → Act → World → Prop) (k : Kt) (a : Act) (w : World) (h : R .ret a w) : k.postX r P R .ret a w := by
  induction k with
  | fin => exact h
  | seq y k ih => exact ih
  | blk id k ih => exact ih
  | scope k ih => exact ih
  | cut C k ih => exact ih
  | loop J m k ih => exact ih
section
variable (r : Option Nat) (ds : List Deferred) (P : Program) (n : Nat) (R : Exit → Act → World → Prop)
structure WX (c : Code) (k : Kt) (σ : Env) (w : World) : Prop where
  out : ∀ tm, Known n ⟨tm, []⟩ σ → c.wpIn (wideR r) 0 P (k.postX r P R) ⟨tm, ds⟩ w
structure NX (k : Kt) (σ : Env) (w : World) : Prop where
  out : ∀ tm, Known n ⟨tm, []⟩ σ → k.postX r P R .normal ⟨tm, ds⟩ w
structure XX (id : Nat) (k : Kt) (σ : Env) (w : World) : Prop where
  out : ∀ tm, Known n ⟨tm, []⟩ σ → k.postX r P R (.exit id) ⟨tm, ds⟩ w
end
section
variable {r : Option Nat} {ds : List Deferred} {P : Program} {n : Nat} {R : Exit → Act → World → Prop} {k : Kt} {σ : Env} {w : World}
theorem WX.seq {x y : Code} (h : WX r ds P n R x (.seq y k) σ w) : WX r ds P n R (.seq x y) k σ w := ⟨fun a ha => wpIn_seq (h.out a ha)⟩
theorem WX.block {id : Nat} {c : Code} (h : WX r ds P n R c (.blk id k) σ w) : WX r ds P n R (.block id c) k σ w := ⟨fun a ha => wpIn_block (h.out a ha)⟩
theorem WX.skip (h : NX r ds P n R k σ w) : WX r ds P n R .skip k σ w := ⟨fun a ha => wpIn_skip (h.out a ha)⟩
theorem WX.label {l : Nat} (h : NX r ds P n R k σ w) : WX r ds P n R (.label l) k σ w := ⟨fun a ha => wpIn_label (h.out a ha)⟩
theorem WX.exit {id : Nat} (h : XX r ds P n R id k σ w) : WX r ds P n R (.exit id) k σ w := ⟨fun a ha => wpIn_exit (h.out a ha)⟩
theorem WX.ret (h : ∀ tm, Known n ⟨tm, []⟩ σ → R .ret ⟨tm, ds⟩ w) : WX r ds P n R .ret k σ w := ⟨fun a ha => wpIn_ret (Kt.postX_ret r P R k _ w (h a ha))⟩
theorem Known.evalX {tm : Array Value} (h : Known n ⟨tm, []⟩ σ) {x : Operand} {v : Value} (hx : ev σ x = some v) : (Act.mk tm ds).eval x = v := by
  rw [eval_defers tm ds []]; exact h.eval hx
theorem WX.condT {c : Operand} {x y : Code} (hc : ev σ c = some (.bool true)) (h : WX r ds P n R x k σ w) : WX r ds P n R (.cond c x y) k σ w :=
  ⟨fun a ha => wpIn_cond_true (ha.evalX hc) (h.out a ha)⟩
theorem WX.condF {c : Operand} {x y : Code} (hc : ev σ c = some (.bool false)) (h : WX r ds P n R y k σ w) : WX r ds P n R (.cond c x y) k σ w :=
  ⟨fun a ha => wpIn_cond_false (ha.evalX hc) (h.out a ha)⟩
theorem WX.cond {c : Operand} {x y : Code} {t : Bool} (hc : ev σ c = some (.bool t)) (ht : t = true → WX r ds P n R x k σ w) (hf : t = false → WX r ds P n R y k σ w) : WX r ds P n R (.cond c x y) k σ w :=
  ⟨fun a ha => wpIn_cond_split (ha.evalX hc) (fun e => (ht e).out a ha) (fun e => (hf e).out a ha)⟩
theorem NX.seq {y : Code} (h : WX r ds P n R y k σ w) : NX r ds P n R (.seq y k) σ w := ⟨fun a ha => h.out a ha⟩
theorem NX.blk {id : Nat} (h : NX r ds P n R k σ w) : NX r ds P n R (.blk id k) σ w := ⟨fun a ha => h.out a ha⟩
theorem XX.seq {id : Nat} {y : Code} (h : XX r ds P n R id k σ w) : XX r ds P n R id (.seq y k) σ w := ⟨fun a ha => h.out a ha⟩
theorem XX.blk {id : Nat} (h : NX r ds P n R k σ w) : XX r ds P n R id (.blk id k) σ w := ⟨fun a ha => by
  show Exit.inBlock id (k.postX r P R) (.exit id) _ w
  simpa [Exit.inBlock] using h.out a ha⟩
theorem XX.blk_ne {id id' : Nat} (hne : Nat.beq id id' = false) (h : XX r ds P n R id k σ w) : XX r ds P n R id (.blk id' k) σ w := ⟨fun a ha => by
  show Exit.inBlock id' (k.postX r P R) (.exit id) _ w
  have : id ≠ id' := by intro e; subst e; simp at hne
  simpa [Exit.inBlock, this] using h.out a ha⟩
/-- Ways that meet again. -/
def CX (n : Nat) (ds : List Deferred) {α : Type} (F : α → Env) (I : α → World → Prop) : Act → World → Prop := fun a w => ∃ x tm, a = ⟨tm, ds⟩ ∧ Known n ⟨tm, []⟩ (F x) ∧ I x w
theorem NX.cut {α : Type} {F : α → Env} {I : α → World → Prop} (x : α) (hs : Sub (F x) σ) (hI : I x w) : NX r ds P n R (.cut (CX n ds F I) k) σ w := ⟨fun tm ha => ⟨x, tm, rfl, ha.sub hs, hI⟩⟩
theorem XX.cut {id : Nat} {C : Act → World → Prop} (h : XX r ds P n R id k σ w) : XX r ds P n R id (.cut C k) σ w := ⟨fun a ha => h.out a ha⟩
theorem WX.sub {c : Code} {σ' : Env} (hs : Sub σ' σ) (h : WX r ds P n R c k σ' w) : WX r ds P n R c k σ w := ⟨fun a ha => h.out a (ha.sub hs)⟩
theorem WX.cut {c y : Code} {α : Type} (F : α → Env) (I : α → World → Prop) (hx : WX r ds P n R c (.cut (CX n ds F I) k) σ w) (hy : ∀ x w, I x w → WX r ds P n R y k (F x) w) : WX r ds P n R (.seq c y) k σ w :=
  ⟨fun a ha => wpIn_seq (wpIn_mono (hx.out a ha) fun e a' w' q => by
    cases e with
    | normal => obtain ⟨x, tm, rfl, hk, hI⟩ := q; exact (hy x w' hI).out tm hk
    | exit id => exact q
    | goto l => exact q
    | ret => exact q
    | panic ch => exact q
    | outgrown => exact q)⟩
/-- A region: its operations are walked as everywhere. -/
theorem WX.region {id : Nat} {l : List Oper} {α : Type} (F : α → Env) (I : α → World → Prop) (hd : l.all noDefer = true) (h : WL P n NoR l.toArray l (.cut (CI n F I) .fin) σ w) (h2 : ∀ x w', I x w' → NX r ds P n R k (F x) w') : WX r ds P n R (.region id l.toArray false) k σ w :=
  ⟨fun tm ha => wpIn_region_lit (by
    have h1 := h.out _ ha
    have := wpListIn_of (Q := k.postX r P R) (r := r) (ds := ds) (l2 := []) (K := CI n F I) l tm [] w hd h1 (fun tm' d' w' ⟨x, hk, hI⟩ => by
      have := hk.defers
      simp only at this
      subst this
      exact wpListIn_nil ((h2 x w' hI).out tm' hk))
    simpa using this)⟩
end
/-- All that there is may be read. -/
theorem St.all {w0 w : World} (h : Below w0.heap.size w0 w) : St w0 w w (fun b => b < w.heap.size) [] [] := ⟨h, fun _ hb => ⟨hb, rfl⟩, by simp, by simp, by simp [keysOf], by simp [keysOf]⟩
theorem cellsAt_block {w : World} {b e : Nat} {cs : List Value} (h : w.heap[b]? = some (.cells cs.toArray e (0, 0))) : CellsAt w b 0 cs := fun j v hj => by
  rw [cell_of_row w b (0 + j) cs.toArray e (0, 0) h]; simpa using hj
end Go.Proofs.Ytdlcmhkfglckfaa
