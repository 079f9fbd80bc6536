/-
  An own block that is only read from here on. No condition beyond those that each theorem states.
-/
import Derived.Test.YtokkiaokpfediaaA14
namespace Go.Proofs.Ytokkiaokpfediaa
open Go.RowKit

section
variable {w0 ws w : World} {ro : Nat → Prop} {L : List (Nat × Obj)} {Rs : List Row} {b : Nat} {o : Obj}
theorem St.give (h : St w0 ws w ro ((b, o) :: L) Rs) : St w0 w w (fun x => ro x ∨ x = b) L Rs := by
  have hk : b ∈ keysOf ((b, o) :: L) Rs := by simp [keysOf]
  have hnd := h.nodup
  simp only [keysOf, List.map_cons, List.cons_append, List.nodup_cons] at hnd
  refine ⟨h.below, fun x hx => ⟨hx.elim (fun hx => (h.snap x hx).1) (fun hx => by rw [hx]; exact (h.keys b hk).2.1), rfl⟩, fun p hp => h.own p (List.mem_cons_of_mem _ hp), h.rows, fun x hx => ?_, hnd.2⟩
  have hx' : x ∈ keysOf ((b, o) :: L) Rs := by simp only [keysOf, List.map_cons, List.cons_append]; exact List.mem_cons_of_mem _ hx
  obtain ⟨h1, h2, h3⟩ := h.keys x hx'
  exact ⟨h1, h2, fun hr => hr.elim h3 fun e => hnd.1 (by rw [← e]; exact hx)⟩
theorem St.giveAlike (h : St w0 ws w ro ((b, o) :: L) Rs) : Alike ro ws (fun x => ro x ∨ x = b) w := fun x hx => ⟨.inl hx, (h.snap x hx).2⟩
theorem St.giveLe (h : St w0 ws w ro ((b, o) :: L) Rs) : w0.heap.size ≤ b := (h.keys b (by simp [keysOf])).1
/-- A row of the call's own that is only read from here on. -/
theorem St.giveRow {r : Row} (h : St w0 ws w ro L (r :: Rs)) : St w0 w w (fun x => ro x ∨ r.v.ownBlock = some x) L Rs := by
  have hs : List.Sublist (keysOf L Rs) (keysOf L (r :: Rs)) := List.Sublist.append (List.Sublist.refl _) ((List.sublist_cons_self r Rs).filterMap _)
  have hk : ∀ x, r.v.ownBlock = some x → x ∈ keysOf L (r :: Rs) := fun x e => by simp only [keysOf, List.mem_append, List.mem_filterMap]; exact .inr ⟨r, List.mem_cons_self, e⟩
  refine ⟨h.below, fun x hx => ⟨hx.elim (fun hx => (h.snap x hx).1) (fun hx => (h.keys x (hk x hx)).2.1), rfl⟩, h.own, fun q hq => h.rows q (List.mem_cons_of_mem _ hq), fun x hx => ?_, List.Nodup.sublist hs h.nodup⟩
  obtain ⟨h1, h2, h3⟩ := h.keys x (hs.subset hx)
  refine ⟨h1, h2, fun hr => hr.elim h3 fun e => ?_⟩
  have hnd := h.nodup
  simp only [keysOf, List.filterMap_cons, e] at hnd
  have hp : (List.map (·.1) L ++ x :: List.filterMap (fun q : Row => q.v.ownBlock) Rs).Perm (x :: (List.map (·.1) L ++ List.filterMap (fun q : Row => q.v.ownBlock) Rs)) := List.perm_middle
  have := (List.nodup_cons.1 (hp.nodup_iff.1 hnd)).1
  exact this hx
theorem St.giveRowAlike {r : Row} (h : St w0 ws w ro L (r :: Rs)) : Alike ro ws (fun x => ro x ∨ r.v.ownBlock = some x) w := fun x hx => ⟨.inl hx, (h.snap x hx).2⟩
theorem St.giveRowLe {r : Row} (h : St w0 ws w ro L (r :: Rs)) : ∀ x, r.v.ownBlock = some x → w0.heap.size ≤ x := fun x e =>
  (h.keys x (by simp only [keysOf, List.mem_append, List.mem_filterMap]; exact .inr ⟨r, List.mem_cons_self, e⟩)).1
theorem St.permR {Rs' : List Row} (h : St w0 ws w ro L Rs) (hp : Rs.Perm Rs') : St w0 ws w ro L Rs' := by
  have hk : (keysOf L Rs).Perm (keysOf L Rs') := List.Perm.append_left _ (hp.filterMap _)
  exact ⟨h.below, h.snap, h.own, fun r hr => h.rows r (hp.mem_iff.2 hr), fun x hx => h.keys x (hk.mem_iff.2 hx), hk.nodup_iff.1 h.nodup⟩
/-- What is read more in between is forgotten. -/
theorem St.backTo {ro' : Nat → Prop} {ws0 : World} (h : St w0 ws w ro' L Rs) (ha : Alike ro ws0 ro' ws) : St w0 ws0 w ro L Rs :=
  ⟨h.below, fun b hb => ⟨(h.snap b (ha b hb).1).1, (h.snap b (ha b hb).1).2.trans (ha b hb).2⟩, h.own, h.rows, fun x hx => ⟨(h.keys x hx).1, (h.keys x hx).2.1, fun hr => (h.keys x hx).2.2 (ha x hr).1⟩, h.nodup⟩
end
theorem stays_new {α : Type} {B sz : Nat} {Q : List Value → α → Prop} {xs : List α} : Stays fun v u => SlV (fun b => B ≤ b ∧ b < u.heap.size) u sz Q v xs := fun _ _ _ h hb =>
  h.keep (fun b hr => ⟨⟨hr.1, Nat.lt_of_lt_of_le hr.2 hb.size⟩, hb.block b hr.2⟩) fun _ _ q => q
theorem newUp {α : Type} {B sz : Nat} {Q : List Value → α → Prop} {xs : List α} {v : Value} {wd w' : World} (h : SlV (fun b => wd.heap.size ≤ b ∧ b < w'.heap.size) w' sz Q v xs) (hb : B ≤ wd.heap.size) : SlV (fun b => B ≤ b ∧ b < w'.heap.size) w' sz Q v xs :=
  h.keep (fun _ hr => ⟨⟨Nat.le_trans hb hr.1, hr.2⟩, rfl⟩) fun _ _ q => q
section
open Go.MapKept
variable {P : Program} {n : Nat} {R : Exit → Act → World → Prop} {k : Kt} {σ : Env} {w : World} {ops : Array Oper} {rest : List Oper}
variable {ty : TypeId} {pos : String} {af : Array Edge} {gd : Option (Nat × Bool)}
variable {w0 ws : World} {ro : Nat → Prop} {L : List (Nat × Obj)} {Rs : List Row}
variable {κ ν : Type} {kv : κ → Value} {vv : ν → Value} {es : Array MapEntry} {clock m : Nat} {g : κ → Option ν} {dk : TypeDesc} {mty kt et b : Nat}
theorem WL.mapDel [DecidableEq κ] {x y : Operand} (i : Nat) (key : κ) (he : KeyE dk kv) (hm : P.underlying mty = some (.map kt et)) (hdk : P.underlying kt = some dk) (hM : MapG kv vv es clock m g) (hg : want ops σ gd = some true)
    (hx : ev σ x = some (.map (some b))) (hy : ev σ y = some (kv key)) (hL : L[i]? = some (b, .map es clock)) (hS : St w0 ws w ro L Rs)
    (h : ∀ w' es' clock', MapG kv vv es' clock' m (delG g key) → St w0 ws w' ro (L.set i (b, .map es' clock')) Rs → WL P n R ops rest k σ w') :
    WL P n R ops (⟨none, .call { callee := .builtin .delete, args := #[x, y], argTypes := #[mty, kt] }, ty, pos, af, gd⟩ :: rest) k σ w := by
  have hb := hS.own _ (List.mem_of_getElem? hL)
  obtain ⟨es', clock', hr, hM'⟩ := hM.run_del (P := P) he hm hdk hb key ty
  exact WL.valW (o := ⟨none, .call { callee := .builtin .delete, args := #[x, y], argTypes := #[mty, kt] }, ty, pos, af, gd⟩) (v := .tuple #[]) hg rfl (fun a ha => by simp [execOp, resolve, invoke, builtin, ha.eval hx, ha.eval hy, hr])
    (h _ _ _ hM' (hS.upd hL (grownBy_setObj w _ hb) (heap_set hb).1))
end
end Go.Proofs.Ytokkiaokpfediaa
