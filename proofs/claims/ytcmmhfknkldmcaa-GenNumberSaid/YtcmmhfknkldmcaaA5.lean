/-
  What a value stands for: how the values of the walks read as plain data. No condition beyond those that each theorem states.
-/
import Derived.Test.YtcmmhfknkldmcaaA4
namespace Go.Proofs.Ytcmmhfknkldmcaa
open Go.RowKit

structure DInst where
  op : Int
  a : Int
  b : Int
  k : Int
  name : ByteArray
  args : List Int
  deriving DecidableEq
structure DTerm where
  kind : Int
  a : Int
  to : Int
  args : List Int
  els : Int
  elses : List Int
  deriving DecidableEq
structure DBlock where
  params : Int
  ins : List DInst
  fin : DTerm
  deriving DecidableEq
structure DFunc where
  name : ByteArray
  bind : Int
  params : Int
  blocks : List DBlock
  deriving DecidableEq
structure DGlob where
  name : ByteArray
  bind : Int
  here : Bool
  init : Int
  deriving DecidableEq
structure DMod where
  funcs : List DFunc
  globs : List DGlob
  deriving DecidableEq

def inI (x : Int) : Prop := -9223372036854775808 ≤ x ∧ x ≤ 9223372036854775807
def inU (x : Int) : Prop := 0 ≤ x ∧ x ≤ 18446744073709551615

/-- The elements of a slice: each one's cells, which are only read. -/
def Elems {α : Type} (ro : Nat → Prop) (w : World) (sz : Nat) (Q : List Value → α → Prop) (ad : Option Addr) (xs : List α) : Prop :=
  ∀ (i : Nat) (x : α), xs[i]? = some x → ∃ b off cs, ad = some ⟨b, off, none⟩ ∧ ro b ∧ cs.length = sz ∧ CellsAt w b (off + i * sz) cs ∧ Q cs x
theorem opn {α : Type} {ro : Nat → Prop} {w : World} {sz : Nat} {Q : List Value → α → Prop} {ad : Option Addr} {xs : List α} (h : Elems ro w sz Q ad xs) {j : Nat} (hj : j < xs.length) : ∃ x, xs[j]? = some x ∧ ∃ b off cs, ad = some ⟨b, off, none⟩ ∧ ro b ∧ cs.length = sz ∧ CellsAt w b (off + j * sz) cs ∧ Q cs x :=
  ⟨_, List.getElem?_eq_getElem hj, h j _ (List.getElem?_eq_getElem hj)⟩
/-- A slice that is only read. -/
def SlV {α : Type} (ro : Nat → Prop) (w : World) (sz : Nat) (Q : List Value → α → Prop) (v : Value) (xs : List α) : Prop :=
  ∃ ad cap, v = .slice ad xs.length cap ∧ xs.length ≤ cap ∧ cap ≤ maxLen ∧ (ad = none → cap = 0) ∧ Elems ro w sz Q ad xs
def IntC (cs : List Value) (x : Int) : Prop := cs = [.int .i64 x] ∧ inI x
def IntsV (ro : Nat → Prop) (w : World) (v : Value) (xs : List Int) : Prop := SlV ro w 1 IntC v xs
def InstC (ro : Nat → Prop) (w : World) (cs : List Value) (x : DInst) : Prop :=
  ∃ sv, cs = [.int .i64 x.op, .int .i64 x.a, .int .i64 x.b, .int .u64 x.k, .string x.name, sv] ∧ IntsV ro w sv x.args ∧ inI x.op ∧ inI x.a ∧ inI x.b ∧ inU x.k ∧ x.name.size ≤ maxLen
def InstsV (ro : Nat → Prop) (w : World) (v : Value) (xs : List DInst) : Prop := SlV ro w 6 (InstC ro w) v xs
def TermC (ro : Nat → Prop) (w : World) (cs : List Value) (x : DTerm) : Prop :=
  ∃ s1 s2, cs = [.int .i64 x.kind, .int .i64 x.a, .int .i64 x.to, s1, .int .i64 x.els, s2] ∧ IntsV ro w s1 x.args ∧ IntsV ro w s2 x.elses ∧ inI x.kind ∧ inI x.a ∧ inI x.to ∧ inI x.els
def BlockC (ro : Nat → Prop) (w : World) (cs : List Value) (x : DBlock) : Prop :=
  ∃ s ts, cs = .int .i64 x.params :: s :: ts ∧ InstsV ro w s x.ins ∧ TermC ro w ts x.fin ∧ inI x.params
def BlocksV (ro : Nat → Prop) (w : World) (v : Value) (xs : List DBlock) : Prop := SlV ro w 8 (BlockC ro w) v xs
def FuncC (ro : Nat → Prop) (w : World) (cs : List Value) (x : DFunc) : Prop :=
  ∃ s, cs = [.string x.name, .int .i64 x.bind, .int .i64 x.params, s] ∧ BlocksV ro w s x.blocks ∧ x.name.size ≤ maxLen ∧ inI x.bind ∧ inI x.params
def FuncsV (ro : Nat → Prop) (w : World) (v : Value) (xs : List DFunc) : Prop := SlV ro w 4 (FuncC ro w) v xs
def GlobC (cs : List Value) (x : DGlob) : Prop := cs = [.string x.name, .int .i64 x.bind, .bool x.here, .int .u64 x.init] ∧ x.name.size ≤ maxLen ∧ inI x.bind ∧ inU x.init
def GlobsV (ro : Nat → Prop) (w : World) (v : Value) (xs : List DGlob) : Prop := SlV ro w 4 GlobC v xs
def ModC (ro : Nat → Prop) (w : World) (cs : List Value) (x : DMod) : Prop := ∃ s t, cs = [s, t] ∧ FuncsV ro w s x.funcs ∧ GlobsV ro w t x.globs

/-! ### A reading goes on in a later world, and where more is read -/
section
variable {ro ro' : Nat → Prop} {w w' : World}
theorem CellsAt.keep {b off : Nat} {cs : List Value} (h : CellsAt w b off cs) (hw : w'.heap[b]? = w.heap[b]?) : CellsAt w' b off cs := fun j v hj => by
  rw [World.cell?_of_block (w := w) (w' := w') (a := ⟨b, off + j, none⟩) hw]; exact h j v hj
/-- What is read in w is read alike in w'. -/
def Alike (ro : Nat → Prop) (w : World) (ro' : Nat → Prop) (w' : World) : Prop := ∀ b, ro b → ro' b ∧ w'.heap[b]? = w.heap[b]?
theorem SlV.keep {α : Type} {sz : Nat} {Q Q' : List Value → α → Prop} {v : Value} {xs : List α} (h : SlV ro w sz Q v xs) (ha : Alike ro w ro' w') (hq : ∀ cs x, Q cs x → Q' cs x) : SlV ro' w' sz Q' v xs := by
  obtain ⟨ad, cap, h1, h2, h3, h4, h5⟩ := h
  refine ⟨ad, cap, h1, h2, h3, h4, fun i x hx => ?_⟩
  obtain ⟨b, off, cs, e1, e2, e3, e4, e5⟩ := h5 i x hx
  exact ⟨b, off, cs, e1, (ha b e2).1, e3, e4.keep (ha b e2).2, hq _ _ e5⟩
theorem IntsV.keep {v : Value} {xs : List Int} (h : IntsV ro w v xs) (ha : Alike ro w ro' w') : IntsV ro' w' v xs := SlV.keep h ha fun _ _ q => q
theorem InstC.keep {cs : List Value} {x : DInst} (h : InstC ro w cs x) (ha : Alike ro w ro' w') : InstC ro' w' cs x := by
  obtain ⟨sv, h1, h2, h3⟩ := h
  exact ⟨sv, h1, h2.keep ha, h3⟩
theorem InstsV.keep {v : Value} {xs : List DInst} (h : InstsV ro w v xs) (ha : Alike ro w ro' w') : InstsV ro' w' v xs := SlV.keep h ha fun _ _ q => q.keep ha
theorem TermC.keep {cs : List Value} {x : DTerm} (h : TermC ro w cs x) (ha : Alike ro w ro' w') : TermC ro' w' cs x := by
  obtain ⟨s1, s2, h1, h2, h3, h4⟩ := h
  exact ⟨s1, s2, h1, h2.keep ha, h3.keep ha, h4⟩
theorem BlockC.keep {cs : List Value} {x : DBlock} (h : BlockC ro w cs x) (ha : Alike ro w ro' w') : BlockC ro' w' cs x := by
  obtain ⟨s, ts, h1, h2, h3, h4⟩ := h
  exact ⟨s, ts, h1, h2.keep ha, h3.keep ha, h4⟩
theorem BlocksV.keep {v : Value} {xs : List DBlock} (h : BlocksV ro w v xs) (ha : Alike ro w ro' w') : BlocksV ro' w' v xs := SlV.keep h ha fun _ _ q => q.keep ha
theorem FuncC.keep {cs : List Value} {x : DFunc} (h : FuncC ro w cs x) (ha : Alike ro w ro' w') : FuncC ro' w' cs x := by
  obtain ⟨s, h1, h2, h3⟩ := h
  exact ⟨s, h1, h2.keep ha, h3⟩
theorem FuncsV.keep {v : Value} {xs : List DFunc} (h : FuncsV ro w v xs) (ha : Alike ro w ro' w') : FuncsV ro' w' v xs := SlV.keep h ha fun _ _ q => q.keep ha
theorem GlobsV.keep {v : Value} {xs : List DGlob} (h : GlobsV ro w v xs) (ha : Alike ro w ro' w') : GlobsV ro' w' v xs := SlV.keep h ha fun _ _ q => q
theorem ModC.keep {cs : List Value} {x : DMod} (h : ModC ro w cs x) (ha : Alike ro w ro' w') : ModC ro' w' cs x := by
  obtain ⟨s, t, h1, h2, h3⟩ := h
  exact ⟨s, t, h1, h2.keep ha, h3.keep ha⟩
/-- From the world that is looked at to the world as it is. -/
theorem St.alike {w0 ws : World} {L : List (Nat × Obj)} {Rs : List Row} (h : St w0 ws w ro L Rs) : Alike ro ws ro w := fun b hb => ⟨hb, (h.snap b hb).2⟩
theorem Alike.below (h : ∀ b, ro b → b < w.heap.size) (hb : Below w.heap.size w w') : Alike ro w ro w' := fun b hr => ⟨hr, hb.block b (h b hr)⟩
theorem Alike.trans {ro'' : Nat → Prop} {w'' : World} (h : Alike ro w ro' w') (h' : Alike ro' w' ro'' w'') : Alike ro w ro'' w'' := fun b hb =>
  ⟨(h' b (h b hb).1).1, (h' b (h b hb).1).2.trans (h b hb).2⟩
end

/-! ### A row of the call's own, read -/
theorem row_shape {w : World} {base e sz n : Nat} {v : Value} {xs : List Value} (h : w.ownsRow base e sz v n xs) : ∃ ad cap, v = .slice ad n cap ∧ n ≤ cap ∧ cap ≤ maxLen ∧ (ad = none → cap = 0) := by
  rcases h.2 with ⟨rfl, rfl⟩ | ⟨g, cap, cur, rfl, _, _, h1, h2, _, _⟩
  · exact ⟨none, 0, rfl, Nat.le_refl _, Nat.zero_le _, fun _ => rfl⟩
  · exact ⟨_, cap, rfl, h1, h2, fun e => by cases e⟩
end Go.Proofs.Ytcmmhfknkldmcaa
