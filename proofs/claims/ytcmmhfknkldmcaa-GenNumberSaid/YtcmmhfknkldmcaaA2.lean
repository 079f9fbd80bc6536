/-
  One rule for each operation that leaves the world alone, for the walks of these claims. No condition beyond those that each theorem states.
-/
import Derived.Test.YtcmmhfknkldmcaaA1
namespace Go.Proofs.Ytcmmhfknkldmcaa
open Go.RowKit

def want (ops : Array Oper) (σ : Env) : Option (Nat × Bool) → Option Bool
  | none => some true
  | some (j, b) => match (ops[j]?).bind (·.dst) with
    | some t => match look σ t with
      | some (.bool c) => some (c == b)
      | some (.tuple _) => some false
      | _ => none
    | none => none
theorem Known.wanted {n : Nat} {a : Act} {σ : Env} (h : Known n a σ) {ops : Array Oper} {o : Oper} {r : Bool} (hw : want ops σ o.guard = some r) : Region.wanted o (yielded ops a.tmps) = r := by
  unfold Region.wanted
  cases hg : o.guard with
  | none => simpa [want, hg] using hw
  | some p =>
    obtain ⟨j, b⟩ := p
    rw [hg] at hw
    simp only [want] at hw
    cases ht : (ops[j]?).bind (·.dst) with
    | none => rw [ht] at hw; cases hw
    | some t =>
      rw [ht] at hw
      dsimp only at hw
      cases hl : look σ t with
      | none => rw [hl] at hw; cases hw
      | some v =>
        rw [hl] at hw
        have := h.at_ t _ hl
        rw [Array.getD_eq_getD_getElem?] at this
        cases v <;> dsimp only at hw <;> try (cases hw; done)
        case bool c =>
          have h2 : a.tmps[t]? = some (.bool c) := by
            cases h3 : a.tmps[t]? with
            | none => rw [h3] at this; simp [undef] at this
            | some u => rw [h3] at this; simpa using this
          simp only [yielded, ht, Option.bind_some, h2]
          simp only [Option.some.injEq] at hw
          subst hw
          cases c <;> cases b <;> rfl
        case tuple vs =>
          simp only [Option.some.injEq] at hw
          subst hw
          simp only [yielded, ht, Option.bind_some]
          cases h3 : a.tmps[t]? with
          | none => rfl
          | some u => rw [h3] at this; simp at this; subst this; rfl

section
variable {P : Program} {n : Nat} {R : Exit → Act → World → Prop} {k : Kt} {σ : Env} {w : World} {ops : Array Oper} {rest : List Oper}
theorem WL.valW {o : Oper} {v : Value} {w' : World} (hg : want ops σ o.guard = some true) (hd : dOk n o.dst = true) (hr : ∀ a, Known n a σ → (execOp a.eval o).run P w = .ok (.value v) w')
    (h : WL P n R ops rest k (putS o.dst v σ) w') : WL P n R ops (o :: rest) k σ w :=
  ⟨fun a ha => by
    unfold wpList
    rw [if_pos (ha.wanted hg)]
    left
    unfold Oper.wp
    rw [hr a ha]
    exact h.out _ (ha.put hd v)⟩
theorem WL.unitW {o : Oper} {w' : World} (hg : want ops σ o.guard = some true) (hd : o.dst = none) (hr : ∀ a, Known n a σ → (execOp a.eval o).run P w = .ok .skip w')
    (h : WL P n R ops rest k σ w') : WL P n R ops (o :: rest) k σ w :=
  ⟨fun a ha => by
    unfold wpList
    rw [if_pos (ha.wanted hg)]
    left
    unfold Oper.wp
    rw [hr a ha]
    have := ha.put (d := o.dst) (by rw [hd]; rfl) undef
    rw [hd] at this
    have h2 := h.out _ this
    simpa only [Oper.upon, hd] using h2⟩
theorem WL.skp {d : Nat} {op : Op} {ty : TypeId} {pos : String} {af : Array Edge} {g : Option (Nat × Bool)} (hg : want ops σ g = some false) (hd : Nat.blt d n = true)
    (h : WL P n R ops rest k ((d, undef) :: σ) w) : WL P n R ops (⟨some d, op, ty, pos, af, g⟩ :: rest) k σ w :=
  ⟨fun a ha => by
    unfold wpList
    rw [if_neg (by rw [ha.wanted (o := ⟨some d, op, ty, pos, af, g⟩) hg]; simp)]
    exact h.out _ (ha.put (d := some d) hd undef)⟩
theorem WL.call {o : Oper} {f : FuncId} {args : Array Value} {Rc : Value → World → Prop} (hg : want ops σ o.guard = some true) (hd : dOk n o.dst = true)
    (hr : ∀ a, Known n a σ → (execOp a.eval o).run P w = .ok (.enter f args) w) (hc : Ret P f args w Rc)
    (h : ∀ v w', Rc v w' → WL P n R ops rest k (putS o.dst v σ) w') : WL P n R ops (o :: rest) k σ w :=
  ⟨fun a ha => by
    unfold wpList
    rw [if_pos (ha.wanted hg)]
    left
    unfold Oper.wp
    rw [hr a ha]
    exact Calls.mono hc fun e w' ⟨v, he, hR⟩ => by
      subst he
      exact (h v w' hR).out _ (ha.put hd v)⟩
/-- A slot's value under another name. -/
theorem WL.set {l : List Oper} (t : Nat) {v v' : Value} (hv : look σ t = some v) (e : v = v') (h : WL P n R ops l k ((t, v') :: σ) w) : WL P n R ops l k σ w :=
  ⟨fun a ha => h.out a ⟨ha.size, ha.defers, fun u x hx => by
    simp only [look] at hx
    by_cases he : t = u
    · subst he; simp at hx; subst hx; subst e; exact ha.at_ t v hv
    · rw [beqF he] at hx; exact ha.at_ u x hx⟩⟩
theorem W.set {c : Code} (t : Nat) {v v' : Value} (hv : look σ t = some v) (e : v = v') (h : W P n R c k ((t, v') :: σ) w) : W P n R c k σ w :=
  ⟨fun a ha => h.out a ⟨ha.size, ha.defers, fun u x hx => by
    simp only [look] at hx
    by_cases he : t = u
    · subst he; simp at hx; subst hx; subst e; exact ha.at_ t v hv
    · rw [beqF he] at hx; exact ha.at_ u x hx⟩⟩

variable {d : Nat} {ty : TypeId} {pos : String} {af : Array Edge} {g : Option (Nat × Bool)}
theorem WL.move {x : Operand} {v : Value} (hg : want ops σ g = some true) (hd : Nat.blt d n = true) (hx : ev σ x = some v)
    (h : WL P n R ops rest k ((d, v) :: σ) w) : WL P n R ops (⟨some d, .move x, ty, pos, af, g⟩ :: rest) k σ w :=
  WL.valW (o := ⟨some d, .move x, ty, pos, af, g⟩) (v := v) hg hd (fun a ha => by simp [execOp, ha.eval hx]) h
theorem WL.assign {x : Operand} {v : Value} (hg : want ops σ g = some true) (hd : Nat.blt d n = true) (hx : ev σ x = some v)
    (h : WL P n R ops rest k ((d, v) :: σ) w) : WL P n R ops (⟨some d, .assign x, ty, pos, af, g⟩ :: rest) k σ w :=
  WL.valW (o := ⟨some d, .assign x, ty, pos, af, g⟩) (v := v) hg hd (fun a ha => by simp [execOp, ha.eval hx]) h
theorem WL.pick {c x y : Operand} {b : Bool} {vx vy v : Value} (hg : want ops σ g = some true) (hd : Nat.blt d n = true) (hc : ev σ c = some (.bool b)) (hx : ev σ x = some vx) (hy : ev σ y = some vy) (hv : (bif b then vx else vy) = v)
    (h : WL P n R ops rest k ((d, v) :: σ) w) : WL P n R ops (⟨some d, .pick c x y, ty, pos, af, g⟩ :: rest) k σ w :=
  WL.valW (o := ⟨some d, .pick c x y, ty, pos, af, g⟩) (v := v) hg hd (fun a ha => by
    subst hv
    cases b <;> simp [execOp, ha.eval hc, ha.eval hx, ha.eval hy, asBool]) h
def binI : BinOp → IntKind → Int → Int → Option Value
  | .eql, _, a, b => some (.bool (decide (a = b)))
  | .neq, _, a, b => some (.bool (!decide (a = b)))
  | .lss, _, a, b => some (.bool (decide (a < b)))
  | .leq, _, a, b => some (.bool (decide (a ≤ b)))
  | .gtr, _, a, b => some (.bool (decide (b < a)))
  | .geq, _, a, b => some (.bool (decide (b ≤ a)))
  | .add, k, a, b => some (.int k (k.wrap (a + b)))
  | .sub, k, a, b => some (.int k (k.wrap (a - b)))
  | .mul, k, a, b => some (.int k (k.wrap (a * b)))
  | .and, k, a, b => some (.int k (k.wrap (BitVec.ofInt k.bits a &&& BitVec.ofInt k.bits b).toNat))
  | .or, k, a, b => some (.int k (k.wrap (BitVec.ofInt k.bits a ||| BitVec.ofInt k.bits b).toNat))
  | .xor, k, a, b => some (.int k (k.wrap (BitVec.ofInt k.bits a ^^^ BitVec.ofInt k.bits b).toNat))
  | .andNot, k, a, b => some (.int k (k.wrap (BitVec.ofInt k.bits a &&& ~~~BitVec.ofInt k.bits b).toNat))
  | _, _, _, _ => none
theorem int_beq (a b : Int) : (a == b) = decide (a = b) := by
  rw [Bool.eq_iff_iff]; simp
theorem run_binI {op : BinOp} {xT : TypeId} {x y : Operand} {kk : IntKind} {a b : Int} {v : Value} (hv : binI op kk a b = some v) (w : World) :
    Sem.run P (do eqGuard op xT x y (.int kk a) (.int kk b); binOp op xT (.int kk a) (.int kk b)) w = .ok v w := by
  cases op <;> simp only [binI, Option.some.injEq, reduceCtorEq] at hv <;> subst hv <;>
    simp [eqGuard, binOp, Op.intCmp, Op.intArith, Op.intBits, int_beq, bne]
theorem WL.bin {op : BinOp} {xT yT : TypeId} {x y : Operand} {kk : IntKind} {a b : Int} {v : Value} (hg : want ops σ g = some true) (hd : Nat.blt d n = true)
    (hx : ev σ x = some (.int kk a)) (hy : ev σ y = some (.int kk b)) (hv : binI op kk a b = some v)
    (h : WL P n R ops rest k ((d, v) :: σ) w) : WL P n R ops (⟨some d, .binOp op xT x y yT, ty, pos, af, g⟩ :: rest) k σ w :=
  WL.valW (o := ⟨some d, .binOp op xT x y yT, ty, pos, af, g⟩) (v := v) hg hd (fun c hc => by
    have := run_binI (P := P) (xT := xT) (x := x) (y := y) hv w
    simp only [execOp, hc.eval hx, hc.eval hy, Sem.run_bind] at this ⊢
    rw [this]; rfl) h
theorem wrap64 {a : Int} (h : -9223372036854775808 ≤ a ∧ a ≤ 9223372036854775807) : IntKind.i64.wrap a = a := by
  rw [IntKind.wrap_i64]; omega
theorem WL.add {xT yT : TypeId} {x y : Operand} {a b c : Int} (hg : want ops σ g = some true) (hd : Nat.blt d n = true)
    (hx : ev σ x = some (.int .i64 a)) (hy : ev σ y = some (.int .i64 b)) (hc : a + b = c) (hb : -9223372036854775808 ≤ c ∧ c ≤ 9223372036854775807)
    (h : WL P n R ops rest k ((d, .int .i64 c) :: σ) w) : WL P n R ops (⟨some d, .binOp .add xT x y yT, ty, pos, af, g⟩ :: rest) k σ w :=
  WL.bin hg hd hx hy (by simp only [binI]; rw [hc, wrap64 hb]) h
theorem WL.sub_ {xT yT : TypeId} {x y : Operand} {a b c : Int} (hg : want ops σ g = some true) (hd : Nat.blt d n = true)
    (hx : ev σ x = some (.int .i64 a)) (hy : ev σ y = some (.int .i64 b)) (hc : a - b = c) (hb : -9223372036854775808 ≤ c ∧ c ≤ 9223372036854775807)
    (h : WL P n R ops rest k ((d, .int .i64 c) :: σ) w) : WL P n R ops (⟨some d, .binOp .sub xT x y yT, ty, pos, af, g⟩ :: rest) k σ w :=
  WL.bin hg hd hx hy (by simp only [binI]; rw [hc, wrap64 hb]) h
theorem WL.mul {xT yT : TypeId} {x y : Operand} {a b c : Int} (hg : want ops σ g = some true) (hd : Nat.blt d n = true)
    (hx : ev σ x = some (.int .i64 a)) (hy : ev σ y = some (.int .i64 b)) (hc : a * b = c) (hb : -9223372036854775808 ≤ c ∧ c ≤ 9223372036854775807)
    (h : WL P n R ops rest k ((d, .int .i64 c) :: σ) w) : WL P n R ops (⟨some d, .binOp .mul xT x y yT, ty, pos, af, g⟩ :: rest) k σ w :=
  WL.bin hg hd hx hy (by simp only [binI]; rw [hc, wrap64 hb]) h
theorem WL.remC {xT yT : TypeId} {x y : Operand} {kk : IntKind} {a b : Int} (hg : want ops σ g = some true) (hd : Nat.blt d n = true)
    (hx : ev σ x = some (.int kk a)) (hy : ev σ y = some (.int kk b)) (hb : b ≠ 0)
    (h : WL P n R ops rest k ((d, .int kk (a.tmod b)) :: σ) w) : WL P n R ops (⟨some d, .binOp .rem xT x y yT, ty, pos, af, g⟩ :: rest) k σ w :=
  WL.valW (o := ⟨some d, .binOp .rem xT x y yT, ty, pos, af, g⟩) hg hd (fun c hc => by simp [execOp, hc.eval hx, hc.eval hy, eqGuard, binOp, Op.intDiv, hb]) h
theorem WL.quoC {xT yT : TypeId} {x y : Operand} {kk : IntKind} {a b : Int} (hg : want ops σ g = some true) (hd : Nat.blt d n = true)
    (hx : ev σ x = some (.int kk a)) (hy : ev σ y = some (.int kk b)) (hb : b ≠ 0)
    (h : WL P n R ops rest k ((d, .int kk (kk.wrap (a.tdiv b))) :: σ) w) : WL P n R ops (⟨some d, .binOp .quo xT x y yT, ty, pos, af, g⟩ :: rest) k σ w :=
  WL.valW (o := ⟨some d, .binOp .quo xT x y yT, ty, pos, af, g⟩) hg hd (fun c hc => by simp [execOp, hc.eval hx, hc.eval hy, eqGuard, binOp, Op.intDiv, hb]) h
theorem WL.shr {xT yT : TypeId} {x y : Operand} {kk kk' : IntKind} {a b : Int} (hg : want ops σ g = some true) (hd : Nat.blt d n = true)
    (hx : ev σ x = some (.int kk a)) (hy : ev σ y = some (.int kk' b)) (hb : 0 ≤ b)
    (h : WL P n R ops rest k ((d, .int kk (a.fdiv (2 ^ min b.toNat kk.bits))) :: σ) w) : WL P n R ops (⟨some d, .binOp .shr xT x y yT, ty, pos, af, g⟩ :: rest) k σ w :=
  WL.valW (o := ⟨some d, .binOp .shr xT x y yT, ty, pos, af, g⟩) hg hd (fun c hc => by
    have hn : ¬ b < 0 := by omega
    simp [execOp, hc.eval hx, hc.eval hy, eqGuard, binOp, Op.shift, hn]) h
theorem WL.not {xT : TypeId} {x : Operand} {a : Bool} (hg : want ops σ g = some true) (hd : Nat.blt d n = true) (hx : ev σ x = some (.bool a))
    (h : WL P n R ops rest k ((d, .bool (!a)) :: σ) w) : WL P n R ops (⟨some d, .unOp .not xT x, ty, pos, af, g⟩ :: rest) k σ w :=
  WL.valW (o := ⟨some d, .unOp .not xT x, ty, pos, af, g⟩) hg hd (fun c hc => by simp [execOp, hc.eval hx, Op.unary]) h
theorem WL.lenSlice {t : TypeId} {x : Operand} {e : TypeId} {ad : Option Addr} {len cap : Nat} (hu : P.underlying t = some (.slice e)) (hg : want ops σ g = some true) (hd : Nat.blt d n = true) (hx : ev σ x = some (.slice ad len cap))
    (h : WL P n R ops rest k ((d, .int .i64 len) :: σ) w) : WL P n R ops (⟨some d, .call { callee := .builtin .len, args := #[x], argTypes := #[t] }, ty, pos, af, g⟩ :: rest) k σ w :=
  WL.valW (o := ⟨some d, .call { callee := .builtin .len, args := #[x], argTypes := #[t] }, ty, pos, af, g⟩) hg hd (fun c hc => by
    simp [execOp, resolve, invoke, builtin, hc.eval hx, Builtin.len_, run_underlying hu, goInt]) h
theorem WL.lenStr {t : TypeId} {x : Operand} {s : ByteArray} (hu : P.underlying t = some .string) (hg : want ops σ g = some true) (hd : Nat.blt d n = true) (hx : ev σ x = some (.string s))
    (h : WL P n R ops rest k ((d, .int .i64 s.size) :: σ) w) : WL P n R ops (⟨some d, .call { callee := .builtin .len, args := #[x], argTypes := #[t] }, ty, pos, af, g⟩ :: rest) k σ w :=
  WL.valW (o := ⟨some d, .call { callee := .builtin .len, args := #[x], argTypes := #[t] }, ty, pos, af, g⟩) hg hd (fun c hc => by
    simp [execOp, resolve, invoke, builtin, hc.eval hx, Builtin.len_, run_underlying hu, goInt]) h
theorem WL.extract {x : Operand} {vs : Array Value} {i : Nat} {v : Value} (hg : want ops σ g = some true) (hd : Nat.blt d n = true) (hx : ev σ x = some (.tuple vs)) (hv : vs[i]? = some v)
    (h : WL P n R ops rest k ((d, v) :: σ) w) : WL P n R ops (⟨some d, .extract x i, ty, pos, af, g⟩ :: rest) k σ w :=
  WL.valW (o := ⟨some d, .extract x i, ty, pos, af, g⟩) hg hd (fun c hc => by simp [execOp, hc.eval hx, Instr.extract, hv]) h
/-- The place of a field. -/
def fOff (P : Program) (s f : Nat) (off : Nat) : Bool :=
  match P.underlying s with
  | some (.struct fs) => match fs[f]? with
    | some fd => Nat.beq fd.offset off && (match P.info? fd.type with | some i => !(Nat.beq i.size 0) | none => false)
    | none => false
  | _ => false
theorem addr_add (b o m : Nat) : (⟨b, o, none⟩ : Addr).add m = ⟨b, o + m, none⟩ := by unfold Addr.add; split <;> simp_all
theorem WL.fieldAddr {s f : Nat} {x : Operand} {b o off : Nat} (hf : fOff P s f off = true) (hg : want ops σ g = some true) (hd : Nat.blt d n = true) (hx : ev σ x = some (.pointer (some ⟨b, o, none⟩)))
    (h : WL P n R ops rest k ((d, .pointer (some ⟨b, o + off, none⟩)) :: σ) w) : WL P n R ops (⟨some d, .fieldAddr s x f, ty, pos, af, g⟩ :: rest) k σ w :=
  WL.valW (o := ⟨some d, .fieldAddr s x f, ty, pos, af, g⟩) hg hd (fun c hc => by
    unfold fOff at hf
    split at hf <;> try (cases hf; done)
    rename_i fs hu
    split at hf <;> try (cases hf; done)
    rename_i fd hfd
    simp only [Bool.and_eq_true] at hf
    obtain ⟨h1, h2⟩ := hf
    split at h2 <;> try (cases h2; done)
    rename_i i hi
    have e1 : fd.offset = off := Nat.eq_of_beq_eq_true h1
    have e2 : i.size ≠ 0 := by intro e; rw [e] at h2; simp at h2
    simp [execOp, hc.eval hx, Instr.fieldAt, run_underlying hu, hfd, Instr.sureAddr, fieldPlace, sizeOf, typeInfo, hi, e2, addr_add, e1]) h
theorem WL.indexAddr {t e sz : Nat} {x i : Operand} {kk : IntKind} {b o len cap : Nat} {j : Nat} (hu : P.underlying t = some (.slice e)) (hs : (P.info? e).map (·.size) = some sz) (hg : want ops σ g = some true) (hd : Nat.blt d n = true)
    (hx : ev σ x = some (.slice (some ⟨b, o, none⟩) len cap)) (hi : ev σ i = some (.int kk (j : Int))) (hj : j < len)
    (h : WL P n R ops rest k ((d, .pointer (some ⟨b, o + j * sz, none⟩)) :: σ) w) : WL P n R ops (⟨some d, .indexAddr t x i, ty, pos, af, g⟩ :: rest) k σ w :=
  WL.valW (o := ⟨some d, .indexAddr t x i, ty, pos, af, g⟩) hg hd (fun c hc => by
    cases hq : P.info? e with
    | none => rw [hq] at hs; cases hs
    | some inf =>
      rw [hq] at hs
      simp at hs
      simp [execOp, hc.eval hx, hc.eval hi, Instr.indexAt, asIntOf, run_underlying hu, sizeOf, typeInfo, hq, hs, hj, addr_add]) h
/-- The function that a call enters. -/
theorem WL.callF {f : Nat} {fn : Func} {xs : Array Operand} {vs : List Value} {tt : Array TypeId} {Rc : Value → World → Prop} (hf : P.funcs[f]? = some fn) (hb : (fn.body.isSome && !(fn.name == "runtime.NumGoroutine")) = true)
    (hg : want ops σ g = some true) (hd : Nat.blt d n = true) (hx : xs.toList.mapM (ev σ) = some vs) (hc : Ret P f vs.toArray w Rc)
    (h : ∀ v w', Rc v w' → WL P n R ops rest k ((d, v) :: σ) w') : WL P n R ops (⟨some d, .call { callee := .value (.func f), args := xs, argTypes := tt }, ty, pos, af, g⟩ :: rest) k σ w :=
  WL.call (o := ⟨some d, .call { callee := .value (.func f), args := xs, argTypes := tt }, ty, pos, af, g⟩) hg hd (fun c hk => by
    have key : ∀ (l : List Operand) (r : List Value), l.mapM (ev σ) = some r → l.map c.eval = r := by
      intro l
      induction l with
      | nil => intro r hr; simp at hr; simp [hr]
      | cons x l ih =>
        intro r hr
        simp only [List.mapM_cons, Option.bind_eq_bind, Option.bind_eq_some_iff, Option.pure_def, Option.some.injEq] at hr
        obtain ⟨v, hv, r', hr', e⟩ := hr
        subst e
        simp [hk.eval hv, ih r' hr']
    have e : xs.map c.eval = vs.toArray := by
      apply Array.toList_inj.1
      rw [Array.toList_map]
      exact key _ _ hx
    simp only [Bool.and_eq_true, Bool.not_eq_true', Option.isSome_iff_exists, beq_eq_false_iff_ne] at hb
    obtain ⟨⟨bd, hbd⟩, hnm⟩ := hb
    simp [execOp, resolve, invoke, Act.eval, Deferred.ofValue, e, callFunc, hf, hbd, hnm]) hc h
end
end Go.Proofs.Ytcmmhfknkldmcaa
