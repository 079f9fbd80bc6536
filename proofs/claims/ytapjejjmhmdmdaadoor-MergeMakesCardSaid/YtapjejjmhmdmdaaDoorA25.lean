/-
  Contracts of layer 10 (merge). No condition beyond those that each theorem states.
-/
import Derived.Test.YtapjejjmhmdmdaaDoorZ0
import Derived.Test.YtapjejjmhmdmdaaDoorA29
namespace Go.Proofs.YtapjejjmhmdmdaaDoor
open Go.RowKit

theorem gPow : Tryd.prog.globalNamed "internal/strconv.uint64pow10" = some 0 := by kernel_rfl
structure PowT (ro : Nat → Prop) (w : World) : Prop where
  g : ro 0
  t : Lib.TabIs Tryd.prog w "internal/strconv.uint64pow10" .u64 Lib.pow10Tab
theorem PowT.keep {ro ro' : Nat → Prop} {w w' : World} (h : PowT ro w) (ha : Alike ro w ro' w') : PowT ro' w' := by
  obtain ⟨h1, h2⟩ := ha 0 h.g
  refine ⟨h1, ?_⟩
  have h3 := h.t
  unfold Lib.TabIs World.var? at h3 ⊢
  simp only [gPow, Option.bind_some] at h3 ⊢
  rw [h2]; exact h3
theorem itoa_ret {w : World} {ro : Nat → Prop} (n : Nat) (hn : (n : Int) ≤ 9223372036854775807) (hp : PowT ro w) : Ret Tryd.prog 42 #[.int .i64 (n : Int)] w fun v w' => v = .string ⟨(Lib.itoa (n : Int)).toArray⟩ ∧ Below w.heap.size w w' := by
  refine Calls.mono (Any.strconv_Itoa Tryd.laysItoa (n : Int) (by omega) hn w hp.t) ?_
  rintro e w' ⟨rfl, k, os, rfl⟩
  refine ⟨_, rfl, rfl, (below_drewN (Below.refl _ _) k).trans ⟨rfl, rfl, rfl, by simp [Sort.grow], fun i hi => ?_⟩⟩
  · have hi' : i < (w.drewN k).heap.size := hi
    simp only [Sort.grow]
    rw [Array.getElem?_append_left hi']
theorem dot10_size (n : Nat) (hn : (n : Int) ≤ 9223372036854775807) : (⟨#[46]⟩ : ByteArray).size + (⟨(Lib.itoa (n : Int)).toArray⟩ : ByteArray).size ≤ 9223372036854775807 := by
  have h := Lib.itoa_length_le (n : Int) (by omega) hn
  show 1 + (Lib.itoa (n : Int)).toArray.size ≤ _
  rw [List.size_toArray]; omega
theorem dot10_le (n : Nat) (hn : (n : Int) ≤ 9223372036854775807) : (dot10 n).size ≤ 22 := by
  have h := Lib.itoa_length_le (n : Int) (by omega) hn
  unfold dot10
  rw [ByteArray.size_append]
  show 1 + (Lib.itoa (n : Int)).toArray.size ≤ _
  rw [List.size_toArray]; omega

theorem sindex_ret (xs : List ByteArray) (t : ByteArray) (vx : Value) {w : World} {ro : Nat → Prop} (hro : ∀ b, ro b → b < w.heap.size) (hx : SlV ro w 1 StrC vx xs) : Ret Tryd.prog 78 #[vx, .string t] w fun v w' => (∃ z : Int, v = .int .i64 z ∧ (0 ≤ z ↔ t ∈ xs)) ∧ Below w.heap.size w w' := by
 obtain ⟨ad, cap, rfl, haa, hab, hac, had⟩ := id hx
 have ham : xs.length ≤ 9223372036854775807 := by have h1 := haa; have h2 := hab; unfold maxLen at h2; omega
 refine Ret.enter (P := Tryd.prog) (n := 19) (args := [.slice ad xs.length cap, .string t]) (σ := [(0, .slice ad xs.length cap), (1, .string t)]) Tryd.func78 rfl rfl rfl rfl ?_
 have hS := St.start (ro := ro) hro
 refine W.seq (W.region (WL.assign rfl rfl rfl (WL.nil (N.seq (W.seq (W.seq (W.region (WL.move rfl rfl rfl (WL.lenSlice Tryd.underlying25 rfl rfl rfl ?_)))))))))
 refine WL.move rfl rfl rfl (WL.nil (N.seq (W.block ?_)))
 refine W.loop (α := Nat) (fun (k : Nat) => [(0, .slice ad xs.length cap), (1, .string t), (7, .int .i64 (xs.length : Int)), (8, .int .i64 (k : Int))]) (fun (k : Nat) u => St w w u ro [] [] ∧ k ≤ xs.length ∧ ¬ t ∈ xs.take k) (fun (k : Nat) => xs.length - k) 0 ⟨rfl, rfl, rfl, rfl, trivial⟩ ⟨hS, Nat.zero_le _, by simp⟩ ?_
 clear hS
 rintro k w1 ⟨hS, hk, hnt⟩
 refine W.seq (W.region (WL.bin rfl rfl rfl rfl rfl (WL.nil (N.seq (W.seq ?_)))))
 refine W.cond rfl (fun hc2 => ?_) (fun hc2 => ?_)
 ·
  have hc2p : (k : Int) < (xs.length : Int) := by simpa using hc2
  refine W.skip (N.seq (W.seq (W.block (W.seq (W.region (WL.move rfl rfl rfl (WL.assign rfl rfl rfl (WL.nil (N.seq ?_)))))))))
  refine W.seq (W.region (WL.move rfl rfl rfl (WL.move rfl rfl rfl (WL.move rfl rfl rfl ?_))))
  have hj3 : k < xs.length := by omega
  obtain ⟨x3, hx3⟩ : ∃ zz, xs[k]? = some zz := ⟨_, List.getElem?_eq_getElem hj3⟩
  obtain ⟨b3, o3, cs3, hE3, hr3, hl3, hc3, hQ3⟩ := had k _ hx3
  obtain ⟨rfl, hsz3⟩ := hQ3
  refine WL.indexAddrE (j := k) Tryd.underlying25 isz_9 rfl rfl rfl rfl hj3 hE3 (WL.load1 (v := .string x3) one_9 rfl rfl rfl (hS.roCells hr3 hc3 0 _ rfl) (WL.eqStr rfl rfl rfl rfl (WL.nil (N.seq ?_))))
  refine W.cond rfl (fun hc4 => ?_) (fun hc4 => ?_)
  ·
   have hc4p : t = x3 := by simpa using hc4
   refine W.seq (W.region (WL.move rfl rfl rfl (WL.assign rfl rfl rfl (WL.nil (N.seq ?_)))))
   refine Fin.ret1 rfl (v := .int .i64 (k : Int)) rfl ?_
   exact ⟨⟨_, rfl, ⟨fun _ => by rw [hc4p]; exact List.mem_of_getElem? hx3, fun _ => by omega⟩⟩, hS.below⟩
  have hc4p : ¬ (t = x3) := by simpa using hc4
  refine W.skip (N.blk (N.seq (W.region ?_)))
  refine WL.add (c := (k : Int) + 1) rfl rfl rfl rfl (rfl) (by omega) ?_
  refine WL.move rfl rfl rfl (WL.nil ?_)
  have hnt2 : ¬ t ∈ xs.take (k + 1) := by rw [take_next hx3, List.mem_append, List.mem_singleton]; exact fun e => e.elim hnt hc4p
  exact N.loop (k + 1) ⟨rfl, rfl, rfl, rfl, trivial⟩ ⟨hS, by omega, hnt2⟩ (by first | omega | (simp only; omega))
 have hc2p : ¬ ((k : Int) < (xs.length : Int)) := by simpa using hc2
 refine W.exit (X.seq (X.loop (X.blk (N.seq (W.seq (W.region (WL.assign rfl rfl rfl (WL.nil (N.seq ?_)))))))))
 refine Fin.ret1 rfl (v := .int .i64 (-1)) rfl ?_
 have e : k = xs.length := by omega
 rw [e, List.take_length] at hnt
 exact ⟨⟨_, rfl, ⟨fun h => absurd h (by omega), fun h => absurd h hnt⟩⟩, hS.below⟩

theorem contains_ret (xs : List ByteArray) (t : ByteArray) (vx : Value) {w : World} {ro : Nat → Prop} (hro : ∀ b, ro b → b < w.heap.size) (hx : SlV ro w 1 StrC vx xs) : Ret Tryd.prog 43 #[vx, .string t] w fun v w' => v = .bool (decide (t ∈ xs)) ∧ Below w.heap.size w w' := by
 refine Ret.enter (P := Tryd.prog) (n := 9) (args := [vx, .string t]) (σ := [(0, vx), (1, .string t)]) Tryd.func43 rfl rfl rfl rfl ?_
 have hS := St.start (ro := ro) hro
 refine W.seq (W.region (WL.assign rfl rfl rfl (WL.nil (N.seq (W.seq (W.region (WL.move rfl rfl rfl (WL.move rfl rfl rfl ?_))))))))
 refine WL.callF (vs := [vx, .string t]) Tryd.func78 (by kernel_rfl) rfl rfl rfl (sindex_ret xs t _ (ro := ro) (fun b hb => (hS.snap b hb).1) hx) ?_
 rintro v w1 ⟨⟨z, rfl, hz⟩, hbl⟩
 replace hS := hS.grow hbl
 refine WL.bin rfl rfl rfl rfl rfl (WL.assign rfl rfl rfl (WL.nil (N.seq ?_)))
 refine Fin.ret1 rfl (v := .bool (decide (0 ≤ z))) rfl ?_
 exact ⟨congrArg Value.bool (decide_eq_decide.2 hz), hS.below⟩

theorem local_ret (n : Nat) (xs : List ByteArray) (vx : Value) {w : World} {ro : Nat → Prop} (hro : ∀ b, ro b → b < w.heap.size) (hx : SlV ro w 1 StrC vx xs) (hpw : PowT ro w) (hn : n + xs.length ≤ 9223372036854775800) : Ret Tryd.prog 21 #[.int .i64 (n : Int), vx] w fun v w' => v = .tuple #[.string (dot10 (loc10 xs n)), .int .i64 ((loc10 xs n : Nat) + 1 : Int)] ∧ Below w.heap.size w w' := by
 have hxl : xs.length ≤ 9223372036854775807 := slv_len hx
 refine Ret.enter (P := Tryd.prog) (n := 21) (args := [.int .i64 (n : Int), vx]) (σ := [(0, .int .i64 (n : Int)), (1, vx)]) Tryd.func21 rfl rfl rfl rfl ?_
 have hS := St.start (ro := ro) hro
 refine W.seq (W.region (WL.assign rfl rfl rfl (WL.assign rfl rfl rfl (WL.nil (N.seq (W.seq (W.region (WL.move rfl rfl rfl ?_))))))))
 refine WL.max2 rfl rfl rfl rfl ?_
 refine WL.set 8 (v' := .int .i64 (n : Int)) rfl (congrArg (Value.int .i64) (if_neg (by omega))) ?_
 refine WL.assign rfl rfl rfl (WL.nil (N.seq (W.block ?_)))
 refine W.loop (α := Nat × Nat) (fun ⟨c, f⟩ => [(0, .int .i64 (c : Int)), (1, vx)]) (fun ⟨c, f⟩ u => St w w u ro [] [] ∧ locF xs f c = loc10 xs n ∧ c + f ≤ n + xs.length) (fun ⟨c, f⟩ => f) (n, xs.length) ⟨rfl, rfl, trivial⟩ ⟨hS, rfl, Nat.le_refl _⟩ ?_
 clear hS
 rintro ⟨c, f⟩ w1 ⟨hS, hlc, hcf⟩
 refine W.seq (W.block (W.seq (W.region (WL.move rfl rfl rfl ?_))))
 refine WL.callF (vs := [.int .i64 (c : Int)]) Tryd.func42 (by kernel_rfl) rfl rfl rfl (itoa_ret c (by omega) (hpw.keep hS.alike)) ?_
 rintro v w2 ⟨rfl, hbl⟩
 replace hS := hS.grow hbl
 refine WL.addStr rfl rfl rfl rfl (dot10_size c (by omega)) ?_
 refine WL.set 13 (v' := .string (dot10 c)) rfl rfl ?_
 refine WL.assign rfl rfl rfl (WL.nil (N.seq (W.seq (W.region (WL.move rfl rfl rfl (WL.move rfl rfl rfl ?_))))))
 refine WL.callF (vs := [vx, .string (dot10 c)]) Tryd.func43 (by kernel_rfl) rfl rfl rfl (contains_ret xs (dot10 c) _ (ro := ro) (fun b hb => (hS.snap b hb).1) (SlV.keep hx hS.alike (fun _ _ q => q))) ?_
 rintro v w3 ⟨rfl, hbl⟩
 replace hS := hS.grow hbl
 refine WL.not rfl rfl rfl (WL.nil (N.seq ?_))
 refine W.cond rfl (fun hc4 => ?_) (fun hc4 => ?_)
 ·
  have hc4p : ¬ (dot10 c ∈ xs) := by simpa using hc4
  refine W.seq (W.region (WL.move rfl rfl rfl (WL.move rfl rfl rfl ?_)))
  refine WL.add (c := (c : Int) + 1) rfl rfl rfl rfl (rfl) (by omega) ?_
  refine WL.assign rfl rfl rfl (WL.assign rfl rfl rfl (WL.nil (N.seq ?_)))
  refine Fin.ret2 rfl (v := .string (dot10 c)) (v' := .int .i64 ((c : Int) + 1)) rfl rfl ?_
  have e : loc10 xs n = c := by rw [← hlc]; cases f with | zero => rfl | succ f => rw [locF, if_neg hc4p]
  rw [e]
  exact ⟨rfl, hS.below⟩
 have hc4p : dot10 c ∈ xs := by simpa using hc4
 refine W.skip (N.blk (N.seq (W.region (WL.move rfl rfl rfl ?_))))
 refine WL.add (c := (c : Int) + 1) rfl rfl rfl rfl (rfl) (by omega) ?_
 refine WL.assign rfl rfl rfl (WL.nil ?_)
 obtain ⟨f2, rfl⟩ : ∃ f2, f = f2 + 1 := by cases f with | zero => exact absurd hc4p (by have h := loc10_not xs n; rw [← hlc] at h; exact h) | succ f => exact ⟨f, rfl⟩
 rw [locF, if_pos hc4p] at hlc
 exact N.loop (c + 1, f2) ⟨rfl, rfl, trivial⟩ ⟨hS, hlc, by omega⟩ (by first | omega | (simp only; omega))

end Go.Proofs.YtapjejjmhmdmdaaDoor

namespace Go.Proofs.YtapjejjmhmdmdaaDoor
open Go.RowKit

section
variable {P : Program} {n : Nat} {R : Exit → Act → World → Prop} {k : Kt} {σ : Env} {w : World} {ops : Array Oper} {rest : List Oper}
variable {d : Nat} {ty : TypeId} {pos : String} {af : Array Edge} {g : Option (Nat × Bool)}
theorem WL.convInt {src dst : TypeId} {x : Operand} {kk k2 : IntKind} {a : Int} (hs : (P.underlying src).isSome = true) (hu : P.underlying dst = some (.int k2)) (hg : want ops σ g = some true) (hd : Nat.blt d n = true)
    (hx : ev σ x = some (.int kk a)) (h : WL P n R ops rest k ((d, .int k2 (k2.wrap a)) :: σ) w) : WL P n R ops (⟨some d, .convert src dst x, ty, pos, af, g⟩ :: rest) k σ w :=
  WL.valW (o := ⟨some d, .convert src dst x, ty, pos, af, g⟩) hg hd (fun c hc => by
    have he : P.intKind dst = k2 := by simp [Program.intKind, hu]
    have h1 := run_convert_int (P := P) w src dst kk a hs (by rw [he]; exact hu)
    rw [he] at h1
    simp [execOp, hc.eval hx, h1]) h
theorem WL.makeFuncB {fn : Fn} {fsts caps : Array Operand} {bs vs : Array Value} (hg : want ops σ g = some true) (hd : Nat.blt d n = true) (hb : (fsts.toList.mapM (ev σ)) = some bs.toList) (hc : (caps.toList.mapM (ev σ)) = some vs.toList)
    (h : WL P n R ops rest k ((d, .func fn bs vs) :: σ) w) : WL P n R ops (⟨some d, .makeFunc fn fsts caps, ty, pos, af, g⟩ :: rest) k σ w :=
  WL.valW (o := ⟨some d, .makeFunc fn fsts caps, ty, pos, af, g⟩) hg hd (fun c hk => by
    have key : ∀ (l : List Operand) (r : List Value), l.mapM (ev σ) = some r → l.map c.eval = r := by
      intro l
      induction l with
      | nil => intro r hr; simp at hr; simp [hr]
      | cons x l ih =>
        intro r hr
        simp only [List.mapM_cons, Option.bind_eq_bind, Option.bind_eq_some_iff, Option.pure_def, Option.some.injEq] at hr
        obtain ⟨v, hv, r', hr', e⟩ := hr
        subst e
        simp [hk.eval hv, ih r' hr']
    have e : caps.map c.eval = vs := by
      apply Array.toList_inj.1
      rw [Array.toList_map]
      exact key _ _ hc
    have e2 : fsts.map c.eval = bs := by
      apply Array.toList_inj.1
      rw [Array.toList_map]
      exact key _ _ hb
    simp [execOp, Instr.makeFunc, e, e2]) h
/-- A call through a function value that has bound values. -/
theorem WL.callVB {f : Nat} {fn : Func} {x : Operand} {xs : Array Operand} {vs : List Value} {bs cs : Array Value} {tt : Array TypeId} {Rc : Value → World → Prop} (hf : P.funcs[f]? = some fn) (hb : (fn.body.isSome && !(fn.name == "runtime.NumGoroutine")) = true)
    (hg : want ops σ g = some true) (hd : Nat.blt d n = true) (hfx : ev σ x = some (.func (.func f) bs cs)) (hx : xs.toList.mapM (ev σ) = some vs) (hc : Ret P f (bs ++ vs.toArray ++ cs) w Rc)
    (h : ∀ v w', Rc v w' → WL P n R ops rest k ((d, v) :: σ) w') : WL P n R ops (⟨some d, .call { callee := .value x, args := xs, argTypes := tt }, ty, pos, af, g⟩ :: rest) k σ w :=
  WL.call (o := ⟨some d, .call { callee := .value x, args := xs, argTypes := tt }, ty, pos, af, g⟩) hg hd (fun c hk => by
    have key : ∀ (l : List Operand) (r : List Value), l.mapM (ev σ) = some r → l.map c.eval = r := by
      intro l
      induction l with
      | nil => intro r hr; simp at hr; simp [hr]
      | cons x l ih =>
        intro r hr
        simp only [List.mapM_cons, Option.bind_eq_bind, Option.bind_eq_some_iff, Option.pure_def, Option.some.injEq] at hr
        obtain ⟨v, hv, r', hr', e⟩ := hr
        subst e
        simp [hk.eval hv, ih r' hr']
    have e : xs.map c.eval = vs.toArray := by
      apply Array.toList_inj.1
      rw [Array.toList_map]
      exact key _ _ hx
    simp only [Bool.and_eq_true, Bool.not_eq_true', Option.isSome_iff_exists, beq_eq_false_iff_ne] at hb
    obtain ⟨⟨bd, hbd⟩, hnm⟩ := hb
    simp [execOp, resolve, invoke, hk.eval hfx, Deferred.ofValue, e, callFunc, hf, hbd, hnm]) hc h
end
/-- One cell of a chunk is written. -/
theorem Chunks.setCell {α : Type} {sz : Nat} {Q : List Value → α → Prop} {cs : List Value} {xs : List α} {x y : α} {i c : Nat} {v : Value} (h : Chunks sz Q cs xs) (hx : xs[i]? = some x) (hc : c < sz) (hq : ∀ l, Q l x → Q (l.set c v) y) :
    Chunks sz Q (cs.take (i * sz + c) ++ [v] ++ cs.drop (i * sz + c + 1)) (xs.set i y) := by
  have hi := (List.getElem?_eq_some_iff.1 hx).1
  have hl := h.1
  have hle : i * sz + sz ≤ cs.length := by
    rw [hl]
    have := Nat.mul_le_mul_right sz (show i + 1 ≤ xs.length from hi)
    rw [Nat.add_mul] at this
    omega
  have e : cs.take (i * sz + c) ++ [v] ++ cs.drop (i * sz + c + 1) = cs.take (i * sz) ++ ((cs.drop (i * sz)).take sz).set c v ++ cs.drop (i * sz + sz) := by
    apply List.ext_getElem?
    intro j
    simp only [List.getElem?_append, List.length_append, List.length_take, List.length_set, List.length_drop, List.length_cons, List.length_nil, List.getElem?_set, List.getElem?_take, List.getElem?_drop]
    by_cases h1 : j < i * sz + c
    · by_cases h2 : j < i * sz
      · rw [if_pos (by omega), if_pos (by omega), if_pos h1, if_pos (by omega), if_pos (by omega), if_pos h2]
      · rw [if_pos (by omega), if_pos (by omega), if_pos h1, if_pos (by omega), if_neg (by omega), if_neg (by omega), if_pos (by omega)]
        congr 1; omega
    · by_cases h2 : j = i * sz + c
      · subst h2
        rw [if_pos (by omega), if_neg (by omega), if_pos (by omega), if_neg (by omega), if_pos (by omega), if_pos (by omega)]
        simp [show i * sz + c - min (i * sz + c) cs.length = 0 by omega]
      · by_cases h3 : j < i * sz + sz
        · rw [if_neg (by omega), if_pos (by omega), if_neg (by omega), if_neg (by omega), if_pos (by omega)]
          congr 1; omega
        · rw [if_neg (by omega), if_neg (by omega)]
          congr 1; omega
  rw [e]
  have h2 := h.setAt (c := ((cs.drop (i * sz)).take sz).set c v) (x := y) hi (by rw [List.length_set, List.length_take, List.length_drop]; omega) (hq _ (h.2 i x hx))
  exact h2
end Go.Proofs.YtapjejjmhmdmdaaDoor
