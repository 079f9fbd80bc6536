/-
  What gen makes, further plain laws: where jumps lead, and how the walk of a function puts its pieces together. No condition beyond those that each theorem states.
-/
import Derived.Test.YtcmmhfknkldmcaaDoorK1
namespace Go.Proofs.YtcmmhfknkldmcaaDoor
open Go.RowKit
section
variable {P : Program} {n : Nat} {σ : Env} {S : World → Prop}
theorem exec_indexAddrE {t e sz : Nat} {x i : Operand} {kk : IntKind} {b o len cap : Nat} {ad : Option Addr} {j : Nat} {d : Option Nat} {ty : TypeId} {pos : String} {af : Array Edge} {g : Option (Nat × Bool)} (hu : P.underlying t = some (.slice e)) (hs : (P.info? e).map (·.size) = some sz) (hE : ad = some ⟨b, o, none⟩)
    (hx : ev σ x = some (.slice ad len cap)) (hi : ev σ i = some (.int kk (j : Int))) (hj : j < len) : ∀ a, Known n a σ → ∀ w, S w → (execOp a.eval ⟨d, .indexAddr t x i, ty, pos, af, g⟩).run P w = .ok (.value (.pointer (some ⟨b, o + j * sz, none⟩))) w := by
  subst hE; exact exec_indexAddr hu hs hx hi hj
end
theorem St.mid {w0 ws w : World} {ro : Nat → Prop} {Lj Lk : List (Nat × Obj)} {a b c d : Nat × Obj} {Rs : List Row} (h : St w0 ws w ro (a :: (Lj ++ (b :: c :: d :: Lk))) Rs) : St w0 ws w ro (a :: c :: d :: (Lj ++ Lk)) Rs := by
  have p1 : (Lj ++ (b :: c :: d :: Lk)).Perm (b :: c :: d :: (Lj ++ Lk)) :=
    (List.perm_middle (l₁ := Lj) (a := b) (l₂ := c :: d :: Lk)).trans (List.Perm.cons _ ((List.perm_middle (l₁ := Lj) (a := c) (l₂ := d :: Lk)).trans (List.Perm.cons _ List.perm_middle)))
  have p2 : (a :: (Lj ++ (b :: c :: d :: Lk))).Perm (b :: a :: c :: d :: (Lj ++ Lk)) := (List.Perm.cons _ p1).trans (List.Perm.swap _ _ _)
  exact (h.perm p2).dropN 1
theorem JmpsOk.at {LL : List (Nat × Obj)} {bm : Nat} : ∀ {vs : List Value} {js : List (Nat × Tgt)}, JmpsOk LL bm vs js → ∀ (q : Nat) j, js[q]? = some j → ∃ v, vs[q]? = some v ∧ JmpOk LL bm v j
  | [], [], _, q, j, h => by simp at h
  | v :: vs, i :: js, h, 0, j, hj => by
    simp at hj; subst hj; exact ⟨v, rfl, h.1⟩
  | v :: vs, i :: js, h, q + 1, j, hj => by
    simp at hj
    obtain ⟨v', a, b⟩ := h.2.at q j hj
    exact ⟨v', by simpa using a, b⟩
  | [], _ :: _, h, _, _, _ => h.elim
  | _ :: _, [], h, _, _, _ => h.elim
theorem take_one' {α : Type} {l : List α} {i : Nat} {v : α} (h : l[i]? = some v) : (l.drop i).take 1 = [v] := by
  obtain ⟨h1, rfl⟩ := List.getElem?_eq_some_iff.1 h
  rw [List.drop_eq_getElem_cons h1]; rfl
def JumpC (LL : List (Nat × Obj)) (bm : Nat) (cs : List Value) (j : Nat × Tgt) : Prop := ∃ v, cs = [v] ∧ JmpOk LL bm v j
theorem JmpsOk.chunks {LL : List (Nat × Obj)} {bm : Nat} {vs : List Value} {js : List (Nat × Tgt)} (h : JmpsOk LL bm vs js) : Chunks 1 (JumpC LL bm) vs js := by
  refine ⟨by rw [h.len]; omega, fun i x hx => ?_⟩
  obtain ⟨v, a, b⟩ := h.at i x hx
  refine ⟨v, ?_, b⟩
  rw [Nat.mul_one]
  exact take_one' a
def iAt (f : DFunc) (b : DBlock) (k i : Nat) : List DOp × List DRel := ins17 (give16 b) b.params ((gAt f k).ops, (gAt f k).rels) (b.ins.take i)
theorem iAt_next {f : DFunc} {b : DBlock} {k i : Nat} {x : DInst} (h : b.ins[i]? = some x) : iAt f b k (i + 1) = insStep (give16 b) b.params (iAt f b k i) i x := ins17_next h
theorem blkAt {f : DFunc} {b : DBlock} {k : Nat} (h : f.blocks[k]? = some b) :
    gAt f (k + 1) = ⟨(iAt f b k b.ins.length).1 ++ (end17 (iAt f b k b.ins.length).1.length (give16 b) (many16 f) (frame17 f) b.fin).1, (iAt f b k b.ins.length).2, (gAt f k).starts ++ [((gAt f k).ops.length : Int)], (gAt f k).jumps ++ (end17 (iAt f b k b.ins.length).1.length (give16 b) (many16 f) (frame17 f) b.fin).2⟩ := by
  rw [gAt_next h]
  unfold blk17 iAt
  rw [List.take_length]
theorem iAt_len {f : DFunc} (h : OkG f) {b : DBlock} {k i : Nat} (hb : f.blocks[k]? = some b) (hi : i ≤ b.ins.length) :
    (iAt f b k i).1.length ≤ (gAt f k).ops.length + 12 * i ∧ (iAt f b k i).2.length ≤ (gAt f k).rels.length + 2 * i ∧ (gAt f k).ops.length ≤ (iAt f b k i).1.length := by
  have hm := List.mem_of_getElem? hb
  exact ins17_len (s := ((gAt f k).ops, (gAt f k).rels)) (fun x hx => ⟨(h.ks _ hm x hx).1, (h.ks _ hm x hx).2.2.2.1⟩) i hi
/-- A jump of a block's end stands in it, and leads to a block of the function, or into the end itself. -/
def JIn (nb lo hi : Nat) (j : Nat × Tgt) : Prop := lo ≤ j.1 ∧ j.1 < hi ∧ match j.2 with
  | .block t => 0 ≤ t ∧ t < nb
  | .place n => lo ≤ n ∧ n < hi
theorem end17_jin {nb no : Nat} {slots : List Int} {mn fr : Int} {t : DTerm} (h1 : t.kind ≠ 3 → 0 ≤ t.to ∧ t.to < nb) (h2 : t.kind = 2 → 0 ≤ t.els ∧ t.els < nb) :
    ∀ j ∈ (end17 no slots mn fr t).2, JIn nb no (no + (end17 no slots mn fr t).1.length) j := by
  have ha := hand17_len slots mn t.args
  have hb := hand17_len slots mn t.elses
  unfold end17
  by_cases h3 : t.kind = 3
  · rw [if_pos h3]; intro j hj; simp at hj
  · rw [if_neg h3]
    have h1 := h1 h3
    by_cases h4 : t.kind = 2
    · rw [if_pos h4]
      have h2 := h2 h4
      intro j hj
      simp only [List.mem_cons, List.not_mem_nil, or_false] at hj
      simp only [List.length_append, List.length_cons, List.length_nil] at hj ⊢
      rcases hj with rfl | rfl | rfl
      · exact ⟨by simp only; omega, by simp only; omega, by first | omega | (simp only; omega), by first | omega | (simp only; omega)⟩
      · exact ⟨by simp only; omega, by simp only; omega, h1⟩
      · exact ⟨by simp only; omega, by simp only; omega, h2⟩
    · rw [if_neg h4]
      intro j hj
      simp only [List.mem_cons, List.not_mem_nil, or_false] at hj
      simp only [List.length_append, List.length_cons, List.length_nil] at hj ⊢
      subst hj
      exact ⟨by simp only; omega, by simp only; omega, h1⟩
theorem JIn.mono {nb lo hi lo' hi' : Nat} {j : Nat × Tgt} (h : JIn nb lo hi j) (h1 : lo' ≤ lo) (h2 : hi ≤ hi') : JIn nb lo' hi' j := by
  obtain ⟨a, b, c⟩ := h
  refine ⟨by omega, by omega, ?_⟩
  split at c
  · exact c
  · exact ⟨by omega, by omega⟩
theorem gAt_jumps {f : DFunc} (h : OkG f) (k : Nat) (hk : k ≤ f.blocks.length) : (∀ j ∈ (gAt f k).jumps, JIn f.blocks.length 0 (gAt f k).ops.length j) ∧ ∀ z ∈ (gAt f k).starts, 0 ≤ z ∧ z ≤ (gAt f k).ops.length := by
  induction k with
  | zero => exact ⟨fun j hj => by simp [gAt, g0] at hj, fun z hz => by simp [gAt, g0] at hz⟩
  | succ k ih =>
    have hb : f.blocks[k]? = some f.blocks[k] := List.getElem?_eq_getElem (by omega)
    have hm := List.mem_of_getElem? hb
    obtain ⟨i1, i2⟩ := ih (by omega)
    have h1 := iAt_len h hb (Nat.le_refl _)
    have h2 := h.to _ hm
    rw [blkAt hb]
    simp only [List.length_append]
    refine ⟨fun j hj => ?_, fun z hz => ?_⟩
    · rcases List.mem_append.1 hj with hj | hj
      · exact (i1 j hj).mono (Nat.zero_le _) (by omega)
      · exact (end17_jin h2.1 h2.2 j hj).mono (Nat.zero_le _) (Nat.le_refl _)
    · rcases List.mem_append.1 hz with hz | hz
      · have := i2 z hz; omega
      · have := List.mem_singleton.1 hz; omega
theorem tgt_in {f : DFunc} (h : OkG f) {j : Nat × Tgt} (hj : j ∈ (gFull f).jumps) : 0 ≤ tgtOf (gFull f).starts j.2 ∧ tgtOf (gFull f).starts j.2 ≤ (gFull f).ops.length := by
  obtain ⟨h1, h2⟩ := gAt_jumps h f.blocks.length (Nat.le_refl _)
  have hl := (gAt_len h f.blocks.length (Nat.le_refl _)).2.2.2
  have h3 := (h1 j hj).2.2
  obtain ⟨jn, jt⟩ := j
  cases jt with
  | block t =>
    have h4 : 0 ≤ t ∧ t < (f.blocks.length : Int) := h3
    have ht : t.toNat < (gAt f f.blocks.length).starts.length := by omega
    have e : (gFull f).starts.getD t.toNat 0 = (gAt f f.blocks.length).starts[t.toNat] := by
      unfold gFull; simp only [List.getD_eq_getElem?_getD, List.getElem?_eq_getElem ht, Option.getD_some]
    show 0 ≤ (gFull f).starts.getD t.toNat 0 ∧ (gFull f).starts.getD t.toNat 0 ≤ _
    rw [e]
    exact h2 _ (List.getElem_mem ht)
  | place n =>
    have h4 : 0 ≤ n ∧ n < (gAt f f.blocks.length).ops.length := h3
    show (0 : Int) ≤ (n : Int) ∧ (n : Int) ≤ ((gAt f f.blocks.length).ops.length : Int)
    omega
theorem starts_at {f : DFunc} (h : OkG f) {t : Int} (ht : 0 ≤ t ∧ t < f.blocks.length) : (gFull f).starts[t.toNat]? = some (tgtOf (gFull f).starts (.block t)) := by
  have hl := (gAt_len h f.blocks.length (Nat.le_refl _)).2.2.2
  have ht : t.toNat < (gAt f f.blocks.length).starts.length := by omega
  unfold tgtOf gFull
  simp only [List.getD_eq_getElem?_getD, List.getElem?_eq_getElem ht, Option.getD_some]
theorem rCells_app (a b : List DRel) : rCells (a ++ b) = rCells a ++ rCells b := by unfold rCells; rw [List.map_append, List.flatten_append]
theorem iCells_app (a b : List Int) : iCells (a ++ b) = iCells a ++ iCells b := by unfold iCells; rw [List.map_append]
end Go.Proofs.YtcmmhfknkldmcaaDoor

namespace Go.Proofs.YtcmmhfknkldmcaaDoor
open Go.RowKit

set_option maxRecDepth 10000 in
set_option maxHeartbeats 4000000 in
theorem frame_ret (f : DFunc) (cf : List Value) {w : World} {ro : Nat → Prop} (hro : ∀ b, ro b → b < w.heap.size) (hx : FuncC ro w cf f) (hok : OkG f) : Ret Tryd.prog 13 #[.agg cf.toArray] w fun v w' => v = .int .i64 (frame17 f) ∧ Below w.heap.size w w' := by
 obtain ⟨sbF, rfl, hblF, hnmF, hbdF, hprF⟩ := id hx
 obtain ⟨adbF, capbF, rfl, hbkFa, hbkFb, hbkFc, hbkFd⟩ := id hblF
 have hbkFm : f.blocks.length ≤ 9223372036854775807 := by have h1 := hbkFa; have h2 := hbkFb; unfold maxLen at h2; omega
 refine Ret.enter (P := Tryd.prog) (n := 9) (args := [.agg #[.string f.name, .int .i64 f.bind, .int .i64 f.params, .slice adbF f.blocks.length capbF]]) (σ := [(0, .agg #[.string f.name, .int .i64 f.bind, .int .i64 f.params, .slice adbF f.blocks.length capbF])]) Tryd.func13 rfl rfl rfl rfl ?_
 have hS := St.start (ro := ro) hro
 refine W.seq (W.region ?_)
 refine WL.box (v := .agg #[.string f.name, .int .i64 f.bind, .int .i64 f.params, .slice adbF f.blocks.length capbF]) (cs := [.string f.name, .int .i64 f.bind, .int .i64 f.params, .slice adbF f.blocks.length capbF]) rfl rfl rfl rfl hS ?_
 clear hS; intro w2 b1 hb_b1 hS
 refine WL.assign rfl rfl rfl (WL.nil (N.seq (W.seq (W.region (WL.loadN (cs := [.string f.name, .int .i64 f.bind, .int .i64 f.params, .slice adbF f.blocks.length capbF]) agg_24 rfl rfl rfl rfl (hS.cells 0 (m := 4) rfl rfl) ?_)))))
 refine WL.callF (vs := [.agg #[.string f.name, .int .i64 f.bind, .int .i64 f.params, .slice adbF f.blocks.length capbF]]) Tryd.func23 (by kernel_rfl) rfl rfl rfl (many16_ret f _ (ro := ro) (fun b hb => (hS.snap b hb).1) (hx.keep hS.alike) hok.ok) ?_
 rintro v w3 ⟨rfl, hbl⟩
 replace hS := hS.grow hbl
 have hm38 := many16_38 hok
 refine WL.mul (c := 8 * (many16 f)) rfl rfl rfl rfl (rfl) (by omega) ?_
 refine WL.add (c := 56 + (8 * (many16 f))) rfl rfl rfl rfl (rfl) (by omega) ?_
 refine WL.add (c := (56 + (8 * (many16 f))) + 15) rfl rfl rfl rfl (rfl) (by omega) ?_
 refine WL.bin rfl rfl rfl rfl rfl (WL.assign rfl rfl rfl (WL.nil (N.seq ?_)))
 refine Fin.ret1 rfl (v := .int .i64 (IntKind.i64.wrap ((BitVec.ofInt IntKind.i64.bits ((56 + (8 * (many16 f))) + 15) &&& ~~~ BitVec.ofInt IntKind.i64.bits 15).toNat : Int))) rfl ?_
 rw [frameEq hok]
 exact ⟨rfl, hS.below⟩

theorem jump_one {w0 ws w : World} {ro : Nat → Prop} {LL : List (Nat × Obj)} {Rs : List Row} {bm : Nat} {fn cn : ByteArray} {fb fp mn fr : Int} {fv vo vr vs vj : Value} {no : Nat} {l : List DOp} {starts : List Int} (bT bA bW : Nat) (j : Nat × Tgt) (hj : JmpOk LL bm (jumpV bT bA bW) j)
    (hbm : (bm, Obj.cells #[.string fn, .int .i64 fb, .int .i64 fp, fv, .int .i64 mn, .int .i64 fr, .string cn, vo, vr, vs, vj] 64 (0, 0)) ∈ LL) (hno : no = l.length) (hat : j.1 < l.length) (hnl : no ≤ 1000000) (hzb : 0 ≤ tgtOf starts j.2 ∧ tgtOf starts j.2 ≤ 1000000) (hin : ∀ t, j.2 = .block t → 0 ≤ t ∧ starts[t.toNat]? = some (tgtOf starts (.block t)))
    (hvs : (⟨vs, 3, 1, starts.length, iCells starts⟩ : Row) ∈ Rs) (hS : St w0 ws w ro LL (⟨vo, 36, 5, no, (oCells l)⟩ :: Rs)) :
    Ret Tryd.prog 66 #[.pointer (some ⟨bT, 0, none⟩), .pointer (some ⟨bA, 0, none⟩), .pointer (some ⟨bW, 0, none⟩)] w fun v w' => v = .tuple #[] ∧ St w0 ws w' ro LL (⟨vo, 36, 5, no, oCells (setJ starts l j)⟩ :: Rs) := by
  obtain ⟨bT', bA', bW', e, hA, hW, hT⟩ := hj
  unfold jumpV at e
  obtain ⟨rfl, rfl, rfl⟩ : bT' = bT ∧ bA' = bA ∧ bW' = bW := by
    simp at e; exact ⟨e.1.symm, e.2.1.symm, e.2.2.symm⟩
  have cells : ∀ (u : World) (b t : Nat) (v : Value), St w0 ws u ro LL (⟨vo, 36, 5, no, (oCells l)⟩ :: Rs) → (b, bx t v) ∈ LL → b < u.heap.size ∧ CellsAt u b 0 [v] := fun u b t v hu hb => by
    have h1 := hu.own _ hb
    exact ⟨(Array.getElem?_eq_some_iff.1 h1).1, cellsAt_block (cs := [v]) h1⟩
  obtain ⟨jn, jt⟩ := j
  cases jt with
  | block t =>
    obtain ⟨b4, b6, hT, h4, h6⟩ := hT
    obtain ⟨ht, hs⟩ := hin t rfl
    have htn : ((t.toNat : Nat) : Int) = t := by omega
    exact jump1_ret bT' bA' bW' jn (tgtOf starts (.block t)) hT hA hW hbm hno hat hnl hzb hS Tryd.func68 (by kernel_rfl) fun u hu =>
      goes1_ret (ro := fun b => b < u.heap.size) b4 b6 t.toNat _ (fun _ h => h) (cells u _ _ _ hu h4).1 (cells u _ _ _ hu h6).1 (Array.getElem?_eq_some_iff.1 (hu.own _ hbm)).1 (cells u _ _ _ hu h4).2 (by rw [htn]; exact (cells u _ _ _ hu h6).2)
        (cellsAt_block (cs := [.string fn, .int .i64 fb, .int .i64 fp, fv, .int .i64 mn, .int .i64 fr, .string cn, vo, vr, vs, vj]) (hu.own _ hbm)) (row_slv (hu.rows _ (List.mem_cons_of_mem _ hvs)) (iCells_raw starts) rfl fun b hb => (hu.keys b (by simp only [keysOf, List.mem_append, List.mem_filterMap]; exact .inr ⟨_, List.mem_cons_of_mem _ hvs, hb⟩)).2.1) hs
  | place q =>
    obtain ⟨bo, hT, ho⟩ := hT
    exact jump1_ret bT' bA' bW' jn (q : Int) hT hA hW hbm hno hat hnl hzb hS Tryd.func50 (by kernel_rfl) fun u hu =>
      end1_ret (ro := fun b => b < u.heap.size) bo (q : Int) (fun _ h => h) (cells u _ _ _ hu ho).1 (cells u _ _ _ hu ho).2

end Go.Proofs.YtcmmhfknkldmcaaDoor
