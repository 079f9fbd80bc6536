/-
  Contracts of layer 17 (gen). No condition beyond those that each theorem states.
-/
import Derived.Test.YtcmmhfknkldmcaaDoorK2
namespace Go.Proofs.YtcmmhfknkldmcaaDoor
open Go.RowKit

set_option maxRecDepth 10000 in
set_option maxHeartbeats 4000000 in
theorem frame_ret (f : DFunc) (cf : List Value) {w : World} {ro : Nat → Prop} (hro : ∀ b, ro b → b < w.heap.size) (hx : FuncC ro w cf f) (hok : OkG f) : Ret Tryd.prog 13 #[.agg cf.toArray] w fun v w' => v = .int .i64 (frame17 f) ∧ Below w.heap.size w w' := by
 obtain ⟨sbF, rfl, hblF, hnmF, hbdF, hprF⟩ := id hx
 obtain ⟨adbF, capbF, rfl, hbkFa, hbkFb, hbkFc, hbkFd⟩ := id hblF
 have hbkFm : f.blocks.length ≤ 9223372036854775807 := by have h1 := hbkFa; have h2 := hbkFb; unfold maxLen at h2; omega
 refine Ret.enter (P := Tryd.prog) (n := 9) (args := [.agg #[.string f.name, .int .i64 f.bind, .int .i64 f.params, .slice adbF f.blocks.length capbF]]) (σ := [(0, .agg #[.string f.name, .int .i64 f.bind, .int .i64 f.params, .slice adbF f.blocks.length capbF])]) Tryd.func13 rfl rfl rfl rfl ?_
 have hS := St.start (ro := ro) hro
 refine W.seq ?_
 refine W.region ?_
 refine WL.box (v := .agg #[.string f.name, .int .i64 f.bind, .int .i64 f.params, .slice adbF f.blocks.length capbF]) (cs := [.string f.name, .int .i64 f.bind, .int .i64 f.params, .slice adbF f.blocks.length capbF]) rfl rfl rfl rfl hS ?_
 clear hS; intro w2 b1 hb_b1 hS
 refine WL.assign rfl rfl rfl ?_
 refine WL.nil ?_
 refine N.seq ?_
 refine W.seq ?_
 refine W.region ?_
 refine WL.loadN (cs := [.string f.name, .int .i64 f.bind, .int .i64 f.params, .slice adbF f.blocks.length capbF]) agg_24 rfl rfl rfl rfl (hS.cells 0 (m := 4) rfl rfl) ?_
 refine WL.callF (vs := [.agg #[.string f.name, .int .i64 f.bind, .int .i64 f.params, .slice adbF f.blocks.length capbF]]) Tryd.func23 (by kernel_rfl) rfl rfl rfl (many16_ret f _ (ro := ro) (fun b hb => (hS.snap b hb).1) (hx.keep hS.alike) hok.ok) ?_
 rintro v w3 ⟨rfl, hbl⟩
 replace hS := hS.grow hbl
 have hm38 := many16_38 hok
 refine WL.mul (c := 8 * (many16 f)) rfl rfl rfl rfl (rfl) (by omega) ?_
 refine WL.add (c := 56 + (8 * (many16 f))) rfl rfl rfl rfl (rfl) (by omega) ?_
 refine WL.add (c := (56 + (8 * (many16 f))) + 15) rfl rfl rfl rfl (rfl) (by omega) ?_
 refine WL.bin rfl rfl rfl rfl rfl ?_
 refine WL.assign rfl rfl rfl ?_
 refine WL.nil ?_
 refine N.seq ?_
 refine Fin.ret1 rfl (v := .int .i64 (IntKind.i64.wrap ((BitVec.ofInt IntKind.i64.bits ((56 + (8 * (many16 f))) + 15) &&& ~~~ BitVec.ofInt IntKind.i64.bits 15).toNat : Int))) rfl ?_
 rw [frameEq hok]
 exact ⟨rfl, hS.below⟩

theorem jump_one {w0 ws w : World} {ro : Nat → Prop} {LL : List (Nat × Obj)} {Rs : List Row} {bm : Nat} {fn cn : ByteArray} {fb fp mn fr : Int} {fv vo vr vs vj : Value} {no : Nat} {l : List DOp} {starts : List Int} (bT bA bW : Nat) (j : Nat × Tgt) (hj : JmpOk LL bm (jumpV bT bA bW) j)
    (hbm : (bm, Obj.cells #[.string fn, .int .i64 fb, .int .i64 fp, fv, .int .i64 mn, .int .i64 fr, .string cn, vo, vr, vs, vj] 64 (0, 0)) ∈ LL) (hno : no = l.length) (hat : j.1 < l.length) (hnl : no ≤ 1000000) (hzb : 0 ≤ tgtOf starts j.2 ∧ tgtOf starts j.2 ≤ 1000000) (hin : ∀ t, j.2 = .block t → 0 ≤ t ∧ starts[t.toNat]? = some (tgtOf starts (.block t)))
    (hvs : (⟨vs, 3, 1, starts.length, iCells starts⟩ : Row) ∈ Rs) (hS : St w0 ws w ro LL (⟨vo, 36, 5, no, (oCells l)⟩ :: Rs)) :
    Ret Tryd.prog 66 #[.pointer (some ⟨bT, 0, none⟩), .pointer (some ⟨bA, 0, none⟩), .pointer (some ⟨bW, 0, none⟩)] w fun v w' => v = .tuple #[] ∧ St w0 ws w' ro LL (⟨vo, 36, 5, no, oCells (setJ starts l j)⟩ :: Rs) := by
  obtain ⟨bT', bA', bW', e, hA, hW, hT⟩ := hj
  unfold jumpV at e
  obtain ⟨rfl, rfl, rfl⟩ : bT' = bT ∧ bA' = bA ∧ bW' = bW := by
    simp at e; exact ⟨e.1.symm, e.2.1.symm, e.2.2.symm⟩
  have cells : ∀ (u : World) (b t : Nat) (v : Value), St w0 ws u ro LL (⟨vo, 36, 5, no, (oCells l)⟩ :: Rs) → (b, bx t v) ∈ LL → b < u.heap.size ∧ CellsAt u b 0 [v] := fun u b t v hu hb => by
    have h1 := hu.own _ hb
    exact ⟨(Array.getElem?_eq_some_iff.1 h1).1, cellsAt_block (cs := [v]) h1⟩
  obtain ⟨jn, jt⟩ := j
  cases jt with
  | block t =>
    obtain ⟨b4, b6, hT, h4, h6⟩ := hT
    obtain ⟨ht, hs⟩ := hin t rfl
    have htn : ((t.toNat : Nat) : Int) = t := by omega
    exact jump1_ret bT' bA' bW' jn (tgtOf starts (.block t)) hT hA hW hbm hno hat hnl hzb hS Tryd.func68 (by kernel_rfl) fun u hu =>
      goes1_ret (ro := fun b => b < u.heap.size) b4 b6 t.toNat _ (fun _ h => h) (cells u _ _ _ hu h4).1 (cells u _ _ _ hu h6).1 (Array.getElem?_eq_some_iff.1 (hu.own _ hbm)).1 (cells u _ _ _ hu h4).2 (by rw [htn]; exact (cells u _ _ _ hu h6).2)
        (cellsAt_block (cs := [.string fn, .int .i64 fb, .int .i64 fp, fv, .int .i64 mn, .int .i64 fr, .string cn, vo, vr, vs, vj]) (hu.own _ hbm)) (row_slv (hu.rows _ (List.mem_cons_of_mem _ hvs)) (iCells_raw starts) rfl fun b hb => (hu.keys b (by simp only [keysOf, List.mem_append, List.mem_filterMap]; exact .inr ⟨_, List.mem_cons_of_mem _ hvs, hb⟩)).2.1) hs
  | place q =>
    obtain ⟨bo, hT, ho⟩ := hT
    exact jump1_ret bT' bA' bW' jn (q : Int) hT hA hW hbm hno hat hnl hzb hS Tryd.func50 (by kernel_rfl) fun u hu =>
      end1_ret (ro := fun b => b < u.heap.size) bo (q : Int) (fun _ h => h) (cells u _ _ _ hu ho).1 (cells u _ _ _ hu ho).2

end Go.Proofs.YtcmmhfknkldmcaaDoor
