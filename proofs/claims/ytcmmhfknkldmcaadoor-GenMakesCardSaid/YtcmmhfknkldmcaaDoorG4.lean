/-
  Contracts of layer 17 (gen). No condition beyond those that each theorem states.
-/
import Derived.Test.YtcmmhfknkldmcaaDoorG3
namespace Go.Proofs.YtcmmhfknkldmcaaDoor
open Go.RowKit
theorem byt_1 : (Tryd.prog.info? 1).map (·.bytes) = some 8 := by kernel_rfl
theorem fo_64_5 : fOff Tryd.prog 64 5 10 = true := by kernel_rfl
theorem one_61 : tyOne Tryd.prog 61 = true := by kernel_rfl
theorem one_62 : tyOne Tryd.prog 62 = true := by kernel_rfl
theorem siz_62 : tySize Tryd.prog 62 1 = true := by kernel_rfl
theorem zer_1 : tyZero Tryd.prog 1 = some [.nilFunc] := by kernel_rfl
def jal : DOp := ⟨29, 0, 0, 0, 0⟩
def jumpV (bT bA bW : Nat) : Value := .func (.func 66) #[] #[.pointer (some ⟨bT, 0, none⟩), .pointer (some ⟨bA, 0, none⟩), .pointer (some ⟨bW, 0, none⟩)]

set_option maxRecDepth 10000 in
set_option maxHeartbeats 4000000 in
theorem jump_ret {w0 ws w : World} {ro : Nat → Prop} {L : List (Nat × Obj)} {Rs : List Row} {bm : Nat} {fn cn : ByteArray} {fb fp mn fr : Int} {fv vo vr vs vj : Value} {no : Nat} {co : List Value} {nj : Nat} {cj : List Value} {q : Nat} {caps : Array Value} (hno : no + 1 ≤ 1000000) (hnj : nj + 1 ≤ 1000000) (hS : St w0 ws w ro ((bm, .cells #[.string fn, .int .i64 fb, .int .i64 fp, fv, .int .i64 mn, .int .i64 fr, .string cn, vo, vr, vs, vj] 64 (0, 0)) :: L) (⟨vo, 36, 5, no, co⟩ :: ⟨vj, 1, 1, nj, cj⟩ :: Rs)) : Ret Tryd.prog 49 #[.pointer (some ⟨bm, 0, none⟩), .func (.func q) #[] caps] w fun v w' => v = .tuple #[] ∧ ∃ vo2 vj2 bT bA bW, St w0 ws w' ro ((bm, .cells #[.string fn, .int .i64 fb, .int .i64 fp, fv, .int .i64 mn, .int .i64 fr, .string cn, vo2, vr, vs, vj2] 64 (0, 0)) :: (bT, .cells #[.func (.func q) #[] caps] 96 (0, 0)) :: (bA, .cells #[.int .i64 (no : Int)] 3 (0, 0)) :: (bW, .cells #[.pointer (some ⟨bm, 0, none⟩)] 61 (0, 0)) :: L) (⟨vo2, 36, 5, no + 1, co ++ oCells [jal]⟩ :: ⟨vj2, 1, 1, nj + 1, cj ++ [jumpV bT bA bW]⟩ :: Rs) := by
 refine Ret.enter (P := Tryd.prog) (n := 25) (args := [.pointer (some ⟨bm, 0, none⟩), .func (.func q) #[] caps]) (σ := [(0, .pointer (some ⟨bm, 0, none⟩)), (1, .func (.func q) #[] caps)]) Tryd.func49 rfl rfl rfl rfl ?_
 have hrow : w.ownsRow w0.heap.size 36 5 vo (no) _ := hS.rows _ List.mem_cons_self
 obtain ⟨advo, capvo, rfl, hr1vo, hr2vo, hr3vo⟩ := row_shape hrow
 clear hrow
 have hrow : w.ownsRow w0.heap.size 1 1 vj (nj) _ := hS.rows _ (List.mem_cons_of_mem _ List.mem_cons_self)
 obtain ⟨advj, capvj, rfl, hr1vj, hr2vj, hr3vj⟩ := row_shape hrow
 clear hrow
 refine W.seq (W.region ?_)
 refine WL.box (v := .pointer (some ⟨bm, 0, none⟩)) (cs := [.pointer (some ⟨bm, 0, none⟩)]) rfl rfl rfl rfl hS ?_
 clear hS; intro w2 b1 hb_b1 hS
 refine WL.box (v := .func (.func q) #[] caps) (cs := [.func (.func q) #[] caps]) rfl rfl rfl rfl hS ?_
 clear hS; intro w4 b3 hb_b3 hS
 refine WL.nil (N.seq (W.seq (W.region (WL.load1 (v := .pointer (some ⟨bm, 0, none⟩)) one_61 rfl rfl rfl (hS.cell 1 rfl rfl) (WL.nilPtr rfl rfl rfl (WL.fieldAddr fo_64_3 rfl rfl rfl (WL.fieldAddr fo_30_1 rfl rfl rfl (WL.load1 (v := .slice advo no capvo) one_27 rfl rfl rfl (hS.cell 2 rfl rfl) (WL.lenSlice Tryd.underlying27 rfl rfl rfl ?_)))))))))
 refine WL.alloc (tyZero_spec zer_3) rfl rfl hS ?_
 clear hS; intro w6 b5 hb_b5 hS
 refine WL.store0 #[.int .i64 (no : Int)] rfl rfl rfl rfl siz_3 rfl rfl rfl hS ?_
 clear hS; intro w7 hS
 refine WL.nil (N.seq (W.seq (W.region (WL.load1 (v := .pointer (some ⟨bm, 0, none⟩)) one_61 rfl rfl rfl (hS.cell 2 rfl rfl) ?_))))
 refine WL.build (ps := [(0, .int .i64 29)]) (cs := [.int .i64 29, .int .i64 0, .int .i64 0, .int .i64 0, .int .i64 0]) rfl rfl rfl (by kernel_rfl) ?_
 refine WL.buildSlice (ps := [(0, .agg #[.int .i64 29, .int .i64 0, .int .i64 0, .int .i64 0, .int .i64 0])]) (cs := [.int .i64 29, .int .i64 0, .int .i64 0, .int .i64 0, .int .i64 0]) Tryd.underlying27 (tyZero_spec zer_36) rfl rfl rfl rfl (by kernel_rfl) hS ?_
 clear hS; intro w9 b8 hb_b8 hS
 replace hS := hS.perm (((((List.Perm.cons _ (List.Perm.cons _ (List.Perm.cons _ (List.Perm.swap _ _ _))))).trans ((List.Perm.cons _ (List.Perm.cons _ (List.Perm.swap _ _ _))))).trans ((List.Perm.cons _ (List.Perm.swap _ _ _)))).trans ((List.Perm.swap _ _ _)))
 refine WL.callF (vs := [.pointer (some ⟨bm, 0, none⟩), .slice (some ⟨b8, 0, none⟩) 1 1]) Tryd.func24 (by kernel_rfl) rfl rfl rfl (put_ret (some ⟨b8, 0, none⟩) 1 1 [.int .i64 29, .int .i64 0, .int .i64 0, .int .i64 0, .int .i64 0] rfl (fun e => by cases e) (fun b off e => by cases e; exact hS.cells 1 (m := 5) rfl rfl) (fun a e _ => by cases e; rfl) (by intro u hu; simp only [List.mem_cons, List.not_mem_nil, or_false] at hu; rcases hu with rfl | rfl | rfl | rfl | rfl <;> rfl) (by omega) hS) ?_
 clear hS; rintro v w10 ⟨rfl, vo11, hS⟩
 replace hS := hS.perm ((List.Perm.swap _ _ _))
 replace hS := hS.dropN 1
 refine WL.nil (N.seq ?_)
 refine W.drawA0 (S := fun u => CellsAt u b1 (0) [.pointer (some ⟨bm, 0, none⟩)]) (by kernel_rfl) (fun w12 hbd => ?_)
 replace hS := hS.grow hbd
 refine WA.conv (fuel' := 10 + 1) (listed' := (lb 11 0)) (by kernel_rfl) (by kernel_rfl) (WA.take 0 (v := .pointer (some ⟨bm, 0, none⟩)) rfl rfl (by kernel_rfl) (by kernel_rfl) (by kernel_rfl) (fin_no_panic _) rfl (exec_load1 one_61 rfl (fun u hs => hs 0 _ rfl)) (hS.cells 3 (m := 1) rfl rfl) ?_)
 refine WA.conv (fuel' := 6 + 4) (listed' := (lb 11 1)) (by kernel_rfl) (by kernel_rfl) (WA.phaseI [(1, (fun v _ => v = .pointer (some ⟨bm, 0, none⟩))), (2, (fun v _ => v = .pointer (some ⟨bm, 0, none⟩))), (3, (fun v _ => v = .pointer (some ⟨bm, 10, none⟩))), (4, (fun v _ => v = .slice advj nj capvj)), (5, (fun v _ => v = .func (.func 66) #[] #[.pointer (some ⟨b3, 0, none⟩), .pointer (some ⟨b5, 0, none⟩), .pointer (some ⟨b1, 0, none⟩)])), (6, (fun v u => ∃ b, v = .slice (some ⟨b, 0, none⟩) 1 1 ∧ u.heap[b]? = some (.cells [.func (.func 66) #[] #[.pointer (some ⟨b3, 0, none⟩), .pointer (some ⟨b5, 0, none⟩), .pointer (some ⟨b1, 0, none⟩)]].toArray 1 (0, 0))))] (by kernel_rfl) [(2, .pointer (some ⟨b1, 0, none⟩)), (3, .pointer (some ⟨b3, 0, none⟩)), (4, .pointer (some ⟨b5, 0, none⟩)), (15, .pointer (some ⟨bm, 0, none⟩))] ⟨rfl, rfl, rfl, rfl, trivial⟩ (by kernel_rfl) ⟨stays_eq, stays_eq, stays_eq, stays_eq, stays_eq, (fun v u u2 h hb => h.elim fun b h => ⟨b, h.1, (hb.block b (Array.getElem?_eq_some_iff.1 h.2).1).trans h.2⟩), trivial⟩ ?_ (fun u hbu => by have hS := hS.grow hbu; exact (hS.cells 3 (m := 1) rfl rfl)) ?_)
 ·
  refine ⟨fun β wd hb hD => ⟨_, rfl, ?_⟩, ?_⟩
  ·
   have hS := hS.grow hb
   refine WL.load1 (v := .pointer (some ⟨bm, 0, none⟩)) one_61 rfl rfl rfl (hS.cell 3 rfl rfl) ?_
   exact WL.nil (N.cut _ ⟨rfl, trivial⟩ ⟨(Below.refl _ _), rfl⟩)
  refine ⟨fun β wd hb hD => ⟨_, rfl, ?_⟩, ?_⟩
  ·
   obtain ⟨hp1, _⟩ := hD
   replace hp1 : β 1 = .pointer (some ⟨bm, 0, none⟩) := hp1
   refine WL.sub (σ' := [(16, .pointer (some ⟨bm, 0, none⟩))]) ⟨congrArg some hp1, trivial⟩ ?_
   have hS := hS.grow hb
   refine WL.nilPtr rfl rfl rfl ?_
   exact WL.nil (N.cut _ ⟨rfl, trivial⟩ ⟨(Below.refl _ _), rfl⟩)
  refine ⟨fun β wd hb hD => ⟨_, rfl, ?_⟩, ?_⟩
  ·
   obtain ⟨hp2, _⟩ := hD
   replace hp2 : β 2 = .pointer (some ⟨bm, 0, none⟩) := hp2
   refine WL.sub (σ' := [(17, .pointer (some ⟨bm, 0, none⟩))]) ⟨congrArg some hp2, trivial⟩ ?_
   have hS := hS.grow hb
   refine WL.fieldAddr fo_64_5 rfl rfl rfl ?_
   exact WL.nil (N.cut _ ⟨rfl, trivial⟩ ⟨(Below.refl _ _), rfl⟩)
  refine ⟨fun β wd hb hD => ⟨_, rfl, ?_⟩, ?_⟩
  ·
   obtain ⟨hp3, _⟩ := hD
   replace hp3 : β 3 = .pointer (some ⟨bm, 10, none⟩) := hp3
   refine WL.sub (σ' := [(18, .pointer (some ⟨bm, 10, none⟩))]) ⟨congrArg some hp3, trivial⟩ ?_
   have hS := hS.grow hb
   refine WL.load1 (v := .slice advj nj capvj) one_62 rfl rfl rfl (hS.cell 0 rfl rfl) ?_
   exact WL.nil (N.cut _ ⟨rfl, trivial⟩ ⟨(Below.refl _ _), rfl⟩)
  refine ⟨fun β wd hb hD => ⟨_, rfl, ?_⟩, ?_⟩
  ·
   have hS := hS.grow hb
   refine WL.makeFunc (vs := #[.pointer (some ⟨b3, 0, none⟩), .pointer (some ⟨b5, 0, none⟩), .pointer (some ⟨b1, 0, none⟩)]) rfl rfl rfl ?_
   exact WL.nil (N.cut _ ⟨rfl, trivial⟩ ⟨(Below.refl _ _), rfl⟩)
  refine ⟨fun β wd hb hD => ⟨_, rfl, ?_⟩, ?_⟩
  ·
   obtain ⟨hp5, _⟩ := hD
   replace hp5 : β 5 = .func (.func 66) #[] #[.pointer (some ⟨b3, 0, none⟩), .pointer (some ⟨b5, 0, none⟩), .pointer (some ⟨b1, 0, none⟩)] := hp5
   refine WL.sub (σ' := [(20, .func (.func 66) #[] #[.pointer (some ⟨b3, 0, none⟩), .pointer (some ⟨b5, 0, none⟩), .pointer (some ⟨b1, 0, none⟩)])]) ⟨congrArg some hp5, trivial⟩ ?_
   have hS := hS.grow hb
   have hX := St.start (w := wd) (ro := fun z => z < wd.heap.size) (fun _ h => h)
   refine WL.buildSlice (ps := [(0, .func (.func 66) #[] #[.pointer (some ⟨b3, 0, none⟩), .pointer (some ⟨b5, 0, none⟩), .pointer (some ⟨b1, 0, none⟩)])]) (cs := [.func (.func 66) #[] #[.pointer (some ⟨b3, 0, none⟩), .pointer (some ⟨b5, 0, none⟩), .pointer (some ⟨b1, 0, none⟩)]]) Tryd.underlying62 (tyZero_spec zer_1) rfl rfl rfl rfl (by kernel_rfl) hX ?_
   clear hX; intro w14 b13 hb_b13 hX
   exact WL.nil (N.cut _ ⟨rfl, trivial⟩ ⟨hX.below, ⟨_, rfl, hX.own _ List.mem_cons_self⟩⟩)
  trivial
 intro β w15 hb hD
 obtain ⟨hp1, hp2, hp3, hp4, hp5, hp6, _⟩ := hD
 refine WA.sub (σ' := [(15, .pointer (some ⟨bm, 0, none⟩)), (19, .slice advj nj capvj), (21, (β 6))]) ⟨rfl, congrArg some (show β 4 = .slice advj nj capvj from hp4), rfl, trivial⟩ ?_
 have hSd := hS
 replace hS := hS.grow hb
 replace hp6 : (fun v u => ∃ b, v = .slice (some ⟨b, 0, none⟩) 1 1 ∧ u.heap[b]? = some (.cells [.func (.func 66) #[] #[.pointer (some ⟨b3, 0, none⟩), .pointer (some ⟨b5, 0, none⟩), .pointer (some ⟨b1, 0, none⟩)]].toArray 1 (0, 0))) (β 6) w15 := hp6
 generalize β 6 = z6 at hp6 ⊢
 refine WA.conv (fuel' := 3 + 1) (listed' := (lb 11 127)) (by kernel_rfl) (by kernel_rfl) (WA.stepS 7 (by kernel_rfl) rfl ?_)
 obtain ⟨bq6, rfl, hbq6⟩ := hp6
 have hcq6 := cellsAt_block hbq6
 replace hS := hS.permR ((List.Perm.swap _ _ _))
 refine WL.appendRo (r := ⟨.slice advj nj capvj, 1, 1, nj, cj⟩) (news := [.func (.func 66) #[] #[.pointer (some ⟨b3, 0, none⟩), .pointer (some ⟨b5, 0, none⟩), .pointer (some ⟨b1, 0, none⟩)]]) 8 Tryd.underlying62 (tyZero_spec zer_1) byt_1 rfl rfl rfl rfl rfl rfl (fun e => by cases e) (fun b off e => by cases e; exact hcq6) (fun a e _ => by cases e; rfl) ?_ rfl rfl hS (by simp only; unfold maxLen; omega) (by simp only; omega) ?_
 ·
  intro u hu; simp only [List.mem_cons, List.not_mem_nil, or_false] at hu; rcases hu with rfl <;> rfl
 clear hS; intro w16 v17 hS hnn
 have hrow : w16.ownsRow w0.heap.size 1 1 v17 (nj + 1) _ := hS.rows _ List.mem_cons_self
 obtain ⟨av17, cv17, rfl, hc1_v17, hc2_v17, hc3_v17⟩ := row_shape hrow
 clear hrow
 refine WL.nil (N.restS (hS.cells 3 (m := 1) rfl rfl) ?_)
 refine WA.conv (fuel' := 2 + 1) (listed' := (lb 11 255)) (by kernel_rfl) (by kernel_rfl) (WA.stepS 8 (by kernel_rfl) rfl ?_)
 refine WL.nilPtr rfl rfl rfl ?_
 refine WL.nil (N.restS (hS.cells 3 (m := 1) rfl rfl) ?_)
 refine WA.conv (fuel' := 1 + 1) (listed' := (lb 11 511)) (by kernel_rfl) (by kernel_rfl) (WA.stepS 9 (by kernel_rfl) rfl ?_)
 refine WL.fieldAddr fo_64_5 rfl rfl rfl ?_
 refine WL.nil (N.restS (hS.cells 3 (m := 1) rfl rfl) ?_)
 refine WA.conv (fuel' := 0 + 1) (listed' := (lb 11 1023)) (by kernel_rfl) (by kernel_rfl) (WA.stepS 10 (by kernel_rfl) rfl ?_)
 refine WL.store0 #[.string fn, .int .i64 fb, .int .i64 fp, fv, .int .i64 mn, .int .i64 fr, .string cn, vo11, vr, vs, .slice av17 (nj + 1) cv17] rfl rfl rfl rfl siz_62 rfl rfl rfl hS ?_
 clear hS; intro w18 hS
 refine WL.nil (N.restS (hS.cells 3 (m := 1) rfl rfl) ?_)
 refine WA.doneN (by kernel_rfl) ?_
 refine Fin.end0 rfl ?_
 replace hS := hS.perm ((List.Perm.cons _ (List.Perm.swap _ _ _)))
 replace hS := hS.permR ((List.Perm.swap _ _ _))
 exact ⟨rfl, _, _, _, _, _, by rw [oCells_one]; exact hS⟩

end Go.Proofs.YtcmmhfknkldmcaaDoor
