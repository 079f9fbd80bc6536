/-
  Contracts of layer 17 (gen). No condition beyond those that each theorem states.
-/
import Derived.Test.YtcmmhfknkldmcaaDoorG2
import Derived.Test.YtcmmhfknkldmcaaDoorA27
namespace Go.Proofs.YtcmmhfknkldmcaaDoor
open Go.RowKit
theorem agg_36 : tyAgg Tryd.prog 36 5 = true := by kernel_rfl
theorem byt_34 : (Tryd.prog.info? 34).map (·.bytes) = some 32 := by kernel_rfl
theorem fo_30_1 : fOff Tryd.prog 30 1 1 = true := by kernel_rfl
theorem fo_30_2 : fOff Tryd.prog 30 2 2 = true := by kernel_rfl
theorem fo_64_3 : fOff Tryd.prog 64 3 6 = true := by kernel_rfl
theorem one_27 : tyOne Tryd.prog 27 = true := by kernel_rfl
theorem one_28 : tyOne Tryd.prog 28 = true := by kernel_rfl
theorem siz_27 : tySize Tryd.prog 27 1 = true := by kernel_rfl
theorem siz_28 : tySize Tryd.prog 28 1 = true := by kernel_rfl
theorem zer_34 : tyZero Tryd.prog 34 = some [.int .i64 0, .int .i64 0, .string ⟨#[]⟩] := by kernel_rfl
structure DRel where
  at_ : Int
  kind : Int
  name : ByteArray
  deriving DecidableEq
def relL (x : DRel) : List Value := [.int .i64 x.at_, .int .i64 x.kind, .string x.name]
def RelC (cs : List Value) (x : DRel) : Prop := cs = relL x ∧ x.name.size ≤ maxLen ∧ inI x.at_ ∧ inI x.kind
def oCells (l : List DOp) : List Value := (l.map opL).flatten
theorem oCells_one (x : DOp) : oCells [x] = opL x := by simp [oCells]
theorem oCells_app (a b : List DOp) : oCells (a ++ b) = oCells a ++ oCells b := by simp [oCells]
def ld (r s : Int) : DOp := ⟨19, r, 2, 0, 8 + 8 * s⟩
def sv (r s : Int) : DOp := ⟨21, 0, 2, r, 8 + 8 * s⟩

set_option maxRecDepth 10000 in
set_option maxHeartbeats 4000000 in
theorem put_ret {w0 ws w : World} {ro : Nat → Prop} {L : List (Nat × Obj)} {Rs : List Row} {bm : Nat} {fn cn : ByteArray} {fb fp mn fr : Int} {fv vo vr vs vj : Value} {no : Nat} {co : List Value} (ad : Option Addr) (m c : Nat) (news : List Value) (hl : news.length = m * 5) (hnil : ad = none → m = 0 ∧ c = 0) (hcs : ∀ b off, ad = some ⟨b, off, none⟩ → CellsAt w b off news) (hspot : ∀ a, ad = some a → m ≠ 0 → a.spot = none) (h1 : ∀ u ∈ news, u.oneCell' = true) (hno : no + m ≤ 1000000) (hS : St w0 ws w ro ((bm, .cells #[.string fn, .int .i64 fb, .int .i64 fp, fv, .int .i64 mn, .int .i64 fr, .string cn, vo, vr, vs, vj] 64 (0, 0)) :: L) (⟨vo, 36, 5, no, co⟩ :: Rs)) : Ret Tryd.prog 24 #[.pointer (some ⟨bm, 0, none⟩), .slice ad m c] w fun v w' => v = .tuple #[] ∧ ∃ vo2, St w0 ws w' ro ((bm, .cells #[.string fn, .int .i64 fb, .int .i64 fp, fv, .int .i64 mn, .int .i64 fr, .string cn, vo2, vr, vs, vj] 64 (0, 0)) :: L) (⟨vo2, 36, 5, no + m, co ++ news⟩ :: Rs) := by
 refine Ret.enter (P := Tryd.prog) (n := 15) (args := [.pointer (some ⟨bm, 0, none⟩), .slice ad m c]) (σ := [(0, .pointer (some ⟨bm, 0, none⟩)), (1, .slice ad m c)]) Tryd.func24 rfl rfl rfl rfl ?_
 refine W.region (WL.move rfl rfl rfl (WL.move rfl rfl rfl (WL.nilPtr rfl rfl rfl (WL.fieldAddr fo_64_3 rfl rfl rfl (WL.fieldAddr fo_30_1 rfl rfl rfl (WL.load1 (v := vo) one_27 rfl rfl rfl (hS.cell 0 rfl rfl) (WL.move rfl rfl rfl ?_)))))))
 refine WL.appendRo (r := ⟨vo, 36, 5, no, co⟩) (news := news) 40 Tryd.underlying27 (tyZero_spec zer_36) byt_36 rfl rfl rfl rfl rfl hl hnil hcs hspot h1 rfl rfl hS (by simp only; unfold maxLen; omega) (by simp only; omega) ?_
 clear hS; intro w1 v2 hS hnn
 have hrow : w1.ownsRow w0.heap.size 36 5 v2 (no + m) _ := hS.rows _ List.mem_cons_self
 obtain ⟨av2, cv2, rfl, hc1, hc2, hc3⟩ := row_shape hrow
 clear hrow
 refine WL.nilPtr rfl rfl rfl (WL.fieldAddr fo_64_3 rfl rfl rfl (WL.fieldAddr fo_30_1 rfl rfl rfl ?_))
 refine WL.store0 #[.string fn, .int .i64 fb, .int .i64 fp, fv, .int .i64 mn, .int .i64 fr, .string cn, .slice av2 (no + m) cv2, vr, vs, vj] rfl rfl rfl rfl siz_27 rfl rfl rfl hS ?_
 clear hS; intro w3 hS
 refine WL.nil ?_
 refine Fin.end0 rfl ?_
 exact ⟨rfl, _, hS⟩

set_option maxRecDepth 10000 in
set_option maxHeartbeats 4000000 in
theorem load_ret {w0 ws w : World} {ro : Nat → Prop} {L : List (Nat × Obj)} {Rs : List Row} {bm : Nat} {fn cn : ByteArray} {fb fp mn fr : Int} {fv vo vr vs vj : Value} {no : Nat} {co : List Value} (r s : Int) (hs : -1000000 ≤ s ∧ s ≤ 1000000) (hno : no + 1 ≤ 1000000) (hS : St w0 ws w ro ((bm, .cells #[.string fn, .int .i64 fb, .int .i64 fp, fv, .int .i64 mn, .int .i64 fr, .string cn, vo, vr, vs, vj] 64 (0, 0)) :: L) (⟨vo, 36, 5, no, co⟩ :: Rs)) : Ret Tryd.prog 48 #[.pointer (some ⟨bm, 0, none⟩), .int .i64 r, .int .i64 s] w fun v w' => v = .tuple #[] ∧ ∃ vo2, St w0 ws w' ro ((bm, .cells #[.string fn, .int .i64 fb, .int .i64 fp, fv, .int .i64 mn, .int .i64 fr, .string cn, vo2, vr, vs, vj] 64 (0, 0)) :: L) (⟨vo2, 36, 5, no + 1, co ++ oCells [ld r s]⟩ :: Rs) := by
 refine Ret.enter (P := Tryd.prog) (n := 14) (args := [.pointer (some ⟨bm, 0, none⟩), .int .i64 r, .int .i64 s]) (σ := [(0, .pointer (some ⟨bm, 0, none⟩)), (1, .int .i64 r), (2, .int .i64 s)]) Tryd.func48 rfl rfl rfl rfl ?_
 refine W.region (WL.move rfl rfl rfl (WL.move rfl rfl rfl (WL.move rfl rfl rfl ?_)))
 refine WL.mul (c := 8 * s) rfl rfl rfl rfl (rfl) (by omega) ?_
 refine WL.add (c := 8 + (8 * s)) rfl rfl rfl rfl (rfl) (by omega) ?_
 refine WL.build (ps := [(0, .int .i64 19), (1, .int .i64 r), (2, .int .i64 2), (4, .int .i64 (8 + (8 * s)))]) (cs := [.int .i64 19, .int .i64 r, .int .i64 2, .int .i64 0, .int .i64 (8 + (8 * s))]) rfl rfl rfl (by kernel_rfl) ?_
 refine WL.buildSlice (ps := [(0, .agg #[.int .i64 19, .int .i64 r, .int .i64 2, .int .i64 0, .int .i64 (8 + (8 * s))])]) (cs := [.int .i64 19, .int .i64 r, .int .i64 2, .int .i64 0, .int .i64 (8 + (8 * s))]) Tryd.underlying27 (tyZero_spec zer_36) rfl rfl rfl rfl (by kernel_rfl) hS ?_
 clear hS; intro w2 b1 hb_b1 hS
 replace hS := hS.perm ((List.Perm.swap _ _ _))
 refine WL.callF (vs := [.pointer (some ⟨bm, 0, none⟩), .slice (some ⟨b1, 0, none⟩) 1 1]) Tryd.func24 (by kernel_rfl) rfl rfl rfl (put_ret (some ⟨b1, 0, none⟩) 1 1 [.int .i64 19, .int .i64 r, .int .i64 2, .int .i64 0, .int .i64 (8 + (8 * s))] rfl (fun e => by cases e) (fun b off e => by cases e; exact hS.cells 1 (m := 5) rfl rfl) (fun a e _ => by cases e; rfl) (by intro u hu; simp only [List.mem_cons, List.not_mem_nil, or_false] at hu; rcases hu with rfl | rfl | rfl | rfl | rfl <;> rfl) (by omega) hS) ?_
 clear hS; rintro v w3 ⟨rfl, vo4, hS⟩
 replace hS := hS.perm ((List.Perm.swap _ _ _))
 replace hS := hS.dropN 1
 refine WL.nil ?_
 refine Fin.end0 rfl ?_
 exact ⟨rfl, _, by rw [oCells_one]; exact hS⟩

set_option maxRecDepth 10000 in
set_option maxHeartbeats 4000000 in
theorem save_ret {w0 ws w : World} {ro : Nat → Prop} {L : List (Nat × Obj)} {Rs : List Row} {bm : Nat} {fn cn : ByteArray} {fb fp mn fr : Int} {fv vo vr vs vj : Value} {no : Nat} {co : List Value} (r s : Int) (hs : -1000000 ≤ s ∧ s ≤ 1000000) (hno : no + 1 ≤ 1000000) (hS : St w0 ws w ro ((bm, .cells #[.string fn, .int .i64 fb, .int .i64 fp, fv, .int .i64 mn, .int .i64 fr, .string cn, vo, vr, vs, vj] 64 (0, 0)) :: L) (⟨vo, 36, 5, no, co⟩ :: Rs)) : Ret Tryd.prog 25 #[.pointer (some ⟨bm, 0, none⟩), .int .i64 r, .int .i64 s] w fun v w' => v = .tuple #[] ∧ ∃ vo2, St w0 ws w' ro ((bm, .cells #[.string fn, .int .i64 fb, .int .i64 fp, fv, .int .i64 mn, .int .i64 fr, .string cn, vo2, vr, vs, vj] 64 (0, 0)) :: L) (⟨vo2, 36, 5, no + 1, co ++ oCells [sv r s]⟩ :: Rs) := by
 refine Ret.enter (P := Tryd.prog) (n := 14) (args := [.pointer (some ⟨bm, 0, none⟩), .int .i64 r, .int .i64 s]) (σ := [(0, .pointer (some ⟨bm, 0, none⟩)), (1, .int .i64 r), (2, .int .i64 s)]) Tryd.func25 rfl rfl rfl rfl ?_
 refine W.region (WL.move rfl rfl rfl (WL.move rfl rfl rfl (WL.move rfl rfl rfl ?_)))
 refine WL.mul (c := 8 * s) rfl rfl rfl rfl (rfl) (by omega) ?_
 refine WL.add (c := 8 + (8 * s)) rfl rfl rfl rfl (rfl) (by omega) ?_
 refine WL.build (ps := [(0, .int .i64 21), (2, .int .i64 2), (3, .int .i64 r), (4, .int .i64 (8 + (8 * s)))]) (cs := [.int .i64 21, .int .i64 0, .int .i64 2, .int .i64 r, .int .i64 (8 + (8 * s))]) rfl rfl rfl (by kernel_rfl) ?_
 refine WL.buildSlice (ps := [(0, .agg #[.int .i64 21, .int .i64 0, .int .i64 2, .int .i64 r, .int .i64 (8 + (8 * s))])]) (cs := [.int .i64 21, .int .i64 0, .int .i64 2, .int .i64 r, .int .i64 (8 + (8 * s))]) Tryd.underlying27 (tyZero_spec zer_36) rfl rfl rfl rfl (by kernel_rfl) hS ?_
 clear hS; intro w2 b1 hb_b1 hS
 replace hS := hS.perm ((List.Perm.swap _ _ _))
 refine WL.callF (vs := [.pointer (some ⟨bm, 0, none⟩), .slice (some ⟨b1, 0, none⟩) 1 1]) Tryd.func24 (by kernel_rfl) rfl rfl rfl (put_ret (some ⟨b1, 0, none⟩) 1 1 [.int .i64 21, .int .i64 0, .int .i64 2, .int .i64 r, .int .i64 (8 + (8 * s))] rfl (fun e => by cases e) (fun b off e => by cases e; exact hS.cells 1 (m := 5) rfl rfl) (fun a e _ => by cases e; rfl) (by intro u hu; simp only [List.mem_cons, List.not_mem_nil, or_false] at hu; rcases hu with rfl | rfl | rfl | rfl | rfl <;> rfl) (by omega) hS) ?_
 clear hS; rintro v w3 ⟨rfl, vo4, hS⟩
 replace hS := hS.perm ((List.Perm.swap _ _ _))
 replace hS := hS.dropN 1
 refine WL.nil ?_
 refine Fin.end0 rfl ?_
 exact ⟨rfl, _, by rw [oCells_one]; exact hS⟩

set_option maxRecDepth 10000 in
set_option maxHeartbeats 4000000 in
theorem rel_ret {w0 ws w : World} {ro : Nat → Prop} {L : List (Nat × Obj)} {Rs : List Row} {bm : Nat} {fn cn : ByteArray} {fb fp mn fr : Int} {fv vo vr vs vj : Value} {no : Nat} {co : List Value} {nr : Nat} {cr : List Value} (k : Int) (nm : ByteArray) (x : DOp) (hno : no + 1 ≤ 1000000) (hnr : nr + 1 ≤ 1000000) (hS : St w0 ws w ro ((bm, .cells #[.string fn, .int .i64 fb, .int .i64 fp, fv, .int .i64 mn, .int .i64 fr, .string cn, vo, vr, vs, vj] 64 (0, 0)) :: L) (⟨vo, 36, 5, no, co⟩ :: ⟨vr, 34, 3, nr, cr⟩ :: Rs)) : Ret Tryd.prog 47 #[.pointer (some ⟨bm, 0, none⟩), .int .i64 k, .string nm, .agg #[.int .i64 x.kind, .int .i64 x.rd, .int .i64 x.a, .int .i64 x.b, .int .i64 x.imm]] w fun v w' => v = .tuple #[] ∧ ∃ vo2 vr2, St w0 ws w' ro ((bm, .cells #[.string fn, .int .i64 fb, .int .i64 fp, fv, .int .i64 mn, .int .i64 fr, .string cn, vo2, vr2, vs, vj] 64 (0, 0)) :: L) (⟨vo2, 36, 5, no + 1, co ++ oCells [x]⟩ :: ⟨vr2, 34, 3, nr + 1, cr ++ relL ⟨(no : Int), k, nm⟩⟩ :: Rs) := by
 refine Ret.enter (P := Tryd.prog) (n := 32) (args := [.pointer (some ⟨bm, 0, none⟩), .int .i64 k, .string nm, .agg #[.int .i64 x.kind, .int .i64 x.rd, .int .i64 x.a, .int .i64 x.b, .int .i64 x.imm]]) (σ := [(0, .pointer (some ⟨bm, 0, none⟩)), (1, .int .i64 k), (2, .string nm), (3, .agg #[.int .i64 x.kind, .int .i64 x.rd, .int .i64 x.a, .int .i64 x.b, .int .i64 x.imm])]) Tryd.func47 rfl rfl rfl rfl ?_
 have hrow : w.ownsRow w0.heap.size 36 5 vo (no) _ := hS.rows _ List.mem_cons_self
 obtain ⟨advo, capvo, rfl, hr1vo, hr2vo, hr3vo⟩ := row_shape hrow
 clear hrow
 have hrow : w.ownsRow w0.heap.size 34 3 vr (nr) _ := hS.rows _ (List.mem_cons_of_mem _ List.mem_cons_self)
 obtain ⟨advr, capvr, rfl, hr1vr, hr2vr, hr3vr⟩ := row_shape hrow
 clear hrow
 refine W.seq (W.region ?_)
 refine WL.box (v := .agg #[.int .i64 x.kind, .int .i64 x.rd, .int .i64 x.a, .int .i64 x.b, .int .i64 x.imm]) (cs := [.int .i64 x.kind, .int .i64 x.rd, .int .i64 x.a, .int .i64 x.b, .int .i64 x.imm]) rfl rfl rfl rfl hS ?_
 clear hS; intro w2 b1 hb_b1 hS
 refine WL.nil (N.seq (W.seq ?_))
 refine W.drawA0 (S := fun u => True) (by kernel_rfl) (fun w3 hbd => ?_)
 replace hS := hS.grow hbd
 refine WA.conv (fuel' := 20 + 1) (listed' := (lb 21 0)) (by kernel_rfl) (by kernel_rfl) (WA.take 0 (v := .pointer (some ⟨bm, 0, none⟩)) rfl rfl (by kernel_rfl) (by kernel_rfl) (by kernel_rfl) (fin_no_panic _) rfl (exec_move rfl) trivial ?_)
 refine WA.conv (fuel' := 15 + 5) (listed' := (lb 21 1)) (by kernel_rfl) (by kernel_rfl) (WA.phaseI [(1, (fun v _ => v = .pointer (some ⟨bm, 0, none⟩))), (2, (fun v _ => v = .pointer (some ⟨bm, 0, none⟩))), (3, (fun v _ => v = .pointer (some ⟨bm, 6, none⟩))), (4, (fun v _ => v = .pointer (some ⟨bm, 8, none⟩))), (5, (fun v _ => v = .slice advr nr capvr)), (6, (fun v _ => v = .pointer (some ⟨bm, 0, none⟩))), (7, (fun v _ => v = .pointer (some ⟨bm, 0, none⟩))), (8, (fun v _ => v = .pointer (some ⟨bm, 6, none⟩))), (9, (fun v _ => v = .pointer (some ⟨bm, 7, none⟩))), (10, (fun v _ => v = .slice advo no capvo)), (11, (fun v _ => v = .int .i64 (no : Int))), (12, (fun v _ => v = .int .i64 k)), (13, (fun v _ => v = .string nm)), (14, (fun v _ => v = .agg #[.int .i64 (no : Int), .int .i64 k, .string nm])), (15, (fun v u => ∃ b, v = .slice (some ⟨b, 0, none⟩) 1 1 ∧ u.heap[b]? = some (.cells [.int .i64 (no : Int), .int .i64 k, .string nm].toArray 34 (0, 0))))] (by kernel_rfl) [(0, .pointer (some ⟨bm, 0, none⟩)), (1, .int .i64 k), (2, .string nm), (7, .pointer (some ⟨b1, 0, none⟩)), (8, .pointer (some ⟨bm, 0, none⟩))] ⟨rfl, rfl, rfl, rfl, rfl, trivial⟩ (by kernel_rfl) ⟨stays_eq, stays_eq, stays_eq, stays_eq, stays_eq, stays_eq, stays_eq, stays_eq, stays_eq, stays_eq, stays_eq, stays_eq, stays_eq, stays_eq, (fun v u u2 h hb => h.elim fun b h => ⟨b, h.1, (hb.block b (Array.getElem?_eq_some_iff.1 h.2).1).trans h.2⟩), trivial⟩ ?_ (fun _ _ => trivial) ?_)
 ·
  refine ⟨fun β wd hb hD => ⟨_, rfl, ?_⟩, ?_⟩
  ·
   have hS := hS.grow hb
   refine WL.move rfl rfl rfl ?_
   exact WL.nil (N.cut _ ⟨rfl, trivial⟩ ⟨(Below.refl _ _), rfl⟩)
  refine ⟨fun β wd hb hD => ⟨_, rfl, ?_⟩, ?_⟩
  ·
   obtain ⟨hp1, _⟩ := hD
   replace hp1 : β 1 = .pointer (some ⟨bm, 0, none⟩) := hp1
   refine WL.sub (σ' := [(9, .pointer (some ⟨bm, 0, none⟩))]) ⟨congrArg some hp1, trivial⟩ ?_
   have hS := hS.grow hb
   refine WL.nilPtr rfl rfl rfl ?_
   exact WL.nil (N.cut _ ⟨rfl, trivial⟩ ⟨(Below.refl _ _), rfl⟩)
  refine ⟨fun β wd hb hD => ⟨_, rfl, ?_⟩, ?_⟩
  ·
   obtain ⟨hp2, _⟩ := hD
   replace hp2 : β 2 = .pointer (some ⟨bm, 0, none⟩) := hp2
   refine WL.sub (σ' := [(10, .pointer (some ⟨bm, 0, none⟩))]) ⟨congrArg some hp2, trivial⟩ ?_
   have hS := hS.grow hb
   refine WL.fieldAddr fo_64_3 rfl rfl rfl ?_
   exact WL.nil (N.cut _ ⟨rfl, trivial⟩ ⟨(Below.refl _ _), rfl⟩)
  refine ⟨fun β wd hb hD => ⟨_, rfl, ?_⟩, ?_⟩
  ·
   obtain ⟨hp3, _⟩ := hD
   replace hp3 : β 3 = .pointer (some ⟨bm, 6, none⟩) := hp3
   refine WL.sub (σ' := [(11, .pointer (some ⟨bm, 6, none⟩))]) ⟨congrArg some hp3, trivial⟩ ?_
   have hS := hS.grow hb
   refine WL.fieldAddr fo_30_2 rfl rfl rfl ?_
   exact WL.nil (N.cut _ ⟨rfl, trivial⟩ ⟨(Below.refl _ _), rfl⟩)
  refine ⟨fun β wd hb hD => ⟨_, rfl, ?_⟩, ?_⟩
  ·
   obtain ⟨hp4, _⟩ := hD
   replace hp4 : β 4 = .pointer (some ⟨bm, 8, none⟩) := hp4
   refine WL.sub (σ' := [(12, .pointer (some ⟨bm, 8, none⟩))]) ⟨congrArg some hp4, trivial⟩ ?_
   have hS := hS.grow hb
   refine WL.load1 (v := .slice advr nr capvr) one_28 rfl rfl rfl (hS.cell 1 rfl rfl) ?_
   exact WL.nil (N.cut _ ⟨rfl, trivial⟩ ⟨(Below.refl _ _), rfl⟩)
  refine ⟨fun β wd hb hD => ⟨_, rfl, ?_⟩, ?_⟩
  ·
   have hS := hS.grow hb
   refine WL.move rfl rfl rfl ?_
   exact WL.nil (N.cut _ ⟨rfl, trivial⟩ ⟨(Below.refl _ _), rfl⟩)
  refine ⟨fun β wd hb hD => ⟨_, rfl, ?_⟩, ?_⟩
  ·
   obtain ⟨hp6, _⟩ := hD
   replace hp6 : β 6 = .pointer (some ⟨bm, 0, none⟩) := hp6
   refine WL.sub (σ' := [(14, .pointer (some ⟨bm, 0, none⟩))]) ⟨congrArg some hp6, trivial⟩ ?_
   have hS := hS.grow hb
   refine WL.nilPtr rfl rfl rfl ?_
   exact WL.nil (N.cut _ ⟨rfl, trivial⟩ ⟨(Below.refl _ _), rfl⟩)
  refine ⟨fun β wd hb hD => ⟨_, rfl, ?_⟩, ?_⟩
  ·
   obtain ⟨hp7, _⟩ := hD
   replace hp7 : β 7 = .pointer (some ⟨bm, 0, none⟩) := hp7
   refine WL.sub (σ' := [(15, .pointer (some ⟨bm, 0, none⟩))]) ⟨congrArg some hp7, trivial⟩ ?_
   have hS := hS.grow hb
   refine WL.fieldAddr fo_64_3 rfl rfl rfl ?_
   exact WL.nil (N.cut _ ⟨rfl, trivial⟩ ⟨(Below.refl _ _), rfl⟩)
  refine ⟨fun β wd hb hD => ⟨_, rfl, ?_⟩, ?_⟩
  ·
   obtain ⟨hp8, _⟩ := hD
   replace hp8 : β 8 = .pointer (some ⟨bm, 6, none⟩) := hp8
   refine WL.sub (σ' := [(16, .pointer (some ⟨bm, 6, none⟩))]) ⟨congrArg some hp8, trivial⟩ ?_
   have hS := hS.grow hb
   refine WL.fieldAddr fo_30_1 rfl rfl rfl ?_
   exact WL.nil (N.cut _ ⟨rfl, trivial⟩ ⟨(Below.refl _ _), rfl⟩)
  refine ⟨fun β wd hb hD => ⟨_, rfl, ?_⟩, ?_⟩
  ·
   obtain ⟨hp9, _⟩ := hD
   replace hp9 : β 9 = .pointer (some ⟨bm, 7, none⟩) := hp9
   refine WL.sub (σ' := [(17, .pointer (some ⟨bm, 7, none⟩))]) ⟨congrArg some hp9, trivial⟩ ?_
   have hS := hS.grow hb
   refine WL.load1 (v := .slice advo no capvo) one_27 rfl rfl rfl (hS.cell 1 rfl rfl) ?_
   exact WL.nil (N.cut _ ⟨rfl, trivial⟩ ⟨(Below.refl _ _), rfl⟩)
  refine ⟨fun β wd hb hD => ⟨_, rfl, ?_⟩, ?_⟩
  ·
   obtain ⟨hp10, _⟩ := hD
   replace hp10 : β 10 = .slice advo no capvo := hp10
   refine WL.sub (σ' := [(18, .slice advo no capvo)]) ⟨congrArg some hp10, trivial⟩ ?_
   have hS := hS.grow hb
   refine WL.lenSlice Tryd.underlying27 rfl rfl rfl ?_
   exact WL.nil (N.cut _ ⟨rfl, trivial⟩ ⟨(Below.refl _ _), rfl⟩)
  refine ⟨fun β wd hb hD => ⟨_, rfl, ?_⟩, ?_⟩
  ·
   have hS := hS.grow hb
   refine WL.move rfl rfl rfl ?_
   exact WL.nil (N.cut _ ⟨rfl, trivial⟩ ⟨(Below.refl _ _), rfl⟩)
  refine ⟨fun β wd hb hD => ⟨_, rfl, ?_⟩, ?_⟩
  ·
   have hS := hS.grow hb
   refine WL.move rfl rfl rfl ?_
   exact WL.nil (N.cut _ ⟨rfl, trivial⟩ ⟨(Below.refl _ _), rfl⟩)
  refine ⟨fun β wd hb hD => ⟨_, rfl, ?_⟩, ?_⟩
  ·
   obtain ⟨hp11, hp12, hp13, _⟩ := hD
   replace hp11 : β 11 = .int .i64 (no : Int) := hp11
   replace hp12 : β 12 = .int .i64 k := hp12
   replace hp13 : β 13 = .string nm := hp13
   refine WL.sub (σ' := [(19, .int .i64 (no : Int)), (20, .int .i64 k), (21, .string nm)]) ⟨congrArg some hp11, congrArg some hp12, congrArg some hp13, trivial⟩ ?_
   have hS := hS.grow hb
   refine WL.build (ps := [(0, .int .i64 (no : Int)), (1, .int .i64 k), (2, .string nm)]) (cs := [.int .i64 (no : Int), .int .i64 k, .string nm]) rfl rfl rfl (by kernel_rfl) ?_
   exact WL.nil (N.cut _ ⟨rfl, trivial⟩ ⟨(Below.refl _ _), rfl⟩)
  refine ⟨fun β wd hb hD => ⟨_, rfl, ?_⟩, ?_⟩
  ·
   obtain ⟨hp14, _⟩ := hD
   replace hp14 : β 14 = .agg #[.int .i64 (no : Int), .int .i64 k, .string nm] := hp14
   refine WL.sub (σ' := [(22, .agg #[.int .i64 (no : Int), .int .i64 k, .string nm])]) ⟨congrArg some hp14, trivial⟩ ?_
   have hS := hS.grow hb
   have hX := St.start (w := wd) (ro := fun z => z < wd.heap.size) (fun _ h => h)
   refine WL.buildSlice (ps := [(0, .agg #[.int .i64 (no : Int), .int .i64 k, .string nm])]) (cs := [.int .i64 (no : Int), .int .i64 k, .string nm]) Tryd.underlying28 (tyZero_spec zer_34) rfl rfl rfl rfl (by kernel_rfl) hX ?_
   clear hX; intro w5 b4 hb_b4 hX
   exact WL.nil (N.cut _ ⟨rfl, trivial⟩ ⟨hX.below, ⟨_, rfl, hX.own _ List.mem_cons_self⟩⟩)
  trivial
 intro β w6 hb hD
 obtain ⟨hp1, hp2, hp3, hp4, hp5, hp6, hp7, hp8, hp9, hp10, hp11, hp12, hp13, hp14, hp15, _⟩ := hD
 refine WA.sub (σ' := [(0, .pointer (some ⟨bm, 0, none⟩)), (7, .pointer (some ⟨b1, 0, none⟩)), (8, .pointer (some ⟨bm, 0, none⟩)), (13, .slice advr nr capvr), (23, (β 15))]) ⟨rfl, rfl, rfl, congrArg some (show β 5 = .slice advr nr capvr from hp5), rfl, trivial⟩ ?_
 have hSd := hS
 replace hS := hS.grow hb
 replace hp15 : (fun v u => ∃ b, v = .slice (some ⟨b, 0, none⟩) 1 1 ∧ u.heap[b]? = some (.cells [.int .i64 (no : Int), .int .i64 k, .string nm].toArray 34 (0, 0))) (β 15) w6 := hp15
 generalize β 15 = z15 at hp15 ⊢
 refine WA.conv (fuel' := 4 + 1) (listed' := (lb 21 65535)) (by kernel_rfl) (by kernel_rfl) (WA.stepS 16 (by kernel_rfl) rfl ?_)
 obtain ⟨bq15, rfl, hbq15⟩ := hp15
 have hcq15 := cellsAt_block hbq15
 replace hS := hS.permR ((List.Perm.swap _ _ _))
 refine WL.appendRo (r := ⟨.slice advr nr capvr, 34, 3, nr, cr⟩) (news := [.int .i64 (no : Int), .int .i64 k, .string nm]) 32 Tryd.underlying28 (tyZero_spec zer_34) byt_34 rfl rfl rfl rfl rfl rfl (fun e => by cases e) (fun b off e => by cases e; exact hcq15) (fun a e _ => by cases e; rfl) ?_ rfl rfl hS (by simp only; unfold maxLen; omega) (by simp only; omega) ?_
 ·
  intro u hu; simp only [List.mem_cons, List.not_mem_nil, or_false] at hu; rcases hu with rfl | rfl | rfl <;> rfl
 clear hS; intro w7 v8 hS hnn
 have hrow : w7.ownsRow w0.heap.size 34 3 v8 (nr + 1) _ := hS.rows _ List.mem_cons_self
 obtain ⟨av8, cv8, rfl, hc1_v8, hc2_v8, hc3_v8⟩ := row_shape hrow
 clear hrow
 refine WL.nil (N.restS trivial ?_)
 refine WA.conv (fuel' := 3 + 1) (listed' := (lb 21 131071)) (by kernel_rfl) (by kernel_rfl) (WA.stepS 17 (by kernel_rfl) rfl ?_)
 refine WL.nilPtr rfl rfl rfl ?_
 refine WL.nil (N.restS trivial ?_)
 refine WA.conv (fuel' := 2 + 1) (listed' := (lb 21 262143)) (by kernel_rfl) (by kernel_rfl) (WA.stepS 18 (by kernel_rfl) rfl ?_)
 refine WL.fieldAddr fo_64_3 rfl rfl rfl ?_
 refine WL.nil (N.restS trivial ?_)
 refine WA.conv (fuel' := 1 + 1) (listed' := (lb 21 524287)) (by kernel_rfl) (by kernel_rfl) (WA.stepS 19 (by kernel_rfl) rfl ?_)
 refine WL.fieldAddr fo_30_2 rfl rfl rfl ?_
 refine WL.nil (N.restS trivial ?_)
 refine WA.conv (fuel' := 0 + 1) (listed' := (lb 21 1048575)) (by kernel_rfl) (by kernel_rfl) (WA.stepS 20 (by kernel_rfl) rfl ?_)
 refine WL.store1 #[.string fn, .int .i64 fb, .int .i64 fp, fv, .int .i64 mn, .int .i64 fr, .string cn, .slice advo no capvo, .slice av8 (nr + 1) cv8, vs, vj] rfl rfl rfl rfl siz_28 rfl rfl rfl hS ?_
 clear hS; intro w9 hS
 refine WL.nil (N.restS trivial ?_)
 refine WA.doneN (by kernel_rfl) ?_
 refine N.seq (W.region (WL.move rfl rfl rfl (WL.loadN (cs := [.int .i64 x.kind, .int .i64 x.rd, .int .i64 x.a, .int .i64 x.b, .int .i64 x.imm]) agg_36 rfl rfl rfl rfl (hS.cells 0 (m := 5) rfl rfl) ?_)))
 refine WL.buildSlice (ps := [(0, .agg #[.int .i64 x.kind, .int .i64 x.rd, .int .i64 x.a, .int .i64 x.b, .int .i64 x.imm])]) (cs := [.int .i64 x.kind, .int .i64 x.rd, .int .i64 x.a, .int .i64 x.b, .int .i64 x.imm]) Tryd.underlying27 (tyZero_spec zer_36) rfl rfl rfl rfl (by kernel_rfl) hS ?_
 clear hS; intro w11 b10 hb_b10 hS
 replace hS := hS.perm (((List.Perm.cons _ (List.Perm.swap _ _ _))).trans ((List.Perm.swap _ _ _)))
 replace hS := hS.permR ((List.Perm.swap _ _ _))
 refine WL.callF (vs := [.pointer (some ⟨bm, 0, none⟩), .slice (some ⟨b10, 0, none⟩) 1 1]) Tryd.func24 (by kernel_rfl) rfl rfl rfl (put_ret (some ⟨b10, 0, none⟩) 1 1 [.int .i64 x.kind, .int .i64 x.rd, .int .i64 x.a, .int .i64 x.b, .int .i64 x.imm] rfl (fun e => by cases e) (fun b off e => by cases e; exact hS.cells 1 (m := 5) rfl rfl) (fun a e _ => by cases e; rfl) (by intro u hu; simp only [List.mem_cons, List.not_mem_nil, or_false] at hu; rcases hu with rfl | rfl | rfl | rfl | rfl <;> rfl) (by omega) hS) ?_
 clear hS; rintro v w12 ⟨rfl, vo13, hS⟩
 replace hS := hS.perm (((List.Perm.swap _ _ _)).trans ((List.Perm.cons _ (List.Perm.swap _ _ _))))
 replace hS := hS.dropN 2
 refine WL.nil ?_
 refine Fin.end0 rfl ?_
 exact ⟨rfl, _, _, by rw [oCells_one]; exact hS⟩

end Go.Proofs.YtcmmhfknkldmcaaDoor
