/-
  Contracts of layer 17 (gen). No condition beyond those that each theorem states.
-/
import Derived.Test.YtcmmhfknkldmcaaDoorG4
namespace Go.Proofs.YtcmmhfknkldmcaaDoor
open Go.RowKit
theorem fo_36_4 : fOff Tryd.prog 36 4 4 = true := by kernel_rfl
theorem fo_64_4 : fOff Tryd.prog 64 4 9 = true := by kernel_rfl
theorem isz_36 : (Tryd.prog.info? 36).map (·.size) = some 5 := by kernel_rfl
theorem one_96 : tyOne Tryd.prog 96 = true := by kernel_rfl
theorem oCells_chunks {l : List DOp} (h : ∀ x ∈ l, okOp x) : Chunks 5 OpC (oCells l) l := Chunks.flat (f := opL) (fun _ => rfl) l fun x hx => ⟨rfl, h x hx⟩
theorem opL_len (x : DOp) : (opL x).length = 5 := rfl
theorem oCells_len (l : List DOp) : (oCells l).length = l.length * 5 := by
  unfold oCells
  induction l with
  | nil => rfl
  | cons x l ih => rw [List.map_cons, List.flatten_cons, List.length_append, ih, opL_len, List.length_cons]; omega
theorem oCells_get {l : List DOp} {i : Nat} {x : DOp} (h : l[i]? = some x) (j : Nat) (hj : j < 5) : (oCells l)[i * 5 + j]? = (opL x)[j]? := flat_get (f := opL) (sz := 5) (fun _ => rfl) l i x h j hj
def setImm (l : List DOp) (i : Nat) (z : Int) : List DOp := l.modify i fun x => { x with imm := z }
theorem oCells_setImm {l : List DOp} {i : Nat} {z : Int} (h : i < l.length) : (oCells l).take (0 + i * 5 + 4) ++ [.int .i64 z] ++ (oCells l).drop (0 + i * 5 + 4 + 1) = oCells (setImm l i z) := by
  rw [Nat.zero_add]
  apply List.ext_getElem?
  intro j
  have hl := oCells_len l
  have hl2 : (oCells (setImm l i z)).length = l.length * 5 := by rw [oCells_len]; simp [setImm]
  have hib : i * 5 + 5 ≤ l.length * 5 := by omega
  by_cases hj : j < l.length * 5
  · obtain ⟨q, r, hr, rfl⟩ : ∃ q r, r < 5 ∧ j = q * 5 + r := ⟨j / 5, j % 5, Nat.mod_lt _ (by decide), by omega⟩
    have hq : q < l.length := by omega
    have hx : l[q]? = some l[q] := List.getElem?_eq_getElem hq
    have hy : (setImm l i z)[q]? = some (if i = q then { l[q] with imm := z } else l[q]) := by
      unfold setImm; rw [List.getElem?_modify, hx]; split <;> rfl
    rw [oCells_get hy r hr]
    have hold := oCells_get hx r hr
    simp only [List.getElem?_append, List.length_append, List.length_take, List.length_cons, List.length_nil, List.getElem?_take, List.getElem?_drop]
    by_cases e1 : q * 5 + r < i * 5 + 4
    · rw [if_pos (by omega), if_pos (by omega), if_pos e1, hold]
      by_cases e2 : i = q
      · subst e2
        rw [if_pos rfl]
        have : r < 4 := by omega
        match r, this with
        | 0, _ => rfl
        | 1, _ => rfl
        | 2, _ => rfl
        | 3, _ => rfl
      · rw [if_neg e2]
    · by_cases e2 : q * 5 + r = i * 5 + 4
      · have e3 : i = q := by omega
        have e4 : r = 4 := by omega
        subst e3; subst e4
        rw [if_pos (by omega), if_neg (by omega), if_pos rfl, show i * 5 + 4 - min (i * 5 + 4) (oCells l).length = 0 by omega]
        rfl
      · rw [if_neg (by omega), show i * 5 + 4 + 1 + (q * 5 + r - (min (i * 5 + 4) (oCells l).length + (0 + 1))) = q * 5 + r by omega, hold, if_neg (by omega)]
  · rw [List.getElem?_eq_none (by simp only [List.length_append, List.length_take, List.length_drop, List.length_cons, List.length_nil]; omega), List.getElem?_eq_none (by rw [hl2]; omega)]

theorem St.blkCells {w0 ws w : World} {ro : Nat → Prop} {L : List (Nat × Obj)} {Rs : List Row} (h : St w0 ws w ro L Rs) {b off m t : Nat} {c : Array Value} {fr : Nat × Nat} {cs : List Value} (hL : (b, Obj.cells c t fr) ∈ L) (hv : (c.toList.drop off).take m = cs) : CellsAt w b off cs := by
  obtain ⟨i, hi⟩ := List.mem_iff_getElem?.1 hL
  exact h.cells i hi hv
set_option maxRecDepth 10000 in
set_option maxHeartbeats 4000000 in
theorem end1_ret (bo : Nat) (z : Int) {w : World} {ro : Nat → Prop} (hro : ∀ b, ro b → b < w.heap.size) (hbo : ro bo) (hco : CellsAt w bo 0 [.int .i64 z]) : Ret Tryd.prog 50 #[.pointer (some ⟨bo, 0, none⟩)] w fun v w' => v = .int .i64 z ∧ Below w.heap.size w w' := by
 refine Ret.enter (P := Tryd.prog) (n := 3) (args := [.pointer (some ⟨bo, 0, none⟩)]) (σ := [(0, .pointer (some ⟨bo, 0, none⟩))]) Tryd.func50 rfl rfl rfl rfl ?_
 have hS := St.start (ro := ro) hro
 refine W.seq (W.region (WL.assign rfl rfl rfl (WL.nil (N.seq (W.seq (W.region (WL.load1 (v := .int .i64 z) one_3 rfl rfl rfl (hS.roCells hbo hco 0 _ rfl) (WL.assign rfl rfl rfl (WL.nil ?_)))))))))
 refine N.seq ?_
 refine Fin.ret1 rfl (v := .int .i64 z) rfl ?_
 exact ⟨rfl, hS.below⟩

set_option maxRecDepth 10000 in
set_option maxHeartbeats 4000000 in
theorem goes1_ret {bm : Nat} {fn cn : ByteArray} {fb fp mn fr : Int} {fv vo vr vs vj : Value} {starts : List Int} (b4 b6 kk : Nat) (z : Int) {w : World} {ro : Nat → Prop} (hro : ∀ b, ro b → b < w.heap.size) (hr4 : ro b4) (hr6 : ro b6) (hrm : ro bm) (hc4 : CellsAt w b4 0 [.pointer (some ⟨bm, 0, none⟩)]) (hc6 : CellsAt w b6 0 [.int .i64 (kk : Int)]) (hcm : CellsAt w bm 0 [.string fn, .int .i64 fb, .int .i64 fp, fv, .int .i64 mn, .int .i64 fr, .string cn, vo, vr, vs, vj]) (hvs : SlV ro w 1 RawC vs starts) (hk : starts[kk]? = some z) : Ret Tryd.prog 68 #[.pointer (some ⟨b4, 0, none⟩), .pointer (some ⟨b6, 0, none⟩)] w fun v w' => v = .int .i64 z ∧ Below w.heap.size w w' := by
 obtain ⟨ads, capss, rfl, hssa, hssb, hssc, hssd⟩ := id hvs
 have hssm : starts.length ≤ 9223372036854775807 := by have h1 := hssa; have h2 := hssb; unfold maxLen at h2; omega
 have hj1 : kk < starts.length := (List.getElem?_eq_some_iff.1 hk).1
 have hx1 := hk
 obtain ⟨b1, o1, cs1, hE1, hr1, hl1, hc1, hQ1⟩ := hssd kk _ hk
 cases hQ1
 have hkl : kk < starts.length := (List.getElem?_eq_some_iff.1 hk).1
 refine Ret.enter (P := Tryd.prog) (n := 10) (args := [.pointer (some ⟨b4, 0, none⟩), .pointer (some ⟨b6, 0, none⟩)]) (σ := [(0, .pointer (some ⟨b4, 0, none⟩)), (1, .pointer (some ⟨b6, 0, none⟩))]) Tryd.func68 rfl rfl rfl rfl ?_
 have hS := St.start (ro := ro) hro
 refine W.seq (W.region (WL.assign rfl rfl rfl (WL.nil (N.seq (W.seq ?_)))))
 refine W.drawL (by kernel_rfl) 7 ((.q (.pointer (some ⟨bm, 0, none⟩))) :: (.q (.pointer (some ⟨bm, 0, none⟩))) :: (.q (.pointer (some ⟨bm, 9, none⟩))) :: (.q (.slice ads starts.length capss)) :: (.q (.int .i64 (kk : Int))) :: (.q (.pointer (some ⟨b1, o1 + kk * 1, none⟩))) :: (.q (.int .i64 z)) :: []) (by kernel_rfl) (by kernel_rfl) [(0, .pointer (some ⟨b4, 0, none⟩)), (1, .pointer (some ⟨b6, 0, none⟩)), (2, .int .i64 0)] ⟨rfl, rfl, rfl, trivial⟩ (by kernel_rfl) hS ?_ ?_
 ·
  refine And.intro (fun β w hS => ?_) ?_
  ·
   refine WL.sub (σ' := [(0, .pointer (some ⟨b4, 0, none⟩))]) ⟨rfl, trivial⟩ ?_
   refine WL.load1 (v := .pointer (some ⟨bm, 0, none⟩)) one_61 rfl rfl rfl (hS.roCells hr4 hc4 0 _ rfl) ?_
   exact WL.nil (N.cut () ⟨rfl, trivial⟩ (Below.refl _ _))
  refine And.intro (fun β w hS => ?_) ?_
  ·
   refine WL.sub (σ' := [(3, .pointer (some ⟨bm, 0, none⟩))]) ⟨rfl, trivial⟩ ?_
   refine WL.nilPtr rfl rfl rfl ?_
   exact WL.nil (N.cut () ⟨rfl, trivial⟩ (Below.refl _ _))
  refine And.intro (fun β w hS => ?_) ?_
  ·
   refine WL.sub (σ' := [(4, .pointer (some ⟨bm, 0, none⟩))]) ⟨rfl, trivial⟩ ?_
   refine WL.fieldAddr fo_64_4 rfl rfl rfl ?_
   exact WL.nil (N.cut () ⟨rfl, trivial⟩ (Below.refl _ _))
  refine And.intro (fun β w hS => ?_) ?_
  ·
   refine WL.sub (σ' := [(5, .pointer (some ⟨bm, 9, none⟩))]) ⟨rfl, trivial⟩ ?_
   refine WL.load1 (v := .slice ads starts.length capss) one_55 rfl rfl rfl (hS.roCells hrm hcm 9 _ rfl) ?_
   exact WL.nil (N.cut () ⟨rfl, trivial⟩ (Below.refl _ _))
  refine And.intro (fun β w hS => ?_) ?_
  ·
   refine WL.sub (σ' := [(1, .pointer (some ⟨b6, 0, none⟩))]) ⟨rfl, trivial⟩ ?_
   refine WL.load1 (v := .int .i64 (kk : Int)) one_3 rfl rfl rfl (hS.roCells hr6 hc6 0 _ rfl) ?_
   exact WL.nil (N.cut () ⟨rfl, trivial⟩ (Below.refl _ _))
  refine And.intro (fun β w hS => ?_) ?_
  ·
   refine WL.sub (σ' := [(6, .slice ads starts.length capss), (7, .int .i64 (kk : Int))]) ⟨rfl, rfl, trivial⟩ ?_
   refine WL.indexAddrE (j := kk) Tryd.underlying55 isz_3 rfl rfl rfl rfl hj1 hE1 ?_
   exact WL.nil (N.cut () ⟨rfl, trivial⟩ (Below.refl _ _))
  refine And.intro (fun β w hS => ?_) ?_
  ·
   refine WL.sub (σ' := [(8, .pointer (some ⟨b1, o1 + kk * 1, none⟩))]) ⟨rfl, trivial⟩ ?_
   refine WL.load1 (v := .int .i64 z) one_3 rfl rfl rfl (hS.roCells hr1 hc1 0 _ rfl) ?_
   exact WL.nil (N.cut () ⟨rfl, trivial⟩ (Below.refl _ _))
  trivial
 clear hS; intro w2 β hS
 refine WL.sub (σ' := [(2, .int .i64 0), (9, .int .i64 z)]) ⟨rfl, rfl, trivial⟩ ?_
 refine WL.assign rfl rfl rfl (WL.nil (N.seq ?_))
 refine Fin.ret1 rfl (v := .int .i64 z) rfl ?_
 exact ⟨rfl, hS.below⟩

set_option maxRecDepth 10000 in
set_option maxHeartbeats 4000000 in
theorem jump1_ret {w0 ws w : World} {ro : Nat → Prop} {LL : List (Nat × Obj)} {Rs : List Row} {bm : Nat} {fn cn : ByteArray} {fb fp mn fr : Int} {fv vo vr vs vj : Value} {no : Nat} {l : List DOp} {q : Nat} {fnq : Func} {caps : Array Value} (bT bA bW at_ : Nat) (z : Int) (hbT : (bT, Obj.cells #[.func (.func q) #[] caps] 96 (0, 0)) ∈ LL) (hbA : (bA, Obj.cells #[.int .i64 (at_ : Int)] 3 (0, 0)) ∈ LL) (hbW : (bW, Obj.cells #[.pointer (some ⟨bm, 0, none⟩)] 61 (0, 0)) ∈ LL) (hbm : (bm, Obj.cells #[.string fn, .int .i64 fb, .int .i64 fp, fv, .int .i64 mn, .int .i64 fr, .string cn, vo, vr, vs, vj] 64 (0, 0)) ∈ LL) (hno : no = l.length) (hat : at_ < l.length) (hnl : no ≤ 1000000) (hzb : 0 ≤ z ∧ z ≤ 1000000) (hS : St w0 ws w ro LL (⟨vo, 36, 5, no, (oCells l)⟩ :: Rs)) (hfq : Tryd.prog.funcs[q]? = some fnq) (hbq : (fnq.body.isSome && !(fnq.name == "runtime.NumGoroutine")) = true) (hto : ∀ u, St w0 ws u ro LL (⟨vo, 36, 5, no, (oCells l)⟩ :: Rs) → Ret Tryd.prog q caps u fun v u' => v = .int .i64 z ∧ Below u.heap.size u u') : Ret Tryd.prog 66 #[.pointer (some ⟨bT, 0, none⟩), .pointer (some ⟨bA, 0, none⟩), .pointer (some ⟨bW, 0, none⟩)] w fun v w' => v = .tuple #[] ∧ St w0 ws w' ro LL (⟨vo, 36, 5, no, oCells (setImm l at_ (4 * (z - (at_ : Int))))⟩ :: Rs) := by
 refine Ret.enter (P := Tryd.prog) (n := 16) (args := [.pointer (some ⟨bT, 0, none⟩), .pointer (some ⟨bA, 0, none⟩), .pointer (some ⟨bW, 0, none⟩)]) (σ := [(0, .pointer (some ⟨bT, 0, none⟩)), (1, .pointer (some ⟨bA, 0, none⟩)), (2, .pointer (some ⟨bW, 0, none⟩))]) Tryd.func66 rfl rfl rfl rfl ?_
 have hSz := hS
 have hrow : w.ownsRow w0.heap.size 36 5 vo (no) _ := hS.rows _ List.mem_cons_self
 obtain ⟨advo, capvo, rfl, hr1vo, hr2vo, hr3vo⟩ := row_shape hrow
 clear hrow
 obtain ⟨gq1, rfl⟩ : ∃ g, advo = some ⟨g, 0, none⟩ := row_some (hS.rows _ (List.mem_of_getElem? (i := 0) rfl)) (by omega)
 refine W.drawA0 (S := fun u => True) (by kernel_rfl) (fun w2 hbd => ?_)
 replace hS := hS.grow hbd
 refine WA.conv (fuel' := 13 + 1) (listed' := (lb 14 0)) (by kernel_rfl) (by kernel_rfl) (WA.phaseI [(0, (fun v _ => v = .pointer (some ⟨bm, 0, none⟩))), (1, (fun v _ => v = .pointer (some ⟨bm, 0, none⟩))), (2, (fun v _ => v = .pointer (some ⟨bm, 6, none⟩))), (3, (fun v _ => v = .pointer (some ⟨bm, 7, none⟩))), (4, (fun v _ => v = .slice (some ⟨gq1, 0, none⟩) no capvo)), (5, (fun v _ => v = .int .i64 (at_ : Int))), (6, (fun v _ => v = .func (.func q) #[] caps)), (7, (fun v _ => v = .int .i64 z)), (8, (fun v _ => v = .int .i64 (at_ : Int))), (9, (fun v _ => v = .int .i64 (z - (at_ : Int)))), (10, (fun v _ => v = .int .i64 (4 * (z - (at_ : Int))))), (11, (fun v _ => v = .pointer (some ⟨gq1, 0 + at_ * 5, none⟩))), (12, (fun v _ => v = .pointer (some ⟨gq1, 0 + at_ * 5 + 4, none⟩)))] (by kernel_rfl) [(0, .pointer (some ⟨bT, 0, none⟩)), (1, .pointer (some ⟨bA, 0, none⟩)), (2, .pointer (some ⟨bW, 0, none⟩))] ⟨rfl, rfl, rfl, trivial⟩ (by kernel_rfl) ⟨stays_eq, stays_eq, stays_eq, stays_eq, stays_eq, stays_eq, stays_eq, stays_eq, stays_eq, stays_eq, stays_eq, stays_eq, stays_eq, trivial⟩ ?_ (fun _ _ => trivial) ?_)
 ·
  refine ⟨fun β wd hb hD => ⟨_, rfl, ?_⟩, ?_⟩
  ·
   have hS := hS.grow hb
   refine WL.load1 (v := .pointer (some ⟨bm, 0, none⟩)) one_61 rfl rfl rfl ((hS.blkCells hbW (off := 0) (m := 1) rfl) 0 _ rfl) ?_
   exact WL.nil (N.cut _ ⟨rfl, trivial⟩ ⟨(Below.refl _ _), rfl⟩)
  refine ⟨fun β wd hb hD => ⟨_, rfl, ?_⟩, ?_⟩
  ·
   obtain ⟨hp0, _⟩ := hD
   replace hp0 : β 0 = .pointer (some ⟨bm, 0, none⟩) := hp0
   refine WL.sub (σ' := [(3, .pointer (some ⟨bm, 0, none⟩))]) ⟨congrArg some hp0, trivial⟩ ?_
   have hS := hS.grow hb
   refine WL.nilPtr rfl rfl rfl ?_
   exact WL.nil (N.cut _ ⟨rfl, trivial⟩ ⟨(Below.refl _ _), rfl⟩)
  refine ⟨fun β wd hb hD => ⟨_, rfl, ?_⟩, ?_⟩
  ·
   obtain ⟨hp1, _⟩ := hD
   replace hp1 : β 1 = .pointer (some ⟨bm, 0, none⟩) := hp1
   refine WL.sub (σ' := [(4, .pointer (some ⟨bm, 0, none⟩))]) ⟨congrArg some hp1, trivial⟩ ?_
   have hS := hS.grow hb
   refine WL.fieldAddr fo_64_3 rfl rfl rfl ?_
   exact WL.nil (N.cut _ ⟨rfl, trivial⟩ ⟨(Below.refl _ _), rfl⟩)
  refine ⟨fun β wd hb hD => ⟨_, rfl, ?_⟩, ?_⟩
  ·
   obtain ⟨hp2, _⟩ := hD
   replace hp2 : β 2 = .pointer (some ⟨bm, 6, none⟩) := hp2
   refine WL.sub (σ' := [(5, .pointer (some ⟨bm, 6, none⟩))]) ⟨congrArg some hp2, trivial⟩ ?_
   have hS := hS.grow hb
   refine WL.fieldAddr fo_30_1 rfl rfl rfl ?_
   exact WL.nil (N.cut _ ⟨rfl, trivial⟩ ⟨(Below.refl _ _), rfl⟩)
  refine ⟨fun β wd hb hD => ⟨_, rfl, ?_⟩, ?_⟩
  ·
   obtain ⟨hp3, _⟩ := hD
   replace hp3 : β 3 = .pointer (some ⟨bm, 7, none⟩) := hp3
   refine WL.sub (σ' := [(6, .pointer (some ⟨bm, 7, none⟩))]) ⟨congrArg some hp3, trivial⟩ ?_
   have hS := hS.grow hb
   refine WL.load1 (v := .slice (some ⟨gq1, 0, none⟩) no capvo) one_27 rfl rfl rfl ((hS.blkCells hbm (off := 0) (m := 11) rfl) 7 _ rfl) ?_
   exact WL.nil (N.cut _ ⟨rfl, trivial⟩ ⟨(Below.refl _ _), rfl⟩)
  refine ⟨fun β wd hb hD => ⟨_, rfl, ?_⟩, ?_⟩
  ·
   have hS := hS.grow hb
   refine WL.load1 (v := .int .i64 (at_ : Int)) one_3 rfl rfl rfl ((hS.blkCells hbA (off := 0) (m := 1) rfl) 0 _ rfl) ?_
   exact WL.nil (N.cut _ ⟨rfl, trivial⟩ ⟨(Below.refl _ _), rfl⟩)
  refine ⟨fun β wd hb hD => ⟨_, rfl, ?_⟩, ?_⟩
  ·
   have hS := hS.grow hb
   refine WL.load1 (v := .func (.func q) #[] caps) one_96 rfl rfl rfl ((hS.blkCells hbT (off := 0) (m := 1) rfl) 0 _ rfl) ?_
   exact WL.nil (N.cut _ ⟨rfl, trivial⟩ ⟨(Below.refl _ _), rfl⟩)
  refine ⟨fun β wd hb hD => ⟨_, rfl, ?_⟩, ?_⟩
  ·
   obtain ⟨hp6, _⟩ := hD
   replace hp6 : β 6 = .func (.func q) #[] caps := hp6
   refine WL.sub (σ' := [(9, .func (.func q) #[] caps)]) ⟨congrArg some hp6, trivial⟩ ?_
   have hS := hS.grow hb
   refine WL.callV (vs := []) (cs := caps) hfq hbq rfl rfl rfl rfl (by simpa using hto _ hS) ?_
   rintro v w4 ⟨rfl, hbl⟩
   replace hS := hS.grow hbl
   exact WL.nil (N.cut _ ⟨rfl, trivial⟩ ⟨hbl, rfl⟩)
  refine ⟨fun β wd hb hD => ⟨_, rfl, ?_⟩, ?_⟩
  ·
   have hS := hS.grow hb
   refine WL.load1 (v := .int .i64 (at_ : Int)) one_3 rfl rfl rfl ((hS.blkCells hbA (off := 0) (m := 1) rfl) 0 _ rfl) ?_
   exact WL.nil (N.cut _ ⟨rfl, trivial⟩ ⟨(Below.refl _ _), rfl⟩)
  refine ⟨fun β wd hb hD => ⟨_, rfl, ?_⟩, ?_⟩
  ·
   obtain ⟨hp7, hp8, _⟩ := hD
   replace hp7 : β 7 = .int .i64 z := hp7
   replace hp8 : β 8 = .int .i64 (at_ : Int) := hp8
   refine WL.sub (σ' := [(10, .int .i64 z), (11, .int .i64 (at_ : Int))]) ⟨congrArg some hp7, congrArg some hp8, trivial⟩ ?_
   have hS := hS.grow hb
   refine WL.sub_ (c := z - (at_ : Int)) rfl rfl rfl rfl rfl (by omega) ?_
   exact WL.nil (N.cut _ ⟨rfl, trivial⟩ ⟨(Below.refl _ _), rfl⟩)
  refine ⟨fun β wd hb hD => ⟨_, rfl, ?_⟩, ?_⟩
  ·
   obtain ⟨hp9, _⟩ := hD
   replace hp9 : β 9 = .int .i64 (z - (at_ : Int)) := hp9
   refine WL.sub (σ' := [(12, .int .i64 (z - (at_ : Int)))]) ⟨congrArg some hp9, trivial⟩ ?_
   have hS := hS.grow hb
   refine WL.mul (c := 4 * (z - (at_ : Int))) rfl rfl rfl rfl rfl (by omega) ?_
   exact WL.nil (N.cut _ ⟨rfl, trivial⟩ ⟨(Below.refl _ _), rfl⟩)
  refine ⟨fun β wd hb hD => ⟨_, rfl, ?_⟩, ?_⟩
  ·
   obtain ⟨hp4, hp5, _, _, _, _, _, _, _, _, _, _, _, _⟩ := hD
   replace hp4 : β 4 = .slice (some ⟨gq1, 0, none⟩) no capvo := hp4
   replace hp5 : β 5 = .int .i64 (at_ : Int) := hp5
   refine WL.sub (σ' := [(7, .slice (some ⟨gq1, 0, none⟩) no capvo), (8, .int .i64 (at_ : Int))]) ⟨congrArg some hp4, congrArg some hp5, trivial⟩ ?_
   have hS := hS.grow hb
   refine WL.indexAddr (j := at_) Tryd.underlying27 isz_36 rfl rfl rfl rfl (by omega) ?_
   exact WL.nil (N.cut _ ⟨rfl, trivial⟩ ⟨(Below.refl _ _), rfl⟩)
  refine ⟨fun β wd hb hD => ⟨_, rfl, ?_⟩, ?_⟩
  ·
   obtain ⟨hp11, _, _, _, _, _, _, _, _, _, _, _, _⟩ := hD
   replace hp11 : β 11 = .pointer (some ⟨gq1, 0 + at_ * 5, none⟩) := hp11
   refine WL.sub (σ' := [(14, .pointer (some ⟨gq1, 0 + at_ * 5, none⟩))]) ⟨congrArg some hp11, trivial⟩ ?_
   have hS := hS.grow hb
   refine WL.fieldAddr fo_36_4 rfl rfl rfl ?_
   exact WL.nil (N.cut _ ⟨rfl, trivial⟩ ⟨(Below.refl _ _), rfl⟩)
  trivial
 intro β w5 hb hD
 obtain ⟨hp0, hp1, hp2, hp3, hp4, hp5, hp6, hp7, hp8, hp9, hp10, hp11, hp12, _⟩ := hD
 refine WA.sub (σ' := [(13, .int .i64 (4 * (z - (at_ : Int)))), (15, .pointer (some ⟨gq1, 0 + at_ * 5 + 4, none⟩))]) ⟨congrArg some (show β 10 = .int .i64 (4 * (z - (at_ : Int))) from hp10), congrArg some (show β 12 = .pointer (some ⟨gq1, 0 + at_ * 5 + 4, none⟩) from hp12), trivial⟩ ?_
 have hSd := hS
 replace hS := hS.grow hb
 refine WA.conv (fuel' := 0 + 1) (listed' := (lb 14 8191)) (by kernel_rfl) (by kernel_rfl) (WA.stepS 13 (by kernel_rfl) rfl ?_)
 have hob : (at_ + 1) * 5 ≤ no * 5 := Nat.mul_le_mul_right _ (by omega)
 refine WL.storeRow (v := .int .i64 (4 * (z - (at_ : Int)))) (cs := [.int .i64 (4 * (z - (at_ : Int)))]) rfl rfl rfl rfl siz_2 rfl hS (by simp only [List.length_cons, List.length_nil]; omega) ?_
 clear hS; intro w6 hS
 replace hS : St w0 ws w6 ro (LL) (⟨.slice (some ⟨gq1, 0, none⟩) no capvo, 36, 5, no, (oCells (setImm l at_ (4 * (z - (at_ : Int)))))⟩ :: Rs) := by rw [← oCells_setImm (by omega)]; exact hS
 refine WL.nil (N.restS trivial ?_)
 refine WA.doneN (by kernel_rfl) ?_
 refine Fin.end0 rfl ?_
 exact ⟨rfl, hS⟩

end Go.Proofs.YtcmmhfknkldmcaaDoor
