/-
  Contracts of layer 17 (gen). No condition beyond those that each theorem states.
-/
import Derived.Test.YtcmmhfknkldmcaaDoorG6
namespace Go.Proofs.YtcmmhfknkldmcaaDoor
open Go.RowKit

def rCells (l : List DRel) : List Value := (l.map relL).flatten
def reckL : List Int := [0, 0, 1, 2, 9, 8, 7, 5, 3, 6, 4, 2]
def reckK (op : Int) : Int := reckL.getD op.toNat 0
theorem reck_at {op : Int} (h : 1 ≤ op ∧ op ≤ 11) : (reckL.map fun x => (Value.int .i64 x))[op.toNat]? = some (.int .i64 (reckK op)) := by
  rw [List.getElem?_map]
  unfold reckK
  rw [List.getD_eq_getElem?_getD]
  have hl : op.toNat < reckL.length := by show op.toNat < 12; omega
  rw [List.getElem?_eq_getElem hl]; rfl
theorem reck_in {op : Int} : 0 ≤ reckK op ∧ reckK op ≤ 9 := by
  unfold reckK
  rw [List.getD_eq_getElem?_getD]
  have h : ∀ x ∈ reckL, 0 ≤ x ∧ x ≤ 9 := by decide
  cases e : reckL[op.toNat]? with
  | none => simp
  | some x => exact h x (List.mem_of_getElem? e)
def cargs (slots : List Int) (args : List Int) : List DOp := args.zipIdx.map fun p => ld (10 + (p.2 : Int)) (slotAt slots p.1)
theorem cargs_next {slots args : List Int} {k : Nat} {v : Int} (h : args[k]? = some v) : cargs slots (args.take (k + 1)) = cargs slots (args.take k) ++ [ld (10 + (k : Int)) (slotAt slots v)] := by
  have hk := (List.getElem?_eq_some_iff.1 h).1
  unfold cargs
  rw [take_next h, List.zipIdx_append, List.map_append]
  simp [List.length_take, Nat.min_eq_left (Nat.le_of_lt hk)]
theorem cargs_len (slots args : List Int) : (cargs slots args).length = args.length := by unfold cargs; simp
def give17 (no : Nat) (slots : List Int) (x : DInst) : List DOp × List DRel × Int :=
  if x.op = 1 then (lit 5 x.k.toNat, [], 5)
  else if x.op = 12 then ([⟨27, 5, 0, 0, 0⟩, ⟨19, 5, 5, 0, 0⟩], [⟨((no : Nat) : Int), 2, x.name⟩, ⟨((no + 1 : Nat) : Int), 3, x.name⟩], 5)
  else if x.op = 13 then ([ld 6 (slotAt slots x.a), ⟨27, 5, 0, 0, 0⟩, ⟨21, 0, 5, 6, 0⟩], [⟨((no + 1 : Nat) : Int), 2, x.name⟩, ⟨((no + 1 + 1 : Nat) : Int), 3, x.name⟩], 0)
  else if x.op = 14 then (cargs slots x.args ++ [⟨29, 1, 0, 0, 0⟩], [⟨((no + x.args.length : Nat) : Int), 1, x.name⟩], 10)
  else if x.op = 15 then ([⟨12, 17, 0, 0, 63⟩, ⟨31, 0, 0, 0, 0⟩], [], 10)
  else if x.op = 16 then ([ld 10 (slotAt slots x.a), ⟨12, 17, 0, 0, 64⟩, ⟨31, 0, 0, 0, 0⟩], [], 0)
  else ([ld 5 (slotAt slots x.a), ld 6 (slotAt slots x.b), ⟨reckK x.op, 5, 5, 6, 0⟩] ++ (if x.op = 11 then [⟨13, 5, 5, 0, 1⟩] else []), [], 5)
theorem uses5_a {x : DInst} (h : x.op = 13 ∨ x.op = 16 ∨ (2 ≤ x.op ∧ x.op ≤ 11)) : x.a ∈ uses5 x := by
  unfold uses5
  by_cases h1 : 2 ≤ x.op ∧ x.op ≤ 11
  · rw [if_pos h1]; simp
  · rw [if_neg h1, if_pos (by omega)]; simp
theorem uses5_b {x : DInst} (h : 2 ≤ x.op ∧ x.op ≤ 11) : x.b ∈ uses5 x := by
  unfold uses5
  rw [if_pos h]; simp
theorem chunks_oCells {cs : List Value} {l : List DOp} (h : Chunks 5 OpC cs l) : cs = oCells l := by
  have hl := oCells_len l
  apply List.ext_getElem?
  intro j
  by_cases hj : j < l.length * 5
  · obtain ⟨q, r, hr, rfl⟩ : ∃ q r, r < 5 ∧ j = q * 5 + r := ⟨j / 5, j % 5, Nat.mod_lt _ (by decide), by omega⟩
    have hq : q < l.length := by omega
    have hx : l[q]? = some l[q] := List.getElem?_eq_getElem hq
    rw [oCells_get hx r hr]
    have h2 := (h.2 q _ hx).1
    have h3 : ((cs.drop (q * 5)).take 5)[r]? = (opL l[q])[r]? := by rw [h2]
    rw [List.getElem?_take, if_pos hr, List.getElem?_drop] at h3
    exact h3
  · rw [List.getElem?_eq_none (by rw [h.1]; omega), List.getElem?_eq_none (by omega)]

set_option maxRecDepth 10000 in
set_option maxHeartbeats 4000000 in
theorem gives_ret {w0 ws w : World} {ro : Nat → Prop} {L : List (Nat × Obj)} {Rs : List Row} {bm : Nat} {fn cn : ByteArray} {fb fp mn fr : Int} {fv vo vr vs vj : Value} {no : Nat} {co : List Value} {nr : Nat} {cr : List Value} (slots : List Int) (vsl : Value) (x : DInst) (cx : List Value) (hsl : SlV ro ws 1 IntC vsl slots) (hx : InstC ro ws cx x) (huse : ∀ v ∈ uses5 x, 0 ≤ v ∧ v < slots.length) (hop : 1 ≤ x.op ∧ x.op ≤ 16) (hal : x.args.length ≤ 6) (hsb : ∀ z ∈ slots, 0 ≤ z ∧ z ≤ 1000) (hr0 : ro 0) (hc0 : CellsAt ws 0 0 [.int .i64 0, .int .i64 0, .int .i64 1, .int .i64 2, .int .i64 9, .int .i64 8, .int .i64 7, .int .i64 5, .int .i64 3, .int .i64 6, .int .i64 4, .int .i64 2]) (hno : no + 30 ≤ 1000000) (hnr : nr + 2 ≤ 1000000) (hS : St w0 ws w ro ((bm, .cells #[.string fn, .int .i64 fb, .int .i64 fp, fv, .int .i64 mn, .int .i64 fr, .string cn, vo, vr, vs, vj] 64 (0, 0)) :: L) (⟨vo, 36, 5, no, co⟩ :: ⟨vr, 34, 3, nr, cr⟩ :: Rs)) : Ret Tryd.prog 27 #[.pointer (some ⟨bm, 0, none⟩), vsl, .agg cx.toArray] w fun v w' => v = .int .i64 (give17 no slots x).2.2 ∧ ∃ vo2 vr2, St w0 ws w' ro ((bm, .cells #[.string fn, .int .i64 fb, .int .i64 fp, fv, .int .i64 mn, .int .i64 fr, .string cn, vo2, vr2, vs, vj] 64 (0, 0)) :: L) (⟨vo2, 36, 5, no + (give17 no slots x).1.length, (co ++ oCells (give17 no slots x).1)⟩ :: ⟨vr2, 34, 3, nr + (give17 no slots x).2.1.length, (cr ++ rCells (give17 no slots x).2.1)⟩ :: Rs) := by
 obtain ⟨ads, caps, rfl, hsla, hslb, hslc, hsld⟩ := id hsl
 have hslm : slots.length ≤ 9223372036854775807 := by have h1 := hsla; have h2 := hslb; unfold maxLen at h2; omega
 obtain ⟨sx, rfl, hsx, hox, hax, hbx, hkx, hnx⟩ := id hx
 obtain ⟨adx, capx, rfl, hsxa, hsxb, hsxc, hsxd⟩ := id hsx
 have hsxm : x.args.length ≤ 9223372036854775807 := by have h1 := hsxa; have h2 := hsxb; unfold maxLen at h2; omega
 refine Ret.enter (P := Tryd.prog) (n := 126) (args := [.pointer (some ⟨bm, 0, none⟩), .slice ads slots.length caps, .agg #[.int .i64 x.op, .int .i64 x.a, .int .i64 x.b, .int .u64 x.k, .string x.name, .slice adx x.args.length capx]]) (σ := [(0, .pointer (some ⟨bm, 0, none⟩)), (1, .slice ads slots.length caps), (2, .agg #[.int .i64 x.op, .int .i64 x.a, .int .i64 x.b, .int .u64 x.k, .string x.name, .slice adx x.args.length capx])]) Tryd.func27 rfl rfl rfl rfl ?_
 refine W.seq (W.region ?_)
 refine WL.box (v := .agg #[.int .i64 x.op, .int .i64 x.a, .int .i64 x.b, .int .u64 x.k, .string x.name, .slice adx x.args.length capx]) (cs := [.int .i64 x.op, .int .i64 x.a, .int .i64 x.b, .int .u64 x.k, .string x.name, .slice adx x.args.length capx]) rfl rfl rfl rfl hS ?_
 clear hS; intro w2 b1 hb_b1 hS
 refine WL.assign rfl rfl rfl (WL.nil (N.seq (W.seq (W.region (WL.move rfl rfl rfl ?_)))))
 refine WL.makeFuncB (bs := #[.pointer (some ⟨bm, 0, none⟩)]) (vs := #[]) rfl rfl rfl rfl ?_
 refine WL.assign rfl rfl rfl (WL.nil (N.seq (W.seq (W.seq (W.region (WL.fieldAddr fo_69_0 rfl rfl rfl (WL.load1 (v := .int .i64 x.op) one_3 rfl rfl rfl (hS.cell 0 rfl rfl) (WL.nil (N.seq ?_)))))))))
 refine W.block (W.seq (W.region (WL.bin rfl rfl rfl rfl rfl (WL.assign rfl rfl rfl (WL.nil (N.seq ?_))))))
 refine W.cond rfl (fun hc3 => ?_) (fun hc3 => ?_)
 ·
  have hc3p : x.op = 1 := by simpa using hc3
  refine W.seq (W.region (WL.move rfl rfl rfl (WL.fieldAddr fo_69_3 rfl rfl rfl (WL.load1 (v := .int .u64 x.k) one_52 rfl rfl rfl (hS.cell 0 rfl rfl) ?_))))
  have hkn : ((x.k.toNat : Nat) : Int) = x.k := by unfold inU at hkx; omega
  have hk64 : x.k.toNat < 18446744073709551616 := by unfold inU at hkx; omega
  refine WL.set 18 (v' := .int .u64 ((x.k.toNat : Nat) : Int)) rfl (by rw [hkn]) ?_
  refine WL.callF (vs := [.int .i64 5, .int .u64 ((x.k.toNat : Nat) : Int)]) Tryd.func20 (by kernel_rfl) rfl rfl rfl (lit_ret 5 x.k.toNat (inK (by omega)) hk64 (ro := ro) (fun b hb => (hS.snap b hb).1)) ?_
  rintro vl w4 ⟨hlv, hbl⟩
  replace hS := hS.grow hbl
  have hlen := lit_len (r := 5) hk64
  obtain ⟨adl, capl, rfl, hla, hlb, hlc, hld⟩ := hlv
  obtain ⟨news, hchn, hnw, hsp⟩ := elems_news hld
  replace hS := hS.perm ((List.Perm.swap _ _ _))
  refine WL.callVB (vs := [.slice adl ((lit 5 x.k.toNat).length) capl]) (bs := #[.pointer (some ⟨bm, 0, none⟩)]) (cs := #[]) Tryd.func24 (by kernel_rfl) rfl rfl rfl rfl (put_ret adl (lit 5 x.k.toNat).length capl news hchn.1 (fun e => ⟨by have := hlc e; omega, hlc e⟩) (fun b off e => (hnw b off e).1) hsp (chunks_all hchn (by decide) fun _ _ q => one_op q) (by first | omega | (simp only; omega)) hS) ?_
  clear hS; rintro v w5 ⟨rfl, vo6, hS⟩
  rw [chunks_oCells hchn] at hS
  refine WL.nil (N.seq (W.seq (W.region (WL.assign rfl rfl rfl (WL.nil (N.seq ?_))))))
  refine Fin.ret1 rfl (v := .int .i64 5) rfl ?_
  replace hS := hS.perm ((List.Perm.swap _ _ _))
  replace hS := hS.dropN 1
  have hrw1 : (⟨vo6, 36, 5, no + (lit 5 x.k.toNat : List DOp).length, (co ++ oCells (lit 5 x.k.toNat))⟩ : Row) = ⟨vo6, 36, 5, no + (lit 5 x.k.toNat).length, co ++ oCells (lit 5 x.k.toNat)⟩ := rfl
  have hrw2 : (⟨vr, 34, 3, nr + ([] : List DRel).length, (cr ++ rCells ([] : List DRel))⟩ : Row) = ⟨vr, 34, 3, nr, cr⟩ := by simp [rCells, relL, Nat.add_assoc]
  have hg : give17 no slots x = (lit 5 x.k.toNat, ([] : List DRel), 5) := by unfold give17; rw [if_pos hc3p]
  rw [← hrw1, ← hrw2] at hS
  rw [hg]
  exact ⟨rfl, vo6, vr, hS⟩
 have hc3p : ¬ (x.op = 1) := by simpa using hc3
 refine W.seq (W.region (WL.bin rfl rfl rfl rfl rfl (WL.assign rfl rfl rfl (WL.nil (N.seq ?_)))))
 refine W.cond rfl (fun hc7 => ?_) (fun hc7 => ?_)
 ·
  have hc7p : x.op = 12 := by simpa using hc7
  refine W.seq (W.region (WL.move rfl rfl rfl (WL.fieldAddr fo_69_4 rfl rfl rfl (WL.load1 (v := .string x.name) one_9 rfl rfl rfl (hS.cell 0 rfl rfl) ?_))))
  refine WL.build (ps := [(0, .int .i64 27), (1, .int .i64 5)]) (cs := [.int .i64 27, .int .i64 5, .int .i64 0, .int .i64 0, .int .i64 0]) rfl rfl rfl (by kernel_rfl) ?_
  replace hS := hS.perm ((List.Perm.swap _ _ _))
  refine WL.callF (vs := [.pointer (some ⟨bm, 0, none⟩), .int .i64 2, .string x.name, .agg #[.int .i64 27, .int .i64 5, .int .i64 0, .int .i64 0, .int .i64 0]]) Tryd.func47 (by kernel_rfl) rfl rfl rfl (rel_ret 2 x.name ⟨27, 5, 0, 0, 0⟩ (by first | omega | (simp only; omega)) (by first | omega | (simp only; omega)) hS) ?_
  clear hS; rintro v w8 ⟨rfl, vo9, vr10, hS⟩
  refine WL.nil (N.seq (W.seq (W.region (WL.move rfl rfl rfl (WL.fieldAddr fo_69_4 rfl rfl rfl (WL.load1 (v := .string x.name) one_9 rfl rfl rfl (hS.cell 1 rfl rfl) ?_))))))
  refine WL.build (ps := [(0, .int .i64 19), (1, .int .i64 5), (2, .int .i64 5)]) (cs := [.int .i64 19, .int .i64 5, .int .i64 5, .int .i64 0, .int .i64 0]) rfl rfl rfl (by kernel_rfl) ?_
  refine WL.callF (vs := [.pointer (some ⟨bm, 0, none⟩), .int .i64 3, .string x.name, .agg #[.int .i64 19, .int .i64 5, .int .i64 5, .int .i64 0, .int .i64 0]]) Tryd.func47 (by kernel_rfl) rfl rfl rfl (rel_ret 3 x.name ⟨19, 5, 5, 0, 0⟩ (by first | omega | (simp only; omega)) (by first | omega | (simp only; omega)) hS) ?_
  clear hS; rintro v w11 ⟨rfl, vo12, vr13, hS⟩
  refine WL.nil (N.seq (W.seq (W.region (WL.assign rfl rfl rfl (WL.nil (N.seq ?_))))))
  refine Fin.ret1 rfl (v := .int .i64 5) rfl ?_
  replace hS := hS.perm ((List.Perm.swap _ _ _))
  replace hS := hS.dropN 1
  have hrw1 : (⟨vo12, 36, 5, no + ([(⟨27, 5, 0, 0, 0⟩ : DOp), ⟨19, 5, 5, 0, 0⟩] : List DOp).length, (co ++ oCells ([(⟨27, 5, 0, 0, 0⟩ : DOp), ⟨19, 5, 5, 0, 0⟩]))⟩ : Row) = ⟨vo12, 36, 5, no + 1 + 1, co ++ oCells [⟨27, 5, 0, 0, 0⟩] ++ oCells [⟨19, 5, 5, 0, 0⟩]⟩ := by simp [oCells, opL, Nat.add_assoc]
  have hrw2 : (⟨vr13, 34, 3, nr + ([(⟨((no : Nat) : Int), 2, x.name⟩ : DRel), ⟨((no + 1 : Nat) : Int), 3, x.name⟩] : List DRel).length, (cr ++ rCells ([(⟨((no : Nat) : Int), 2, x.name⟩ : DRel), ⟨((no + 1 : Nat) : Int), 3, x.name⟩] : List DRel))⟩ : Row) = ⟨vr13, 34, 3, nr + 1 + 1, cr ++ relL ⟨((no : Nat) : Int), 2, x.name⟩ ++ relL ⟨((no + 1 : Nat) : Int), 3, x.name⟩⟩ := by simp [rCells, relL, Nat.add_assoc]
  have hg : give17 no slots x = ([(⟨27, 5, 0, 0, 0⟩ : DOp), ⟨19, 5, 5, 0, 0⟩], ([(⟨((no : Nat) : Int), 2, x.name⟩ : DRel), ⟨((no + 1 : Nat) : Int), 3, x.name⟩] : List DRel), 5) := by unfold give17; rw [if_neg hc3p, if_pos hc7p]
  rw [← hrw1, ← hrw2] at hS
  rw [hg]
  exact ⟨rfl, vo12, vr13, hS⟩
 have hc7p : ¬ (x.op = 12) := by simpa using hc7
 refine W.seq (W.region (WL.bin rfl rfl rfl rfl rfl (WL.assign rfl rfl rfl (WL.nil (N.seq ?_)))))
 refine W.cond rfl (fun hc14 => ?_) (fun hc14 => ?_)
 ·
  have hc14p : x.op = 13 := by simpa using hc14
  refine W.seq (W.region (WL.move rfl rfl rfl (WL.move rfl rfl rfl (WL.fieldAddr fo_69_1 rfl rfl rfl (WL.load1 (v := .int .i64 x.a) one_3 rfl rfl rfl (hS.cell 0 rfl rfl) ?_)))))
  have hv_a := huse x.a (uses5_a (by omega))
  have hvn_a : ((x.a.toNat : Nat) : Int) = x.a := by omega
  refine WL.set 38 (v' := .int .i64 (x.a.toNat : Int)) rfl (congrArg _ (by omega)) ?_
  have hj15 : x.a.toNat < slots.length := by omega
  obtain ⟨x15, hx15, b15, o15, cs15, hE15, hr15, _, hc15, hQ15⟩ := opn hsld hj15
  obtain ⟨rfl, hi15⟩ := hQ15
  refine WL.indexAddrE (j := x.a.toNat) Tryd.underlying55 isz_3 rfl rfl rfl rfl hj15 hE15 (WL.load1 (v := .int .i64 x15) one_3 rfl rfl rfl (hS.roCells hr15 hc15 0 _ rfl) ?_)
  have hsb_a := hsb _ (List.mem_of_getElem? hx15)
  replace hS := hS.perm ((List.Perm.swap _ _ _))
  refine WL.callF (vs := [.pointer (some ⟨bm, 0, none⟩), .int .i64 6, .int .i64 x15]) Tryd.func48 (by kernel_rfl) rfl rfl rfl (load_ret 6 x15 (by omega) (by first | omega | (simp only; omega)) hS) ?_
  clear hS; rintro v w16 ⟨rfl, vo17, hS⟩
  rw [← slotAt_some hx15] at hS
  refine WL.nil (N.seq (W.seq (W.region (WL.move rfl rfl rfl (WL.fieldAddr fo_69_4 rfl rfl rfl (WL.load1 (v := .string x.name) one_9 rfl rfl rfl (hS.cell 1 rfl rfl) ?_))))))
  refine WL.build (ps := [(0, .int .i64 27), (1, .int .i64 5)]) (cs := [.int .i64 27, .int .i64 5, .int .i64 0, .int .i64 0, .int .i64 0]) rfl rfl rfl (by kernel_rfl) ?_
  refine WL.callF (vs := [.pointer (some ⟨bm, 0, none⟩), .int .i64 2, .string x.name, .agg #[.int .i64 27, .int .i64 5, .int .i64 0, .int .i64 0, .int .i64 0]]) Tryd.func47 (by kernel_rfl) rfl rfl rfl (rel_ret 2 x.name ⟨27, 5, 0, 0, 0⟩ (by first | omega | (simp only; omega)) (by first | omega | (simp only; omega)) hS) ?_
  clear hS; rintro v w18 ⟨rfl, vo19, vr20, hS⟩
  refine WL.nil (N.seq (W.seq (W.region (WL.move rfl rfl rfl (WL.fieldAddr fo_69_4 rfl rfl rfl (WL.load1 (v := .string x.name) one_9 rfl rfl rfl (hS.cell 1 rfl rfl) ?_))))))
  refine WL.build (ps := [(0, .int .i64 21), (2, .int .i64 5), (3, .int .i64 6)]) (cs := [.int .i64 21, .int .i64 0, .int .i64 5, .int .i64 6, .int .i64 0]) rfl rfl rfl (by kernel_rfl) ?_
  refine WL.callF (vs := [.pointer (some ⟨bm, 0, none⟩), .int .i64 3, .string x.name, .agg #[.int .i64 21, .int .i64 0, .int .i64 5, .int .i64 6, .int .i64 0]]) Tryd.func47 (by kernel_rfl) rfl rfl rfl (rel_ret 3 x.name ⟨21, 0, 5, 6, 0⟩ (by first | omega | (simp only; omega)) (by first | omega | (simp only; omega)) hS) ?_
  clear hS; rintro v w21 ⟨rfl, vo22, vr23, hS⟩
  refine WL.nil (N.seq (W.seq (W.region (WL.assign rfl rfl rfl (WL.nil (N.seq ?_))))))
  refine Fin.ret1 rfl (v := .int .i64 0) rfl ?_
  replace hS := hS.perm ((List.Perm.swap _ _ _))
  replace hS := hS.dropN 1
  have hrw1 : (⟨vo22, 36, 5, no + ([ld 6 (slotAt slots x.a), ⟨27, 5, 0, 0, 0⟩, ⟨21, 0, 5, 6, 0⟩] : List DOp).length, (co ++ oCells ([ld 6 (slotAt slots x.a), ⟨27, 5, 0, 0, 0⟩, ⟨21, 0, 5, 6, 0⟩]))⟩ : Row) = ⟨vo22, 36, 5, no + 1 + 1 + 1, co ++ oCells [ld 6 (slotAt slots x.a)] ++ oCells [⟨27, 5, 0, 0, 0⟩] ++ oCells [⟨21, 0, 5, 6, 0⟩]⟩ := by simp [oCells, opL, Nat.add_assoc]
  have hrw2 : (⟨vr23, 34, 3, nr + ([(⟨((no + 1 : Nat) : Int), 2, x.name⟩ : DRel), ⟨((no + 1 + 1 : Nat) : Int), 3, x.name⟩] : List DRel).length, (cr ++ rCells ([(⟨((no + 1 : Nat) : Int), 2, x.name⟩ : DRel), ⟨((no + 1 + 1 : Nat) : Int), 3, x.name⟩] : List DRel))⟩ : Row) = ⟨vr23, 34, 3, nr + 1 + 1, cr ++ relL ⟨((no + 1 : Nat) : Int), 2, x.name⟩ ++ relL ⟨((no + 1 + 1 : Nat) : Int), 3, x.name⟩⟩ := by simp [rCells, relL, Nat.add_assoc]
  have hg : give17 no slots x = ([ld 6 (slotAt slots x.a), ⟨27, 5, 0, 0, 0⟩, ⟨21, 0, 5, 6, 0⟩], ([(⟨((no + 1 : Nat) : Int), 2, x.name⟩ : DRel), ⟨((no + 1 + 1 : Nat) : Int), 3, x.name⟩] : List DRel), 0) := by unfold give17; rw [if_neg hc3p, if_neg hc7p, if_pos hc14p]
  rw [← hrw1, ← hrw2] at hS
  rw [hg]
  exact ⟨rfl, vo22, vr23, hS⟩
 have hc14p : ¬ (x.op = 13) := by simpa using hc14
 refine W.seq (W.region (WL.bin rfl rfl rfl rfl rfl (WL.assign rfl rfl rfl (WL.nil (N.seq ?_)))))
 refine W.cond rfl (fun hc24 => ?_) (fun hc24 => ?_)
 ·
  have hc24p : x.op = 14 := by simpa using hc24
  refine W.seq (W.seq (W.region (WL.fieldAddr fo_69_5 rfl rfl rfl (WL.load1 (v := .slice adx x.args.length capx) one_55 rfl rfl rfl (hS.cell 0 rfl rfl) (WL.lenSlice Tryd.underlying55 rfl rfl rfl (WL.move rfl rfl rfl (WL.nil (N.seq (W.block ?_)))))))))
  have hS0 : St w0 ws w2 ro ((b1, .cells #[.int .i64 x.op, .int .i64 x.a, .int .i64 x.b, .int .u64 x.k, .string x.name, .slice adx x.args.length capx] 69 (0, 0)) :: (bm, .cells #[.string fn, .int .i64 fb, .int .i64 fp, fv, .int .i64 mn, .int .i64 fr, .string cn, vo, vr, vs, vj] 64 (0, 0)) :: L) (⟨vo, 36, 5, no + (cargs slots (x.args.take 0)).length, (co ++ oCells (cargs slots (x.args.take 0)))⟩ :: ⟨vr, 34, 3, nr, cr⟩ :: Rs) := by have h := hS; simpa [cargs, oCells] using h
  have hargs : ∀ v ∈ x.args, 0 ≤ v ∧ v < slots.length := by unfold uses5 at huse; rw [if_neg (by omega), if_neg (by omega), if_pos (by omega)] at huse; exact huse
  refine W.loop (α := Nat × Value) (fun ⟨k, v1⟩ => [(0, .pointer (some ⟨bm, 0, none⟩)), (1, .slice ads slots.length caps), (5, .pointer (some ⟨b1, 0, none⟩)), (6, .int .i64 0), (7, .func (.func 24) #[.pointer (some ⟨bm, 0, none⟩)] #[]), (55, .slice adx x.args.length capx), (56, .int .i64 (x.args.length : Int)), (57, .int .i64 (k : Int))]) (fun ⟨k, v1⟩ u => St w0 ws u ro ((b1, .cells #[.int .i64 x.op, .int .i64 x.a, .int .i64 x.b, .int .u64 x.k, .string x.name, .slice adx x.args.length capx] 69 (0, 0)) :: (bm, .cells #[.string fn, .int .i64 fb, .int .i64 fp, fv, .int .i64 mn, .int .i64 fr, .string cn, v1, vr, vs, vj] 64 (0, 0)) :: L) (⟨v1, 36, 5, no + (cargs slots (x.args.take k)).length, (co ++ oCells (cargs slots (x.args.take k)))⟩ :: ⟨vr, 34, 3, nr, cr⟩ :: Rs) ∧ k ≤ x.args.length) (fun ⟨k, v1⟩ => x.args.length - k) (0, vo) ⟨rfl, rfl, rfl, rfl, rfl, rfl, rfl, rfl, trivial⟩ ⟨hS0, Nat.zero_le _⟩ ?_
  clear hS
  rintro ⟨k, v1⟩ w25 ⟨hS, hk⟩
  have hcl := cargs_len slots (x.args.take k); rw [List.length_take] at hcl
  refine W.seq (W.region (WL.bin rfl rfl rfl rfl rfl (WL.nil (N.seq (W.seq ?_)))))
  refine W.cond rfl (fun hc26 => ?_) (fun hc26 => ?_)
  ·
   have hc26p : (k : Int) < (x.args.length : Int) := by simpa using hc26
   refine W.skip (N.seq (W.seq (W.block (W.seq (W.region (WL.move rfl rfl rfl ?_))))))
   have hj27 : k < x.args.length := by omega
   obtain ⟨x27, hx27, b27, o27, cs27, hE27, hr27, _, hc27, hQ27⟩ := opn hsxd hj27
   obtain ⟨rfl, hi27⟩ := hQ27
   refine WL.indexAddrE (j := k) Tryd.underlying55 isz_3 rfl rfl rfl rfl hj27 hE27 (WL.load1 (v := .int .i64 x27) one_3 rfl rfl rfl (hS.roCells hr27 hc27 0 _ rfl) (WL.assign rfl rfl rfl (WL.assign rfl rfl rfl (WL.nil (N.seq ?_)))))
   have hvb := hargs _ (List.mem_of_getElem? hx27)
   have hvn : ((x27.toNat : Nat) : Int) = x27 := by omega
   refine W.region (WL.move rfl rfl rfl (WL.move rfl rfl rfl ?_))
   refine WL.add (c := 10 + (k : Int)) rfl rfl rfl rfl rfl (by omega) ?_
   refine WL.move rfl rfl rfl (WL.move rfl rfl rfl ?_)
   refine WL.set 66 (v' := .int .i64 (x27.toNat : Int)) rfl (congrArg _ (by omega)) ?_
   have hj28 : x27.toNat < slots.length := by omega
   obtain ⟨x28, hx28, b28, o28, cs28, hE28, hr28, _, hc28, hQ28⟩ := opn hsld hj28
   obtain ⟨rfl, hi28⟩ := hQ28
   refine WL.indexAddrE (j := x27.toNat) Tryd.underlying55 isz_3 rfl rfl rfl rfl hj28 hE28 (WL.load1 (v := .int .i64 x28) one_3 rfl rfl rfl (hS.roCells hr28 hc28 0 _ rfl) ?_)
   have hsb2 := hsb _ (List.mem_of_getElem? hx28)
   replace hS := hS.perm ((List.Perm.swap _ _ _))
   refine WL.callF (vs := [.pointer (some ⟨bm, 0, none⟩), .int .i64 (10 + (k : Int)), .int .i64 x28]) Tryd.func48 (by kernel_rfl) rfl rfl rfl (load_ret (10 + (k : Int)) x28 (by omega) (by first | omega | (simp only; omega)) hS) ?_
   clear hS; rintro v w29 ⟨rfl, vo30, hS⟩
   refine WL.nil (N.blk (N.seq (W.region ?_)))
   refine WL.add (c := (k : Int) + 1) rfl rfl rfl rfl (rfl) (by omega) ?_
   refine WL.move rfl rfl rfl (WL.nil ?_)
   replace hS := hS.rw0 (show (⟨vo30, 36, 5, no + (cargs slots (x.args.take (k + 1))).length, (co ++ oCells (cargs slots (x.args.take (k + 1))))⟩ : Row) = ⟨vo30, 36, 5, no + (cargs slots (x.args.take k)).length + 1, (co ++ oCells (cargs slots (x.args.take k))) ++ oCells [ld (10 + (k : Int)) x28]⟩ by rw [cargs_next hx27, slotAt_some hx28]; simp [oCells, Nat.add_assoc])
   replace hS := hS.perm ((List.Perm.swap _ _ _))
   exact N.loop (k + 1, vo30) ⟨rfl, rfl, rfl, rfl, rfl, rfl, rfl, rfl, trivial⟩ ⟨hS, by omega⟩ (by first | omega | (simp only; omega))
  have hc26p : ¬ ((k : Int) < (x.args.length : Int)) := by simpa using hc26
  refine W.exit (X.seq (X.loop (X.blk (N.seq (W.seq (W.region (WL.move rfl rfl rfl (WL.fieldAddr fo_69_4 rfl rfl rfl (WL.load1 (v := .string x.name) one_9 rfl rfl rfl (hS.cell 0 rfl rfl) ?_)))))))))
  refine WL.build (ps := [(0, .int .i64 29), (1, .int .i64 1)]) (cs := [.int .i64 29, .int .i64 1, .int .i64 0, .int .i64 0, .int .i64 0]) rfl rfl rfl (by kernel_rfl) ?_
  have hke : k = x.args.length := by omega
  rw [hke, List.take_length, cargs_len] at hS
  replace hS := hS.perm ((List.Perm.swap _ _ _))
  refine WL.callF (vs := [.pointer (some ⟨bm, 0, none⟩), .int .i64 1, .string x.name, .agg #[.int .i64 29, .int .i64 1, .int .i64 0, .int .i64 0, .int .i64 0]]) Tryd.func47 (by kernel_rfl) rfl rfl rfl (rel_ret 1 x.name ⟨29, 1, 0, 0, 0⟩ (by first | omega | (simp only; omega)) (by first | omega | (simp only; omega)) hS) ?_
  clear hS; rintro v w31 ⟨rfl, vo32, vr33, hS⟩
  refine WL.nil (N.seq (W.seq (W.region (WL.assign rfl rfl rfl (WL.nil (N.seq ?_))))))
  refine Fin.ret1 rfl (v := .int .i64 10) rfl ?_
  replace hS := hS.perm ((List.Perm.swap _ _ _))
  replace hS := hS.dropN 1
  have hrw1 : (⟨vo32, 36, 5, no + (cargs slots x.args ++ [(⟨29, 1, 0, 0, 0⟩ : DOp)] : List DOp).length, (co ++ oCells (cargs slots x.args ++ [(⟨29, 1, 0, 0, 0⟩ : DOp)]))⟩ : Row) = ⟨vo32, 36, 5, no + x.args.length + 1, (co ++ oCells (cargs slots x.args)) ++ oCells [⟨29, 1, 0, 0, 0⟩]⟩ := by simp [oCells, opL, Nat.add_assoc, cargs_len]
  have hrw2 : (⟨vr33, 34, 3, nr + ([(⟨((no + x.args.length : Nat) : Int), 1, x.name⟩ : DRel)] : List DRel).length, (cr ++ rCells ([(⟨((no + x.args.length : Nat) : Int), 1, x.name⟩ : DRel)] : List DRel))⟩ : Row) = ⟨vr33, 34, 3, nr + 1, cr ++ relL ⟨((no + x.args.length : Nat) : Int), 1, x.name⟩⟩ := by simp [rCells, relL, Nat.add_assoc]
  have hg : give17 no slots x = (cargs slots x.args ++ [(⟨29, 1, 0, 0, 0⟩ : DOp)], ([(⟨((no + x.args.length : Nat) : Int), 1, x.name⟩ : DRel)] : List DRel), 10) := by unfold give17; rw [if_neg hc3p, if_neg hc7p, if_neg hc14p, if_pos hc24p]
  rw [← hrw1, ← hrw2] at hS
  rw [hg]
  exact ⟨rfl, vo32, vr33, hS⟩
 have hc24p : ¬ (x.op = 14) := by simpa using hc24
 refine W.seq (W.region (WL.bin rfl rfl rfl rfl rfl (WL.assign rfl rfl rfl (WL.nil (N.seq ?_)))))
 refine W.cond rfl (fun hc34 => ?_) (fun hc34 => ?_)
 ·
  have hc34p : x.op = 15 := by simpa using hc34
  refine W.seq (W.region (WL.move rfl rfl rfl ?_))
  refine WL.build (ps := [(0, .int .i64 12), (1, .int .i64 17), (4, .int .i64 63)]) (cs := [.int .i64 12, .int .i64 17, .int .i64 0, .int .i64 0, .int .i64 63]) rfl rfl rfl (by kernel_rfl) ?_
  refine WL.build (ps := [(0, .int .i64 31)]) (cs := [.int .i64 31, .int .i64 0, .int .i64 0, .int .i64 0, .int .i64 0]) rfl rfl rfl (by kernel_rfl) ?_
  refine WL.buildSlice (ps := [(0, .agg #[.int .i64 12, .int .i64 17, .int .i64 0, .int .i64 0, .int .i64 63]), (1, .agg #[.int .i64 31, .int .i64 0, .int .i64 0, .int .i64 0, .int .i64 0])]) (cs := [.int .i64 12, .int .i64 17, .int .i64 0, .int .i64 0, .int .i64 63, .int .i64 31, .int .i64 0, .int .i64 0, .int .i64 0, .int .i64 0]) Tryd.underlying27 (tyZero_spec zer_36) rfl rfl rfl rfl (by kernel_rfl) hS ?_
  clear hS; intro w36 b35 hb_b35 hS
  replace hS := hS.perm (((List.Perm.cons _ (List.Perm.swap _ _ _))).trans ((List.Perm.swap _ _ _)))
  refine WL.callVB (vs := [.slice (some ⟨b35, 0, none⟩) 2 2]) (bs := #[.pointer (some ⟨bm, 0, none⟩)]) (cs := #[]) Tryd.func24 (by kernel_rfl) rfl rfl rfl rfl (put_ret (some ⟨b35, 0, none⟩) 2 2 [.int .i64 12, .int .i64 17, .int .i64 0, .int .i64 0, .int .i64 63, .int .i64 31, .int .i64 0, .int .i64 0, .int .i64 0, .int .i64 0] rfl (fun e => by cases e) (fun b off e => by cases e; exact hS.cells 1 (m := 10) rfl rfl) (fun a e _ => by cases e; rfl) (by intro u hu; simp only [List.mem_cons, List.not_mem_nil, or_false] at hu; rcases hu with rfl | rfl | rfl | rfl | rfl | rfl | rfl | rfl | rfl | rfl <;> rfl) (by first | omega | (simp only; omega)) hS) ?_
  clear hS; rintro v w37 ⟨rfl, vo38, hS⟩
  replace hS := hS.perm ((List.Perm.swap _ _ _))
  replace hS := hS.dropN 1
  refine WL.nil (N.seq (W.seq (W.region (WL.assign rfl rfl rfl (WL.nil (N.seq ?_))))))
  refine Fin.ret1 rfl (v := .int .i64 10) rfl ?_
  replace hS := hS.perm ((List.Perm.swap _ _ _))
  replace hS := hS.dropN 1
  have hrw1 : (⟨vo38, 36, 5, no + ([(⟨12, 17, 0, 0, 63⟩ : DOp), ⟨31, 0, 0, 0, 0⟩] : List DOp).length, (co ++ oCells ([(⟨12, 17, 0, 0, 63⟩ : DOp), ⟨31, 0, 0, 0, 0⟩]))⟩ : Row) = ⟨vo38, 36, 5, no + 2, co ++ [.int .i64 12, .int .i64 17, .int .i64 0, .int .i64 0, .int .i64 63, .int .i64 31, .int .i64 0, .int .i64 0, .int .i64 0, .int .i64 0]⟩ := by simp [oCells, opL, Nat.add_assoc]
  have hrw2 : (⟨vr, 34, 3, nr + ([] : List DRel).length, (cr ++ rCells ([] : List DRel))⟩ : Row) = ⟨vr, 34, 3, nr, cr⟩ := by simp [rCells, relL, Nat.add_assoc]
  have hg : give17 no slots x = ([(⟨12, 17, 0, 0, 63⟩ : DOp), ⟨31, 0, 0, 0, 0⟩], ([] : List DRel), 10) := by unfold give17; rw [if_neg hc3p, if_neg hc7p, if_neg hc14p, if_neg hc24p, if_pos hc34p]
  rw [← hrw1, ← hrw2] at hS
  rw [hg]
  exact ⟨rfl, vo38, vr, hS⟩
 have hc34p : ¬ (x.op = 15) := by simpa using hc34
 refine W.seq (W.region (WL.bin rfl rfl rfl rfl rfl (WL.assign rfl rfl rfl (WL.nil (N.seq ?_)))))
 refine W.cond rfl (fun hc39 => ?_) (fun hc39 => ?_)
 ·
  have hc39p : x.op = 16 := by simpa using hc39
  refine W.seq (W.region (WL.move rfl rfl rfl (WL.move rfl rfl rfl (WL.fieldAddr fo_69_1 rfl rfl rfl (WL.load1 (v := .int .i64 x.a) one_3 rfl rfl rfl (hS.cell 0 rfl rfl) ?_)))))
  have hv_a := huse x.a (uses5_a (by omega))
  have hvn_a : ((x.a.toNat : Nat) : Int) = x.a := by omega
  refine WL.set 88 (v' := .int .i64 (x.a.toNat : Int)) rfl (congrArg _ (by omega)) ?_
  have hj40 : x.a.toNat < slots.length := by omega
  obtain ⟨x40, hx40, b40, o40, cs40, hE40, hr40, _, hc40, hQ40⟩ := opn hsld hj40
  obtain ⟨rfl, hi40⟩ := hQ40
  refine WL.indexAddrE (j := x.a.toNat) Tryd.underlying55 isz_3 rfl rfl rfl rfl hj40 hE40 (WL.load1 (v := .int .i64 x40) one_3 rfl rfl rfl (hS.roCells hr40 hc40 0 _ rfl) ?_)
  have hsb_a := hsb _ (List.mem_of_getElem? hx40)
  replace hS := hS.perm ((List.Perm.swap _ _ _))
  refine WL.callF (vs := [.pointer (some ⟨bm, 0, none⟩), .int .i64 10, .int .i64 x40]) Tryd.func48 (by kernel_rfl) rfl rfl rfl (load_ret 10 x40 (by omega) (by first | omega | (simp only; omega)) hS) ?_
  clear hS; rintro v w41 ⟨rfl, vo42, hS⟩
  rw [← slotAt_some hx40] at hS
  refine WL.nil (N.seq (W.seq (W.region (WL.move rfl rfl rfl ?_))))
  refine WL.build (ps := [(0, .int .i64 12), (1, .int .i64 17), (4, .int .i64 64)]) (cs := [.int .i64 12, .int .i64 17, .int .i64 0, .int .i64 0, .int .i64 64]) rfl rfl rfl (by kernel_rfl) ?_
  refine WL.build (ps := [(0, .int .i64 31)]) (cs := [.int .i64 31, .int .i64 0, .int .i64 0, .int .i64 0, .int .i64 0]) rfl rfl rfl (by kernel_rfl) ?_
  refine WL.buildSlice (ps := [(0, .agg #[.int .i64 12, .int .i64 17, .int .i64 0, .int .i64 0, .int .i64 64]), (1, .agg #[.int .i64 31, .int .i64 0, .int .i64 0, .int .i64 0, .int .i64 0])]) (cs := [.int .i64 12, .int .i64 17, .int .i64 0, .int .i64 0, .int .i64 64, .int .i64 31, .int .i64 0, .int .i64 0, .int .i64 0, .int .i64 0]) Tryd.underlying27 (tyZero_spec zer_36) rfl rfl rfl rfl (by kernel_rfl) hS ?_
  clear hS; intro w44 b43 hb_b43 hS
  replace hS := hS.perm ((List.Perm.swap _ _ _))
  refine WL.callVB (vs := [.slice (some ⟨b43, 0, none⟩) 2 2]) (bs := #[.pointer (some ⟨bm, 0, none⟩)]) (cs := #[]) Tryd.func24 (by kernel_rfl) rfl rfl rfl rfl (put_ret (some ⟨b43, 0, none⟩) 2 2 [.int .i64 12, .int .i64 17, .int .i64 0, .int .i64 0, .int .i64 64, .int .i64 31, .int .i64 0, .int .i64 0, .int .i64 0, .int .i64 0] rfl (fun e => by cases e) (fun b off e => by cases e; exact hS.cells 1 (m := 10) rfl rfl) (fun a e _ => by cases e; rfl) (by intro u hu; simp only [List.mem_cons, List.not_mem_nil, or_false] at hu; rcases hu with rfl | rfl | rfl | rfl | rfl | rfl | rfl | rfl | rfl | rfl <;> rfl) (by first | omega | (simp only; omega)) hS) ?_
  clear hS; rintro v w45 ⟨rfl, vo46, hS⟩
  replace hS := hS.perm ((List.Perm.swap _ _ _))
  replace hS := hS.dropN 1
  refine WL.nil (N.seq (W.seq (W.region (WL.assign rfl rfl rfl (WL.nil (N.seq ?_))))))
  refine Fin.ret1 rfl (v := .int .i64 0) rfl ?_
  replace hS := hS.perm ((List.Perm.swap _ _ _))
  replace hS := hS.dropN 1
  have hrw1 : (⟨vo46, 36, 5, no + ([ld 10 (slotAt slots x.a), ⟨12, 17, 0, 0, 64⟩, ⟨31, 0, 0, 0, 0⟩] : List DOp).length, (co ++ oCells ([ld 10 (slotAt slots x.a), ⟨12, 17, 0, 0, 64⟩, ⟨31, 0, 0, 0, 0⟩]))⟩ : Row) = ⟨vo46, 36, 5, no + 1 + 2, co ++ oCells [ld 10 (slotAt slots x.a)] ++ [.int .i64 12, .int .i64 17, .int .i64 0, .int .i64 0, .int .i64 64, .int .i64 31, .int .i64 0, .int .i64 0, .int .i64 0, .int .i64 0]⟩ := by simp [oCells, opL, Nat.add_assoc]
  have hrw2 : (⟨vr, 34, 3, nr + ([] : List DRel).length, (cr ++ rCells ([] : List DRel))⟩ : Row) = ⟨vr, 34, 3, nr, cr⟩ := by simp [rCells, relL, Nat.add_assoc]
  have hg : give17 no slots x = ([ld 10 (slotAt slots x.a), ⟨12, 17, 0, 0, 64⟩, ⟨31, 0, 0, 0, 0⟩], ([] : List DRel), 0) := by unfold give17; rw [if_neg hc3p, if_neg hc7p, if_neg hc14p, if_neg hc24p, if_neg hc34p, if_pos hc39p]
  rw [← hrw1, ← hrw2] at hS
  rw [hg]
  exact ⟨rfl, vo46, vr, hS⟩
 have hc39p : ¬ (x.op = 16) := by simpa using hc39
 refine W.skip (N.blk (N.seq (W.seq (W.region (WL.move rfl rfl rfl (WL.move rfl rfl rfl (WL.fieldAddr fo_69_1 rfl rfl rfl (WL.load1 (v := .int .i64 x.a) one_3 rfl rfl rfl (hS.cell 0 rfl rfl) ?_))))))))
 have hv_a := huse x.a (uses5_a (by omega))
 have hvn_a : ((x.a.toNat : Nat) : Int) = x.a := by omega
 refine WL.set 100 (v' := .int .i64 (x.a.toNat : Int)) rfl (congrArg _ (by omega)) ?_
 have hj47 : x.a.toNat < slots.length := by omega
 obtain ⟨x47, hx47, b47, o47, cs47, hE47, hr47, _, hc47, hQ47⟩ := opn hsld hj47
 obtain ⟨rfl, hi47⟩ := hQ47
 refine WL.indexAddrE (j := x.a.toNat) Tryd.underlying55 isz_3 rfl rfl rfl rfl hj47 hE47 (WL.load1 (v := .int .i64 x47) one_3 rfl rfl rfl (hS.roCells hr47 hc47 0 _ rfl) ?_)
 have hsb_a := hsb _ (List.mem_of_getElem? hx47)
 replace hS := hS.perm ((List.Perm.swap _ _ _))
 refine WL.callF (vs := [.pointer (some ⟨bm, 0, none⟩), .int .i64 5, .int .i64 x47]) Tryd.func48 (by kernel_rfl) rfl rfl rfl (load_ret 5 x47 (by omega) (by first | omega | (simp only; omega)) hS) ?_
 clear hS; rintro v w48 ⟨rfl, vo49, hS⟩
 rw [← slotAt_some hx47] at hS
 refine WL.nil (N.seq (W.seq (W.region (WL.move rfl rfl rfl (WL.move rfl rfl rfl (WL.fieldAddr fo_69_2 rfl rfl rfl (WL.load1 (v := .int .i64 x.b) one_3 rfl rfl rfl (hS.cell 1 rfl rfl) ?_)))))))
 have hv_b := huse x.b (uses5_b (by omega))
 have hvn_b : ((x.b.toNat : Nat) : Int) = x.b := by omega
 refine WL.set 107 (v' := .int .i64 (x.b.toNat : Int)) rfl (congrArg _ (by omega)) ?_
 have hj50 : x.b.toNat < slots.length := by omega
 obtain ⟨x50, hx50, b50, o50, cs50, hE50, hr50, _, hc50, hQ50⟩ := opn hsld hj50
 obtain ⟨rfl, hi50⟩ := hQ50
 refine WL.indexAddrE (j := x.b.toNat) Tryd.underlying55 isz_3 rfl rfl rfl rfl hj50 hE50 (WL.load1 (v := .int .i64 x50) one_3 rfl rfl rfl (hS.roCells hr50 hc50 0 _ rfl) ?_)
 have hsb_b := hsb _ (List.mem_of_getElem? hx50)
 refine WL.callF (vs := [.pointer (some ⟨bm, 0, none⟩), .int .i64 6, .int .i64 x50]) Tryd.func48 (by kernel_rfl) rfl rfl rfl (load_ret 6 x50 (by omega) (by first | omega | (simp only; omega)) hS) ?_
 clear hS; rintro v w51 ⟨rfl, vo52, hS⟩
 rw [← slotAt_some hx50] at hS
 refine WL.nil (N.seq (W.seq (W.region (WL.move rfl rfl rfl (WL.fieldAddr fo_69_0 rfl rfl rfl (WL.load1 (v := .int .i64 x.op) one_3 rfl rfl rfl (hS.cell 1 rfl rfl) ?_))))))
 have hop11 : 1 ≤ x.op ∧ x.op ≤ 11 := by omega
 refine WL.set 113 (v' := .int .i64 ((x.op.toNat : Nat) : Int)) rfl (congrArg _ (by omega)) ?_
 refine WL.indexArr (j := x.op.toNat) Tryd.underlying94 isz_3 rfl rfl rfl rfl (by omega) ?_
 refine WL.load1 (v := .int .i64 (reckK x.op)) one_3 rfl rfl rfl (by have h := hS.roCells hr0 hc0 x.op.toNat _ (reck_at hop11); simpa using h) ?_
 refine WL.build (ps := [(0, .int .i64 (reckK x.op)), (1, .int .i64 5), (2, .int .i64 5), (3, .int .i64 6)]) (cs := [.int .i64 (reckK x.op), .int .i64 5, .int .i64 5, .int .i64 6, .int .i64 0]) rfl rfl rfl (by kernel_rfl) ?_
 refine WL.buildSlice (ps := [(0, .agg #[.int .i64 (reckK x.op), .int .i64 5, .int .i64 5, .int .i64 6, .int .i64 0])]) (cs := [.int .i64 (reckK x.op), .int .i64 5, .int .i64 5, .int .i64 6, .int .i64 0]) Tryd.underlying27 (tyZero_spec zer_36) rfl rfl rfl rfl (by kernel_rfl) hS ?_
 clear hS; intro w54 b53 hb_b53 hS
 replace hS := hS.perm ((List.Perm.swap _ _ _))
 refine WL.callVB (vs := [.slice (some ⟨b53, 0, none⟩) 1 1]) (bs := #[.pointer (some ⟨bm, 0, none⟩)]) (cs := #[]) Tryd.func24 (by kernel_rfl) rfl rfl rfl rfl (put_ret (some ⟨b53, 0, none⟩) 1 1 [.int .i64 (reckK x.op), .int .i64 5, .int .i64 5, .int .i64 6, .int .i64 0] rfl (fun e => by cases e) (fun b off e => by cases e; exact hS.cells 1 (m := 5) rfl rfl) (fun a e _ => by cases e; rfl) (by intro u hu; simp only [List.mem_cons, List.not_mem_nil, or_false] at hu; rcases hu with rfl | rfl | rfl | rfl | rfl <;> rfl) (by first | omega | (simp only; omega)) hS) ?_
 clear hS; rintro v w55 ⟨rfl, vo56, hS⟩
 replace hS := hS.perm ((List.Perm.swap _ _ _))
 replace hS := hS.dropN 1
 refine WL.nil (N.seq (W.seq (W.seq (W.region (WL.fieldAddr fo_69_0 rfl rfl rfl (WL.load1 (v := .int .i64 x.op) one_3 rfl rfl rfl (hS.cell 1 rfl rfl) (WL.bin rfl rfl rfl rfl rfl (WL.nil (N.seq ?_)))))))))
 refine W.cond rfl (fun hc57 => ?_) (fun hc57 => ?_)
 ·
  have hc57p : x.op = 11 := by simpa using hc57
  refine W.region (WL.move rfl rfl rfl ?_)
  refine WL.build (ps := [(0, .int .i64 13), (1, .int .i64 5), (2, .int .i64 5), (4, .int .i64 1)]) (cs := [.int .i64 13, .int .i64 5, .int .i64 5, .int .i64 0, .int .i64 1]) rfl rfl rfl (by kernel_rfl) ?_
  refine WL.buildSlice (ps := [(0, .agg #[.int .i64 13, .int .i64 5, .int .i64 5, .int .i64 0, .int .i64 1])]) (cs := [.int .i64 13, .int .i64 5, .int .i64 5, .int .i64 0, .int .i64 1]) Tryd.underlying27 (tyZero_spec zer_36) rfl rfl rfl rfl (by kernel_rfl) hS ?_
  clear hS; intro w59 b58 hb_b58 hS
  replace hS := hS.perm ((List.Perm.swap _ _ _))
  refine WL.callVB (vs := [.slice (some ⟨b58, 0, none⟩) 1 1]) (bs := #[.pointer (some ⟨bm, 0, none⟩)]) (cs := #[]) Tryd.func24 (by kernel_rfl) rfl rfl rfl rfl (put_ret (some ⟨b58, 0, none⟩) 1 1 [.int .i64 13, .int .i64 5, .int .i64 5, .int .i64 0, .int .i64 1] rfl (fun e => by cases e) (fun b off e => by cases e; exact hS.cells 1 (m := 5) rfl rfl) (fun a e _ => by cases e; rfl) (by intro u hu; simp only [List.mem_cons, List.not_mem_nil, or_false] at hu; rcases hu with rfl | rfl | rfl | rfl | rfl <;> rfl) (by first | omega | (simp only; omega)) hS) ?_
  clear hS; rintro v w60 ⟨rfl, vo61, hS⟩
  replace hS := hS.perm ((List.Perm.swap _ _ _))
  replace hS := hS.dropN 1
  refine WL.nil (N.seq (W.seq (W.region (WL.assign rfl rfl rfl (WL.nil (N.seq ?_))))))
  refine Fin.ret1 rfl (v := .int .i64 5) rfl ?_
  replace hS := hS.perm ((List.Perm.swap _ _ _))
  replace hS := hS.dropN 1
  have hrw1 : (⟨vo61, 36, 5, no + ([ld 5 (slotAt slots x.a), ld 6 (slotAt slots x.b), ⟨reckK x.op, 5, 5, 6, 0⟩] ++ [(⟨13, 5, 5, 0, 1⟩ : DOp)] : List DOp).length, (co ++ oCells ([ld 5 (slotAt slots x.a), ld 6 (slotAt slots x.b), ⟨reckK x.op, 5, 5, 6, 0⟩] ++ [(⟨13, 5, 5, 0, 1⟩ : DOp)]))⟩ : Row) = ⟨vo61, 36, 5, no + 1 + 1 + 1 + 1, co ++ oCells [ld 5 (slotAt slots x.a)] ++ oCells [ld 6 (slotAt slots x.b)] ++ [.int .i64 (reckK x.op), .int .i64 5, .int .i64 5, .int .i64 6, .int .i64 0] ++ [.int .i64 13, .int .i64 5, .int .i64 5, .int .i64 0, .int .i64 1]⟩ := by simp [oCells, opL, Nat.add_assoc]
  have hrw2 : (⟨vr, 34, 3, nr + ([] : List DRel).length, (cr ++ rCells ([] : List DRel))⟩ : Row) = ⟨vr, 34, 3, nr, cr⟩ := by simp [rCells, relL, Nat.add_assoc]
  have hg : give17 no slots x = ([ld 5 (slotAt slots x.a), ld 6 (slotAt slots x.b), ⟨reckK x.op, 5, 5, 6, 0⟩] ++ [(⟨13, 5, 5, 0, 1⟩ : DOp)], ([] : List DRel), 5) := by unfold give17; rw [if_neg hc3p, if_neg hc7p, if_neg hc14p, if_neg hc24p, if_neg hc34p, if_neg hc39p, if_pos hc57p]
  rw [← hrw1, ← hrw2] at hS
  rw [hg]
  exact ⟨rfl, vo61, vr, hS⟩
 have hc57p : ¬ (x.op = 11) := by simpa using hc57
 refine W.skip (N.seq (W.seq (W.region (WL.assign rfl rfl rfl (WL.nil (N.seq ?_))))))
 refine Fin.ret1 rfl (v := .int .i64 5) rfl ?_
 replace hS := hS.perm ((List.Perm.swap _ _ _))
 replace hS := hS.dropN 1
 have hrw1 : (⟨vo56, 36, 5, no + ([ld 5 (slotAt slots x.a), ld 6 (slotAt slots x.b), ⟨reckK x.op, 5, 5, 6, 0⟩] ++ [] : List DOp).length, (co ++ oCells ([ld 5 (slotAt slots x.a), ld 6 (slotAt slots x.b), ⟨reckK x.op, 5, 5, 6, 0⟩] ++ []))⟩ : Row) = ⟨vo56, 36, 5, no + 1 + 1 + 1, co ++ oCells [ld 5 (slotAt slots x.a)] ++ oCells [ld 6 (slotAt slots x.b)] ++ [.int .i64 (reckK x.op), .int .i64 5, .int .i64 5, .int .i64 6, .int .i64 0]⟩ := by simp [oCells, opL, Nat.add_assoc]
 have hrw2 : (⟨vr, 34, 3, nr + ([] : List DRel).length, (cr ++ rCells ([] : List DRel))⟩ : Row) = ⟨vr, 34, 3, nr, cr⟩ := by simp [rCells, relL, Nat.add_assoc]
 have hg : give17 no slots x = ([ld 5 (slotAt slots x.a), ld 6 (slotAt slots x.b), ⟨reckK x.op, 5, 5, 6, 0⟩] ++ [], ([] : List DRel), 5) := by unfold give17; rw [if_neg hc3p, if_neg hc7p, if_neg hc14p, if_neg hc24p, if_neg hc34p, if_neg hc39p, if_neg hc57p]
 rw [← hrw1, ← hrw2] at hS
 rw [hg]
 exact ⟨rfl, vo56, vr, hS⟩

end Go.Proofs.YtcmmhfknkldmcaaDoor
