/-
  Contracts of layer 17 (gen). No condition beyond those that each theorem states.
-/
import Derived.Test.YtcmmhfknkldmcaaDoorG5
namespace Go.Proofs.YtcmmhfknkldmcaaDoor
open Go.RowKit
theorem fo_64_1 : fOff Tryd.prog 64 1 4 = true := by kernel_rfl
def slotAt (slots : List Int) (v : Int) : Int := slots.getD v.toNat 0
def handA (slots : List Int) (mn : Int) (args : List Int) : List DOp := args.zipIdx.flatMap fun p => [ld 5 (slotAt slots p.1), sv 5 (mn + (p.2 : Int))]
def handB (mn : Int) (n : Nat) : List DOp := (List.range n).flatMap fun (k : Nat) => [ld 5 (mn + (k : Int)), sv 5 (k : Int)]
def hand17 (slots : List Int) (mn : Int) (args : List Int) : List DOp := handA slots mn args ++ handB mn args.length
theorem handA_next {slots : List Int} {mn : Int} {args : List Int} {k : Nat} {v : Int} (h : args[k]? = some v) : handA slots mn (args.take (k + 1)) = handA slots mn (args.take k) ++ [ld 5 (slotAt slots v)] ++ [sv 5 (mn + (k : Int))] := by
  have hk := (List.getElem?_eq_some_iff.1 h).1
  unfold handA
  rw [take_next h, List.zipIdx_append, List.flatMap_append]
  simp [List.length_take, Nat.min_eq_left (Nat.le_of_lt hk)]
theorem handB_next (mn : Int) (k : Nat) : handB mn (k + 1) = handB mn k ++ [ld 5 (mn + (k : Int))] ++ [sv 5 (k : Int)] := by
  unfold handB
  rw [List.range_succ, List.flatMap_append]
  simp
theorem handA_len (slots : List Int) (mn : Int) (args : List Int) : (handA slots mn args).length = 2 * args.length := by
  induction args using snoc_ind with
  | h0 => rfl
  | h1 l x ih =>
    have h := handA_next (slots := slots) (mn := mn) (args := l ++ [x]) (k := l.length) (v := x) (by simp)
    rw [List.take_of_length_le (by simp), List.take_left] at h
    rw [h]; simp only [List.length_append, ih, List.length_cons, List.length_nil]; omega
theorem handB_len (mn : Int) (n : Nat) : (handB mn n).length = 2 * n := by
  induction n with
  | zero => rfl
  | succ n ih => rw [handB_next]; simp only [List.length_append, ih, List.length_cons, List.length_nil]; omega
theorem hand17_len (slots : List Int) (mn : Int) (args : List Int) : (hand17 slots mn args).length = 4 * args.length := by
  unfold hand17; rw [List.length_append, handA_len, handB_len]; omega
theorem slotAt_some {slots : List Int} {v : Int} {x : Int} (h : slots[v.toNat]? = some x) : slotAt slots v = x := by unfold slotAt; rw [List.getD_eq_getElem?_getD, h]; rfl
theorem okld {r s : Int} (hr : -1000 ≤ r ∧ r ≤ 1000) (hs : -1000000 ≤ s ∧ s ≤ 1000000) : okOp (ld r s) := okO (inK (by omega)) (inK (by omega)) (inK (by omega)) (inK (by omega)) (inK (by omega))
theorem oksv {r s : Int} (hr : -1000 ≤ r ∧ r ≤ 1000) (hs : -1000000 ≤ s ∧ s ≤ 1000000) : okOp (sv r s) := okO (inK (by omega)) (inK (by omega)) (inK (by omega)) (inK (by omega)) (inK (by omega))

set_option maxRecDepth 10000 in
set_option maxHeartbeats 4000000 in
theorem hand_ret {w0 ws w : World} {ro : Nat → Prop} {L : List (Nat × Obj)} {Rs : List Row} {bm : Nat} {fn cn : ByteArray} {fb fp mn fr : Int} {fv vo vr vs vj : Value} {no : Nat} {co : List Value} (slots args : List Int) (vsl va : Value) (hsl : SlV ro ws 1 IntC vsl slots) (har : SlV ro ws 1 IntC va args) (hv : ∀ v ∈ args, 0 ≤ v ∧ v < slots.length) (hsb : ∀ x ∈ slots, 0 ≤ x ∧ x ≤ 1000) (hmn : 0 ≤ mn ∧ mn ≤ 1000) (hal : args.length ≤ 6) (hno : no + 30 ≤ 1000000) (hS : St w0 ws w ro ((bm, .cells #[.string fn, .int .i64 fb, .int .i64 fp, fv, .int .i64 mn, .int .i64 fr, .string cn, vo, vr, vs, vj] 64 (0, 0)) :: L) (⟨vo, 36, 5, no, co⟩ :: Rs)) : Ret Tryd.prog 67 #[.pointer (some ⟨bm, 0, none⟩), vsl, va] w fun v w' => v = .tuple #[] ∧ ∃ vo2, St w0 ws w' ro ((bm, .cells #[.string fn, .int .i64 fb, .int .i64 fp, fv, .int .i64 mn, .int .i64 fr, .string cn, vo2, vr, vs, vj] 64 (0, 0)) :: L) (⟨vo2, 36, 5, no + (hand17 slots mn args).length, (co ++ oCells (hand17 slots mn args))⟩ :: Rs) := by
 obtain ⟨ads, caps, rfl, hsla, hslb, hslc, hsld⟩ := id hsl
 have hslm : slots.length ≤ 9223372036854775807 := by have h1 := hsla; have h2 := hslb; unfold maxLen at h2; omega
 obtain ⟨ada, capa, rfl, hara, harb, harc, hard⟩ := id har
 have harm : args.length ≤ 9223372036854775807 := by have h1 := hara; have h2 := harb; unfold maxLen at h2; omega
 refine Ret.enter (P := Tryd.prog) (n := 48) (args := [.pointer (some ⟨bm, 0, none⟩), .slice ads slots.length caps, .slice ada args.length capa]) (σ := [(0, .pointer (some ⟨bm, 0, none⟩)), (1, .slice ads slots.length caps), (2, .slice ada args.length capa)]) Tryd.func67 rfl rfl rfl rfl ?_
 refine W.seq (W.seq (W.region (WL.move rfl rfl rfl (WL.lenSlice Tryd.underlying55 rfl rfl rfl (WL.move rfl rfl rfl (WL.nil (N.seq (W.block ?_))))))))
 have hS0 : St w0 ws w ro ((bm, .cells #[.string fn, .int .i64 fb, .int .i64 fp, fv, .int .i64 mn, .int .i64 fr, .string cn, vo, vr, vs, vj] 64 (0, 0)) :: L) (⟨vo, 36, 5, no + (handA slots mn (args.take 0)).length, (co ++ oCells (handA slots mn (args.take 0)))⟩ :: Rs) := by have h := hS; simpa [handA, oCells] using h
 refine W.loop (α := Nat × Value) (fun ⟨k, v1⟩ => [(0, .pointer (some ⟨bm, 0, none⟩)), (1, .slice ads slots.length caps), (2, .slice ada args.length capa), (9, .slice ada args.length capa), (10, .int .i64 (args.length : Int)), (11, .int .i64 (k : Int))]) (fun ⟨k, v1⟩ u => St w0 ws u ro ((bm, .cells #[.string fn, .int .i64 fb, .int .i64 fp, fv, .int .i64 mn, .int .i64 fr, .string cn, v1, vr, vs, vj] 64 (0, 0)) :: L) (⟨v1, 36, 5, no + (handA slots mn (args.take k)).length, (co ++ oCells (handA slots mn (args.take k)))⟩ :: Rs) ∧ k ≤ args.length) (fun ⟨k, v1⟩ => args.length - k) (0, vo) ⟨rfl, rfl, rfl, rfl, rfl, rfl, trivial⟩ ⟨hS0, Nat.zero_le _⟩ ?_
 clear hS
 rintro ⟨k, v1⟩ w1 ⟨hS, hk⟩
 have hla := handA_len slots mn (args.take k); rw [List.length_take] at hla
 refine W.seq (W.region (WL.bin rfl rfl rfl rfl rfl (WL.nil (N.seq (W.seq ?_)))))
 refine W.cond rfl (fun hc2 => ?_) (fun hc2 => ?_)
 ·
  have hc2p : (k : Int) < (args.length : Int) := by simpa using hc2
  refine W.skip (N.seq (W.seq (W.block (W.seq (W.region (WL.move rfl rfl rfl ?_))))))
  have hj3 : k < args.length := by omega
  obtain ⟨x3, hx3, b3, o3, cs3, hE3, hr3, _, hc3, hQ3⟩ := opn hard hj3
  obtain ⟨rfl, hi3⟩ := hQ3
  refine WL.indexAddrE (j := k) Tryd.underlying55 isz_3 rfl rfl rfl rfl hj3 hE3 (WL.load1 (v := .int .i64 x3) one_3 rfl rfl rfl (hS.roCells hr3 hc3 0 _ rfl) (WL.assign rfl rfl rfl (WL.assign rfl rfl rfl (WL.nil (N.seq (W.seq ?_))))))
  have hvb := hv _ (List.mem_of_getElem? hx3)
  have hvn : ((x3.toNat : Nat) : Int) = x3 := by omega
  refine W.region (WL.move rfl rfl rfl (WL.move rfl rfl rfl (WL.move rfl rfl rfl ?_)))
  refine WL.set 18 (v' := .int .i64 (x3.toNat : Int)) rfl (congrArg _ (by omega)) ?_
  have hj4 : x3.toNat < slots.length := by omega
  obtain ⟨x4, hx4, b4, o4, cs4, hE4, hr4, _, hc4, hQ4⟩ := opn hsld hj4
  obtain ⟨rfl, hi4⟩ := hQ4
  refine WL.indexAddrE (j := x3.toNat) Tryd.underlying55 isz_3 rfl rfl rfl rfl hj4 hE4 (WL.load1 (v := .int .i64 x4) one_3 rfl rfl rfl (hS.roCells hr4 hc4 0 _ rfl) ?_)
  have hsb2 := hsb _ (List.mem_of_getElem? hx4)
  refine WL.callF (vs := [.pointer (some ⟨bm, 0, none⟩), .int .i64 5, .int .i64 x4]) Tryd.func48 (by kernel_rfl) rfl rfl rfl (load_ret 5 x4 (by omega) (by first | omega | (simp only; omega)) hS) ?_
  clear hS; rintro v w5 ⟨rfl, vo6, hS⟩
  refine WL.nil (N.seq (W.region (WL.move rfl rfl rfl (WL.move rfl rfl rfl (WL.nilPtr rfl rfl rfl (WL.fieldAddr fo_64_1 rfl rfl rfl (WL.load1 (v := .int .i64 mn) one_3 rfl rfl rfl (hS.cell 0 rfl rfl) (WL.move rfl rfl rfl ?_))))))))
  refine WL.add (c := mn + (k : Int)) rfl rfl rfl rfl rfl (by omega) ?_
  refine WL.callF (vs := [.pointer (some ⟨bm, 0, none⟩), .int .i64 5, .int .i64 (mn + (k : Int))]) Tryd.func25 (by kernel_rfl) rfl rfl rfl (save_ret 5 (mn + (k : Int)) (by omega) (by first | omega | (simp only; omega)) hS) ?_
  clear hS; rintro v w7 ⟨rfl, vo8, hS⟩
  refine WL.nil (N.blk (N.seq (W.region ?_)))
  refine WL.add (c := (k : Int) + 1) rfl rfl rfl rfl (rfl) (by omega) ?_
  refine WL.move rfl rfl rfl (WL.nil ?_)
  replace hS := hS.rw0 (show (⟨vo8, 36, 5, no + (handA slots mn (args.take (k + 1))).length, (co ++ oCells (handA slots mn (args.take (k + 1))))⟩ : Row) = ⟨vo8, 36, 5, no + (handA slots mn (args.take k)).length + 1 + 1, (co ++ oCells (handA slots mn (args.take k))) ++ oCells [ld 5 x4] ++ oCells [sv 5 (mn + (k : Int))]⟩ by rw [handA_next hx3, slotAt_some hx4]; simp [oCells, Nat.add_assoc])
  exact N.loop (k + 1, vo8) ⟨rfl, rfl, rfl, rfl, rfl, rfl, trivial⟩ ⟨hS, by omega⟩ (by first | omega | (simp only; omega))
 have hc2p : ¬ ((k : Int) < (args.length : Int)) := by simpa using hc2
 refine W.exit (X.seq (X.loop (X.blk (N.seq (W.seq (W.region (WL.move rfl rfl rfl (WL.lenSlice Tryd.underlying55 rfl rfl rfl (WL.move rfl rfl rfl ?_)))))))))
 refine WL.nil (N.seq (W.block ?_))
 rw [show k = args.length by omega, List.take_length] at hS
 have hS0 : St w0 ws w1 ro ((bm, .cells #[.string fn, .int .i64 fb, .int .i64 fp, fv, .int .i64 mn, .int .i64 fr, .string cn, v1, vr, vs, vj] 64 (0, 0)) :: L) (⟨v1, 36, 5, no + (handA slots mn args ++ handB mn 0).length, (co ++ oCells (handA slots mn args ++ handB mn 0))⟩ :: Rs) := by have h := hS; simpa [handB, oCells] using h
 refine W.loop (α := Nat × Value) (fun ⟨j, v2⟩ => [(0, .pointer (some ⟨bm, 0, none⟩)), (32, .int .i64 (args.length : Int)), (33, .int .i64 (j : Int))]) (fun ⟨j, v2⟩ u => St w0 ws u ro ((bm, .cells #[.string fn, .int .i64 fb, .int .i64 fp, fv, .int .i64 mn, .int .i64 fr, .string cn, v2, vr, vs, vj] 64 (0, 0)) :: L) (⟨v2, 36, 5, no + (handA slots mn args ++ handB mn j).length, (co ++ oCells (handA slots mn args ++ handB mn j))⟩ :: Rs) ∧ j ≤ args.length) (fun ⟨j, v2⟩ => args.length - j) (0, v1) ⟨rfl, rfl, rfl, trivial⟩ ⟨hS0, Nat.zero_le _⟩ ?_
 clear hS
 rintro ⟨j, v2⟩ w9 ⟨hS, hj⟩
 have hlb := handB_len mn j; have hlc := handA_len slots mn args; have hld : (handA slots mn args ++ handB mn j).length = 2 * args.length + 2 * j := by rw [List.length_append, hlb, hlc]
 refine W.seq (W.region (WL.bin rfl rfl rfl rfl rfl (WL.nil (N.seq (W.seq ?_)))))
 refine W.cond rfl (fun hc10 => ?_) (fun hc10 => ?_)
 ·
  have hc10p : (j : Int) < (args.length : Int) := by simpa using hc10
  refine W.skip (N.seq (W.seq (W.block (W.seq (W.region (WL.move rfl rfl rfl (WL.assign rfl rfl rfl (WL.nil (N.seq ?_)))))))))
  refine W.seq (W.region (WL.move rfl rfl rfl (WL.move rfl rfl rfl (WL.nilPtr rfl rfl rfl (WL.fieldAddr fo_64_1 rfl rfl rfl (WL.load1 (v := .int .i64 mn) one_3 rfl rfl rfl (hS.cell 0 rfl rfl) (WL.move rfl rfl rfl ?_)))))))
  refine WL.add (c := mn + (j : Int)) rfl rfl rfl rfl rfl (by omega) ?_
  refine WL.callF (vs := [.pointer (some ⟨bm, 0, none⟩), .int .i64 5, .int .i64 (mn + (j : Int))]) Tryd.func48 (by kernel_rfl) rfl rfl rfl (load_ret 5 (mn + (j : Int)) (by omega) (by first | omega | (simp only; omega)) hS) ?_
  clear hS; rintro v w11 ⟨rfl, vo12, hS⟩
  refine WL.nil (N.seq (W.region (WL.move rfl rfl rfl (WL.move rfl rfl rfl ?_))))
  refine WL.callF (vs := [.pointer (some ⟨bm, 0, none⟩), .int .i64 5, .int .i64 (j : Int)]) Tryd.func25 (by kernel_rfl) rfl rfl rfl (save_ret 5 (j : Int) (by omega) (by first | omega | (simp only; omega)) hS) ?_
  clear hS; rintro v w13 ⟨rfl, vo14, hS⟩
  refine WL.nil (N.blk (N.seq (W.region ?_)))
  refine WL.add (c := (j : Int) + 1) rfl rfl rfl rfl (rfl) (by omega) ?_
  refine WL.move rfl rfl rfl (WL.nil ?_)
  replace hS := hS.rw0 (show (⟨vo14, 36, 5, no + (handA slots mn args ++ handB mn (j + 1)).length, (co ++ oCells (handA slots mn args ++ handB mn (j + 1)))⟩ : Row) = ⟨vo14, 36, 5, no + (handA slots mn args ++ handB mn j).length + 1 + 1, (co ++ oCells (handA slots mn args ++ handB mn j)) ++ oCells [ld 5 (mn + (j : Int))] ++ oCells [sv 5 (j : Int)]⟩ by rw [handB_next]; simp [oCells, Nat.add_assoc])
  exact N.loop (j + 1, vo14) ⟨rfl, rfl, rfl, trivial⟩ ⟨hS, by omega⟩ (by first | omega | (simp only; omega))
 have hc10p : ¬ ((j : Int) < (args.length : Int)) := by simpa using hc10
 refine W.exit (X.seq (X.loop (X.blk ?_)))
 refine Fin.end0 rfl ?_
 rw [show j = args.length by omega] at hS
 exact ⟨rfl, _, hS⟩

set_option maxRecDepth 10000 in
set_option maxHeartbeats 4000000 in
theorem goes_ret {w0 ws w : World} {ro : Nat → Prop} {L : List (Nat × Obj)} {Rs : List Row} {bm : Nat} {fn cn : ByteArray} {fb fp mn fr : Int} {fv vo vr vs vj : Value} {no : Nat} {co : List Value} {nj : Nat} {cj : List Value} (to : Int) (slots args : List Int) (vsl va : Value) (hsl : SlV ro ws 1 IntC vsl slots) (har : SlV ro ws 1 IntC va args) (hv : ∀ v ∈ args, 0 ≤ v ∧ v < slots.length) (hsb : ∀ x ∈ slots, 0 ≤ x ∧ x ≤ 1000) (hmn : 0 ≤ mn ∧ mn ≤ 1000) (hal : args.length ≤ 6) (hno : no + 30 ≤ 1000000) (hnj : nj + 1 ≤ 1000000) (hS : St w0 ws w ro ((bm, .cells #[.string fn, .int .i64 fb, .int .i64 fp, fv, .int .i64 mn, .int .i64 fr, .string cn, vo, vr, vs, vj] 64 (0, 0)) :: L) (⟨vo, 36, 5, no, co⟩ :: ⟨vj, 1, 1, nj, cj⟩ :: Rs)) : Ret Tryd.prog 51 #[.pointer (some ⟨bm, 0, none⟩), vsl, .int .i64 to, va] w fun v w' => v = .tuple #[] ∧ ∃ vo2 vj2 bT bA bW b4 b6, St w0 ws w' ro ((bm, .cells #[.string fn, .int .i64 fb, .int .i64 fp, fv, .int .i64 mn, .int .i64 fr, .string cn, vo2, vr, vs, vj2] 64 (0, 0)) :: (bT, .cells #[.func (.func 68) #[] #[.pointer (some ⟨b4, 0, none⟩), .pointer (some ⟨b6, 0, none⟩)]] 96 (0, 0)) :: (bA, .cells #[.int .i64 ((no + (hand17 slots mn args).length : Nat) : Int)] 3 (0, 0)) :: (bW, .cells #[.pointer (some ⟨bm, 0, none⟩)] 61 (0, 0)) :: (b4, .cells #[.pointer (some ⟨bm, 0, none⟩)] 61 (0, 0)) :: (b6, .cells #[.int .i64 to] 3 (0, 0)) :: L) (⟨vo2, 36, 5, no + (hand17 slots mn args ++ [jal]).length, (co ++ oCells (hand17 slots mn args ++ [jal]))⟩ :: ⟨vj2, 1, 1, nj + 1, cj ++ [jumpV bT bA bW]⟩ :: Rs) := by
 have hslo := hsl; have haro := har
 obtain ⟨ads, caps, rfl, hsla, hslb, hslc, hsld⟩ := id hsl
 have hslm : slots.length ≤ 9223372036854775807 := by have h1 := hsla; have h2 := hslb; unfold maxLen at h2; omega
 obtain ⟨ada, capa, rfl, hara, harb, harc, hard⟩ := id har
 have harm : args.length ≤ 9223372036854775807 := by have h1 := hara; have h2 := harb; unfold maxLen at h2; omega
 refine Ret.enter (P := Tryd.prog) (n := 15) (args := [.pointer (some ⟨bm, 0, none⟩), .slice ads slots.length caps, .int .i64 to, .slice ada args.length capa]) (σ := [(0, .pointer (some ⟨bm, 0, none⟩)), (1, .slice ads slots.length caps), (2, .int .i64 to), (3, .slice ada args.length capa)]) Tryd.func51 rfl rfl rfl rfl ?_
 refine W.seq (W.region ?_)
 refine WL.box (v := .pointer (some ⟨bm, 0, none⟩)) (cs := [.pointer (some ⟨bm, 0, none⟩)]) rfl rfl rfl rfl hS ?_
 clear hS; intro w2 b1 hb_b1 hS
 refine WL.box (v := .int .i64 to) (cs := [.int .i64 to]) rfl rfl rfl rfl hS ?_
 clear hS; intro w4 b3 hb_b3 hS
 refine WL.nil (N.seq (W.seq (W.region (WL.load1 (v := .pointer (some ⟨bm, 0, none⟩)) one_61 rfl rfl rfl (hS.cell 1 rfl rfl) (WL.move rfl rfl rfl (WL.move rfl rfl rfl ?_))))))
 replace hS := hS.perm (((List.Perm.cons _ (List.Perm.swap _ _ _))).trans ((List.Perm.swap _ _ _)))
 refine WL.callF (vs := [.pointer (some ⟨bm, 0, none⟩), .slice ads slots.length caps, .slice ada args.length capa]) Tryd.func67 (by kernel_rfl) rfl rfl rfl (hand_ret slots args _ _ hsl har hv hsb hmn hal hno hS) ?_
 clear hS; rintro v w5 ⟨rfl, vo6, hS⟩
 refine WL.nil (N.seq (W.region (WL.load1 (v := .pointer (some ⟨bm, 0, none⟩)) one_61 rfl rfl rfl (hS.cell 2 rfl rfl) ?_)))
 refine WL.makeFunc (vs := #[.pointer (some ⟨b1, 0, none⟩), .pointer (some ⟨b3, 0, none⟩)]) rfl rfl rfl ?_
 have hhl := hand17_len slots mn args
 refine WL.callF (vs := [.pointer (some ⟨bm, 0, none⟩), .func (.func 68) #[] #[.pointer (some ⟨b1, 0, none⟩), .pointer (some ⟨b3, 0, none⟩)]]) Tryd.func49 (by kernel_rfl) rfl rfl rfl (jump_ret (by first | omega | (simp only; omega)) (by first | omega | (simp only; omega)) hS) ?_
 clear hS; rintro v w7 ⟨rfl, vo8, vj9, bT10, bA11, bW12, hS⟩
 refine WL.nil ?_
 refine Fin.end0 rfl ?_
 replace hS := hS.perm ((List.Perm.cons _ (List.Perm.cons _ (List.Perm.cons _ (List.Perm.cons _ (List.Perm.swap _ _ _))))))
 replace hS := hS.rw0 (show (⟨vo8, 36, 5, no + (hand17 slots mn args ++ [jal]).length, (co ++ oCells (hand17 slots mn args ++ [jal]))⟩ : Row) = ⟨vo8, 36, 5, no + (hand17 slots mn args).length + 1, co ++ oCells (hand17 slots mn args) ++ oCells [jal]⟩ by simp [oCells, Nat.add_assoc])
 exact ⟨rfl, _, _, _, _, _, _, _, hS⟩

end Go.Proofs.YtcmmhfknkldmcaaDoor
