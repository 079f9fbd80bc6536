/-
  Contracts of what is right (marlineref05). No condition beyond those that each theorem states.
-/
import Derived.Test.YtcmmhfknkldmcaaDoorR5b
namespace Go.Proofs.YtcmmhfknkldmcaaDoor
open Go.RowKit
theorem agg_24 : tyAgg Tryd.prog 24 4 = true := by kernel_rfl
theorem agg_57 : tyAgg Tryd.prog 57 6 = true := by kernel_rfl
theorem agg_59 : tyAgg Tryd.prog 59 8 = true := by kernel_rfl
theorem fo_57_0 : fOff Tryd.prog 57 0 0 = true := by kernel_rfl
theorem fo_57_1 : fOff Tryd.prog 57 1 1 = true := by kernel_rfl
theorem fo_57_2 : fOff Tryd.prog 57 2 2 = true := by kernel_rfl
theorem fo_57_3 : fOff Tryd.prog 57 3 3 = true := by kernel_rfl
theorem fo_57_4 : fOff Tryd.prog 57 4 4 = true := by kernel_rfl
theorem fo_57_5 : fOff Tryd.prog 57 5 5 = true := by kernel_rfl
theorem fo_59_1 : fOff Tryd.prog 59 1 1 = true := by kernel_rfl
theorem fo_59_2 : fOff Tryd.prog 59 2 2 = true := by kernel_rfl
theorem isz_69 : (Tryd.prog.info? 69).map (·.size) = some 6 := by kernel_rfl
theorem one_54 : tyOne Tryd.prog 54 = true := by kernel_rfl
theorem siz_57 : tySize Tryd.prog 57 6 = true := by kernel_rfl
theorem siz_59 : tySize Tryd.prog 59 8 = true := by kernel_rfl
theorem zer_57 : tyZero Tryd.prog 57 = some [.int .i64 0, .int .i64 0, .int .i64 0, .slice none 0 0, .int .i64 0, .slice none 0 0] := by kernel_rfl
theorem zer_59 : tyZero Tryd.prog 59 = some [.int .i64 0, .slice none 0 0, .int .i64 0, .int .i64 0, .int .i64 0, .slice none 0 0, .int .i64 0, .slice none 0 0] := by kernel_rfl
def allFrom : Int → List DInst → Bool
  | _, [] => true
  | p, x :: r => inst5 x p && allFrom (p + 1) r
theorem allFrom_snoc : ∀ (l : List DInst) (p : Int) (x : DInst), allFrom p (l ++ [x]) = (allFrom p l && inst5 x (p + l.length))
  | [], p, x => by simp [allFrom]
  | y :: r, p, x => by
    simp only [List.cons_append, allFrom, allFrom_snoc r (p + 1) x, Bool.and_assoc, List.length_cons]
    rw [show p + 1 + (r.length : Int) = p + ((r.length + 1 : Nat) : Int) by omega]
theorem allFrom_at : ∀ (l : List DInst) (p : Int) (i : Nat) (x : DInst), allFrom p l = true → l[i]? = some x → inst5 x (p + i) = true
  | [], _, _, _, _, h => by simp at h
  | y :: r, p, 0, x, h, hi => by
    simp only [allFrom, Bool.and_eq_true] at h
    simp only [List.getElem?_cons_zero, Option.some.injEq] at hi
    subst hi; simpa using h.1
  | y :: r, p, i + 1, x, h, hi => by
    simp only [allFrom, Bool.and_eq_true] at h
    have := allFrom_at r (p + 1) i x h.2 (by simpa using hi)
    rwa [show p + 1 + (i : Int) = p + ((i + 1 : Nat) : Int) by omega] at this
def term5 (f : DFunc) (t : DTerm) (n : Int) : Bool :=
  if t.kind = 1 then goes5 f t.to t.args n && decide (t.a = 0) && decide (t.els = 0) && decide (t.elses.length = 0)
  else if t.kind = 2 then (decide (0 ≤ t.a) && decide (t.a < n)) && goes5 f t.to t.args n && goes5 f t.els t.elses n
  else decide (t.kind = 3) && (decide (0 ≤ t.a) && decide (t.a < n)) && decide (t.to = 0) && decide (t.args.length = 0) && decide (t.els = 0) && decide (t.elses.length = 0)
def block5 (f : DFunc) (b : DBlock) : Bool :=
  if b.params < 0 ∨ 6 < b.params ∨ 32 < b.ins.length then false
  else if allFrom b.params b.ins = false then false else term5 f b.fin (b.params + b.ins.length)

set_option maxHeartbeats 1000000 in
theorem block5_ret (f : DFunc) (cf : List Value) (k : Nat) {w : World} {ro : Nat → Prop} (hro : ∀ b, ro b → b < w.heap.size) (hx : FuncC ro w cf f) (hok : okFunc f) (hk : k < f.blocks.length) : Ret Tryd.prog 22 #[.agg cf.toArray, .int .i64 (k : Int)] w fun v w' => ∃ b, f.blocks[k]? = some b ∧ v = .bool (block5 f b) ∧ Below w.heap.size w w' := by
 obtain ⟨sb, rfl, hbl, hnm, hbd, hpr⟩ := id hx
 obtain ⟨adb, capb, rfl, hbka, hbkb, hbkc, hbkd⟩ := id hbl
 have hbkm : f.blocks.length ≤ 9223372036854775807 := by have h1 := hbka; have h2 := hbkb; unfold maxLen at h2; omega
 refine Ret.enter (P := Tryd.prog) (n := 148) (args := [.agg #[.string f.name, .int .i64 f.bind, .int .i64 f.params, .slice adb f.blocks.length capb], .int .i64 (k : Int)]) (σ := [(0, .agg #[.string f.name, .int .i64 f.bind, .int .i64 f.params, .slice adb f.blocks.length capb]), (1, .int .i64 (k : Int))]) Tryd.func22 rfl rfl rfl rfl ?_
 have hS := St.start (ro := ro) hro
 refine W.seq (W.region ?_)
 refine WL.box (v := .agg #[.string f.name, .int .i64 f.bind, .int .i64 f.params, .slice adb f.blocks.length capb]) (cs := [.string f.name, .int .i64 f.bind, .int .i64 f.params, .slice adb f.blocks.length capb]) rfl rfl rfl rfl hS ?_
 clear hS; intro w2 b1 hb_b1 hS
 refine WL.assign rfl rfl rfl (WL.nil (N.seq (W.seq (W.region (WL.fieldAddr fo_24_3 rfl rfl rfl (WL.load1 (v := .slice adb f.blocks.length capb) one_22 rfl rfl rfl (hS.cell 0 rfl rfl) (WL.move rfl rfl rfl ?_)))))))
 have hj3 : k < f.blocks.length := hk
 obtain ⟨x3, hx3, b3, o3, cs3, hE3, hr3, _, hc3, hQ3⟩ := opn hbkd hj3
 obtain ⟨si3, tsx3, rfl, hin3, hfin3, hpar3⟩ := id hQ3
 obtain ⟨adi3, capi3, rfl, hin3a, hin3b, hin3c, hin3d⟩ := id hin3
 have hin3m : x3.ins.length ≤ 9223372036854775807 := by have h1 := hin3a; have h2 := hin3b; unfold maxLen at h2; omega
 obtain ⟨sp3, sq3, rfl, ht13, ht23, htk3, hta3, htt3, hte3⟩ := id hfin3
 obtain ⟨adp3, capp3, rfl, htp3a, htp3b, htp3c, htp3d⟩ := id ht13
 have htp3m : x3.fin.args.length ≤ 9223372036854775807 := by have h1 := htp3a; have h2 := htp3b; unfold maxLen at h2; omega
 obtain ⟨adq3, capq3, rfl, htq3a, htq3b, htq3c, htq3d⟩ := id ht23
 have htq3m : x3.fin.elses.length ≤ 9223372036854775807 := by have h1 := htq3a; have h2 := htq3b; unfold maxLen at h2; omega
 refine WL.indexAddrE (j := k) Tryd.underlying22 isz_59 rfl rfl rfl rfl hj3 hE3 (WL.loadN (cs := [.int .i64 x3.params, .slice adi3 x3.ins.length capi3, .int .i64 x3.fin.kind, .int .i64 x3.fin.a, .int .i64 x3.fin.to, .slice adp3 x3.fin.args.length capp3, .int .i64 x3.fin.els, .slice adq3 x3.fin.elses.length capq3]) agg_59 rfl rfl rfl rfl (hS.roCells hr3 hc3) ?_)
 refine WL.alloc (tyZero_spec zer_59) rfl rfl hS ?_
 clear hS; intro w5 b4 hb_b4 hS
 refine WL.store0 #[.int .i64 x3.params, .slice adi3 x3.ins.length capi3, .int .i64 x3.fin.kind, .int .i64 x3.fin.a, .int .i64 x3.fin.to, .slice adp3 x3.fin.args.length capp3, .int .i64 x3.fin.els, .slice adq3 x3.fin.elses.length capq3] rfl rfl rfl rfl siz_59 rfl rfl rfl hS ?_
 clear hS; intro w6 hS
 refine WL.nil (N.seq (W.seq (W.seq (W.region (WL.fieldAddr fo_59_0 rfl rfl rfl (WL.load1 (v := .int .i64 x3.params) one_3 rfl rfl rfl (hS.cell 0 rfl rfl) (WL.bin rfl rfl rfl rfl rfl (WL.move rfl rfl rfl ?_))))))))
 cases hg7 : (decide (x3.params < 0))
 ·
  have hg7p : ¬ (x3.params < 0) := by simpa using hg7
  refine WL.fieldAddr fo_59_0 rfl rfl rfl (WL.load1 (v := .int .i64 x3.params) one_3 rfl rfl rfl (hS.cell 0 rfl rfl) (WL.bin rfl rfl rfl rfl rfl (WL.pick (v := .bool (decide (6 < x3.params))) rfl rfl rfl rfl rfl rfl (WL.move rfl rfl rfl ?_))))
  cases hg8 : (decide (6 < x3.params))
  ·
   have hg8p : ¬ (6 < x3.params) := by simpa using hg8
   refine WL.fieldAddr fo_59_1 rfl rfl rfl (WL.load1 (v := .slice adi3 x3.ins.length capi3) one_54 rfl rfl rfl (hS.cell 0 rfl rfl) (WL.lenSlice Tryd.underlying54 rfl rfl rfl (WL.bin rfl rfl rfl rfl rfl (WL.pick (v := .bool (decide (32 < (x3.ins.length : Int)))) rfl rfl rfl rfl rfl rfl (WL.nil (N.seq ?_))))))
   refine W.cond rfl (fun hc9 => ?_) (fun hc9 => ?_)
   ·
    have hc9p : 32 < (x3.ins.length : Int) := by simpa using hc9
    refine W.seq (W.region (WL.assign rfl rfl rfl (WL.nil (N.seq ?_))))
    refine Fin.ret1 rfl (v := .bool false) rfl ?_
    have hbz := hS.below
    clear hS
    refine ⟨x3, hx3, ?_, hbz⟩
    congr 1
    rw [block5, if_pos (by omega)]
   have hc9p : ¬ (32 < (x3.ins.length : Int)) := by simpa using hc9
   refine W.skip (N.seq (W.seq (W.seq (W.region (WL.assign rfl rfl rfl (WL.nil (N.seq (W.block ?_))))))))
   refine W.loop (α := Nat) (fun (i : Nat) => [(2, .pointer (some ⟨b1, 0, none⟩)), (5, .pointer (some ⟨b4, 0, none⟩)), (6, .int .i64 (i : Int))]) (fun (i : Nat) u => St w w u ro [(b4, .cells #[.int .i64 x3.params, .slice adi3 x3.ins.length capi3, .int .i64 x3.fin.kind, .int .i64 x3.fin.a, .int .i64 x3.fin.to, .slice adp3 x3.fin.args.length capp3, .int .i64 x3.fin.els, .slice adq3 x3.fin.elses.length capq3] 59 (0, 0)), (b1, .cells #[.string f.name, .int .i64 f.bind, .int .i64 f.params, .slice adb f.blocks.length capb] 24 (0, 0))] [] ∧ i ≤ x3.ins.length ∧ allFrom x3.params (x3.ins.take i) = true) (fun (i : Nat) => x3.ins.length - i) 0 ⟨rfl, rfl, rfl, trivial⟩ ⟨hS, Nat.zero_le _, rfl⟩ ?_
   clear hS
   rintro i w10 ⟨hS, hi, htk⟩
   refine W.seq (W.seq (W.region (WL.move rfl rfl rfl (WL.fieldAddr fo_59_1 rfl rfl rfl (WL.load1 (v := .slice adi3 x3.ins.length capi3) one_54 rfl rfl rfl (hS.cell 0 rfl rfl) (WL.lenSlice Tryd.underlying54 rfl rfl rfl (WL.bin rfl rfl rfl rfl rfl (WL.nil (N.seq ?_)))))))))
   refine W.cond rfl (fun hc11 => ?_) (fun hc11 => ?_)
   ·
    have hc11p : (i : Int) < (x3.ins.length : Int) := by simpa using hc11
    refine W.skip (N.seq (W.seq (W.block (W.seq ?_))))
    have hj12 : i < x3.ins.length := by omega
    obtain ⟨x12, hx12, b12, o12, cs12, hE12, hr12, _, hc12, hQ12⟩ := opn hin3d hj12
    have hQk12 := hQ12
    obtain ⟨sv12, rfl, hs12, ho12, ha12, hb12, hk12, hn12⟩ := hQ12
    obtain ⟨ad12, cap12, rfl, hs12a, hs12b, hs12c, hs12d⟩ := id hs12
    have hs12m : x12.args.length ≤ 9223372036854775807 := by have h1 := hs12a; have h2 := hs12b; unfold maxLen at h2; omega
    refine W.drawL (by kernel_rfl) 10 ((.q (.pointer (some ⟨b4, 1, none⟩))) :: (.q (.slice adi3 x3.ins.length capi3)) :: (.q (.int .i64 (i : Int))) :: (.q (.pointer (some ⟨b12, o12 + i * 6, none⟩))) :: (.q (.agg #[.int .i64 x12.op, .int .i64 x12.a, .int .i64 x12.b, .int .u64 x12.k, .string x12.name, .slice ad12 x12.args.length cap12])) :: (.q (.pointer (some ⟨b4, 0, none⟩))) :: (.q (.int .i64 x3.params)) :: (.q (.int .i64 (i : Int))) :: (.q (.int .i64 (x3.params + (i : Int)))) :: (.q (.bool (inst5 x12 (x3.params + (i : Int))))) :: []) (by kernel_rfl) (by kernel_rfl) [(2, .pointer (some ⟨b1, 0, none⟩)), (5, .pointer (some ⟨b4, 0, none⟩)), (6, .int .i64 (i : Int))] ⟨rfl, rfl, rfl, trivial⟩ (by kernel_rfl) hS ?_ ?_
    ·
     refine And.intro (fun β w hS => ?_) ?_
     ·
      refine WL.sub (σ' := [(5, .pointer (some ⟨b4, 0, none⟩))]) ⟨rfl, trivial⟩ ?_
      refine WL.fieldAddr fo_59_1 rfl rfl rfl ?_
      exact WL.nil (N.cut () ⟨rfl, trivial⟩ (Below.refl _ _))
     refine And.intro (fun β w hS => ?_) ?_
     ·
      refine WL.sub (σ' := [(40, .pointer (some ⟨b4, 1, none⟩))]) ⟨rfl, trivial⟩ ?_
      refine WL.load1 (v := .slice adi3 x3.ins.length capi3) one_54 rfl rfl rfl (hS.cell 0 rfl rfl) ?_
      exact WL.nil (N.cut () ⟨rfl, trivial⟩ (Below.refl _ _))
     refine And.intro (fun β w hS => ?_) ?_
     ·
      refine WL.sub (σ' := [(6, .int .i64 (i : Int))]) ⟨rfl, trivial⟩ ?_
      refine WL.move rfl rfl rfl ?_
      exact WL.nil (N.cut () ⟨rfl, trivial⟩ (Below.refl _ _))
     refine And.intro (fun β w hS => ?_) ?_
     ·
      refine WL.sub (σ' := [(41, .slice adi3 x3.ins.length capi3), (42, .int .i64 (i : Int))]) ⟨rfl, rfl, trivial⟩ ?_
      refine WL.indexAddrE (j := i) Tryd.underlying54 isz_69 rfl rfl rfl rfl hj12 hE12 ?_
      exact WL.nil (N.cut () ⟨rfl, trivial⟩ (Below.refl _ _))
     refine And.intro (fun β w hS => ?_) ?_
     ·
      refine WL.sub (σ' := [(43, .pointer (some ⟨b12, o12 + i * 6, none⟩))]) ⟨rfl, trivial⟩ ?_
      refine WL.loadN (cs := [.int .i64 x12.op, .int .i64 x12.a, .int .i64 x12.b, .int .u64 x12.k, .string x12.name, .slice ad12 x12.args.length cap12]) agg_69 rfl rfl rfl rfl (hS.roCells hr12 hc12) ?_
      exact WL.nil (N.cut () ⟨rfl, trivial⟩ (Below.refl _ _))
     refine And.intro (fun β w hS => ?_) ?_
     ·
      refine WL.sub (σ' := [(5, .pointer (some ⟨b4, 0, none⟩))]) ⟨rfl, trivial⟩ ?_
      refine WL.fieldAddr fo_59_0 rfl rfl rfl ?_
      exact WL.nil (N.cut () ⟨rfl, trivial⟩ (Below.refl _ _))
     refine And.intro (fun β w hS => ?_) ?_
     ·
      refine WL.sub (σ' := [(45, .pointer (some ⟨b4, 0, none⟩))]) ⟨rfl, trivial⟩ ?_
      refine WL.load1 (v := .int .i64 x3.params) one_3 rfl rfl rfl (hS.cell 0 rfl rfl) ?_
      exact WL.nil (N.cut () ⟨rfl, trivial⟩ (Below.refl _ _))
     refine And.intro (fun β w hS => ?_) ?_
     ·
      refine WL.sub (σ' := [(6, .int .i64 (i : Int))]) ⟨rfl, trivial⟩ ?_
      refine WL.move rfl rfl rfl ?_
      exact WL.nil (N.cut () ⟨rfl, trivial⟩ (Below.refl _ _))
     refine And.intro (fun β w hS => ?_) ?_
     ·
      refine WL.sub (σ' := [(46, .int .i64 x3.params), (47, .int .i64 (i : Int))]) ⟨rfl, rfl, trivial⟩ ?_
      refine WL.add (c := x3.params + (i : Int)) rfl rfl rfl rfl (rfl) (by omega) ?_
      exact WL.nil (N.cut () ⟨rfl, trivial⟩ (Below.refl _ _))
     refine And.intro (fun β w hS => ?_) ?_
     ·
      refine WL.sub (σ' := [(44, .agg #[.int .i64 x12.op, .int .i64 x12.a, .int .i64 x12.b, .int .u64 x12.k, .string x12.name, .slice ad12 x12.args.length cap12]), (48, .int .i64 (x3.params + (i : Int)))]) ⟨rfl, rfl, trivial⟩ ?_
      refine WL.callF (vs := [.agg #[.int .i64 x12.op, .int .i64 x12.a, .int .i64 x12.b, .int .u64 x12.k, .string x12.name, .slice ad12 x12.args.length cap12], .int .i64 (x3.params + (i : Int))]) Tryd.func41 (by kernel_rfl) rfl rfl rfl (inst5_ret x12 _ (x3.params + (i : Int)) (ro := ro) (fun b hb => (hS.snap b hb).1) (InstC.keep hQk12 hS.alike) ((hok.1 x3 (List.mem_of_getElem? hx3)).1 x12 (List.mem_of_getElem? hx12))) ?_
      rintro v w14 ⟨rfl, hbl⟩
      replace hS := hS.grow hbl
      exact WL.nil (N.cut () ⟨rfl, trivial⟩ hbl)
     trivial
    clear hS; intro w15 β hS
    refine WL.sub (σ' := [(2, .pointer (some ⟨b1, 0, none⟩)), (5, .pointer (some ⟨b4, 0, none⟩)), (6, .int .i64 (i : Int)), (49, .bool (inst5 x12 (x3.params + (i : Int))))]) ⟨rfl, rfl, rfl, rfl, trivial⟩ ?_
    refine WL.assign rfl rfl rfl (WL.nil (N.seq (W.seq (W.region (WL.move rfl rfl rfl (WL.not rfl rfl rfl (WL.nil (N.seq ?_))))))))
    refine W.cond rfl (fun hc16 => ?_) (fun hc16 => ?_)
    ·
     refine W.seq (W.region (WL.assign rfl rfl rfl (WL.nil (N.seq ?_))))
     refine Fin.ret1 rfl (v := .bool false) rfl ?_
     have hbz := hS.below
     clear hS
     refine ⟨x3, hx3, ?_, hbz⟩
     congr 1
     have he : allFrom x3.params x3.ins = false := by
      cases e : allFrom x3.params x3.ins with
      | false => rfl
      | true => rw [allFrom_at _ _ _ _ e hx12] at hc16; simp at hc16
     rw [block5, if_neg (by omega), if_pos he]
    refine W.skip (N.blk (N.seq (W.region (WL.move rfl rfl rfl ?_))))
    refine WL.add (c := (i : Int) + 1) rfl rfl rfl rfl (rfl) (by omega) ?_
    refine WL.assign rfl rfl rfl (WL.nil ?_)
    have htk2 : allFrom x3.params (x3.ins.take (i + 1)) = true := by rw [take_next hx12, allFrom_snoc, htk, List.length_take, Nat.min_eq_left (by omega)]; simpa using hc16
    exact N.loop (i + 1) ⟨rfl, rfl, rfl, trivial⟩ ⟨hS, by omega, htk2⟩ (by first | omega | (simp only; omega))
   have hc11p : ¬ ((i : Int) < (x3.ins.length : Int)) := by simpa using hc11
   refine W.exit (X.seq (X.loop (X.blk (N.seq (W.seq (W.region (WL.fieldAddr fo_59_2 rfl rfl rfl (WL.loadN (cs := [.int .i64 x3.fin.kind, .int .i64 x3.fin.a, .int .i64 x3.fin.to, .slice adp3 x3.fin.args.length capp3, .int .i64 x3.fin.els, .slice adq3 x3.fin.elses.length capq3]) agg_57 rfl rfl rfl rfl (hS.cells 0 (m := 6) rfl rfl) ?_))))))))
   refine WL.alloc (tyZero_spec zer_57) rfl rfl hS ?_
   clear hS; intro w18 b17 hb_b17 hS
   refine WL.store0 #[.int .i64 x3.fin.kind, .int .i64 x3.fin.a, .int .i64 x3.fin.to, .slice adp3 x3.fin.args.length capp3, .int .i64 x3.fin.els, .slice adq3 x3.fin.elses.length capq3] rfl rfl rfl rfl siz_57 rfl rfl rfl hS ?_
   clear hS; intro w19 hS
   refine WL.nil (N.seq (W.seq (W.region (WL.fieldAddr fo_59_0 rfl rfl rfl (WL.load1 (v := .int .i64 x3.params) one_3 rfl rfl rfl (hS.cell 1 rfl rfl) (WL.fieldAddr fo_59_1 rfl rfl rfl (WL.load1 (v := .slice adi3 x3.ins.length capi3) one_54 rfl rfl rfl (hS.cell 1 rfl rfl) (WL.lenSlice Tryd.underlying54 rfl rfl rfl ?_))))))))
   refine WL.add (c := x3.params + (x3.ins.length : Int)) rfl rfl rfl rfl (rfl) (by omega) ?_
   refine WL.assign rfl rfl rfl (WL.nil (N.seq (W.seq (W.seq (W.region (WL.fieldAddr fo_57_0 rfl rfl rfl (WL.load1 (v := .int .i64 x3.fin.kind) one_3 rfl rfl rfl (hS.cell 0 rfl rfl) (WL.bin rfl rfl rfl rfl rfl (WL.nil ?_)))))))))
   refine N.seq ?_
   refine W.cond rfl (fun hc20 => ?_) (fun hc20 => ?_)
   ·
    have hc20p : x3.fin.kind = 1 := by simpa using hc20
    refine W.seq (W.region (WL.loadN (cs := [.string f.name, .int .i64 f.bind, .int .i64 f.params, .slice adb f.blocks.length capb]) agg_24 rfl rfl rfl rfl (hS.cells 2 (m := 4) rfl rfl) (WL.fieldAddr fo_57_2 rfl rfl rfl (WL.load1 (v := .int .i64 x3.fin.to) one_3 rfl rfl rfl (hS.cell 0 rfl rfl) (WL.fieldAddr fo_57_3 rfl rfl rfl (WL.load1 (v := .slice adp3 x3.fin.args.length capp3) one_55 rfl rfl rfl (hS.cell 0 rfl rfl) (WL.move rfl rfl rfl ?_)))))))
    refine WL.callF (vs := [.agg #[.string f.name, .int .i64 f.bind, .int .i64 f.params, .slice adb f.blocks.length capb], .int .i64 x3.fin.to, .slice adp3 x3.fin.args.length capp3, .int .i64 (x3.params + (x3.ins.length : Int))]) Tryd.func42 (by kernel_rfl) rfl rfl rfl (goes5_ret f _ x3.fin.to x3.fin.args _ (x3.params + (x3.ins.length : Int)) (ro := ro) (fun b hb => (hS.snap b hb).1) (FuncC.keep hx hS.alike) (IntsV.keep ht13 hS.alike)) ?_
    rintro v w21 ⟨rfl, hbl⟩
    replace hS := hS.grow hbl
    obtain ⟨u1, hu1⟩ : ∃ u, u = goes5 f x3.fin.to x3.fin.args (x3.params + (x3.ins.length : Int)) := ⟨_, rfl⟩
    rw [← hu1]
    refine WL.assign rfl rfl rfl (WL.nil (N.seq (W.seq (W.region (WL.move rfl rfl rfl (WL.move rfl rfl rfl ?_))))))
    cases hg22 : u1
    ·
     refine WL.skp rfl rfl (WL.skp rfl rfl (WL.skp rfl rfl (WL.pick (v := .bool false) rfl rfl rfl rfl rfl rfl (WL.move rfl rfl rfl (WL.skp rfl rfl (WL.skp rfl rfl (WL.skp rfl rfl (WL.pick (v := .bool false) rfl rfl rfl rfl rfl rfl (WL.move rfl rfl rfl ?_)))))))))
     refine WL.skp rfl rfl (WL.skp rfl rfl (WL.skp rfl rfl (WL.skp rfl rfl (WL.pick (v := .bool false) rfl rfl rfl rfl rfl rfl (WL.assign rfl rfl rfl (WL.nil (N.seq ?_)))))))
     refine Fin.ret1 rfl (v := .bool false) rfl ?_
     have hbz := hS.below
     clear hS
     refine ⟨x3, hx3, ?_, hbz⟩
     congr 1
     have hie : i = x3.ins.length := by omega
     rw [hie, List.take_length] at htk
     rw [block5, if_neg (by omega), if_neg (by simp [htk])]
     rw [term5, if_pos (by omega), ← hu1]
     clear hx hbl hbkd htk
     first | (simp_all; done) | (simp_all; omega) | (rw [Bool.eq_iff_iff]; simp only [Bool.and_eq_true, decide_eq_true_eq, Bool.false_eq_true, false_iff, iff_false]; omega)
    refine WL.fieldAddr fo_57_1 rfl rfl rfl (WL.load1 (v := .int .i64 x3.fin.a) one_3 rfl rfl rfl (hS.cell 0 rfl rfl) (WL.bin rfl rfl rfl rfl rfl (WL.pick (v := .bool (decide (x3.fin.a = 0))) rfl rfl rfl rfl rfl rfl (WL.move rfl rfl rfl ?_))))
    cases hg23 : (decide (x3.fin.a = 0))
    ·
     have hg23p : ¬ (x3.fin.a = 0) := by simpa using hg23
     refine WL.skp rfl rfl (WL.skp rfl rfl (WL.skp rfl rfl (WL.pick (v := .bool false) rfl rfl rfl rfl rfl rfl (WL.move rfl rfl rfl (WL.skp rfl rfl (WL.skp rfl rfl (WL.skp rfl rfl (WL.skp rfl rfl (WL.pick (v := .bool false) rfl rfl rfl rfl rfl rfl ?_)))))))))
     refine WL.assign rfl rfl rfl (WL.nil (N.seq ?_))
     refine Fin.ret1 rfl (v := .bool false) rfl ?_
     have hbz := hS.below
     clear hS
     refine ⟨x3, hx3, ?_, hbz⟩
     congr 1
     have hie : i = x3.ins.length := by omega
     rw [hie, List.take_length] at htk
     rw [block5, if_neg (by omega), if_neg (by simp [htk])]
     rw [term5, if_pos (by omega), ← hu1]
     clear hx hbl hbkd htk
     first | (simp_all; done) | (simp_all; omega) | (rw [Bool.eq_iff_iff]; simp only [Bool.and_eq_true, decide_eq_true_eq, Bool.false_eq_true, false_iff, iff_false]; omega)
    have hg23p : x3.fin.a = 0 := by simpa using hg23
    refine WL.fieldAddr fo_57_4 rfl rfl rfl (WL.load1 (v := .int .i64 x3.fin.els) one_3 rfl rfl rfl (hS.cell 0 rfl rfl) (WL.bin rfl rfl rfl rfl rfl (WL.pick (v := .bool (decide (x3.fin.els = 0))) rfl rfl rfl rfl rfl rfl (WL.move rfl rfl rfl ?_))))
    cases hg24 : (decide (x3.fin.els = 0))
    ·
     have hg24p : ¬ (x3.fin.els = 0) := by simpa using hg24
     refine WL.skp rfl rfl (WL.skp rfl rfl (WL.skp rfl rfl (WL.skp rfl rfl (WL.pick (v := .bool false) rfl rfl rfl rfl rfl rfl (WL.assign rfl rfl rfl (WL.nil (N.seq ?_)))))))
     refine Fin.ret1 rfl (v := .bool false) rfl ?_
     have hbz := hS.below
     clear hS
     refine ⟨x3, hx3, ?_, hbz⟩
     congr 1
     have hie : i = x3.ins.length := by omega
     rw [hie, List.take_length] at htk
     rw [block5, if_neg (by omega), if_neg (by simp [htk])]
     rw [term5, if_pos (by omega), ← hu1]
     clear hx hbl hbkd htk
     first | (simp_all; done) | (simp_all; omega) | (rw [Bool.eq_iff_iff]; simp only [Bool.and_eq_true, decide_eq_true_eq, Bool.false_eq_true, false_iff, iff_false]; omega)
    have hg24p : x3.fin.els = 0 := by simpa using hg24
    refine WL.fieldAddr fo_57_5 rfl rfl rfl (WL.load1 (v := .slice adq3 x3.fin.elses.length capq3) one_55 rfl rfl rfl (hS.cell 0 rfl rfl) (WL.lenSlice Tryd.underlying55 rfl rfl rfl (WL.bin rfl rfl rfl rfl rfl (WL.pick (v := .bool (decide ((x3.fin.elses.length : Int) = 0))) rfl rfl rfl rfl rfl rfl (WL.assign rfl rfl rfl (WL.nil (N.seq ?_)))))))
    refine Fin.ret1 rfl (v := .bool (decide ((x3.fin.elses.length : Int) = 0))) rfl ?_
    have hbz := hS.below
    clear hS
    refine ⟨x3, hx3, ?_, hbz⟩
    congr 1
    have hie : i = x3.ins.length := by omega
    rw [hie, List.take_length] at htk
    rw [block5, if_neg (by omega), if_neg (by simp [htk])]
    rw [term5, if_pos (by omega), ← hu1]
    clear hx hbl hbkd htk
    first | (simp_all; done) | (simp_all; omega) | (rw [Bool.eq_iff_iff]; simp only [Bool.and_eq_true, decide_eq_true_eq, Bool.false_eq_true, false_iff, iff_false]; omega)
   have hc20p : ¬ (x3.fin.kind = 1) := by simpa using hc20
   refine W.skip (N.seq (W.seq (W.region (WL.fieldAddr fo_57_1 rfl rfl rfl (WL.load1 (v := .int .i64 x3.fin.a) one_3 rfl rfl rfl (hS.cell 0 rfl rfl) (WL.bin rfl rfl rfl rfl rfl (WL.move rfl rfl rfl ?_)))))))
   cases hg25 : (decide (0 ≤ x3.fin.a))
   ·
    have hg25p : ¬ (0 ≤ x3.fin.a) := by simpa using hg25
    refine WL.skp rfl rfl (WL.skp rfl rfl (WL.skp rfl rfl (WL.skp rfl rfl (WL.pick (v := .bool false) rfl rfl rfl rfl rfl rfl (WL.assign rfl rfl rfl (WL.nil (N.seq (W.seq (W.seq ?_)))))))))
    refine W.region (WL.fieldAddr fo_57_0 rfl rfl rfl (WL.load1 (v := .int .i64 x3.fin.kind) one_3 rfl rfl rfl (hS.cell 0 rfl rfl) (WL.bin rfl rfl rfl rfl rfl (WL.nil (N.seq ?_)))))
    refine W.cond rfl (fun hc26 => ?_) (fun hc26 => ?_)
    ·
     have hc26p : x3.fin.kind = 2 := by simpa using hc26
     refine W.seq (W.region (WL.loadN (cs := [.string f.name, .int .i64 f.bind, .int .i64 f.params, .slice adb f.blocks.length capb]) agg_24 rfl rfl rfl rfl (hS.cells 2 (m := 4) rfl rfl) (WL.fieldAddr fo_57_2 rfl rfl rfl (WL.load1 (v := .int .i64 x3.fin.to) one_3 rfl rfl rfl (hS.cell 0 rfl rfl) (WL.fieldAddr fo_57_3 rfl rfl rfl (WL.load1 (v := .slice adp3 x3.fin.args.length capp3) one_55 rfl rfl rfl (hS.cell 0 rfl rfl) (WL.move rfl rfl rfl ?_)))))))
     refine WL.callF (vs := [.agg #[.string f.name, .int .i64 f.bind, .int .i64 f.params, .slice adb f.blocks.length capb], .int .i64 x3.fin.to, .slice adp3 x3.fin.args.length capp3, .int .i64 (x3.params + (x3.ins.length : Int))]) Tryd.func42 (by kernel_rfl) rfl rfl rfl (goes5_ret f _ x3.fin.to x3.fin.args _ (x3.params + (x3.ins.length : Int)) (ro := ro) (fun b hb => (hS.snap b hb).1) (FuncC.keep hx hS.alike) (IntsV.keep ht13 hS.alike)) ?_
     rintro v w27 ⟨rfl, hbl⟩
     replace hS := hS.grow hbl
     obtain ⟨u1, hu1⟩ : ∃ u, u = goes5 f x3.fin.to x3.fin.args (x3.params + (x3.ins.length : Int)) := ⟨_, rfl⟩
     rw [← hu1]
     refine WL.assign rfl rfl rfl (WL.nil (N.seq (W.seq (W.region (WL.loadN (cs := [.string f.name, .int .i64 f.bind, .int .i64 f.params, .slice adb f.blocks.length capb]) agg_24 rfl rfl rfl rfl (hS.cells 2 (m := 4) rfl rfl) (WL.fieldAddr fo_57_4 rfl rfl rfl (WL.load1 (v := .int .i64 x3.fin.els) one_3 rfl rfl rfl (hS.cell 0 rfl rfl) (WL.fieldAddr fo_57_5 rfl rfl rfl (WL.load1 (v := .slice adq3 x3.fin.elses.length capq3) one_55 rfl rfl rfl (hS.cell 0 rfl rfl) ?_)))))))))
     refine WL.move rfl rfl rfl ?_
     refine WL.callF (vs := [.agg #[.string f.name, .int .i64 f.bind, .int .i64 f.params, .slice adb f.blocks.length capb], .int .i64 x3.fin.els, .slice adq3 x3.fin.elses.length capq3, .int .i64 (x3.params + (x3.ins.length : Int))]) Tryd.func42 (by kernel_rfl) rfl rfl rfl (goes5_ret f _ x3.fin.els x3.fin.elses _ (x3.params + (x3.ins.length : Int)) (ro := ro) (fun b hb => (hS.snap b hb).1) (FuncC.keep hx hS.alike) (IntsV.keep ht23 hS.alike)) ?_
     rintro v w28 ⟨rfl, hbl⟩
     replace hS := hS.grow hbl
     obtain ⟨u2, hu2⟩ : ∃ u, u = goes5 f x3.fin.els x3.fin.elses (x3.params + (x3.ins.length : Int)) := ⟨_, rfl⟩
     rw [← hu2]
     refine WL.assign rfl rfl rfl (WL.nil (N.seq (W.seq (W.region (WL.move rfl rfl rfl (WL.move rfl rfl rfl (WL.skp rfl rfl (WL.pick (v := .bool false) rfl rfl rfl rfl rfl rfl (WL.move rfl rfl rfl ?_)))))))))
     refine WL.skp rfl rfl (WL.pick (v := .bool false) rfl rfl rfl rfl rfl rfl (WL.assign rfl rfl rfl (WL.nil (N.seq ?_))))
     refine Fin.ret1 rfl (v := .bool false) rfl ?_
     have hbz := hS.below
     clear hS
     refine ⟨x3, hx3, ?_, hbz⟩
     congr 1
     have hie : i = x3.ins.length := by omega
     rw [hie, List.take_length] at htk
     rw [block5, if_neg (by omega), if_neg (by simp [htk])]
     rw [term5, if_neg (by omega), if_pos (by omega), ← hu1, ← hu2]
     clear hx hbl hbkd htk
     first | (simp_all; done) | (simp_all; omega) | (rw [Bool.eq_iff_iff]; simp only [Bool.and_eq_true, decide_eq_true_eq, Bool.false_eq_true, false_iff, iff_false]; omega)
    have hc26p : ¬ (x3.fin.kind = 2) := by simpa using hc26
    refine W.skip (N.seq (W.seq (W.region (WL.fieldAddr fo_57_0 rfl rfl rfl (WL.load1 (v := .int .i64 x3.fin.kind) one_3 rfl rfl rfl (hS.cell 0 rfl rfl) (WL.bin rfl rfl rfl rfl rfl (WL.move rfl rfl rfl ?_)))))))
    cases hg29 : (decide (x3.fin.kind = 3))
    ·
     have hg29p : ¬ (x3.fin.kind = 3) := by simpa using hg29
     refine WL.skp rfl rfl (WL.pick (v := .bool false) rfl rfl rfl rfl rfl rfl (WL.move rfl rfl rfl (WL.skp rfl rfl (WL.skp rfl rfl (WL.skp rfl rfl (WL.pick (v := .bool false) rfl rfl rfl rfl rfl rfl (WL.move rfl rfl rfl (WL.skp rfl rfl (WL.skp rfl rfl ?_)))))))))
     refine WL.skp rfl rfl (WL.skp rfl rfl (WL.pick (v := .bool false) rfl rfl rfl rfl rfl rfl (WL.move rfl rfl rfl (WL.skp rfl rfl (WL.skp rfl rfl (WL.skp rfl rfl (WL.pick (v := .bool false) rfl rfl rfl rfl rfl rfl (WL.move rfl rfl rfl (WL.skp rfl rfl ?_)))))))))
     refine WL.skp rfl rfl (WL.skp rfl rfl (WL.skp rfl rfl (WL.pick (v := .bool false) rfl rfl rfl rfl rfl rfl (WL.assign rfl rfl rfl (WL.nil (N.seq ?_))))))
     refine Fin.ret1 rfl (v := .bool false) rfl ?_
     have hbz := hS.below
     clear hS
     refine ⟨x3, hx3, ?_, hbz⟩
     congr 1
     have hie : i = x3.ins.length := by omega
     rw [hie, List.take_length] at htk
     rw [block5, if_neg (by omega), if_neg (by simp [htk])]
     rw [term5, if_neg (by omega), if_neg (by omega)]
     clear hx hbl hbkd htk
     first | (simp_all; done) | (simp_all; omega) | (rw [Bool.eq_iff_iff]; simp only [Bool.and_eq_true, decide_eq_true_eq, Bool.false_eq_true, false_iff, iff_false]; omega)
    have hg29p : x3.fin.kind = 3 := by simpa using hg29
    refine WL.move rfl rfl rfl (WL.pick (v := .bool false) rfl rfl rfl rfl rfl rfl (WL.move rfl rfl rfl (WL.skp rfl rfl (WL.skp rfl rfl (WL.skp rfl rfl (WL.pick (v := .bool false) rfl rfl rfl rfl rfl rfl (WL.move rfl rfl rfl (WL.skp rfl rfl (WL.skp rfl rfl ?_)))))))))
    refine WL.skp rfl rfl (WL.skp rfl rfl (WL.pick (v := .bool false) rfl rfl rfl rfl rfl rfl (WL.move rfl rfl rfl (WL.skp rfl rfl (WL.skp rfl rfl (WL.skp rfl rfl (WL.pick (v := .bool false) rfl rfl rfl rfl rfl rfl (WL.move rfl rfl rfl (WL.skp rfl rfl ?_)))))))))
    refine WL.skp rfl rfl (WL.skp rfl rfl (WL.skp rfl rfl (WL.pick (v := .bool false) rfl rfl rfl rfl rfl rfl (WL.assign rfl rfl rfl (WL.nil (N.seq ?_))))))
    refine Fin.ret1 rfl (v := .bool false) rfl ?_
    have hbz := hS.below
    clear hS
    refine ⟨x3, hx3, ?_, hbz⟩
    congr 1
    have hie : i = x3.ins.length := by omega
    rw [hie, List.take_length] at htk
    rw [block5, if_neg (by omega), if_neg (by simp [htk])]
    rw [term5, if_neg (by omega), if_neg (by omega)]
    clear hx hbl hbkd htk
    first | (simp_all; done) | (simp_all; omega) | (rw [Bool.eq_iff_iff]; simp only [Bool.and_eq_true, decide_eq_true_eq, Bool.false_eq_true, false_iff, iff_false]; omega)
   have hg25p : 0 ≤ x3.fin.a := by simpa using hg25
   refine WL.fieldAddr fo_57_1 rfl rfl rfl (WL.load1 (v := .int .i64 x3.fin.a) one_3 rfl rfl rfl (hS.cell 0 rfl rfl) (WL.move rfl rfl rfl (WL.bin rfl rfl rfl rfl rfl (WL.pick (v := .bool (decide (x3.fin.a < x3.params + (x3.ins.length : Int)))) rfl rfl rfl rfl rfl rfl (WL.assign rfl rfl rfl (WL.nil (N.seq (W.seq (W.seq ?_)))))))))
   refine W.region (WL.fieldAddr fo_57_0 rfl rfl rfl (WL.load1 (v := .int .i64 x3.fin.kind) one_3 rfl rfl rfl (hS.cell 0 rfl rfl) (WL.bin rfl rfl rfl rfl rfl (WL.nil (N.seq ?_)))))
   refine W.cond rfl (fun hc30 => ?_) (fun hc30 => ?_)
   ·
    have hc30p : x3.fin.kind = 2 := by simpa using hc30
    refine W.seq (W.region (WL.loadN (cs := [.string f.name, .int .i64 f.bind, .int .i64 f.params, .slice adb f.blocks.length capb]) agg_24 rfl rfl rfl rfl (hS.cells 2 (m := 4) rfl rfl) (WL.fieldAddr fo_57_2 rfl rfl rfl (WL.load1 (v := .int .i64 x3.fin.to) one_3 rfl rfl rfl (hS.cell 0 rfl rfl) (WL.fieldAddr fo_57_3 rfl rfl rfl (WL.load1 (v := .slice adp3 x3.fin.args.length capp3) one_55 rfl rfl rfl (hS.cell 0 rfl rfl) (WL.move rfl rfl rfl ?_)))))))
    refine WL.callF (vs := [.agg #[.string f.name, .int .i64 f.bind, .int .i64 f.params, .slice adb f.blocks.length capb], .int .i64 x3.fin.to, .slice adp3 x3.fin.args.length capp3, .int .i64 (x3.params + (x3.ins.length : Int))]) Tryd.func42 (by kernel_rfl) rfl rfl rfl (goes5_ret f _ x3.fin.to x3.fin.args _ (x3.params + (x3.ins.length : Int)) (ro := ro) (fun b hb => (hS.snap b hb).1) (FuncC.keep hx hS.alike) (IntsV.keep ht13 hS.alike)) ?_
    rintro v w31 ⟨rfl, hbl⟩
    replace hS := hS.grow hbl
    obtain ⟨u1, hu1⟩ : ∃ u, u = goes5 f x3.fin.to x3.fin.args (x3.params + (x3.ins.length : Int)) := ⟨_, rfl⟩
    rw [← hu1]
    refine WL.assign rfl rfl rfl (WL.nil (N.seq (W.seq (W.region (WL.loadN (cs := [.string f.name, .int .i64 f.bind, .int .i64 f.params, .slice adb f.blocks.length capb]) agg_24 rfl rfl rfl rfl (hS.cells 2 (m := 4) rfl rfl) (WL.fieldAddr fo_57_4 rfl rfl rfl (WL.load1 (v := .int .i64 x3.fin.els) one_3 rfl rfl rfl (hS.cell 0 rfl rfl) (WL.fieldAddr fo_57_5 rfl rfl rfl (WL.load1 (v := .slice adq3 x3.fin.elses.length capq3) one_55 rfl rfl rfl (hS.cell 0 rfl rfl) ?_)))))))))
    refine WL.move rfl rfl rfl ?_
    refine WL.callF (vs := [.agg #[.string f.name, .int .i64 f.bind, .int .i64 f.params, .slice adb f.blocks.length capb], .int .i64 x3.fin.els, .slice adq3 x3.fin.elses.length capq3, .int .i64 (x3.params + (x3.ins.length : Int))]) Tryd.func42 (by kernel_rfl) rfl rfl rfl (goes5_ret f _ x3.fin.els x3.fin.elses _ (x3.params + (x3.ins.length : Int)) (ro := ro) (fun b hb => (hS.snap b hb).1) (FuncC.keep hx hS.alike) (IntsV.keep ht23 hS.alike)) ?_
    rintro v w32 ⟨rfl, hbl⟩
    replace hS := hS.grow hbl
    obtain ⟨u2, hu2⟩ : ∃ u, u = goes5 f x3.fin.els x3.fin.elses (x3.params + (x3.ins.length : Int)) := ⟨_, rfl⟩
    rw [← hu2]
    refine WL.assign rfl rfl rfl (WL.nil (N.seq (W.seq (W.region (WL.move rfl rfl rfl (WL.move rfl rfl rfl ?_))))))
    cases hg33 : (decide (x3.fin.a < x3.params + (x3.ins.length : Int)))
    ·
     have hg33p : ¬ (x3.fin.a < x3.params + (x3.ins.length : Int)) := by simpa using hg33
     refine WL.skp rfl rfl (WL.pick (v := .bool false) rfl rfl rfl rfl rfl rfl (WL.move rfl rfl rfl (WL.skp rfl rfl (WL.pick (v := .bool false) rfl rfl rfl rfl rfl rfl (WL.assign rfl rfl rfl (WL.nil (N.seq ?_)))))))
     refine Fin.ret1 rfl (v := .bool false) rfl ?_
     have hbz := hS.below
     clear hS
     refine ⟨x3, hx3, ?_, hbz⟩
     congr 1
     have hie : i = x3.ins.length := by omega
     rw [hie, List.take_length] at htk
     rw [block5, if_neg (by omega), if_neg (by simp [htk])]
     rw [term5, if_neg (by omega), if_pos (by omega), ← hu1, ← hu2]
     clear hx hbl hbkd htk
     first | (simp_all; done) | (simp_all; omega) | (rw [Bool.eq_iff_iff]; simp only [Bool.and_eq_true, decide_eq_true_eq, Bool.false_eq_true, false_iff, iff_false]; omega)
    have hg33p : x3.fin.a < x3.params + (x3.ins.length : Int) := by simpa using hg33
    refine WL.move rfl rfl rfl (WL.pick (v := .bool u1) rfl rfl rfl rfl rfl rfl (WL.move rfl rfl rfl ?_))
    cases hg34 : u1
    ·
     refine WL.skp rfl rfl (WL.pick (v := .bool false) rfl rfl rfl rfl rfl rfl (WL.assign rfl rfl rfl (WL.nil (N.seq ?_))))
     refine Fin.ret1 rfl (v := .bool false) rfl ?_
     have hbz := hS.below
     clear hS
     refine ⟨x3, hx3, ?_, hbz⟩
     congr 1
     have hie : i = x3.ins.length := by omega
     rw [hie, List.take_length] at htk
     rw [block5, if_neg (by omega), if_neg (by simp [htk])]
     rw [term5, if_neg (by omega), if_pos (by omega), ← hu1, ← hu2]
     clear hx hbl hbkd htk
     first | (simp_all; done) | (simp_all; omega) | (rw [Bool.eq_iff_iff]; simp only [Bool.and_eq_true, decide_eq_true_eq, Bool.false_eq_true, false_iff, iff_false]; omega)
    refine WL.move rfl rfl rfl (WL.pick (v := .bool u2) rfl rfl rfl rfl rfl rfl (WL.assign rfl rfl rfl (WL.nil (N.seq ?_))))
    refine Fin.ret1 rfl (v := .bool u2) rfl ?_
    have hbz := hS.below
    clear hS
    refine ⟨x3, hx3, ?_, hbz⟩
    congr 1
    have hie : i = x3.ins.length := by omega
    rw [hie, List.take_length] at htk
    rw [block5, if_neg (by omega), if_neg (by simp [htk])]
    rw [term5, if_neg (by omega), if_pos (by omega), ← hu1, ← hu2]
    clear hx hbl hbkd htk
    first | (simp_all; done) | (simp_all; omega) | (rw [Bool.eq_iff_iff]; simp only [Bool.and_eq_true, decide_eq_true_eq, Bool.false_eq_true, false_iff, iff_false]; omega)
   have hc30p : ¬ (x3.fin.kind = 2) := by simpa using hc30
   refine W.skip (N.seq (W.seq (W.region (WL.fieldAddr fo_57_0 rfl rfl rfl (WL.load1 (v := .int .i64 x3.fin.kind) one_3 rfl rfl rfl (hS.cell 0 rfl rfl) (WL.bin rfl rfl rfl rfl rfl (WL.move rfl rfl rfl ?_)))))))
   cases hg35 : (decide (x3.fin.kind = 3))
   ·
    have hg35p : ¬ (x3.fin.kind = 3) := by simpa using hg35
    refine WL.skp rfl rfl (WL.pick (v := .bool false) rfl rfl rfl rfl rfl rfl (WL.move rfl rfl rfl (WL.skp rfl rfl (WL.skp rfl rfl (WL.skp rfl rfl (WL.pick (v := .bool false) rfl rfl rfl rfl rfl rfl (WL.move rfl rfl rfl (WL.skp rfl rfl (WL.skp rfl rfl ?_)))))))))
    refine WL.skp rfl rfl (WL.skp rfl rfl (WL.pick (v := .bool false) rfl rfl rfl rfl rfl rfl (WL.move rfl rfl rfl (WL.skp rfl rfl (WL.skp rfl rfl (WL.skp rfl rfl (WL.pick (v := .bool false) rfl rfl rfl rfl rfl rfl (WL.move rfl rfl rfl (WL.skp rfl rfl ?_)))))))))
    refine WL.skp rfl rfl (WL.skp rfl rfl (WL.skp rfl rfl (WL.pick (v := .bool false) rfl rfl rfl rfl rfl rfl (WL.assign rfl rfl rfl (WL.nil (N.seq ?_))))))
    refine Fin.ret1 rfl (v := .bool false) rfl ?_
    have hbz := hS.below
    clear hS
    refine ⟨x3, hx3, ?_, hbz⟩
    congr 1
    have hie : i = x3.ins.length := by omega
    rw [hie, List.take_length] at htk
    rw [block5, if_neg (by omega), if_neg (by simp [htk])]
    rw [term5, if_neg (by omega), if_neg (by omega)]
    clear hx hbl hbkd htk
    first | (simp_all; done) | (simp_all; omega) | (rw [Bool.eq_iff_iff]; simp only [Bool.and_eq_true, decide_eq_true_eq, Bool.false_eq_true, false_iff, iff_false]; omega)
   have hg35p : x3.fin.kind = 3 := by simpa using hg35
   refine WL.move rfl rfl rfl (WL.pick (v := .bool (decide (x3.fin.a < x3.params + (x3.ins.length : Int)))) rfl rfl rfl rfl rfl rfl (WL.move rfl rfl rfl ?_))
   cases hg36 : (decide (x3.fin.a < x3.params + (x3.ins.length : Int)))
   ·
    have hg36p : ¬ (x3.fin.a < x3.params + (x3.ins.length : Int)) := by simpa using hg36
    refine WL.skp rfl rfl (WL.skp rfl rfl (WL.skp rfl rfl (WL.pick (v := .bool false) rfl rfl rfl rfl rfl rfl (WL.move rfl rfl rfl (WL.skp rfl rfl (WL.skp rfl rfl (WL.skp rfl rfl (WL.skp rfl rfl (WL.pick (v := .bool false) rfl rfl rfl rfl rfl rfl ?_)))))))))
    refine WL.move rfl rfl rfl (WL.skp rfl rfl (WL.skp rfl rfl (WL.skp rfl rfl (WL.pick (v := .bool false) rfl rfl rfl rfl rfl rfl (WL.move rfl rfl rfl (WL.skp rfl rfl (WL.skp rfl rfl (WL.skp rfl rfl (WL.skp rfl rfl ?_)))))))))
    refine WL.pick (v := .bool false) rfl rfl rfl rfl rfl rfl (WL.assign rfl rfl rfl (WL.nil (N.seq ?_)))
    refine Fin.ret1 rfl (v := .bool false) rfl ?_
    have hbz := hS.below
    clear hS
    refine ⟨x3, hx3, ?_, hbz⟩
    congr 1
    have hie : i = x3.ins.length := by omega
    rw [hie, List.take_length] at htk
    rw [block5, if_neg (by omega), if_neg (by simp [htk])]
    rw [term5, if_neg (by omega), if_neg (by omega)]
    clear hx hbl hbkd htk
    first | (simp_all; done) | (simp_all; omega) | (rw [Bool.eq_iff_iff]; simp only [Bool.and_eq_true, decide_eq_true_eq, Bool.false_eq_true, false_iff, iff_false]; omega)
   have hg36p : x3.fin.a < x3.params + (x3.ins.length : Int) := by simpa using hg36
   refine WL.fieldAddr fo_57_2 rfl rfl rfl (WL.load1 (v := .int .i64 x3.fin.to) one_3 rfl rfl rfl (hS.cell 0 rfl rfl) (WL.bin rfl rfl rfl rfl rfl (WL.pick (v := .bool (decide (x3.fin.to = 0))) rfl rfl rfl rfl rfl rfl (WL.move rfl rfl rfl ?_))))
   cases hg37 : (decide (x3.fin.to = 0))
   ·
    have hg37p : ¬ (x3.fin.to = 0) := by simpa using hg37
    refine WL.skp rfl rfl (WL.skp rfl rfl (WL.skp rfl rfl (WL.skp rfl rfl (WL.pick (v := .bool false) rfl rfl rfl rfl rfl rfl (WL.move rfl rfl rfl (WL.skp rfl rfl (WL.skp rfl rfl (WL.skp rfl rfl (WL.pick (v := .bool false) rfl rfl rfl rfl rfl rfl ?_)))))))))
    refine WL.move rfl rfl rfl (WL.skp rfl rfl (WL.skp rfl rfl (WL.skp rfl rfl (WL.skp rfl rfl (WL.pick (v := .bool false) rfl rfl rfl rfl rfl rfl (WL.assign rfl rfl rfl (WL.nil (N.seq ?_))))))))
    refine Fin.ret1 rfl (v := .bool false) rfl ?_
    have hbz := hS.below
    clear hS
    refine ⟨x3, hx3, ?_, hbz⟩
    congr 1
    have hie : i = x3.ins.length := by omega
    rw [hie, List.take_length] at htk
    rw [block5, if_neg (by omega), if_neg (by simp [htk])]
    rw [term5, if_neg (by omega), if_neg (by omega)]
    clear hx hbl hbkd htk
    first | (simp_all; done) | (simp_all; omega) | (rw [Bool.eq_iff_iff]; simp only [Bool.and_eq_true, decide_eq_true_eq, Bool.false_eq_true, false_iff, iff_false]; omega)
   have hg37p : x3.fin.to = 0 := by simpa using hg37
   refine WL.fieldAddr fo_57_3 rfl rfl rfl (WL.load1 (v := .slice adp3 x3.fin.args.length capp3) one_55 rfl rfl rfl (hS.cell 0 rfl rfl) (WL.lenSlice Tryd.underlying55 rfl rfl rfl (WL.bin rfl rfl rfl rfl rfl (WL.pick (v := .bool (decide ((x3.fin.args.length : Int) = 0))) rfl rfl rfl rfl rfl rfl (WL.move rfl rfl rfl ?_)))))
   cases hg38 : (decide ((x3.fin.args.length : Int) = 0))
   ·
    have hg38p : ¬ ((x3.fin.args.length : Int) = 0) := by simpa using hg38
    refine WL.skp rfl rfl (WL.skp rfl rfl (WL.skp rfl rfl (WL.pick (v := .bool false) rfl rfl rfl rfl rfl rfl (WL.move rfl rfl rfl (WL.skp rfl rfl (WL.skp rfl rfl (WL.skp rfl rfl (WL.skp rfl rfl (WL.pick (v := .bool false) rfl rfl rfl rfl rfl rfl ?_)))))))))
    refine WL.assign rfl rfl rfl (WL.nil (N.seq ?_))
    refine Fin.ret1 rfl (v := .bool false) rfl ?_
    have hbz := hS.below
    clear hS
    refine ⟨x3, hx3, ?_, hbz⟩
    congr 1
    have hie : i = x3.ins.length := by omega
    rw [hie, List.take_length] at htk
    rw [block5, if_neg (by omega), if_neg (by simp [htk])]
    rw [term5, if_neg (by omega), if_neg (by omega)]
    clear hx hbl hbkd htk
    first | (simp_all; done) | (simp_all; omega) | (rw [Bool.eq_iff_iff]; simp only [Bool.and_eq_true, decide_eq_true_eq, Bool.false_eq_true, false_iff, iff_false]; omega)
   have hg38p : (x3.fin.args.length : Int) = 0 := by simpa using hg38
   refine WL.fieldAddr fo_57_4 rfl rfl rfl (WL.load1 (v := .int .i64 x3.fin.els) one_3 rfl rfl rfl (hS.cell 0 rfl rfl) (WL.bin rfl rfl rfl rfl rfl (WL.pick (v := .bool (decide (x3.fin.els = 0))) rfl rfl rfl rfl rfl rfl (WL.move rfl rfl rfl ?_))))
   cases hg39 : (decide (x3.fin.els = 0))
   ·
    have hg39p : ¬ (x3.fin.els = 0) := by simpa using hg39
    refine WL.skp rfl rfl (WL.skp rfl rfl (WL.skp rfl rfl (WL.skp rfl rfl (WL.pick (v := .bool false) rfl rfl rfl rfl rfl rfl (WL.assign rfl rfl rfl (WL.nil (N.seq ?_)))))))
    refine Fin.ret1 rfl (v := .bool false) rfl ?_
    have hbz := hS.below
    clear hS
    refine ⟨x3, hx3, ?_, hbz⟩
    congr 1
    have hie : i = x3.ins.length := by omega
    rw [hie, List.take_length] at htk
    rw [block5, if_neg (by omega), if_neg (by simp [htk])]
    rw [term5, if_neg (by omega), if_neg (by omega)]
    clear hx hbl hbkd htk
    first | (simp_all; done) | (simp_all; omega) | (rw [Bool.eq_iff_iff]; simp only [Bool.and_eq_true, decide_eq_true_eq, Bool.false_eq_true, false_iff, iff_false]; omega)
   have hg39p : x3.fin.els = 0 := by simpa using hg39
   refine WL.fieldAddr fo_57_5 rfl rfl rfl (WL.load1 (v := .slice adq3 x3.fin.elses.length capq3) one_55 rfl rfl rfl (hS.cell 0 rfl rfl) (WL.lenSlice Tryd.underlying55 rfl rfl rfl (WL.bin rfl rfl rfl rfl rfl (WL.pick (v := .bool (decide ((x3.fin.elses.length : Int) = 0))) rfl rfl rfl rfl rfl rfl (WL.assign rfl rfl rfl (WL.nil (N.seq ?_)))))))
   refine Fin.ret1 rfl (v := .bool (decide ((x3.fin.elses.length : Int) = 0))) rfl ?_
   have hbz := hS.below
   clear hS
   refine ⟨x3, hx3, ?_, hbz⟩
   congr 1
   have hie : i = x3.ins.length := by omega
   rw [hie, List.take_length] at htk
   rw [block5, if_neg (by omega), if_neg (by simp [htk])]
   rw [term5, if_neg (by omega), if_neg (by omega)]
   clear hx hbl hbkd htk
   first | (simp_all; done) | (simp_all; omega) | (rw [Bool.eq_iff_iff]; simp only [Bool.and_eq_true, decide_eq_true_eq, Bool.false_eq_true, false_iff, iff_false]; omega)
  have hg8p : 6 < x3.params := by simpa using hg8
  refine WL.skp rfl rfl (WL.skp rfl rfl (WL.skp rfl rfl (WL.skp rfl rfl (WL.pick (v := .bool true) rfl rfl rfl rfl rfl rfl (WL.nil (N.seq (W.condT rfl (W.seq (W.region ?_)))))))))
  refine WL.assign rfl rfl rfl (WL.nil (N.seq ?_))
  refine Fin.ret1 rfl (v := .bool false) rfl ?_
  have hbz := hS.below
  clear hS
  refine ⟨x3, hx3, ?_, hbz⟩
  congr 1
  rw [block5, if_pos (by omega)]
 have hg7p : x3.params < 0 := by simpa using hg7
 refine WL.skp rfl rfl (WL.skp rfl rfl (WL.skp rfl rfl (WL.pick (v := .bool true) rfl rfl rfl rfl rfl rfl (WL.move rfl rfl rfl (WL.skp rfl rfl (WL.skp rfl rfl (WL.skp rfl rfl (WL.skp rfl rfl (WL.pick (v := .bool true) rfl rfl rfl rfl rfl rfl ?_)))))))))
 refine WL.nil (N.seq (W.condT rfl (W.seq (W.region (WL.assign rfl rfl rfl (WL.nil (N.seq ?_)))))))
 refine Fin.ret1 rfl (v := .bool false) rfl ?_
 have hbz := hS.below
 clear hS
 refine ⟨x3, hx3, ?_, hbz⟩
 congr 1
 rw [block5, if_pos (by omega)]

end Go.Proofs.YtcmmhfknkldmcaaDoor
