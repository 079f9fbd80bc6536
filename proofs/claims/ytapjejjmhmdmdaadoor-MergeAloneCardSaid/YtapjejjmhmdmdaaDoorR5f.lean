/-
  Contracts of layer 9 (resolve). No condition beyond those that each theorem states.
-/
import Derived.Test.YtapjejjmhmdmdaaDoorR5b
namespace Go.Proofs.YtapjejjmhmdmdaaDoor
open Go.RowKit
theorem agg_89 : tyAgg Tryd.prog 89 6 = true := by kernel_rfl
theorem agg_91 : tyAgg Tryd.prog 91 8 = true := by kernel_rfl
theorem fo_89_0 : fOff Tryd.prog 89 0 0 = true := by kernel_rfl
theorem fo_89_1 : fOff Tryd.prog 89 1 1 = true := by kernel_rfl
theorem fo_89_2 : fOff Tryd.prog 89 2 2 = true := by kernel_rfl
theorem fo_89_3 : fOff Tryd.prog 89 3 3 = true := by kernel_rfl
theorem fo_89_4 : fOff Tryd.prog 89 4 4 = true := by kernel_rfl
theorem fo_89_5 : fOff Tryd.prog 89 5 5 = true := by kernel_rfl
theorem fo_91_1 : fOff Tryd.prog 91 1 1 = true := by kernel_rfl
theorem fo_91_2 : fOff Tryd.prog 91 2 2 = true := by kernel_rfl
theorem isz_86 : (Tryd.prog.info? 86).map (·.size) = some 6 := by kernel_rfl
theorem one_87 : tyOne Tryd.prog 87 = true := by kernel_rfl
theorem siz_89 : tySize Tryd.prog 89 6 = true := by kernel_rfl
theorem siz_91 : tySize Tryd.prog 91 8 = true := by kernel_rfl
theorem zer_89 : tyZero Tryd.prog 89 = some [.int .i64 0, .int .i64 0, .int .i64 0, .slice none 0 0, .int .i64 0, .slice none 0 0] := by kernel_rfl
theorem zer_91 : tyZero Tryd.prog 91 = some [.int .i64 0, .slice none 0 0, .int .i64 0, .int .i64 0, .int .i64 0, .slice none 0 0, .int .i64 0, .slice none 0 0] := by kernel_rfl
def allFrom : Int → List DInst → Bool
  | _, [] => true
  | p, x :: r => inst5 x p && allFrom (p + 1) r
theorem allFrom_snoc : ∀ (l : List DInst) (p : Int) (x : DInst), allFrom p (l ++ [x]) = (allFrom p l && inst5 x (p + l.length))
  | [], p, x => by simp [allFrom]
  | y :: r, p, x => by
    simp only [List.cons_append, allFrom, allFrom_snoc r (p + 1) x, Bool.and_assoc, List.length_cons]
    rw [show p + 1 + (r.length : Int) = p + ((r.length + 1 : Nat) : Int) by omega]
theorem allFrom_at : ∀ (l : List DInst) (p : Int) (i : Nat) (x : DInst), allFrom p l = true → l[i]? = some x → inst5 x (p + i) = true
  | [], _, _, _, _, h => by simp at h
  | y :: r, p, 0, x, h, hi => by
    simp only [allFrom, Bool.and_eq_true] at h
    simp only [List.getElem?_cons_zero, Option.some.injEq] at hi
    subst hi; simpa using h.1
  | y :: r, p, i + 1, x, h, hi => by
    simp only [allFrom, Bool.and_eq_true] at h
    have := allFrom_at r (p + 1) i x h.2 (by simpa using hi)
    rwa [show p + 1 + (i : Int) = p + ((i + 1 : Nat) : Int) by omega] at this
def term5 (f : DFunc) (t : DTerm) (n : Int) : Bool :=
  if t.kind = 1 then goes5 f t.to t.args n && decide (t.a = 0) && decide (t.els = 0) && decide (t.elses.length = 0)
  else if t.kind = 2 then (decide (0 ≤ t.a) && decide (t.a < n)) && goes5 f t.to t.args n && goes5 f t.els t.elses n
  else decide (t.kind = 3) && (decide (0 ≤ t.a) && decide (t.a < n)) && decide (t.to = 0) && decide (t.args.length = 0) && decide (t.els = 0) && decide (t.elses.length = 0)
def block5 (f : DFunc) (b : DBlock) : Bool :=
  if b.params < 0 ∨ 6 < b.params ∨ 32 < b.ins.length then false
  else if allFrom b.params b.ins = false then false else term5 f b.fin (b.params + b.ins.length)

set_option maxHeartbeats 1000000 in
theorem block5_ret (f : DFunc) (cf : List Value) (k : Nat) {w : World} {ro : Nat → Prop} (hro : ∀ b, ro b → b < w.heap.size) (hx : FuncC ro w cf f) (hok : okFunc f) (hk : k < f.blocks.length) : Ret Tryd.prog 79 #[.agg cf.toArray, .int .i64 (k : Int)] w fun v w' => ∃ b, f.blocks[k]? = some b ∧ v = .bool (block5 f b) ∧ Below w.heap.size w w' := by
 obtain ⟨sb, rfl, hbl, hnm, hbd, hpr⟩ := id hx
 obtain ⟨adb, capb, rfl, hbka, hbkb, hbkc, hbkd⟩ := id hbl
 have hbkm : f.blocks.length ≤ 9223372036854775807 := by have h1 := hbka; have h2 := hbkb; unfold maxLen at h2; omega
 refine Ret.enter (P := Tryd.prog) (n := 148) (args := [.agg #[.string f.name, .int .i64 f.bind, .int .i64 f.params, .slice adb f.blocks.length capb], .int .i64 (k : Int)]) (σ := [(0, .agg #[.string f.name, .int .i64 f.bind, .int .i64 f.params, .slice adb f.blocks.length capb]), (1, .int .i64 (k : Int))]) Tryd.func79 rfl rfl rfl rfl ?_
 have hS := St.start (ro := ro) hro
 refine W.seq (W.region ?_)
 refine WL.box (v := .agg #[.string f.name, .int .i64 f.bind, .int .i64 f.params, .slice adb f.blocks.length capb]) (cs := [.string f.name, .int .i64 f.bind, .int .i64 f.params, .slice adb f.blocks.length capb]) rfl rfl rfl rfl hS ?_
 clear hS; intro w2 b1 hb_b1 hS
 refine WL.assign rfl rfl rfl (WL.nil (N.seq (W.seq (W.region (WL.fieldAddr fo_35_3 rfl rfl rfl (WL.load1 (v := .slice adb f.blocks.length capb) one_33 rfl rfl rfl (hS.cell 0 rfl rfl) (WL.move rfl rfl rfl ?_)))))))
 have hj3 : k < f.blocks.length := hk
 obtain ⟨x3, hx3⟩ : ∃ zz, f.blocks[k]? = some zz := ⟨_, List.getElem?_eq_getElem hj3⟩
 obtain ⟨b3, o3, cs3, hE3, hr3, hl3, hc3, hQ3⟩ := hbkd k _ hx3
 obtain ⟨si3, tsx3, rfl, hin3, hfin3, hpar3⟩ := id hQ3
 obtain ⟨adi3, capi3, rfl, hin3a, hin3b, hin3c, hin3d⟩ := id hin3
 have hin3m : x3.ins.length ≤ 9223372036854775807 := by have h1 := hin3a; have h2 := hin3b; unfold maxLen at h2; omega
 obtain ⟨sp3, sq3, rfl, ht13, ht23, htk3, hta3, htt3, hte3⟩ := id hfin3
 obtain ⟨adp3, capp3, rfl, htp3a, htp3b, htp3c, htp3d⟩ := id ht13
 have htp3m : x3.fin.args.length ≤ 9223372036854775807 := by have h1 := htp3a; have h2 := htp3b; unfold maxLen at h2; omega
 obtain ⟨adq3, capq3, rfl, htq3a, htq3b, htq3c, htq3d⟩ := id ht23
 have htq3m : x3.fin.elses.length ≤ 9223372036854775807 := by have h1 := htq3a; have h2 := htq3b; unfold maxLen at h2; omega
 refine WL.indexAddrE (j := k) Tryd.underlying33 isz_91 rfl rfl rfl rfl hj3 hE3 (WL.loadN (cs := [.int .i64 x3.params, .slice adi3 x3.ins.length capi3, .int .i64 x3.fin.kind, .int .i64 x3.fin.a, .int .i64 x3.fin.to, .slice adp3 x3.fin.args.length capp3, .int .i64 x3.fin.els, .slice adq3 x3.fin.elses.length capq3]) agg_91 rfl rfl rfl rfl (hS.roCells hr3 hc3) ?_)
 refine WL.alloc (tyZero_spec zer_91) rfl rfl hS ?_
 clear hS; intro w5 b4 hb_b4 hS
 refine WL.store (L' := [(b4, .cells #[.int .i64 x3.params, .slice adi3 x3.ins.length capi3, .int .i64 x3.fin.kind, .int .i64 x3.fin.a, .int .i64 x3.fin.to, .slice adp3 x3.fin.args.length capp3, .int .i64 x3.fin.els, .slice adq3 x3.fin.elses.length capq3] 91 (0, 0)), (b1, .cells #[.string f.name, .int .i64 f.bind, .int .i64 f.params, .slice adb f.blocks.length capb] 35 (0, 0))]) 0 rfl rfl rfl rfl siz_91 rfl rfl rfl rfl rfl hS ?_
 clear hS; intro w6 hS
 refine WL.nil (N.seq (W.seq (W.seq (W.region (WL.fieldAddr fo_91_0 rfl rfl rfl (WL.load1 (v := .int .i64 x3.params) one_3 rfl rfl rfl (hS.cell 0 rfl rfl) (WL.bin rfl rfl rfl rfl rfl (WL.move rfl rfl rfl ?_))))))))
 cases hg7 : (decide (x3.params < 0))
 ·
  have hg7p : ¬ (x3.params < 0) := by simpa using hg7
  refine WL.fieldAddr fo_91_0 rfl rfl rfl (WL.load1 (v := .int .i64 x3.params) one_3 rfl rfl rfl (hS.cell 0 rfl rfl) (WL.bin rfl rfl rfl rfl rfl (WL.pick (v := .bool (decide (6 < x3.params))) rfl rfl rfl rfl rfl rfl (WL.move rfl rfl rfl ?_))))
  cases hg8 : (decide (6 < x3.params))
  ·
   have hg8p : ¬ (6 < x3.params) := by simpa using hg8
   refine WL.fieldAddr fo_91_1 rfl rfl rfl (WL.load1 (v := .slice adi3 x3.ins.length capi3) one_87 rfl rfl rfl (hS.cell 0 rfl rfl) (WL.lenSlice Tryd.underlying87 rfl rfl rfl (WL.bin rfl rfl rfl rfl rfl (WL.pick (v := .bool (decide (32 < (x3.ins.length : Int)))) rfl rfl rfl rfl rfl rfl (WL.nil (N.seq ?_))))))
   refine W.cond rfl (fun hc9 => ?_) (fun hc9 => ?_)
   ·
    have hc9p : 32 < (x3.ins.length : Int) := by simpa using hc9
    refine W.seq (W.region (WL.assign rfl rfl rfl (WL.nil (N.seq ?_))))
    refine Fin.ret1 rfl (v := .bool false) rfl ?_
    have hbz := hS.below
    clear hS
    refine ⟨x3, hx3, ?_, hbz⟩
    congr 1
    rw [block5, if_pos (by omega)]
   have hc9p : ¬ (32 < (x3.ins.length : Int)) := by simpa using hc9
   refine W.skip (N.seq (W.seq (W.seq (W.region (WL.assign rfl rfl rfl (WL.nil (N.seq (W.block ?_))))))))
   refine W.loop (α := Nat) (fun (i : Nat) => [(2, .pointer (some ⟨b1, 0, none⟩)), (5, .pointer (some ⟨b4, 0, none⟩)), (6, .int .i64 (i : Int))]) (fun (i : Nat) u => St w w u ro [(b4, .cells #[.int .i64 x3.params, .slice adi3 x3.ins.length capi3, .int .i64 x3.fin.kind, .int .i64 x3.fin.a, .int .i64 x3.fin.to, .slice adp3 x3.fin.args.length capp3, .int .i64 x3.fin.els, .slice adq3 x3.fin.elses.length capq3] 91 (0, 0)), (b1, .cells #[.string f.name, .int .i64 f.bind, .int .i64 f.params, .slice adb f.blocks.length capb] 35 (0, 0))] [] ∧ i ≤ x3.ins.length ∧ allFrom x3.params (x3.ins.take i) = true) (fun (i : Nat) => x3.ins.length - i) 0 ⟨rfl, rfl, rfl, trivial⟩ ⟨hS, Nat.zero_le _, rfl⟩ ?_
   clear hS
   rintro i w10 ⟨hS, hi, htk⟩
   refine W.seq (W.seq (W.region (WL.move rfl rfl rfl (WL.fieldAddr fo_91_1 rfl rfl rfl (WL.load1 (v := .slice adi3 x3.ins.length capi3) one_87 rfl rfl rfl (hS.cell 0 rfl rfl) (WL.lenSlice Tryd.underlying87 rfl rfl rfl (WL.bin rfl rfl rfl rfl rfl (WL.nil (N.seq ?_)))))))))
   refine W.cond rfl (fun hc11 => ?_) (fun hc11 => ?_)
   ·
    have hc11p : (i : Int) < (x3.ins.length : Int) := by simpa using hc11
    refine W.skip (N.seq (W.seq (W.block (W.seq ?_))))
    have hj12 : i < x3.ins.length := by omega
    obtain ⟨x12, hx12⟩ : ∃ zz, x3.ins[i]? = some zz := ⟨_, List.getElem?_eq_getElem hj12⟩
    obtain ⟨b12, o12, cs12, hE12, hr12, hl12, hc12, hQ12⟩ := hin3d i _ hx12
    have hQk12 := hQ12
    obtain ⟨sv12, rfl, hs12, ho12, ha12, hb12, hk12, hn12⟩ := hQ12
    obtain ⟨ad12, cap12, rfl, hs12a, hs12b, hs12c, hs12d⟩ := id hs12
    have hs12m : x12.args.length ≤ 9223372036854775807 := by have h1 := hs12a; have h2 := hs12b; unfold maxLen at h2; omega
    refine W.drawL (by kernel_rfl) 10 ((.q (.pointer (some ⟨b4, 1, none⟩))) :: (.q (.slice adi3 x3.ins.length capi3)) :: (.q (.int .i64 (i : Int))) :: (.q (.pointer (some ⟨b12, o12 + i * 6, none⟩))) :: (.q (.agg #[.int .i64 x12.op, .int .i64 x12.a, .int .i64 x12.b, .int .u64 x12.k, .string x12.name, .slice ad12 x12.args.length cap12])) :: (.q (.pointer (some ⟨b4, 0, none⟩))) :: (.q (.int .i64 x3.params)) :: (.q (.int .i64 (i : Int))) :: (.q (.int .i64 (x3.params + (i : Int)))) :: (.q (.bool (inst5 x12 (x3.params + (i : Int))))) :: []) (by kernel_rfl) (by kernel_rfl) [(2, .pointer (some ⟨b1, 0, none⟩)), (5, .pointer (some ⟨b4, 0, none⟩)), (6, .int .i64 (i : Int))] ⟨rfl, rfl, rfl, trivial⟩ (by kernel_rfl) hS ?_ ?_
    ·
     refine And.intro (fun β w hS => ?_) ?_
     ·
      refine WL.sub (σ' := [(5, .pointer (some ⟨b4, 0, none⟩))]) ⟨rfl, trivial⟩ ?_
      refine WL.fieldAddr fo_91_1 rfl rfl rfl ?_
      exact WL.nil (N.cut () ⟨rfl, trivial⟩ (Below.refl _ _))
     refine And.intro (fun β w hS => ?_) ?_
     ·
      refine WL.sub (σ' := [(40, .pointer (some ⟨b4, 1, none⟩))]) ⟨rfl, trivial⟩ ?_
      refine WL.load1 (v := .slice adi3 x3.ins.length capi3) one_87 rfl rfl rfl (hS.cell 0 rfl rfl) ?_
      exact WL.nil (N.cut () ⟨rfl, trivial⟩ (Below.refl _ _))
     refine And.intro (fun β w hS => ?_) ?_
     ·
      refine WL.sub (σ' := [(6, .int .i64 (i : Int))]) ⟨rfl, trivial⟩ ?_
      refine WL.move rfl rfl rfl ?_
      exact WL.nil (N.cut () ⟨rfl, trivial⟩ (Below.refl _ _))
     refine And.intro (fun β w hS => ?_) ?_
     ·
      refine WL.sub (σ' := [(41, .slice adi3 x3.ins.length capi3), (42, .int .i64 (i : Int))]) ⟨rfl, rfl, trivial⟩ ?_
      refine WL.indexAddrE (j := i) Tryd.underlying87 isz_86 rfl rfl rfl rfl hj12 hE12 ?_
      exact WL.nil (N.cut () ⟨rfl, trivial⟩ (Below.refl _ _))
     refine And.intro (fun β w hS => ?_) ?_
     ·
      refine WL.sub (σ' := [(43, .pointer (some ⟨b12, o12 + i * 6, none⟩))]) ⟨rfl, trivial⟩ ?_
      refine WL.loadN (cs := [.int .i64 x12.op, .int .i64 x12.a, .int .i64 x12.b, .int .u64 x12.k, .string x12.name, .slice ad12 x12.args.length cap12]) agg_86 rfl rfl rfl rfl (hS.roCells hr12 hc12) ?_
      exact WL.nil (N.cut () ⟨rfl, trivial⟩ (Below.refl _ _))
     refine And.intro (fun β w hS => ?_) ?_
     ·
      refine WL.sub (σ' := [(5, .pointer (some ⟨b4, 0, none⟩))]) ⟨rfl, trivial⟩ ?_
      refine WL.fieldAddr fo_91_0 rfl rfl rfl ?_
      exact WL.nil (N.cut () ⟨rfl, trivial⟩ (Below.refl _ _))
     refine And.intro (fun β w hS => ?_) ?_
     ·
      refine WL.sub (σ' := [(45, .pointer (some ⟨b4, 0, none⟩))]) ⟨rfl, trivial⟩ ?_
      refine WL.load1 (v := .int .i64 x3.params) one_3 rfl rfl rfl (hS.cell 0 rfl rfl) ?_
      exact WL.nil (N.cut () ⟨rfl, trivial⟩ (Below.refl _ _))
     refine And.intro (fun β w hS => ?_) ?_
     ·
      refine WL.sub (σ' := [(6, .int .i64 (i : Int))]) ⟨rfl, trivial⟩ ?_
      refine WL.move rfl rfl rfl ?_
      exact WL.nil (N.cut () ⟨rfl, trivial⟩ (Below.refl _ _))
     refine And.intro (fun β w hS => ?_) ?_
     ·
      refine WL.sub (σ' := [(46, .int .i64 x3.params), (47, .int .i64 (i : Int))]) ⟨rfl, rfl, trivial⟩ ?_
      refine WL.add (c := x3.params + (i : Int)) rfl rfl rfl rfl (rfl) (by omega) ?_
      exact WL.nil (N.cut () ⟨rfl, trivial⟩ (Below.refl _ _))
     refine And.intro (fun β w hS => ?_) ?_
     ·
      refine WL.sub (σ' := [(44, .agg #[.int .i64 x12.op, .int .i64 x12.a, .int .i64 x12.b, .int .u64 x12.k, .string x12.name, .slice ad12 x12.args.length cap12]), (48, .int .i64 (x3.params + (i : Int)))]) ⟨rfl, rfl, trivial⟩ ?_
      refine WL.callF (vs := [.agg #[.int .i64 x12.op, .int .i64 x12.a, .int .i64 x12.b, .int .u64 x12.k, .string x12.name, .slice ad12 x12.args.length cap12], .int .i64 (x3.params + (i : Int))]) Tryd.func95 (by kernel_rfl) rfl rfl rfl (inst5_ret x12 _ (x3.params + (i : Int)) (ro := ro) (fun b hb => (hS.snap b hb).1) (InstC.keep hQk12 hS.alike) ((hok.1 x3 (List.mem_of_getElem? hx3)).1 x12 (List.mem_of_getElem? hx12))) ?_
      rintro v w14 ⟨rfl, hbl⟩
      replace hS := hS.grow hbl
      exact WL.nil (N.cut () ⟨rfl, trivial⟩ hbl)
     trivial
    clear hS; intro w15 β hS
    refine WL.sub (σ' := [(2, .pointer (some ⟨b1, 0, none⟩)), (5, .pointer (some ⟨b4, 0, none⟩)), (6, .int .i64 (i : Int)), (49, .bool (inst5 x12 (x3.params + (i : Int))))]) ⟨rfl, rfl, rfl, rfl, trivial⟩ ?_
    refine WL.assign rfl rfl rfl (WL.nil (N.seq (W.seq (W.region (WL.move rfl rfl rfl (WL.not rfl rfl rfl (WL.nil (N.seq ?_))))))))
    refine W.cond rfl (fun hc16 => ?_) (fun hc16 => ?_)
    ·
     refine W.seq (W.region (WL.assign rfl rfl rfl (WL.nil (N.seq ?_))))
     refine Fin.ret1 rfl (v := .bool false) rfl ?_
     have hbz := hS.below
     clear hS
     refine ⟨x3, hx3, ?_, hbz⟩
     congr 1
     have he : allFrom x3.params x3.ins = false := by
      cases e : allFrom x3.params x3.ins with
      | false => rfl
      | true => rw [allFrom_at _ _ _ _ e hx12] at hc16; simp at hc16
     rw [block5, if_neg (by omega), if_pos he]
    refine W.skip (N.blk (N.seq (W.region (WL.move rfl rfl rfl ?_))))
    refine WL.add (c := (i : Int) + 1) rfl rfl rfl rfl (rfl) (by omega) ?_
    refine WL.assign rfl rfl rfl (WL.nil ?_)
    have htk2 : allFrom x3.params (x3.ins.take (i + 1)) = true := by rw [take_next hx12, allFrom_snoc, htk, List.length_take, Nat.min_eq_left (by omega)]; simpa using hc16
    exact N.loop (i + 1) ⟨rfl, rfl, rfl, trivial⟩ ⟨hS, by omega, htk2⟩ (by first | omega | (simp only; omega))
   have hc11p : ¬ ((i : Int) < (x3.ins.length : Int)) := by simpa using hc11
   refine W.exit (X.seq (X.loop (X.blk (N.seq (W.seq (W.region (WL.fieldAddr fo_91_2 rfl rfl rfl (WL.loadN (cs := [.int .i64 x3.fin.kind, .int .i64 x3.fin.a, .int .i64 x3.fin.to, .slice adp3 x3.fin.args.length capp3, .int .i64 x3.fin.els, .slice adq3 x3.fin.elses.length capq3]) agg_89 rfl rfl rfl rfl (hS.cells 0 (m := 6) rfl rfl) ?_))))))))
   refine WL.alloc (tyZero_spec zer_89) rfl rfl hS ?_
   clear hS; intro w18 b17 hb_b17 hS
   refine WL.store (L' := [(b17, .cells #[.int .i64 x3.fin.kind, .int .i64 x3.fin.a, .int .i64 x3.fin.to, .slice adp3 x3.fin.args.length capp3, .int .i64 x3.fin.els, .slice adq3 x3.fin.elses.length capq3] 89 (0, 0)), (b4, .cells #[.int .i64 x3.params, .slice adi3 x3.ins.length capi3, .int .i64 x3.fin.kind, .int .i64 x3.fin.a, .int .i64 x3.fin.to, .slice adp3 x3.fin.args.length capp3, .int .i64 x3.fin.els, .slice adq3 x3.fin.elses.length capq3] 91 (0, 0)), (b1, .cells #[.string f.name, .int .i64 f.bind, .int .i64 f.params, .slice adb f.blocks.length capb] 35 (0, 0))]) 0 rfl rfl rfl rfl siz_89 rfl rfl rfl rfl rfl hS ?_
   clear hS; intro w19 hS
   refine WL.nil (N.seq (W.seq (W.region (WL.fieldAddr fo_91_0 rfl rfl rfl (WL.load1 (v := .int .i64 x3.params) one_3 rfl rfl rfl (hS.cell 1 rfl rfl) (WL.fieldAddr fo_91_1 rfl rfl rfl (WL.load1 (v := .slice adi3 x3.ins.length capi3) one_87 rfl rfl rfl (hS.cell 1 rfl rfl) (WL.lenSlice Tryd.underlying87 rfl rfl rfl ?_))))))))
   refine WL.add (c := x3.params + (x3.ins.length : Int)) rfl rfl rfl rfl (rfl) (by omega) ?_
   refine WL.assign rfl rfl rfl (WL.nil (N.seq (W.seq (W.seq (W.region (WL.fieldAddr fo_89_0 rfl rfl rfl (WL.load1 (v := .int .i64 x3.fin.kind) one_3 rfl rfl rfl (hS.cell 0 rfl rfl) (WL.bin rfl rfl rfl rfl rfl (WL.nil ?_)))))))))
   refine N.seq ?_
   refine W.cond rfl (fun hc20 => ?_) (fun hc20 => ?_)
   ·
    have hc20p : x3.fin.kind = 1 := by simpa using hc20
    refine W.seq (W.region (WL.loadN (cs := [.string f.name, .int .i64 f.bind, .int .i64 f.params, .slice adb f.blocks.length capb]) agg_35 rfl rfl rfl rfl (hS.cells 2 (m := 4) rfl rfl) (WL.fieldAddr fo_89_2 rfl rfl rfl (WL.load1 (v := .int .i64 x3.fin.to) one_3 rfl rfl rfl (hS.cell 0 rfl rfl) (WL.fieldAddr fo_89_3 rfl rfl rfl (WL.load1 (v := .slice adp3 x3.fin.args.length capp3) one_84 rfl rfl rfl (hS.cell 0 rfl rfl) (WL.move rfl rfl rfl ?_)))))))
    refine WL.callF (vs := [.agg #[.string f.name, .int .i64 f.bind, .int .i64 f.params, .slice adb f.blocks.length capb], .int .i64 x3.fin.to, .slice adp3 x3.fin.args.length capp3, .int .i64 (x3.params + (x3.ins.length : Int))]) Tryd.func96 (by kernel_rfl) rfl rfl rfl (goes5_ret f _ x3.fin.to x3.fin.args _ (x3.params + (x3.ins.length : Int)) (ro := ro) (fun b hb => (hS.snap b hb).1) (FuncC.keep hx hS.alike) (IntsV.keep ht13 hS.alike)) ?_
    rintro v w21 ⟨rfl, hbl⟩
    replace hS := hS.grow hbl
    obtain ⟨u1, hu1⟩ : ∃ u, u = goes5 f x3.fin.to x3.fin.args (x3.params + (x3.ins.length : Int)) := ⟨_, rfl⟩
    rw [← hu1]
    refine WL.assign rfl rfl rfl (WL.nil (N.seq (W.seq (W.region (WL.move rfl rfl rfl (WL.move rfl rfl rfl ?_))))))
    cases hg22 : u1
    ·
     refine WL.skp rfl rfl (WL.skp rfl rfl (WL.skp rfl rfl (WL.pick (v := .bool false) rfl rfl rfl rfl rfl rfl (WL.move rfl rfl rfl (WL.skp rfl rfl (WL.skp rfl rfl (WL.skp rfl rfl (WL.pick (v := .bool false) rfl rfl rfl rfl rfl rfl (WL.move rfl rfl rfl ?_)))))))))
     refine WL.skp rfl rfl (WL.skp rfl rfl (WL.skp rfl rfl (WL.skp rfl rfl (WL.pick (v := .bool false) rfl rfl rfl rfl rfl rfl (WL.assign rfl rfl rfl (WL.nil (N.seq ?_)))))))
     refine Fin.ret1 rfl (v := .bool false) rfl ?_
     have hbz := hS.below
     clear hS
     refine ⟨x3, hx3, ?_, hbz⟩
     congr 1
     have hie : i = x3.ins.length := by omega
     rw [hie, List.take_length] at htk
     rw [block5, if_neg (by omega), if_neg (by simp [htk])]
     rw [term5, if_pos (by omega), ← hu1]
     clear hx hbl hbkd htk
     first | (simp_all; done) | (simp_all; omega) | (rw [Bool.eq_iff_iff]; simp only [Bool.and_eq_true, decide_eq_true_eq, Bool.false_eq_true, false_iff, iff_false]; omega)
    refine WL.fieldAddr fo_89_1 rfl rfl rfl (WL.load1 (v := .int .i64 x3.fin.a) one_3 rfl rfl rfl (hS.cell 0 rfl rfl) (WL.bin rfl rfl rfl rfl rfl (WL.pick (v := .bool (decide (x3.fin.a = 0))) rfl rfl rfl rfl rfl rfl (WL.move rfl rfl rfl ?_))))
    cases hg23 : (decide (x3.fin.a = 0))
    ·
     have hg23p : ¬ (x3.fin.a = 0) := by simpa using hg23
     refine WL.skp rfl rfl (WL.skp rfl rfl (WL.skp rfl rfl (WL.pick (v := .bool false) rfl rfl rfl rfl rfl rfl (WL.move rfl rfl rfl (WL.skp rfl rfl (WL.skp rfl rfl (WL.skp rfl rfl (WL.skp rfl rfl (WL.pick (v := .bool false) rfl rfl rfl rfl rfl rfl ?_)))))))))
     refine WL.assign rfl rfl rfl (WL.nil (N.seq ?_))
     refine Fin.ret1 rfl (v := .bool false) rfl ?_
     have hbz := hS.below
     clear hS
     refine ⟨x3, hx3, ?_, hbz⟩
     congr 1
     have hie : i = x3.ins.length := by omega
     rw [hie, List.take_length] at htk
     rw [block5, if_neg (by omega), if_neg (by simp [htk])]
     rw [term5, if_pos (by omega), ← hu1]
     clear hx hbl hbkd htk
     first | (simp_all; done) | (simp_all; omega) | (rw [Bool.eq_iff_iff]; simp only [Bool.and_eq_true, decide_eq_true_eq, Bool.false_eq_true, false_iff, iff_false]; omega)
    have hg23p : x3.fin.a = 0 := by simpa using hg23
    refine WL.fieldAddr fo_89_4 rfl rfl rfl (WL.load1 (v := .int .i64 x3.fin.els) one_3 rfl rfl rfl (hS.cell 0 rfl rfl) (WL.bin rfl rfl rfl rfl rfl (WL.pick (v := .bool (decide (x3.fin.els = 0))) rfl rfl rfl rfl rfl rfl (WL.move rfl rfl rfl ?_))))
    cases hg24 : (decide (x3.fin.els = 0))
    ·
     have hg24p : ¬ (x3.fin.els = 0) := by simpa using hg24
     refine WL.skp rfl rfl (WL.skp rfl rfl (WL.skp rfl rfl (WL.skp rfl rfl (WL.pick (v := .bool false) rfl rfl rfl rfl rfl rfl (WL.assign rfl rfl rfl (WL.nil (N.seq ?_)))))))
     refine Fin.ret1 rfl (v := .bool false) rfl ?_
     have hbz := hS.below
     clear hS
     refine ⟨x3, hx3, ?_, hbz⟩
     congr 1
     have hie : i = x3.ins.length := by omega
     rw [hie, List.take_length] at htk
     rw [block5, if_neg (by omega), if_neg (by simp [htk])]
     rw [term5, if_pos (by omega), ← hu1]
     clear hx hbl hbkd htk
     first | (simp_all; done) | (simp_all; omega) | (rw [Bool.eq_iff_iff]; simp only [Bool.and_eq_true, decide_eq_true_eq, Bool.false_eq_true, false_iff, iff_false]; omega)
    have hg24p : x3.fin.els = 0 := by simpa using hg24
    refine WL.fieldAddr fo_89_5 rfl rfl rfl (WL.load1 (v := .slice adq3 x3.fin.elses.length capq3) one_84 rfl rfl rfl (hS.cell 0 rfl rfl) (WL.lenSlice Tryd.underlying84 rfl rfl rfl (WL.bin rfl rfl rfl rfl rfl (WL.pick (v := .bool (decide ((x3.fin.elses.length : Int) = 0))) rfl rfl rfl rfl rfl rfl (WL.assign rfl rfl rfl (WL.nil (N.seq ?_)))))))
    refine Fin.ret1 rfl (v := .bool (decide ((x3.fin.elses.length : Int) = 0))) rfl ?_
    have hbz := hS.below
    clear hS
    refine ⟨x3, hx3, ?_, hbz⟩
    congr 1
    have hie : i = x3.ins.length := by omega
    rw [hie, List.take_length] at htk
    rw [block5, if_neg (by omega), if_neg (by simp [htk])]
    rw [term5, if_pos (by omega), ← hu1]
    clear hx hbl hbkd htk
    first | (simp_all; done) | (simp_all; omega) | (rw [Bool.eq_iff_iff]; simp only [Bool.and_eq_true, decide_eq_true_eq, Bool.false_eq_true, false_iff, iff_false]; omega)
   have hc20p : ¬ (x3.fin.kind = 1) := by simpa using hc20
   refine W.skip (N.seq (W.seq (W.region (WL.fieldAddr fo_89_1 rfl rfl rfl (WL.load1 (v := .int .i64 x3.fin.a) one_3 rfl rfl rfl (hS.cell 0 rfl rfl) (WL.bin rfl rfl rfl rfl rfl (WL.move rfl rfl rfl ?_)))))))
   cases hg25 : (decide (0 ≤ x3.fin.a))
   ·
    have hg25p : ¬ (0 ≤ x3.fin.a) := by simpa using hg25
    refine WL.skp rfl rfl (WL.skp rfl rfl (WL.skp rfl rfl (WL.skp rfl rfl (WL.pick (v := .bool false) rfl rfl rfl rfl rfl rfl (WL.assign rfl rfl rfl (WL.nil (N.seq (W.seq (W.seq ?_)))))))))
    refine W.region (WL.fieldAddr fo_89_0 rfl rfl rfl (WL.load1 (v := .int .i64 x3.fin.kind) one_3 rfl rfl rfl (hS.cell 0 rfl rfl) (WL.bin rfl rfl rfl rfl rfl (WL.nil (N.seq ?_)))))
    refine W.cond rfl (fun hc26 => ?_) (fun hc26 => ?_)
    ·
     have hc26p : x3.fin.kind = 2 := by simpa using hc26
     refine W.seq (W.region (WL.loadN (cs := [.string f.name, .int .i64 f.bind, .int .i64 f.params, .slice adb f.blocks.length capb]) agg_35 rfl rfl rfl rfl (hS.cells 2 (m := 4) rfl rfl) (WL.fieldAddr fo_89_2 rfl rfl rfl (WL.load1 (v := .int .i64 x3.fin.to) one_3 rfl rfl rfl (hS.cell 0 rfl rfl) (WL.fieldAddr fo_89_3 rfl rfl rfl (WL.load1 (v := .slice adp3 x3.fin.args.length capp3) one_84 rfl rfl rfl (hS.cell 0 rfl rfl) (WL.move rfl rfl rfl ?_)))))))
     refine WL.callF (vs := [.agg #[.string f.name, .int .i64 f.bind, .int .i64 f.params, .slice adb f.blocks.length capb], .int .i64 x3.fin.to, .slice adp3 x3.fin.args.length capp3, .int .i64 (x3.params + (x3.ins.length : Int))]) Tryd.func96 (by kernel_rfl) rfl rfl rfl (goes5_ret f _ x3.fin.to x3.fin.args _ (x3.params + (x3.ins.length : Int)) (ro := ro) (fun b hb => (hS.snap b hb).1) (FuncC.keep hx hS.alike) (IntsV.keep ht13 hS.alike)) ?_
     rintro v w27 ⟨rfl, hbl⟩
     replace hS := hS.grow hbl
     obtain ⟨u1, hu1⟩ : ∃ u, u = goes5 f x3.fin.to x3.fin.args (x3.params + (x3.ins.length : Int)) := ⟨_, rfl⟩
     rw [← hu1]
     refine WL.assign rfl rfl rfl (WL.nil (N.seq (W.seq (W.region (WL.loadN (cs := [.string f.name, .int .i64 f.bind, .int .i64 f.params, .slice adb f.blocks.length capb]) agg_35 rfl rfl rfl rfl (hS.cells 2 (m := 4) rfl rfl) (WL.fieldAddr fo_89_4 rfl rfl rfl (WL.load1 (v := .int .i64 x3.fin.els) one_3 rfl rfl rfl (hS.cell 0 rfl rfl) (WL.fieldAddr fo_89_5 rfl rfl rfl (WL.load1 (v := .slice adq3 x3.fin.elses.length capq3) one_84 rfl rfl rfl (hS.cell 0 rfl rfl) ?_)))))))))
     refine WL.move rfl rfl rfl ?_
     refine WL.callF (vs := [.agg #[.string f.name, .int .i64 f.bind, .int .i64 f.params, .slice adb f.blocks.length capb], .int .i64 x3.fin.els, .slice adq3 x3.fin.elses.length capq3, .int .i64 (x3.params + (x3.ins.length : Int))]) Tryd.func96 (by kernel_rfl) rfl rfl rfl (goes5_ret f _ x3.fin.els x3.fin.elses _ (x3.params + (x3.ins.length : Int)) (ro := ro) (fun b hb => (hS.snap b hb).1) (FuncC.keep hx hS.alike) (IntsV.keep ht23 hS.alike)) ?_
     rintro v w28 ⟨rfl, hbl⟩
     replace hS := hS.grow hbl
     obtain ⟨u2, hu2⟩ : ∃ u, u = goes5 f x3.fin.els x3.fin.elses (x3.params + (x3.ins.length : Int)) := ⟨_, rfl⟩
     rw [← hu2]
     refine WL.assign rfl rfl rfl (WL.nil (N.seq (W.seq (W.region (WL.move rfl rfl rfl (WL.move rfl rfl rfl (WL.skp rfl rfl (WL.pick (v := .bool false) rfl rfl rfl rfl rfl rfl (WL.move rfl rfl rfl ?_)))))))))
     refine WL.skp rfl rfl (WL.pick (v := .bool false) rfl rfl rfl rfl rfl rfl (WL.assign rfl rfl rfl (WL.nil (N.seq ?_))))
     refine Fin.ret1 rfl (v := .bool false) rfl ?_
     have hbz := hS.below
     clear hS
     refine ⟨x3, hx3, ?_, hbz⟩
     congr 1
     have hie : i = x3.ins.length := by omega
     rw [hie, List.take_length] at htk
     rw [block5, if_neg (by omega), if_neg (by simp [htk])]
     rw [term5, if_neg (by omega), if_pos (by omega), ← hu1, ← hu2]
     clear hx hbl hbkd htk
     first | (simp_all; done) | (simp_all; omega) | (rw [Bool.eq_iff_iff]; simp only [Bool.and_eq_true, decide_eq_true_eq, Bool.false_eq_true, false_iff, iff_false]; omega)
    have hc26p : ¬ (x3.fin.kind = 2) := by simpa using hc26
    refine W.skip (N.seq (W.seq (W.region (WL.fieldAddr fo_89_0 rfl rfl rfl (WL.load1 (v := .int .i64 x3.fin.kind) one_3 rfl rfl rfl (hS.cell 0 rfl rfl) (WL.bin rfl rfl rfl rfl rfl (WL.move rfl rfl rfl ?_)))))))
    cases hg29 : (decide (x3.fin.kind = 3))
    ·
     have hg29p : ¬ (x3.fin.kind = 3) := by simpa using hg29
     refine WL.skp rfl rfl (WL.pick (v := .bool false) rfl rfl rfl rfl rfl rfl (WL.move rfl rfl rfl (WL.skp rfl rfl (WL.skp rfl rfl (WL.skp rfl rfl (WL.pick (v := .bool false) rfl rfl rfl rfl rfl rfl (WL.move rfl rfl rfl (WL.skp rfl rfl (WL.skp rfl rfl ?_)))))))))
     refine WL.skp rfl rfl (WL.skp rfl rfl (WL.pick (v := .bool false) rfl rfl rfl rfl rfl rfl (WL.move rfl rfl rfl (WL.skp rfl rfl (WL.skp rfl rfl (WL.skp rfl rfl (WL.pick (v := .bool false) rfl rfl rfl rfl rfl rfl (WL.move rfl rfl rfl (WL.skp rfl rfl ?_)))))))))
     refine WL.skp rfl rfl (WL.skp rfl rfl (WL.skp rfl rfl (WL.pick (v := .bool false) rfl rfl rfl rfl rfl rfl (WL.assign rfl rfl rfl (WL.nil (N.seq ?_))))))
     refine Fin.ret1 rfl (v := .bool false) rfl ?_
     have hbz := hS.below
     clear hS
     refine ⟨x3, hx3, ?_, hbz⟩
     congr 1
     have hie : i = x3.ins.length := by omega
     rw [hie, List.take_length] at htk
     rw [block5, if_neg (by omega), if_neg (by simp [htk])]
     rw [term5, if_neg (by omega), if_neg (by omega)]
     clear hx hbl hbkd htk
     first | (simp_all; done) | (simp_all; omega) | (rw [Bool.eq_iff_iff]; simp only [Bool.and_eq_true, decide_eq_true_eq, Bool.false_eq_true, false_iff, iff_false]; omega)
    have hg29p : x3.fin.kind = 3 := by simpa using hg29
    refine WL.move rfl rfl rfl (WL.pick (v := .bool false) rfl rfl rfl rfl rfl rfl (WL.move rfl rfl rfl (WL.skp rfl rfl (WL.skp rfl rfl (WL.skp rfl rfl (WL.pick (v := .bool false) rfl rfl rfl rfl rfl rfl (WL.move rfl rfl rfl (WL.skp rfl rfl (WL.skp rfl rfl ?_)))))))))
    refine WL.skp rfl rfl (WL.skp rfl rfl (WL.pick (v := .bool false) rfl rfl rfl rfl rfl rfl (WL.move rfl rfl rfl (WL.skp rfl rfl (WL.skp rfl rfl (WL.skp rfl rfl (WL.pick (v := .bool false) rfl rfl rfl rfl rfl rfl (WL.move rfl rfl rfl (WL.skp rfl rfl ?_)))))))))
    refine WL.skp rfl rfl (WL.skp rfl rfl (WL.skp rfl rfl (WL.pick (v := .bool false) rfl rfl rfl rfl rfl rfl (WL.assign rfl rfl rfl (WL.nil (N.seq ?_))))))
    refine Fin.ret1 rfl (v := .bool false) rfl ?_
    have hbz := hS.below
    clear hS
    refine ⟨x3, hx3, ?_, hbz⟩
    congr 1
    have hie : i = x3.ins.length := by omega
    rw [hie, List.take_length] at htk
    rw [block5, if_neg (by omega), if_neg (by simp [htk])]
    rw [term5, if_neg (by omega), if_neg (by omega)]
    clear hx hbl hbkd htk
    first | (simp_all; done) | (simp_all; omega) | (rw [Bool.eq_iff_iff]; simp only [Bool.and_eq_true, decide_eq_true_eq, Bool.false_eq_true, false_iff, iff_false]; omega)
   have hg25p : 0 ≤ x3.fin.a := by simpa using hg25
   refine WL.fieldAddr fo_89_1 rfl rfl rfl (WL.load1 (v := .int .i64 x3.fin.a) one_3 rfl rfl rfl (hS.cell 0 rfl rfl) (WL.move rfl rfl rfl (WL.bin rfl rfl rfl rfl rfl (WL.pick (v := .bool (decide (x3.fin.a < x3.params + (x3.ins.length : Int)))) rfl rfl rfl rfl rfl rfl (WL.assign rfl rfl rfl (WL.nil (N.seq (W.seq (W.seq ?_)))))))))
   refine W.region (WL.fieldAddr fo_89_0 rfl rfl rfl (WL.load1 (v := .int .i64 x3.fin.kind) one_3 rfl rfl rfl (hS.cell 0 rfl rfl) (WL.bin rfl rfl rfl rfl rfl (WL.nil (N.seq ?_)))))
   refine W.cond rfl (fun hc30 => ?_) (fun hc30 => ?_)
   ·
    have hc30p : x3.fin.kind = 2 := by simpa using hc30
    refine W.seq (W.region (WL.loadN (cs := [.string f.name, .int .i64 f.bind, .int .i64 f.params, .slice adb f.blocks.length capb]) agg_35 rfl rfl rfl rfl (hS.cells 2 (m := 4) rfl rfl) (WL.fieldAddr fo_89_2 rfl rfl rfl (WL.load1 (v := .int .i64 x3.fin.to) one_3 rfl rfl rfl (hS.cell 0 rfl rfl) (WL.fieldAddr fo_89_3 rfl rfl rfl (WL.load1 (v := .slice adp3 x3.fin.args.length capp3) one_84 rfl rfl rfl (hS.cell 0 rfl rfl) (WL.move rfl rfl rfl ?_)))))))
    refine WL.callF (vs := [.agg #[.string f.name, .int .i64 f.bind, .int .i64 f.params, .slice adb f.blocks.length capb], .int .i64 x3.fin.to, .slice adp3 x3.fin.args.length capp3, .int .i64 (x3.params + (x3.ins.length : Int))]) Tryd.func96 (by kernel_rfl) rfl rfl rfl (goes5_ret f _ x3.fin.to x3.fin.args _ (x3.params + (x3.ins.length : Int)) (ro := ro) (fun b hb => (hS.snap b hb).1) (FuncC.keep hx hS.alike) (IntsV.keep ht13 hS.alike)) ?_
    rintro v w31 ⟨rfl, hbl⟩
    replace hS := hS.grow hbl
    obtain ⟨u1, hu1⟩ : ∃ u, u = goes5 f x3.fin.to x3.fin.args (x3.params + (x3.ins.length : Int)) := ⟨_, rfl⟩
    rw [← hu1]
    refine WL.assign rfl rfl rfl (WL.nil (N.seq (W.seq (W.region (WL.loadN (cs := [.string f.name, .int .i64 f.bind, .int .i64 f.params, .slice adb f.blocks.length capb]) agg_35 rfl rfl rfl rfl (hS.cells 2 (m := 4) rfl rfl) (WL.fieldAddr fo_89_4 rfl rfl rfl (WL.load1 (v := .int .i64 x3.fin.els) one_3 rfl rfl rfl (hS.cell 0 rfl rfl) (WL.fieldAddr fo_89_5 rfl rfl rfl (WL.load1 (v := .slice adq3 x3.fin.elses.length capq3) one_84 rfl rfl rfl (hS.cell 0 rfl rfl) ?_)))))))))
    refine WL.move rfl rfl rfl ?_
    refine WL.callF (vs := [.agg #[.string f.name, .int .i64 f.bind, .int .i64 f.params, .slice adb f.blocks.length capb], .int .i64 x3.fin.els, .slice adq3 x3.fin.elses.length capq3, .int .i64 (x3.params + (x3.ins.length : Int))]) Tryd.func96 (by kernel_rfl) rfl rfl rfl (goes5_ret f _ x3.fin.els x3.fin.elses _ (x3.params + (x3.ins.length : Int)) (ro := ro) (fun b hb => (hS.snap b hb).1) (FuncC.keep hx hS.alike) (IntsV.keep ht23 hS.alike)) ?_
    rintro v w32 ⟨rfl, hbl⟩
    replace hS := hS.grow hbl
    obtain ⟨u2, hu2⟩ : ∃ u, u = goes5 f x3.fin.els x3.fin.elses (x3.params + (x3.ins.length : Int)) := ⟨_, rfl⟩
    rw [← hu2]
    refine WL.assign rfl rfl rfl (WL.nil (N.seq (W.seq (W.region (WL.move rfl rfl rfl (WL.move rfl rfl rfl ?_))))))
    cases hg33 : (decide (x3.fin.a < x3.params + (x3.ins.length : Int)))
    ·
     have hg33p : ¬ (x3.fin.a < x3.params + (x3.ins.length : Int)) := by simpa using hg33
     refine WL.skp rfl rfl (WL.pick (v := .bool false) rfl rfl rfl rfl rfl rfl (WL.move rfl rfl rfl (WL.skp rfl rfl (WL.pick (v := .bool false) rfl rfl rfl rfl rfl rfl (WL.assign rfl rfl rfl (WL.nil (N.seq ?_)))))))
     refine Fin.ret1 rfl (v := .bool false) rfl ?_
     have hbz := hS.below
     clear hS
     refine ⟨x3, hx3, ?_, hbz⟩
     congr 1
     have hie : i = x3.ins.length := by omega
     rw [hie, List.take_length] at htk
     rw [block5, if_neg (by omega), if_neg (by simp [htk])]
     rw [term5, if_neg (by omega), if_pos (by omega), ← hu1, ← hu2]
     clear hx hbl hbkd htk
     first | (simp_all; done) | (simp_all; omega) | (rw [Bool.eq_iff_iff]; simp only [Bool.and_eq_true, decide_eq_true_eq, Bool.false_eq_true, false_iff, iff_false]; omega)
    have hg33p : x3.fin.a < x3.params + (x3.ins.length : Int) := by simpa using hg33
    refine WL.move rfl rfl rfl (WL.pick (v := .bool u1) rfl rfl rfl rfl rfl rfl (WL.move rfl rfl rfl ?_))
    cases hg34 : u1
    ·
     refine WL.skp rfl rfl (WL.pick (v := .bool false) rfl rfl rfl rfl rfl rfl (WL.assign rfl rfl rfl (WL.nil (N.seq ?_))))
     refine Fin.ret1 rfl (v := .bool false) rfl ?_
     have hbz := hS.below
     clear hS
     refine ⟨x3, hx3, ?_, hbz⟩
     congr 1
     have hie : i = x3.ins.length := by omega
     rw [hie, List.take_length] at htk
     rw [block5, if_neg (by omega), if_neg (by simp [htk])]
     rw [term5, if_neg (by omega), if_pos (by omega), ← hu1, ← hu2]
     clear hx hbl hbkd htk
     first | (simp_all; done) | (simp_all; omega) | (rw [Bool.eq_iff_iff]; simp only [Bool.and_eq_true, decide_eq_true_eq, Bool.false_eq_true, false_iff, iff_false]; omega)
    refine WL.move rfl rfl rfl (WL.pick (v := .bool u2) rfl rfl rfl rfl rfl rfl (WL.assign rfl rfl rfl (WL.nil (N.seq ?_))))
    refine Fin.ret1 rfl (v := .bool u2) rfl ?_
    have hbz := hS.below
    clear hS
    refine ⟨x3, hx3, ?_, hbz⟩
    congr 1
    have hie : i = x3.ins.length := by omega
    rw [hie, List.take_length] at htk
    rw [block5, if_neg (by omega), if_neg (by simp [htk])]
    rw [term5, if_neg (by omega), if_pos (by omega), ← hu1, ← hu2]
    clear hx hbl hbkd htk
    first | (simp_all; done) | (simp_all; omega) | (rw [Bool.eq_iff_iff]; simp only [Bool.and_eq_true, decide_eq_true_eq, Bool.false_eq_true, false_iff, iff_false]; omega)
   have hc30p : ¬ (x3.fin.kind = 2) := by simpa using hc30
   refine W.skip (N.seq (W.seq (W.region (WL.fieldAddr fo_89_0 rfl rfl rfl (WL.load1 (v := .int .i64 x3.fin.kind) one_3 rfl rfl rfl (hS.cell 0 rfl rfl) (WL.bin rfl rfl rfl rfl rfl (WL.move rfl rfl rfl ?_)))))))
   cases hg35 : (decide (x3.fin.kind = 3))
   ·
    have hg35p : ¬ (x3.fin.kind = 3) := by simpa using hg35
    refine WL.skp rfl rfl (WL.pick (v := .bool false) rfl rfl rfl rfl rfl rfl (WL.move rfl rfl rfl (WL.skp rfl rfl (WL.skp rfl rfl (WL.skp rfl rfl (WL.pick (v := .bool false) rfl rfl rfl rfl rfl rfl (WL.move rfl rfl rfl (WL.skp rfl rfl (WL.skp rfl rfl ?_)))))))))
    refine WL.skp rfl rfl (WL.skp rfl rfl (WL.pick (v := .bool false) rfl rfl rfl rfl rfl rfl (WL.move rfl rfl rfl (WL.skp rfl rfl (WL.skp rfl rfl (WL.skp rfl rfl (WL.pick (v := .bool false) rfl rfl rfl rfl rfl rfl (WL.move rfl rfl rfl (WL.skp rfl rfl ?_)))))))))
    refine WL.skp rfl rfl (WL.skp rfl rfl (WL.skp rfl rfl (WL.pick (v := .bool false) rfl rfl rfl rfl rfl rfl (WL.assign rfl rfl rfl (WL.nil (N.seq ?_))))))
    refine Fin.ret1 rfl (v := .bool false) rfl ?_
    have hbz := hS.below
    clear hS
    refine ⟨x3, hx3, ?_, hbz⟩
    congr 1
    have hie : i = x3.ins.length := by omega
    rw [hie, List.take_length] at htk
    rw [block5, if_neg (by omega), if_neg (by simp [htk])]
    rw [term5, if_neg (by omega), if_neg (by omega)]
    clear hx hbl hbkd htk
    first | (simp_all; done) | (simp_all; omega) | (rw [Bool.eq_iff_iff]; simp only [Bool.and_eq_true, decide_eq_true_eq, Bool.false_eq_true, false_iff, iff_false]; omega)
   have hg35p : x3.fin.kind = 3 := by simpa using hg35
   refine WL.move rfl rfl rfl (WL.pick (v := .bool (decide (x3.fin.a < x3.params + (x3.ins.length : Int)))) rfl rfl rfl rfl rfl rfl (WL.move rfl rfl rfl ?_))
   cases hg36 : (decide (x3.fin.a < x3.params + (x3.ins.length : Int)))
   ·
    have hg36p : ¬ (x3.fin.a < x3.params + (x3.ins.length : Int)) := by simpa using hg36
    refine WL.skp rfl rfl (WL.skp rfl rfl (WL.skp rfl rfl (WL.pick (v := .bool false) rfl rfl rfl rfl rfl rfl (WL.move rfl rfl rfl (WL.skp rfl rfl (WL.skp rfl rfl (WL.skp rfl rfl (WL.skp rfl rfl (WL.pick (v := .bool false) rfl rfl rfl rfl rfl rfl ?_)))))))))
    refine WL.move rfl rfl rfl (WL.skp rfl rfl (WL.skp rfl rfl (WL.skp rfl rfl (WL.pick (v := .bool false) rfl rfl rfl rfl rfl rfl (WL.move rfl rfl rfl (WL.skp rfl rfl (WL.skp rfl rfl (WL.skp rfl rfl (WL.skp rfl rfl ?_)))))))))
    refine WL.pick (v := .bool false) rfl rfl rfl rfl rfl rfl (WL.assign rfl rfl rfl (WL.nil (N.seq ?_)))
    refine Fin.ret1 rfl (v := .bool false) rfl ?_
    have hbz := hS.below
    clear hS
    refine ⟨x3, hx3, ?_, hbz⟩
    congr 1
    have hie : i = x3.ins.length := by omega
    rw [hie, List.take_length] at htk
    rw [block5, if_neg (by omega), if_neg (by simp [htk])]
    rw [term5, if_neg (by omega), if_neg (by omega)]
    clear hx hbl hbkd htk
    first | (simp_all; done) | (simp_all; omega) | (rw [Bool.eq_iff_iff]; simp only [Bool.and_eq_true, decide_eq_true_eq, Bool.false_eq_true, false_iff, iff_false]; omega)
   have hg36p : x3.fin.a < x3.params + (x3.ins.length : Int) := by simpa using hg36
   refine WL.fieldAddr fo_89_2 rfl rfl rfl (WL.load1 (v := .int .i64 x3.fin.to) one_3 rfl rfl rfl (hS.cell 0 rfl rfl) (WL.bin rfl rfl rfl rfl rfl (WL.pick (v := .bool (decide (x3.fin.to = 0))) rfl rfl rfl rfl rfl rfl (WL.move rfl rfl rfl ?_))))
   cases hg37 : (decide (x3.fin.to = 0))
   ·
    have hg37p : ¬ (x3.fin.to = 0) := by simpa using hg37
    refine WL.skp rfl rfl (WL.skp rfl rfl (WL.skp rfl rfl (WL.skp rfl rfl (WL.pick (v := .bool false) rfl rfl rfl rfl rfl rfl (WL.move rfl rfl rfl (WL.skp rfl rfl (WL.skp rfl rfl (WL.skp rfl rfl (WL.pick (v := .bool false) rfl rfl rfl rfl rfl rfl ?_)))))))))
    refine WL.move rfl rfl rfl (WL.skp rfl rfl (WL.skp rfl rfl (WL.skp rfl rfl (WL.skp rfl rfl (WL.pick (v := .bool false) rfl rfl rfl rfl rfl rfl (WL.assign rfl rfl rfl (WL.nil (N.seq ?_))))))))
    refine Fin.ret1 rfl (v := .bool false) rfl ?_
    have hbz := hS.below
    clear hS
    refine ⟨x3, hx3, ?_, hbz⟩
    congr 1
    have hie : i = x3.ins.length := by omega
    rw [hie, List.take_length] at htk
    rw [block5, if_neg (by omega), if_neg (by simp [htk])]
    rw [term5, if_neg (by omega), if_neg (by omega)]
    clear hx hbl hbkd htk
    first | (simp_all; done) | (simp_all; omega) | (rw [Bool.eq_iff_iff]; simp only [Bool.and_eq_true, decide_eq_true_eq, Bool.false_eq_true, false_iff, iff_false]; omega)
   have hg37p : x3.fin.to = 0 := by simpa using hg37
   refine WL.fieldAddr fo_89_3 rfl rfl rfl (WL.load1 (v := .slice adp3 x3.fin.args.length capp3) one_84 rfl rfl rfl (hS.cell 0 rfl rfl) (WL.lenSlice Tryd.underlying84 rfl rfl rfl (WL.bin rfl rfl rfl rfl rfl (WL.pick (v := .bool (decide ((x3.fin.args.length : Int) = 0))) rfl rfl rfl rfl rfl rfl (WL.move rfl rfl rfl ?_)))))
   cases hg38 : (decide ((x3.fin.args.length : Int) = 0))
   ·
    have hg38p : ¬ ((x3.fin.args.length : Int) = 0) := by simpa using hg38
    refine WL.skp rfl rfl (WL.skp rfl rfl (WL.skp rfl rfl (WL.pick (v := .bool false) rfl rfl rfl rfl rfl rfl (WL.move rfl rfl rfl (WL.skp rfl rfl (WL.skp rfl rfl (WL.skp rfl rfl (WL.skp rfl rfl (WL.pick (v := .bool false) rfl rfl rfl rfl rfl rfl ?_)))))))))
    refine WL.assign rfl rfl rfl (WL.nil (N.seq ?_))
    refine Fin.ret1 rfl (v := .bool false) rfl ?_
    have hbz := hS.below
    clear hS
    refine ⟨x3, hx3, ?_, hbz⟩
    congr 1
    have hie : i = x3.ins.length := by omega
    rw [hie, List.take_length] at htk
    rw [block5, if_neg (by omega), if_neg (by simp [htk])]
    rw [term5, if_neg (by omega), if_neg (by omega)]
    clear hx hbl hbkd htk
    first | (simp_all; done) | (simp_all; omega) | (rw [Bool.eq_iff_iff]; simp only [Bool.and_eq_true, decide_eq_true_eq, Bool.false_eq_true, false_iff, iff_false]; omega)
   have hg38p : (x3.fin.args.length : Int) = 0 := by simpa using hg38
   refine WL.fieldAddr fo_89_4 rfl rfl rfl (WL.load1 (v := .int .i64 x3.fin.els) one_3 rfl rfl rfl (hS.cell 0 rfl rfl) (WL.bin rfl rfl rfl rfl rfl (WL.pick (v := .bool (decide (x3.fin.els = 0))) rfl rfl rfl rfl rfl rfl (WL.move rfl rfl rfl ?_))))
   cases hg39 : (decide (x3.fin.els = 0))
   ·
    have hg39p : ¬ (x3.fin.els = 0) := by simpa using hg39
    refine WL.skp rfl rfl (WL.skp rfl rfl (WL.skp rfl rfl (WL.skp rfl rfl (WL.pick (v := .bool false) rfl rfl rfl rfl rfl rfl (WL.assign rfl rfl rfl (WL.nil (N.seq ?_)))))))
    refine Fin.ret1 rfl (v := .bool false) rfl ?_
    have hbz := hS.below
    clear hS
    refine ⟨x3, hx3, ?_, hbz⟩
    congr 1
    have hie : i = x3.ins.length := by omega
    rw [hie, List.take_length] at htk
    rw [block5, if_neg (by omega), if_neg (by simp [htk])]
    rw [term5, if_neg (by omega), if_neg (by omega)]
    clear hx hbl hbkd htk
    first | (simp_all; done) | (simp_all; omega) | (rw [Bool.eq_iff_iff]; simp only [Bool.and_eq_true, decide_eq_true_eq, Bool.false_eq_true, false_iff, iff_false]; omega)
   have hg39p : x3.fin.els = 0 := by simpa using hg39
   refine WL.fieldAddr fo_89_5 rfl rfl rfl (WL.load1 (v := .slice adq3 x3.fin.elses.length capq3) one_84 rfl rfl rfl (hS.cell 0 rfl rfl) (WL.lenSlice Tryd.underlying84 rfl rfl rfl (WL.bin rfl rfl rfl rfl rfl (WL.pick (v := .bool (decide ((x3.fin.elses.length : Int) = 0))) rfl rfl rfl rfl rfl rfl (WL.assign rfl rfl rfl (WL.nil (N.seq ?_)))))))
   refine Fin.ret1 rfl (v := .bool (decide ((x3.fin.elses.length : Int) = 0))) rfl ?_
   have hbz := hS.below
   clear hS
   refine ⟨x3, hx3, ?_, hbz⟩
   congr 1
   have hie : i = x3.ins.length := by omega
   rw [hie, List.take_length] at htk
   rw [block5, if_neg (by omega), if_neg (by simp [htk])]
   rw [term5, if_neg (by omega), if_neg (by omega)]
   clear hx hbl hbkd htk
   first | (simp_all; done) | (simp_all; omega) | (rw [Bool.eq_iff_iff]; simp only [Bool.and_eq_true, decide_eq_true_eq, Bool.false_eq_true, false_iff, iff_false]; omega)
  have hg8p : 6 < x3.params := by simpa using hg8
  refine WL.skp rfl rfl (WL.skp rfl rfl (WL.skp rfl rfl (WL.skp rfl rfl (WL.pick (v := .bool true) rfl rfl rfl rfl rfl rfl (WL.nil (N.seq (W.condT rfl (W.seq (W.region ?_)))))))))
  refine WL.assign rfl rfl rfl (WL.nil (N.seq ?_))
  refine Fin.ret1 rfl (v := .bool false) rfl ?_
  have hbz := hS.below
  clear hS
  refine ⟨x3, hx3, ?_, hbz⟩
  congr 1
  rw [block5, if_pos (by omega)]
 have hg7p : x3.params < 0 := by simpa using hg7
 refine WL.skp rfl rfl (WL.skp rfl rfl (WL.skp rfl rfl (WL.pick (v := .bool true) rfl rfl rfl rfl rfl rfl (WL.move rfl rfl rfl (WL.skp rfl rfl (WL.skp rfl rfl (WL.skp rfl rfl (WL.skp rfl rfl (WL.pick (v := .bool true) rfl rfl rfl rfl rfl rfl ?_)))))))))
 refine WL.nil (N.seq (W.condT rfl (W.seq (W.region (WL.assign rfl rfl rfl (WL.nil (N.seq ?_)))))))
 refine Fin.ret1 rfl (v := .bool false) rfl ?_
 have hbz := hS.below
 clear hS
 refine ⟨x3, hx3, ?_, hbz⟩
 congr 1
 rw [block5, if_pos (by omega)]

end Go.Proofs.YtapjejjmhmdmdaaDoor

namespace Go.Proofs.YtapjejjmhmdmdaaDoor
open Go.RowKit

def func5 (f : DFunc) : Bool :=
  if name5 f.name = false ∨ f.bind < 1 ∨ 3 < f.bind ∨ f.params < 0 ∨ 6 < f.params ∨ 16 < f.blocks.length then false
  else match f.blocks with
  | [] => decide (f.bind ≠ 1)
  | b :: _ => decide (b.params = f.params) && f.blocks.all (block5 f)

theorem func5_ret (f : DFunc) (cf : List Value) {w : World} {ro : Nat → Prop} (hro : ∀ b, ro b → b < w.heap.size) (hx : FuncC ro w cf f) (hok : okFunc f) : Ret Tryd.prog 44 #[.agg cf.toArray] w fun v w' => v = .bool (func5 f) ∧ Below w.heap.size w w' := by
 obtain ⟨sb, rfl, hbl, hnm, hbd, hpr⟩ := id hx
 obtain ⟨adb, capb, rfl, hbka, hbkb, hbkc, hbkd⟩ := id hbl
 have hbkm : f.blocks.length ≤ 9223372036854775807 := by have h1 := hbka; have h2 := hbkb; unfold maxLen at h2; omega
 refine Ret.enter (P := Tryd.prog) (n := 64) (args := [.agg #[.string f.name, .int .i64 f.bind, .int .i64 f.params, .slice adb f.blocks.length capb]]) (σ := [(0, .agg #[.string f.name, .int .i64 f.bind, .int .i64 f.params, .slice adb f.blocks.length capb])]) Tryd.func44 rfl rfl rfl rfl ?_
 have hS := St.start (ro := ro) hro
 refine W.seq (W.region ?_)
 refine WL.box (v := .agg #[.string f.name, .int .i64 f.bind, .int .i64 f.params, .slice adb f.blocks.length capb]) (cs := [.string f.name, .int .i64 f.bind, .int .i64 f.params, .slice adb f.blocks.length capb]) rfl rfl rfl rfl hS ?_
 clear hS; intro w2 b1 hb_b1 hS
 refine WL.assign rfl rfl rfl (WL.nil (N.seq (W.seq (W.region (WL.fieldAddr fo_35_0 rfl rfl rfl (WL.load1 (v := .string f.name) one_9 rfl rfl rfl (hS.cell 0 rfl rfl) ?_))))))
 refine WL.callF (vs := [.string f.name]) Tryd.func45 (by kernel_rfl) rfl rfl rfl (name5_ret f.name hnm (ro := ro) (fun b hb => (hS.snap b hb).1)) ?_
 rintro v w3 ⟨rfl, hbl⟩
 replace hS := hS.grow hbl
 obtain ⟨un, hun⟩ : ∃ u, u = name5 f.name := ⟨_, rfl⟩
 rw [← hun]
 refine WL.assign rfl rfl rfl (WL.nil (N.seq (W.seq (W.seq (W.region (WL.move rfl rfl rfl (WL.not rfl rfl rfl (WL.move rfl rfl rfl ?_))))))))
 cases hg4 : (!un)
 ·
  refine WL.fieldAddr fo_35_1 rfl rfl rfl (WL.load1 (v := .int .i64 f.bind) one_3 rfl rfl rfl (hS.cell 0 rfl rfl) (WL.bin rfl rfl rfl rfl rfl (WL.pick (v := .bool (decide (f.bind < 1))) rfl rfl rfl rfl rfl rfl (WL.move rfl rfl rfl ?_))))
  cases hg5 : (decide (f.bind < 1))
  ·
   have hg5p : ¬ (f.bind < 1) := by simpa using hg5
   refine WL.fieldAddr fo_35_1 rfl rfl rfl (WL.load1 (v := .int .i64 f.bind) one_3 rfl rfl rfl (hS.cell 0 rfl rfl) (WL.bin rfl rfl rfl rfl rfl (WL.pick (v := .bool (decide (3 < f.bind))) rfl rfl rfl rfl rfl rfl (WL.move rfl rfl rfl ?_))))
   cases hg6 : (decide (3 < f.bind))
   ·
    have hg6p : ¬ (3 < f.bind) := by simpa using hg6
    refine WL.fieldAddr fo_35_2 rfl rfl rfl (WL.load1 (v := .int .i64 f.params) one_3 rfl rfl rfl (hS.cell 0 rfl rfl) (WL.bin rfl rfl rfl rfl rfl (WL.pick (v := .bool (decide (f.params < 0))) rfl rfl rfl rfl rfl rfl (WL.move rfl rfl rfl ?_))))
    cases hg7 : (decide (f.params < 0))
    ·
     have hg7p : ¬ (f.params < 0) := by simpa using hg7
     refine WL.fieldAddr fo_35_2 rfl rfl rfl (WL.load1 (v := .int .i64 f.params) one_3 rfl rfl rfl (hS.cell 0 rfl rfl) (WL.bin rfl rfl rfl rfl rfl (WL.pick (v := .bool (decide (6 < f.params))) rfl rfl rfl rfl rfl rfl (WL.move rfl rfl rfl ?_))))
     cases hg8 : (decide (6 < f.params))
     ·
      have hg8p : ¬ (6 < f.params) := by simpa using hg8
      refine WL.fieldAddr fo_35_3 rfl rfl rfl (WL.load1 (v := .slice adb f.blocks.length capb) one_33 rfl rfl rfl (hS.cell 0 rfl rfl) (WL.lenSlice Tryd.underlying33 rfl rfl rfl (WL.bin rfl rfl rfl rfl rfl (WL.pick (v := .bool (decide (16 < (f.blocks.length : Int)))) rfl rfl rfl rfl rfl rfl (WL.nil (N.seq ?_))))))
      refine W.cond rfl (fun hc9 => ?_) (fun hc9 => ?_)
      ·
       have hc9p : 16 < (f.blocks.length : Int) := by simpa using hc9
       refine W.seq (W.region (WL.assign rfl rfl rfl (WL.nil (N.seq ?_))))
       refine Fin.ret1 rfl (v := .bool false) rfl ?_
       have hbz := hS.below
       clear hS
       refine ⟨?_, hbz⟩
       congr 1
       rw [func5, if_pos (by clear hx hbl; rw [← hun]; first | omega | (simp_all; done) | (rintro (h | h | h | h | h | h) <;> first | omega | (simp_all; done)))]
      have hc9p : ¬ (16 < (f.blocks.length : Int)) := by simpa using hc9
      refine W.skip (N.seq (W.seq (W.seq (W.region (WL.fieldAddr fo_35_3 rfl rfl rfl (WL.load1 (v := .slice adb f.blocks.length capb) one_33 rfl rfl rfl (hS.cell 0 rfl rfl) (WL.lenSlice Tryd.underlying33 rfl rfl rfl (WL.bin rfl rfl rfl rfl rfl (WL.nil ?_)))))))))
      refine N.seq ?_
      refine W.cond rfl (fun hc10 => ?_) (fun hc10 => ?_)
      ·
       have hc10p : (f.blocks.length : Int) = 0 := by simpa using hc10
       refine W.seq (W.region (WL.fieldAddr fo_35_1 rfl rfl rfl (WL.load1 (v := .int .i64 f.bind) one_3 rfl rfl rfl (hS.cell 0 rfl rfl) (WL.bin rfl rfl rfl rfl rfl (WL.assign rfl rfl rfl (WL.nil (N.seq ?_)))))))
       refine Fin.ret1 rfl (v := .bool (!decide (f.bind = 1))) rfl ?_
       have hbz := hS.below
       clear hS
       refine ⟨?_, hbz⟩
       congr 1
       have he : f.blocks = [] := List.eq_nil_of_length_eq_zero (by omega)
       rw [func5, if_neg (by clear hx hbl; rw [← hun]; first | omega | (simp_all; done) | (rintro (h | h | h | h | h | h) <;> first | omega | (simp_all; done))), he]
       clear hx hbl; first | (simp_all; done) | (rw [Bool.eq_iff_iff]; simp only [decide_eq_true_eq, Bool.not_eq_true', decide_eq_false_iff_not]; omega)
      have hc10p : ¬ ((f.blocks.length : Int) = 0) := by simpa using hc10
      refine W.skip (N.seq (W.seq (W.seq ?_)))
      have hj11 : 0 < f.blocks.length := by omega
      obtain ⟨x11, hx11⟩ : ∃ zz, f.blocks[0]? = some zz := ⟨_, List.getElem?_eq_getElem hj11⟩
      obtain ⟨b11, o11, cs11, hE11, hr11, hl11, hc11, hQ11⟩ := hbkd 0 _ hx11
      obtain ⟨si11, tsx11, rfl, hin11, hfin11, hpar11⟩ := id hQ11
      obtain ⟨adi11, capi11, rfl, hin11a, hin11b, hin11c, hin11d⟩ := id hin11
      have hin11m : x11.ins.length ≤ 9223372036854775807 := by have h1 := hin11a; have h2 := hin11b; unfold maxLen at h2; omega
      obtain ⟨sp11, sq11, rfl, ht111, ht211, htk11, hta11, htt11, hte11⟩ := id hfin11
      obtain ⟨adp11, capp11, rfl, htp11a, htp11b, htp11c, htp11d⟩ := id ht111
      have htp11m : x11.fin.args.length ≤ 9223372036854775807 := by have h1 := htp11a; have h2 := htp11b; unfold maxLen at h2; omega
      obtain ⟨adq11, capq11, rfl, htq11a, htq11b, htq11c, htq11d⟩ := id ht211
      have htq11m : x11.fin.elses.length ≤ 9223372036854775807 := by have h1 := htq11a; have h2 := htq11b; unfold maxLen at h2; omega
      refine W.drawL (by kernel_rfl) 8 ((.q (.pointer (some ⟨b1, 3, none⟩))) :: (.q (.slice adb f.blocks.length capb)) :: (.q (.pointer (some ⟨b11, o11 + 0 * 8, none⟩))) :: (.q (.pointer (some ⟨b11, o11 + 0 * 8, none⟩))) :: (.q (.int .i64 x11.params)) :: (.q (.pointer (some ⟨b1, 2, none⟩))) :: (.q (.int .i64 f.params)) :: (.q (.bool (!decide (x11.params = f.params)))) :: []) (by kernel_rfl) (by kernel_rfl) [(1, .pointer (some ⟨b1, 0, none⟩)), (2, .bool false)] ⟨rfl, rfl, trivial⟩ (by kernel_rfl) hS ?_ ?_
      ·
       refine And.intro (fun β w hS => ?_) ?_
       ·
        refine WL.sub (σ' := [(1, .pointer (some ⟨b1, 0, none⟩))]) ⟨rfl, trivial⟩ ?_
        refine WL.fieldAddr fo_35_3 rfl rfl rfl ?_
        exact WL.nil (N.cut () ⟨rfl, trivial⟩ (Below.refl _ _))
       refine And.intro (fun β w hS => ?_) ?_
       ·
        refine WL.sub (σ' := [(44, .pointer (some ⟨b1, 3, none⟩))]) ⟨rfl, trivial⟩ ?_
        refine WL.load1 (v := .slice adb f.blocks.length capb) one_33 rfl rfl rfl (hS.cell 0 rfl rfl) ?_
        exact WL.nil (N.cut () ⟨rfl, trivial⟩ (Below.refl _ _))
       refine And.intro (fun β w hS => ?_) ?_
       ·
        refine WL.sub (σ' := [(45, .slice adb f.blocks.length capb)]) ⟨rfl, trivial⟩ ?_
        refine WL.indexAddrE (j := 0) Tryd.underlying33 isz_91 rfl rfl rfl rfl hj11 hE11 ?_
        exact WL.nil (N.cut () ⟨rfl, trivial⟩ (Below.refl _ _))
       refine And.intro (fun β w hS => ?_) ?_
       ·
        refine WL.sub (σ' := [(46, .pointer (some ⟨b11, o11 + 0 * 8, none⟩))]) ⟨rfl, trivial⟩ ?_
        refine WL.fieldAddr fo_91_0 rfl rfl rfl ?_
        exact WL.nil (N.cut () ⟨rfl, trivial⟩ (Below.refl _ _))
       refine And.intro (fun β w hS => ?_) ?_
       ·
        refine WL.sub (σ' := [(47, .pointer (some ⟨b11, o11 + 0 * 8, none⟩))]) ⟨rfl, trivial⟩ ?_
        refine WL.load1 (v := .int .i64 x11.params) one_3 rfl rfl rfl (hS.roCells hr11 hc11 0 _ rfl) ?_
        exact WL.nil (N.cut () ⟨rfl, trivial⟩ (Below.refl _ _))
       refine And.intro (fun β w hS => ?_) ?_
       ·
        refine WL.sub (σ' := [(1, .pointer (some ⟨b1, 0, none⟩))]) ⟨rfl, trivial⟩ ?_
        refine WL.fieldAddr fo_35_2 rfl rfl rfl ?_
        exact WL.nil (N.cut () ⟨rfl, trivial⟩ (Below.refl _ _))
       refine And.intro (fun β w hS => ?_) ?_
       ·
        refine WL.sub (σ' := [(49, .pointer (some ⟨b1, 2, none⟩))]) ⟨rfl, trivial⟩ ?_
        refine WL.load1 (v := .int .i64 f.params) one_3 rfl rfl rfl (hS.cell 0 rfl rfl) ?_
        exact WL.nil (N.cut () ⟨rfl, trivial⟩ (Below.refl _ _))
       refine And.intro (fun β w hS => ?_) ?_
       ·
        refine WL.sub (σ' := [(48, .int .i64 x11.params), (50, .int .i64 f.params)]) ⟨rfl, rfl, trivial⟩ ?_
        refine WL.bin rfl rfl rfl rfl rfl ?_
        exact WL.nil (N.cut () ⟨rfl, trivial⟩ (Below.refl _ _))
       trivial
      clear hS; intro w12 β hS
      refine WL.sub (σ' := [(1, .pointer (some ⟨b1, 0, none⟩)), (2, .bool false), (51, .bool (!decide (x11.params = f.params)))]) ⟨rfl, rfl, rfl, trivial⟩ ?_
      refine WL.nil (N.seq ?_)
      refine W.cond rfl (fun hc13 => ?_) (fun hc13 => ?_)
      ·
       have hc13p : ¬ (x11.params = f.params) := by simpa using hc13
       refine W.seq (W.region (WL.assign rfl rfl rfl (WL.nil (N.seq ?_))))
       refine Fin.ret1 rfl (v := .bool false) rfl ?_
       have hbz := hS.below
       clear hS
       refine ⟨?_, hbz⟩
       congr 1
       obtain ⟨b0, r0, he⟩ : ∃ b r, f.blocks = b :: r := by
                  cases e : f.blocks with
                  | nil => rw [e] at hx11; simp at hx11
                  | cons b r => exact ⟨b, r, rfl⟩
       have hb0 : b0 = x11 := by rw [he] at hx11; simpa using hx11
       subst hb0
       have hf : func5 f = (decide (b0.params = f.params) && f.blocks.all (block5 f)) := by
                  rw [func5, if_neg (by clear hx hbl; rw [← hun]; first | omega | (simp_all; done) | (rintro (h | h | h | h | h | h) <;> first | omega | (simp_all; done)))]
                  split
                  ·
                   rename_i e; rw [he] at e; cases e
                  rename_i e; rw [he] at e; cases e; rfl
       rw [hf]
       rw [decide_eq_false (by omega)]; rfl
      have hc13p : x11.params = f.params := by simpa using hc13
      refine W.skip (N.seq (W.seq (W.seq (W.region (WL.assign rfl rfl rfl (WL.nil (N.seq (W.block ?_))))))))
      refine W.loop (α := Nat) (fun (k : Nat) => [(1, .pointer (some ⟨b1, 0, none⟩)), (4, .int .i64 (k : Int))]) (fun (k : Nat) u => St w w u ro [(b1, .cells #[.string f.name, .int .i64 f.bind, .int .i64 f.params, .slice adb f.blocks.length capb] 35 (0, 0))] [] ∧ k ≤ f.blocks.length ∧ (f.blocks.take k).all (block5 f) = true) (fun (k : Nat) => f.blocks.length - k) 0 ⟨rfl, rfl, trivial⟩ ⟨hS, Nat.zero_le _, by simp⟩ ?_
      clear hS
      rintro k w14 ⟨hS, hk, htk⟩
      refine W.seq (W.seq (W.region (WL.move rfl rfl rfl (WL.fieldAddr fo_35_3 rfl rfl rfl (WL.load1 (v := .slice adb f.blocks.length capb) one_33 rfl rfl rfl (hS.cell 0 rfl rfl) (WL.lenSlice Tryd.underlying33 rfl rfl rfl (WL.bin rfl rfl rfl rfl rfl (WL.nil (N.seq ?_)))))))))
      refine W.cond rfl (fun hc15 => ?_) (fun hc15 => ?_)
      ·
       have hc15p : (k : Int) < (f.blocks.length : Int) := by simpa using hc15
       refine W.skip (N.seq (W.seq (W.block (W.seq (W.region (WL.loadN (cs := [.string f.name, .int .i64 f.bind, .int .i64 f.params, .slice adb f.blocks.length capb]) agg_35 rfl rfl rfl rfl (hS.cells 0 (m := 4) rfl rfl) (WL.move rfl rfl rfl ?_)))))))
       refine WL.callF (vs := [.agg #[.string f.name, .int .i64 f.bind, .int .i64 f.params, .slice adb f.blocks.length capb], .int .i64 (k : Int)]) Tryd.func79 (by kernel_rfl) rfl rfl rfl (block5_ret f _ k (ro := ro) (fun b hb => (hS.snap b hb).1) (FuncC.keep hx hS.alike) hok (by omega)) ?_
       rintro v w17 ⟨b16, hb16, rfl, hbl⟩
       replace hS := hS.grow hbl
       refine WL.assign rfl rfl rfl (WL.nil (N.seq (W.seq (W.region (WL.move rfl rfl rfl (WL.not rfl rfl rfl (WL.nil (N.seq ?_))))))))
       refine W.cond rfl (fun hc18 => ?_) (fun hc18 => ?_)
       ·
        refine W.seq (W.region (WL.assign rfl rfl rfl (WL.nil (N.seq ?_))))
        refine Fin.ret1 rfl (v := .bool false) rfl ?_
        have hbz := hS.below
        clear hS
        refine ⟨?_, hbz⟩
        congr 1
        obtain ⟨b0, r0, he⟩ : ∃ b r, f.blocks = b :: r := by
                     cases e : f.blocks with
                     | nil => rw [e] at hx11; simp at hx11
                     | cons b r => exact ⟨b, r, rfl⟩
        have hb0 : b0 = x11 := by rw [he] at hx11; simpa using hx11
        subst hb0
        have hf : func5 f = (decide (b0.params = f.params) && f.blocks.all (block5 f)) := by
                     rw [func5, if_neg (by clear hx hbl; rw [← hun]; first | omega | (simp_all; done) | (rintro (h | h | h | h | h | h) <;> first | omega | (simp_all; done)))]
                     split
                     ·
                      rename_i e; rw [he] at e; cases e
                     rename_i e; rw [he] at e; cases e; rfl
        rw [hf]
        have hn : f.blocks.all (block5 f) = false := by rw [List.all_eq_false]; exact ⟨b16, List.mem_of_getElem? hb16, by simpa using hc18⟩
        rw [hn, Bool.and_false]
       refine W.skip (N.blk (N.seq (W.region (WL.move rfl rfl rfl ?_))))
       refine WL.add (c := (k : Int) + 1) rfl rfl rfl rfl (rfl) (by omega) ?_
       refine WL.assign rfl rfl rfl (WL.nil ?_)
       have htk2 : (f.blocks.take (k + 1)).all (block5 f) = true := by rw [take_next hb16, List.all_append, htk]; simpa using hc18
       exact N.loop (k + 1) ⟨rfl, rfl, trivial⟩ ⟨hS, by omega, htk2⟩ (by first | omega | (simp only; omega))
      have hc15p : ¬ ((k : Int) < (f.blocks.length : Int)) := by simpa using hc15
      refine W.exit (X.seq (X.loop (X.blk (N.seq (W.seq (W.region (WL.assign rfl rfl rfl (WL.nil (N.seq ?_)))))))))
      refine Fin.ret1 rfl (v := .bool true) rfl ?_
      have hbz := hS.below
      clear hS
      refine ⟨?_, hbz⟩
      congr 1
      obtain ⟨b0, r0, he⟩ : ∃ b r, f.blocks = b :: r := by
                  cases e : f.blocks with
                  | nil => rw [e] at hx11; simp at hx11
                  | cons b r => exact ⟨b, r, rfl⟩
      have hb0 : b0 = x11 := by rw [he] at hx11; simpa using hx11
      subst hb0
      have hf : func5 f = (decide (b0.params = f.params) && f.blocks.all (block5 f)) := by
                  rw [func5, if_neg (by clear hx hbl; rw [← hun]; first | omega | (simp_all; done) | (rintro (h | h | h | h | h | h) <;> first | omega | (simp_all; done)))]
                  split
                  ·
                   rename_i e; rw [he] at e; cases e
                  rename_i e; rw [he] at e; cases e; rfl
      rw [hf]
      have hke : k = f.blocks.length := by omega
      rw [hke, List.take_length] at htk
      rw [htk, decide_eq_true (by omega)]; rfl
     have hg8p : 6 < f.params := by simpa using hg8
     refine WL.skp rfl rfl (WL.skp rfl rfl (WL.skp rfl rfl (WL.skp rfl rfl (WL.pick (v := .bool true) rfl rfl rfl rfl rfl rfl (WL.nil (N.seq (W.condT rfl (W.seq (W.region ?_)))))))))
     refine WL.assign rfl rfl rfl (WL.nil (N.seq ?_))
     refine Fin.ret1 rfl (v := .bool false) rfl ?_
     have hbz := hS.below
     clear hS
     refine ⟨?_, hbz⟩
     congr 1
     rw [func5, if_pos (by clear hx hbl; rw [← hun]; first | omega | (simp_all; done) | (rintro (h | h | h | h | h | h) <;> first | omega | (simp_all; done)))]
    have hg7p : f.params < 0 := by simpa using hg7
    refine WL.skp rfl rfl (WL.skp rfl rfl (WL.skp rfl rfl (WL.pick (v := .bool true) rfl rfl rfl rfl rfl rfl (WL.move rfl rfl rfl (WL.skp rfl rfl (WL.skp rfl rfl (WL.skp rfl rfl (WL.skp rfl rfl (WL.pick (v := .bool true) rfl rfl rfl rfl rfl rfl ?_)))))))))
    refine WL.nil (N.seq (W.condT rfl (W.seq (W.region (WL.assign rfl rfl rfl (WL.nil (N.seq ?_)))))))
    refine Fin.ret1 rfl (v := .bool false) rfl ?_
    have hbz := hS.below
    clear hS
    refine ⟨?_, hbz⟩
    congr 1
    rw [func5, if_pos (by clear hx hbl; rw [← hun]; first | omega | (simp_all; done) | (rintro (h | h | h | h | h | h) <;> first | omega | (simp_all; done)))]
   have hg6p : 3 < f.bind := by simpa using hg6
   refine WL.skp rfl rfl (WL.skp rfl rfl (WL.skp rfl rfl (WL.pick (v := .bool true) rfl rfl rfl rfl rfl rfl (WL.move rfl rfl rfl (WL.skp rfl rfl (WL.skp rfl rfl (WL.skp rfl rfl (WL.pick (v := .bool true) rfl rfl rfl rfl rfl rfl (WL.move rfl rfl rfl ?_)))))))))
   refine WL.skp rfl rfl (WL.skp rfl rfl (WL.skp rfl rfl (WL.skp rfl rfl (WL.pick (v := .bool true) rfl rfl rfl rfl rfl rfl (WL.nil (N.seq (W.condT rfl (W.seq (W.region ?_)))))))))
   refine WL.assign rfl rfl rfl (WL.nil (N.seq ?_))
   refine Fin.ret1 rfl (v := .bool false) rfl ?_
   have hbz := hS.below
   clear hS
   refine ⟨?_, hbz⟩
   congr 1
   rw [func5, if_pos (by clear hx hbl; rw [← hun]; first | omega | (simp_all; done) | (rintro (h | h | h | h | h | h) <;> first | omega | (simp_all; done)))]
  have hg5p : f.bind < 1 := by simpa using hg5
  refine WL.skp rfl rfl (WL.skp rfl rfl (WL.skp rfl rfl (WL.pick (v := .bool true) rfl rfl rfl rfl rfl rfl (WL.move rfl rfl rfl (WL.skp rfl rfl (WL.skp rfl rfl (WL.skp rfl rfl (WL.pick (v := .bool true) rfl rfl rfl rfl rfl rfl (WL.move rfl rfl rfl ?_)))))))))
  refine WL.skp rfl rfl (WL.skp rfl rfl (WL.skp rfl rfl (WL.pick (v := .bool true) rfl rfl rfl rfl rfl rfl (WL.move rfl rfl rfl (WL.skp rfl rfl (WL.skp rfl rfl (WL.skp rfl rfl (WL.skp rfl rfl (WL.pick (v := .bool true) rfl rfl rfl rfl rfl rfl ?_)))))))))
  refine WL.nil (N.seq (W.condT rfl (W.seq (W.region (WL.assign rfl rfl rfl (WL.nil (N.seq ?_)))))))
  refine Fin.ret1 rfl (v := .bool false) rfl ?_
  have hbz := hS.below
  clear hS
  refine ⟨?_, hbz⟩
  congr 1
  rw [func5, if_pos (by clear hx hbl; rw [← hun]; first | omega | (simp_all; done) | (rintro (h | h | h | h | h | h) <;> first | omega | (simp_all; done)))]
 refine WL.skp rfl rfl (WL.skp rfl rfl (WL.skp rfl rfl (WL.pick (v := .bool true) rfl rfl rfl rfl rfl rfl (WL.move rfl rfl rfl (WL.skp rfl rfl (WL.skp rfl rfl (WL.skp rfl rfl (WL.pick (v := .bool true) rfl rfl rfl rfl rfl rfl (WL.move rfl rfl rfl ?_)))))))))
 refine WL.skp rfl rfl (WL.skp rfl rfl (WL.skp rfl rfl (WL.pick (v := .bool true) rfl rfl rfl rfl rfl rfl (WL.move rfl rfl rfl (WL.skp rfl rfl (WL.skp rfl rfl (WL.skp rfl rfl (WL.pick (v := .bool true) rfl rfl rfl rfl rfl rfl (WL.move rfl rfl rfl ?_)))))))))
 refine WL.skp rfl rfl (WL.skp rfl rfl (WL.skp rfl rfl (WL.skp rfl rfl (WL.pick (v := .bool true) rfl rfl rfl rfl rfl rfl (WL.nil (N.seq (W.condT rfl (W.seq (W.region ?_)))))))))
 refine WL.assign rfl rfl rfl (WL.nil (N.seq ?_))
 refine Fin.ret1 rfl (v := .bool false) rfl ?_
 have hbz := hS.below
 clear hS
 refine ⟨?_, hbz⟩
 congr 1
 rw [func5, if_pos (by clear hx hbl; rw [← hun]; first | omega | (simp_all; done) | (rintro (h | h | h | h | h | h) <;> first | omega | (simp_all; done)))]

end Go.Proofs.YtapjejjmhmdmdaaDoor

namespace Go.Proofs.YtapjejjmhmdmdaaDoor
open Go.RowKit

def findN : Nat → List ByteArray → ByteArray → Int
  | _, [], _ => -1
  | i, n :: r, s => if n = s then (i : Int) else findN (i + 1) r s
def find5 (l : List ByteArray) (s : ByteArray) : Int := findN 0 l s
theorem findN_at : ∀ (l : List ByteArray) (s : ByteArray) (i k : Nat), (∀ j, j < k → l[j]? ≠ some s) → l[k]? = some s → findN i l s = ((i + k : Nat) : Int)
  | [], _, _, _, _, h => by simp at h
  | n :: r, s, i, 0, _, h => by
    simp only [List.getElem?_cons_zero, Option.some.injEq] at h
    subst h; simp [findN]
  | n :: r, s, i, k + 1, h, hk => by
    have h0 : ¬ n = s := fun e => h 0 (by omega) (by simp [e])
    rw [findN, if_neg h0, findN_at r s (i + 1) k (fun j hj => by have := h (j + 1) (by omega); simpa using this) (by simpa using hk)]
    omega
theorem findN_no : ∀ (l : List ByteArray) (s : ByteArray) (i : Nat), (∀ j, j < l.length → l[j]? ≠ some s) → findN i l s = -1
  | [], _, _, _ => rfl
  | n :: r, s, i, h => by
    have h0 : ¬ n = s := fun e => h 0 (by simp) (by simp [e])
    rw [findN, if_neg h0]
    exact findN_no r s (i + 1) fun j hj => by have := h (j + 1) (by simp; omega); simpa using this
theorem find5_cases (l : List ByteArray) (s : ByteArray) : (find5 l s = -1 ∧ s ∉ l) ∨ ∃ k : Nat, find5 l s = (k : Int) ∧ l[k]? = some s ∧ k < l.length ∧ ∀ j, j < k → l[j]? ≠ some s := by
  by_cases h : ∃ k, k < l.length ∧ l[k]? = some s
  · obtain ⟨k, ⟨h1, h2⟩, h3⟩ := Go.exists_least (p := fun k => k < l.length ∧ l[k]? = some s) h
    have h4 : ∀ j, j < k → l[j]? ≠ some s := fun j hj e => by have := h3 j ⟨by omega, e⟩; omega
    exact .inr ⟨k, by rw [find5, findN_at l s 0 k h4 h2, Nat.zero_add], h2, h1, h4⟩
  · refine .inl ⟨findN_no l s 0 fun j hj e => h ⟨j, hj, e⟩, fun hm => ?_⟩
    obtain ⟨j, hj⟩ := List.getElem?_of_mem hm
    exact h ⟨j, (List.getElem?_eq_some_iff.1 hj).1, hj⟩
def fnames (m : DMod) : List ByteArray := m.funcs.map (·.name)
def gnames (m : DMod) : List ByteArray := m.globs.map (·.name)
def names5 (m : DMod) : List ByteArray := fnames m ++ gnames m

theorem findfnames_ret (m : DMod) (cm : List Value) (s : ByteArray) {w : World} {ro : Nat → Prop} (hro : ∀ b, ro b → b < w.heap.size) (hx : ModC ro w cm m) : Ret Tryd.prog 18 #[.agg cm.toArray, .string s] w fun v w' => v = .int .i64 (find5 (fnames m) s) ∧ Below w.heap.size w w' := by
 obtain ⟨sf, sg, rfl, hfs, hgs⟩ := id hx
 obtain ⟨adf, capf, rfl, hfsa, hfsb, hfsc, hfsd⟩ := id hfs
 have hfsm : m.funcs.length ≤ 9223372036854775807 := by have h1 := hfsa; have h2 := hfsb; unfold maxLen at h2; omega
 obtain ⟨adg, capg, rfl, hgsa, hgsb, hgsc, hgsd⟩ := id hgs
 have hgsm : m.globs.length ≤ 9223372036854775807 := by have h1 := hgsa; have h2 := hgsb; unfold maxLen at h2; omega
 refine Ret.enter (P := Tryd.prog) (n := 22) (args := [.agg #[.slice adf m.funcs.length capf, .slice adg m.globs.length capg], .string s]) (σ := [(0, .agg #[.slice adf m.funcs.length capf, .slice adg m.globs.length capg]), (1, .string s)]) Tryd.func18 rfl rfl rfl rfl ?_
 have hS := St.start (ro := ro) hro
 refine W.seq (W.region ?_)
 refine WL.box (v := .agg #[.slice adf m.funcs.length capf, .slice adg m.globs.length capg]) (cs := [.slice adf m.funcs.length capf, .slice adg m.globs.length capg]) rfl rfl rfl rfl hS ?_
 clear hS; intro w2 b1 hb_b1 hS
 refine WL.assign rfl rfl rfl (WL.nil (N.seq (W.seq (W.seq (W.region (WL.assign rfl rfl rfl (WL.nil (N.seq (W.block ?_)))))))))
 refine W.loop (α := Nat) (fun (k : Nat) => [(1, .string s), (2, .pointer (some ⟨b1, 0, none⟩)), (5, .int .i64 (k : Int))]) (fun (k : Nat) u => St w w u ro [(b1, .cells #[.slice adf m.funcs.length capf, .slice adg m.globs.length capg] 32 (0, 0))] [] ∧ k ≤ m.funcs.length ∧ ∀ j, j < k → (fnames m)[j]? ≠ some s) (fun (k : Nat) => m.funcs.length - k) 0 ⟨rfl, rfl, rfl, trivial⟩ ⟨hS, Nat.zero_le _, fun j hj => by omega⟩ ?_
 clear hS
 rintro k w3 ⟨hS, hk, htk⟩
 refine W.seq (W.seq (W.region (WL.move rfl rfl rfl (WL.fieldAddr fo_32_0 rfl rfl rfl (WL.load1 (v := .slice adf m.funcs.length capf) one_29 rfl rfl rfl (hS.cell 0 rfl rfl) (WL.lenSlice Tryd.underlying29 rfl rfl rfl (WL.bin rfl rfl rfl rfl rfl (WL.nil (N.seq ?_)))))))))
 refine W.cond rfl (fun hc4 => ?_) (fun hc4 => ?_)
 ·
  have hc4p : (k : Int) < (m.funcs.length : Int) := by simpa using hc4
  refine W.skip (N.seq (W.seq (W.block (W.seq (W.region (WL.fieldAddr fo_32_0 rfl rfl rfl (WL.load1 (v := .slice adf m.funcs.length capf) one_29 rfl rfl rfl (hS.cell 0 rfl rfl) (WL.move rfl rfl rfl ?_))))))))
  have hj5 : k < m.funcs.length := by omega
  obtain ⟨x5, hx5⟩ : ∃ zz, m.funcs[k]? = some zz := ⟨_, List.getElem?_eq_getElem hj5⟩
  obtain ⟨b5, o5, cs5, hE5, hr5, hl5, hc5, hQ5⟩ := hfsd k _ hx5
  obtain ⟨sb5, rfl, hbl5, hnm5, hbd5, hpr5⟩ := id hQ5
  obtain ⟨adb5, capb5, rfl, hbk5a, hbk5b, hbk5c, hbk5d⟩ := id hbl5
  have hbk5m : x5.blocks.length ≤ 9223372036854775807 := by have h1 := hbk5a; have h2 := hbk5b; unfold maxLen at h2; omega
  refine WL.indexAddrE (j := k) Tryd.underlying29 isz_35 rfl rfl rfl rfl hj5 hE5 (WL.fieldAddr fo_35_0 rfl rfl rfl (WL.load1 (v := .string x5.name) one_9 rfl rfl rfl (hS.roCells hr5 hc5 0 _ rfl) (WL.move rfl rfl rfl (WL.eqStr rfl rfl rfl rfl (WL.nil (N.seq ?_))))))
  refine W.cond rfl (fun hc6 => ?_) (fun hc6 => ?_)
  ·
   have hc6p : x5.name = s := by simpa using hc6
   refine W.seq (W.region (WL.move rfl rfl rfl (WL.assign rfl rfl rfl (WL.nil (N.seq ?_)))))
   refine Fin.ret1 rfl (v := .int .i64 (k : Int)) rfl ?_
   have hbz := hS.below
   clear hS
   refine ⟨?_, hbz⟩
   congr 1
   rw [find5, findN_at (fnames m) s 0 k htk (by unfold fnames; rw [List.getElem?_map, hx5]; simpa using hc6p), Nat.zero_add]
  have hc6p : ¬ (x5.name = s) := by simpa using hc6
  refine W.skip (N.blk (N.seq (W.region (WL.move rfl rfl rfl ?_))))
  refine WL.add (c := (k : Int) + 1) rfl rfl rfl rfl (rfl) (by omega) ?_
  refine WL.assign rfl rfl rfl (WL.nil ?_)
  have htk2 : ∀ j, j < k + 1 → (fnames m)[j]? ≠ some s := fun j hj => by
   by_cases e : j = k
   ·
    subst e; unfold fnames; rw [List.getElem?_map, hx5]; simpa using hc6p
   exact htk j (by omega)
  exact N.loop (k + 1) ⟨rfl, rfl, rfl, trivial⟩ ⟨hS, by omega, htk2⟩ (by first | omega | (simp only; omega))
 have hc4p : ¬ ((k : Int) < (m.funcs.length : Int)) := by simpa using hc4
 refine W.exit (X.seq (X.loop (X.blk (N.seq (W.seq (W.region (WL.assign rfl rfl rfl (WL.nil (N.seq ?_)))))))))
 refine Fin.ret1 rfl (v := .int .i64 (-1)) rfl ?_
 have hbz := hS.below
 clear hS
 refine ⟨?_, hbz⟩
 congr 1
 rw [find5, findN_no (fnames m) s 0 (fun j hj => htk j (by unfold fnames at hj; rw [List.length_map] at hj; omega))]

theorem findgnames_ret (m : DMod) (cm : List Value) (s : ByteArray) {w : World} {ro : Nat → Prop} (hro : ∀ b, ro b → b < w.heap.size) (hx : ModC ro w cm m) : Ret Tryd.prog 19 #[.agg cm.toArray, .string s] w fun v w' => v = .int .i64 (find5 (gnames m) s) ∧ Below w.heap.size w w' := by
 obtain ⟨sf, sg, rfl, hfs, hgs⟩ := id hx
 obtain ⟨adf, capf, rfl, hfsa, hfsb, hfsc, hfsd⟩ := id hfs
 have hfsm : m.funcs.length ≤ 9223372036854775807 := by have h1 := hfsa; have h2 := hfsb; unfold maxLen at h2; omega
 obtain ⟨adg, capg, rfl, hgsa, hgsb, hgsc, hgsd⟩ := id hgs
 have hgsm : m.globs.length ≤ 9223372036854775807 := by have h1 := hgsa; have h2 := hgsb; unfold maxLen at h2; omega
 refine Ret.enter (P := Tryd.prog) (n := 22) (args := [.agg #[.slice adf m.funcs.length capf, .slice adg m.globs.length capg], .string s]) (σ := [(0, .agg #[.slice adf m.funcs.length capf, .slice adg m.globs.length capg]), (1, .string s)]) Tryd.func19 rfl rfl rfl rfl ?_
 have hS := St.start (ro := ro) hro
 refine W.seq (W.region ?_)
 refine WL.box (v := .agg #[.slice adf m.funcs.length capf, .slice adg m.globs.length capg]) (cs := [.slice adf m.funcs.length capf, .slice adg m.globs.length capg]) rfl rfl rfl rfl hS ?_
 clear hS; intro w2 b1 hb_b1 hS
 refine WL.assign rfl rfl rfl (WL.nil (N.seq (W.seq (W.seq (W.region (WL.assign rfl rfl rfl (WL.nil (N.seq (W.block ?_)))))))))
 refine W.loop (α := Nat) (fun (k : Nat) => [(1, .string s), (2, .pointer (some ⟨b1, 0, none⟩)), (5, .int .i64 (k : Int))]) (fun (k : Nat) u => St w w u ro [(b1, .cells #[.slice adf m.funcs.length capf, .slice adg m.globs.length capg] 32 (0, 0))] [] ∧ k ≤ m.globs.length ∧ ∀ j, j < k → (gnames m)[j]? ≠ some s) (fun (k : Nat) => m.globs.length - k) 0 ⟨rfl, rfl, rfl, trivial⟩ ⟨hS, Nat.zero_le _, fun j hj => by omega⟩ ?_
 clear hS
 rintro k w3 ⟨hS, hk, htk⟩
 refine W.seq (W.seq (W.region (WL.move rfl rfl rfl (WL.fieldAddr fo_32_1 rfl rfl rfl (WL.load1 (v := .slice adg m.globs.length capg) one_30 rfl rfl rfl (hS.cell 0 rfl rfl) (WL.lenSlice Tryd.underlying30 rfl rfl rfl (WL.bin rfl rfl rfl rfl rfl (WL.nil (N.seq ?_)))))))))
 refine W.cond rfl (fun hc4 => ?_) (fun hc4 => ?_)
 ·
  have hc4p : (k : Int) < (m.globs.length : Int) := by simpa using hc4
  refine W.skip (N.seq (W.seq (W.block (W.seq (W.region (WL.fieldAddr fo_32_1 rfl rfl rfl (WL.load1 (v := .slice adg m.globs.length capg) one_30 rfl rfl rfl (hS.cell 0 rfl rfl) (WL.move rfl rfl rfl ?_))))))))
  have hj5 : k < m.globs.length := by omega
  obtain ⟨x5, hx5⟩ : ∃ zz, m.globs[k]? = some zz := ⟨_, List.getElem?_eq_getElem hj5⟩
  obtain ⟨b5, o5, cs5, hE5, hr5, hl5, hc5, hQ5⟩ := hgsd k _ hx5
  obtain ⟨rfl, hgn5, hgb5, hgi5⟩ := hQ5
  refine WL.indexAddrE (j := k) Tryd.underlying30 isz_38 rfl rfl rfl rfl hj5 hE5 (WL.fieldAddr fo_38_0 rfl rfl rfl (WL.load1 (v := .string x5.name) one_9 rfl rfl rfl (hS.roCells hr5 hc5 0 _ rfl) (WL.move rfl rfl rfl (WL.eqStr rfl rfl rfl rfl (WL.nil (N.seq ?_))))))
  refine W.cond rfl (fun hc6 => ?_) (fun hc6 => ?_)
  ·
   have hc6p : x5.name = s := by simpa using hc6
   refine W.seq (W.region (WL.move rfl rfl rfl (WL.assign rfl rfl rfl (WL.nil (N.seq ?_)))))
   refine Fin.ret1 rfl (v := .int .i64 (k : Int)) rfl ?_
   have hbz := hS.below
   clear hS
   refine ⟨?_, hbz⟩
   congr 1
   rw [find5, findN_at (gnames m) s 0 k htk (by unfold gnames; rw [List.getElem?_map, hx5]; simpa using hc6p), Nat.zero_add]
  have hc6p : ¬ (x5.name = s) := by simpa using hc6
  refine W.skip (N.blk (N.seq (W.region (WL.move rfl rfl rfl ?_))))
  refine WL.add (c := (k : Int) + 1) rfl rfl rfl rfl (rfl) (by omega) ?_
  refine WL.assign rfl rfl rfl (WL.nil ?_)
  have htk2 : ∀ j, j < k + 1 → (gnames m)[j]? ≠ some s := fun j hj => by
   by_cases e : j = k
   ·
    subst e; unfold gnames; rw [List.getElem?_map, hx5]; simpa using hc6p
   exact htk j (by omega)
  exact N.loop (k + 1) ⟨rfl, rfl, rfl, trivial⟩ ⟨hS, by omega, htk2⟩ (by first | omega | (simp only; omega))
 have hc4p : ¬ ((k : Int) < (m.globs.length : Int)) := by simpa using hc4
 refine W.exit (X.seq (X.loop (X.blk (N.seq (W.seq (W.region (WL.assign rfl rfl rfl (WL.nil (N.seq ?_)))))))))
 refine Fin.ret1 rfl (v := .int .i64 (-1)) rfl ?_
 have hbz := hS.below
 clear hS
 refine ⟨?_, hbz⟩
 congr 1
 rw [find5, findN_no (gnames m) s 0 (fun j hj => htk j (by unfold gnames at hj; rw [List.length_map] at hj; omega))]

end Go.Proofs.YtapjejjmhmdmdaaDoor

namespace Go.Proofs.YtapjejjmhmdmdaaDoor
open Go.RowKit

theorem names5_ret (m : DMod) (cm : List Value) {w : World} {ro : Nat → Prop} (hro : ∀ b, ro b → b < w.heap.size) (hx : ModC ro w cm m) (hlf : m.funcs.length ≤ 16) (hlg : m.globs.length ≤ 16) : Ret Tryd.prog 46 #[.agg cm.toArray] w fun v w' => SlV (fun b => w.heap.size ≤ b ∧ b < w'.heap.size) w' 1 StrC v (names5 m) ∧ Below w.heap.size w w' := by
 obtain ⟨sf, sg, rfl, hfs, hgs⟩ := id hx
 obtain ⟨adf, capf, rfl, hfsa, hfsb, hfsc, hfsd⟩ := id hfs
 have hfsm : m.funcs.length ≤ 9223372036854775807 := by have h1 := hfsa; have h2 := hfsb; unfold maxLen at h2; omega
 obtain ⟨adg, capg, rfl, hgsa, hgsb, hgsc, hgsd⟩ := id hgs
 have hgsm : m.globs.length ≤ 9223372036854775807 := by have h1 := hgsa; have h2 := hgsb; unfold maxLen at h2; omega
 refine Ret.enter (P := Tryd.prog) (n := 39) (args := [.agg #[.slice adf m.funcs.length capf, .slice adg m.globs.length capg]]) (σ := [(0, .agg #[.slice adf m.funcs.length capf, .slice adg m.globs.length capg])]) Tryd.func46 rfl rfl rfl rfl ?_
 have hS := St.start (ro := ro) hro
 refine W.seq (W.region ?_)
 refine WL.box (v := .agg #[.slice adf m.funcs.length capf, .slice adg m.globs.length capg]) (cs := [.slice adf m.funcs.length capf, .slice adg m.globs.length capg]) rfl rfl rfl rfl hS ?_
 clear hS; intro w2 b1 hb_b1 hS
 refine WL.assign rfl rfl rfl (WL.nil (N.seq (W.seq (W.region (WL.assign rfl rfl rfl (WL.nil (N.seq (W.seq (W.seq ?_)))))))))
 refine W.region (WL.assign rfl rfl rfl (WL.nil (N.seq (W.block ?_))))
 replace hS := hS.row0 9 1
 refine W.loop (α := Nat × Value × List Value) (fun ⟨k, v, cs⟩ => [(1, .pointer (some ⟨b1, 0, none⟩)), (2, .slice none 0 0), (3, v), (4, .int .i64 (k : Int))]) (fun ⟨k, v, cs⟩ u => St w w u ro [(b1, .cells #[.slice adf m.funcs.length capf, .slice adg m.globs.length capg] 32 (0, 0))] [⟨v, 9, 1, k, cs⟩] ∧ k ≤ m.funcs.length ∧ Chunks 1 StrC cs ((fnames m).take k)) (fun ⟨k, v, cs⟩ => m.funcs.length - k) (0, (.slice none 0 0), []) ⟨rfl, rfl, rfl, rfl, trivial⟩ ⟨hS, Nat.zero_le _, Chunks.nil⟩ ?_
 clear hS
 rintro ⟨k, v, cs⟩ w3 ⟨hS, hk, hch⟩
 have hrow : w3.ownsRow w.heap.size 9 1 v (k) _ := hS.rows _ List.mem_cons_self
 obtain ⟨adv, capv, rfl, hr1v, hr2v, hr3v⟩ := row_shape hrow
 clear hrow
 refine W.seq (W.seq (W.region (WL.move rfl rfl rfl (WL.fieldAddr fo_32_0 rfl rfl rfl (WL.load1 (v := .slice adf m.funcs.length capf) one_29 rfl rfl rfl (hS.cell 0 rfl rfl) (WL.lenSlice Tryd.underlying29 rfl rfl rfl (WL.bin rfl rfl rfl rfl rfl (WL.nil (N.seq ?_)))))))))
 refine W.cond rfl (fun hc4 => ?_) (fun hc4 => ?_)
 ·
  have hc4p : (k : Int) < (m.funcs.length : Int) := by simpa using hc4
  refine W.skip (N.seq (W.seq (W.block (W.region (WL.move rfl rfl rfl (WL.fieldAddr fo_32_0 rfl rfl rfl (WL.load1 (v := .slice adf m.funcs.length capf) one_29 rfl rfl rfl (hS.cell 0 rfl rfl) (WL.move rfl rfl rfl ?_))))))))
  have hj5 : k < m.funcs.length := by omega
  obtain ⟨x5, hx5⟩ : ∃ zz, m.funcs[k]? = some zz := ⟨_, List.getElem?_eq_getElem hj5⟩
  obtain ⟨b5, o5, cs5, hE5, hr5, hl5, hc5, hQ5⟩ := hfsd k _ hx5
  obtain ⟨sb5, rfl, hbl5, hnm5, hbd5, hpr5⟩ := id hQ5
  obtain ⟨adb5, capb5, rfl, hbk5a, hbk5b, hbk5c, hbk5d⟩ := id hbl5
  have hbk5m : x5.blocks.length ≤ 9223372036854775807 := by have h1 := hbk5a; have h2 := hbk5b; unfold maxLen at h2; omega
  refine WL.indexAddrE (j := k) Tryd.underlying29 isz_35 rfl rfl rfl rfl hj5 hE5 (WL.fieldAddr fo_35_0 rfl rfl rfl (WL.load1 (v := .string x5.name) one_9 rfl rfl rfl (hS.roCells hr5 hc5 0 _ rfl) ?_))
  refine WL.buildSlice (ps := [(0, .string x5.name)]) (cs := [.string x5.name]) Tryd.underlying25 (tyZero_spec zer_9) rfl rfl rfl rfl (by kernel_rfl) hS ?_
  clear hS; intro w7 b6 hb_b6 hS
  refine WL.append (r := ⟨.slice adv k capv, 9, 1, k, cs⟩) (cs := [.string x5.name]) 16 Tryd.underlying25 (tyZero_spec zer_9) byt_9 rfl rfl rfl rfl rfl rfl rfl rfl rfl hS (by unfold maxLen; simp only; omega) (by simp only; omega) ?_
  clear hS; intro w8 v9 hn_v9 hS
  have hrow : w8.ownsRow w.heap.size 9 1 v9 (k + 1) _ := hS.rows _ List.mem_cons_self
  obtain ⟨av9, cv9, rfl, hc1_v9, hc2_v9, hc3_v9⟩ := row_shape hrow
  clear hrow
  refine WL.assign rfl rfl rfl (WL.nil (N.blk (N.seq (W.region (WL.move rfl rfl rfl ?_)))))
  refine WL.add (c := (k : Int) + 1) rfl rfl rfl rfl (rfl) (by omega) ?_
  refine WL.assign rfl rfl rfl (WL.nil ?_)
  have hch2 : Chunks 1 StrC (cs ++ ([.string x5.name] : List Value)) ((fnames m).take (k + 1)) := by rw [take_next (x := x5.name) (by unfold fnames; rw [List.getElem?_map, hx5]; rfl)]; exact hch.snoc rfl ⟨rfl, hnm5⟩
  exact N.loop (k + 1, .slice av9 (k + 1) cv9, cs ++ ([.string x5.name] : List Value)) ⟨rfl, rfl, rfl, rfl, trivial⟩ ⟨hS, by omega, hch2⟩ (by first | omega | (simp only; omega))
 have hc4p : ¬ ((k : Int) < (m.funcs.length : Int)) := by simpa using hc4
 refine W.exit (X.seq (X.loop (X.blk (N.seq (W.seq (W.seq (W.region (WL.assign rfl rfl rfl (WL.nil ?_)))))))))
 refine N.seq (W.block ?_)
 have hke : k = m.funcs.length := by omega
 have hch0 : Chunks 1 StrC cs (fnames m ++ (gnames m).take 0) := by rw [List.take_zero, List.append_nil]; rwa [List.take_of_length_le (by unfold fnames; simp; omega)] at hch
 clear hch
 refine W.loop (α := Nat × Value × List Value) (fun ⟨j, v2, cs2⟩ => [(1, .pointer (some ⟨b1, 0, none⟩)), (2, .slice none 0 0), (3, v2), (5, .int .i64 (j : Int))]) (fun ⟨j, v2, cs2⟩ u => St w w u ro [(b1, .cells #[.slice adf m.funcs.length capf, .slice adg m.globs.length capg] 32 (0, 0))] [⟨v2, 9, 1, k + j, cs2⟩] ∧ j ≤ m.globs.length ∧ Chunks 1 StrC cs2 (fnames m ++ (gnames m).take j)) (fun ⟨j, v2, cs2⟩ => m.globs.length - j) (0, .slice adv k capv, cs) ⟨rfl, rfl, rfl, rfl, trivial⟩ ⟨hS, Nat.zero_le _, hch0⟩ ?_
 clear hS
 rintro ⟨j, v2, cs2⟩ w10 ⟨hS, hj, hch⟩
 have hrow : w10.ownsRow w.heap.size 9 1 v2 (k + j) _ := hS.rows _ List.mem_cons_self
 obtain ⟨adv2, capv2, rfl, hr1v2, hr2v2, hr3v2⟩ := row_shape hrow
 clear hrow
 refine W.seq (W.seq (W.region (WL.move rfl rfl rfl (WL.fieldAddr fo_32_1 rfl rfl rfl (WL.load1 (v := .slice adg m.globs.length capg) one_30 rfl rfl rfl (hS.cell 0 rfl rfl) (WL.lenSlice Tryd.underlying30 rfl rfl rfl (WL.bin rfl rfl rfl rfl rfl (WL.nil (N.seq ?_)))))))))
 refine W.cond rfl (fun hc11 => ?_) (fun hc11 => ?_)
 ·
  have hc11p : (j : Int) < (m.globs.length : Int) := by simpa using hc11
  refine W.skip (N.seq (W.seq (W.block (W.region (WL.move rfl rfl rfl (WL.fieldAddr fo_32_1 rfl rfl rfl (WL.load1 (v := .slice adg m.globs.length capg) one_30 rfl rfl rfl (hS.cell 0 rfl rfl) (WL.move rfl rfl rfl ?_))))))))
  have hj12 : j < m.globs.length := by omega
  obtain ⟨x12, hx12⟩ : ∃ zz, m.globs[j]? = some zz := ⟨_, List.getElem?_eq_getElem hj12⟩
  obtain ⟨b12, o12, cs12, hE12, hr12, hl12, hc12, hQ12⟩ := hgsd j _ hx12
  obtain ⟨rfl, hgn12, hgb12, hgi12⟩ := hQ12
  refine WL.indexAddrE (j := j) Tryd.underlying30 isz_38 rfl rfl rfl rfl hj12 hE12 (WL.fieldAddr fo_38_0 rfl rfl rfl (WL.load1 (v := .string x12.name) one_9 rfl rfl rfl (hS.roCells hr12 hc12 0 _ rfl) ?_))
  refine WL.buildSlice (ps := [(0, .string x12.name)]) (cs := [.string x12.name]) Tryd.underlying25 (tyZero_spec zer_9) rfl rfl rfl rfl (by kernel_rfl) hS ?_
  clear hS; intro w14 b13 hb_b13 hS
  refine WL.append (r := ⟨.slice adv2 (k + j) capv2, 9, 1, k + j, cs2⟩) (cs := [.string x12.name]) 16 Tryd.underlying25 (tyZero_spec zer_9) byt_9 rfl rfl rfl rfl rfl rfl rfl rfl rfl hS (by unfold maxLen; simp only; omega) (by simp only; omega) ?_
  clear hS; intro w15 v16 hn_v16 hS
  have hrow : w15.ownsRow w.heap.size 9 1 v16 (k + j + 1) _ := hS.rows _ List.mem_cons_self
  obtain ⟨av16, cv16, rfl, hc1_v16, hc2_v16, hc3_v16⟩ := row_shape hrow
  clear hrow
  refine WL.assign rfl rfl rfl (WL.nil (N.blk (N.seq (W.region (WL.move rfl rfl rfl ?_)))))
  refine WL.add (c := (j : Int) + 1) rfl rfl rfl rfl (rfl) (by omega) ?_
  refine WL.assign rfl rfl rfl (WL.nil ?_)
  have hch2 : Chunks 1 StrC (cs2 ++ ([.string x12.name] : List Value)) (fnames m ++ (gnames m).take (j + 1)) := by rw [take_next (x := x12.name) (by unfold gnames; rw [List.getElem?_map, hx12]; rfl), ← List.append_assoc]; exact hch.snoc rfl ⟨rfl, hgn12⟩
  exact N.loop (j + 1, .slice av16 (k + j + 1) cv16, cs2 ++ ([.string x12.name] : List Value)) ⟨rfl, rfl, rfl, rfl, trivial⟩ ⟨hS, by omega, hch2⟩ (by first | omega | (simp only; omega))
 have hc11p : ¬ ((j : Int) < (m.globs.length : Int)) := by simpa using hc11
 refine W.exit (X.seq (X.loop (X.blk (N.seq (W.seq (W.region (WL.move rfl rfl rfl (WL.assign rfl rfl rfl (WL.nil ?_)))))))))
 refine N.seq ?_
 refine Fin.ret1 rfl (v := .slice adv2 (k + j) capv2) rfl ?_
 have hje : j = m.globs.length := by omega
 subst hje
 rw [List.take_of_length_le (l := gnames m) (by unfold gnames; simp)] at hch
 refine ⟨row_slv (hS.rows _ List.mem_cons_self) hch (by simp [names5, fnames, gnames]; omega) (fun x hx => ?_), hS.below⟩
 exact (hS.keys x (by simp only [keysOf, List.mem_append, List.mem_filterMap]; exact .inr ⟨_, List.mem_cons_self, hx⟩)).imp id (·.1)

end Go.Proofs.YtapjejjmhmdmdaaDoor
