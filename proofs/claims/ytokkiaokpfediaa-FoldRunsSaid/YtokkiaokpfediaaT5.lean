/-
  Contracts of layer 12 (fold). No condition beyond those that each theorem states.
-/
import Derived.Test.YtokkiaokpfediaaW7
namespace Go.Proofs.Ytokkiaokpfediaa
open Go.RowKit
theorem byt_29 : (Try.prog.info? 29).map (·.bytes) = some 112 := by kernel_rfl
theorem byt_67 : (Try.prog.info? 67).map (·.bytes) = some 56 := by kernel_rfl
theorem siz_41 : tySize Try.prog 41 1 = true := by kernel_rfl
theorem siz_44 : tySize Try.prog 44 2 = true := by kernel_rfl
theorem siz_65 : tySize Try.prog 65 1 = true := by kernel_rfl
theorem siz_67 : tySize Try.prog 67 4 = true := by kernel_rfl
theorem zer_44 : tyZero Try.prog 44 = some [.slice none 0 0, .slice none 0 0] := by kernel_rfl
theorem zer_67 : tyZero Try.prog 67 = some [.string ⟨#[]⟩, .int .i64 0, .int .i64 0, .slice none 0 0] := by kernel_rfl
def foldFunc (f : DFunc) : DFunc := ⟨f.name, f.bind, f.params, f.blocks.map foldBlock⟩
def foldMod (m : DMod) : DMod := ⟨m.funcs.map foldFunc, m.globs⟩
def okB (b : DBlock) : Prop := b.params ≤ 1000 ∧ b.ins.length ≤ 1954687338211

theorem eachBlock_ret (xs : List DBlock) (vx : Value) {w : World} {ro : Nat → Prop} (hro : ∀ b, ro b → b < w.heap.size) (hx : SlV ro w 8 (BlockC ro w) vx xs) (hok : ∀ x ∈ xs, okB x) (hl : xs.length ≤ 1000000) : Ret Try.prog 38 #[vx, .func (.func 9) #[] #[]] w fun v w' => SlV (roFrom ro w w') w' 8 (BlockC (roFrom ro w w') w') v (xs.map foldBlock) ∧ Below w.heap.size w w' := by
 obtain ⟨ad, cap, rfl, haa, hab, hac, had⟩ := id hx
 have ham : xs.length ≤ 9223372036854775807 := by have h1 := haa; have h2 := hab; unfold maxLen at h2; omega
 refine Ret.enter (P := Try.prog) (n := 22) (args := [.slice ad xs.length cap, .func (.func 9) #[] #[]]) (σ := [(0, .slice ad xs.length cap), (1, .func (.func 9) #[] #[])]) Try.func38 rfl rfl rfl rfl ?_
 have hS := St.start (ro := ro) hro
 refine W.seq (W.region (WL.assign rfl rfl rfl (WL.nil (N.seq (W.seq (W.region (WL.assign rfl rfl rfl (WL.nil (N.seq ?_)))))))))
 refine W.seq (W.seq (W.region (WL.move rfl rfl rfl ?_)))
 refine WL.lenSlice Try.underlying65 rfl rfl rfl ?_
 refine WL.move rfl rfl rfl (WL.nil (N.seq (W.block ?_)))
 replace hS := hS.row0 29 8
 refine W.loop (α := Nat × Value × List Value × (Nat → Prop) × World) (fun ⟨k, v, cs, R2, ws2⟩ => [(0, .slice ad xs.length cap), (1, .func (.func 9) #[] #[]), (4, .slice none 0 0), (5, v), (8, .slice ad xs.length cap), (9, .int .i64 (xs.length : Int)), (10, .int .i64 (k : Int))]) (fun ⟨k, v, cs, R2, ws2⟩ u => St w ws2 u R2 [] [⟨v, 29, 8, k, cs⟩] ∧ k ≤ xs.length ∧ Alike ro w R2 ws2 ∧ (∀ b, R2 b → ro b ∨ w.heap.size ≤ b) ∧ Chunks 8 (BlockC R2 ws2) cs ((xs.take k).map foldBlock)) (fun ⟨k, v, cs, R2, ws2⟩ => xs.length - k) (0, (.slice none 0 0), [], ro, w) ⟨rfl, rfl, rfl, rfl, rfl, rfl, rfl, trivial⟩ ⟨hS, Nat.zero_le _, (fun b hb => ⟨hb, rfl⟩), (fun b hb => .inl hb), Chunks.nil⟩ ?_
 clear hS
 rintro ⟨k, v, cs, R2, ws2⟩ w1 ⟨hS, hk, hal, hsub, hch⟩
 have hrow : w1.ownsRow w.heap.size 29 8 v (k) _ := hS.rows _ List.mem_cons_self
 obtain ⟨adv, capv, rfl, hr1v, hr2v, hr3v⟩ := row_shape hrow
 clear hrow
 have hel : Elems R2 ws2 8 (BlockC R2 ws2) ad xs := had.keep hal (fun _ _ h => h.keep hal)
 refine W.seq (W.region (WL.bin rfl rfl rfl rfl rfl (WL.nil (N.seq (W.seq ?_)))))
 refine W.cond rfl (fun hc2 => ?_) (fun hc2 => ?_)
 ·
  have hc2p : (k : Int) < (xs.length : Int) := by simpa using hc2
  refine W.skip (N.seq (W.seq (W.block (W.seq (W.region ?_)))))
  have hj3 : k < xs.length := by omega
  obtain ⟨x3, hx3⟩ : ∃ zz, xs[k]? = some zz := ⟨_, List.getElem?_eq_getElem hj3⟩
  obtain ⟨b3, o3, cs3, hE3, hr3, hl3, hc3, hQ3⟩ := hel k _ hx3
  obtain ⟨si3, tsx3, rfl, hin3, hfin3, hpar3⟩ := id hQ3
  obtain ⟨adi3, capi3, rfl, hin3a, hin3b, hin3c, hin3d⟩ := id hin3
  have hin3m : x3.ins.length ≤ 9223372036854775807 := by have h1 := hin3a; have h2 := hin3b; unfold maxLen at h2; omega
  obtain ⟨sp3, sq3, rfl, ht13, ht23, htk3, hta3, htt3, hte3⟩ := id hfin3
  obtain ⟨adp3, capp3, rfl, htp3a, htp3b, htp3c, htp3d⟩ := id ht13
  have htp3m : x3.fin.args.length ≤ 9223372036854775807 := by have h1 := htp3a; have h2 := htp3b; unfold maxLen at h2; omega
  obtain ⟨adq3, capq3, rfl, htq3a, htq3b, htq3c, htq3d⟩ := id ht23
  have htq3m : x3.fin.elses.length ≤ 9223372036854775807 := by have h1 := htq3a; have h2 := htq3b; unfold maxLen at h2; omega
  refine WL.indexAddrE (j := k) Try.underlying65 isz_29 rfl rfl rfl rfl hj3 hE3 ?_
  refine WL.loadN (cs := [.int .i64 x3.params, .slice adi3 x3.ins.length capi3, .int .i64 x3.fin.kind, .int .i64 x3.fin.a, .int .i64 x3.fin.to, .slice adp3 x3.fin.args.length capp3, .int .i64 x3.fin.els, .slice adq3 x3.fin.elses.length capq3]) agg_29 rfl rfl rfl rfl (hS.roCells hr3 hc3) ?_
  refine WL.alloc (tyZero_spec zer_29) rfl rfl hS ?_
  clear hS; intro w5 b4 hb_b4 hS
  refine WL.store (cs := [.int .i64 x3.params, .slice adi3 x3.ins.length capi3, .int .i64 x3.fin.kind, .int .i64 x3.fin.a, .int .i64 x3.fin.to, .slice adp3 x3.fin.args.length capp3, .int .i64 x3.fin.els, .slice adq3 x3.fin.elses.length capq3]) (c' := #[.int .i64 x3.params, .slice adi3 x3.ins.length capi3, .int .i64 x3.fin.kind, .int .i64 x3.fin.a, .int .i64 x3.fin.to, .slice adp3 x3.fin.args.length capp3, .int .i64 x3.fin.els, .slice adq3 x3.fin.elses.length capq3]) (L' := [(b4, .cells #[.int .i64 x3.params, .slice adi3 x3.ins.length capi3, .int .i64 x3.fin.kind, .int .i64 x3.fin.a, .int .i64 x3.fin.to, .slice adp3 x3.fin.args.length capp3, .int .i64 x3.fin.els, .slice adq3 x3.fin.elses.length capq3] 29 (0, 0))]) 0 rfl rfl rfl rfl siz_29 rfl rfl rfl rfl rfl hS ?_
  clear hS; intro w6 hS
  refine WL.nil (N.seq (W.region (WL.move rfl rfl rfl (WL.move rfl rfl rfl ?_))))
  refine WL.loadN (cs := [.int .i64 x3.params, .slice adi3 x3.ins.length capi3, .int .i64 x3.fin.kind, .int .i64 x3.fin.a, .int .i64 x3.fin.to, .slice adp3 x3.fin.args.length capp3, .int .i64 x3.fin.els, .slice adq3 x3.fin.elses.length capq3]) agg_29 rfl rfl rfl rfl (hS.cells 0 (m := 8) rfl rfl) ?_
  refine WL.callV (vs := [.agg #[.int .i64 x3.params, .slice adi3 x3.ins.length capi3, .int .i64 x3.fin.kind, .int .i64 x3.fin.a, .int .i64 x3.fin.to, .slice adp3 x3.fin.args.length capp3, .int .i64 x3.fin.els, .slice adq3 x3.fin.elses.length capq3]]) (cs := #[]) Try.func9 (by kernel_rfl) rfl rfl rfl rfl (block_ret x3 _ (ro := R2) (fun b hb => (hS.snap b hb).1) (BlockC.keep hQ3 hS.alike) (hok _ (List.mem_of_getElem? hx3)).1 (hok _ (List.mem_of_getElem? hx3)).2) ?_
  rintro v w7 ⟨csr, rfl, hB, hbl⟩
  have hal3 := hS.alikeTo hbl (ro' := roFrom R2 w6 w7) (fun b hb => .inl hb)
  have hsub2 : ∀ b, roFrom R2 w6 w7 b → ro b ∨ w.heap.size ≤ b := fun b hb => hb.elim (hsub b) (fun h => .inr (Nat.le_trans hS.below.size h.1))
  replace hS := hS.readNew hbl
  obtain ⟨sir, tsxr, rfl, hinr, hfinr, hparr⟩ := id hB
  obtain ⟨adir, capir, rfl, hinra, hinrb, hinrc, hinrd⟩ := id hinr
  have hinrm : ((foldBlock x3).ins).length ≤ 9223372036854775807 := by have h1 := hinra; have h2 := hinrb; unfold maxLen at h2; omega
  obtain ⟨spr, sqr, rfl, ht1r, ht2r, htkr, htar, httr, hter⟩ := id hfinr
  obtain ⟨adpr, cappr, rfl, htpra, htprb, htprc, htprd⟩ := id ht1r
  have htprm : ((foldBlock x3).fin.args).length ≤ 9223372036854775807 := by have h1 := htpra; have h2 := htprb; unfold maxLen at h2; omega
  obtain ⟨adqr, capqr, rfl, htqra, htqrb, htqrc, htqrd⟩ := id ht2r
  have htqrm : ((foldBlock x3).fin.elses).length ≤ 9223372036854775807 := by have h1 := htqra; have h2 := htqrb; unfold maxLen at h2; omega
  refine WL.buildSlice (ps := [(0, .agg #[.int .i64 ((foldBlock x3).params), .slice adir (((foldBlock x3).ins).length) capir, .int .i64 ((foldBlock x3).fin.kind), .int .i64 ((foldBlock x3).fin.a), .int .i64 ((foldBlock x3).fin.to), .slice adpr (((foldBlock x3).fin.args).length) cappr, .int .i64 ((foldBlock x3).fin.els), .slice adqr (((foldBlock x3).fin.elses).length) capqr])]) (cs := [.int .i64 ((foldBlock x3).params), .slice adir (((foldBlock x3).ins).length) capir, .int .i64 ((foldBlock x3).fin.kind), .int .i64 ((foldBlock x3).fin.a), .int .i64 ((foldBlock x3).fin.to), .slice adpr (((foldBlock x3).fin.args).length) cappr, .int .i64 ((foldBlock x3).fin.els), .slice adqr (((foldBlock x3).fin.elses).length) capqr]) Try.underlying65 (tyZero_spec zer_29) rfl rfl rfl rfl (by kernel_rfl) hS ?_
  clear hS; intro w9 b8 hb_b8 hS
  refine WL.append (r := ⟨.slice adv k capv, 29, 8, k, cs⟩) (cs := [.int .i64 ((foldBlock x3).params), .slice adir (((foldBlock x3).ins).length) capir, .int .i64 ((foldBlock x3).fin.kind), .int .i64 ((foldBlock x3).fin.a), .int .i64 ((foldBlock x3).fin.to), .slice adpr (((foldBlock x3).fin.args).length) cappr, .int .i64 ((foldBlock x3).fin.els), .slice adqr (((foldBlock x3).fin.elses).length) capqr]) 112 Try.underlying65 (tyZero_spec zer_29) byt_29 rfl rfl rfl rfl rfl rfl rfl rfl rfl hS (by unfold maxLen; simp only; omega) (by simp only; omega) ?_
  clear hS; intro w10 v11 hn_v11 hS
  have hrow : w10.ownsRow w.heap.size 29 8 v11 (k + 1) _ := hS.rows _ List.mem_cons_self
  obtain ⟨av11, cv11, rfl, hc1_v11, hc2_v11, hc3_v11⟩ := row_shape hrow
  clear hrow
  refine WL.assign rfl rfl rfl (WL.nil (N.blk (N.seq (W.region ?_))))
  refine WL.add (c := (k : Int) + 1) rfl rfl rfl rfl (rfl) (by omega) ?_
  refine WL.move rfl rfl rfl (WL.nil ?_)
  have hS := hS.dropN 1
  have hch2 : Chunks 8 (BlockC (roFrom R2 w6 w7) w7) (cs ++ ([.int .i64 ((foldBlock x3).params), .slice adir (((foldBlock x3).ins).length) capir, .int .i64 ((foldBlock x3).fin.kind), .int .i64 ((foldBlock x3).fin.a), .int .i64 ((foldBlock x3).fin.to), .slice adpr (((foldBlock x3).fin.args).length) cappr, .int .i64 ((foldBlock x3).fin.els), .slice adqr (((foldBlock x3).fin.elses).length) capqr] : List Value)) ((xs.take (k + 1)).map foldBlock) := by rw [take_next hx3, List.map_append]; exact (hch.mono fun _ _ h => h.keep hal3).snoc rfl hB
  exact N.loop (k + 1, .slice av11 (k + 1) cv11, cs ++ ([.int .i64 ((foldBlock x3).params), .slice adir (((foldBlock x3).ins).length) capir, .int .i64 ((foldBlock x3).fin.kind), .int .i64 ((foldBlock x3).fin.a), .int .i64 ((foldBlock x3).fin.to), .slice adpr (((foldBlock x3).fin.args).length) cappr, .int .i64 ((foldBlock x3).fin.els), .slice adqr (((foldBlock x3).fin.elses).length) capqr] : List Value), (roFrom R2 w6 w7), w7) ⟨rfl, rfl, rfl, rfl, rfl, rfl, rfl, trivial⟩ ⟨hS, by omega, (fun b hb => ⟨(hal3 b (hal b hb).1).1, (hal3 b (hal b hb).1).2.trans (hal b hb).2⟩), hsub2, hch2⟩ (by first | omega | (simp only; omega))
 have hc2p : ¬ ((k : Int) < (xs.length : Int)) := by simpa using hc2
 refine W.exit (X.seq (X.loop (X.blk (N.seq (W.seq (W.region (WL.move rfl rfl rfl (WL.assign rfl rfl rfl (WL.nil ?_)))))))))
 refine N.seq ?_
 refine Fin.ret1 rfl (v := .slice adv k capv) rfl ?_
 have hke : k = xs.length := by omega
 subst hke
 rw [List.take_length] at hch
 have hfin : Alike R2 ws2 (roFrom ro w w1) w1 := fun b hb => ⟨(hsub b hb).elim .inl (fun h => .inr ⟨h, (hS.snap b hb).1⟩), (hS.snap b hb).2⟩
 refine ⟨row_slv (hS.rows _ List.mem_cons_self) (hch.mono fun _ _ h => h.keep hfin) (by simp) (fun x hx => .inr ((hS.keys x (by simp only [keysOf, List.mem_append, List.mem_filterMap]; exact .inr ⟨_, List.mem_cons_self, hx⟩)).imp id (·.1))), hS.below⟩

def okF (f : DFunc) : Prop := (∀ b ∈ f.blocks, okB b) ∧ f.blocks.length ≤ 1000000

theorem foldFunc_ret (f : DFunc) (cf : List Value) {w : World} {ro : Nat → Prop} (hro : ∀ b, ro b → b < w.heap.size) (hx : FuncC ro w cf f) (hok : okF f) : Ret Try.prog 31 #[.agg cf.toArray] w fun v w' => ∃ cs, v = .agg cs.toArray ∧ FuncC (roFrom ro w w') w' cs (foldFunc f) ∧ Below w.heap.size w w' := by
 obtain ⟨sb, rfl, hbl, hnm, hbd, hpr⟩ := id hx
 obtain ⟨adb, capb, rfl, hbka, hbkb, hbkc, hbkd⟩ := id hbl
 have hbkm : f.blocks.length ≤ 9223372036854775807 := by have h1 := hbka; have h2 := hbkb; unfold maxLen at h2; omega
 have hbl0 : BlocksV ro w _ f.blocks := hbl
 refine Ret.enter (P := Try.prog) (n := 8) (args := [.agg #[.string f.name, .int .i64 f.bind, .int .i64 f.params, .slice adb f.blocks.length capb]]) (σ := [(0, .agg #[.string f.name, .int .i64 f.bind, .int .i64 f.params, .slice adb f.blocks.length capb])]) Try.func31 rfl rfl rfl rfl ?_
 have hS := St.start (ro := ro) hro
 refine W.seq (W.region ?_)
 refine WL.box (v := .agg #[.string f.name, .int .i64 f.bind, .int .i64 f.params, .slice adb f.blocks.length capb]) (cs := [.string f.name, .int .i64 f.bind, .int .i64 f.params, .slice adb f.blocks.length capb]) rfl rfl rfl rfl hS ?_
 clear hS; intro w2 b1 hb_b1 hS
 refine WL.alloc (tyZero_spec zer_67) rfl rfl hS ?_
 clear hS; intro w4 b3 hb_b3 hS
 refine WL.nil (N.seq (W.seq (W.region ?_)))
 refine WL.fieldAddr fo_67_3 rfl rfl rfl ?_
 refine WL.load1 (v := .slice adb f.blocks.length capb) one_65 rfl rfl rfl (hS.cell 1 rfl rfl) ?_
 have hS0 := hS
 refine WL.callF (vs := [.slice adb f.blocks.length capb, .func (.func 9) #[] #[]]) Try.func38 (by kernel_rfl) rfl rfl rfl (eachBlock_ret f.blocks _ (ro := ro) (fun b hb => (hS.snap b hb).1) (hbl0.keep hS.alike) hok.1 hok.2) ?_
 rintro v w5 ⟨hy, hbl⟩
 have hal := hS.alikeTo hbl (ro' := roFrom ro w4 w5) (fun b hb => .inl hb)
 replace hS := hS.readNew hbl
 have hx2 := hx.keep hal
 obtain ⟨ady, capy, rfl, hy1, hy2, hy3, hy4⟩ := id hy
 refine WL.fieldAddr fo_67_3 rfl rfl rfl ?_
 refine WL.store (cs := [.slice ady ((f.blocks.map foldBlock).length) capy]) (c' := #[.string f.name, .int .i64 f.bind, .int .i64 f.params, .slice ady ((f.blocks.map foldBlock).length) capy]) (L' := [(b3, .cells #[.string ⟨#[]⟩, .int .i64 0, .int .i64 0, .slice none 0 0] 67 (0, 0)), (b1, .cells #[.string f.name, .int .i64 f.bind, .int .i64 f.params, .slice ady ((f.blocks.map foldBlock).length) capy] 67 (0, 0))]) 1 rfl rfl rfl rfl siz_65 rfl rfl rfl rfl rfl hS ?_
 clear hS; intro w6 hS
 refine WL.nil (N.seq (W.seq (W.region ?_)))
 refine WL.loadN (cs := [.string f.name, .int .i64 f.bind, .int .i64 f.params, .slice ady ((f.blocks.map foldBlock).length) capy]) agg_67 rfl rfl rfl rfl (hS.cells 1 (m := 4) rfl rfl) ?_
 refine WL.store (cs := [.string f.name, .int .i64 f.bind, .int .i64 f.params, .slice ady ((f.blocks.map foldBlock).length) capy]) (c' := #[.string f.name, .int .i64 f.bind, .int .i64 f.params, .slice ady ((f.blocks.map foldBlock).length) capy]) (L' := [(b3, .cells #[.string f.name, .int .i64 f.bind, .int .i64 f.params, .slice ady ((f.blocks.map foldBlock).length) capy] 67 (0, 0)), (b1, .cells #[.string f.name, .int .i64 f.bind, .int .i64 f.params, .slice ady ((f.blocks.map foldBlock).length) capy] 67 (0, 0))]) 0 rfl rfl rfl rfl siz_67 rfl rfl rfl rfl rfl hS ?_
 clear hS; intro w7 hS
 refine WL.nil (N.seq ?_)
 refine Fin.retC rfl (v := .agg #[.string f.name, .int .i64 f.bind, .int .i64 f.params, .slice ady ((f.blocks.map foldBlock).length) capy]) rfl (tyAgg_run agg_67 (cs := [.string f.name, .int .i64 f.bind, .int .i64 f.params, .slice ady ((f.blocks.map foldBlock).length) capy]) rfl (hS.cells 0 (m := 4) rfl rfl)) ?_
 have hfin : Alike (roFrom ro w4 w5) w5 (roFrom ro w w7) w7 := fun x hx => ⟨hx.elim .inl (fun h => .inr ⟨Nat.le_trans hS0.below.size h.1, (hS.snap x hx).1⟩), (hS.snap x hx).2⟩
 exact ⟨_, rfl, ⟨_, rfl, BlocksV.keep hy hfin, hnm, hbd, hpr⟩, hS.below⟩

theorem eachFunc_ret (xs : List DFunc) (vx : Value) {w : World} {ro : Nat → Prop} (hro : ∀ b, ro b → b < w.heap.size) (hx : SlV ro w 4 (FuncC ro w) vx xs) (hok : ∀ x ∈ xs, okF x) (hl : xs.length ≤ 1000000) : Ret Try.prog 30 #[vx, .func (.func 31) #[] #[]] w fun v w' => SlV (roFrom ro w w') w' 4 (FuncC (roFrom ro w w') w') v (xs.map foldFunc) ∧ Below w.heap.size w w' := by
 obtain ⟨ad, cap, rfl, haa, hab, hac, had⟩ := id hx
 have ham : xs.length ≤ 9223372036854775807 := by have h1 := haa; have h2 := hab; unfold maxLen at h2; omega
 refine Ret.enter (P := Try.prog) (n := 22) (args := [.slice ad xs.length cap, .func (.func 31) #[] #[]]) (σ := [(0, .slice ad xs.length cap), (1, .func (.func 31) #[] #[])]) Try.func30 rfl rfl rfl rfl ?_
 have hS := St.start (ro := ro) hro
 refine W.seq (W.region (WL.assign rfl rfl rfl (WL.nil (N.seq (W.seq (W.region (WL.assign rfl rfl rfl (WL.nil (N.seq ?_)))))))))
 refine W.seq (W.seq (W.region (WL.move rfl rfl rfl ?_)))
 refine WL.lenSlice Try.underlying41 rfl rfl rfl ?_
 refine WL.move rfl rfl rfl (WL.nil (N.seq (W.block ?_)))
 replace hS := hS.row0 67 4
 refine W.loop (α := Nat × Value × List Value × (Nat → Prop) × World) (fun ⟨k, v, cs, R2, ws2⟩ => [(0, .slice ad xs.length cap), (1, .func (.func 31) #[] #[]), (4, .slice none 0 0), (5, v), (8, .slice ad xs.length cap), (9, .int .i64 (xs.length : Int)), (10, .int .i64 (k : Int))]) (fun ⟨k, v, cs, R2, ws2⟩ u => St w ws2 u R2 [] [⟨v, 67, 4, k, cs⟩] ∧ k ≤ xs.length ∧ Alike ro w R2 ws2 ∧ (∀ b, R2 b → ro b ∨ w.heap.size ≤ b) ∧ Chunks 4 (FuncC R2 ws2) cs ((xs.take k).map foldFunc)) (fun ⟨k, v, cs, R2, ws2⟩ => xs.length - k) (0, (.slice none 0 0), [], ro, w) ⟨rfl, rfl, rfl, rfl, rfl, rfl, rfl, trivial⟩ ⟨hS, Nat.zero_le _, (fun b hb => ⟨hb, rfl⟩), (fun b hb => .inl hb), Chunks.nil⟩ ?_
 clear hS
 rintro ⟨k, v, cs, R2, ws2⟩ w1 ⟨hS, hk, hal, hsub, hch⟩
 have hrow : w1.ownsRow w.heap.size 67 4 v (k) _ := hS.rows _ List.mem_cons_self
 obtain ⟨adv, capv, rfl, hr1v, hr2v, hr3v⟩ := row_shape hrow
 clear hrow
 have hel : Elems R2 ws2 4 (FuncC R2 ws2) ad xs := had.keep hal (fun _ _ h => h.keep hal)
 refine W.seq (W.region (WL.bin rfl rfl rfl rfl rfl (WL.nil (N.seq (W.seq ?_)))))
 refine W.cond rfl (fun hc2 => ?_) (fun hc2 => ?_)
 ·
  have hc2p : (k : Int) < (xs.length : Int) := by simpa using hc2
  refine W.skip (N.seq (W.seq (W.block (W.seq (W.region ?_)))))
  have hj3 : k < xs.length := by omega
  obtain ⟨x3, hx3⟩ : ∃ zz, xs[k]? = some zz := ⟨_, List.getElem?_eq_getElem hj3⟩
  obtain ⟨b3, o3, cs3, hE3, hr3, hl3, hc3, hQ3⟩ := hel k _ hx3
  obtain ⟨sb3, rfl, hbl3, hnm3, hbd3, hpr3⟩ := id hQ3
  obtain ⟨adb3, capb3, rfl, hbk3a, hbk3b, hbk3c, hbk3d⟩ := id hbl3
  have hbk3m : x3.blocks.length ≤ 9223372036854775807 := by have h1 := hbk3a; have h2 := hbk3b; unfold maxLen at h2; omega
  refine WL.indexAddrE (j := k) Try.underlying41 isz_67 rfl rfl rfl rfl hj3 hE3 ?_
  refine WL.loadN (cs := [.string x3.name, .int .i64 x3.bind, .int .i64 x3.params, .slice adb3 x3.blocks.length capb3]) agg_67 rfl rfl rfl rfl (hS.roCells hr3 hc3) ?_
  refine WL.alloc (tyZero_spec zer_67) rfl rfl hS ?_
  clear hS; intro w5 b4 hb_b4 hS
  refine WL.store (cs := [.string x3.name, .int .i64 x3.bind, .int .i64 x3.params, .slice adb3 x3.blocks.length capb3]) (c' := #[.string x3.name, .int .i64 x3.bind, .int .i64 x3.params, .slice adb3 x3.blocks.length capb3]) (L' := [(b4, .cells #[.string x3.name, .int .i64 x3.bind, .int .i64 x3.params, .slice adb3 x3.blocks.length capb3] 67 (0, 0))]) 0 rfl rfl rfl rfl siz_67 rfl rfl rfl rfl rfl hS ?_
  clear hS; intro w6 hS
  refine WL.nil (N.seq (W.region (WL.move rfl rfl rfl (WL.move rfl rfl rfl ?_))))
  refine WL.loadN (cs := [.string x3.name, .int .i64 x3.bind, .int .i64 x3.params, .slice adb3 x3.blocks.length capb3]) agg_67 rfl rfl rfl rfl (hS.cells 0 (m := 4) rfl rfl) ?_
  refine WL.callV (vs := [.agg #[.string x3.name, .int .i64 x3.bind, .int .i64 x3.params, .slice adb3 x3.blocks.length capb3]]) (cs := #[]) Try.func31 (by kernel_rfl) rfl rfl rfl rfl (foldFunc_ret x3 _ (ro := R2) (fun b hb => (hS.snap b hb).1) (FuncC.keep hQ3 hS.alike) (hok _ (List.mem_of_getElem? hx3))) ?_
  rintro v w7 ⟨csr, rfl, hB, hbl⟩
  have hal3 := hS.alikeTo hbl (ro' := roFrom R2 w6 w7) (fun b hb => .inl hb)
  have hsub2 : ∀ b, roFrom R2 w6 w7 b → ro b ∨ w.heap.size ≤ b := fun b hb => hb.elim (hsub b) (fun h => .inr (Nat.le_trans hS.below.size h.1))
  replace hS := hS.readNew hbl
  obtain ⟨sbr, rfl, hblr, hnmr, hbdr, hprr⟩ := id hB
  obtain ⟨adbr, capbr, rfl, hbkra, hbkrb, hbkrc, hbkrd⟩ := id hblr
  have hbkrm : ((foldFunc x3).blocks).length ≤ 9223372036854775807 := by have h1 := hbkra; have h2 := hbkrb; unfold maxLen at h2; omega
  refine WL.buildSlice (ps := [(0, .agg #[.string ((foldFunc x3).name), .int .i64 ((foldFunc x3).bind), .int .i64 ((foldFunc x3).params), .slice adbr (((foldFunc x3).blocks).length) capbr])]) (cs := [.string ((foldFunc x3).name), .int .i64 ((foldFunc x3).bind), .int .i64 ((foldFunc x3).params), .slice adbr (((foldFunc x3).blocks).length) capbr]) Try.underlying41 (tyZero_spec zer_67) rfl rfl rfl rfl (by kernel_rfl) hS ?_
  clear hS; intro w9 b8 hb_b8 hS
  refine WL.append (r := ⟨.slice adv k capv, 67, 4, k, cs⟩) (cs := [.string ((foldFunc x3).name), .int .i64 ((foldFunc x3).bind), .int .i64 ((foldFunc x3).params), .slice adbr (((foldFunc x3).blocks).length) capbr]) 56 Try.underlying41 (tyZero_spec zer_67) byt_67 rfl rfl rfl rfl rfl rfl rfl rfl rfl hS (by unfold maxLen; simp only; omega) (by simp only; omega) ?_
  clear hS; intro w10 v11 hn_v11 hS
  have hrow : w10.ownsRow w.heap.size 67 4 v11 (k + 1) _ := hS.rows _ List.mem_cons_self
  obtain ⟨av11, cv11, rfl, hc1_v11, hc2_v11, hc3_v11⟩ := row_shape hrow
  clear hrow
  refine WL.assign rfl rfl rfl (WL.nil (N.blk (N.seq (W.region ?_))))
  refine WL.add (c := (k : Int) + 1) rfl rfl rfl rfl (rfl) (by omega) ?_
  refine WL.move rfl rfl rfl (WL.nil ?_)
  have hS := hS.dropN 1
  have hch2 : Chunks 4 (FuncC (roFrom R2 w6 w7) w7) (cs ++ ([.string ((foldFunc x3).name), .int .i64 ((foldFunc x3).bind), .int .i64 ((foldFunc x3).params), .slice adbr (((foldFunc x3).blocks).length) capbr] : List Value)) ((xs.take (k + 1)).map foldFunc) := by rw [take_next hx3, List.map_append]; exact (hch.mono fun _ _ h => h.keep hal3).snoc rfl hB
  exact N.loop (k + 1, .slice av11 (k + 1) cv11, cs ++ ([.string ((foldFunc x3).name), .int .i64 ((foldFunc x3).bind), .int .i64 ((foldFunc x3).params), .slice adbr (((foldFunc x3).blocks).length) capbr] : List Value), (roFrom R2 w6 w7), w7) ⟨rfl, rfl, rfl, rfl, rfl, rfl, rfl, trivial⟩ ⟨hS, by omega, (fun b hb => ⟨(hal3 b (hal b hb).1).1, (hal3 b (hal b hb).1).2.trans (hal b hb).2⟩), hsub2, hch2⟩ (by first | omega | (simp only; omega))
 have hc2p : ¬ ((k : Int) < (xs.length : Int)) := by simpa using hc2
 refine W.exit (X.seq (X.loop (X.blk (N.seq (W.seq (W.region (WL.move rfl rfl rfl (WL.assign rfl rfl rfl (WL.nil ?_)))))))))
 refine N.seq ?_
 refine Fin.ret1 rfl (v := .slice adv k capv) rfl ?_
 have hke : k = xs.length := by omega
 subst hke
 rw [List.take_length] at hch
 have hfin : Alike R2 ws2 (roFrom ro w w1) w1 := fun b hb => ⟨(hsub b hb).elim .inl (fun h => .inr ⟨h, (hS.snap b hb).1⟩), (hS.snap b hb).2⟩
 refine ⟨row_slv (hS.rows _ List.mem_cons_self) (hch.mono fun _ _ h => h.keep hfin) (by simp) (fun x hx => .inr ((hS.keys x (by simp only [keysOf, List.mem_append, List.mem_filterMap]; exact .inr ⟨_, List.mem_cons_self, hx⟩)).imp id (·.1))), hS.below⟩

theorem foldMod_ret (m : DMod) (cm : List Value) {w : World} {ro : Nat → Prop} (hro : ∀ b, ro b → b < w.heap.size) (hx : ModC ro w cm m) (hok : ∀ f ∈ m.funcs, okF f) (hl : m.funcs.length ≤ 1000000) : Ret Try.prog 16 #[.agg cm.toArray] w fun v w' => ∃ cs, v = .agg cs.toArray ∧ ModC (roFrom ro w w') w' cs (foldMod m) ∧ Below w.heap.size w w' := by
 obtain ⟨sf, sg, rfl, hfs, hgs⟩ := id hx
 obtain ⟨adf, capf, rfl, hfsa, hfsb, hfsc, hfsd⟩ := id hfs
 have hfsm : m.funcs.length ≤ 9223372036854775807 := by have h1 := hfsa; have h2 := hfsb; unfold maxLen at h2; omega
 obtain ⟨adg, capg, rfl, hgsa, hgsb, hgsc, hgsd⟩ := id hgs
 have hgsm : m.globs.length ≤ 9223372036854775807 := by have h1 := hgsa; have h2 := hgsb; unfold maxLen at h2; omega
 have hfs0 : FuncsV ro w _ m.funcs := hfs
 refine Ret.enter (P := Try.prog) (n := 8) (args := [.agg #[.slice adf m.funcs.length capf, .slice adg m.globs.length capg]]) (σ := [(0, .agg #[.slice adf m.funcs.length capf, .slice adg m.globs.length capg])]) Try.func16 rfl rfl rfl rfl ?_
 have hS := St.start (ro := ro) hro
 refine W.seq (W.region ?_)
 refine WL.box (v := .agg #[.slice adf m.funcs.length capf, .slice adg m.globs.length capg]) (cs := [.slice adf m.funcs.length capf, .slice adg m.globs.length capg]) rfl rfl rfl rfl hS ?_
 clear hS; intro w2 b1 hb_b1 hS
 refine WL.alloc (tyZero_spec zer_44) rfl rfl hS ?_
 clear hS; intro w4 b3 hb_b3 hS
 refine WL.nil (N.seq (W.seq (W.region ?_)))
 refine WL.fieldAddr fo_44_0 rfl rfl rfl ?_
 refine WL.load1 (v := .slice adf m.funcs.length capf) one_41 rfl rfl rfl (hS.cell 1 rfl rfl) ?_
 have hS0 := hS
 refine WL.callF (vs := [.slice adf m.funcs.length capf, .func (.func 31) #[] #[]]) Try.func30 (by kernel_rfl) rfl rfl rfl (eachFunc_ret m.funcs _ (ro := ro) (fun b hb => (hS.snap b hb).1) (hfs0.keep hS.alike) hok hl) ?_
 rintro v w5 ⟨hy, hbl⟩
 have hal := hS.alikeTo hbl (ro' := roFrom ro w4 w5) (fun b hb => .inl hb)
 replace hS := hS.readNew hbl
 have hx2 := hx.keep hal
 obtain ⟨ady, capy, rfl, hy1, hy2, hy3, hy4⟩ := id hy
 refine WL.fieldAddr fo_44_0 rfl rfl rfl ?_
 refine WL.store (cs := [.slice ady ((m.funcs.map foldFunc).length) capy]) (c' := #[.slice ady ((m.funcs.map foldFunc).length) capy, .slice adg m.globs.length capg]) (L' := [(b3, .cells #[.slice none 0 0, .slice none 0 0] 44 (0, 0)), (b1, .cells #[.slice ady ((m.funcs.map foldFunc).length) capy, .slice adg m.globs.length capg] 44 (0, 0))]) 1 rfl rfl rfl rfl siz_41 rfl rfl rfl rfl rfl hS ?_
 clear hS; intro w6 hS
 refine WL.nil (N.seq (W.seq (W.region ?_)))
 refine WL.loadN (cs := [.slice ady ((m.funcs.map foldFunc).length) capy, .slice adg m.globs.length capg]) agg_44 rfl rfl rfl rfl (hS.cells 1 (m := 2) rfl rfl) ?_
 refine WL.store (cs := [.slice ady ((m.funcs.map foldFunc).length) capy, .slice adg m.globs.length capg]) (c' := #[.slice ady ((m.funcs.map foldFunc).length) capy, .slice adg m.globs.length capg]) (L' := [(b3, .cells #[.slice ady ((m.funcs.map foldFunc).length) capy, .slice adg m.globs.length capg] 44 (0, 0)), (b1, .cells #[.slice ady ((m.funcs.map foldFunc).length) capy, .slice adg m.globs.length capg] 44 (0, 0))]) 0 rfl rfl rfl rfl siz_44 rfl rfl rfl rfl rfl hS ?_
 clear hS; intro w7 hS
 refine WL.nil (N.seq ?_)
 refine Fin.retC rfl (v := .agg #[.slice ady ((m.funcs.map foldFunc).length) capy, .slice adg m.globs.length capg]) rfl (tyAgg_run agg_44 (cs := [.slice ady ((m.funcs.map foldFunc).length) capy, .slice adg m.globs.length capg]) rfl (hS.cells 0 (m := 2) rfl rfl)) ?_
 have hfin : Alike (roFrom ro w4 w5) w5 (roFrom ro w w7) w7 := fun x hx => ⟨hx.elim .inl (fun h => .inr ⟨Nat.le_trans hS0.below.size h.1, (hS.snap x hx).1⟩), (hS.snap x hx).2⟩
 obtain ⟨_, _, e, _, hg2⟩ := hx2.keep hfin
 cases e
 exact ⟨_, rfl, ⟨_, _, rfl, FuncsV.keep hy hfin, hg2⟩, hS.below⟩

end Go.Proofs.Ytokkiaokpfediaa
