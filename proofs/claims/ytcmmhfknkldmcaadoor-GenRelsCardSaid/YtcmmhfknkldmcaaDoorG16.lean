/-
  Contracts of layer 17 (gen). No condition beyond those that each theorem states.
-/
import Derived.Test.YtcmmhfknkldmcaaDoorR5h
import Derived.Test.YtcmmhfknkldmcaaDoorK9
namespace Go.Proofs.YtcmmhfknkldmcaaDoor
open Go.RowKit
theorem agg_34 : tyAgg Tryd.prog 34 3 = true := by kernel_rfl
theorem fo_34_0 : fOff Tryd.prog 34 0 0 = true := by kernel_rfl
theorem fo_34_1 : fOff Tryd.prog 34 1 1 = true := by kernel_rfl
theorem fo_34_2 : fOff Tryd.prog 34 2 2 = true := by kernel_rfl
theorem fo_36_0 : fOff Tryd.prog 36 0 0 = true := by kernel_rfl
theorem isz_34 : (Tryd.prog.info? 34).map (·.size) = some 3 := by kernel_rfl
theorem isz_9 : (Tryd.prog.info? 9).map (·.size) = some 1 := by kernel_rfl
theorem siz_34 : tySize Tryd.prog 34 3 = true := by kernel_rfl
theorem rf5_flat (l : List DInst) : rf5 l = l.flatMap named17 := by
  induction l with
  | nil => rfl
  | cons x l ih =>
    have h : rf5 (x :: l) = (if named5 x = true then [x.name] else []) ++ rf5 l := by
      unfold rf5
      by_cases h : named5 x = true <;> simp [h]
    rw [h, ih, List.flatMap_cons]
    congr 1
    unfold named17 named5
    by_cases h : x.op = 12 ∨ x.op = 13 ∨ x.op = 14
    · rw [if_pos h, if_pos (by simp; omega)]
    · rw [if_neg h, if_neg (by simp; omega)]
theorem refs_eq (f : DFunc) : refs5 f = refs17 f := by
  unfold refs5 refs17 fins5
  rw [rf5_flat, List.flatMap_assoc]
theorem fins_le {f : DFunc} (h : OkG f) : (fins5 f).length ≤ 1000000 := by
  have : ∀ l : List DBlock, (∀ b ∈ l, b.ins.length ≤ 32) → (l.flatMap (·.ins)).length ≤ 32 * l.length := fun l => by
    induction l with
    | nil => intro _; simp
    | cons b l ih =>
      intro hl
      have h1 := hl b List.mem_cons_self
      have h2 := ih fun c hc => hl c (List.mem_cons_of_mem _ hc)
      rw [List.flatMap_cons, List.length_append, List.length_cons]; omega
  have h1 := this f.blocks fun b hb => (h.pb b hb).2
  have := h.bl
  unfold fins5; omega

set_option maxRecDepth 10000 in
set_option maxHeartbeats 4000000 in
theorem genRels_ret (f : DFunc) (cf : List Value) {w : World} {ro : Nat → Prop} (hro : ∀ b, ro b → b < w.heap.size) (hx : FuncC ro w cf f) (hok : okFunc f) (hr0 : ro 0) (hc0 : CellsAt w 0 0 [.int .i64 0, .int .i64 0, .int .i64 1, .int .i64 2, .int .i64 9, .int .i64 8, .int .i64 7, .int .i64 5, .int .i64 3, .int .i64 6, .int .i64 4, .int .i64 2]) : Ret Tryd.prog 4 #[.agg cf.toArray] w fun v w' => v = .bool true ∧ Below w.heap.size w w' := by
 obtain ⟨sbF, rfl, hblF, hnmF, hbdF, hprF⟩ := id hx
 obtain ⟨adbF, capbF, rfl, hbkFa, hbkFb, hbkFc, hbkFd⟩ := id hblF
 have hbkFm : f.blocks.length ≤ 9223372036854775807 := by have h1 := hbkFa; have h2 := hbkFb; unfold maxLen at h2; omega
 refine Ret.enter (P := Tryd.prog) (n := 149) (args := [.agg #[.string f.name, .int .i64 f.bind, .int .i64 f.params, .slice adbF f.blocks.length capbF]]) (σ := [(0, .agg #[.string f.name, .int .i64 f.bind, .int .i64 f.params, .slice adbF f.blocks.length capbF])]) Tryd.func4 rfl rfl rfl rfl ?_
 have hS := St.start (ro := ro) hro
 have hsub : ∀ b, ro b → ro b ∨ w.heap.size ≤ b := fun _ h => .inl h
 have halT : Alike ro w ro w := Alike.refl
 refine W.seq ?_
 refine W.region ?_
 refine WL.box (v := .agg #[.string f.name, .int .i64 f.bind, .int .i64 f.params, .slice adbF f.blocks.length capbF]) (cs := [.string f.name, .int .i64 f.bind, .int .i64 f.params, .slice adbF f.blocks.length capbF]) rfl rfl rfl rfl hS ?_
 clear hS; intro w2 b1 hb_b1 hS
 refine WL.assign rfl rfl rfl ?_
 refine WL.nil ?_
 refine N.seq ?_
 refine W.seq ?_
 refine W.region ?_
 refine WL.callF (vs := []) Tryd.func8 (by kernel_rfl) rfl rfl rfl (shown17_ret (ro := ro) (fun b hb => (hS.snap b hb).1)) ?_
 rintro v w3 ⟨rfl, hbl⟩
 replace hS := hS.grow hbl
 refine WL.assign rfl rfl rfl ?_
 refine WL.nil ?_
 refine N.seq ?_
 refine W.seq ?_
 refine W.region ?_
 refine WL.loadN (cs := [.string f.name, .int .i64 f.bind, .int .i64 f.params, .slice adbF f.blocks.length capbF]) agg_24 rfl rfl rfl rfl (hS.cells 0 (m := 4) rfl rfl) ?_
 refine WL.callF (vs := [.agg #[.string f.name, .int .i64 f.bind, .int .i64 f.params, .slice adbF f.blocks.length capbF]]) Tryd.func9 (by kernel_rfl) rfl rfl rfl (func5_ret f _ (ro := ro) (fun b hb => (hS.snap b hb).1) (hx.keep hS.alike) hok) ?_
 rintro v w4 ⟨rfl, hbl⟩
 replace hS := hS.grow hbl
 refine WL.assign rfl rfl rfl ?_
 refine WL.nil ?_
 refine N.seq ?_
 refine W.seq ?_
 refine W.seq ?_
 refine W.region ?_
 refine WL.move rfl rfl rfl ?_
 refine WL.not rfl rfl rfl ?_
 refine WL.move rfl rfl rfl ?_
 rcases (Bool.eq_false_or_eq_true (!(func5 f))).symm with hg5 | hg5
 ·
  refine WL.set 15 (v' := .bool false) rfl (by rw [hg5]) ?_
  refine WL.set 16 (v' := .bool false) rfl (by rw [hg5]) ?_
  refine WL.fieldAddr fo_24_3 rfl rfl rfl ?_
  refine WL.load1 (v := .slice adbF f.blocks.length capbF) one_22 rfl rfl rfl (hS.cell 0 rfl rfl) ?_
  refine WL.lenSlice Tryd.underlying22 rfl rfl rfl ?_
  refine WL.bin rfl rfl rfl rfl rfl ?_
  refine WL.pick (v := .bool (decide ((f.blocks.length : Int) = 0))) rfl rfl rfl rfl rfl rfl ?_
  refine WL.nil ?_
  refine N.seq ?_
  refine W.cond rfl (fun hc6 => ?_) (fun hc6 => ?_)
  ·
   have hc6p : (f.blocks.length : Int) = 0 := by simpa using hc6
   refine W.seq ?_
   refine W.region ?_
   refine WL.move rfl rfl rfl ?_
   refine WL.assign rfl rfl rfl ?_
   refine WL.nil ?_
   refine N.seq ?_
   refine Fin.ret1 rfl (v := .bool true) rfl ?_
   exact ⟨rfl, hS.below⟩
  have hc6p : ¬ ((f.blocks.length : Int) = 0) := by simpa using hc6
  refine W.skip ?_
  refine N.seq ?_
  refine W.seq ?_
  have hf5 : func5 f = true := by simpa using hg5
  have hokG := okg_of5 hf5 hx; have hfr := frame_in hokG; have hff := frame_facts hokG
  refine W.region ?_
  refine WL.loadN (cs := [.string f.name, .int .i64 f.bind, .int .i64 f.params, .slice adbF f.blocks.length capbF]) agg_24 rfl rfl rfl rfl (hS.cells 0 (m := 4) rfl rfl) ?_
  refine WL.callF (vs := [.agg #[.string f.name, .int .i64 f.bind, .int .i64 f.params, .slice adbF f.blocks.length capbF]]) Tryd.func10 (by kernel_rfl) rfl rfl rfl (func_ret f _ (ro := ro) (fun b hb => (hS.snap b hb).1) (hx.keep hS.alike) hokG hr0 (hS.roCells hr0 hc0)) ?_
  rintro v w7 ⟨so, sr, rfl, hso, hsr, hko, hkr, hbl⟩
  have hal8 := hS.alikeTo hbl (ro' := (roFrom ro w4 w7)) (fun b hb => .inl hb)
  replace hsub : ∀ b, (roFrom ro w4 w7) b → ro b ∨ w.heap.size ≤ b := fun b hb => hb.elim (hsub b) (fun h => .inr (Nat.le_trans hS.below.size h.1))
  replace halT := halT.trans hal8
  replace hx := hx.keep hal8
  replace hbkFd : Elems (roFrom ro w4 w7) w7 8 (BlockC (roFrom ro w4 w7) w7) adbF f.blocks := hbkFd.keep hal8 (fun _ _ h => h.keep hal8)
  replace hblF : SlV (roFrom ro w4 w7) w7 8 (BlockC (roFrom ro w4 w7) w7) (.slice adbF f.blocks.length capbF) f.blocks := SlV.keep hblF hal8 (fun _ _ h => h.keep hal8)
  replace hc0 := hc0.keep (hal8 _ hr0).2
  replace hr0 := (hal8 _ hr0).1
  replace hS := hS.readNew hbl
  have hso2 : SlV (roFrom ro w4 w7) w7 5 OpC so (func17 f).ops := row_slv hso (oCells_chunks (func_ok hokG)) rfl (fun b hb => .inr (hko b hb))
  have hsr2 : SlV (roFrom ro w4 w7) w7 3 RelC sr (func17 f).rels := row_slv hsr (Chunks.flat (f := relL) (fun _ => rfl) _ fun x hx => ⟨rfl, func_relC hokG x hx⟩) rfl (fun b hb => .inr (hkr b hb))
  obtain ⟨ado, capo, rfl, hooa, hoob, hooc, hood⟩ := id hso2
  have hoom : ((func17 f).ops).length ≤ 9223372036854775807 := by have h1 := hooa; have h2 := hoob; unfold maxLen at h2; omega
  obtain ⟨adr, capr, rfl, hrra, hrrb, hrrc, hrrd⟩ := id hsr2
  have hrrm : ((func17 f).rels).length ≤ 9223372036854775807 := by have h1 := hrra; have h2 := hrrb; unfold maxLen at h2; omega
  refine WL.alloc (tyZero_spec zer_30) rfl rfl hS ?_
  clear hS; intro w10 b9 hb_b9 hS
  refine WL.store (cs := [.string f.name, .slice ado (((func17 f).ops).length) capo, .slice adr (((func17 f).rels).length) capr]) (c' := #[.string f.name, .slice ado (((func17 f).ops).length) capo, .slice adr (((func17 f).rels).length) capr]) (L' := [(b9, .cells #[.string f.name, .slice ado (((func17 f).ops).length) capo, .slice adr (((func17 f).rels).length) capr] 30 (0, 0)), (b1, .cells #[.string f.name, .int .i64 f.bind, .int .i64 f.params, .slice adbF f.blocks.length capbF] 24 (0, 0))]) 0 rfl rfl rfl rfl siz_30 rfl rfl rfl rfl rfl hS ?_
  clear hS; intro w11 hS
  refine WL.nil ?_
  refine N.seq ?_
  refine W.seq ?_
  refine W.region ?_
  refine WL.loadN (cs := [.string f.name, .int .i64 f.bind, .int .i64 f.params, .slice adbF f.blocks.length capbF]) agg_24 rfl rfl rfl rfl (hS.cells 1 (m := 4) rfl rfl) ?_
  refine WL.callF (vs := [.agg #[.string f.name, .int .i64 f.bind, .int .i64 f.params, .slice adbF f.blocks.length capbF]]) Tryd.func12 (by kernel_rfl) rfl rfl rfl (refs5_ret f _ (ro := (roFrom ro w4 w7)) (fun b hb => (hS.snap b hb).1) (hx.keep hS.alike) (fins_le hokG)) ?_
  rintro vn w12 ⟨hvn, hbl⟩
  have hal13 := hS.alikeTo hbl (ro' := (roFrom (roFrom ro w4 w7) w11 w12)) (fun b hb => .inl hb)
  replace hsub : ∀ b, (roFrom (roFrom ro w4 w7) w11 w12) b → ro b ∨ w.heap.size ≤ b := fun b hb => hb.elim (hsub b) (fun h => .inr (Nat.le_trans hS.below.size h.1))
  replace halT := halT.trans hal13
  replace hx := hx.keep hal13
  replace hbkFd : Elems (roFrom (roFrom ro w4 w7) w11 w12) w12 8 (BlockC (roFrom (roFrom ro w4 w7) w11 w12) w12) adbF f.blocks := hbkFd.keep hal13 (fun _ _ h => h.keep hal13)
  replace hblF : SlV (roFrom (roFrom ro w4 w7) w11 w12) w12 8 (BlockC (roFrom (roFrom ro w4 w7) w11 w12) w12) (.slice adbF f.blocks.length capbF) f.blocks := SlV.keep hblF hal13 (fun _ _ h => h.keep hal13)
  replace hood : Elems (roFrom (roFrom ro w4 w7) w11 w12) w12 5 OpC ado ((func17 f).ops) := hood.keep hal13 (fun _ _ h => h)
  replace hso2 : SlV (roFrom (roFrom ro w4 w7) w11 w12) w12 5 OpC (.slice ado (((func17 f).ops).length) capo) ((func17 f).ops) := SlV.keep hso2 hal13 (fun _ _ h => h)
  replace hrrd : Elems (roFrom (roFrom ro w4 w7) w11 w12) w12 3 RelC adr ((func17 f).rels) := hrrd.keep hal13 (fun _ _ h => h)
  replace hsr2 : SlV (roFrom (roFrom ro w4 w7) w11 w12) w12 3 RelC (.slice adr (((func17 f).rels).length) capr) ((func17 f).rels) := SlV.keep hsr2 hal13 (fun _ _ h => h)
  replace hc0 := hc0.keep (hal13 _ hr0).2
  replace hr0 := (hal13 _ hr0).1
  replace hS := hS.readNew hbl
  replace hvn := SlV.keep hvn (ro' := (roFrom (roFrom ro w4 w7) w11 w12)) (w' := w12) (Q' := StrC) (fun x hx => ⟨.inr hx, rfl⟩) (fun _ _ h => h)
  obtain ⟨adn, capn, rfl, hvna, hvnb, hvnc, hvnd⟩ := id hvn
  have hvnm : (refs5 f).length ≤ 9223372036854775807 := by have h1 := hvna; have h2 := hvnb; unfold maxLen at h2; omega
  refine WL.assign rfl rfl rfl ?_
  refine WL.nil ?_
  refine N.seq ?_
  refine W.seq ?_
  refine W.region ?_
  refine WL.assign rfl rfl rfl ?_
  refine WL.nil ?_
  refine N.seq ?_
  refine W.seq ?_
  refine W.seq ?_
  refine W.region ?_
  refine WL.assign rfl rfl rfl ?_
  refine WL.nil ?_
  refine N.seq ?_
  refine W.block ?_
  refine W.loop (α := Nat × Nat) (fun ⟨i, c⟩ => [(0, .agg #[.string f.name, .int .i64 f.bind, .int .i64 f.params, .slice adbF f.blocks.length capbF]), (1, .pointer (some ⟨b1, 0, none⟩)), (3, .bool true), (4, .bool (func5 f)), (5, .pointer (some ⟨b9, 0, none⟩)), (6, .slice adn ((refs5 f).length) capn), (7, .int .i64 (c : Int)), (8, .int .i64 (i : Int)), (11, .bool true), (12, .agg #[.string f.name, .int .i64 f.bind, .int .i64 f.params, .slice adbF f.blocks.length capbF]), (13, .bool (func5 f)), (14, .bool (func5 f)), (15, .bool false), (16, .bool false), (17, .pointer (some ⟨b1, 3, none⟩)), (18, .slice adbF f.blocks.length capbF), (19, .int .i64 (f.blocks.length : Int)), (20, .bool (decide ((f.blocks.length : Int) = 0))), (21, .bool (decide ((f.blocks.length : Int) = 0))), (23, .agg #[.string f.name, .int .i64 f.bind, .int .i64 f.params, .slice adbF f.blocks.length capbF]), (24, .agg #[.string f.name, .slice ado (((func17 f).ops).length) capo, .slice adr (((func17 f).rels).length) capr]), (25, .agg #[.string f.name, .int .i64 f.bind, .int .i64 f.params, .slice adbF f.blocks.length capbF]), (26, .slice adn ((refs5 f).length) capn)]) (fun ⟨i, c⟩ u => St w w12 u (roFrom (roFrom ro w4 w7) w11 w12) [(b9, .cells #[.string f.name, .slice ado (((func17 f).ops).length) capo, .slice adr (((func17 f).rels).length) capr] 30 (0, 0)), (b1, .cells #[.string f.name, .int .i64 f.bind, .int .i64 f.params, .slice adbF f.blocks.length capbF] 24 (0, 0))] [] ∧ i ≤ (func17 f).rels.length ∧ c = (namesR ((func17 f).rels.take i)).length) (fun ⟨i, c⟩ => (func17 f).rels.length - i) (0, 0) ⟨rfl, rfl, rfl, rfl, rfl, rfl, rfl, rfl, rfl, rfl, rfl, rfl, rfl, rfl, rfl, rfl, rfl, rfl, rfl, rfl, rfl, rfl, rfl, trivial⟩ ⟨hS, Nat.zero_le _, rfl⟩ ?_
  clear hS
  rintro ⟨i, c⟩ w14 ⟨hS, hil, hc⟩
  refine W.seq ?_
  refine W.seq ?_
  refine W.region ?_
  refine WL.move rfl rfl rfl ?_
  refine WL.fieldAddr fo_30_2 rfl rfl rfl ?_
  refine WL.load1 (v := .slice adr (((func17 f).rels).length) capr) one_28 rfl rfl rfl (hS.cell 0 rfl rfl) ?_
  refine WL.lenSlice Tryd.underlying28 rfl rfl rfl ?_
  refine WL.bin rfl rfl rfl rfl rfl ?_
  refine WL.nil ?_
  refine N.seq ?_
  refine W.cond rfl (fun hc15 => ?_) (fun hc15 => ?_)
  ·
   have hc15p : (i : Int) < (((func17 f).rels).length : Int) := by simpa using hc15
   refine W.skip ?_
   refine N.seq ?_
   refine W.seq ?_
   refine W.block ?_
   refine W.seq ?_
   refine W.region ?_
   refine WL.fieldAddr fo_30_2 rfl rfl rfl ?_
   refine WL.load1 (v := .slice adr (((func17 f).rels).length) capr) one_28 rfl rfl rfl (hS.cell 0 rfl rfl) ?_
   refine WL.move rfl rfl rfl ?_
   have hj16 : i < (func17 f).rels.length := by omega
   obtain ⟨x16, hx16⟩ : ∃ zz, (func17 f).rels[i]? = some zz := ⟨_, List.getElem?_eq_getElem hj16⟩
   obtain ⟨b16, o16, cs16, hE16, hr16, hl16, hc16, hQ16⟩ := hrrd i _ hx16
   obtain ⟨rfl, hrn16, hra16, hrk16⟩ := hQ16
   refine WL.indexAddrE (j := i) Tryd.underlying28 isz_34 rfl rfl rfl rfl hj16 hE16 ?_
   refine WL.loadN (cs := [.int .i64 x16.at_, .int .i64 x16.kind, .string x16.name]) agg_34 rfl rfl rfl rfl (hS.roCells hr16 hc16) ?_
   refine WL.alloc (tyZero_spec zer_34) rfl rfl hS ?_
   clear hS; intro w18 b17 hb_b17 hS
   refine WL.store (cs := [.int .i64 x16.at_, .int .i64 x16.kind, .string x16.name]) (c' := #[.int .i64 x16.at_, .int .i64 x16.kind, .string x16.name]) (L' := [(b17, .cells #[.int .i64 x16.at_, .int .i64 x16.kind, .string x16.name] 34 (0, 0)), (b9, .cells #[.string f.name, .slice ado (((func17 f).ops).length) capo, .slice adr (((func17 f).rels).length) capr] 30 (0, 0)), (b1, .cells #[.string f.name, .int .i64 f.bind, .int .i64 f.params, .slice adbF f.blocks.length capbF] 24 (0, 0))]) 0 rfl rfl rfl rfl siz_34 rfl rfl rfl rfl rfl hS ?_
   clear hS; intro w19 hS
   refine WL.nil ?_
   refine N.seq ?_
   refine W.seq ?_
   refine W.seq ?_
   obtain ⟨_, nR, hnR, oR, hoR, hoz, hok3⟩ := (func_rels hokG).1 _ (List.mem_of_getElem? hx16)
   have hnl := (List.getElem?_eq_some_iff.1 hoR).1
   have hcn : (refs5 f)[c]? = some x16.name := by have h := func_np i _ hx16; rw [(func_rels hokG).2.2, ← refs_eq, ← hc] at h; exact h
   have hcl := (List.getElem?_eq_some_iff.1 hcn).1
   have hj20 : nR < (func17 f).ops.length := (List.getElem?_eq_some_iff.1 hoR).1
   have hx20 := hoR
   obtain ⟨b20, o20, cs20, hE20, hr20, hl20, hc20, hQ20⟩ := hood nR _ hoR
   obtain ⟨rfl, hop20⟩ := hQ20
   rcases (Bool.eq_false_or_eq_true (decide (0 < (i : Int)))).symm with hg21 | hg21
   ·
    have hg21p : ¬ (0 < (i : Int)) := by simpa using hg21
    have hj22 : c < (refs5 f).length := by omega
    obtain ⟨x22, hx22⟩ : ∃ zz, (refs5 f)[c]? = some zz := ⟨_, List.getElem?_eq_getElem hj22⟩
    obtain ⟨b22, o22, cs22, hE22, hr22, hl22, hc22, hQ22⟩ := hvnd c _ hx22
    obtain ⟨rfl, hsz22⟩ := hQ22
    refine W.drawL (by kernel_rfl) 52 ((.q (.pointer (some ⟨b17, 0, none⟩))) :: (.q (.int .i64 x16.at_)) :: (.q (.bool false)) :: (.q (.bool false)) :: (.q (.pointer (some ⟨b17, 0, none⟩))) :: (.q (.int .i64 x16.at_)) :: (.q (.pointer (some ⟨b9, 1, none⟩))) :: (.q (.slice ado (((func17 f).ops).length) capo)) :: (.q (.int .i64 (((func17 f).ops).length : Int))) :: (.q (.bool false)) :: (.q (.bool false)) :: (.q (.bool false)) :: (.q (.int .i64 (i : Int))) :: (.q (.bool false)) :: (.q (.bool false)) :: (.q undef) :: (.q undef) :: (.q undef) :: (.q undef) :: (.q undef) :: (.q undef) :: (.q undef) :: (.q undef) :: (.q undef) :: (.q undef) :: (.q (.bool false)) :: (.q (.bool false)) :: (.q (.bool false)) :: (.q (.int .i64 (c : Int))) :: (.q (.slice adn ((refs5 f).length) capn)) :: (.q (.int .i64 ((refs5 f).length : Int))) :: (.q (.bool false)) :: (.q (.bool false)) :: (.q (.bool false)) :: (.q (.pointer (some ⟨b17, 2, none⟩))) :: (.q (.string x16.name)) :: (.q (.slice adn ((refs5 f).length) capn)) :: (.q (.int .i64 (c : Int))) :: (.q (.pointer (some ⟨b22, o22 + c * 1, none⟩))) :: (.q (.string x22)) :: (.q (.bool false)) :: (.q (.bool false)) :: (.q (.bool false)) :: (.q (.pointer (some ⟨b9, 1, none⟩))) :: (.q (.slice ado (((func17 f).ops).length) capo)) :: (.q (.pointer (some ⟨b17, 0, none⟩))) :: (.q (.int .i64 (nR : Int))) :: (.q (.pointer (some ⟨b20, o20 + nR * 5, none⟩))) :: (.q (.pointer (some ⟨b20, o20 + nR * 5 + 4, none⟩))) :: (.q (.int .i64 oR.imm)) :: (.q (.bool false)) :: (.q (.bool false)) :: []) (by kernel_rfl) (by kernel_rfl) [(0, .agg #[.string f.name, .int .i64 f.bind, .int .i64 f.params, .slice adbF f.blocks.length capbF]), (1, .pointer (some ⟨b1, 0, none⟩)), (3, .bool true), (4, .bool (func5 f)), (5, .pointer (some ⟨b9, 0, none⟩)), (6, .slice adn ((refs5 f).length) capn), (7, .int .i64 (c : Int)), (8, .int .i64 (i : Int)), (9, .pointer (some ⟨b17, 0, none⟩)), (11, .bool true), (12, .agg #[.string f.name, .int .i64 f.bind, .int .i64 f.params, .slice adbF f.blocks.length capbF]), (13, .bool (func5 f)), (14, .bool (func5 f)), (15, .bool false), (16, .bool false), (17, .pointer (some ⟨b1, 3, none⟩)), (18, .slice adbF f.blocks.length capbF), (19, .int .i64 (f.blocks.length : Int)), (20, .bool (decide ((f.blocks.length : Int) = 0))), (21, .bool (decide ((f.blocks.length : Int) = 0))), (23, .agg #[.string f.name, .int .i64 f.bind, .int .i64 f.params, .slice adbF f.blocks.length capbF]), (24, .agg #[.string f.name, .slice ado (((func17 f).ops).length) capo, .slice adr (((func17 f).rels).length) capr]), (25, .agg #[.string f.name, .int .i64 f.bind, .int .i64 f.params, .slice adbF f.blocks.length capbF]), (26, .slice adn ((refs5 f).length) capn), (27, .int .i64 (i : Int)), (28, .pointer (some ⟨b9, 2, none⟩)), (29, .slice adr (((func17 f).rels).length) capr), (30, .int .i64 (((func17 f).rels).length : Int)), (31, .bool (decide ((i : Int) < (((func17 f).rels).length : Int)))), (34, .pointer (some ⟨b9, 2, none⟩)), (35, .slice adr (((func17 f).rels).length) capr), (36, .int .i64 (i : Int)), (37, .pointer (some ⟨b16, o16 + i * 3, none⟩)), (38, .agg #[.int .i64 x16.at_, .int .i64 x16.kind, .string x16.name])] ⟨rfl, rfl, rfl, rfl, rfl, rfl, rfl, rfl, rfl, rfl, rfl, rfl, rfl, rfl, rfl, rfl, rfl, rfl, rfl, rfl, rfl, rfl, rfl, rfl, rfl, rfl, rfl, rfl, rfl, rfl, rfl, rfl, rfl, rfl, trivial⟩ (by kernel_rfl) hS ?_ ?_
    ·
     refine And.intro (fun β w hS => ?_) ?_
     ·
      refine WL.sub (σ' := [(9, .pointer (some ⟨b17, 0, none⟩))]) ⟨rfl, trivial⟩ ?_
      refine WL.fieldAddr fo_34_0 rfl rfl rfl ?_
      exact WL.nil (N.cut () ⟨rfl, trivial⟩ (Below.refl _ _))
     refine And.intro (fun β w hS => ?_) ?_
     ·
      refine WL.sub (σ' := [(39, .pointer (some ⟨b17, 0, none⟩))]) ⟨rfl, trivial⟩ ?_
      refine WL.load1 (v := .int .i64 x16.at_) one_3 rfl rfl rfl (hS.cell 0 rfl rfl) ?_
      exact WL.nil (N.cut () ⟨rfl, trivial⟩ (Below.refl _ _))
     refine And.intro (fun β w hS => ?_) ?_
     ·
      refine WL.sub (σ' := [(40, .int .i64 x16.at_)]) ⟨rfl, trivial⟩ ?_
      refine WL.bin rfl rfl rfl rfl rfl ?_
      refine WL.set 41 (v' := .bool false) rfl (congrArg Value.bool (show (decide (x16.at_ < 0)) = false from decide_eq_false (show ¬ (x16.at_ < 0) from by omega))) ?_
      exact WL.nil (N.cut () ⟨rfl, trivial⟩ (Below.refl _ _))
     refine And.intro (fun β w hS => ?_) ?_
     ·
      refine WL.sub (σ' := [(41, .bool false)]) ⟨rfl, trivial⟩ ?_
      refine WL.move rfl rfl rfl ?_
      exact WL.nil (N.cut () ⟨rfl, trivial⟩ (Below.refl _ _))
     refine And.intro (fun β w hS => ?_) ?_
     ·
      refine WL.sub (σ' := [(9, .pointer (some ⟨b17, 0, none⟩)), (42, .bool false)]) ⟨rfl, rfl, trivial⟩ ?_
      refine WL.fieldAddr fo_34_0 rfl rfl rfl ?_
      exact WL.nil (N.cut () ⟨rfl, trivial⟩ (Below.refl _ _))
     refine And.intro (fun β w hS => ?_) ?_
     ·
      refine WL.sub (σ' := [(42, .bool false), (43, .pointer (some ⟨b17, 0, none⟩))]) ⟨rfl, rfl, trivial⟩ ?_
      refine WL.load1 (v := .int .i64 x16.at_) one_3 rfl rfl rfl (hS.cell 0 rfl rfl) ?_
      exact WL.nil (N.cut () ⟨rfl, trivial⟩ (Below.refl _ _))
     refine And.intro (fun β w hS => ?_) ?_
     ·
      refine WL.sub (σ' := [(5, .pointer (some ⟨b9, 0, none⟩)), (42, .bool false)]) ⟨rfl, rfl, trivial⟩ ?_
      refine WL.fieldAddr fo_30_1 rfl rfl rfl ?_
      exact WL.nil (N.cut () ⟨rfl, trivial⟩ (Below.refl _ _))
     refine And.intro (fun β w hS => ?_) ?_
     ·
      refine WL.sub (σ' := [(42, .bool false), (45, .pointer (some ⟨b9, 1, none⟩))]) ⟨rfl, rfl, trivial⟩ ?_
      refine WL.load1 (v := .slice ado (((func17 f).ops).length) capo) one_27 rfl rfl rfl (hS.cell 1 rfl rfl) ?_
      exact WL.nil (N.cut () ⟨rfl, trivial⟩ (Below.refl _ _))
     refine And.intro (fun β w hS => ?_) ?_
     ·
      refine WL.sub (σ' := [(42, .bool false), (46, .slice ado (((func17 f).ops).length) capo)]) ⟨rfl, rfl, trivial⟩ ?_
      refine WL.lenSlice Tryd.underlying27 rfl rfl rfl ?_
      exact WL.nil (N.cut () ⟨rfl, trivial⟩ (Below.refl _ _))
     refine And.intro (fun β w hS => ?_) ?_
     ·
      refine WL.sub (σ' := [(42, .bool false), (44, .int .i64 x16.at_), (47, .int .i64 (((func17 f).ops).length : Int))]) ⟨rfl, rfl, rfl, trivial⟩ ?_
      refine WL.bin rfl rfl rfl rfl rfl ?_
      refine WL.set 48 (v' := .bool false) rfl (congrArg Value.bool (show (decide ((((func17 f).ops).length : Int) ≤ x16.at_)) = false from decide_eq_false (show ¬ ((((func17 f).ops).length : Int) ≤ x16.at_) from by omega))) ?_
      exact WL.nil (N.cut () ⟨rfl, trivial⟩ (Below.refl _ _))
     refine And.intro (fun β w hS => ?_) ?_
     ·
      refine WL.sub (σ' := [(42, .bool false), (48, .bool false)]) ⟨rfl, rfl, trivial⟩ ?_
      refine WL.pick (v := .bool false) rfl rfl rfl rfl rfl rfl ?_
      exact WL.nil (N.cut () ⟨rfl, trivial⟩ (Below.refl _ _))
     refine And.intro (fun β w hS => ?_) ?_
     ·
      refine WL.sub (σ' := [(49, .bool false)]) ⟨rfl, trivial⟩ ?_
      refine WL.move rfl rfl rfl ?_
      exact WL.nil (N.cut () ⟨rfl, trivial⟩ (Below.refl _ _))
     refine And.intro (fun β w hS => ?_) ?_
     ·
      refine WL.sub (σ' := [(8, .int .i64 (i : Int)), (50, .bool false)]) ⟨rfl, rfl, trivial⟩ ?_
      refine WL.move rfl rfl rfl ?_
      exact WL.nil (N.cut () ⟨rfl, trivial⟩ (Below.refl _ _))
     refine And.intro (fun β w hS => ?_) ?_
     ·
      refine WL.sub (σ' := [(50, .bool false), (51, .int .i64 (i : Int))]) ⟨rfl, rfl, trivial⟩ ?_
      refine WL.bin rfl rfl rfl rfl rfl ?_
      refine WL.set 52 (v' := .bool false) rfl (by rw [hg21]) ?_
      exact WL.nil (N.cut () ⟨rfl, trivial⟩ (Below.refl _ _))
     refine And.intro (fun β w hS => ?_) ?_
     ·
      refine WL.sub (σ' := [(50, .bool false), (52, .bool false)]) ⟨rfl, rfl, trivial⟩ ?_
      refine WL.move rfl rfl rfl ?_
      exact WL.nil (N.cut () ⟨rfl, trivial⟩ (Below.refl _ _))
     refine And.intro (fun β w hS => ?_) ?_
     ·
      refine WL.sub (σ' := [(5, .pointer (some ⟨b9, 0, none⟩)), (53, .bool false)]) ⟨rfl, rfl, trivial⟩ ?_
      refine WL.skp rfl rfl ?_
      exact WL.nil (N.cut () ⟨rfl, trivial⟩ (Below.refl _ _))
     refine And.intro (fun β w hS => ?_) ?_
     ·
      refine WL.sub (σ' := [(53, .bool false), (54, undef)]) ⟨rfl, rfl, trivial⟩ ?_
      refine WL.skp rfl rfl ?_
      exact WL.nil (N.cut () ⟨rfl, trivial⟩ (Below.refl _ _))
     refine And.intro (fun β w hS => ?_) ?_
     ·
      refine WL.sub (σ' := [(8, .int .i64 (i : Int)), (53, .bool false)]) ⟨rfl, rfl, trivial⟩ ?_
      refine WL.skp rfl rfl ?_
      exact WL.nil (N.cut () ⟨rfl, trivial⟩ (Below.refl _ _))
     refine And.intro (fun β w hS => ?_) ?_
     ·
      refine WL.sub (σ' := [(53, .bool false), (56, undef)]) ⟨rfl, rfl, trivial⟩ ?_
      refine WL.skp rfl rfl ?_
      exact WL.nil (N.cut () ⟨rfl, trivial⟩ (Below.refl _ _))
     refine And.intro (fun β w hS => ?_) ?_
     ·
      refine WL.sub (σ' := [(53, .bool false), (55, undef), (57, undef)]) ⟨rfl, rfl, rfl, trivial⟩ ?_
      refine WL.skp rfl rfl ?_
      exact WL.nil (N.cut () ⟨rfl, trivial⟩ (Below.refl _ _))
     refine And.intro (fun β w hS => ?_) ?_
     ·
      refine WL.sub (σ' := [(53, .bool false), (58, undef)]) ⟨rfl, rfl, trivial⟩ ?_
      refine WL.skp rfl rfl ?_
      exact WL.nil (N.cut () ⟨rfl, trivial⟩ (Below.refl _ _))
     refine And.intro (fun β w hS => ?_) ?_
     ·
      refine WL.sub (σ' := [(53, .bool false), (59, undef)]) ⟨rfl, rfl, trivial⟩ ?_
      refine WL.skp rfl rfl ?_
      exact WL.nil (N.cut () ⟨rfl, trivial⟩ (Below.refl _ _))
     refine And.intro (fun β w hS => ?_) ?_
     ·
      refine WL.sub (σ' := [(9, .pointer (some ⟨b17, 0, none⟩)), (53, .bool false)]) ⟨rfl, rfl, trivial⟩ ?_
      refine WL.skp rfl rfl ?_
      exact WL.nil (N.cut () ⟨rfl, trivial⟩ (Below.refl _ _))
     refine And.intro (fun β w hS => ?_) ?_
     ·
      refine WL.sub (σ' := [(53, .bool false), (61, undef)]) ⟨rfl, rfl, trivial⟩ ?_
      refine WL.skp rfl rfl ?_
      exact WL.nil (N.cut () ⟨rfl, trivial⟩ (Below.refl _ _))
     refine And.intro (fun β w hS => ?_) ?_
     ·
      refine WL.sub (σ' := [(53, .bool false), (60, undef), (62, undef)]) ⟨rfl, rfl, rfl, trivial⟩ ?_
      refine WL.skp rfl rfl ?_
      exact WL.nil (N.cut () ⟨rfl, trivial⟩ (Below.refl _ _))
     refine And.intro (fun β w hS => ?_) ?_
     ·
      refine WL.sub (σ' := [(50, .bool false), (53, .bool false), (63, undef)]) ⟨rfl, rfl, rfl, trivial⟩ ?_
      refine WL.pick (v := .bool false) rfl rfl rfl rfl rfl rfl ?_
      exact WL.nil (N.cut () ⟨rfl, trivial⟩ (Below.refl _ _))
     refine And.intro (fun β w hS => ?_) ?_
     ·
      refine WL.sub (σ' := [(50, .bool false), (64, .bool false)]) ⟨rfl, rfl, trivial⟩ ?_
      refine WL.pick (v := .bool false) rfl rfl rfl rfl rfl rfl ?_
      exact WL.nil (N.cut () ⟨rfl, trivial⟩ (Below.refl _ _))
     refine And.intro (fun β w hS => ?_) ?_
     ·
      refine WL.sub (σ' := [(65, .bool false)]) ⟨rfl, trivial⟩ ?_
      refine WL.move rfl rfl rfl ?_
      exact WL.nil (N.cut () ⟨rfl, trivial⟩ (Below.refl _ _))
     refine And.intro (fun β w hS => ?_) ?_
     ·
      refine WL.sub (σ' := [(7, .int .i64 (c : Int)), (66, .bool false)]) ⟨rfl, rfl, trivial⟩ ?_
      refine WL.move rfl rfl rfl ?_
      exact WL.nil (N.cut () ⟨rfl, trivial⟩ (Below.refl _ _))
     refine And.intro (fun β w hS => ?_) ?_
     ·
      refine WL.sub (σ' := [(6, .slice adn ((refs5 f).length) capn), (66, .bool false)]) ⟨rfl, rfl, trivial⟩ ?_
      refine WL.move rfl rfl rfl ?_
      exact WL.nil (N.cut () ⟨rfl, trivial⟩ (Below.refl _ _))
     refine And.intro (fun β w hS => ?_) ?_
     ·
      refine WL.sub (σ' := [(66, .bool false), (68, .slice adn ((refs5 f).length) capn)]) ⟨rfl, rfl, trivial⟩ ?_
      refine WL.lenSlice Tryd.underlying38 rfl rfl rfl ?_
      exact WL.nil (N.cut () ⟨rfl, trivial⟩ (Below.refl _ _))
     refine And.intro (fun β w hS => ?_) ?_
     ·
      refine WL.sub (σ' := [(66, .bool false), (67, .int .i64 (c : Int)), (69, .int .i64 ((refs5 f).length : Int))]) ⟨rfl, rfl, rfl, trivial⟩ ?_
      refine WL.bin rfl rfl rfl rfl rfl ?_
      refine WL.set 70 (v' := .bool false) rfl (congrArg Value.bool (show (decide (((refs5 f).length : Int) ≤ (c : Int))) = false from decide_eq_false (show ¬ (((refs5 f).length : Int) ≤ (c : Int)) from by omega))) ?_
      exact WL.nil (N.cut () ⟨rfl, trivial⟩ (Below.refl _ _))
     refine And.intro (fun β w hS => ?_) ?_
     ·
      refine WL.sub (σ' := [(66, .bool false), (70, .bool false)]) ⟨rfl, rfl, trivial⟩ ?_
      refine WL.pick (v := .bool false) rfl rfl rfl rfl rfl rfl ?_
      exact WL.nil (N.cut () ⟨rfl, trivial⟩ (Below.refl _ _))
     refine And.intro (fun β w hS => ?_) ?_
     ·
      refine WL.sub (σ' := [(71, .bool false)]) ⟨rfl, trivial⟩ ?_
      refine WL.move rfl rfl rfl ?_
      exact WL.nil (N.cut () ⟨rfl, trivial⟩ (Below.refl _ _))
     refine And.intro (fun β w hS => ?_) ?_
     ·
      refine WL.sub (σ' := [(9, .pointer (some ⟨b17, 0, none⟩)), (72, .bool false)]) ⟨rfl, rfl, trivial⟩ ?_
      refine WL.fieldAddr fo_34_2 rfl rfl rfl ?_
      exact WL.nil (N.cut () ⟨rfl, trivial⟩ (Below.refl _ _))
     refine And.intro (fun β w hS => ?_) ?_
     ·
      refine WL.sub (σ' := [(72, .bool false), (73, .pointer (some ⟨b17, 2, none⟩))]) ⟨rfl, rfl, trivial⟩ ?_
      refine WL.load1 (v := .string x16.name) one_9 rfl rfl rfl (hS.cell 0 rfl rfl) ?_
      exact WL.nil (N.cut () ⟨rfl, trivial⟩ (Below.refl _ _))
     refine And.intro (fun β w hS => ?_) ?_
     ·
      refine WL.sub (σ' := [(6, .slice adn ((refs5 f).length) capn), (72, .bool false)]) ⟨rfl, rfl, trivial⟩ ?_
      refine WL.move rfl rfl rfl ?_
      exact WL.nil (N.cut () ⟨rfl, trivial⟩ (Below.refl _ _))
     refine And.intro (fun β w hS => ?_) ?_
     ·
      refine WL.sub (σ' := [(7, .int .i64 (c : Int)), (72, .bool false)]) ⟨rfl, rfl, trivial⟩ ?_
      refine WL.move rfl rfl rfl ?_
      exact WL.nil (N.cut () ⟨rfl, trivial⟩ (Below.refl _ _))
     refine And.intro (fun β w hS => ?_) ?_
     ·
      refine WL.sub (σ' := [(72, .bool false), (75, .slice adn ((refs5 f).length) capn), (76, .int .i64 (c : Int))]) ⟨rfl, rfl, rfl, trivial⟩ ?_
      refine WL.indexAddrE (j := c) Tryd.underlying38 isz_9 rfl rfl rfl rfl hj22 hE22 ?_
      exact WL.nil (N.cut () ⟨rfl, trivial⟩ (Below.refl _ _))
     refine And.intro (fun β w hS => ?_) ?_
     ·
      refine WL.sub (σ' := [(72, .bool false), (77, .pointer (some ⟨b22, o22 + c * 1, none⟩))]) ⟨rfl, rfl, trivial⟩ ?_
      refine WL.load1 (v := .string x22) one_9 rfl rfl rfl (hS.roCells hr22 hc22 0 _ rfl) ?_
      exact WL.nil (N.cut () ⟨rfl, trivial⟩ (Below.refl _ _))
     refine And.intro (fun β w hS => ?_) ?_
     ·
      refine WL.sub (σ' := [(72, .bool false), (74, .string x16.name), (78, .string x22)]) ⟨rfl, rfl, rfl, trivial⟩ ?_
      refine WL.neStr rfl rfl rfl rfl ?_
      refine WL.set 79 (v' := .bool false) rfl (congrArg Value.bool (show (!decide (x16.name = x22)) = false from by rw [decide_eq_true (show x16.name = x22 from Option.some.inj (hcn.symm.trans hx22))]; rfl)) ?_
      exact WL.nil (N.cut () ⟨rfl, trivial⟩ (Below.refl _ _))
     refine And.intro (fun β w hS => ?_) ?_
     ·
      refine WL.sub (σ' := [(72, .bool false), (79, .bool false)]) ⟨rfl, rfl, trivial⟩ ?_
      refine WL.pick (v := .bool false) rfl rfl rfl rfl rfl rfl ?_
      exact WL.nil (N.cut () ⟨rfl, trivial⟩ (Below.refl _ _))
     refine And.intro (fun β w hS => ?_) ?_
     ·
      refine WL.sub (σ' := [(80, .bool false)]) ⟨rfl, trivial⟩ ?_
      refine WL.move rfl rfl rfl ?_
      exact WL.nil (N.cut () ⟨rfl, trivial⟩ (Below.refl _ _))
     refine And.intro (fun β w hS => ?_) ?_
     ·
      refine WL.sub (σ' := [(5, .pointer (some ⟨b9, 0, none⟩)), (81, .bool false)]) ⟨rfl, rfl, trivial⟩ ?_
      refine WL.fieldAddr fo_30_1 rfl rfl rfl ?_
      exact WL.nil (N.cut () ⟨rfl, trivial⟩ (Below.refl _ _))
     refine And.intro (fun β w hS => ?_) ?_
     ·
      refine WL.sub (σ' := [(81, .bool false), (82, .pointer (some ⟨b9, 1, none⟩))]) ⟨rfl, rfl, trivial⟩ ?_
      refine WL.load1 (v := .slice ado (((func17 f).ops).length) capo) one_27 rfl rfl rfl (hS.cell 1 rfl rfl) ?_
      exact WL.nil (N.cut () ⟨rfl, trivial⟩ (Below.refl _ _))
     refine And.intro (fun β w hS => ?_) ?_
     ·
      refine WL.sub (σ' := [(9, .pointer (some ⟨b17, 0, none⟩)), (81, .bool false)]) ⟨rfl, rfl, trivial⟩ ?_
      refine WL.fieldAddr fo_34_0 rfl rfl rfl ?_
      exact WL.nil (N.cut () ⟨rfl, trivial⟩ (Below.refl _ _))
     refine And.intro (fun β w hS => ?_) ?_
     ·
      refine WL.sub (σ' := [(81, .bool false), (84, .pointer (some ⟨b17, 0, none⟩))]) ⟨rfl, rfl, trivial⟩ ?_
      refine WL.load1 (v := .int .i64 x16.at_) one_3 rfl rfl rfl (hS.cell 0 rfl rfl) ?_
      refine WL.set 85 (v' := .int .i64 (nR : Int)) rfl (congrArg _ hnR) ?_
      exact WL.nil (N.cut () ⟨rfl, trivial⟩ (Below.refl _ _))
     refine And.intro (fun β w hS => ?_) ?_
     ·
      refine WL.sub (σ' := [(81, .bool false), (83, .slice ado (((func17 f).ops).length) capo), (85, .int .i64 (nR : Int))]) ⟨rfl, rfl, rfl, trivial⟩ ?_
      refine WL.indexAddrE (j := nR) Tryd.underlying27 isz_36 rfl rfl rfl rfl hj20 hE20 ?_
      exact WL.nil (N.cut () ⟨rfl, trivial⟩ (Below.refl _ _))
     refine And.intro (fun β w hS => ?_) ?_
     ·
      refine WL.sub (σ' := [(81, .bool false), (86, .pointer (some ⟨b20, o20 + nR * 5, none⟩))]) ⟨rfl, rfl, trivial⟩ ?_
      refine WL.fieldAddr fo_36_4 rfl rfl rfl ?_
      exact WL.nil (N.cut () ⟨rfl, trivial⟩ (Below.refl _ _))
     refine And.intro (fun β w hS => ?_) ?_
     ·
      refine WL.sub (σ' := [(81, .bool false), (87, .pointer (some ⟨b20, o20 + nR * 5 + 4, none⟩))]) ⟨rfl, rfl, trivial⟩ ?_
      refine WL.load1 (v := .int .i64 oR.imm) one_2 rfl rfl rfl (hS.roCells hr20 hc20 4 _ rfl) ?_
      exact WL.nil (N.cut () ⟨rfl, trivial⟩ (Below.refl _ _))
     refine And.intro (fun β w hS => ?_) ?_
     ·
      refine WL.sub (σ' := [(81, .bool false), (88, .int .i64 oR.imm)]) ⟨rfl, rfl, trivial⟩ ?_
      refine WL.bin rfl rfl rfl rfl rfl ?_
      refine WL.set 89 (v' := .bool false) rfl (congrArg Value.bool (show (!decide (oR.imm = 0)) = false from by rw [decide_eq_true (show oR.imm = 0 from hoz)]; rfl)) ?_
      exact WL.nil (N.cut () ⟨rfl, trivial⟩ (Below.refl _ _))
     refine And.intro (fun β w hS => ?_) ?_
     ·
      refine WL.sub (σ' := [(81, .bool false), (89, .bool false)]) ⟨rfl, rfl, trivial⟩ ?_
      refine WL.pick (v := .bool false) rfl rfl rfl rfl rfl rfl ?_
      exact WL.nil (N.cut () ⟨rfl, trivial⟩ (Below.refl _ _))
     trivial
    clear hS; intro w23 β hS
    refine WL.sub (σ' := [(0, .agg #[.string f.name, .int .i64 f.bind, .int .i64 f.params, .slice adbF f.blocks.length capbF]), (1, .pointer (some ⟨b1, 0, none⟩)), (3, .bool true), (4, .bool (func5 f)), (5, .pointer (some ⟨b9, 0, none⟩)), (6, .slice adn ((refs5 f).length) capn), (7, .int .i64 (c : Int)), (8, .int .i64 (i : Int)), (9, .pointer (some ⟨b17, 0, none⟩)), (11, .bool true), (12, .agg #[.string f.name, .int .i64 f.bind, .int .i64 f.params, .slice adbF f.blocks.length capbF]), (13, .bool (func5 f)), (14, .bool (func5 f)), (15, .bool false), (16, .bool false), (17, .pointer (some ⟨b1, 3, none⟩)), (18, .slice adbF f.blocks.length capbF), (19, .int .i64 (f.blocks.length : Int)), (20, .bool (decide ((f.blocks.length : Int) = 0))), (21, .bool (decide ((f.blocks.length : Int) = 0))), (23, .agg #[.string f.name, .int .i64 f.bind, .int .i64 f.params, .slice adbF f.blocks.length capbF]), (24, .agg #[.string f.name, .slice ado (((func17 f).ops).length) capo, .slice adr (((func17 f).rels).length) capr]), (25, .agg #[.string f.name, .int .i64 f.bind, .int .i64 f.params, .slice adbF f.blocks.length capbF]), (26, .slice adn ((refs5 f).length) capn), (27, .int .i64 (i : Int)), (28, .pointer (some ⟨b9, 2, none⟩)), (29, .slice adr (((func17 f).rels).length) capr), (30, .int .i64 (((func17 f).rels).length : Int)), (31, .bool (decide ((i : Int) < (((func17 f).rels).length : Int)))), (34, .pointer (some ⟨b9, 2, none⟩)), (35, .slice adr (((func17 f).rels).length) capr), (36, .int .i64 (i : Int)), (37, .pointer (some ⟨b16, o16 + i * 3, none⟩)), (38, .agg #[.int .i64 x16.at_, .int .i64 x16.kind, .string x16.name]), (39, .pointer (some ⟨b17, 0, none⟩)), (40, .int .i64 x16.at_), (41, .bool false), (42, .bool false), (43, .pointer (some ⟨b17, 0, none⟩)), (44, .int .i64 x16.at_), (45, .pointer (some ⟨b9, 1, none⟩)), (46, .slice ado (((func17 f).ops).length) capo), (47, .int .i64 (((func17 f).ops).length : Int)), (48, .bool false), (49, .bool false), (50, .bool false), (51, .int .i64 (i : Int)), (52, .bool false), (53, .bool false), (54, undef), (55, undef), (56, undef), (57, undef), (58, undef), (59, undef), (60, undef), (61, undef), (62, undef), (63, undef), (64, .bool false), (65, .bool false), (66, .bool false), (67, .int .i64 (c : Int)), (68, .slice adn ((refs5 f).length) capn), (69, .int .i64 ((refs5 f).length : Int)), (70, .bool false), (71, .bool false), (72, .bool false), (73, .pointer (some ⟨b17, 2, none⟩)), (74, .string x16.name), (75, .slice adn ((refs5 f).length) capn), (76, .int .i64 (c : Int)), (77, .pointer (some ⟨b22, o22 + c * 1, none⟩)), (78, .string x22), (79, .bool false), (80, .bool false), (81, .bool false), (82, .pointer (some ⟨b9, 1, none⟩)), (83, .slice ado (((func17 f).ops).length) capo), (84, .pointer (some ⟨b17, 0, none⟩)), (85, .int .i64 (nR : Int)), (86, .pointer (some ⟨b20, o20 + nR * 5, none⟩)), (87, .pointer (some ⟨b20, o20 + nR * 5 + 4, none⟩)), (88, .int .i64 oR.imm), (89, .bool false), (90, .bool false)]) ⟨rfl, rfl, rfl, rfl, rfl, rfl, rfl, rfl, rfl, rfl, rfl, rfl, rfl, rfl, rfl, rfl, rfl, rfl, rfl, rfl, rfl, rfl, rfl, rfl, rfl, rfl, rfl, rfl, rfl, rfl, rfl, rfl, rfl, rfl, rfl, rfl, rfl, rfl, rfl, rfl, rfl, rfl, rfl, rfl, rfl, rfl, rfl, rfl, rfl, rfl, rfl, rfl, rfl, rfl, rfl, rfl, rfl, rfl, rfl, rfl, rfl, rfl, rfl, rfl, rfl, rfl, rfl, rfl, rfl, rfl, rfl, rfl, rfl, rfl, rfl, rfl, rfl, rfl, rfl, rfl, rfl, rfl, rfl, rfl, rfl, rfl, trivial⟩ ?_
    refine WL.nil ?_
    refine N.seq ?_
    refine W.condF rfl ?_
    refine W.skip ?_
    refine N.seq ?_
    refine W.seq ?_
    refine W.region ?_
    refine WL.fieldAddr fo_30_1 rfl rfl rfl ?_
    refine WL.load1 (v := .slice ado (((func17 f).ops).length) capo) one_27 rfl rfl rfl (hS.cell 1 rfl rfl) ?_
    refine WL.fieldAddr fo_34_0 rfl rfl rfl ?_
    refine WL.load1 (v := .int .i64 x16.at_) one_3 rfl rfl rfl (hS.cell 0 rfl rfl) ?_
    refine WL.set 94 (v' := .int .i64 (nR : Int)) rfl (congrArg _ hnR) ?_
    refine WL.indexAddrE (j := nR) Tryd.underlying27 isz_36 rfl rfl rfl rfl hj20 hE20 ?_
    refine WL.fieldAddr fo_36_0 rfl rfl rfl ?_
    refine WL.load1 (v := .int .i64 oR.kind) one_3 rfl rfl rfl (hS.roCells hr20 hc20 0 _ rfl) ?_
    refine WL.assign rfl rfl rfl ?_
    refine WL.nil ?_
    refine N.seq ?_
    refine W.seq ?_
    refine W.seq ?_
    refine W.region ?_
    refine WL.fieldAddr fo_34_1 rfl rfl rfl ?_
    refine WL.load1 (v := .int .i64 x16.kind) one_3 rfl rfl rfl (hS.cell 0 rfl rfl) ?_
    refine WL.bin rfl rfl rfl rfl rfl ?_
    refine WL.move rfl rfl rfl ?_
    rcases (Bool.eq_false_or_eq_true (decide (x16.kind = 1))).symm with hg24 | hg24
    ·
     refine WL.set 100 (v' := .bool false) rfl (by rw [hg24]) ?_
     refine WL.set 101 (v' := .bool false) rfl (by rw [hg24]) ?_
     have hg24p : ¬ (x16.kind = 1) := by simpa using hg24
     refine WL.skp rfl rfl ?_
     refine WL.skp rfl rfl ?_
     refine WL.pick (v := .bool false) rfl rfl rfl rfl rfl rfl ?_
     refine WL.move rfl rfl rfl ?_
     refine WL.fieldAddr fo_34_1 rfl rfl rfl ?_
     refine WL.load1 (v := .int .i64 x16.kind) one_3 rfl rfl rfl (hS.cell 0 rfl rfl) ?_
     refine WL.bin rfl rfl rfl rfl rfl ?_
     refine WL.move rfl rfl rfl ?_
     rcases (Bool.eq_false_or_eq_true (decide (x16.kind = 2))).symm with hg25 | hg25
     ·
      refine WL.set 108 (v' := .bool false) rfl (by rw [hg25]) ?_
      refine WL.set 109 (v' := .bool false) rfl (by rw [hg25]) ?_
      have hg25p : ¬ (x16.kind = 2) := by simpa using hg25
      refine WL.skp rfl rfl ?_
      refine WL.skp rfl rfl ?_
      refine WL.pick (v := .bool false) rfl rfl rfl rfl rfl rfl ?_
      refine WL.pick (v := .bool false) rfl rfl rfl rfl rfl rfl ?_
      refine WL.move rfl rfl rfl ?_
      refine WL.fieldAddr fo_34_1 rfl rfl rfl ?_
      refine WL.load1 (v := .int .i64 x16.kind) one_3 rfl rfl rfl (hS.cell 0 rfl rfl) ?_
      refine WL.bin rfl rfl rfl rfl rfl ?_
      refine WL.move rfl rfl rfl ?_
      rcases (Bool.eq_false_or_eq_true (decide (x16.kind = 3))).symm with hg26 | hg26
      ·
       refine WL.set 117 (v' := .bool false) rfl (by rw [hg26]) ?_
       refine WL.set 118 (v' := .bool false) rfl (by rw [hg26]) ?_
       have hg26p : ¬ (x16.kind = 3) := by simpa using hg26
       refine WL.skp rfl rfl ?_
       refine WL.skp rfl rfl ?_
       refine WL.pick (v := .bool false) rfl rfl rfl rfl rfl rfl ?_
       refine WL.move rfl rfl rfl ?_
       refine WL.skp rfl rfl ?_
       refine WL.skp rfl rfl ?_
       refine WL.pick (v := .bool false) rfl rfl rfl rfl rfl rfl ?_
       refine WL.pick (v := .bool false) rfl rfl rfl rfl rfl rfl ?_
       refine WL.move rfl rfl rfl ?_
       refine WL.fieldAddr fo_34_1 rfl rfl rfl ?_
       refine WL.load1 (v := .int .i64 x16.kind) one_3 rfl rfl rfl (hS.cell 0 rfl rfl) ?_
       refine WL.bin rfl rfl rfl rfl rfl ?_
       refine WL.set 130 (v' := .bool false) rfl (congrArg Value.bool (show (decide (x16.kind < 1)) = false from decide_eq_false (show ¬ (x16.kind < 1) from by omega))) ?_
       refine WL.pick (v := .bool false) rfl rfl rfl rfl rfl rfl ?_
       refine WL.move rfl rfl rfl ?_
       refine WL.fieldAddr fo_34_1 rfl rfl rfl ?_
       refine WL.load1 (v := .int .i64 x16.kind) one_3 rfl rfl rfl (hS.cell 0 rfl rfl) ?_
       refine WL.bin rfl rfl rfl rfl rfl ?_
       refine WL.set 135 (v' := .bool false) rfl (congrArg Value.bool (show (decide (3 < x16.kind)) = false from decide_eq_false (show ¬ (3 < x16.kind) from by omega))) ?_
       refine WL.pick (v := .bool false) rfl rfl rfl rfl rfl rfl ?_
       refine WL.nil ?_
       refine N.seq ?_
       refine W.condF rfl ?_
       refine W.skip ?_
       refine N.seq ?_
       refine W.seq ?_
       refine W.region ?_
       refine WL.fieldAddr fo_34_1 rfl rfl rfl ?_
       refine WL.load1 (v := .int .i64 x16.kind) one_3 rfl rfl rfl (hS.cell 0 rfl rfl) ?_
       refine WL.bin rfl rfl rfl rfl rfl ?_
       refine WL.nil ?_
       refine N.seq ?_
       refine W.cond rfl (fun hc27 => ?_) (fun hc27 => ?_)
       ·
        have hc27p : ¬ (x16.kind = 2) := by simpa using hc27
        refine W.region ?_
        refine WL.move rfl rfl rfl ?_
        refine WL.add (c := (c : Int) + 1) rfl rfl rfl rfl (rfl) (by omega) ?_
        refine WL.assign rfl rfl rfl ?_
        refine WL.nil ?_
        refine N.blk ?_
        refine N.seq ?_
        refine W.region ?_
        refine WL.move rfl rfl rfl ?_
        refine WL.add (c := (i : Int) + 1) rfl rfl rfl rfl (rfl) (by omega) ?_
        refine WL.assign rfl rfl rfl ?_
        refine WL.nil ?_
        have hS := hS.dropN 1
        have hcn2 := namesR_next hx16; rw [if_neg hc27p, ← hc] at hcn2
        exact N.loop (i + 1, c + 1) ⟨rfl, rfl, rfl, rfl, rfl, rfl, rfl, rfl, rfl, rfl, rfl, rfl, rfl, rfl, rfl, rfl, rfl, rfl, rfl, rfl, rfl, rfl, rfl, trivial⟩ ⟨hS, by omega, by omega⟩ (by first | omega | (simp only; omega))
       have hc27p : x16.kind = 2 := by simpa using hc27
       refine W.skip ?_
       refine N.blk ?_
       refine N.seq ?_
       refine W.region ?_
       refine WL.move rfl rfl rfl ?_
       refine WL.add (c := (i : Int) + 1) rfl rfl rfl rfl (rfl) (by omega) ?_
       refine WL.assign rfl rfl rfl ?_
       refine WL.nil ?_
       have hS := hS.dropN 1
       have hcn2 := namesR_next hx16; rw [if_pos hc27p, ← hc] at hcn2
       exact N.loop (i + 1, c) ⟨rfl, rfl, rfl, rfl, rfl, rfl, rfl, rfl, rfl, rfl, rfl, rfl, rfl, rfl, rfl, rfl, rfl, rfl, rfl, rfl, rfl, rfl, rfl, trivial⟩ ⟨hS, by omega, by omega⟩ (by first | omega | (simp only; omega))
      refine WL.set 117 (v' := .bool true) rfl (by rw [hg26]) ?_
      refine WL.set 118 (v' := .bool true) rfl (by rw [hg26]) ?_
      have hg26p : x16.kind = 3 := by simpa using hg26
      refine WL.move rfl rfl rfl ?_
      refine WL.bin rfl rfl rfl rfl rfl ?_
      refine WL.pick (v := .bool (!decide (oR.kind = 19))) rfl rfl rfl rfl rfl rfl ?_
      refine WL.move rfl rfl rfl ?_
      rcases (Bool.eq_false_or_eq_true (!decide (oR.kind = 19))).symm with hg28 | hg28
      ·
       refine WL.set 120 (v' := .bool false) rfl (by rw [hg28]) ?_
       refine WL.set 121 (v' := .bool false) rfl (by rw [hg28]) ?_
       refine WL.set 122 (v' := .bool false) rfl (by rw [hg28]) ?_
       have hg28p : oR.kind = 19 := by simpa using hg28
       refine WL.skp rfl rfl ?_
       refine WL.skp rfl rfl ?_
       refine WL.pick (v := .bool false) rfl rfl rfl rfl rfl rfl ?_
       refine WL.pick (v := .bool false) rfl rfl rfl rfl rfl rfl ?_
       refine WL.move rfl rfl rfl ?_
       refine WL.fieldAddr fo_34_1 rfl rfl rfl ?_
       refine WL.load1 (v := .int .i64 x16.kind) one_3 rfl rfl rfl (hS.cell 0 rfl rfl) ?_
       refine WL.bin rfl rfl rfl rfl rfl ?_
       refine WL.set 130 (v' := .bool false) rfl (congrArg Value.bool (show (decide (x16.kind < 1)) = false from decide_eq_false (show ¬ (x16.kind < 1) from by omega))) ?_
       refine WL.pick (v := .bool false) rfl rfl rfl rfl rfl rfl ?_
       refine WL.move rfl rfl rfl ?_
       refine WL.fieldAddr fo_34_1 rfl rfl rfl ?_
       refine WL.load1 (v := .int .i64 x16.kind) one_3 rfl rfl rfl (hS.cell 0 rfl rfl) ?_
       refine WL.bin rfl rfl rfl rfl rfl ?_
       refine WL.set 135 (v' := .bool false) rfl (congrArg Value.bool (show (decide (3 < x16.kind)) = false from decide_eq_false (show ¬ (3 < x16.kind) from by omega))) ?_
       refine WL.pick (v := .bool false) rfl rfl rfl rfl rfl rfl ?_
       refine WL.nil ?_
       refine N.seq ?_
       refine W.condF rfl ?_
       refine W.skip ?_
       refine N.seq ?_
       refine W.seq ?_
       refine W.region ?_
       refine WL.fieldAddr fo_34_1 rfl rfl rfl ?_
       refine WL.load1 (v := .int .i64 x16.kind) one_3 rfl rfl rfl (hS.cell 0 rfl rfl) ?_
       refine WL.bin rfl rfl rfl rfl rfl ?_
       refine WL.nil ?_
       refine N.seq ?_
       refine W.cond rfl (fun hc29 => ?_) (fun hc29 => ?_)
       ·
        have hc29p : ¬ (x16.kind = 2) := by simpa using hc29
        refine W.region ?_
        refine WL.move rfl rfl rfl ?_
        refine WL.add (c := (c : Int) + 1) rfl rfl rfl rfl (rfl) (by omega) ?_
        refine WL.assign rfl rfl rfl ?_
        refine WL.nil ?_
        refine N.blk ?_
        refine N.seq ?_
        refine W.region ?_
        refine WL.move rfl rfl rfl ?_
        refine WL.add (c := (i : Int) + 1) rfl rfl rfl rfl (rfl) (by omega) ?_
        refine WL.assign rfl rfl rfl ?_
        refine WL.nil ?_
        have hS := hS.dropN 1
        have hcn2 := namesR_next hx16; rw [if_neg hc29p, ← hc] at hcn2
        exact N.loop (i + 1, c + 1) ⟨rfl, rfl, rfl, rfl, rfl, rfl, rfl, rfl, rfl, rfl, rfl, rfl, rfl, rfl, rfl, rfl, rfl, rfl, rfl, rfl, rfl, rfl, rfl, trivial⟩ ⟨hS, by omega, by omega⟩ (by first | omega | (simp only; omega))
       have hc29p : x16.kind = 2 := by simpa using hc29
       refine W.skip ?_
       refine N.blk ?_
       refine N.seq ?_
       refine W.region ?_
       refine WL.move rfl rfl rfl ?_
       refine WL.add (c := (i : Int) + 1) rfl rfl rfl rfl (rfl) (by omega) ?_
       refine WL.assign rfl rfl rfl ?_
       refine WL.nil ?_
       have hS := hS.dropN 1
       have hcn2 := namesR_next hx16; rw [if_pos hc29p, ← hc] at hcn2
       exact N.loop (i + 1, c) ⟨rfl, rfl, rfl, rfl, rfl, rfl, rfl, rfl, rfl, rfl, rfl, rfl, rfl, rfl, rfl, rfl, rfl, rfl, rfl, rfl, rfl, rfl, rfl, trivial⟩ ⟨hS, by omega, by omega⟩ (by first | omega | (simp only; omega))
      refine WL.set 120 (v' := .bool true) rfl (by rw [hg28]) ?_
      refine WL.set 121 (v' := .bool true) rfl (by rw [hg28]) ?_
      refine WL.set 122 (v' := .bool true) rfl (by rw [hg28]) ?_
      have hg28p : ¬ (oR.kind = 19) := by simpa using hg28
      refine WL.move rfl rfl rfl ?_
      refine WL.bin rfl rfl rfl rfl rfl ?_
      refine WL.set 124 (v' := .bool false) rfl (congrArg Value.bool (show (!decide (oR.kind = 21)) = false from by rw [decide_eq_true (show oR.kind = 21 from by omega)]; rfl)) ?_
      refine WL.pick (v := .bool false) rfl rfl rfl rfl rfl rfl ?_
      refine WL.pick (v := .bool false) rfl rfl rfl rfl rfl rfl ?_
      refine WL.move rfl rfl rfl ?_
      refine WL.fieldAddr fo_34_1 rfl rfl rfl ?_
      refine WL.load1 (v := .int .i64 x16.kind) one_3 rfl rfl rfl (hS.cell 0 rfl rfl) ?_
      refine WL.bin rfl rfl rfl rfl rfl ?_
      refine WL.set 130 (v' := .bool false) rfl (congrArg Value.bool (show (decide (x16.kind < 1)) = false from decide_eq_false (show ¬ (x16.kind < 1) from by omega))) ?_
      refine WL.pick (v := .bool false) rfl rfl rfl rfl rfl rfl ?_
      refine WL.move rfl rfl rfl ?_
      refine WL.fieldAddr fo_34_1 rfl rfl rfl ?_
      refine WL.load1 (v := .int .i64 x16.kind) one_3 rfl rfl rfl (hS.cell 0 rfl rfl) ?_
      refine WL.bin rfl rfl rfl rfl rfl ?_
      refine WL.set 135 (v' := .bool false) rfl (congrArg Value.bool (show (decide (3 < x16.kind)) = false from decide_eq_false (show ¬ (3 < x16.kind) from by omega))) ?_
      refine WL.pick (v := .bool false) rfl rfl rfl rfl rfl rfl ?_
      refine WL.nil ?_
      refine N.seq ?_
      refine W.condF rfl ?_
      refine W.skip ?_
      refine N.seq ?_
      refine W.seq ?_
      refine W.region ?_
      refine WL.fieldAddr fo_34_1 rfl rfl rfl ?_
      refine WL.load1 (v := .int .i64 x16.kind) one_3 rfl rfl rfl (hS.cell 0 rfl rfl) ?_
      refine WL.bin rfl rfl rfl rfl rfl ?_
      refine WL.nil ?_
      refine N.seq ?_
      refine W.cond rfl (fun hc30 => ?_) (fun hc30 => ?_)
      ·
       have hc30p : ¬ (x16.kind = 2) := by simpa using hc30
       refine W.region ?_
       refine WL.move rfl rfl rfl ?_
       refine WL.add (c := (c : Int) + 1) rfl rfl rfl rfl (rfl) (by omega) ?_
       refine WL.assign rfl rfl rfl ?_
       refine WL.nil ?_
       refine N.blk ?_
       refine N.seq ?_
       refine W.region ?_
       refine WL.move rfl rfl rfl ?_
       refine WL.add (c := (i : Int) + 1) rfl rfl rfl rfl (rfl) (by omega) ?_
       refine WL.assign rfl rfl rfl ?_
       refine WL.nil ?_
       have hS := hS.dropN 1
       have hcn2 := namesR_next hx16; rw [if_neg hc30p, ← hc] at hcn2
       exact N.loop (i + 1, c + 1) ⟨rfl, rfl, rfl, rfl, rfl, rfl, rfl, rfl, rfl, rfl, rfl, rfl, rfl, rfl, rfl, rfl, rfl, rfl, rfl, rfl, rfl, rfl, rfl, trivial⟩ ⟨hS, by omega, by omega⟩ (by first | omega | (simp only; omega))
      have hc30p : x16.kind = 2 := by simpa using hc30
      refine W.skip ?_
      refine N.blk ?_
      refine N.seq ?_
      refine W.region ?_
      refine WL.move rfl rfl rfl ?_
      refine WL.add (c := (i : Int) + 1) rfl rfl rfl rfl (rfl) (by omega) ?_
      refine WL.assign rfl rfl rfl ?_
      refine WL.nil ?_
      have hS := hS.dropN 1
      have hcn2 := namesR_next hx16; rw [if_pos hc30p, ← hc] at hcn2
      exact N.loop (i + 1, c) ⟨rfl, rfl, rfl, rfl, rfl, rfl, rfl, rfl, rfl, rfl, rfl, rfl, rfl, rfl, rfl, rfl, rfl, rfl, rfl, rfl, rfl, rfl, rfl, trivial⟩ ⟨hS, by omega, by omega⟩ (by first | omega | (simp only; omega))
     refine WL.set 108 (v' := .bool true) rfl (by rw [hg25]) ?_
     refine WL.set 109 (v' := .bool true) rfl (by rw [hg25]) ?_
     have hg25p : x16.kind = 2 := by simpa using hg25
     refine WL.move rfl rfl rfl ?_
     refine WL.bin rfl rfl rfl rfl rfl ?_
     refine WL.set 111 (v' := .bool false) rfl (congrArg Value.bool (show (!decide (oR.kind = 27)) = false from by rw [decide_eq_true (show oR.kind = 27 from by omega)]; rfl)) ?_
     refine WL.pick (v := .bool false) rfl rfl rfl rfl rfl rfl ?_
     refine WL.pick (v := .bool false) rfl rfl rfl rfl rfl rfl ?_
     refine WL.move rfl rfl rfl ?_
     refine WL.fieldAddr fo_34_1 rfl rfl rfl ?_
     refine WL.load1 (v := .int .i64 x16.kind) one_3 rfl rfl rfl (hS.cell 0 rfl rfl) ?_
     refine WL.bin rfl rfl rfl rfl rfl ?_
     refine WL.move rfl rfl rfl ?_
     rcases (Bool.eq_false_or_eq_true (decide (x16.kind = 3))).symm with hg31 | hg31
     ·
      refine WL.set 117 (v' := .bool false) rfl (by rw [hg31]) ?_
      refine WL.set 118 (v' := .bool false) rfl (by rw [hg31]) ?_
      have hg31p : ¬ (x16.kind = 3) := by simpa using hg31
      refine WL.skp rfl rfl ?_
      refine WL.skp rfl rfl ?_
      refine WL.pick (v := .bool false) rfl rfl rfl rfl rfl rfl ?_
      refine WL.move rfl rfl rfl ?_
      refine WL.skp rfl rfl ?_
      refine WL.skp rfl rfl ?_
      refine WL.pick (v := .bool false) rfl rfl rfl rfl rfl rfl ?_
      refine WL.pick (v := .bool false) rfl rfl rfl rfl rfl rfl ?_
      refine WL.move rfl rfl rfl ?_
      refine WL.fieldAddr fo_34_1 rfl rfl rfl ?_
      refine WL.load1 (v := .int .i64 x16.kind) one_3 rfl rfl rfl (hS.cell 0 rfl rfl) ?_
      refine WL.bin rfl rfl rfl rfl rfl ?_
      refine WL.set 130 (v' := .bool false) rfl (congrArg Value.bool (show (decide (x16.kind < 1)) = false from decide_eq_false (show ¬ (x16.kind < 1) from by omega))) ?_
      refine WL.pick (v := .bool false) rfl rfl rfl rfl rfl rfl ?_
      refine WL.move rfl rfl rfl ?_
      refine WL.fieldAddr fo_34_1 rfl rfl rfl ?_
      refine WL.load1 (v := .int .i64 x16.kind) one_3 rfl rfl rfl (hS.cell 0 rfl rfl) ?_
      refine WL.bin rfl rfl rfl rfl rfl ?_
      refine WL.set 135 (v' := .bool false) rfl (congrArg Value.bool (show (decide (3 < x16.kind)) = false from decide_eq_false (show ¬ (3 < x16.kind) from by omega))) ?_
      refine WL.pick (v := .bool false) rfl rfl rfl rfl rfl rfl ?_
      refine WL.nil ?_
      refine N.seq ?_
      refine W.condF rfl ?_
      refine W.skip ?_
      refine N.seq ?_
      refine W.seq ?_
      refine W.region ?_
      refine WL.fieldAddr fo_34_1 rfl rfl rfl ?_
      refine WL.load1 (v := .int .i64 x16.kind) one_3 rfl rfl rfl (hS.cell 0 rfl rfl) ?_
      refine WL.bin rfl rfl rfl rfl rfl ?_
      refine WL.nil ?_
      refine N.seq ?_
      refine W.cond rfl (fun hc32 => ?_) (fun hc32 => ?_)
      ·
       have hc32p : ¬ (x16.kind = 2) := by simpa using hc32
       refine W.region ?_
       refine WL.move rfl rfl rfl ?_
       refine WL.add (c := (c : Int) + 1) rfl rfl rfl rfl (rfl) (by omega) ?_
       refine WL.assign rfl rfl rfl ?_
       refine WL.nil ?_
       refine N.blk ?_
       refine N.seq ?_
       refine W.region ?_
       refine WL.move rfl rfl rfl ?_
       refine WL.add (c := (i : Int) + 1) rfl rfl rfl rfl (rfl) (by omega) ?_
       refine WL.assign rfl rfl rfl ?_
       refine WL.nil ?_
       have hS := hS.dropN 1
       have hcn2 := namesR_next hx16; rw [if_neg hc32p, ← hc] at hcn2
       exact N.loop (i + 1, c + 1) ⟨rfl, rfl, rfl, rfl, rfl, rfl, rfl, rfl, rfl, rfl, rfl, rfl, rfl, rfl, rfl, rfl, rfl, rfl, rfl, rfl, rfl, rfl, rfl, trivial⟩ ⟨hS, by omega, by omega⟩ (by first | omega | (simp only; omega))
      have hc32p : x16.kind = 2 := by simpa using hc32
      refine W.skip ?_
      refine N.blk ?_
      refine N.seq ?_
      refine W.region ?_
      refine WL.move rfl rfl rfl ?_
      refine WL.add (c := (i : Int) + 1) rfl rfl rfl rfl (rfl) (by omega) ?_
      refine WL.assign rfl rfl rfl ?_
      refine WL.nil ?_
      have hS := hS.dropN 1
      have hcn2 := namesR_next hx16; rw [if_pos hc32p, ← hc] at hcn2
      exact N.loop (i + 1, c) ⟨rfl, rfl, rfl, rfl, rfl, rfl, rfl, rfl, rfl, rfl, rfl, rfl, rfl, rfl, rfl, rfl, rfl, rfl, rfl, rfl, rfl, rfl, rfl, trivial⟩ ⟨hS, by omega, by omega⟩ (by first | omega | (simp only; omega))
     refine WL.set 117 (v' := .bool true) rfl (by rw [hg31]) ?_
     refine WL.set 118 (v' := .bool true) rfl (by rw [hg31]) ?_
     have hg31p : x16.kind = 3 := by simpa using hg31
     refine WL.move rfl rfl rfl ?_
     refine WL.bin rfl rfl rfl rfl rfl ?_
     refine WL.pick (v := .bool (!decide (oR.kind = 19))) rfl rfl rfl rfl rfl rfl ?_
     refine WL.move rfl rfl rfl ?_
     rcases (Bool.eq_false_or_eq_true (!decide (oR.kind = 19))).symm with hg33 | hg33
     ·
      refine WL.set 120 (v' := .bool false) rfl (by rw [hg33]) ?_
      refine WL.set 121 (v' := .bool false) rfl (by rw [hg33]) ?_
      refine WL.set 122 (v' := .bool false) rfl (by rw [hg33]) ?_
      have hg33p : oR.kind = 19 := by simpa using hg33
      refine WL.skp rfl rfl ?_
      refine WL.skp rfl rfl ?_
      refine WL.pick (v := .bool false) rfl rfl rfl rfl rfl rfl ?_
      refine WL.pick (v := .bool false) rfl rfl rfl rfl rfl rfl ?_
      refine WL.move rfl rfl rfl ?_
      refine WL.fieldAddr fo_34_1 rfl rfl rfl ?_
      refine WL.load1 (v := .int .i64 x16.kind) one_3 rfl rfl rfl (hS.cell 0 rfl rfl) ?_
      refine WL.bin rfl rfl rfl rfl rfl ?_
      refine WL.set 130 (v' := .bool false) rfl (congrArg Value.bool (show (decide (x16.kind < 1)) = false from decide_eq_false (show ¬ (x16.kind < 1) from by omega))) ?_
      refine WL.pick (v := .bool false) rfl rfl rfl rfl rfl rfl ?_
      refine WL.move rfl rfl rfl ?_
      refine WL.fieldAddr fo_34_1 rfl rfl rfl ?_
      refine WL.load1 (v := .int .i64 x16.kind) one_3 rfl rfl rfl (hS.cell 0 rfl rfl) ?_
      refine WL.bin rfl rfl rfl rfl rfl ?_
      refine WL.set 135 (v' := .bool false) rfl (congrArg Value.bool (show (decide (3 < x16.kind)) = false from decide_eq_false (show ¬ (3 < x16.kind) from by omega))) ?_
      refine WL.pick (v := .bool false) rfl rfl rfl rfl rfl rfl ?_
      refine WL.nil ?_
      refine N.seq ?_
      refine W.condF rfl ?_
      refine W.skip ?_
      refine N.seq ?_
      refine W.seq ?_
      refine W.region ?_
      refine WL.fieldAddr fo_34_1 rfl rfl rfl ?_
      refine WL.load1 (v := .int .i64 x16.kind) one_3 rfl rfl rfl (hS.cell 0 rfl rfl) ?_
      refine WL.bin rfl rfl rfl rfl rfl ?_
      refine WL.nil ?_
      refine N.seq ?_
      refine W.cond rfl (fun hc34 => ?_) (fun hc34 => ?_)
      ·
       have hc34p : ¬ (x16.kind = 2) := by simpa using hc34
       refine W.region ?_
       refine WL.move rfl rfl rfl ?_
       refine WL.add (c := (c : Int) + 1) rfl rfl rfl rfl (rfl) (by omega) ?_
       refine WL.assign rfl rfl rfl ?_
       refine WL.nil ?_
       refine N.blk ?_
       refine N.seq ?_
       refine W.region ?_
       refine WL.move rfl rfl rfl ?_
       refine WL.add (c := (i : Int) + 1) rfl rfl rfl rfl (rfl) (by omega) ?_
       refine WL.assign rfl rfl rfl ?_
       refine WL.nil ?_
       have hS := hS.dropN 1
       have hcn2 := namesR_next hx16; rw [if_neg hc34p, ← hc] at hcn2
       exact N.loop (i + 1, c + 1) ⟨rfl, rfl, rfl, rfl, rfl, rfl, rfl, rfl, rfl, rfl, rfl, rfl, rfl, rfl, rfl, rfl, rfl, rfl, rfl, rfl, rfl, rfl, rfl, trivial⟩ ⟨hS, by omega, by omega⟩ (by first | omega | (simp only; omega))
      have hc34p : x16.kind = 2 := by simpa using hc34
      refine W.skip ?_
      refine N.blk ?_
      refine N.seq ?_
      refine W.region ?_
      refine WL.move rfl rfl rfl ?_
      refine WL.add (c := (i : Int) + 1) rfl rfl rfl rfl (rfl) (by omega) ?_
      refine WL.assign rfl rfl rfl ?_
      refine WL.nil ?_
      have hS := hS.dropN 1
      have hcn2 := namesR_next hx16; rw [if_pos hc34p, ← hc] at hcn2
      exact N.loop (i + 1, c) ⟨rfl, rfl, rfl, rfl, rfl, rfl, rfl, rfl, rfl, rfl, rfl, rfl, rfl, rfl, rfl, rfl, rfl, rfl, rfl, rfl, rfl, rfl, rfl, trivial⟩ ⟨hS, by omega, by omega⟩ (by first | omega | (simp only; omega))
     refine WL.set 120 (v' := .bool true) rfl (by rw [hg33]) ?_
     refine WL.set 121 (v' := .bool true) rfl (by rw [hg33]) ?_
     refine WL.set 122 (v' := .bool true) rfl (by rw [hg33]) ?_
     have hg33p : ¬ (oR.kind = 19) := by simpa using hg33
     refine WL.move rfl rfl rfl ?_
     refine WL.bin rfl rfl rfl rfl rfl ?_
     refine WL.set 124 (v' := .bool false) rfl (congrArg Value.bool (show (!decide (oR.kind = 21)) = false from by rw [decide_eq_true (show oR.kind = 21 from by omega)]; rfl)) ?_
     refine WL.pick (v := .bool false) rfl rfl rfl rfl rfl rfl ?_
     refine WL.pick (v := .bool false) rfl rfl rfl rfl rfl rfl ?_
     refine WL.move rfl rfl rfl ?_
     refine WL.fieldAddr fo_34_1 rfl rfl rfl ?_
     refine WL.load1 (v := .int .i64 x16.kind) one_3 rfl rfl rfl (hS.cell 0 rfl rfl) ?_
     refine WL.bin rfl rfl rfl rfl rfl ?_
     refine WL.set 130 (v' := .bool false) rfl (congrArg Value.bool (show (decide (x16.kind < 1)) = false from decide_eq_false (show ¬ (x16.kind < 1) from by omega))) ?_
     refine WL.pick (v := .bool false) rfl rfl rfl rfl rfl rfl ?_
     refine WL.move rfl rfl rfl ?_
     refine WL.fieldAddr fo_34_1 rfl rfl rfl ?_
     refine WL.load1 (v := .int .i64 x16.kind) one_3 rfl rfl rfl (hS.cell 0 rfl rfl) ?_
     refine WL.bin rfl rfl rfl rfl rfl ?_
     refine WL.set 135 (v' := .bool false) rfl (congrArg Value.bool (show (decide (3 < x16.kind)) = false from decide_eq_false (show ¬ (3 < x16.kind) from by omega))) ?_
     refine WL.pick (v := .bool false) rfl rfl rfl rfl rfl rfl ?_
     refine WL.nil ?_
     refine N.seq ?_
     refine W.condF rfl ?_
     refine W.skip ?_
     refine N.seq ?_
     refine W.seq ?_
     refine W.region ?_
     refine WL.fieldAddr fo_34_1 rfl rfl rfl ?_
     refine WL.load1 (v := .int .i64 x16.kind) one_3 rfl rfl rfl (hS.cell 0 rfl rfl) ?_
     refine WL.bin rfl rfl rfl rfl rfl ?_
     refine WL.nil ?_
     refine N.seq ?_
     refine W.cond rfl (fun hc35 => ?_) (fun hc35 => ?_)
     ·
      have hc35p : ¬ (x16.kind = 2) := by simpa using hc35
      refine W.region ?_
      refine WL.move rfl rfl rfl ?_
      refine WL.add (c := (c : Int) + 1) rfl rfl rfl rfl (rfl) (by omega) ?_
      refine WL.assign rfl rfl rfl ?_
      refine WL.nil ?_
      refine N.blk ?_
      refine N.seq ?_
      refine W.region ?_
      refine WL.move rfl rfl rfl ?_
      refine WL.add (c := (i : Int) + 1) rfl rfl rfl rfl (rfl) (by omega) ?_
      refine WL.assign rfl rfl rfl ?_
      refine WL.nil ?_
      have hS := hS.dropN 1
      have hcn2 := namesR_next hx16; rw [if_neg hc35p, ← hc] at hcn2
      exact N.loop (i + 1, c + 1) ⟨rfl, rfl, rfl, rfl, rfl, rfl, rfl, rfl, rfl, rfl, rfl, rfl, rfl, rfl, rfl, rfl, rfl, rfl, rfl, rfl, rfl, rfl, rfl, trivial⟩ ⟨hS, by omega, by omega⟩ (by first | omega | (simp only; omega))
     have hc35p : x16.kind = 2 := by simpa using hc35
     refine W.skip ?_
     refine N.blk ?_
     refine N.seq ?_
     refine W.region ?_
     refine WL.move rfl rfl rfl ?_
     refine WL.add (c := (i : Int) + 1) rfl rfl rfl rfl (rfl) (by omega) ?_
     refine WL.assign rfl rfl rfl ?_
     refine WL.nil ?_
     have hS := hS.dropN 1
     have hcn2 := namesR_next hx16; rw [if_pos hc35p, ← hc] at hcn2
     exact N.loop (i + 1, c) ⟨rfl, rfl, rfl, rfl, rfl, rfl, rfl, rfl, rfl, rfl, rfl, rfl, rfl, rfl, rfl, rfl, rfl, rfl, rfl, rfl, rfl, rfl, rfl, trivial⟩ ⟨hS, by omega, by omega⟩ (by first | omega | (simp only; omega))
    refine WL.set 100 (v' := .bool true) rfl (by rw [hg24]) ?_
    refine WL.set 101 (v' := .bool true) rfl (by rw [hg24]) ?_
    have hg24p : x16.kind = 1 := by simpa using hg24
    refine WL.move rfl rfl rfl ?_
    refine WL.bin rfl rfl rfl rfl rfl ?_
    refine WL.set 103 (v' := .bool false) rfl (congrArg Value.bool (show (!decide (oR.kind = 29)) = false from by rw [decide_eq_true (show oR.kind = 29 from by omega)]; rfl)) ?_
    refine WL.pick (v := .bool false) rfl rfl rfl rfl rfl rfl ?_
    refine WL.move rfl rfl rfl ?_
    refine WL.fieldAddr fo_34_1 rfl rfl rfl ?_
    refine WL.load1 (v := .int .i64 x16.kind) one_3 rfl rfl rfl (hS.cell 0 rfl rfl) ?_
    refine WL.bin rfl rfl rfl rfl rfl ?_
    refine WL.move rfl rfl rfl ?_
    rcases (Bool.eq_false_or_eq_true (decide (x16.kind = 2))).symm with hg36 | hg36
    ·
     refine WL.set 108 (v' := .bool false) rfl (by rw [hg36]) ?_
     refine WL.set 109 (v' := .bool false) rfl (by rw [hg36]) ?_
     have hg36p : ¬ (x16.kind = 2) := by simpa using hg36
     refine WL.skp rfl rfl ?_
     refine WL.skp rfl rfl ?_
     refine WL.pick (v := .bool false) rfl rfl rfl rfl rfl rfl ?_
     refine WL.pick (v := .bool false) rfl rfl rfl rfl rfl rfl ?_
     refine WL.move rfl rfl rfl ?_
     refine WL.fieldAddr fo_34_1 rfl rfl rfl ?_
     refine WL.load1 (v := .int .i64 x16.kind) one_3 rfl rfl rfl (hS.cell 0 rfl rfl) ?_
     refine WL.bin rfl rfl rfl rfl rfl ?_
     refine WL.move rfl rfl rfl ?_
     rcases (Bool.eq_false_or_eq_true (decide (x16.kind = 3))).symm with hg37 | hg37
     ·
      refine WL.set 117 (v' := .bool false) rfl (by rw [hg37]) ?_
      refine WL.set 118 (v' := .bool false) rfl (by rw [hg37]) ?_
      have hg37p : ¬ (x16.kind = 3) := by simpa using hg37
      refine WL.skp rfl rfl ?_
      refine WL.skp rfl rfl ?_
      refine WL.pick (v := .bool false) rfl rfl rfl rfl rfl rfl ?_
      refine WL.move rfl rfl rfl ?_
      refine WL.skp rfl rfl ?_
      refine WL.skp rfl rfl ?_
      refine WL.pick (v := .bool false) rfl rfl rfl rfl rfl rfl ?_
      refine WL.pick (v := .bool false) rfl rfl rfl rfl rfl rfl ?_
      refine WL.move rfl rfl rfl ?_
      refine WL.fieldAddr fo_34_1 rfl rfl rfl ?_
      refine WL.load1 (v := .int .i64 x16.kind) one_3 rfl rfl rfl (hS.cell 0 rfl rfl) ?_
      refine WL.bin rfl rfl rfl rfl rfl ?_
      refine WL.set 130 (v' := .bool false) rfl (congrArg Value.bool (show (decide (x16.kind < 1)) = false from decide_eq_false (show ¬ (x16.kind < 1) from by omega))) ?_
      refine WL.pick (v := .bool false) rfl rfl rfl rfl rfl rfl ?_
      refine WL.move rfl rfl rfl ?_
      refine WL.fieldAddr fo_34_1 rfl rfl rfl ?_
      refine WL.load1 (v := .int .i64 x16.kind) one_3 rfl rfl rfl (hS.cell 0 rfl rfl) ?_
      refine WL.bin rfl rfl rfl rfl rfl ?_
      refine WL.set 135 (v' := .bool false) rfl (congrArg Value.bool (show (decide (3 < x16.kind)) = false from decide_eq_false (show ¬ (3 < x16.kind) from by omega))) ?_
      refine WL.pick (v := .bool false) rfl rfl rfl rfl rfl rfl ?_
      refine WL.nil ?_
      refine N.seq ?_
      refine W.condF rfl ?_
      refine W.skip ?_
      refine N.seq ?_
      refine W.seq ?_
      refine W.region ?_
      refine WL.fieldAddr fo_34_1 rfl rfl rfl ?_
      refine WL.load1 (v := .int .i64 x16.kind) one_3 rfl rfl rfl (hS.cell 0 rfl rfl) ?_
      refine WL.bin rfl rfl rfl rfl rfl ?_
      refine WL.nil ?_
      refine N.seq ?_
      refine W.cond rfl (fun hc38 => ?_) (fun hc38 => ?_)
      ·
       have hc38p : ¬ (x16.kind = 2) := by simpa using hc38
       refine W.region ?_
       refine WL.move rfl rfl rfl ?_
       refine WL.add (c := (c : Int) + 1) rfl rfl rfl rfl (rfl) (by omega) ?_
       refine WL.assign rfl rfl rfl ?_
       refine WL.nil ?_
       refine N.blk ?_
       refine N.seq ?_
       refine W.region ?_
       refine WL.move rfl rfl rfl ?_
       refine WL.add (c := (i : Int) + 1) rfl rfl rfl rfl (rfl) (by omega) ?_
       refine WL.assign rfl rfl rfl ?_
       refine WL.nil ?_
       have hS := hS.dropN 1
       have hcn2 := namesR_next hx16; rw [if_neg hc38p, ← hc] at hcn2
       exact N.loop (i + 1, c + 1) ⟨rfl, rfl, rfl, rfl, rfl, rfl, rfl, rfl, rfl, rfl, rfl, rfl, rfl, rfl, rfl, rfl, rfl, rfl, rfl, rfl, rfl, rfl, rfl, trivial⟩ ⟨hS, by omega, by omega⟩ (by first | omega | (simp only; omega))
      have hc38p : x16.kind = 2 := by simpa using hc38
      refine W.skip ?_
      refine N.blk ?_
      refine N.seq ?_
      refine W.region ?_
      refine WL.move rfl rfl rfl ?_
      refine WL.add (c := (i : Int) + 1) rfl rfl rfl rfl (rfl) (by omega) ?_
      refine WL.assign rfl rfl rfl ?_
      refine WL.nil ?_
      have hS := hS.dropN 1
      have hcn2 := namesR_next hx16; rw [if_pos hc38p, ← hc] at hcn2
      exact N.loop (i + 1, c) ⟨rfl, rfl, rfl, rfl, rfl, rfl, rfl, rfl, rfl, rfl, rfl, rfl, rfl, rfl, rfl, rfl, rfl, rfl, rfl, rfl, rfl, rfl, rfl, trivial⟩ ⟨hS, by omega, by omega⟩ (by first | omega | (simp only; omega))
     refine WL.set 117 (v' := .bool true) rfl (by rw [hg37]) ?_
     refine WL.set 118 (v' := .bool true) rfl (by rw [hg37]) ?_
     have hg37p : x16.kind = 3 := by simpa using hg37
     refine WL.move rfl rfl rfl ?_
     refine WL.bin rfl rfl rfl rfl rfl ?_
     refine WL.pick (v := .bool (!decide (oR.kind = 19))) rfl rfl rfl rfl rfl rfl ?_
     refine WL.move rfl rfl rfl ?_
     rcases (Bool.eq_false_or_eq_true (!decide (oR.kind = 19))).symm with hg39 | hg39
     ·
      refine WL.set 120 (v' := .bool false) rfl (by rw [hg39]) ?_
      refine WL.set 121 (v' := .bool false) rfl (by rw [hg39]) ?_
      refine WL.set 122 (v' := .bool false) rfl (by rw [hg39]) ?_
      have hg39p : oR.kind = 19 := by simpa using hg39
      refine WL.skp rfl rfl ?_
      refine WL.skp rfl rfl ?_
      refine WL.pick (v := .bool false) rfl rfl rfl rfl rfl rfl ?_
      refine WL.pick (v := .bool false) rfl rfl rfl rfl rfl rfl ?_
      refine WL.move rfl rfl rfl ?_
      refine WL.fieldAddr fo_34_1 rfl rfl rfl ?_
      refine WL.load1 (v := .int .i64 x16.kind) one_3 rfl rfl rfl (hS.cell 0 rfl rfl) ?_
      refine WL.bin rfl rfl rfl rfl rfl ?_
      refine WL.set 130 (v' := .bool false) rfl (congrArg Value.bool (show (decide (x16.kind < 1)) = false from decide_eq_false (show ¬ (x16.kind < 1) from by omega))) ?_
      refine WL.pick (v := .bool false) rfl rfl rfl rfl rfl rfl ?_
      refine WL.move rfl rfl rfl ?_
      refine WL.fieldAddr fo_34_1 rfl rfl rfl ?_
      refine WL.load1 (v := .int .i64 x16.kind) one_3 rfl rfl rfl (hS.cell 0 rfl rfl) ?_
      refine WL.bin rfl rfl rfl rfl rfl ?_
      refine WL.set 135 (v' := .bool false) rfl (congrArg Value.bool (show (decide (3 < x16.kind)) = false from decide_eq_false (show ¬ (3 < x16.kind) from by omega))) ?_
      refine WL.pick (v := .bool false) rfl rfl rfl rfl rfl rfl ?_
      refine WL.nil ?_
      refine N.seq ?_
      refine W.condF rfl ?_
      refine W.skip ?_
      refine N.seq ?_
      refine W.seq ?_
      refine W.region ?_
      refine WL.fieldAddr fo_34_1 rfl rfl rfl ?_
      refine WL.load1 (v := .int .i64 x16.kind) one_3 rfl rfl rfl (hS.cell 0 rfl rfl) ?_
      refine WL.bin rfl rfl rfl rfl rfl ?_
      refine WL.nil ?_
      refine N.seq ?_
      refine W.cond rfl (fun hc40 => ?_) (fun hc40 => ?_)
      ·
       have hc40p : ¬ (x16.kind = 2) := by simpa using hc40
       refine W.region ?_
       refine WL.move rfl rfl rfl ?_
       refine WL.add (c := (c : Int) + 1) rfl rfl rfl rfl (rfl) (by omega) ?_
       refine WL.assign rfl rfl rfl ?_
       refine WL.nil ?_
       refine N.blk ?_
       refine N.seq ?_
       refine W.region ?_
       refine WL.move rfl rfl rfl ?_
       refine WL.add (c := (i : Int) + 1) rfl rfl rfl rfl (rfl) (by omega) ?_
       refine WL.assign rfl rfl rfl ?_
       refine WL.nil ?_
       have hS := hS.dropN 1
       have hcn2 := namesR_next hx16; rw [if_neg hc40p, ← hc] at hcn2
       exact N.loop (i + 1, c + 1) ⟨rfl, rfl, rfl, rfl, rfl, rfl, rfl, rfl, rfl, rfl, rfl, rfl, rfl, rfl, rfl, rfl, rfl, rfl, rfl, rfl, rfl, rfl, rfl, trivial⟩ ⟨hS, by omega, by omega⟩ (by first | omega | (simp only; omega))
      have hc40p : x16.kind = 2 := by simpa using hc40
      refine W.skip ?_
      refine N.blk ?_
      refine N.seq ?_
      refine W.region ?_
      refine WL.move rfl rfl rfl ?_
      refine WL.add (c := (i : Int) + 1) rfl rfl rfl rfl (rfl) (by omega) ?_
      refine WL.assign rfl rfl rfl ?_
      refine WL.nil ?_
      have hS := hS.dropN 1
      have hcn2 := namesR_next hx16; rw [if_pos hc40p, ← hc] at hcn2
      exact N.loop (i + 1, c) ⟨rfl, rfl, rfl, rfl, rfl, rfl, rfl, rfl, rfl, rfl, rfl, rfl, rfl, rfl, rfl, rfl, rfl, rfl, rfl, rfl, rfl, rfl, rfl, trivial⟩ ⟨hS, by omega, by omega⟩ (by first | omega | (simp only; omega))
     refine WL.set 120 (v' := .bool true) rfl (by rw [hg39]) ?_
     refine WL.set 121 (v' := .bool true) rfl (by rw [hg39]) ?_
     refine WL.set 122 (v' := .bool true) rfl (by rw [hg39]) ?_
     have hg39p : ¬ (oR.kind = 19) := by simpa using hg39
     refine WL.move rfl rfl rfl ?_
     refine WL.bin rfl rfl rfl rfl rfl ?_
     refine WL.set 124 (v' := .bool false) rfl (congrArg Value.bool (show (!decide (oR.kind = 21)) = false from by rw [decide_eq_true (show oR.kind = 21 from by omega)]; rfl)) ?_
     refine WL.pick (v := .bool false) rfl rfl rfl rfl rfl rfl ?_
     refine WL.pick (v := .bool false) rfl rfl rfl rfl rfl rfl ?_
     refine WL.move rfl rfl rfl ?_
     refine WL.fieldAddr fo_34_1 rfl rfl rfl ?_
     refine WL.load1 (v := .int .i64 x16.kind) one_3 rfl rfl rfl (hS.cell 0 rfl rfl) ?_
     refine WL.bin rfl rfl rfl rfl rfl ?_
     refine WL.set 130 (v' := .bool false) rfl (congrArg Value.bool (show (decide (x16.kind < 1)) = false from decide_eq_false (show ¬ (x16.kind < 1) from by omega))) ?_
     refine WL.pick (v := .bool false) rfl rfl rfl rfl rfl rfl ?_
     refine WL.move rfl rfl rfl ?_
     refine WL.fieldAddr fo_34_1 rfl rfl rfl ?_
     refine WL.load1 (v := .int .i64 x16.kind) one_3 rfl rfl rfl (hS.cell 0 rfl rfl) ?_
     refine WL.bin rfl rfl rfl rfl rfl ?_
     refine WL.set 135 (v' := .bool false) rfl (congrArg Value.bool (show (decide (3 < x16.kind)) = false from decide_eq_false (show ¬ (3 < x16.kind) from by omega))) ?_
     refine WL.pick (v := .bool false) rfl rfl rfl rfl rfl rfl ?_
     refine WL.nil ?_
     refine N.seq ?_
     refine W.condF rfl ?_
     refine W.skip ?_
     refine N.seq ?_
     refine W.seq ?_
     refine W.region ?_
     refine WL.fieldAddr fo_34_1 rfl rfl rfl ?_
     refine WL.load1 (v := .int .i64 x16.kind) one_3 rfl rfl rfl (hS.cell 0 rfl rfl) ?_
     refine WL.bin rfl rfl rfl rfl rfl ?_
     refine WL.nil ?_
     refine N.seq ?_
     refine W.cond rfl (fun hc41 => ?_) (fun hc41 => ?_)
     ·
      have hc41p : ¬ (x16.kind = 2) := by simpa using hc41
      refine W.region ?_
      refine WL.move rfl rfl rfl ?_
      refine WL.add (c := (c : Int) + 1) rfl rfl rfl rfl (rfl) (by omega) ?_
      refine WL.assign rfl rfl rfl ?_
      refine WL.nil ?_
      refine N.blk ?_
      refine N.seq ?_
      refine W.region ?_
      refine WL.move rfl rfl rfl ?_
      refine WL.add (c := (i : Int) + 1) rfl rfl rfl rfl (rfl) (by omega) ?_
      refine WL.assign rfl rfl rfl ?_
      refine WL.nil ?_
      have hS := hS.dropN 1
      have hcn2 := namesR_next hx16; rw [if_neg hc41p, ← hc] at hcn2
      exact N.loop (i + 1, c + 1) ⟨rfl, rfl, rfl, rfl, rfl, rfl, rfl, rfl, rfl, rfl, rfl, rfl, rfl, rfl, rfl, rfl, rfl, rfl, rfl, rfl, rfl, rfl, rfl, trivial⟩ ⟨hS, by omega, by omega⟩ (by first | omega | (simp only; omega))
     have hc41p : x16.kind = 2 := by simpa using hc41
     refine W.skip ?_
     refine N.blk ?_
     refine N.seq ?_
     refine W.region ?_
     refine WL.move rfl rfl rfl ?_
     refine WL.add (c := (i : Int) + 1) rfl rfl rfl rfl (rfl) (by omega) ?_
     refine WL.assign rfl rfl rfl ?_
     refine WL.nil ?_
     have hS := hS.dropN 1
     have hcn2 := namesR_next hx16; rw [if_pos hc41p, ← hc] at hcn2
     exact N.loop (i + 1, c) ⟨rfl, rfl, rfl, rfl, rfl, rfl, rfl, rfl, rfl, rfl, rfl, rfl, rfl, rfl, rfl, rfl, rfl, rfl, rfl, rfl, rfl, rfl, rfl, trivial⟩ ⟨hS, by omega, by omega⟩ (by first | omega | (simp only; omega))
    refine WL.set 108 (v' := .bool true) rfl (by rw [hg36]) ?_
    refine WL.set 109 (v' := .bool true) rfl (by rw [hg36]) ?_
    have hg36p : x16.kind = 2 := by simpa using hg36
    refine WL.move rfl rfl rfl ?_
    refine WL.bin rfl rfl rfl rfl rfl ?_
    refine WL.set 111 (v' := .bool false) rfl (congrArg Value.bool (show (!decide (oR.kind = 27)) = false from by rw [decide_eq_true (show oR.kind = 27 from by omega)]; rfl)) ?_
    refine WL.pick (v := .bool false) rfl rfl rfl rfl rfl rfl ?_
    refine WL.pick (v := .bool false) rfl rfl rfl rfl rfl rfl ?_
    refine WL.move rfl rfl rfl ?_
    refine WL.fieldAddr fo_34_1 rfl rfl rfl ?_
    refine WL.load1 (v := .int .i64 x16.kind) one_3 rfl rfl rfl (hS.cell 0 rfl rfl) ?_
    refine WL.bin rfl rfl rfl rfl rfl ?_
    refine WL.move rfl rfl rfl ?_
    rcases (Bool.eq_false_or_eq_true (decide (x16.kind = 3))).symm with hg42 | hg42
    ·
     refine WL.set 117 (v' := .bool false) rfl (by rw [hg42]) ?_
     refine WL.set 118 (v' := .bool false) rfl (by rw [hg42]) ?_
     have hg42p : ¬ (x16.kind = 3) := by simpa using hg42
     refine WL.skp rfl rfl ?_
     refine WL.skp rfl rfl ?_
     refine WL.pick (v := .bool false) rfl rfl rfl rfl rfl rfl ?_
     refine WL.move rfl rfl rfl ?_
     refine WL.skp rfl rfl ?_
     refine WL.skp rfl rfl ?_
     refine WL.pick (v := .bool false) rfl rfl rfl rfl rfl rfl ?_
     refine WL.pick (v := .bool false) rfl rfl rfl rfl rfl rfl ?_
     refine WL.move rfl rfl rfl ?_
     refine WL.fieldAddr fo_34_1 rfl rfl rfl ?_
     refine WL.load1 (v := .int .i64 x16.kind) one_3 rfl rfl rfl (hS.cell 0 rfl rfl) ?_
     refine WL.bin rfl rfl rfl rfl rfl ?_
     refine WL.set 130 (v' := .bool false) rfl (congrArg Value.bool (show (decide (x16.kind < 1)) = false from decide_eq_false (show ¬ (x16.kind < 1) from by omega))) ?_
     refine WL.pick (v := .bool false) rfl rfl rfl rfl rfl rfl ?_
     refine WL.move rfl rfl rfl ?_
     refine WL.fieldAddr fo_34_1 rfl rfl rfl ?_
     refine WL.load1 (v := .int .i64 x16.kind) one_3 rfl rfl rfl (hS.cell 0 rfl rfl) ?_
     refine WL.bin rfl rfl rfl rfl rfl ?_
     refine WL.set 135 (v' := .bool false) rfl (congrArg Value.bool (show (decide (3 < x16.kind)) = false from decide_eq_false (show ¬ (3 < x16.kind) from by omega))) ?_
     refine WL.pick (v := .bool false) rfl rfl rfl rfl rfl rfl ?_
     refine WL.nil ?_
     refine N.seq ?_
     refine W.condF rfl ?_
     refine W.skip ?_
     refine N.seq ?_
     refine W.seq ?_
     refine W.region ?_
     refine WL.fieldAddr fo_34_1 rfl rfl rfl ?_
     refine WL.load1 (v := .int .i64 x16.kind) one_3 rfl rfl rfl (hS.cell 0 rfl rfl) ?_
     refine WL.bin rfl rfl rfl rfl rfl ?_
     refine WL.nil ?_
     refine N.seq ?_
     refine W.cond rfl (fun hc43 => ?_) (fun hc43 => ?_)
     ·
      have hc43p : ¬ (x16.kind = 2) := by simpa using hc43
      refine W.region ?_
      refine WL.move rfl rfl rfl ?_
      refine WL.add (c := (c : Int) + 1) rfl rfl rfl rfl (rfl) (by omega) ?_
      refine WL.assign rfl rfl rfl ?_
      refine WL.nil ?_
      refine N.blk ?_
      refine N.seq ?_
      refine W.region ?_
      refine WL.move rfl rfl rfl ?_
      refine WL.add (c := (i : Int) + 1) rfl rfl rfl rfl (rfl) (by omega) ?_
      refine WL.assign rfl rfl rfl ?_
      refine WL.nil ?_
      have hS := hS.dropN 1
      have hcn2 := namesR_next hx16; rw [if_neg hc43p, ← hc] at hcn2
      exact N.loop (i + 1, c + 1) ⟨rfl, rfl, rfl, rfl, rfl, rfl, rfl, rfl, rfl, rfl, rfl, rfl, rfl, rfl, rfl, rfl, rfl, rfl, rfl, rfl, rfl, rfl, rfl, trivial⟩ ⟨hS, by omega, by omega⟩ (by first | omega | (simp only; omega))
     have hc43p : x16.kind = 2 := by simpa using hc43
     refine W.skip ?_
     refine N.blk ?_
     refine N.seq ?_
     refine W.region ?_
     refine WL.move rfl rfl rfl ?_
     refine WL.add (c := (i : Int) + 1) rfl rfl rfl rfl (rfl) (by omega) ?_
     refine WL.assign rfl rfl rfl ?_
     refine WL.nil ?_
     have hS := hS.dropN 1
     have hcn2 := namesR_next hx16; rw [if_pos hc43p, ← hc] at hcn2
     exact N.loop (i + 1, c) ⟨rfl, rfl, rfl, rfl, rfl, rfl, rfl, rfl, rfl, rfl, rfl, rfl, rfl, rfl, rfl, rfl, rfl, rfl, rfl, rfl, rfl, rfl, rfl, trivial⟩ ⟨hS, by omega, by omega⟩ (by first | omega | (simp only; omega))
    refine WL.set 117 (v' := .bool true) rfl (by rw [hg42]) ?_
    refine WL.set 118 (v' := .bool true) rfl (by rw [hg42]) ?_
    have hg42p : x16.kind = 3 := by simpa using hg42
    refine WL.move rfl rfl rfl ?_
    refine WL.bin rfl rfl rfl rfl rfl ?_
    refine WL.pick (v := .bool (!decide (oR.kind = 19))) rfl rfl rfl rfl rfl rfl ?_
    refine WL.move rfl rfl rfl ?_
    rcases (Bool.eq_false_or_eq_true (!decide (oR.kind = 19))).symm with hg44 | hg44
    ·
     refine WL.set 120 (v' := .bool false) rfl (by rw [hg44]) ?_
     refine WL.set 121 (v' := .bool false) rfl (by rw [hg44]) ?_
     refine WL.set 122 (v' := .bool false) rfl (by rw [hg44]) ?_
     have hg44p : oR.kind = 19 := by simpa using hg44
     refine WL.skp rfl rfl ?_
     refine WL.skp rfl rfl ?_
     refine WL.pick (v := .bool false) rfl rfl rfl rfl rfl rfl ?_
     refine WL.pick (v := .bool false) rfl rfl rfl rfl rfl rfl ?_
     refine WL.move rfl rfl rfl ?_
     refine WL.fieldAddr fo_34_1 rfl rfl rfl ?_
     refine WL.load1 (v := .int .i64 x16.kind) one_3 rfl rfl rfl (hS.cell 0 rfl rfl) ?_
     refine WL.bin rfl rfl rfl rfl rfl ?_
     refine WL.set 130 (v' := .bool false) rfl (congrArg Value.bool (show (decide (x16.kind < 1)) = false from decide_eq_false (show ¬ (x16.kind < 1) from by omega))) ?_
     refine WL.pick (v := .bool false) rfl rfl rfl rfl rfl rfl ?_
     refine WL.move rfl rfl rfl ?_
     refine WL.fieldAddr fo_34_1 rfl rfl rfl ?_
     refine WL.load1 (v := .int .i64 x16.kind) one_3 rfl rfl rfl (hS.cell 0 rfl rfl) ?_
     refine WL.bin rfl rfl rfl rfl rfl ?_
     refine WL.set 135 (v' := .bool false) rfl (congrArg Value.bool (show (decide (3 < x16.kind)) = false from decide_eq_false (show ¬ (3 < x16.kind) from by omega))) ?_
     refine WL.pick (v := .bool false) rfl rfl rfl rfl rfl rfl ?_
     refine WL.nil ?_
     refine N.seq ?_
     refine W.condF rfl ?_
     refine W.skip ?_
     refine N.seq ?_
     refine W.seq ?_
     refine W.region ?_
     refine WL.fieldAddr fo_34_1 rfl rfl rfl ?_
     refine WL.load1 (v := .int .i64 x16.kind) one_3 rfl rfl rfl (hS.cell 0 rfl rfl) ?_
     refine WL.bin rfl rfl rfl rfl rfl ?_
     refine WL.nil ?_
     refine N.seq ?_
     refine W.cond rfl (fun hc45 => ?_) (fun hc45 => ?_)
     ·
      have hc45p : ¬ (x16.kind = 2) := by simpa using hc45
      refine W.region ?_
      refine WL.move rfl rfl rfl ?_
      refine WL.add (c := (c : Int) + 1) rfl rfl rfl rfl (rfl) (by omega) ?_
      refine WL.assign rfl rfl rfl ?_
      refine WL.nil ?_
      refine N.blk ?_
      refine N.seq ?_
      refine W.region ?_
      refine WL.move rfl rfl rfl ?_
      refine WL.add (c := (i : Int) + 1) rfl rfl rfl rfl (rfl) (by omega) ?_
      refine WL.assign rfl rfl rfl ?_
      refine WL.nil ?_
      have hS := hS.dropN 1
      have hcn2 := namesR_next hx16; rw [if_neg hc45p, ← hc] at hcn2
      exact N.loop (i + 1, c + 1) ⟨rfl, rfl, rfl, rfl, rfl, rfl, rfl, rfl, rfl, rfl, rfl, rfl, rfl, rfl, rfl, rfl, rfl, rfl, rfl, rfl, rfl, rfl, rfl, trivial⟩ ⟨hS, by omega, by omega⟩ (by first | omega | (simp only; omega))
     have hc45p : x16.kind = 2 := by simpa using hc45
     refine W.skip ?_
     refine N.blk ?_
     refine N.seq ?_
     refine W.region ?_
     refine WL.move rfl rfl rfl ?_
     refine WL.add (c := (i : Int) + 1) rfl rfl rfl rfl (rfl) (by omega) ?_
     refine WL.assign rfl rfl rfl ?_
     refine WL.nil ?_
     have hS := hS.dropN 1
     have hcn2 := namesR_next hx16; rw [if_pos hc45p, ← hc] at hcn2
     exact N.loop (i + 1, c) ⟨rfl, rfl, rfl, rfl, rfl, rfl, rfl, rfl, rfl, rfl, rfl, rfl, rfl, rfl, rfl, rfl, rfl, rfl, rfl, rfl, rfl, rfl, rfl, trivial⟩ ⟨hS, by omega, by omega⟩ (by first | omega | (simp only; omega))
    refine WL.set 120 (v' := .bool true) rfl (by rw [hg44]) ?_
    refine WL.set 121 (v' := .bool true) rfl (by rw [hg44]) ?_
    refine WL.set 122 (v' := .bool true) rfl (by rw [hg44]) ?_
    have hg44p : ¬ (oR.kind = 19) := by simpa using hg44
    refine WL.move rfl rfl rfl ?_
    refine WL.bin rfl rfl rfl rfl rfl ?_
    refine WL.set 124 (v' := .bool false) rfl (congrArg Value.bool (show (!decide (oR.kind = 21)) = false from by rw [decide_eq_true (show oR.kind = 21 from by omega)]; rfl)) ?_
    refine WL.pick (v := .bool false) rfl rfl rfl rfl rfl rfl ?_
    refine WL.pick (v := .bool false) rfl rfl rfl rfl rfl rfl ?_
    refine WL.move rfl rfl rfl ?_
    refine WL.fieldAddr fo_34_1 rfl rfl rfl ?_
    refine WL.load1 (v := .int .i64 x16.kind) one_3 rfl rfl rfl (hS.cell 0 rfl rfl) ?_
    refine WL.bin rfl rfl rfl rfl rfl ?_
    refine WL.set 130 (v' := .bool false) rfl (congrArg Value.bool (show (decide (x16.kind < 1)) = false from decide_eq_false (show ¬ (x16.kind < 1) from by omega))) ?_
    refine WL.pick (v := .bool false) rfl rfl rfl rfl rfl rfl ?_
    refine WL.move rfl rfl rfl ?_
    refine WL.fieldAddr fo_34_1 rfl rfl rfl ?_
    refine WL.load1 (v := .int .i64 x16.kind) one_3 rfl rfl rfl (hS.cell 0 rfl rfl) ?_
    refine WL.bin rfl rfl rfl rfl rfl ?_
    refine WL.set 135 (v' := .bool false) rfl (congrArg Value.bool (show (decide (3 < x16.kind)) = false from decide_eq_false (show ¬ (3 < x16.kind) from by omega))) ?_
    refine WL.pick (v := .bool false) rfl rfl rfl rfl rfl rfl ?_
    refine WL.nil ?_
    refine N.seq ?_
    refine W.condF rfl ?_
    refine W.skip ?_
    refine N.seq ?_
    refine W.seq ?_
    refine W.region ?_
    refine WL.fieldAddr fo_34_1 rfl rfl rfl ?_
    refine WL.load1 (v := .int .i64 x16.kind) one_3 rfl rfl rfl (hS.cell 0 rfl rfl) ?_
    refine WL.bin rfl rfl rfl rfl rfl ?_
    refine WL.nil ?_
    refine N.seq ?_
    refine W.cond rfl (fun hc46 => ?_) (fun hc46 => ?_)
    ·
     have hc46p : ¬ (x16.kind = 2) := by simpa using hc46
     refine W.region ?_
     refine WL.move rfl rfl rfl ?_
     refine WL.add (c := (c : Int) + 1) rfl rfl rfl rfl (rfl) (by omega) ?_
     refine WL.assign rfl rfl rfl ?_
     refine WL.nil ?_
     refine N.blk ?_
     refine N.seq ?_
     refine W.region ?_
     refine WL.move rfl rfl rfl ?_
     refine WL.add (c := (i : Int) + 1) rfl rfl rfl rfl (rfl) (by omega) ?_
     refine WL.assign rfl rfl rfl ?_
     refine WL.nil ?_
     have hS := hS.dropN 1
     have hcn2 := namesR_next hx16; rw [if_neg hc46p, ← hc] at hcn2
     exact N.loop (i + 1, c + 1) ⟨rfl, rfl, rfl, rfl, rfl, rfl, rfl, rfl, rfl, rfl, rfl, rfl, rfl, rfl, rfl, rfl, rfl, rfl, rfl, rfl, rfl, rfl, rfl, trivial⟩ ⟨hS, by omega, by omega⟩ (by first | omega | (simp only; omega))
    have hc46p : x16.kind = 2 := by simpa using hc46
    refine W.skip ?_
    refine N.blk ?_
    refine N.seq ?_
    refine W.region ?_
    refine WL.move rfl rfl rfl ?_
    refine WL.add (c := (i : Int) + 1) rfl rfl rfl rfl (rfl) (by omega) ?_
    refine WL.assign rfl rfl rfl ?_
    refine WL.nil ?_
    have hS := hS.dropN 1
    have hcn2 := namesR_next hx16; rw [if_pos hc46p, ← hc] at hcn2
    exact N.loop (i + 1, c) ⟨rfl, rfl, rfl, rfl, rfl, rfl, rfl, rfl, rfl, rfl, rfl, rfl, rfl, rfl, rfl, rfl, rfl, rfl, rfl, rfl, rfl, rfl, rfl, trivial⟩ ⟨hS, by omega, by omega⟩ (by first | omega | (simp only; omega))
   have hg21p : 0 < (i : Int) := by simpa using hg21
   have hj47 : (i - 1 : Nat) < (func17 f).rels.length := by omega
   obtain ⟨x47, hx47⟩ : ∃ zz, (func17 f).rels[(i - 1 : Nat)]? = some zz := ⟨_, List.getElem?_eq_getElem hj47⟩
   obtain ⟨b47, o47, cs47, hE47, hr47, hl47, hc47, hQ47⟩ := hrrd (i - 1 : Nat) _ hx47
   obtain ⟨rfl, hrn47, hra47, hrk47⟩ := hQ47
   have hj48 : c < (refs5 f).length := by omega
   obtain ⟨x48, hx48⟩ : ∃ zz, (refs5 f)[c]? = some zz := ⟨_, List.getElem?_eq_getElem hj48⟩
   obtain ⟨b48, o48, cs48, hE48, hr48, hl48, hc48, hQ48⟩ := hvnd c _ hx48
   obtain ⟨rfl, hsz48⟩ := hQ48
   refine W.drawL (by kernel_rfl) 52 ((.q (.pointer (some ⟨b17, 0, none⟩))) :: (.q (.int .i64 x16.at_)) :: (.q (.bool false)) :: (.q (.bool false)) :: (.q (.pointer (some ⟨b17, 0, none⟩))) :: (.q (.int .i64 x16.at_)) :: (.q (.pointer (some ⟨b9, 1, none⟩))) :: (.q (.slice ado (((func17 f).ops).length) capo)) :: (.q (.int .i64 (((func17 f).ops).length : Int))) :: (.q (.bool false)) :: (.q (.bool false)) :: (.q (.bool false)) :: (.q (.int .i64 (i : Int))) :: (.q (.bool true)) :: (.q (.bool true)) :: (.q (.pointer (some ⟨b9, 2, none⟩))) :: (.q (.slice adr (((func17 f).rels).length) capr)) :: (.q (.int .i64 (i : Int))) :: (.q (.int .i64 ((i - 1 : Nat) : Int))) :: (.q (.pointer (some ⟨b47, o47 + (i - 1 : Nat) * 3, none⟩))) :: (.q (.pointer (some ⟨b47, o47 + (i - 1 : Nat) * 3, none⟩))) :: (.q (.int .i64 x47.at_)) :: (.q (.pointer (some ⟨b17, 0, none⟩))) :: (.q (.int .i64 x16.at_)) :: (.q (.bool false)) :: (.q (.bool false)) :: (.q (.bool false)) :: (.q (.bool false)) :: (.q (.int .i64 (c : Int))) :: (.q (.slice adn ((refs5 f).length) capn)) :: (.q (.int .i64 ((refs5 f).length : Int))) :: (.q (.bool false)) :: (.q (.bool false)) :: (.q (.bool false)) :: (.q (.pointer (some ⟨b17, 2, none⟩))) :: (.q (.string x16.name)) :: (.q (.slice adn ((refs5 f).length) capn)) :: (.q (.int .i64 (c : Int))) :: (.q (.pointer (some ⟨b48, o48 + c * 1, none⟩))) :: (.q (.string x48)) :: (.q (.bool false)) :: (.q (.bool false)) :: (.q (.bool false)) :: (.q (.pointer (some ⟨b9, 1, none⟩))) :: (.q (.slice ado (((func17 f).ops).length) capo)) :: (.q (.pointer (some ⟨b17, 0, none⟩))) :: (.q (.int .i64 (nR : Int))) :: (.q (.pointer (some ⟨b20, o20 + nR * 5, none⟩))) :: (.q (.pointer (some ⟨b20, o20 + nR * 5 + 4, none⟩))) :: (.q (.int .i64 oR.imm)) :: (.q (.bool false)) :: (.q (.bool false)) :: []) (by kernel_rfl) (by kernel_rfl) [(0, .agg #[.string f.name, .int .i64 f.bind, .int .i64 f.params, .slice adbF f.blocks.length capbF]), (1, .pointer (some ⟨b1, 0, none⟩)), (3, .bool true), (4, .bool (func5 f)), (5, .pointer (some ⟨b9, 0, none⟩)), (6, .slice adn ((refs5 f).length) capn), (7, .int .i64 (c : Int)), (8, .int .i64 (i : Int)), (9, .pointer (some ⟨b17, 0, none⟩)), (11, .bool true), (12, .agg #[.string f.name, .int .i64 f.bind, .int .i64 f.params, .slice adbF f.blocks.length capbF]), (13, .bool (func5 f)), (14, .bool (func5 f)), (15, .bool false), (16, .bool false), (17, .pointer (some ⟨b1, 3, none⟩)), (18, .slice adbF f.blocks.length capbF), (19, .int .i64 (f.blocks.length : Int)), (20, .bool (decide ((f.blocks.length : Int) = 0))), (21, .bool (decide ((f.blocks.length : Int) = 0))), (23, .agg #[.string f.name, .int .i64 f.bind, .int .i64 f.params, .slice adbF f.blocks.length capbF]), (24, .agg #[.string f.name, .slice ado (((func17 f).ops).length) capo, .slice adr (((func17 f).rels).length) capr]), (25, .agg #[.string f.name, .int .i64 f.bind, .int .i64 f.params, .slice adbF f.blocks.length capbF]), (26, .slice adn ((refs5 f).length) capn), (27, .int .i64 (i : Int)), (28, .pointer (some ⟨b9, 2, none⟩)), (29, .slice adr (((func17 f).rels).length) capr), (30, .int .i64 (((func17 f).rels).length : Int)), (31, .bool (decide ((i : Int) < (((func17 f).rels).length : Int)))), (34, .pointer (some ⟨b9, 2, none⟩)), (35, .slice adr (((func17 f).rels).length) capr), (36, .int .i64 (i : Int)), (37, .pointer (some ⟨b16, o16 + i * 3, none⟩)), (38, .agg #[.int .i64 x16.at_, .int .i64 x16.kind, .string x16.name])] ⟨rfl, rfl, rfl, rfl, rfl, rfl, rfl, rfl, rfl, rfl, rfl, rfl, rfl, rfl, rfl, rfl, rfl, rfl, rfl, rfl, rfl, rfl, rfl, rfl, rfl, rfl, rfl, rfl, rfl, rfl, rfl, rfl, rfl, rfl, trivial⟩ (by kernel_rfl) hS ?_ ?_
   ·
    refine And.intro (fun β w hS => ?_) ?_
    ·
     refine WL.sub (σ' := [(9, .pointer (some ⟨b17, 0, none⟩))]) ⟨rfl, trivial⟩ ?_
     refine WL.fieldAddr fo_34_0 rfl rfl rfl ?_
     exact WL.nil (N.cut () ⟨rfl, trivial⟩ (Below.refl _ _))
    refine And.intro (fun β w hS => ?_) ?_
    ·
     refine WL.sub (σ' := [(39, .pointer (some ⟨b17, 0, none⟩))]) ⟨rfl, trivial⟩ ?_
     refine WL.load1 (v := .int .i64 x16.at_) one_3 rfl rfl rfl (hS.cell 0 rfl rfl) ?_
     exact WL.nil (N.cut () ⟨rfl, trivial⟩ (Below.refl _ _))
    refine And.intro (fun β w hS => ?_) ?_
    ·
     refine WL.sub (σ' := [(40, .int .i64 x16.at_)]) ⟨rfl, trivial⟩ ?_
     refine WL.bin rfl rfl rfl rfl rfl ?_
     refine WL.set 41 (v' := .bool false) rfl (congrArg Value.bool (show (decide (x16.at_ < 0)) = false from decide_eq_false (show ¬ (x16.at_ < 0) from by omega))) ?_
     exact WL.nil (N.cut () ⟨rfl, trivial⟩ (Below.refl _ _))
    refine And.intro (fun β w hS => ?_) ?_
    ·
     refine WL.sub (σ' := [(41, .bool false)]) ⟨rfl, trivial⟩ ?_
     refine WL.move rfl rfl rfl ?_
     exact WL.nil (N.cut () ⟨rfl, trivial⟩ (Below.refl _ _))
    refine And.intro (fun β w hS => ?_) ?_
    ·
     refine WL.sub (σ' := [(9, .pointer (some ⟨b17, 0, none⟩)), (42, .bool false)]) ⟨rfl, rfl, trivial⟩ ?_
     refine WL.fieldAddr fo_34_0 rfl rfl rfl ?_
     exact WL.nil (N.cut () ⟨rfl, trivial⟩ (Below.refl _ _))
    refine And.intro (fun β w hS => ?_) ?_
    ·
     refine WL.sub (σ' := [(42, .bool false), (43, .pointer (some ⟨b17, 0, none⟩))]) ⟨rfl, rfl, trivial⟩ ?_
     refine WL.load1 (v := .int .i64 x16.at_) one_3 rfl rfl rfl (hS.cell 0 rfl rfl) ?_
     exact WL.nil (N.cut () ⟨rfl, trivial⟩ (Below.refl _ _))
    refine And.intro (fun β w hS => ?_) ?_
    ·
     refine WL.sub (σ' := [(5, .pointer (some ⟨b9, 0, none⟩)), (42, .bool false)]) ⟨rfl, rfl, trivial⟩ ?_
     refine WL.fieldAddr fo_30_1 rfl rfl rfl ?_
     exact WL.nil (N.cut () ⟨rfl, trivial⟩ (Below.refl _ _))
    refine And.intro (fun β w hS => ?_) ?_
    ·
     refine WL.sub (σ' := [(42, .bool false), (45, .pointer (some ⟨b9, 1, none⟩))]) ⟨rfl, rfl, trivial⟩ ?_
     refine WL.load1 (v := .slice ado (((func17 f).ops).length) capo) one_27 rfl rfl rfl (hS.cell 1 rfl rfl) ?_
     exact WL.nil (N.cut () ⟨rfl, trivial⟩ (Below.refl _ _))
    refine And.intro (fun β w hS => ?_) ?_
    ·
     refine WL.sub (σ' := [(42, .bool false), (46, .slice ado (((func17 f).ops).length) capo)]) ⟨rfl, rfl, trivial⟩ ?_
     refine WL.lenSlice Tryd.underlying27 rfl rfl rfl ?_
     exact WL.nil (N.cut () ⟨rfl, trivial⟩ (Below.refl _ _))
    refine And.intro (fun β w hS => ?_) ?_
    ·
     refine WL.sub (σ' := [(42, .bool false), (44, .int .i64 x16.at_), (47, .int .i64 (((func17 f).ops).length : Int))]) ⟨rfl, rfl, rfl, trivial⟩ ?_
     refine WL.bin rfl rfl rfl rfl rfl ?_
     refine WL.set 48 (v' := .bool false) rfl (congrArg Value.bool (show (decide ((((func17 f).ops).length : Int) ≤ x16.at_)) = false from decide_eq_false (show ¬ ((((func17 f).ops).length : Int) ≤ x16.at_) from by omega))) ?_
     exact WL.nil (N.cut () ⟨rfl, trivial⟩ (Below.refl _ _))
    refine And.intro (fun β w hS => ?_) ?_
    ·
     refine WL.sub (σ' := [(42, .bool false), (48, .bool false)]) ⟨rfl, rfl, trivial⟩ ?_
     refine WL.pick (v := .bool false) rfl rfl rfl rfl rfl rfl ?_
     exact WL.nil (N.cut () ⟨rfl, trivial⟩ (Below.refl _ _))
    refine And.intro (fun β w hS => ?_) ?_
    ·
     refine WL.sub (σ' := [(49, .bool false)]) ⟨rfl, trivial⟩ ?_
     refine WL.move rfl rfl rfl ?_
     exact WL.nil (N.cut () ⟨rfl, trivial⟩ (Below.refl _ _))
    refine And.intro (fun β w hS => ?_) ?_
    ·
     refine WL.sub (σ' := [(8, .int .i64 (i : Int)), (50, .bool false)]) ⟨rfl, rfl, trivial⟩ ?_
     refine WL.move rfl rfl rfl ?_
     exact WL.nil (N.cut () ⟨rfl, trivial⟩ (Below.refl _ _))
    refine And.intro (fun β w hS => ?_) ?_
    ·
     refine WL.sub (σ' := [(50, .bool false), (51, .int .i64 (i : Int))]) ⟨rfl, rfl, trivial⟩ ?_
     refine WL.bin rfl rfl rfl rfl rfl ?_
     refine WL.set 52 (v' := .bool true) rfl (by rw [hg21]) ?_
     exact WL.nil (N.cut () ⟨rfl, trivial⟩ (Below.refl _ _))
    refine And.intro (fun β w hS => ?_) ?_
    ·
     refine WL.sub (σ' := [(50, .bool false), (52, .bool true)]) ⟨rfl, rfl, trivial⟩ ?_
     refine WL.move rfl rfl rfl ?_
     exact WL.nil (N.cut () ⟨rfl, trivial⟩ (Below.refl _ _))
    refine And.intro (fun β w hS => ?_) ?_
    ·
     refine WL.sub (σ' := [(5, .pointer (some ⟨b9, 0, none⟩)), (53, .bool true)]) ⟨rfl, rfl, trivial⟩ ?_
     refine WL.fieldAddr fo_30_2 rfl rfl rfl ?_
     exact WL.nil (N.cut () ⟨rfl, trivial⟩ (Below.refl _ _))
    refine And.intro (fun β w hS => ?_) ?_
    ·
     refine WL.sub (σ' := [(53, .bool true), (54, .pointer (some ⟨b9, 2, none⟩))]) ⟨rfl, rfl, trivial⟩ ?_
     refine WL.load1 (v := .slice adr (((func17 f).rels).length) capr) one_28 rfl rfl rfl (hS.cell 1 rfl rfl) ?_
     exact WL.nil (N.cut () ⟨rfl, trivial⟩ (Below.refl _ _))
    refine And.intro (fun β w hS => ?_) ?_
    ·
     refine WL.sub (σ' := [(8, .int .i64 (i : Int)), (53, .bool true)]) ⟨rfl, rfl, trivial⟩ ?_
     refine WL.move rfl rfl rfl ?_
     exact WL.nil (N.cut () ⟨rfl, trivial⟩ (Below.refl _ _))
    refine And.intro (fun β w hS => ?_) ?_
    ·
     refine WL.sub (σ' := [(53, .bool true), (56, .int .i64 (i : Int))]) ⟨rfl, rfl, trivial⟩ ?_
     refine WL.sub_ (c := ((i - 1 : Nat) : Int)) rfl rfl rfl rfl (by omega) (by omega) ?_
     exact WL.nil (N.cut () ⟨rfl, trivial⟩ (Below.refl _ _))
    refine And.intro (fun β w hS => ?_) ?_
    ·
     refine WL.sub (σ' := [(53, .bool true), (55, .slice adr (((func17 f).rels).length) capr), (57, .int .i64 ((i - 1 : Nat) : Int))]) ⟨rfl, rfl, rfl, trivial⟩ ?_
     refine WL.indexAddrE (j := (i - 1 : Nat)) Tryd.underlying28 isz_34 rfl rfl rfl rfl hj47 hE47 ?_
     exact WL.nil (N.cut () ⟨rfl, trivial⟩ (Below.refl _ _))
    refine And.intro (fun β w hS => ?_) ?_
    ·
     refine WL.sub (σ' := [(53, .bool true), (58, .pointer (some ⟨b47, o47 + (i - 1 : Nat) * 3, none⟩))]) ⟨rfl, rfl, trivial⟩ ?_
     refine WL.fieldAddr fo_34_0 rfl rfl rfl ?_
     exact WL.nil (N.cut () ⟨rfl, trivial⟩ (Below.refl _ _))
    refine And.intro (fun β w hS => ?_) ?_
    ·
     refine WL.sub (σ' := [(53, .bool true), (59, .pointer (some ⟨b47, o47 + (i - 1 : Nat) * 3, none⟩))]) ⟨rfl, rfl, trivial⟩ ?_
     refine WL.load1 (v := .int .i64 x47.at_) one_3 rfl rfl rfl (hS.roCells hr47 hc47 0 _ rfl) ?_
     exact WL.nil (N.cut () ⟨rfl, trivial⟩ (Below.refl _ _))
    refine And.intro (fun β w hS => ?_) ?_
    ·
     refine WL.sub (σ' := [(9, .pointer (some ⟨b17, 0, none⟩)), (53, .bool true)]) ⟨rfl, rfl, trivial⟩ ?_
     refine WL.fieldAddr fo_34_0 rfl rfl rfl ?_
     exact WL.nil (N.cut () ⟨rfl, trivial⟩ (Below.refl _ _))
    refine And.intro (fun β w hS => ?_) ?_
    ·
     refine WL.sub (σ' := [(53, .bool true), (61, .pointer (some ⟨b17, 0, none⟩))]) ⟨rfl, rfl, trivial⟩ ?_
     refine WL.load1 (v := .int .i64 x16.at_) one_3 rfl rfl rfl (hS.cell 0 rfl rfl) ?_
     exact WL.nil (N.cut () ⟨rfl, trivial⟩ (Below.refl _ _))
    refine And.intro (fun β w hS => ?_) ?_
    ·
     refine WL.sub (σ' := [(53, .bool true), (60, .int .i64 x47.at_), (62, .int .i64 x16.at_)]) ⟨rfl, rfl, rfl, trivial⟩ ?_
     refine WL.bin rfl rfl rfl rfl rfl ?_
     refine WL.set 63 (v' := .bool false) rfl (congrArg Value.bool (show (decide (x16.at_ ≤ x47.at_)) = false from decide_eq_false (show ¬ (x16.at_ ≤ x47.at_) from by have := pw_at (func_rels hokG).2.1 hx47 hx16 (by omega); omega))) ?_
     exact WL.nil (N.cut () ⟨rfl, trivial⟩ (Below.refl _ _))
    refine And.intro (fun β w hS => ?_) ?_
    ·
     refine WL.sub (σ' := [(50, .bool false), (53, .bool true), (63, .bool false)]) ⟨rfl, rfl, rfl, trivial⟩ ?_
     refine WL.pick (v := .bool false) rfl rfl rfl rfl rfl rfl ?_
     exact WL.nil (N.cut () ⟨rfl, trivial⟩ (Below.refl _ _))
    refine And.intro (fun β w hS => ?_) ?_
    ·
     refine WL.sub (σ' := [(50, .bool false), (64, .bool false)]) ⟨rfl, rfl, trivial⟩ ?_
     refine WL.pick (v := .bool false) rfl rfl rfl rfl rfl rfl ?_
     exact WL.nil (N.cut () ⟨rfl, trivial⟩ (Below.refl _ _))
    refine And.intro (fun β w hS => ?_) ?_
    ·
     refine WL.sub (σ' := [(65, .bool false)]) ⟨rfl, trivial⟩ ?_
     refine WL.move rfl rfl rfl ?_
     exact WL.nil (N.cut () ⟨rfl, trivial⟩ (Below.refl _ _))
    refine And.intro (fun β w hS => ?_) ?_
    ·
     refine WL.sub (σ' := [(7, .int .i64 (c : Int)), (66, .bool false)]) ⟨rfl, rfl, trivial⟩ ?_
     refine WL.move rfl rfl rfl ?_
     exact WL.nil (N.cut () ⟨rfl, trivial⟩ (Below.refl _ _))
    refine And.intro (fun β w hS => ?_) ?_
    ·
     refine WL.sub (σ' := [(6, .slice adn ((refs5 f).length) capn), (66, .bool false)]) ⟨rfl, rfl, trivial⟩ ?_
     refine WL.move rfl rfl rfl ?_
     exact WL.nil (N.cut () ⟨rfl, trivial⟩ (Below.refl _ _))
    refine And.intro (fun β w hS => ?_) ?_
    ·
     refine WL.sub (σ' := [(66, .bool false), (68, .slice adn ((refs5 f).length) capn)]) ⟨rfl, rfl, trivial⟩ ?_
     refine WL.lenSlice Tryd.underlying38 rfl rfl rfl ?_
     exact WL.nil (N.cut () ⟨rfl, trivial⟩ (Below.refl _ _))
    refine And.intro (fun β w hS => ?_) ?_
    ·
     refine WL.sub (σ' := [(66, .bool false), (67, .int .i64 (c : Int)), (69, .int .i64 ((refs5 f).length : Int))]) ⟨rfl, rfl, rfl, trivial⟩ ?_
     refine WL.bin rfl rfl rfl rfl rfl ?_
     refine WL.set 70 (v' := .bool false) rfl (congrArg Value.bool (show (decide (((refs5 f).length : Int) ≤ (c : Int))) = false from decide_eq_false (show ¬ (((refs5 f).length : Int) ≤ (c : Int)) from by omega))) ?_
     exact WL.nil (N.cut () ⟨rfl, trivial⟩ (Below.refl _ _))
    refine And.intro (fun β w hS => ?_) ?_
    ·
     refine WL.sub (σ' := [(66, .bool false), (70, .bool false)]) ⟨rfl, rfl, trivial⟩ ?_
     refine WL.pick (v := .bool false) rfl rfl rfl rfl rfl rfl ?_
     exact WL.nil (N.cut () ⟨rfl, trivial⟩ (Below.refl _ _))
    refine And.intro (fun β w hS => ?_) ?_
    ·
     refine WL.sub (σ' := [(71, .bool false)]) ⟨rfl, trivial⟩ ?_
     refine WL.move rfl rfl rfl ?_
     exact WL.nil (N.cut () ⟨rfl, trivial⟩ (Below.refl _ _))
    refine And.intro (fun β w hS => ?_) ?_
    ·
     refine WL.sub (σ' := [(9, .pointer (some ⟨b17, 0, none⟩)), (72, .bool false)]) ⟨rfl, rfl, trivial⟩ ?_
     refine WL.fieldAddr fo_34_2 rfl rfl rfl ?_
     exact WL.nil (N.cut () ⟨rfl, trivial⟩ (Below.refl _ _))
    refine And.intro (fun β w hS => ?_) ?_
    ·
     refine WL.sub (σ' := [(72, .bool false), (73, .pointer (some ⟨b17, 2, none⟩))]) ⟨rfl, rfl, trivial⟩ ?_
     refine WL.load1 (v := .string x16.name) one_9 rfl rfl rfl (hS.cell 0 rfl rfl) ?_
     exact WL.nil (N.cut () ⟨rfl, trivial⟩ (Below.refl _ _))
    refine And.intro (fun β w hS => ?_) ?_
    ·
     refine WL.sub (σ' := [(6, .slice adn ((refs5 f).length) capn), (72, .bool false)]) ⟨rfl, rfl, trivial⟩ ?_
     refine WL.move rfl rfl rfl ?_
     exact WL.nil (N.cut () ⟨rfl, trivial⟩ (Below.refl _ _))
    refine And.intro (fun β w hS => ?_) ?_
    ·
     refine WL.sub (σ' := [(7, .int .i64 (c : Int)), (72, .bool false)]) ⟨rfl, rfl, trivial⟩ ?_
     refine WL.move rfl rfl rfl ?_
     exact WL.nil (N.cut () ⟨rfl, trivial⟩ (Below.refl _ _))
    refine And.intro (fun β w hS => ?_) ?_
    ·
     refine WL.sub (σ' := [(72, .bool false), (75, .slice adn ((refs5 f).length) capn), (76, .int .i64 (c : Int))]) ⟨rfl, rfl, rfl, trivial⟩ ?_
     refine WL.indexAddrE (j := c) Tryd.underlying38 isz_9 rfl rfl rfl rfl hj48 hE48 ?_
     exact WL.nil (N.cut () ⟨rfl, trivial⟩ (Below.refl _ _))
    refine And.intro (fun β w hS => ?_) ?_
    ·
     refine WL.sub (σ' := [(72, .bool false), (77, .pointer (some ⟨b48, o48 + c * 1, none⟩))]) ⟨rfl, rfl, trivial⟩ ?_
     refine WL.load1 (v := .string x48) one_9 rfl rfl rfl (hS.roCells hr48 hc48 0 _ rfl) ?_
     exact WL.nil (N.cut () ⟨rfl, trivial⟩ (Below.refl _ _))
    refine And.intro (fun β w hS => ?_) ?_
    ·
     refine WL.sub (σ' := [(72, .bool false), (74, .string x16.name), (78, .string x48)]) ⟨rfl, rfl, rfl, trivial⟩ ?_
     refine WL.neStr rfl rfl rfl rfl ?_
     refine WL.set 79 (v' := .bool false) rfl (congrArg Value.bool (show (!decide (x16.name = x48)) = false from by rw [decide_eq_true (show x16.name = x48 from Option.some.inj (hcn.symm.trans hx48))]; rfl)) ?_
     exact WL.nil (N.cut () ⟨rfl, trivial⟩ (Below.refl _ _))
    refine And.intro (fun β w hS => ?_) ?_
    ·
     refine WL.sub (σ' := [(72, .bool false), (79, .bool false)]) ⟨rfl, rfl, trivial⟩ ?_
     refine WL.pick (v := .bool false) rfl rfl rfl rfl rfl rfl ?_
     exact WL.nil (N.cut () ⟨rfl, trivial⟩ (Below.refl _ _))
    refine And.intro (fun β w hS => ?_) ?_
    ·
     refine WL.sub (σ' := [(80, .bool false)]) ⟨rfl, trivial⟩ ?_
     refine WL.move rfl rfl rfl ?_
     exact WL.nil (N.cut () ⟨rfl, trivial⟩ (Below.refl _ _))
    refine And.intro (fun β w hS => ?_) ?_
    ·
     refine WL.sub (σ' := [(5, .pointer (some ⟨b9, 0, none⟩)), (81, .bool false)]) ⟨rfl, rfl, trivial⟩ ?_
     refine WL.fieldAddr fo_30_1 rfl rfl rfl ?_
     exact WL.nil (N.cut () ⟨rfl, trivial⟩ (Below.refl _ _))
    refine And.intro (fun β w hS => ?_) ?_
    ·
     refine WL.sub (σ' := [(81, .bool false), (82, .pointer (some ⟨b9, 1, none⟩))]) ⟨rfl, rfl, trivial⟩ ?_
     refine WL.load1 (v := .slice ado (((func17 f).ops).length) capo) one_27 rfl rfl rfl (hS.cell 1 rfl rfl) ?_
     exact WL.nil (N.cut () ⟨rfl, trivial⟩ (Below.refl _ _))
    refine And.intro (fun β w hS => ?_) ?_
    ·
     refine WL.sub (σ' := [(9, .pointer (some ⟨b17, 0, none⟩)), (81, .bool false)]) ⟨rfl, rfl, trivial⟩ ?_
     refine WL.fieldAddr fo_34_0 rfl rfl rfl ?_
     exact WL.nil (N.cut () ⟨rfl, trivial⟩ (Below.refl _ _))
    refine And.intro (fun β w hS => ?_) ?_
    ·
     refine WL.sub (σ' := [(81, .bool false), (84, .pointer (some ⟨b17, 0, none⟩))]) ⟨rfl, rfl, trivial⟩ ?_
     refine WL.load1 (v := .int .i64 x16.at_) one_3 rfl rfl rfl (hS.cell 0 rfl rfl) ?_
     refine WL.set 85 (v' := .int .i64 (nR : Int)) rfl (congrArg _ hnR) ?_
     exact WL.nil (N.cut () ⟨rfl, trivial⟩ (Below.refl _ _))
    refine And.intro (fun β w hS => ?_) ?_
    ·
     refine WL.sub (σ' := [(81, .bool false), (83, .slice ado (((func17 f).ops).length) capo), (85, .int .i64 (nR : Int))]) ⟨rfl, rfl, rfl, trivial⟩ ?_
     refine WL.indexAddrE (j := nR) Tryd.underlying27 isz_36 rfl rfl rfl rfl hj20 hE20 ?_
     exact WL.nil (N.cut () ⟨rfl, trivial⟩ (Below.refl _ _))
    refine And.intro (fun β w hS => ?_) ?_
    ·
     refine WL.sub (σ' := [(81, .bool false), (86, .pointer (some ⟨b20, o20 + nR * 5, none⟩))]) ⟨rfl, rfl, trivial⟩ ?_
     refine WL.fieldAddr fo_36_4 rfl rfl rfl ?_
     exact WL.nil (N.cut () ⟨rfl, trivial⟩ (Below.refl _ _))
    refine And.intro (fun β w hS => ?_) ?_
    ·
     refine WL.sub (σ' := [(81, .bool false), (87, .pointer (some ⟨b20, o20 + nR * 5 + 4, none⟩))]) ⟨rfl, rfl, trivial⟩ ?_
     refine WL.load1 (v := .int .i64 oR.imm) one_2 rfl rfl rfl (hS.roCells hr20 hc20 4 _ rfl) ?_
     exact WL.nil (N.cut () ⟨rfl, trivial⟩ (Below.refl _ _))
    refine And.intro (fun β w hS => ?_) ?_
    ·
     refine WL.sub (σ' := [(81, .bool false), (88, .int .i64 oR.imm)]) ⟨rfl, rfl, trivial⟩ ?_
     refine WL.bin rfl rfl rfl rfl rfl ?_
     refine WL.set 89 (v' := .bool false) rfl (congrArg Value.bool (show (!decide (oR.imm = 0)) = false from by rw [decide_eq_true (show oR.imm = 0 from hoz)]; rfl)) ?_
     exact WL.nil (N.cut () ⟨rfl, trivial⟩ (Below.refl _ _))
    refine And.intro (fun β w hS => ?_) ?_
    ·
     refine WL.sub (σ' := [(81, .bool false), (89, .bool false)]) ⟨rfl, rfl, trivial⟩ ?_
     refine WL.pick (v := .bool false) rfl rfl rfl rfl rfl rfl ?_
     exact WL.nil (N.cut () ⟨rfl, trivial⟩ (Below.refl _ _))
    trivial
   clear hS; intro w49 β hS
   refine WL.sub (σ' := [(0, .agg #[.string f.name, .int .i64 f.bind, .int .i64 f.params, .slice adbF f.blocks.length capbF]), (1, .pointer (some ⟨b1, 0, none⟩)), (3, .bool true), (4, .bool (func5 f)), (5, .pointer (some ⟨b9, 0, none⟩)), (6, .slice adn ((refs5 f).length) capn), (7, .int .i64 (c : Int)), (8, .int .i64 (i : Int)), (9, .pointer (some ⟨b17, 0, none⟩)), (11, .bool true), (12, .agg #[.string f.name, .int .i64 f.bind, .int .i64 f.params, .slice adbF f.blocks.length capbF]), (13, .bool (func5 f)), (14, .bool (func5 f)), (15, .bool false), (16, .bool false), (17, .pointer (some ⟨b1, 3, none⟩)), (18, .slice adbF f.blocks.length capbF), (19, .int .i64 (f.blocks.length : Int)), (20, .bool (decide ((f.blocks.length : Int) = 0))), (21, .bool (decide ((f.blocks.length : Int) = 0))), (23, .agg #[.string f.name, .int .i64 f.bind, .int .i64 f.params, .slice adbF f.blocks.length capbF]), (24, .agg #[.string f.name, .slice ado (((func17 f).ops).length) capo, .slice adr (((func17 f).rels).length) capr]), (25, .agg #[.string f.name, .int .i64 f.bind, .int .i64 f.params, .slice adbF f.blocks.length capbF]), (26, .slice adn ((refs5 f).length) capn), (27, .int .i64 (i : Int)), (28, .pointer (some ⟨b9, 2, none⟩)), (29, .slice adr (((func17 f).rels).length) capr), (30, .int .i64 (((func17 f).rels).length : Int)), (31, .bool (decide ((i : Int) < (((func17 f).rels).length : Int)))), (34, .pointer (some ⟨b9, 2, none⟩)), (35, .slice adr (((func17 f).rels).length) capr), (36, .int .i64 (i : Int)), (37, .pointer (some ⟨b16, o16 + i * 3, none⟩)), (38, .agg #[.int .i64 x16.at_, .int .i64 x16.kind, .string x16.name]), (39, .pointer (some ⟨b17, 0, none⟩)), (40, .int .i64 x16.at_), (41, .bool false), (42, .bool false), (43, .pointer (some ⟨b17, 0, none⟩)), (44, .int .i64 x16.at_), (45, .pointer (some ⟨b9, 1, none⟩)), (46, .slice ado (((func17 f).ops).length) capo), (47, .int .i64 (((func17 f).ops).length : Int)), (48, .bool false), (49, .bool false), (50, .bool false), (51, .int .i64 (i : Int)), (52, .bool true), (53, .bool true), (54, .pointer (some ⟨b9, 2, none⟩)), (55, .slice adr (((func17 f).rels).length) capr), (56, .int .i64 (i : Int)), (57, .int .i64 ((i - 1 : Nat) : Int)), (58, .pointer (some ⟨b47, o47 + (i - 1 : Nat) * 3, none⟩)), (59, .pointer (some ⟨b47, o47 + (i - 1 : Nat) * 3, none⟩)), (60, .int .i64 x47.at_), (61, .pointer (some ⟨b17, 0, none⟩)), (62, .int .i64 x16.at_), (63, .bool false), (64, .bool false), (65, .bool false), (66, .bool false), (67, .int .i64 (c : Int)), (68, .slice adn ((refs5 f).length) capn), (69, .int .i64 ((refs5 f).length : Int)), (70, .bool false), (71, .bool false), (72, .bool false), (73, .pointer (some ⟨b17, 2, none⟩)), (74, .string x16.name), (75, .slice adn ((refs5 f).length) capn), (76, .int .i64 (c : Int)), (77, .pointer (some ⟨b48, o48 + c * 1, none⟩)), (78, .string x48), (79, .bool false), (80, .bool false), (81, .bool false), (82, .pointer (some ⟨b9, 1, none⟩)), (83, .slice ado (((func17 f).ops).length) capo), (84, .pointer (some ⟨b17, 0, none⟩)), (85, .int .i64 (nR : Int)), (86, .pointer (some ⟨b20, o20 + nR * 5, none⟩)), (87, .pointer (some ⟨b20, o20 + nR * 5 + 4, none⟩)), (88, .int .i64 oR.imm), (89, .bool false), (90, .bool false)]) ⟨rfl, rfl, rfl, rfl, rfl, rfl, rfl, rfl, rfl, rfl, rfl, rfl, rfl, rfl, rfl, rfl, rfl, rfl, rfl, rfl, rfl, rfl, rfl, rfl, rfl, rfl, rfl, rfl, rfl, rfl, rfl, rfl, rfl, rfl, rfl, rfl, rfl, rfl, rfl, rfl, rfl, rfl, rfl, rfl, rfl, rfl, rfl, rfl, rfl, rfl, rfl, rfl, rfl, rfl, rfl, rfl, rfl, rfl, rfl, rfl, rfl, rfl, rfl, rfl, rfl, rfl, rfl, rfl, rfl, rfl, rfl, rfl, rfl, rfl, rfl, rfl, rfl, rfl, rfl, rfl, rfl, rfl, rfl, rfl, rfl, rfl, trivial⟩ ?_
   refine WL.nil ?_
   refine N.seq ?_
   refine W.condF rfl ?_
   refine W.skip ?_
   refine N.seq ?_
   refine W.seq ?_
   refine W.region ?_
   refine WL.fieldAddr fo_30_1 rfl rfl rfl ?_
   refine WL.load1 (v := .slice ado (((func17 f).ops).length) capo) one_27 rfl rfl rfl (hS.cell 1 rfl rfl) ?_
   refine WL.fieldAddr fo_34_0 rfl rfl rfl ?_
   refine WL.load1 (v := .int .i64 x16.at_) one_3 rfl rfl rfl (hS.cell 0 rfl rfl) ?_
   refine WL.set 94 (v' := .int .i64 (nR : Int)) rfl (congrArg _ hnR) ?_
   refine WL.indexAddrE (j := nR) Tryd.underlying27 isz_36 rfl rfl rfl rfl hj20 hE20 ?_
   refine WL.fieldAddr fo_36_0 rfl rfl rfl ?_
   refine WL.load1 (v := .int .i64 oR.kind) one_3 rfl rfl rfl (hS.roCells hr20 hc20 0 _ rfl) ?_
   refine WL.assign rfl rfl rfl ?_
   refine WL.nil ?_
   refine N.seq ?_
   refine W.seq ?_
   refine W.seq ?_
   refine W.region ?_
   refine WL.fieldAddr fo_34_1 rfl rfl rfl ?_
   refine WL.load1 (v := .int .i64 x16.kind) one_3 rfl rfl rfl (hS.cell 0 rfl rfl) ?_
   refine WL.bin rfl rfl rfl rfl rfl ?_
   refine WL.move rfl rfl rfl ?_
   rcases (Bool.eq_false_or_eq_true (decide (x16.kind = 1))).symm with hg50 | hg50
   ·
    refine WL.set 100 (v' := .bool false) rfl (by rw [hg50]) ?_
    refine WL.set 101 (v' := .bool false) rfl (by rw [hg50]) ?_
    have hg50p : ¬ (x16.kind = 1) := by simpa using hg50
    refine WL.skp rfl rfl ?_
    refine WL.skp rfl rfl ?_
    refine WL.pick (v := .bool false) rfl rfl rfl rfl rfl rfl ?_
    refine WL.move rfl rfl rfl ?_
    refine WL.fieldAddr fo_34_1 rfl rfl rfl ?_
    refine WL.load1 (v := .int .i64 x16.kind) one_3 rfl rfl rfl (hS.cell 0 rfl rfl) ?_
    refine WL.bin rfl rfl rfl rfl rfl ?_
    refine WL.move rfl rfl rfl ?_
    rcases (Bool.eq_false_or_eq_true (decide (x16.kind = 2))).symm with hg51 | hg51
    ·
     refine WL.set 108 (v' := .bool false) rfl (by rw [hg51]) ?_
     refine WL.set 109 (v' := .bool false) rfl (by rw [hg51]) ?_
     have hg51p : ¬ (x16.kind = 2) := by simpa using hg51
     refine WL.skp rfl rfl ?_
     refine WL.skp rfl rfl ?_
     refine WL.pick (v := .bool false) rfl rfl rfl rfl rfl rfl ?_
     refine WL.pick (v := .bool false) rfl rfl rfl rfl rfl rfl ?_
     refine WL.move rfl rfl rfl ?_
     refine WL.fieldAddr fo_34_1 rfl rfl rfl ?_
     refine WL.load1 (v := .int .i64 x16.kind) one_3 rfl rfl rfl (hS.cell 0 rfl rfl) ?_
     refine WL.bin rfl rfl rfl rfl rfl ?_
     refine WL.move rfl rfl rfl ?_
     rcases (Bool.eq_false_or_eq_true (decide (x16.kind = 3))).symm with hg52 | hg52
     ·
      refine WL.set 117 (v' := .bool false) rfl (by rw [hg52]) ?_
      refine WL.set 118 (v' := .bool false) rfl (by rw [hg52]) ?_
      have hg52p : ¬ (x16.kind = 3) := by simpa using hg52
      refine WL.skp rfl rfl ?_
      refine WL.skp rfl rfl ?_
      refine WL.pick (v := .bool false) rfl rfl rfl rfl rfl rfl ?_
      refine WL.move rfl rfl rfl ?_
      refine WL.skp rfl rfl ?_
      refine WL.skp rfl rfl ?_
      refine WL.pick (v := .bool false) rfl rfl rfl rfl rfl rfl ?_
      refine WL.pick (v := .bool false) rfl rfl rfl rfl rfl rfl ?_
      refine WL.move rfl rfl rfl ?_
      refine WL.fieldAddr fo_34_1 rfl rfl rfl ?_
      refine WL.load1 (v := .int .i64 x16.kind) one_3 rfl rfl rfl (hS.cell 0 rfl rfl) ?_
      refine WL.bin rfl rfl rfl rfl rfl ?_
      refine WL.set 130 (v' := .bool false) rfl (congrArg Value.bool (show (decide (x16.kind < 1)) = false from decide_eq_false (show ¬ (x16.kind < 1) from by omega))) ?_
      refine WL.pick (v := .bool false) rfl rfl rfl rfl rfl rfl ?_
      refine WL.move rfl rfl rfl ?_
      refine WL.fieldAddr fo_34_1 rfl rfl rfl ?_
      refine WL.load1 (v := .int .i64 x16.kind) one_3 rfl rfl rfl (hS.cell 0 rfl rfl) ?_
      refine WL.bin rfl rfl rfl rfl rfl ?_
      refine WL.set 135 (v' := .bool false) rfl (congrArg Value.bool (show (decide (3 < x16.kind)) = false from decide_eq_false (show ¬ (3 < x16.kind) from by omega))) ?_
      refine WL.pick (v := .bool false) rfl rfl rfl rfl rfl rfl ?_
      refine WL.nil ?_
      refine N.seq ?_
      refine W.condF rfl ?_
      refine W.skip ?_
      refine N.seq ?_
      refine W.seq ?_
      refine W.region ?_
      refine WL.fieldAddr fo_34_1 rfl rfl rfl ?_
      refine WL.load1 (v := .int .i64 x16.kind) one_3 rfl rfl rfl (hS.cell 0 rfl rfl) ?_
      refine WL.bin rfl rfl rfl rfl rfl ?_
      refine WL.nil ?_
      refine N.seq ?_
      refine W.cond rfl (fun hc53 => ?_) (fun hc53 => ?_)
      ·
       have hc53p : ¬ (x16.kind = 2) := by simpa using hc53
       refine W.region ?_
       refine WL.move rfl rfl rfl ?_
       refine WL.add (c := (c : Int) + 1) rfl rfl rfl rfl (rfl) (by omega) ?_
       refine WL.assign rfl rfl rfl ?_
       refine WL.nil ?_
       refine N.blk ?_
       refine N.seq ?_
       refine W.region ?_
       refine WL.move rfl rfl rfl ?_
       refine WL.add (c := (i : Int) + 1) rfl rfl rfl rfl (rfl) (by omega) ?_
       refine WL.assign rfl rfl rfl ?_
       refine WL.nil ?_
       have hS := hS.dropN 1
       have hcn2 := namesR_next hx16; rw [if_neg hc53p, ← hc] at hcn2
       exact N.loop (i + 1, c + 1) ⟨rfl, rfl, rfl, rfl, rfl, rfl, rfl, rfl, rfl, rfl, rfl, rfl, rfl, rfl, rfl, rfl, rfl, rfl, rfl, rfl, rfl, rfl, rfl, trivial⟩ ⟨hS, by omega, by omega⟩ (by first | omega | (simp only; omega))
      have hc53p : x16.kind = 2 := by simpa using hc53
      refine W.skip ?_
      refine N.blk ?_
      refine N.seq ?_
      refine W.region ?_
      refine WL.move rfl rfl rfl ?_
      refine WL.add (c := (i : Int) + 1) rfl rfl rfl rfl (rfl) (by omega) ?_
      refine WL.assign rfl rfl rfl ?_
      refine WL.nil ?_
      have hS := hS.dropN 1
      have hcn2 := namesR_next hx16; rw [if_pos hc53p, ← hc] at hcn2
      exact N.loop (i + 1, c) ⟨rfl, rfl, rfl, rfl, rfl, rfl, rfl, rfl, rfl, rfl, rfl, rfl, rfl, rfl, rfl, rfl, rfl, rfl, rfl, rfl, rfl, rfl, rfl, trivial⟩ ⟨hS, by omega, by omega⟩ (by first | omega | (simp only; omega))
     refine WL.set 117 (v' := .bool true) rfl (by rw [hg52]) ?_
     refine WL.set 118 (v' := .bool true) rfl (by rw [hg52]) ?_
     have hg52p : x16.kind = 3 := by simpa using hg52
     refine WL.move rfl rfl rfl ?_
     refine WL.bin rfl rfl rfl rfl rfl ?_
     refine WL.pick (v := .bool (!decide (oR.kind = 19))) rfl rfl rfl rfl rfl rfl ?_
     refine WL.move rfl rfl rfl ?_
     rcases (Bool.eq_false_or_eq_true (!decide (oR.kind = 19))).symm with hg54 | hg54
     ·
      refine WL.set 120 (v' := .bool false) rfl (by rw [hg54]) ?_
      refine WL.set 121 (v' := .bool false) rfl (by rw [hg54]) ?_
      refine WL.set 122 (v' := .bool false) rfl (by rw [hg54]) ?_
      have hg54p : oR.kind = 19 := by simpa using hg54
      refine WL.skp rfl rfl ?_
      refine WL.skp rfl rfl ?_
      refine WL.pick (v := .bool false) rfl rfl rfl rfl rfl rfl ?_
      refine WL.pick (v := .bool false) rfl rfl rfl rfl rfl rfl ?_
      refine WL.move rfl rfl rfl ?_
      refine WL.fieldAddr fo_34_1 rfl rfl rfl ?_
      refine WL.load1 (v := .int .i64 x16.kind) one_3 rfl rfl rfl (hS.cell 0 rfl rfl) ?_
      refine WL.bin rfl rfl rfl rfl rfl ?_
      refine WL.set 130 (v' := .bool false) rfl (congrArg Value.bool (show (decide (x16.kind < 1)) = false from decide_eq_false (show ¬ (x16.kind < 1) from by omega))) ?_
      refine WL.pick (v := .bool false) rfl rfl rfl rfl rfl rfl ?_
      refine WL.move rfl rfl rfl ?_
      refine WL.fieldAddr fo_34_1 rfl rfl rfl ?_
      refine WL.load1 (v := .int .i64 x16.kind) one_3 rfl rfl rfl (hS.cell 0 rfl rfl) ?_
      refine WL.bin rfl rfl rfl rfl rfl ?_
      refine WL.set 135 (v' := .bool false) rfl (congrArg Value.bool (show (decide (3 < x16.kind)) = false from decide_eq_false (show ¬ (3 < x16.kind) from by omega))) ?_
      refine WL.pick (v := .bool false) rfl rfl rfl rfl rfl rfl ?_
      refine WL.nil ?_
      refine N.seq ?_
      refine W.condF rfl ?_
      refine W.skip ?_
      refine N.seq ?_
      refine W.seq ?_
      refine W.region ?_
      refine WL.fieldAddr fo_34_1 rfl rfl rfl ?_
      refine WL.load1 (v := .int .i64 x16.kind) one_3 rfl rfl rfl (hS.cell 0 rfl rfl) ?_
      refine WL.bin rfl rfl rfl rfl rfl ?_
      refine WL.nil ?_
      refine N.seq ?_
      refine W.cond rfl (fun hc55 => ?_) (fun hc55 => ?_)
      ·
       have hc55p : ¬ (x16.kind = 2) := by simpa using hc55
       refine W.region ?_
       refine WL.move rfl rfl rfl ?_
       refine WL.add (c := (c : Int) + 1) rfl rfl rfl rfl (rfl) (by omega) ?_
       refine WL.assign rfl rfl rfl ?_
       refine WL.nil ?_
       refine N.blk ?_
       refine N.seq ?_
       refine W.region ?_
       refine WL.move rfl rfl rfl ?_
       refine WL.add (c := (i : Int) + 1) rfl rfl rfl rfl (rfl) (by omega) ?_
       refine WL.assign rfl rfl rfl ?_
       refine WL.nil ?_
       have hS := hS.dropN 1
       have hcn2 := namesR_next hx16; rw [if_neg hc55p, ← hc] at hcn2
       exact N.loop (i + 1, c + 1) ⟨rfl, rfl, rfl, rfl, rfl, rfl, rfl, rfl, rfl, rfl, rfl, rfl, rfl, rfl, rfl, rfl, rfl, rfl, rfl, rfl, rfl, rfl, rfl, trivial⟩ ⟨hS, by omega, by omega⟩ (by first | omega | (simp only; omega))
      have hc55p : x16.kind = 2 := by simpa using hc55
      refine W.skip ?_
      refine N.blk ?_
      refine N.seq ?_
      refine W.region ?_
      refine WL.move rfl rfl rfl ?_
      refine WL.add (c := (i : Int) + 1) rfl rfl rfl rfl (rfl) (by omega) ?_
      refine WL.assign rfl rfl rfl ?_
      refine WL.nil ?_
      have hS := hS.dropN 1
      have hcn2 := namesR_next hx16; rw [if_pos hc55p, ← hc] at hcn2
      exact N.loop (i + 1, c) ⟨rfl, rfl, rfl, rfl, rfl, rfl, rfl, rfl, rfl, rfl, rfl, rfl, rfl, rfl, rfl, rfl, rfl, rfl, rfl, rfl, rfl, rfl, rfl, trivial⟩ ⟨hS, by omega, by omega⟩ (by first | omega | (simp only; omega))
     refine WL.set 120 (v' := .bool true) rfl (by rw [hg54]) ?_
     refine WL.set 121 (v' := .bool true) rfl (by rw [hg54]) ?_
     refine WL.set 122 (v' := .bool true) rfl (by rw [hg54]) ?_
     have hg54p : ¬ (oR.kind = 19) := by simpa using hg54
     refine WL.move rfl rfl rfl ?_
     refine WL.bin rfl rfl rfl rfl rfl ?_
     refine WL.set 124 (v' := .bool false) rfl (congrArg Value.bool (show (!decide (oR.kind = 21)) = false from by rw [decide_eq_true (show oR.kind = 21 from by omega)]; rfl)) ?_
     refine WL.pick (v := .bool false) rfl rfl rfl rfl rfl rfl ?_
     refine WL.pick (v := .bool false) rfl rfl rfl rfl rfl rfl ?_
     refine WL.move rfl rfl rfl ?_
     refine WL.fieldAddr fo_34_1 rfl rfl rfl ?_
     refine WL.load1 (v := .int .i64 x16.kind) one_3 rfl rfl rfl (hS.cell 0 rfl rfl) ?_
     refine WL.bin rfl rfl rfl rfl rfl ?_
     refine WL.set 130 (v' := .bool false) rfl (congrArg Value.bool (show (decide (x16.kind < 1)) = false from decide_eq_false (show ¬ (x16.kind < 1) from by omega))) ?_
     refine WL.pick (v := .bool false) rfl rfl rfl rfl rfl rfl ?_
     refine WL.move rfl rfl rfl ?_
     refine WL.fieldAddr fo_34_1 rfl rfl rfl ?_
     refine WL.load1 (v := .int .i64 x16.kind) one_3 rfl rfl rfl (hS.cell 0 rfl rfl) ?_
     refine WL.bin rfl rfl rfl rfl rfl ?_
     refine WL.set 135 (v' := .bool false) rfl (congrArg Value.bool (show (decide (3 < x16.kind)) = false from decide_eq_false (show ¬ (3 < x16.kind) from by omega))) ?_
     refine WL.pick (v := .bool false) rfl rfl rfl rfl rfl rfl ?_
     refine WL.nil ?_
     refine N.seq ?_
     refine W.condF rfl ?_
     refine W.skip ?_
     refine N.seq ?_
     refine W.seq ?_
     refine W.region ?_
     refine WL.fieldAddr fo_34_1 rfl rfl rfl ?_
     refine WL.load1 (v := .int .i64 x16.kind) one_3 rfl rfl rfl (hS.cell 0 rfl rfl) ?_
     refine WL.bin rfl rfl rfl rfl rfl ?_
     refine WL.nil ?_
     refine N.seq ?_
     refine W.cond rfl (fun hc56 => ?_) (fun hc56 => ?_)
     ·
      have hc56p : ¬ (x16.kind = 2) := by simpa using hc56
      refine W.region ?_
      refine WL.move rfl rfl rfl ?_
      refine WL.add (c := (c : Int) + 1) rfl rfl rfl rfl (rfl) (by omega) ?_
      refine WL.assign rfl rfl rfl ?_
      refine WL.nil ?_
      refine N.blk ?_
      refine N.seq ?_
      refine W.region ?_
      refine WL.move rfl rfl rfl ?_
      refine WL.add (c := (i : Int) + 1) rfl rfl rfl rfl (rfl) (by omega) ?_
      refine WL.assign rfl rfl rfl ?_
      refine WL.nil ?_
      have hS := hS.dropN 1
      have hcn2 := namesR_next hx16; rw [if_neg hc56p, ← hc] at hcn2
      exact N.loop (i + 1, c + 1) ⟨rfl, rfl, rfl, rfl, rfl, rfl, rfl, rfl, rfl, rfl, rfl, rfl, rfl, rfl, rfl, rfl, rfl, rfl, rfl, rfl, rfl, rfl, rfl, trivial⟩ ⟨hS, by omega, by omega⟩ (by first | omega | (simp only; omega))
     have hc56p : x16.kind = 2 := by simpa using hc56
     refine W.skip ?_
     refine N.blk ?_
     refine N.seq ?_
     refine W.region ?_
     refine WL.move rfl rfl rfl ?_
     refine WL.add (c := (i : Int) + 1) rfl rfl rfl rfl (rfl) (by omega) ?_
     refine WL.assign rfl rfl rfl ?_
     refine WL.nil ?_
     have hS := hS.dropN 1
     have hcn2 := namesR_next hx16; rw [if_pos hc56p, ← hc] at hcn2
     exact N.loop (i + 1, c) ⟨rfl, rfl, rfl, rfl, rfl, rfl, rfl, rfl, rfl, rfl, rfl, rfl, rfl, rfl, rfl, rfl, rfl, rfl, rfl, rfl, rfl, rfl, rfl, trivial⟩ ⟨hS, by omega, by omega⟩ (by first | omega | (simp only; omega))
    refine WL.set 108 (v' := .bool true) rfl (by rw [hg51]) ?_
    refine WL.set 109 (v' := .bool true) rfl (by rw [hg51]) ?_
    have hg51p : x16.kind = 2 := by simpa using hg51
    refine WL.move rfl rfl rfl ?_
    refine WL.bin rfl rfl rfl rfl rfl ?_
    refine WL.set 111 (v' := .bool false) rfl (congrArg Value.bool (show (!decide (oR.kind = 27)) = false from by rw [decide_eq_true (show oR.kind = 27 from by omega)]; rfl)) ?_
    refine WL.pick (v := .bool false) rfl rfl rfl rfl rfl rfl ?_
    refine WL.pick (v := .bool false) rfl rfl rfl rfl rfl rfl ?_
    refine WL.move rfl rfl rfl ?_
    refine WL.fieldAddr fo_34_1 rfl rfl rfl ?_
    refine WL.load1 (v := .int .i64 x16.kind) one_3 rfl rfl rfl (hS.cell 0 rfl rfl) ?_
    refine WL.bin rfl rfl rfl rfl rfl ?_
    refine WL.move rfl rfl rfl ?_
    rcases (Bool.eq_false_or_eq_true (decide (x16.kind = 3))).symm with hg57 | hg57
    ·
     refine WL.set 117 (v' := .bool false) rfl (by rw [hg57]) ?_
     refine WL.set 118 (v' := .bool false) rfl (by rw [hg57]) ?_
     have hg57p : ¬ (x16.kind = 3) := by simpa using hg57
     refine WL.skp rfl rfl ?_
     refine WL.skp rfl rfl ?_
     refine WL.pick (v := .bool false) rfl rfl rfl rfl rfl rfl ?_
     refine WL.move rfl rfl rfl ?_
     refine WL.skp rfl rfl ?_
     refine WL.skp rfl rfl ?_
     refine WL.pick (v := .bool false) rfl rfl rfl rfl rfl rfl ?_
     refine WL.pick (v := .bool false) rfl rfl rfl rfl rfl rfl ?_
     refine WL.move rfl rfl rfl ?_
     refine WL.fieldAddr fo_34_1 rfl rfl rfl ?_
     refine WL.load1 (v := .int .i64 x16.kind) one_3 rfl rfl rfl (hS.cell 0 rfl rfl) ?_
     refine WL.bin rfl rfl rfl rfl rfl ?_
     refine WL.set 130 (v' := .bool false) rfl (congrArg Value.bool (show (decide (x16.kind < 1)) = false from decide_eq_false (show ¬ (x16.kind < 1) from by omega))) ?_
     refine WL.pick (v := .bool false) rfl rfl rfl rfl rfl rfl ?_
     refine WL.move rfl rfl rfl ?_
     refine WL.fieldAddr fo_34_1 rfl rfl rfl ?_
     refine WL.load1 (v := .int .i64 x16.kind) one_3 rfl rfl rfl (hS.cell 0 rfl rfl) ?_
     refine WL.bin rfl rfl rfl rfl rfl ?_
     refine WL.set 135 (v' := .bool false) rfl (congrArg Value.bool (show (decide (3 < x16.kind)) = false from decide_eq_false (show ¬ (3 < x16.kind) from by omega))) ?_
     refine WL.pick (v := .bool false) rfl rfl rfl rfl rfl rfl ?_
     refine WL.nil ?_
     refine N.seq ?_
     refine W.condF rfl ?_
     refine W.skip ?_
     refine N.seq ?_
     refine W.seq ?_
     refine W.region ?_
     refine WL.fieldAddr fo_34_1 rfl rfl rfl ?_
     refine WL.load1 (v := .int .i64 x16.kind) one_3 rfl rfl rfl (hS.cell 0 rfl rfl) ?_
     refine WL.bin rfl rfl rfl rfl rfl ?_
     refine WL.nil ?_
     refine N.seq ?_
     refine W.cond rfl (fun hc58 => ?_) (fun hc58 => ?_)
     ·
      have hc58p : ¬ (x16.kind = 2) := by simpa using hc58
      refine W.region ?_
      refine WL.move rfl rfl rfl ?_
      refine WL.add (c := (c : Int) + 1) rfl rfl rfl rfl (rfl) (by omega) ?_
      refine WL.assign rfl rfl rfl ?_
      refine WL.nil ?_
      refine N.blk ?_
      refine N.seq ?_
      refine W.region ?_
      refine WL.move rfl rfl rfl ?_
      refine WL.add (c := (i : Int) + 1) rfl rfl rfl rfl (rfl) (by omega) ?_
      refine WL.assign rfl rfl rfl ?_
      refine WL.nil ?_
      have hS := hS.dropN 1
      have hcn2 := namesR_next hx16; rw [if_neg hc58p, ← hc] at hcn2
      exact N.loop (i + 1, c + 1) ⟨rfl, rfl, rfl, rfl, rfl, rfl, rfl, rfl, rfl, rfl, rfl, rfl, rfl, rfl, rfl, rfl, rfl, rfl, rfl, rfl, rfl, rfl, rfl, trivial⟩ ⟨hS, by omega, by omega⟩ (by first | omega | (simp only; omega))
     have hc58p : x16.kind = 2 := by simpa using hc58
     refine W.skip ?_
     refine N.blk ?_
     refine N.seq ?_
     refine W.region ?_
     refine WL.move rfl rfl rfl ?_
     refine WL.add (c := (i : Int) + 1) rfl rfl rfl rfl (rfl) (by omega) ?_
     refine WL.assign rfl rfl rfl ?_
     refine WL.nil ?_
     have hS := hS.dropN 1
     have hcn2 := namesR_next hx16; rw [if_pos hc58p, ← hc] at hcn2
     exact N.loop (i + 1, c) ⟨rfl, rfl, rfl, rfl, rfl, rfl, rfl, rfl, rfl, rfl, rfl, rfl, rfl, rfl, rfl, rfl, rfl, rfl, rfl, rfl, rfl, rfl, rfl, trivial⟩ ⟨hS, by omega, by omega⟩ (by first | omega | (simp only; omega))
    refine WL.set 117 (v' := .bool true) rfl (by rw [hg57]) ?_
    refine WL.set 118 (v' := .bool true) rfl (by rw [hg57]) ?_
    have hg57p : x16.kind = 3 := by simpa using hg57
    refine WL.move rfl rfl rfl ?_
    refine WL.bin rfl rfl rfl rfl rfl ?_
    refine WL.pick (v := .bool (!decide (oR.kind = 19))) rfl rfl rfl rfl rfl rfl ?_
    refine WL.move rfl rfl rfl ?_
    rcases (Bool.eq_false_or_eq_true (!decide (oR.kind = 19))).symm with hg59 | hg59
    ·
     refine WL.set 120 (v' := .bool false) rfl (by rw [hg59]) ?_
     refine WL.set 121 (v' := .bool false) rfl (by rw [hg59]) ?_
     refine WL.set 122 (v' := .bool false) rfl (by rw [hg59]) ?_
     have hg59p : oR.kind = 19 := by simpa using hg59
     refine WL.skp rfl rfl ?_
     refine WL.skp rfl rfl ?_
     refine WL.pick (v := .bool false) rfl rfl rfl rfl rfl rfl ?_
     refine WL.pick (v := .bool false) rfl rfl rfl rfl rfl rfl ?_
     refine WL.move rfl rfl rfl ?_
     refine WL.fieldAddr fo_34_1 rfl rfl rfl ?_
     refine WL.load1 (v := .int .i64 x16.kind) one_3 rfl rfl rfl (hS.cell 0 rfl rfl) ?_
     refine WL.bin rfl rfl rfl rfl rfl ?_
     refine WL.set 130 (v' := .bool false) rfl (congrArg Value.bool (show (decide (x16.kind < 1)) = false from decide_eq_false (show ¬ (x16.kind < 1) from by omega))) ?_
     refine WL.pick (v := .bool false) rfl rfl rfl rfl rfl rfl ?_
     refine WL.move rfl rfl rfl ?_
     refine WL.fieldAddr fo_34_1 rfl rfl rfl ?_
     refine WL.load1 (v := .int .i64 x16.kind) one_3 rfl rfl rfl (hS.cell 0 rfl rfl) ?_
     refine WL.bin rfl rfl rfl rfl rfl ?_
     refine WL.set 135 (v' := .bool false) rfl (congrArg Value.bool (show (decide (3 < x16.kind)) = false from decide_eq_false (show ¬ (3 < x16.kind) from by omega))) ?_
     refine WL.pick (v := .bool false) rfl rfl rfl rfl rfl rfl ?_
     refine WL.nil ?_
     refine N.seq ?_
     refine W.condF rfl ?_
     refine W.skip ?_
     refine N.seq ?_
     refine W.seq ?_
     refine W.region ?_
     refine WL.fieldAddr fo_34_1 rfl rfl rfl ?_
     refine WL.load1 (v := .int .i64 x16.kind) one_3 rfl rfl rfl (hS.cell 0 rfl rfl) ?_
     refine WL.bin rfl rfl rfl rfl rfl ?_
     refine WL.nil ?_
     refine N.seq ?_
     refine W.cond rfl (fun hc60 => ?_) (fun hc60 => ?_)
     ·
      have hc60p : ¬ (x16.kind = 2) := by simpa using hc60
      refine W.region ?_
      refine WL.move rfl rfl rfl ?_
      refine WL.add (c := (c : Int) + 1) rfl rfl rfl rfl (rfl) (by omega) ?_
      refine WL.assign rfl rfl rfl ?_
      refine WL.nil ?_
      refine N.blk ?_
      refine N.seq ?_
      refine W.region ?_
      refine WL.move rfl rfl rfl ?_
      refine WL.add (c := (i : Int) + 1) rfl rfl rfl rfl (rfl) (by omega) ?_
      refine WL.assign rfl rfl rfl ?_
      refine WL.nil ?_
      have hS := hS.dropN 1
      have hcn2 := namesR_next hx16; rw [if_neg hc60p, ← hc] at hcn2
      exact N.loop (i + 1, c + 1) ⟨rfl, rfl, rfl, rfl, rfl, rfl, rfl, rfl, rfl, rfl, rfl, rfl, rfl, rfl, rfl, rfl, rfl, rfl, rfl, rfl, rfl, rfl, rfl, trivial⟩ ⟨hS, by omega, by omega⟩ (by first | omega | (simp only; omega))
     have hc60p : x16.kind = 2 := by simpa using hc60
     refine W.skip ?_
     refine N.blk ?_
     refine N.seq ?_
     refine W.region ?_
     refine WL.move rfl rfl rfl ?_
     refine WL.add (c := (i : Int) + 1) rfl rfl rfl rfl (rfl) (by omega) ?_
     refine WL.assign rfl rfl rfl ?_
     refine WL.nil ?_
     have hS := hS.dropN 1
     have hcn2 := namesR_next hx16; rw [if_pos hc60p, ← hc] at hcn2
     exact N.loop (i + 1, c) ⟨rfl, rfl, rfl, rfl, rfl, rfl, rfl, rfl, rfl, rfl, rfl, rfl, rfl, rfl, rfl, rfl, rfl, rfl, rfl, rfl, rfl, rfl, rfl, trivial⟩ ⟨hS, by omega, by omega⟩ (by first | omega | (simp only; omega))
    refine WL.set 120 (v' := .bool true) rfl (by rw [hg59]) ?_
    refine WL.set 121 (v' := .bool true) rfl (by rw [hg59]) ?_
    refine WL.set 122 (v' := .bool true) rfl (by rw [hg59]) ?_
    have hg59p : ¬ (oR.kind = 19) := by simpa using hg59
    refine WL.move rfl rfl rfl ?_
    refine WL.bin rfl rfl rfl rfl rfl ?_
    refine WL.set 124 (v' := .bool false) rfl (congrArg Value.bool (show (!decide (oR.kind = 21)) = false from by rw [decide_eq_true (show oR.kind = 21 from by omega)]; rfl)) ?_
    refine WL.pick (v := .bool false) rfl rfl rfl rfl rfl rfl ?_
    refine WL.pick (v := .bool false) rfl rfl rfl rfl rfl rfl ?_
    refine WL.move rfl rfl rfl ?_
    refine WL.fieldAddr fo_34_1 rfl rfl rfl ?_
    refine WL.load1 (v := .int .i64 x16.kind) one_3 rfl rfl rfl (hS.cell 0 rfl rfl) ?_
    refine WL.bin rfl rfl rfl rfl rfl ?_
    refine WL.set 130 (v' := .bool false) rfl (congrArg Value.bool (show (decide (x16.kind < 1)) = false from decide_eq_false (show ¬ (x16.kind < 1) from by omega))) ?_
    refine WL.pick (v := .bool false) rfl rfl rfl rfl rfl rfl ?_
    refine WL.move rfl rfl rfl ?_
    refine WL.fieldAddr fo_34_1 rfl rfl rfl ?_
    refine WL.load1 (v := .int .i64 x16.kind) one_3 rfl rfl rfl (hS.cell 0 rfl rfl) ?_
    refine WL.bin rfl rfl rfl rfl rfl ?_
    refine WL.set 135 (v' := .bool false) rfl (congrArg Value.bool (show (decide (3 < x16.kind)) = false from decide_eq_false (show ¬ (3 < x16.kind) from by omega))) ?_
    refine WL.pick (v := .bool false) rfl rfl rfl rfl rfl rfl ?_
    refine WL.nil ?_
    refine N.seq ?_
    refine W.condF rfl ?_
    refine W.skip ?_
    refine N.seq ?_
    refine W.seq ?_
    refine W.region ?_
    refine WL.fieldAddr fo_34_1 rfl rfl rfl ?_
    refine WL.load1 (v := .int .i64 x16.kind) one_3 rfl rfl rfl (hS.cell 0 rfl rfl) ?_
    refine WL.bin rfl rfl rfl rfl rfl ?_
    refine WL.nil ?_
    refine N.seq ?_
    refine W.cond rfl (fun hc61 => ?_) (fun hc61 => ?_)
    ·
     have hc61p : ¬ (x16.kind = 2) := by simpa using hc61
     refine W.region ?_
     refine WL.move rfl rfl rfl ?_
     refine WL.add (c := (c : Int) + 1) rfl rfl rfl rfl (rfl) (by omega) ?_
     refine WL.assign rfl rfl rfl ?_
     refine WL.nil ?_
     refine N.blk ?_
     refine N.seq ?_
     refine W.region ?_
     refine WL.move rfl rfl rfl ?_
     refine WL.add (c := (i : Int) + 1) rfl rfl rfl rfl (rfl) (by omega) ?_
     refine WL.assign rfl rfl rfl ?_
     refine WL.nil ?_
     have hS := hS.dropN 1
     have hcn2 := namesR_next hx16; rw [if_neg hc61p, ← hc] at hcn2
     exact N.loop (i + 1, c + 1) ⟨rfl, rfl, rfl, rfl, rfl, rfl, rfl, rfl, rfl, rfl, rfl, rfl, rfl, rfl, rfl, rfl, rfl, rfl, rfl, rfl, rfl, rfl, rfl, trivial⟩ ⟨hS, by omega, by omega⟩ (by first | omega | (simp only; omega))
    have hc61p : x16.kind = 2 := by simpa using hc61
    refine W.skip ?_
    refine N.blk ?_
    refine N.seq ?_
    refine W.region ?_
    refine WL.move rfl rfl rfl ?_
    refine WL.add (c := (i : Int) + 1) rfl rfl rfl rfl (rfl) (by omega) ?_
    refine WL.assign rfl rfl rfl ?_
    refine WL.nil ?_
    have hS := hS.dropN 1
    have hcn2 := namesR_next hx16; rw [if_pos hc61p, ← hc] at hcn2
    exact N.loop (i + 1, c) ⟨rfl, rfl, rfl, rfl, rfl, rfl, rfl, rfl, rfl, rfl, rfl, rfl, rfl, rfl, rfl, rfl, rfl, rfl, rfl, rfl, rfl, rfl, rfl, trivial⟩ ⟨hS, by omega, by omega⟩ (by first | omega | (simp only; omega))
   refine WL.set 100 (v' := .bool true) rfl (by rw [hg50]) ?_
   refine WL.set 101 (v' := .bool true) rfl (by rw [hg50]) ?_
   have hg50p : x16.kind = 1 := by simpa using hg50
   refine WL.move rfl rfl rfl ?_
   refine WL.bin rfl rfl rfl rfl rfl ?_
   refine WL.set 103 (v' := .bool false) rfl (congrArg Value.bool (show (!decide (oR.kind = 29)) = false from by rw [decide_eq_true (show oR.kind = 29 from by omega)]; rfl)) ?_
   refine WL.pick (v := .bool false) rfl rfl rfl rfl rfl rfl ?_
   refine WL.move rfl rfl rfl ?_
   refine WL.fieldAddr fo_34_1 rfl rfl rfl ?_
   refine WL.load1 (v := .int .i64 x16.kind) one_3 rfl rfl rfl (hS.cell 0 rfl rfl) ?_
   refine WL.bin rfl rfl rfl rfl rfl ?_
   refine WL.move rfl rfl rfl ?_
   rcases (Bool.eq_false_or_eq_true (decide (x16.kind = 2))).symm with hg62 | hg62
   ·
    refine WL.set 108 (v' := .bool false) rfl (by rw [hg62]) ?_
    refine WL.set 109 (v' := .bool false) rfl (by rw [hg62]) ?_
    have hg62p : ¬ (x16.kind = 2) := by simpa using hg62
    refine WL.skp rfl rfl ?_
    refine WL.skp rfl rfl ?_
    refine WL.pick (v := .bool false) rfl rfl rfl rfl rfl rfl ?_
    refine WL.pick (v := .bool false) rfl rfl rfl rfl rfl rfl ?_
    refine WL.move rfl rfl rfl ?_
    refine WL.fieldAddr fo_34_1 rfl rfl rfl ?_
    refine WL.load1 (v := .int .i64 x16.kind) one_3 rfl rfl rfl (hS.cell 0 rfl rfl) ?_
    refine WL.bin rfl rfl rfl rfl rfl ?_
    refine WL.move rfl rfl rfl ?_
    rcases (Bool.eq_false_or_eq_true (decide (x16.kind = 3))).symm with hg63 | hg63
    ·
     refine WL.set 117 (v' := .bool false) rfl (by rw [hg63]) ?_
     refine WL.set 118 (v' := .bool false) rfl (by rw [hg63]) ?_
     have hg63p : ¬ (x16.kind = 3) := by simpa using hg63
     refine WL.skp rfl rfl ?_
     refine WL.skp rfl rfl ?_
     refine WL.pick (v := .bool false) rfl rfl rfl rfl rfl rfl ?_
     refine WL.move rfl rfl rfl ?_
     refine WL.skp rfl rfl ?_
     refine WL.skp rfl rfl ?_
     refine WL.pick (v := .bool false) rfl rfl rfl rfl rfl rfl ?_
     refine WL.pick (v := .bool false) rfl rfl rfl rfl rfl rfl ?_
     refine WL.move rfl rfl rfl ?_
     refine WL.fieldAddr fo_34_1 rfl rfl rfl ?_
     refine WL.load1 (v := .int .i64 x16.kind) one_3 rfl rfl rfl (hS.cell 0 rfl rfl) ?_
     refine WL.bin rfl rfl rfl rfl rfl ?_
     refine WL.set 130 (v' := .bool false) rfl (congrArg Value.bool (show (decide (x16.kind < 1)) = false from decide_eq_false (show ¬ (x16.kind < 1) from by omega))) ?_
     refine WL.pick (v := .bool false) rfl rfl rfl rfl rfl rfl ?_
     refine WL.move rfl rfl rfl ?_
     refine WL.fieldAddr fo_34_1 rfl rfl rfl ?_
     refine WL.load1 (v := .int .i64 x16.kind) one_3 rfl rfl rfl (hS.cell 0 rfl rfl) ?_
     refine WL.bin rfl rfl rfl rfl rfl ?_
     refine WL.set 135 (v' := .bool false) rfl (congrArg Value.bool (show (decide (3 < x16.kind)) = false from decide_eq_false (show ¬ (3 < x16.kind) from by omega))) ?_
     refine WL.pick (v := .bool false) rfl rfl rfl rfl rfl rfl ?_
     refine WL.nil ?_
     refine N.seq ?_
     refine W.condF rfl ?_
     refine W.skip ?_
     refine N.seq ?_
     refine W.seq ?_
     refine W.region ?_
     refine WL.fieldAddr fo_34_1 rfl rfl rfl ?_
     refine WL.load1 (v := .int .i64 x16.kind) one_3 rfl rfl rfl (hS.cell 0 rfl rfl) ?_
     refine WL.bin rfl rfl rfl rfl rfl ?_
     refine WL.nil ?_
     refine N.seq ?_
     refine W.cond rfl (fun hc64 => ?_) (fun hc64 => ?_)
     ·
      have hc64p : ¬ (x16.kind = 2) := by simpa using hc64
      refine W.region ?_
      refine WL.move rfl rfl rfl ?_
      refine WL.add (c := (c : Int) + 1) rfl rfl rfl rfl (rfl) (by omega) ?_
      refine WL.assign rfl rfl rfl ?_
      refine WL.nil ?_
      refine N.blk ?_
      refine N.seq ?_
      refine W.region ?_
      refine WL.move rfl rfl rfl ?_
      refine WL.add (c := (i : Int) + 1) rfl rfl rfl rfl (rfl) (by omega) ?_
      refine WL.assign rfl rfl rfl ?_
      refine WL.nil ?_
      have hS := hS.dropN 1
      have hcn2 := namesR_next hx16; rw [if_neg hc64p, ← hc] at hcn2
      exact N.loop (i + 1, c + 1) ⟨rfl, rfl, rfl, rfl, rfl, rfl, rfl, rfl, rfl, rfl, rfl, rfl, rfl, rfl, rfl, rfl, rfl, rfl, rfl, rfl, rfl, rfl, rfl, trivial⟩ ⟨hS, by omega, by omega⟩ (by first | omega | (simp only; omega))
     have hc64p : x16.kind = 2 := by simpa using hc64
     refine W.skip ?_
     refine N.blk ?_
     refine N.seq ?_
     refine W.region ?_
     refine WL.move rfl rfl rfl ?_
     refine WL.add (c := (i : Int) + 1) rfl rfl rfl rfl (rfl) (by omega) ?_
     refine WL.assign rfl rfl rfl ?_
     refine WL.nil ?_
     have hS := hS.dropN 1
     have hcn2 := namesR_next hx16; rw [if_pos hc64p, ← hc] at hcn2
     exact N.loop (i + 1, c) ⟨rfl, rfl, rfl, rfl, rfl, rfl, rfl, rfl, rfl, rfl, rfl, rfl, rfl, rfl, rfl, rfl, rfl, rfl, rfl, rfl, rfl, rfl, rfl, trivial⟩ ⟨hS, by omega, by omega⟩ (by first | omega | (simp only; omega))
    refine WL.set 117 (v' := .bool true) rfl (by rw [hg63]) ?_
    refine WL.set 118 (v' := .bool true) rfl (by rw [hg63]) ?_
    have hg63p : x16.kind = 3 := by simpa using hg63
    refine WL.move rfl rfl rfl ?_
    refine WL.bin rfl rfl rfl rfl rfl ?_
    refine WL.pick (v := .bool (!decide (oR.kind = 19))) rfl rfl rfl rfl rfl rfl ?_
    refine WL.move rfl rfl rfl ?_
    rcases (Bool.eq_false_or_eq_true (!decide (oR.kind = 19))).symm with hg65 | hg65
    ·
     refine WL.set 120 (v' := .bool false) rfl (by rw [hg65]) ?_
     refine WL.set 121 (v' := .bool false) rfl (by rw [hg65]) ?_
     refine WL.set 122 (v' := .bool false) rfl (by rw [hg65]) ?_
     have hg65p : oR.kind = 19 := by simpa using hg65
     refine WL.skp rfl rfl ?_
     refine WL.skp rfl rfl ?_
     refine WL.pick (v := .bool false) rfl rfl rfl rfl rfl rfl ?_
     refine WL.pick (v := .bool false) rfl rfl rfl rfl rfl rfl ?_
     refine WL.move rfl rfl rfl ?_
     refine WL.fieldAddr fo_34_1 rfl rfl rfl ?_
     refine WL.load1 (v := .int .i64 x16.kind) one_3 rfl rfl rfl (hS.cell 0 rfl rfl) ?_
     refine WL.bin rfl rfl rfl rfl rfl ?_
     refine WL.set 130 (v' := .bool false) rfl (congrArg Value.bool (show (decide (x16.kind < 1)) = false from decide_eq_false (show ¬ (x16.kind < 1) from by omega))) ?_
     refine WL.pick (v := .bool false) rfl rfl rfl rfl rfl rfl ?_
     refine WL.move rfl rfl rfl ?_
     refine WL.fieldAddr fo_34_1 rfl rfl rfl ?_
     refine WL.load1 (v := .int .i64 x16.kind) one_3 rfl rfl rfl (hS.cell 0 rfl rfl) ?_
     refine WL.bin rfl rfl rfl rfl rfl ?_
     refine WL.set 135 (v' := .bool false) rfl (congrArg Value.bool (show (decide (3 < x16.kind)) = false from decide_eq_false (show ¬ (3 < x16.kind) from by omega))) ?_
     refine WL.pick (v := .bool false) rfl rfl rfl rfl rfl rfl ?_
     refine WL.nil ?_
     refine N.seq ?_
     refine W.condF rfl ?_
     refine W.skip ?_
     refine N.seq ?_
     refine W.seq ?_
     refine W.region ?_
     refine WL.fieldAddr fo_34_1 rfl rfl rfl ?_
     refine WL.load1 (v := .int .i64 x16.kind) one_3 rfl rfl rfl (hS.cell 0 rfl rfl) ?_
     refine WL.bin rfl rfl rfl rfl rfl ?_
     refine WL.nil ?_
     refine N.seq ?_
     refine W.cond rfl (fun hc66 => ?_) (fun hc66 => ?_)
     ·
      have hc66p : ¬ (x16.kind = 2) := by simpa using hc66
      refine W.region ?_
      refine WL.move rfl rfl rfl ?_
      refine WL.add (c := (c : Int) + 1) rfl rfl rfl rfl (rfl) (by omega) ?_
      refine WL.assign rfl rfl rfl ?_
      refine WL.nil ?_
      refine N.blk ?_
      refine N.seq ?_
      refine W.region ?_
      refine WL.move rfl rfl rfl ?_
      refine WL.add (c := (i : Int) + 1) rfl rfl rfl rfl (rfl) (by omega) ?_
      refine WL.assign rfl rfl rfl ?_
      refine WL.nil ?_
      have hS := hS.dropN 1
      have hcn2 := namesR_next hx16; rw [if_neg hc66p, ← hc] at hcn2
      exact N.loop (i + 1, c + 1) ⟨rfl, rfl, rfl, rfl, rfl, rfl, rfl, rfl, rfl, rfl, rfl, rfl, rfl, rfl, rfl, rfl, rfl, rfl, rfl, rfl, rfl, rfl, rfl, trivial⟩ ⟨hS, by omega, by omega⟩ (by first | omega | (simp only; omega))
     have hc66p : x16.kind = 2 := by simpa using hc66
     refine W.skip ?_
     refine N.blk ?_
     refine N.seq ?_
     refine W.region ?_
     refine WL.move rfl rfl rfl ?_
     refine WL.add (c := (i : Int) + 1) rfl rfl rfl rfl (rfl) (by omega) ?_
     refine WL.assign rfl rfl rfl ?_
     refine WL.nil ?_
     have hS := hS.dropN 1
     have hcn2 := namesR_next hx16; rw [if_pos hc66p, ← hc] at hcn2
     exact N.loop (i + 1, c) ⟨rfl, rfl, rfl, rfl, rfl, rfl, rfl, rfl, rfl, rfl, rfl, rfl, rfl, rfl, rfl, rfl, rfl, rfl, rfl, rfl, rfl, rfl, rfl, trivial⟩ ⟨hS, by omega, by omega⟩ (by first | omega | (simp only; omega))
    refine WL.set 120 (v' := .bool true) rfl (by rw [hg65]) ?_
    refine WL.set 121 (v' := .bool true) rfl (by rw [hg65]) ?_
    refine WL.set 122 (v' := .bool true) rfl (by rw [hg65]) ?_
    have hg65p : ¬ (oR.kind = 19) := by simpa using hg65
    refine WL.move rfl rfl rfl ?_
    refine WL.bin rfl rfl rfl rfl rfl ?_
    refine WL.set 124 (v' := .bool false) rfl (congrArg Value.bool (show (!decide (oR.kind = 21)) = false from by rw [decide_eq_true (show oR.kind = 21 from by omega)]; rfl)) ?_
    refine WL.pick (v := .bool false) rfl rfl rfl rfl rfl rfl ?_
    refine WL.pick (v := .bool false) rfl rfl rfl rfl rfl rfl ?_
    refine WL.move rfl rfl rfl ?_
    refine WL.fieldAddr fo_34_1 rfl rfl rfl ?_
    refine WL.load1 (v := .int .i64 x16.kind) one_3 rfl rfl rfl (hS.cell 0 rfl rfl) ?_
    refine WL.bin rfl rfl rfl rfl rfl ?_
    refine WL.set 130 (v' := .bool false) rfl (congrArg Value.bool (show (decide (x16.kind < 1)) = false from decide_eq_false (show ¬ (x16.kind < 1) from by omega))) ?_
    refine WL.pick (v := .bool false) rfl rfl rfl rfl rfl rfl ?_
    refine WL.move rfl rfl rfl ?_
    refine WL.fieldAddr fo_34_1 rfl rfl rfl ?_
    refine WL.load1 (v := .int .i64 x16.kind) one_3 rfl rfl rfl (hS.cell 0 rfl rfl) ?_
    refine WL.bin rfl rfl rfl rfl rfl ?_
    refine WL.set 135 (v' := .bool false) rfl (congrArg Value.bool (show (decide (3 < x16.kind)) = false from decide_eq_false (show ¬ (3 < x16.kind) from by omega))) ?_
    refine WL.pick (v := .bool false) rfl rfl rfl rfl rfl rfl ?_
    refine WL.nil ?_
    refine N.seq ?_
    refine W.condF rfl ?_
    refine W.skip ?_
    refine N.seq ?_
    refine W.seq ?_
    refine W.region ?_
    refine WL.fieldAddr fo_34_1 rfl rfl rfl ?_
    refine WL.load1 (v := .int .i64 x16.kind) one_3 rfl rfl rfl (hS.cell 0 rfl rfl) ?_
    refine WL.bin rfl rfl rfl rfl rfl ?_
    refine WL.nil ?_
    refine N.seq ?_
    refine W.cond rfl (fun hc67 => ?_) (fun hc67 => ?_)
    ·
     have hc67p : ¬ (x16.kind = 2) := by simpa using hc67
     refine W.region ?_
     refine WL.move rfl rfl rfl ?_
     refine WL.add (c := (c : Int) + 1) rfl rfl rfl rfl (rfl) (by omega) ?_
     refine WL.assign rfl rfl rfl ?_
     refine WL.nil ?_
     refine N.blk ?_
     refine N.seq ?_
     refine W.region ?_
     refine WL.move rfl rfl rfl ?_
     refine WL.add (c := (i : Int) + 1) rfl rfl rfl rfl (rfl) (by omega) ?_
     refine WL.assign rfl rfl rfl ?_
     refine WL.nil ?_
     have hS := hS.dropN 1
     have hcn2 := namesR_next hx16; rw [if_neg hc67p, ← hc] at hcn2
     exact N.loop (i + 1, c + 1) ⟨rfl, rfl, rfl, rfl, rfl, rfl, rfl, rfl, rfl, rfl, rfl, rfl, rfl, rfl, rfl, rfl, rfl, rfl, rfl, rfl, rfl, rfl, rfl, trivial⟩ ⟨hS, by omega, by omega⟩ (by first | omega | (simp only; omega))
    have hc67p : x16.kind = 2 := by simpa using hc67
    refine W.skip ?_
    refine N.blk ?_
    refine N.seq ?_
    refine W.region ?_
    refine WL.move rfl rfl rfl ?_
    refine WL.add (c := (i : Int) + 1) rfl rfl rfl rfl (rfl) (by omega) ?_
    refine WL.assign rfl rfl rfl ?_
    refine WL.nil ?_
    have hS := hS.dropN 1
    have hcn2 := namesR_next hx16; rw [if_pos hc67p, ← hc] at hcn2
    exact N.loop (i + 1, c) ⟨rfl, rfl, rfl, rfl, rfl, rfl, rfl, rfl, rfl, rfl, rfl, rfl, rfl, rfl, rfl, rfl, rfl, rfl, rfl, rfl, rfl, rfl, rfl, trivial⟩ ⟨hS, by omega, by omega⟩ (by first | omega | (simp only; omega))
   refine WL.set 108 (v' := .bool true) rfl (by rw [hg62]) ?_
   refine WL.set 109 (v' := .bool true) rfl (by rw [hg62]) ?_
   have hg62p : x16.kind = 2 := by simpa using hg62
   refine WL.move rfl rfl rfl ?_
   refine WL.bin rfl rfl rfl rfl rfl ?_
   refine WL.set 111 (v' := .bool false) rfl (congrArg Value.bool (show (!decide (oR.kind = 27)) = false from by rw [decide_eq_true (show oR.kind = 27 from by omega)]; rfl)) ?_
   refine WL.pick (v := .bool false) rfl rfl rfl rfl rfl rfl ?_
   refine WL.pick (v := .bool false) rfl rfl rfl rfl rfl rfl ?_
   refine WL.move rfl rfl rfl ?_
   refine WL.fieldAddr fo_34_1 rfl rfl rfl ?_
   refine WL.load1 (v := .int .i64 x16.kind) one_3 rfl rfl rfl (hS.cell 0 rfl rfl) ?_
   refine WL.bin rfl rfl rfl rfl rfl ?_
   refine WL.move rfl rfl rfl ?_
   rcases (Bool.eq_false_or_eq_true (decide (x16.kind = 3))).symm with hg68 | hg68
   ·
    refine WL.set 117 (v' := .bool false) rfl (by rw [hg68]) ?_
    refine WL.set 118 (v' := .bool false) rfl (by rw [hg68]) ?_
    have hg68p : ¬ (x16.kind = 3) := by simpa using hg68
    refine WL.skp rfl rfl ?_
    refine WL.skp rfl rfl ?_
    refine WL.pick (v := .bool false) rfl rfl rfl rfl rfl rfl ?_
    refine WL.move rfl rfl rfl ?_
    refine WL.skp rfl rfl ?_
    refine WL.skp rfl rfl ?_
    refine WL.pick (v := .bool false) rfl rfl rfl rfl rfl rfl ?_
    refine WL.pick (v := .bool false) rfl rfl rfl rfl rfl rfl ?_
    refine WL.move rfl rfl rfl ?_
    refine WL.fieldAddr fo_34_1 rfl rfl rfl ?_
    refine WL.load1 (v := .int .i64 x16.kind) one_3 rfl rfl rfl (hS.cell 0 rfl rfl) ?_
    refine WL.bin rfl rfl rfl rfl rfl ?_
    refine WL.set 130 (v' := .bool false) rfl (congrArg Value.bool (show (decide (x16.kind < 1)) = false from decide_eq_false (show ¬ (x16.kind < 1) from by omega))) ?_
    refine WL.pick (v := .bool false) rfl rfl rfl rfl rfl rfl ?_
    refine WL.move rfl rfl rfl ?_
    refine WL.fieldAddr fo_34_1 rfl rfl rfl ?_
    refine WL.load1 (v := .int .i64 x16.kind) one_3 rfl rfl rfl (hS.cell 0 rfl rfl) ?_
    refine WL.bin rfl rfl rfl rfl rfl ?_
    refine WL.set 135 (v' := .bool false) rfl (congrArg Value.bool (show (decide (3 < x16.kind)) = false from decide_eq_false (show ¬ (3 < x16.kind) from by omega))) ?_
    refine WL.pick (v := .bool false) rfl rfl rfl rfl rfl rfl ?_
    refine WL.nil ?_
    refine N.seq ?_
    refine W.condF rfl ?_
    refine W.skip ?_
    refine N.seq ?_
    refine W.seq ?_
    refine W.region ?_
    refine WL.fieldAddr fo_34_1 rfl rfl rfl ?_
    refine WL.load1 (v := .int .i64 x16.kind) one_3 rfl rfl rfl (hS.cell 0 rfl rfl) ?_
    refine WL.bin rfl rfl rfl rfl rfl ?_
    refine WL.nil ?_
    refine N.seq ?_
    refine W.cond rfl (fun hc69 => ?_) (fun hc69 => ?_)
    ·
     have hc69p : ¬ (x16.kind = 2) := by simpa using hc69
     refine W.region ?_
     refine WL.move rfl rfl rfl ?_
     refine WL.add (c := (c : Int) + 1) rfl rfl rfl rfl (rfl) (by omega) ?_
     refine WL.assign rfl rfl rfl ?_
     refine WL.nil ?_
     refine N.blk ?_
     refine N.seq ?_
     refine W.region ?_
     refine WL.move rfl rfl rfl ?_
     refine WL.add (c := (i : Int) + 1) rfl rfl rfl rfl (rfl) (by omega) ?_
     refine WL.assign rfl rfl rfl ?_
     refine WL.nil ?_
     have hS := hS.dropN 1
     have hcn2 := namesR_next hx16; rw [if_neg hc69p, ← hc] at hcn2
     exact N.loop (i + 1, c + 1) ⟨rfl, rfl, rfl, rfl, rfl, rfl, rfl, rfl, rfl, rfl, rfl, rfl, rfl, rfl, rfl, rfl, rfl, rfl, rfl, rfl, rfl, rfl, rfl, trivial⟩ ⟨hS, by omega, by omega⟩ (by first | omega | (simp only; omega))
    have hc69p : x16.kind = 2 := by simpa using hc69
    refine W.skip ?_
    refine N.blk ?_
    refine N.seq ?_
    refine W.region ?_
    refine WL.move rfl rfl rfl ?_
    refine WL.add (c := (i : Int) + 1) rfl rfl rfl rfl (rfl) (by omega) ?_
    refine WL.assign rfl rfl rfl ?_
    refine WL.nil ?_
    have hS := hS.dropN 1
    have hcn2 := namesR_next hx16; rw [if_pos hc69p, ← hc] at hcn2
    exact N.loop (i + 1, c) ⟨rfl, rfl, rfl, rfl, rfl, rfl, rfl, rfl, rfl, rfl, rfl, rfl, rfl, rfl, rfl, rfl, rfl, rfl, rfl, rfl, rfl, rfl, rfl, trivial⟩ ⟨hS, by omega, by omega⟩ (by first | omega | (simp only; omega))
   refine WL.set 117 (v' := .bool true) rfl (by rw [hg68]) ?_
   refine WL.set 118 (v' := .bool true) rfl (by rw [hg68]) ?_
   have hg68p : x16.kind = 3 := by simpa using hg68
   refine WL.move rfl rfl rfl ?_
   refine WL.bin rfl rfl rfl rfl rfl ?_
   refine WL.pick (v := .bool (!decide (oR.kind = 19))) rfl rfl rfl rfl rfl rfl ?_
   refine WL.move rfl rfl rfl ?_
   rcases (Bool.eq_false_or_eq_true (!decide (oR.kind = 19))).symm with hg70 | hg70
   ·
    refine WL.set 120 (v' := .bool false) rfl (by rw [hg70]) ?_
    refine WL.set 121 (v' := .bool false) rfl (by rw [hg70]) ?_
    refine WL.set 122 (v' := .bool false) rfl (by rw [hg70]) ?_
    have hg70p : oR.kind = 19 := by simpa using hg70
    refine WL.skp rfl rfl ?_
    refine WL.skp rfl rfl ?_
    refine WL.pick (v := .bool false) rfl rfl rfl rfl rfl rfl ?_
    refine WL.pick (v := .bool false) rfl rfl rfl rfl rfl rfl ?_
    refine WL.move rfl rfl rfl ?_
    refine WL.fieldAddr fo_34_1 rfl rfl rfl ?_
    refine WL.load1 (v := .int .i64 x16.kind) one_3 rfl rfl rfl (hS.cell 0 rfl rfl) ?_
    refine WL.bin rfl rfl rfl rfl rfl ?_
    refine WL.set 130 (v' := .bool false) rfl (congrArg Value.bool (show (decide (x16.kind < 1)) = false from decide_eq_false (show ¬ (x16.kind < 1) from by omega))) ?_
    refine WL.pick (v := .bool false) rfl rfl rfl rfl rfl rfl ?_
    refine WL.move rfl rfl rfl ?_
    refine WL.fieldAddr fo_34_1 rfl rfl rfl ?_
    refine WL.load1 (v := .int .i64 x16.kind) one_3 rfl rfl rfl (hS.cell 0 rfl rfl) ?_
    refine WL.bin rfl rfl rfl rfl rfl ?_
    refine WL.set 135 (v' := .bool false) rfl (congrArg Value.bool (show (decide (3 < x16.kind)) = false from decide_eq_false (show ¬ (3 < x16.kind) from by omega))) ?_
    refine WL.pick (v := .bool false) rfl rfl rfl rfl rfl rfl ?_
    refine WL.nil ?_
    refine N.seq ?_
    refine W.condF rfl ?_
    refine W.skip ?_
    refine N.seq ?_
    refine W.seq ?_
    refine W.region ?_
    refine WL.fieldAddr fo_34_1 rfl rfl rfl ?_
    refine WL.load1 (v := .int .i64 x16.kind) one_3 rfl rfl rfl (hS.cell 0 rfl rfl) ?_
    refine WL.bin rfl rfl rfl rfl rfl ?_
    refine WL.nil ?_
    refine N.seq ?_
    refine W.cond rfl (fun hc71 => ?_) (fun hc71 => ?_)
    ·
     have hc71p : ¬ (x16.kind = 2) := by simpa using hc71
     refine W.region ?_
     refine WL.move rfl rfl rfl ?_
     refine WL.add (c := (c : Int) + 1) rfl rfl rfl rfl (rfl) (by omega) ?_
     refine WL.assign rfl rfl rfl ?_
     refine WL.nil ?_
     refine N.blk ?_
     refine N.seq ?_
     refine W.region ?_
     refine WL.move rfl rfl rfl ?_
     refine WL.add (c := (i : Int) + 1) rfl rfl rfl rfl (rfl) (by omega) ?_
     refine WL.assign rfl rfl rfl ?_
     refine WL.nil ?_
     have hS := hS.dropN 1
     have hcn2 := namesR_next hx16; rw [if_neg hc71p, ← hc] at hcn2
     exact N.loop (i + 1, c + 1) ⟨rfl, rfl, rfl, rfl, rfl, rfl, rfl, rfl, rfl, rfl, rfl, rfl, rfl, rfl, rfl, rfl, rfl, rfl, rfl, rfl, rfl, rfl, rfl, trivial⟩ ⟨hS, by omega, by omega⟩ (by first | omega | (simp only; omega))
    have hc71p : x16.kind = 2 := by simpa using hc71
    refine W.skip ?_
    refine N.blk ?_
    refine N.seq ?_
    refine W.region ?_
    refine WL.move rfl rfl rfl ?_
    refine WL.add (c := (i : Int) + 1) rfl rfl rfl rfl (rfl) (by omega) ?_
    refine WL.assign rfl rfl rfl ?_
    refine WL.nil ?_
    have hS := hS.dropN 1
    have hcn2 := namesR_next hx16; rw [if_pos hc71p, ← hc] at hcn2
    exact N.loop (i + 1, c) ⟨rfl, rfl, rfl, rfl, rfl, rfl, rfl, rfl, rfl, rfl, rfl, rfl, rfl, rfl, rfl, rfl, rfl, rfl, rfl, rfl, rfl, rfl, rfl, trivial⟩ ⟨hS, by omega, by omega⟩ (by first | omega | (simp only; omega))
   refine WL.set 120 (v' := .bool true) rfl (by rw [hg70]) ?_
   refine WL.set 121 (v' := .bool true) rfl (by rw [hg70]) ?_
   refine WL.set 122 (v' := .bool true) rfl (by rw [hg70]) ?_
   have hg70p : ¬ (oR.kind = 19) := by simpa using hg70
   refine WL.move rfl rfl rfl ?_
   refine WL.bin rfl rfl rfl rfl rfl ?_
   refine WL.set 124 (v' := .bool false) rfl (congrArg Value.bool (show (!decide (oR.kind = 21)) = false from by rw [decide_eq_true (show oR.kind = 21 from by omega)]; rfl)) ?_
   refine WL.pick (v := .bool false) rfl rfl rfl rfl rfl rfl ?_
   refine WL.pick (v := .bool false) rfl rfl rfl rfl rfl rfl ?_
   refine WL.move rfl rfl rfl ?_
   refine WL.fieldAddr fo_34_1 rfl rfl rfl ?_
   refine WL.load1 (v := .int .i64 x16.kind) one_3 rfl rfl rfl (hS.cell 0 rfl rfl) ?_
   refine WL.bin rfl rfl rfl rfl rfl ?_
   refine WL.set 130 (v' := .bool false) rfl (congrArg Value.bool (show (decide (x16.kind < 1)) = false from decide_eq_false (show ¬ (x16.kind < 1) from by omega))) ?_
   refine WL.pick (v := .bool false) rfl rfl rfl rfl rfl rfl ?_
   refine WL.move rfl rfl rfl ?_
   refine WL.fieldAddr fo_34_1 rfl rfl rfl ?_
   refine WL.load1 (v := .int .i64 x16.kind) one_3 rfl rfl rfl (hS.cell 0 rfl rfl) ?_
   refine WL.bin rfl rfl rfl rfl rfl ?_
   refine WL.set 135 (v' := .bool false) rfl (congrArg Value.bool (show (decide (3 < x16.kind)) = false from decide_eq_false (show ¬ (3 < x16.kind) from by omega))) ?_
   refine WL.pick (v := .bool false) rfl rfl rfl rfl rfl rfl ?_
   refine WL.nil ?_
   refine N.seq ?_
   refine W.condF rfl ?_
   refine W.skip ?_
   refine N.seq ?_
   refine W.seq ?_
   refine W.region ?_
   refine WL.fieldAddr fo_34_1 rfl rfl rfl ?_
   refine WL.load1 (v := .int .i64 x16.kind) one_3 rfl rfl rfl (hS.cell 0 rfl rfl) ?_
   refine WL.bin rfl rfl rfl rfl rfl ?_
   refine WL.nil ?_
   refine N.seq ?_
   refine W.cond rfl (fun hc72 => ?_) (fun hc72 => ?_)
   ·
    have hc72p : ¬ (x16.kind = 2) := by simpa using hc72
    refine W.region ?_
    refine WL.move rfl rfl rfl ?_
    refine WL.add (c := (c : Int) + 1) rfl rfl rfl rfl (rfl) (by omega) ?_
    refine WL.assign rfl rfl rfl ?_
    refine WL.nil ?_
    refine N.blk ?_
    refine N.seq ?_
    refine W.region ?_
    refine WL.move rfl rfl rfl ?_
    refine WL.add (c := (i : Int) + 1) rfl rfl rfl rfl (rfl) (by omega) ?_
    refine WL.assign rfl rfl rfl ?_
    refine WL.nil ?_
    have hS := hS.dropN 1
    have hcn2 := namesR_next hx16; rw [if_neg hc72p, ← hc] at hcn2
    exact N.loop (i + 1, c + 1) ⟨rfl, rfl, rfl, rfl, rfl, rfl, rfl, rfl, rfl, rfl, rfl, rfl, rfl, rfl, rfl, rfl, rfl, rfl, rfl, rfl, rfl, rfl, rfl, trivial⟩ ⟨hS, by omega, by omega⟩ (by first | omega | (simp only; omega))
   have hc72p : x16.kind = 2 := by simpa using hc72
   refine W.skip ?_
   refine N.blk ?_
   refine N.seq ?_
   refine W.region ?_
   refine WL.move rfl rfl rfl ?_
   refine WL.add (c := (i : Int) + 1) rfl rfl rfl rfl (rfl) (by omega) ?_
   refine WL.assign rfl rfl rfl ?_
   refine WL.nil ?_
   have hS := hS.dropN 1
   have hcn2 := namesR_next hx16; rw [if_pos hc72p, ← hc] at hcn2
   exact N.loop (i + 1, c) ⟨rfl, rfl, rfl, rfl, rfl, rfl, rfl, rfl, rfl, rfl, rfl, rfl, rfl, rfl, rfl, rfl, rfl, rfl, rfl, rfl, rfl, rfl, rfl, trivial⟩ ⟨hS, by omega, by omega⟩ (by first | omega | (simp only; omega))
  have hc15p : ¬ ((i : Int) < (((func17 f).rels).length : Int)) := by simpa using hc15
  refine W.exit ?_
  refine X.seq ?_
  refine X.loop ?_
  refine X.blk ?_
  refine N.seq ?_
  refine W.seq ?_
  refine W.region ?_
  refine WL.move rfl rfl rfl ?_
  refine WL.move rfl rfl rfl ?_
  refine WL.move rfl rfl rfl ?_
  refine WL.move rfl rfl rfl ?_
  refine WL.lenSlice Tryd.underlying38 rfl rfl rfl ?_
  refine WL.bin rfl rfl rfl rfl rfl ?_
  refine WL.set 147 (v' := .bool true) rfl (congrArg Value.bool (show (decide ((c : Int) = ((refs5 f).length : Int))) = true from decide_eq_true (show (c : Int) = ((refs5 f).length : Int) from by have h : (func17 f).rels.take i = (func17 f).rels := List.take_of_length_le (by omega); rw [h, (func_rels hokG).2.2, ← refs_eq] at hc; omega))) ?_
  refine WL.pick (v := .bool true) rfl rfl rfl rfl rfl rfl ?_
  refine WL.assign rfl rfl rfl ?_
  refine WL.nil ?_
  refine N.seq ?_
  refine Fin.ret1 rfl (v := .bool true) rfl ?_
  exact ⟨rfl, hS.below⟩
 refine WL.set 15 (v' := .bool true) rfl (by rw [hg5]) ?_
 refine WL.set 16 (v' := .bool true) rfl (by rw [hg5]) ?_
 refine WL.skp rfl rfl ?_
 refine WL.skp rfl rfl ?_
 refine WL.skp rfl rfl ?_
 refine WL.skp rfl rfl ?_
 refine WL.pick (v := .bool true) rfl rfl rfl rfl rfl rfl ?_
 refine WL.nil ?_
 refine N.seq ?_
 refine W.condT rfl ?_
 refine W.seq ?_
 refine W.region ?_
 refine WL.move rfl rfl rfl ?_
 refine WL.assign rfl rfl rfl ?_
 refine WL.nil ?_
 refine N.seq ?_
 refine Fin.ret1 rfl (v := .bool true) rfl ?_
 exact ⟨rfl, hS.below⟩

end Go.Proofs.YtcmmhfknkldmcaaDoor
