/-
  Contracts of layer 17 (gen). No condition beyond those that each theorem states.
-/
import Derived.Test.YtcmmhfknkldmcaaDoorD6
namespace Go.Proofs.YtcmmhfknkldmcaaDoor
open Go.RowKit
theorem byt_30 : (Tryd.prog.info? 30).map (·.bytes) = some 64 := by kernel_rfl
theorem fo_44_0 : fOff Tryd.prog 44 0 0 = true := by kernel_rfl
theorem isz_24 : (Tryd.prog.info? 24).map (·.size) = some 4 := by kernel_rfl
theorem one_41 : tyOne Tryd.prog 41 = true := by kernel_rfl
theorem siz_24 : tySize Tryd.prog 24 4 = true := by kernel_rfl
theorem zer_24 : tyZero Tryd.prog 24 = some [.string ⟨#[]⟩, .int .i64 0, .int .i64 0, .slice none 0 0] := by kernel_rfl
set_option maxRecDepth 10000 in
set_option maxHeartbeats 4000000 in
theorem gmodule_ret (m : DMod) (cm : List Value) {w : World} {ro : Nat → Prop} (hro : ∀ b, ro b → b < w.heap.size) (hx : ModC ro w cm m) (h16 : m.funcs.length ≤ 16) (h5 : ∀ f ∈ m.funcs, func5 f = true) (hr0 : ro 0) (hc0 : CellsAt w 0 0 [.int .i64 0, .int .i64 0, .int .i64 1, .int .i64 2, .int .i64 9, .int .i64 8, .int .i64 7, .int .i64 5, .int .i64 3, .int .i64 6, .int .i64 4, .int .i64 2]) : Ret Tryd.prog 16 #[.agg cm.toArray] w fun v w' => SlV (roFrom ro w w') w' 3 (CodeC (roFrom ro w w') w') v (codesL m.funcs) ∧ Below w.heap.size w w' := by
 obtain ⟨sfM, sgM, rfl, hfsM, hgsM⟩ := id hx
 obtain ⟨adfM, capfM, rfl, hfsMa, hfsMb, hfsMc, hfsMd⟩ := id hfsM
 have hfsMm : m.funcs.length ≤ 9223372036854775807 := by have h1 := hfsMa; have h2 := hfsMb; unfold maxLen at h2; omega
 obtain ⟨adgM, capgM, rfl, hgsMa, hgsMb, hgsMc, hgsMd⟩ := id hgsM
 have hgsMm : m.globs.length ≤ 9223372036854775807 := by have h1 := hgsMa; have h2 := hgsMb; unfold maxLen at h2; omega
 refine Ret.enter (P := Tryd.prog) (n := 24) (args := [.agg #[.slice adfM m.funcs.length capfM, .slice adgM m.globs.length capgM]]) (σ := [(0, .agg #[.slice adfM m.funcs.length capfM, .slice adgM m.globs.length capgM])]) Tryd.func16 rfl rfl rfl rfl ?_
 have hS := St.start (ro := ro) hro
 have hsub : ∀ b, ro b → ro b ∨ w.heap.size ≤ b := fun _ h => .inl h
 refine W.seq (W.region ?_)
 refine WL.box (v := .agg #[.slice adfM m.funcs.length capfM, .slice adgM m.globs.length capgM]) (cs := [.slice adfM m.funcs.length capfM, .slice adgM m.globs.length capgM]) rfl rfl rfl rfl hS ?_
 clear hS; intro w2 b1 hb_b1 hS
 refine WL.assign rfl rfl rfl (WL.nil (N.seq (W.seq (W.region (WL.assign rfl rfl rfl (WL.nil (N.seq (W.seq (W.seq ?_)))))))))
 refine W.region (WL.fieldAddr fo_44_0 rfl rfl rfl (WL.load1 (v := .slice adfM m.funcs.length capfM) one_41 rfl rfl rfl (hS.cell 0 rfl rfl) (WL.lenSlice Tryd.underlying41 rfl rfl rfl (WL.move rfl rfl rfl (WL.nil (N.seq (W.block ?_)))))))
 replace hS := hS.row0 30 3
 refine W.loop (α := Nat × Value × List Value × (Nat → Prop) × World) (fun ⟨k, v, cs, R2, ws2⟩ => [(2, .slice none 0 0), (3, v), (7, .slice adfM m.funcs.length capfM), (8, .int .i64 (m.funcs.length : Int)), (9, .int .i64 (k : Int))]) (fun ⟨k, v, cs, R2, ws2⟩ u => St w ws2 u R2 [(b1, .cells #[.slice adfM m.funcs.length capfM, .slice adgM m.globs.length capgM] 44 (0, 0))] [⟨v, 30, 3, (codesL (m.funcs.take k)).length, cs⟩] ∧ k ≤ m.funcs.length ∧ Chunks 3 (CodeC R2 ws2) cs (codesL (m.funcs.take k)) ∧ Alike ro w R2 ws2 ∧ (∀ b, R2 b → ro b ∨ w.heap.size ≤ b)) (fun ⟨k, v, cs, R2, ws2⟩ => m.funcs.length - k) (0, (.slice none 0 0), [], ro, w) ⟨rfl, rfl, rfl, rfl, rfl, trivial⟩ ⟨hS, Nat.zero_le _, Chunks.nil, Alike.refl, hsub⟩ ?_
 clear hS
 rintro ⟨k, v, cs, R2, ws2⟩ w3 ⟨hS, hk, hch, halL0, hsub⟩
 replace hx := hx.keep halL0
 replace hfsMd := hfsMd.keep halL0 (fun _ _ h => h.keep halL0)
 replace hc0 := hc0.keep (halL0 _ hr0).2
 replace hr0 := (halL0 _ hr0).1
 have hcl := codes_len m.funcs k
 have hrow : w3.ownsRow w.heap.size 30 3 v ((codesL (m.funcs.take k)).length) _ := hS.rows _ List.mem_cons_self
 obtain ⟨adv, capv, rfl, hr1v, hr2v, hr3v⟩ := row_shape hrow
 clear hrow
 refine W.seq (W.region (WL.bin rfl rfl rfl rfl rfl (WL.nil (N.seq (W.seq ?_)))))
 refine W.cond rfl (fun hc4 => ?_) (fun hc4 => ?_)
 ·
  have hc4p : (k : Int) < (m.funcs.length : Int) := by simpa using hc4
  refine W.skip (N.seq (W.seq (W.block (W.seq (W.region ?_)))))
  have hj5 : k < m.funcs.length := by omega
  obtain ⟨x5, hx5, b5, o5, cs5, hE5, hr5, _, hc5, hQ5⟩ := opn hfsMd hj5
  obtain ⟨sb5, rfl, hbl5, hnm5, hbd5, hpr5⟩ := id hQ5
  obtain ⟨adb5, capb5, rfl, hbk5a, hbk5b, hbk5c, hbk5d⟩ := id hbl5
  have hbk5m : x5.blocks.length ≤ 9223372036854775807 := by have h1 := hbk5a; have h2 := hbk5b; unfold maxLen at h2; omega
  refine WL.indexAddrE (j := k) Tryd.underlying41 isz_24 rfl rfl rfl rfl hj5 hE5 (WL.loadN (cs := [.string x5.name, .int .i64 x5.bind, .int .i64 x5.params, .slice adb5 x5.blocks.length capb5]) agg_24 rfl rfl rfl rfl (hS.roCells hr5 hc5) ?_)
  refine WL.alloc (tyZero_spec zer_24) rfl rfl hS ?_
  clear hS; intro w7 b6 hb_b6 hS
  refine WL.store0 #[.string x5.name, .int .i64 x5.bind, .int .i64 x5.params, .slice adb5 x5.blocks.length capb5] rfl rfl rfl rfl siz_24 rfl rfl rfl hS ?_
  clear hS; intro w8 hS
  refine WL.nil (N.seq (W.seq (W.region (WL.fieldAddr fo_24_3 rfl rfl rfl (WL.load1 (v := .slice adb5 x5.blocks.length capb5) one_22 rfl rfl rfl (hS.cell 0 rfl rfl) (WL.lenSlice Tryd.underlying22 rfl rfl rfl (WL.bin rfl rfl rfl rfl rfl (WL.nil (N.seq ?_)))))))))
  refine W.cond rfl (fun hc9 => ?_) (fun hc9 => ?_)
  ·
   have hc9p : 0 < (x5.blocks.length : Int) := by simpa using hc9
   refine W.region (WL.move rfl rfl rfl (WL.loadN (cs := [.string x5.name, .int .i64 x5.bind, .int .i64 x5.params, .slice adb5 x5.blocks.length capb5]) agg_24 rfl rfl rfl rfl (hS.cells 0 (m := 4) rfl rfl) ?_))
   have hokG : OkG x5 := okg_of5 (h5 _ (List.mem_of_getElem? hx5)) hQ5
   refine WL.callF (vs := [.agg #[.string x5.name, .int .i64 x5.bind, .int .i64 x5.params, .slice adb5 x5.blocks.length capb5]]) Tryd.func10 (by kernel_rfl) rfl rfl rfl (func_ret x5 _ (ro := R2) (fun b hb => (hS.snap b hb).1) (hQ5.keep hS.alike) hokG hr0 (hS.roCells hr0 hc0)) ?_
   rintro v w10 ⟨so, sr, rfl, hso, hsr, hko, hkr, hbl⟩
   have hal11 := hS.alikeTo hbl (ro' := (roFrom R2 w8 w10)) (fun b hb => .inl hb)
   replace hsub : ∀ b, (roFrom R2 w8 w10) b → ro b ∨ w.heap.size ≤ b := fun b hb => hb.elim (hsub b) (fun h => .inr (Nat.le_trans hS.below.size h.1))
   replace halL0 := halL0.trans hal11
   replace hx := hx.keep hal11
   replace hch := hch.mono fun _ _ h => h.keep hal11
   replace hS := hS.readNew hbl
   have hso2 : SlV (roFrom R2 w8 w10) w10 5 OpC so (func17 x5).ops := row_slv hso (oCells_chunks (func_ok hokG)) rfl (fun b hb => .inr (hko b hb))
   have hsr2 : SlV (roFrom R2 w8 w10) w10 3 RelC sr (func17 x5).rels := row_slv hsr (func_relC2 hokG) rfl (fun b hb => .inr (hkr b hb))
   have hcode : CodeC (roFrom R2 w8 w10) w10 [.string x5.name, so, sr] (func17 x5) := ⟨so, sr, rfl, hso2, hsr2, hnm5⟩
   obtain ⟨ado, capo, rfl, _, _, _⟩ := row_shape hso; obtain ⟨adr, capr, rfl, _, _, _⟩ := row_shape hsr
   refine WL.buildSlice (ps := [(0, .agg #[.string x5.name, .slice ado ((func17 x5).ops.length) capo, .slice adr ((func17 x5).rels.length) capr])]) (cs := [.string x5.name, .slice ado ((func17 x5).ops.length) capo, .slice adr ((func17 x5).rels.length) capr]) Tryd.underlying47 (tyZero_spec zer_30) rfl rfl rfl rfl (by kernel_rfl) hS ?_
   clear hS; intro w13 b12 hb_b12 hS
   refine WL.append (r := ⟨.slice adv ((codesL (m.funcs.take k)).length) capv, 30, 3, (codesL (m.funcs.take k)).length, cs⟩) (cs := [.string x5.name, .slice ado ((func17 x5).ops.length) capo, .slice adr ((func17 x5).rels.length) capr]) 64 Tryd.underlying47 (tyZero_spec zer_30) byt_30 rfl rfl rfl rfl rfl rfl rfl rfl rfl hS (by unfold maxLen; simp only; omega) (by simp only; omega) ?_
   clear hS; intro w14 v15 hn_v15 hS
   have hrow : w14.ownsRow w.heap.size 30 3 v15 ((codesL (m.funcs.take k)).length + 1) _ := hS.rows _ List.mem_cons_self
   obtain ⟨av15, cv15, rfl, hc1_v15, hc2_v15, hc3_v15⟩ := row_shape hrow
   clear hrow
   refine WL.assign rfl rfl rfl (WL.nil (N.blk (N.seq (W.region ?_))))
   refine WL.add (c := (k : Int) + 1) rfl rfl rfl rfl (rfl) (by omega) ?_
   refine WL.move rfl rfl rfl (WL.nil ?_)
   have hS := hS.dropN 1
   have hcy := codes_yes hx5 (by omega)
   have hch2 : Chunks 3 (CodeC (roFrom R2 w8 w10) w10) (cs ++ ([.string x5.name, .slice ado ((func17 x5).ops.length) capo, .slice adr ((func17 x5).rels.length) capr] : List Value)) (codesL (m.funcs.take (k + 1))) := by rw [hcy]; exact hch.snoc rfl hcode
   have hrw : (⟨.slice av15 ((codesL (m.funcs.take k)).length + 1) cv15, 30, 3, (codesL (m.funcs.take (k + 1))).length, cs ++ ([.string x5.name, .slice ado ((func17 x5).ops.length) capo, .slice adr ((func17 x5).rels.length) capr] : List Value)⟩ : Row) = ⟨.slice av15 ((codesL (m.funcs.take k)).length + 1) cv15, 30, 3, (codesL (m.funcs.take k)).length + 1, cs ++ ([.string x5.name, .slice ado ((func17 x5).ops.length) capo, .slice adr ((func17 x5).rels.length) capr] : List Value)⟩ := by rw [hcy]; simp
   replace hS : St w w10 w14 (roFrom R2 w8 w10) [(b1, .cells #[.slice adfM m.funcs.length capfM, .slice adgM m.globs.length capgM] 44 (0, 0))] [⟨.slice av15 ((codesL (m.funcs.take k)).length + 1) cv15, 30, 3, (codesL (m.funcs.take (k + 1))).length, cs ++ ([.string x5.name, .slice ado ((func17 x5).ops.length) capo, .slice adr ((func17 x5).rels.length) capr] : List Value)⟩] := by rw [hrw]; exact hS
   exact N.loop (k + 1, .slice av15 ((codesL (m.funcs.take k)).length + 1) cv15, cs ++ ([.string x5.name, .slice ado ((func17 x5).ops.length) capo, .slice adr ((func17 x5).rels.length) capr] : List Value), (roFrom R2 w8 w10), w10) ⟨rfl, rfl, rfl, rfl, rfl, trivial⟩ ⟨hS, by omega, hch2, halL0, hsub⟩ (by first | omega | (simp only; omega))
  have hc9p : ¬ (0 < (x5.blocks.length : Int)) := by simpa using hc9
  refine W.skip (N.blk (N.seq (W.region ?_)))
  refine WL.add (c := (k : Int) + 1) rfl rfl rfl rfl (rfl) (by omega) ?_
  refine WL.move rfl rfl rfl (WL.nil ?_)
  have hS := hS.dropN 1
  have hcy := codes_no hx5 (by omega)
  have hch2 : Chunks 3 (CodeC R2 ws2) (cs) (codesL (m.funcs.take (k + 1))) := by rw [hcy]; exact hch
  have hrw : (⟨.slice adv ((codesL (m.funcs.take k)).length) capv, 30, 3, (codesL (m.funcs.take (k + 1))).length, cs⟩ : Row) = ⟨.slice adv ((codesL (m.funcs.take k)).length) capv, 30, 3, (codesL (m.funcs.take k)).length, cs⟩ := by rw [hcy]
  replace hS : St w ws2 w8 R2 [(b1, .cells #[.slice adfM m.funcs.length capfM, .slice adgM m.globs.length capgM] 44 (0, 0))] [⟨.slice adv ((codesL (m.funcs.take k)).length) capv, 30, 3, (codesL (m.funcs.take (k + 1))).length, cs⟩] := by rw [hrw]; exact hS
  exact N.loop (k + 1, .slice adv ((codesL (m.funcs.take k)).length) capv, cs, R2, ws2) ⟨rfl, rfl, rfl, rfl, rfl, trivial⟩ ⟨hS, by omega, hch2, halL0, hsub⟩ (by first | omega | (simp only; omega))
 have hc4p : ¬ ((k : Int) < (m.funcs.length : Int)) := by simpa using hc4
 refine W.exit (X.seq (X.loop (X.blk (N.seq (W.seq (W.region (WL.move rfl rfl rfl (WL.assign rfl rfl rfl (WL.nil ?_)))))))))
 refine N.seq ?_
 refine Fin.ret1 rfl (v := .slice adv ((codesL (m.funcs.take k)).length) capv) rfl ?_
 have hfin : Alike R2 ws2 (roFrom ro w w3) w3 := fun b hb => ⟨(hsub b hb).elim .inl (fun h => .inr ⟨h, (hS.snap b hb).1⟩), (hS.snap b hb).2⟩
 have hke : codesL (m.funcs.take k) = codesL m.funcs := by rw [show k = m.funcs.length by omega, List.take_length]
 rw [hke] at hch
 exact ⟨row_slv (hS.rows _ List.mem_cons_self) (hch.mono fun _ _ h => h.keep hfin) (by rw [hke]) (fun x hx => .inr ((hS.keys x (by simp only [keysOf, List.mem_append, List.mem_filterMap]; exact .inr ⟨_, List.mem_cons_self, hx⟩)).imp id (·.1))), hS.below⟩

set_option maxRecDepth 10000 in
set_option maxHeartbeats 4000000 in
theorem rmodule17_ret (m : DMod) (cm : List Value) {w : World} {ro : Nat → Prop} (hro : ∀ b, ro b → b < w.heap.size) (hx : ModC ro w cm m) (h16 : m.funcs.length ≤ 16) (h5 : ∀ f ∈ m.funcs, func5 f = true) : Ret Tryd.prog 17 #[.agg cm.toArray] w fun v w' => SlV (roFrom ro w w') w' 3 (CodeC (roFrom ro w w') w') v (codesL m.funcs) ∧ Below w.heap.size w w' := by
 obtain ⟨sfM, sgM, rfl, hfsM, hgsM⟩ := id hx
 obtain ⟨adfM, capfM, rfl, hfsMa, hfsMb, hfsMc, hfsMd⟩ := id hfsM
 have hfsMm : m.funcs.length ≤ 9223372036854775807 := by have h1 := hfsMa; have h2 := hfsMb; unfold maxLen at h2; omega
 obtain ⟨adgM, capgM, rfl, hgsMa, hgsMb, hgsMc, hgsMd⟩ := id hgsM
 have hgsMm : m.globs.length ≤ 9223372036854775807 := by have h1 := hgsMa; have h2 := hgsMb; unfold maxLen at h2; omega
 refine Ret.enter (P := Tryd.prog) (n := 30) (args := [.agg #[.slice adfM m.funcs.length capfM, .slice adgM m.globs.length capgM]]) (σ := [(0, .agg #[.slice adfM m.funcs.length capfM, .slice adgM m.globs.length capgM])]) Tryd.func17 rfl rfl rfl rfl ?_
 have hS := St.start (ro := ro) hro
 have hsub : ∀ b, ro b → ro b ∨ w.heap.size ≤ b := fun _ h => .inl h
 refine W.seq (W.region ?_)
 refine WL.box (v := .agg #[.slice adfM m.funcs.length capfM, .slice adgM m.globs.length capgM]) (cs := [.slice adfM m.funcs.length capfM, .slice adgM m.globs.length capgM]) rfl rfl rfl rfl hS ?_
 clear hS; intro w2 b1 hb_b1 hS
 refine WL.assign rfl rfl rfl (WL.nil (N.seq (W.seq (W.region (WL.assign rfl rfl rfl (WL.nil (N.seq (W.seq (W.seq ?_)))))))))
 refine W.region (WL.assign rfl rfl rfl (WL.nil (N.seq (W.block ?_))))
 replace hS := hS.row0 30 3
 refine W.loop (α := Nat × Value × List Value × (Nat → Prop) × World) (fun ⟨k, v, cs, R2, ws2⟩ => [(1, .pointer (some ⟨b1, 0, none⟩)), (2, .slice none 0 0), (3, v), (4, .int .i64 (k : Int))]) (fun ⟨k, v, cs, R2, ws2⟩ u => St w ws2 u R2 [(b1, .cells #[.slice adfM m.funcs.length capfM, .slice adgM m.globs.length capgM] 44 (0, 0))] [⟨v, 30, 3, (codesL (m.funcs.take k)).length, cs⟩] ∧ k ≤ m.funcs.length ∧ Chunks 3 (CodeC R2 ws2) cs (codesL (m.funcs.take k)) ∧ Alike ro w R2 ws2 ∧ (∀ b, R2 b → ro b ∨ w.heap.size ≤ b)) (fun ⟨k, v, cs, R2, ws2⟩ => m.funcs.length - k) (0, (.slice none 0 0), [], ro, w) ⟨rfl, rfl, rfl, rfl, trivial⟩ ⟨hS, Nat.zero_le _, Chunks.nil, Alike.refl, hsub⟩ ?_
 clear hS
 rintro ⟨k, v, cs, R2, ws2⟩ w3 ⟨hS, hk, hch, halL0, hsub⟩
 replace hx := hx.keep halL0
 replace hfsMd := hfsMd.keep halL0 (fun _ _ h => h.keep halL0)
 have hcl := codes_len m.funcs k
 have hrow : w3.ownsRow w.heap.size 30 3 v ((codesL (m.funcs.take k)).length) _ := hS.rows _ List.mem_cons_self
 obtain ⟨adv, capv, rfl, hr1v, hr2v, hr3v⟩ := row_shape hrow
 clear hrow
 refine W.seq (W.seq (W.region (WL.move rfl rfl rfl (WL.fieldAddr fo_44_0 rfl rfl rfl (WL.load1 (v := .slice adfM m.funcs.length capfM) one_41 rfl rfl rfl (hS.cell 0 rfl rfl) (WL.lenSlice Tryd.underlying41 rfl rfl rfl (WL.bin rfl rfl rfl rfl rfl (WL.nil (N.seq ?_)))))))))
 refine W.cond rfl (fun hc4 => ?_) (fun hc4 => ?_)
 ·
  have hc4p : (k : Int) < (m.funcs.length : Int) := by simpa using hc4
  refine W.skip (N.seq (W.seq (W.block (W.seq (W.region (WL.fieldAddr fo_44_0 rfl rfl rfl (WL.load1 (v := .slice adfM m.funcs.length capfM) one_41 rfl rfl rfl (hS.cell 0 rfl rfl) (WL.move rfl rfl rfl ?_))))))))
  have hj5 : k < m.funcs.length := by omega
  obtain ⟨x5, hx5, b5, o5, cs5, hE5, hr5, _, hc5, hQ5⟩ := opn hfsMd hj5
  obtain ⟨sb5, rfl, hbl5, hnm5, hbd5, hpr5⟩ := id hQ5
  obtain ⟨adb5, capb5, rfl, hbk5a, hbk5b, hbk5c, hbk5d⟩ := id hbl5
  have hbk5m : x5.blocks.length ≤ 9223372036854775807 := by have h1 := hbk5a; have h2 := hbk5b; unfold maxLen at h2; omega
  refine WL.indexAddrE (j := k) Tryd.underlying41 isz_24 rfl rfl rfl rfl hj5 hE5 (WL.fieldAddr fo_24_3 rfl rfl rfl (WL.load1 (v := .slice adb5 x5.blocks.length capb5) one_22 rfl rfl rfl (hS.roCells hr5 hc5 3 _ rfl) (WL.lenSlice Tryd.underlying22 rfl rfl rfl (WL.bin rfl rfl rfl rfl rfl (WL.nil (N.seq ?_))))))
  refine W.cond rfl (fun hc6 => ?_) (fun hc6 => ?_)
  ·
   have hc6p : 0 < (x5.blocks.length : Int) := by simpa using hc6
   refine W.region (WL.move rfl rfl rfl (WL.fieldAddr fo_44_0 rfl rfl rfl (WL.load1 (v := .slice adfM m.funcs.length capfM) one_41 rfl rfl rfl (hS.cell 0 rfl rfl) (WL.move rfl rfl rfl (WL.indexAddrE (j := k) Tryd.underlying41 isz_24 rfl rfl rfl rfl hj5 hE5 (WL.loadN (cs := [.string x5.name, .int .i64 x5.bind, .int .i64 x5.params, .slice adb5 x5.blocks.length capb5]) agg_24 rfl rfl rfl rfl (hS.roCells hr5 hc5) ?_))))))
   have hokG : OkG x5 := okg_of5 (h5 _ (List.mem_of_getElem? hx5)) hQ5
   refine WL.callF (vs := [.agg #[.string x5.name, .int .i64 x5.bind, .int .i64 x5.params, .slice adb5 x5.blocks.length capb5]]) Tryd.func35 (by kernel_rfl) rfl rfl rfl (rfunc17_ret x5 _ (ro := R2) (fun b hb => (hS.snap b hb).1) (hQ5.keep hS.alike) hokG) ?_
   rintro v w7 ⟨so, sr, rfl, hso, hsr, hko, hkr, hbl⟩
   have hal8 := hS.alikeTo hbl (ro' := (roFrom R2 w3 w7)) (fun b hb => .inl hb)
   replace hsub : ∀ b, (roFrom R2 w3 w7) b → ro b ∨ w.heap.size ≤ b := fun b hb => hb.elim (hsub b) (fun h => .inr (Nat.le_trans hS.below.size h.1))
   replace halL0 := halL0.trans hal8
   replace hx := hx.keep hal8
   replace hch := hch.mono fun _ _ h => h.keep hal8
   replace hS := hS.readNew hbl
   have hso2 : SlV (roFrom R2 w3 w7) w7 5 OpC so (func17 x5).ops := row_slv hso (oCells_chunks (func_ok hokG)) rfl (fun b hb => .inr (hko b hb))
   have hsr2 : SlV (roFrom R2 w3 w7) w7 3 RelC sr (func17 x5).rels := row_slv hsr (func_relC2 hokG) rfl (fun b hb => .inr (hkr b hb))
   have hcode : CodeC (roFrom R2 w3 w7) w7 [.string x5.name, so, sr] (func17 x5) := ⟨so, sr, rfl, hso2, hsr2, hnm5⟩
   obtain ⟨ado, capo, rfl, _, _, _⟩ := row_shape hso; obtain ⟨adr, capr, rfl, _, _, _⟩ := row_shape hsr
   refine WL.buildSlice (ps := [(0, .agg #[.string x5.name, .slice ado ((func17 x5).ops.length) capo, .slice adr ((func17 x5).rels.length) capr])]) (cs := [.string x5.name, .slice ado ((func17 x5).ops.length) capo, .slice adr ((func17 x5).rels.length) capr]) Tryd.underlying47 (tyZero_spec zer_30) rfl rfl rfl rfl (by kernel_rfl) hS ?_
   clear hS; intro w10 b9 hb_b9 hS
   refine WL.append (r := ⟨.slice adv ((codesL (m.funcs.take k)).length) capv, 30, 3, (codesL (m.funcs.take k)).length, cs⟩) (cs := [.string x5.name, .slice ado ((func17 x5).ops.length) capo, .slice adr ((func17 x5).rels.length) capr]) 64 Tryd.underlying47 (tyZero_spec zer_30) byt_30 rfl rfl rfl rfl rfl rfl rfl rfl rfl hS (by unfold maxLen; simp only; omega) (by simp only; omega) ?_
   clear hS; intro w11 v12 hn_v12 hS
   have hrow : w11.ownsRow w.heap.size 30 3 v12 ((codesL (m.funcs.take k)).length + 1) _ := hS.rows _ List.mem_cons_self
   obtain ⟨av12, cv12, rfl, hc1_v12, hc2_v12, hc3_v12⟩ := row_shape hrow
   clear hrow
   refine WL.assign rfl rfl rfl (WL.nil (N.blk (N.seq (W.region (WL.move rfl rfl rfl ?_)))))
   refine WL.add (c := (k : Int) + 1) rfl rfl rfl rfl (rfl) (by omega) ?_
   refine WL.assign rfl rfl rfl (WL.nil ?_)
   have hcy := codes_yes hx5 (by omega)
   have hch2 : Chunks 3 (CodeC (roFrom R2 w3 w7) w7) (cs ++ ([.string x5.name, .slice ado ((func17 x5).ops.length) capo, .slice adr ((func17 x5).rels.length) capr] : List Value)) (codesL (m.funcs.take (k + 1))) := by rw [hcy]; exact hch.snoc rfl hcode
   have hrw : (⟨.slice av12 ((codesL (m.funcs.take k)).length + 1) cv12, 30, 3, (codesL (m.funcs.take (k + 1))).length, cs ++ ([.string x5.name, .slice ado ((func17 x5).ops.length) capo, .slice adr ((func17 x5).rels.length) capr] : List Value)⟩ : Row) = ⟨.slice av12 ((codesL (m.funcs.take k)).length + 1) cv12, 30, 3, (codesL (m.funcs.take k)).length + 1, cs ++ ([.string x5.name, .slice ado ((func17 x5).ops.length) capo, .slice adr ((func17 x5).rels.length) capr] : List Value)⟩ := by rw [hcy]; simp
   replace hS : St w w7 w11 (roFrom R2 w3 w7) [(b1, .cells #[.slice adfM m.funcs.length capfM, .slice adgM m.globs.length capgM] 44 (0, 0))] [⟨.slice av12 ((codesL (m.funcs.take k)).length + 1) cv12, 30, 3, (codesL (m.funcs.take (k + 1))).length, cs ++ ([.string x5.name, .slice ado ((func17 x5).ops.length) capo, .slice adr ((func17 x5).rels.length) capr] : List Value)⟩] := by rw [hrw]; exact hS
   exact N.loop (k + 1, .slice av12 ((codesL (m.funcs.take k)).length + 1) cv12, cs ++ ([.string x5.name, .slice ado ((func17 x5).ops.length) capo, .slice adr ((func17 x5).rels.length) capr] : List Value), (roFrom R2 w3 w7), w7) ⟨rfl, rfl, rfl, rfl, trivial⟩ ⟨hS, by omega, hch2, halL0, hsub⟩ (by first | omega | (simp only; omega))
  have hc6p : ¬ (0 < (x5.blocks.length : Int)) := by simpa using hc6
  refine W.skip (N.blk (N.seq (W.region (WL.move rfl rfl rfl ?_))))
  refine WL.add (c := (k : Int) + 1) rfl rfl rfl rfl (rfl) (by omega) ?_
  refine WL.assign rfl rfl rfl (WL.nil ?_)
  have hcy := codes_no hx5 (by omega)
  have hch2 : Chunks 3 (CodeC R2 ws2) (cs) (codesL (m.funcs.take (k + 1))) := by rw [hcy]; exact hch
  have hrw : (⟨.slice adv ((codesL (m.funcs.take k)).length) capv, 30, 3, (codesL (m.funcs.take (k + 1))).length, cs⟩ : Row) = ⟨.slice adv ((codesL (m.funcs.take k)).length) capv, 30, 3, (codesL (m.funcs.take k)).length, cs⟩ := by rw [hcy]
  replace hS : St w ws2 w3 R2 [(b1, .cells #[.slice adfM m.funcs.length capfM, .slice adgM m.globs.length capgM] 44 (0, 0))] [⟨.slice adv ((codesL (m.funcs.take k)).length) capv, 30, 3, (codesL (m.funcs.take (k + 1))).length, cs⟩] := by rw [hrw]; exact hS
  exact N.loop (k + 1, .slice adv ((codesL (m.funcs.take k)).length) capv, cs, R2, ws2) ⟨rfl, rfl, rfl, rfl, trivial⟩ ⟨hS, by omega, hch2, halL0, hsub⟩ (by first | omega | (simp only; omega))
 have hc4p : ¬ ((k : Int) < (m.funcs.length : Int)) := by simpa using hc4
 refine W.exit (X.seq (X.loop (X.blk (N.seq (W.seq (W.region (WL.move rfl rfl rfl (WL.assign rfl rfl rfl (WL.nil ?_)))))))))
 refine N.seq ?_
 refine Fin.ret1 rfl (v := .slice adv ((codesL (m.funcs.take k)).length) capv) rfl ?_
 have hfin : Alike R2 ws2 (roFrom ro w w3) w3 := fun b hb => ⟨(hsub b hb).elim .inl (fun h => .inr ⟨h, (hS.snap b hb).1⟩), (hS.snap b hb).2⟩
 have hke : codesL (m.funcs.take k) = codesL m.funcs := by rw [show k = m.funcs.length by omega, List.take_length]
 rw [hke] at hch
 exact ⟨row_slv (hS.rows _ List.mem_cons_self) (hch.mono fun _ _ h => h.keep hfin) (by rw [hke]) (fun x hx => .inr ((hS.keys x (by simp only [keysOf, List.mem_append, List.mem_filterMap]; exact .inr ⟨_, List.mem_cons_self, hx⟩)).imp id (·.1))), hS.below⟩

end Go.Proofs.YtcmmhfknkldmcaaDoor
