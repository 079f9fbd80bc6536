/-
  Contracts of layer 10 (merge). No condition beyond those that each theorem states.
-/
import Derived.Test.YtapjejjmhmdmdaaDoorZ2
namespace Go.Proofs.YtapjejjmhmdmdaaDoor
open Go.RowKit
theorem byt_40 : (Tryd.prog.info? 40).map (·.bytes) = some 8 := by kernel_rfl
theorem siz_40 : tySize Tryd.prog 40 1 = true := by kernel_rfl
theorem zer_40 : tyZero Tryd.prog 40 = some [.map none] := by kernel_rfl
set_option maxRecDepth 10000 in
set_option maxHeartbeats 4000000 in
theorem names10_ret (ms : List DMod) (vx : Value) {w : World} {ro : Nat → Prop} (hro : ∀ b, ro b → b < w.heap.size) (hx : SlV ro w 2 (ModC ro w) vx ms) (hpw : PowT ro w) (hml : ms.length ≤ 16) (hit : ∀ m ∈ ms, (its10 m).length ≤ 32) (hmx : (items9 ms).length ≤ 1048576) (hns : ∀ x ∈ items9 ms, x.name.size ≤ maxLen) : Ret Tryd.prog 12 #[vx] w fun v w' => SlV (roFrom ro w w') w' 1 (MapC (roFrom ro w w') w') v (nam10 (nms9 (items9 ms)) ms).1 ∧ Below w.heap.size w w' := by
 have hxo := hx
 obtain ⟨adl, capl, rfl, hla, hlb, hlc, hld⟩ := hxo
 have hlm : ms.length ≤ 9223372036854775807 := slv_len hx
 refine Ret.enter (P := Tryd.prog) (n := 58) (args := [.slice adl ms.length capl]) (σ := [(0, .slice adl ms.length capl)]) Tryd.func12 rfl rfl rfl rfl ?_
 have hS := St.start (ro := ro) hro
 have hsub : ∀ b, ro b → ro b ∨ w.heap.size ≤ b := fun _ h => .inl h
 refine W.seq (W.region (WL.assign rfl rfl rfl (WL.nil (N.seq (W.seq (W.region (WL.move rfl rfl rfl ?_)))))))
 refine WL.callF (vs := [.slice adl ms.length capl]) Tryd.func24 (by kernel_rfl) rfl rfl rfl (names_ret ms _ (ro := ro) (fun b hb => (hS.snap b hb).1) (SlV.keep hx hS.alike (fun _ _ q => q.keep hS.alike)) hmx hns) ?_
 rintro vn w1 ⟨hnv, hbl⟩
 have hal2 := hS.alikeTo hbl (ro' := (roFrom ro w w1)) (fun b hb => .inl hb)
 replace hsub : ∀ b, (roFrom ro w w1) b → ro b ∨ w.heap.size ≤ b := fun b hb => hb.elim (hsub b) (fun h => .inr (Nat.le_trans hS.below.size h.1))
 replace hld := hld.keep hal2 (fun _ _ h => h.keep hal2)
 replace hx := SlV.keep hx hal2 (fun _ _ h => h.keep hal2)
 replace hpw := hpw.keep hal2
 replace hS := hS.readNew hbl
 obtain ⟨ns, hns2⟩ : ∃ ns, ns = nms9 (items9 ms) := ⟨_, rfl⟩
 rw [← hns2] at hnv
 replace hnv := SlV.keep hnv (ro' := (roFrom ro w w1)) (w' := w1) (Q' := StrC) (fun x hx => ⟨.inr hx, rfl⟩) (fun _ _ h => h)
 obtain ⟨adn, capn, rfl, hna, hnb, hnc, hnd⟩ := id hnv
 have hnm : ns.length ≤ 9223372036854775807 := by have h1 := hna; have h2 := hnb; unfold maxLen at h2; omega
 have hnl : ns.length ≤ 1048576 := by rw [hns2]; exact Nat.le_trans (nms9_length _) hmx
 refine WL.alloc (tyZero_spec zer_25) rfl rfl hS ?_
 clear hS; intro w4 b3 hb_b3 hS
 refine WL.store (L' := [(b3, .cells #[.slice adn ns.length capn] 25 (0, 0))]) 0 rfl rfl rfl rfl siz_25 rfl rfl rfl rfl rfl hS ?_
 clear hS; intro w5 hS
 refine WL.nil (N.seq (W.seq (W.region ?_)))
 refine WL.alloc (tyZero_spec zer_3) rfl rfl hS ?_
 clear hS; intro w7 b6 hb_b6 hS
 refine WL.store (L' := [(b6, .cells #[.int .i64 0] 3 (0, 0)), (b3, .cells #[.slice adn ns.length capn] 25 (0, 0))]) 0 rfl rfl rfl rfl siz_3 rfl rfl rfl rfl rfl hS ?_
 clear hS; intro w8 hS
 refine WL.nil (N.seq (W.seq (W.region (WL.assign rfl rfl rfl (WL.nil (N.seq (W.seq (W.seq (W.region ?_)))))))))
 refine WL.move rfl rfl rfl (WL.lenSlice Tryd.underlying22 rfl rfl rfl (WL.move rfl rfl rfl (WL.nil (N.seq (W.block ?_)))))
 replace hS := hS.row0 40 1
 refine W.loop (α := Nat × Value × List Value × (Nat → Prop) × World) (fun ⟨i, v, cs, R2, ws2⟩ => [(2, .slice none 0 0), (3, .pointer (some ⟨b3, 0, none⟩)), (4, .pointer (some ⟨b6, 0, none⟩)), (5, v), (16, .slice adl ms.length capl), (17, .int .i64 (ms.length : Int)), (18, .int .i64 (i : Int))]) (fun ⟨i, v, cs, R2, ws2⟩ u => St w ws2 u R2 [(b6, .cells #[.int .i64 ((nam10 ns (ms.take i)).2 : Int)] 3 (0, 0)), (b3, .cells #[.slice adn ns.length capn] 25 (0, 0))] [⟨v, 40, 1, i, cs⟩] ∧ i ≤ ms.length ∧ Chunks 1 (MapC R2 ws2) cs (nam10 ns (ms.take i)).1 ∧ Alike (roFrom ro w w1) w1 R2 ws2 ∧ (∀ b, R2 b → ro b ∨ w.heap.size ≤ b)) (fun ⟨i, v, cs, R2, ws2⟩ => ms.length - i) (0, (.slice none 0 0), [], (roFrom ro w w1), w1) ⟨rfl, rfl, rfl, rfl, rfl, rfl, rfl, trivial⟩ ⟨hS, Nat.zero_le _, Chunks.nil, Alike.refl, hsub⟩ ?_
 clear hS
 rintro ⟨i, v, cs, R2, ws2⟩ w9 ⟨hS, hi, hch, halL0, hsub⟩
 replace hld := hld.keep halL0 (fun _ _ h => h.keep halL0)
 replace hx := SlV.keep hx halL0 (fun _ _ h => h.keep halL0)
 replace hpw := hpw.keep halL0
 replace hnv := SlV.keep hnv halL0 (fun _ _ h => h)
 have hrow : w9.ownsRow w.heap.size 40 1 v (i) _ := hS.rows _ List.mem_cons_self
 obtain ⟨adv, capv, rfl, hr1v, hr2v, hr3v⟩ := row_shape hrow
 clear hrow
 have hnm := nam10_num hnl (ms.take i) (fun m hm => hit m (List.mem_of_mem_take hm))
 rw [List.length_take, Nat.min_eq_left hi] at hnm
 refine W.seq (W.region (WL.bin rfl rfl rfl rfl rfl (WL.nil (N.seq (W.seq ?_)))))
 refine W.cond rfl (fun hc10 => ?_) (fun hc10 => ?_)
 ·
  have hc10p : (i : Int) < (ms.length : Int) := by simpa using hc10
  refine W.skip (N.seq (W.seq (W.block (W.seq (W.region ?_)))))
  have hj11 : i < ms.length := by omega
  obtain ⟨x11, hx11⟩ : ∃ zz, ms[i]? = some zz := ⟨_, List.getElem?_eq_getElem hj11⟩
  obtain ⟨b11, o11, cs11, hE11, hr11, hl11, hc11, hQ11⟩ := hld i _ hx11
  obtain ⟨sf11, sg11, rfl, hfs11, hgs11⟩ := id hQ11
  obtain ⟨adf11, capf11, rfl, hfs11a, hfs11b, hfs11c, hfs11d⟩ := id hfs11
  have hfs11m : x11.funcs.length ≤ 9223372036854775807 := by have h1 := hfs11a; have h2 := hfs11b; unfold maxLen at h2; omega
  obtain ⟨adg11, capg11, rfl, hgs11a, hgs11b, hgs11c, hgs11d⟩ := id hgs11
  have hgs11m : x11.globs.length ≤ 9223372036854775807 := by have h1 := hgs11a; have h2 := hgs11b; unfold maxLen at h2; omega
  refine WL.indexAddrE (j := i) Tryd.underlying22 isz_32 rfl rfl rfl rfl hj11 hE11 (WL.loadN (cs := [.slice adf11 x11.funcs.length capf11, .slice adg11 x11.globs.length capg11]) agg_32 rfl rfl rfl rfl (hS.roCells hr11 hc11) ?_)
  refine WL.alloc (tyZero_spec zer_32) rfl rfl hS ?_
  clear hS; intro w13 b12 hb_b12 hS
  refine WL.store (L' := [(b12, .cells #[.slice adf11 x11.funcs.length capf11, .slice adg11 x11.globs.length capg11] 32 (0, 0)), (b6, .cells #[.int .i64 ((nam10 ns (ms.take i)).2 : Int)] 3 (0, 0)), (b3, .cells #[.slice adn ns.length capn] 25 (0, 0))]) 0 rfl rfl rfl rfl siz_32 rfl rfl rfl rfl rfl hS ?_
  clear hS; intro w14 hS
  refine WL.nil (N.seq (W.seq (W.region ?_)))
  refine WL.makeMap rfl rfl hS ?_
  clear hS; intro w16 b15 hS
  refine WL.alloc (tyZero_spec zer_40) rfl rfl hS ?_
  clear hS; intro w18 b17 hb_b17 hS
  refine WL.store (L' := [(b17, .cells #[.map (some b15)] 40 (0, 0)), (b15, .map #[] 0), (b12, .cells #[.slice adf11 x11.funcs.length capf11, .slice adg11 x11.globs.length capg11] 32 (0, 0)), (b6, .cells #[.int .i64 ((nam10 ns (ms.take i)).2 : Int)] 3 (0, 0)), (b3, .cells #[.slice adn ns.length capn] 25 (0, 0))]) 0 rfl rfl rfl rfl siz_40 rfl rfl rfl rfl rfl hS ?_
  clear hS; intro w19 hS
  refine WL.nil (N.seq (W.seq (W.region ?_)))
  refine WL.makeFunc (vs := #[.pointer (some ⟨b17, 0, none⟩), .pointer (some ⟨b6, 0, none⟩), .pointer (some ⟨b3, 0, none⟩)]) rfl rfl rfl ?_
  refine WL.assign rfl rfl rfl (WL.nil (N.seq (W.seq (W.seq (W.region (WL.fieldAddr fo_32_0 rfl rfl rfl (WL.load1 (v := .slice adf11 x11.funcs.length capf11) one_29 rfl rfl rfl (hS.cell 2 rfl rfl) (WL.lenSlice Tryd.underlying29 rfl rfl rfl (WL.move rfl rfl rfl ?_)))))))))
  refine WL.nil (N.seq (W.block ?_))
  replace hS : St w ws2 w19 R2 [(b17, .cells #[.map (some b15)] 40 (0, 0)), (b15, .map #[] 0), (b6, .cells #[.int .i64 ((nam10 ns (ms.take i)).2 : Int)] 3 (0, 0)), (b3, .cells #[.slice adn ns.length capn] 25 (0, 0)), (b12, .cells #[.slice adf11 x11.funcs.length capf11, .slice adg11 x11.globs.length capg11] 32 (0, 0))] [⟨.slice adv i capv, 40, 1, i, cs⟩] := hS.perm (((List.Perm.cons _ (List.Perm.cons _ (List.Perm.swap _ _ _)))).trans ((List.Perm.cons _ (List.Perm.cons _ (List.Perm.cons _ (List.Perm.swap _ _ _))))))
  refine W.loop (α := Nat × Array MapEntry × Nat) (fun ⟨kf, es1, ck1⟩ => [(2, .slice none 0 0), (3, .pointer (some ⟨b3, 0, none⟩)), (4, .pointer (some ⟨b6, 0, none⟩)), (5, .slice adv i capv), (7, .pointer (some ⟨b12, 0, none⟩)), (8, .pointer (some ⟨b17, 0, none⟩)), (9, .func (.func 25) #[] #[.pointer (some ⟨b17, 0, none⟩), .pointer (some ⟨b6, 0, none⟩), .pointer (some ⟨b3, 0, none⟩)]), (16, .slice adl ms.length capl), (17, .int .i64 (ms.length : Int)), (18, .int .i64 (i : Int)), (25, .slice adf11 x11.funcs.length capf11), (26, .int .i64 (x11.funcs.length : Int)), (27, .int .i64 (kf : Int))]) (fun ⟨kf, es1, ck1⟩ u => St w ws2 u R2 [(b17, .cells #[.map (some b15)] 40 (0, 0)), (b15, .map es1 ck1), (b6, .cells #[.int .i64 ((mod10 ns (nam10 ns (ms.take i)).2 ((its10 x11).take kf)).2 : Int)] 3 (0, 0)), (b3, .cells #[.slice adn ns.length capn] 25 (0, 0)), (b12, .cells #[.slice adf11 x11.funcs.length capf11, .slice adg11 x11.globs.length capg11] 32 (0, 0))] [⟨.slice adv i capv, 40, 1, i, cs⟩] ∧ kf ≤ x11.funcs.length ∧ MapG kS kS es1 ck1 (kf) (mod10 ns (nam10 ns (ms.take i)).2 ((its10 x11).take kf)).1) (fun ⟨kf, es1, ck1⟩ => x11.funcs.length - kf) (0, #[], 0) ⟨rfl, rfl, rfl, rfl, rfl, rfl, rfl, rfl, rfl, rfl, rfl, rfl, rfl, trivial⟩ ⟨hS, Nat.zero_le _, MapG.empty⟩ ?_
  clear hS
  rintro ⟨kf, es1, ck1⟩ w20 ⟨hS, hk1, hM1⟩
  have hmn1 := mod10_num hnl (nam10 ns (ms.take i)).2 ((its10 x11).take kf)
  have hitl1 := hit x11 (List.mem_of_getElem? hx11)
  have htl1 : ((its10 x11).take kf).length ≤ 32 := by rw [List.length_take]; omega
  refine W.seq (W.region (WL.bin rfl rfl rfl rfl rfl (WL.nil (N.seq (W.seq ?_)))))
  refine W.cond rfl (fun hc21 => ?_) (fun hc21 => ?_)
  ·
   have hc21p : (kf : Int) < (x11.funcs.length : Int) := by simpa using hc21
   refine W.skip (N.seq (W.seq (W.block (W.seq (W.region ?_)))))
   have hj22 : kf < x11.funcs.length := by omega
   obtain ⟨x22, hx22⟩ : ∃ zz, x11.funcs[kf]? = some zz := ⟨_, List.getElem?_eq_getElem hj22⟩
   obtain ⟨b22, o22, cs22, hE22, hr22, hl22, hc22, hQ22⟩ := hfs11d kf _ hx22
   obtain ⟨sb22, rfl, hbl22, hnm22, hbd22, hpr22⟩ := id hQ22
   obtain ⟨adb22, capb22, rfl, hbk22a, hbk22b, hbk22c, hbk22d⟩ := id hbl22
   have hbk22m : x22.blocks.length ≤ 9223372036854775807 := by have h1 := hbk22a; have h2 := hbk22b; unfold maxLen at h2; omega
   refine WL.indexAddrE (j := kf) Tryd.underlying29 isz_35 rfl rfl rfl rfl hj22 hE22 (WL.loadN (cs := [.string x22.name, .int .i64 x22.bind, .int .i64 x22.params, .slice adb22 x22.blocks.length capb22]) agg_35 rfl rfl rfl rfl (hS.roCells hr22 hc22) ?_)
   refine WL.alloc (tyZero_spec zer_35) rfl rfl hS ?_
   clear hS; intro w24 b23 hb_b23 hS
   refine WL.store (L' := [(b23, .cells #[.string x22.name, .int .i64 x22.bind, .int .i64 x22.params, .slice adb22 x22.blocks.length capb22] 35 (0, 0)), (b17, .cells #[.map (some b15)] 40 (0, 0)), (b15, .map es1 ck1), (b6, .cells #[.int .i64 ((mod10 ns (nam10 ns (ms.take i)).2 ((its10 x11).take kf)).2 : Int)] 3 (0, 0)), (b3, .cells #[.slice adn ns.length capn] 25 (0, 0)), (b12, .cells #[.slice adf11 x11.funcs.length capf11, .slice adg11 x11.globs.length capg11] 32 (0, 0))]) 0 rfl rfl rfl rfl siz_35 rfl rfl rfl rfl rfl hS ?_
   clear hS; intro w25 hS
   refine WL.nil (N.seq (W.region (WL.move rfl rfl rfl (WL.fieldAddr fo_35_0 rfl rfl rfl (WL.load1 (v := .string x22.name) one_9 rfl rfl rfl (hS.cell 0 rfl rfl) (WL.fieldAddr fo_35_1 rfl rfl rfl (WL.load1 (v := .int .i64 x22.bind) one_3 rfl rfl rfl (hS.cell 0 rfl rfl) ?_)))))))
   replace hS := hS.dropN 1
   refine WL.callV (vs := [.string x22.name, .int .i64 x22.bind]) (cs := #[.pointer (some ⟨b17, 0, none⟩), .pointer (some ⟨b6, 0, none⟩), .pointer (some ⟨b3, 0, none⟩)]) Tryd.func25 (by kernel_rfl) rfl rfl rfl rfl (give10_ret b17 b15 b6 b3 es1 ck1 (kf) (mod10 ns (nam10 ns (ms.take i)).2 ((its10 x11).take kf)).2 (mod10 ns (nam10 ns (ms.take i)).2 ((its10 x11).take kf)).1 ns (.slice adn ns.length capn) x22.name x22.bind hS hM1 hnv hpw (by omega)) ?_
   rintro v w26 ⟨rfl, es9, ck9, hM9, hS⟩
   rw [show give10 ns ((mod10 ns (nam10 ns (ms.take i)).2 ((its10 x11).take kf)).1, (mod10 ns (nam10 ns (ms.take i)).2 ((its10 x11).take kf)).2) (x22.name, x22.bind) = (mod10 ns (nam10 ns (ms.take i)).2 ((its10 x11).take (kf + 1))) from (mod10_next (its_f hx22)).symm] at hM9 hS
   refine WL.nil (N.blk (N.seq (W.region ?_)))
   refine WL.add (c := (kf : Int) + 1) rfl rfl rfl rfl (rfl) (by omega) ?_
   refine WL.move rfl rfl rfl (WL.nil ?_)
   exact N.loop (kf + 1, es9, ck9) ⟨rfl, rfl, rfl, rfl, rfl, rfl, rfl, rfl, rfl, rfl, rfl, rfl, rfl, trivial⟩ ⟨hS, by omega, hM9⟩ (by first | omega | (simp only; omega))
  have hc21p : ¬ ((kf : Int) < (x11.funcs.length : Int)) := by simpa using hc21
  refine W.exit (X.seq (X.loop (X.blk (N.seq (W.seq (W.seq (W.region (WL.fieldAddr fo_32_1 rfl rfl rfl (WL.load1 (v := .slice adg11 x11.globs.length capg11) one_30 rfl rfl rfl (hS.cell 4 rfl rfl) ?_)))))))))
  refine WL.lenSlice Tryd.underlying30 rfl rfl rfl (WL.move rfl rfl rfl (WL.nil (N.seq (W.block ?_))))
  have hkf : kf = x11.funcs.length := by omega
  rw [hkf] at hS hM1
  refine W.loop (α := Nat × Array MapEntry × Nat) (fun ⟨kg, es2, ck2⟩ => [(2, .slice none 0 0), (3, .pointer (some ⟨b3, 0, none⟩)), (4, .pointer (some ⟨b6, 0, none⟩)), (5, .slice adv i capv), (8, .pointer (some ⟨b17, 0, none⟩)), (9, .func (.func 25) #[] #[.pointer (some ⟨b17, 0, none⟩), .pointer (some ⟨b6, 0, none⟩), .pointer (some ⟨b3, 0, none⟩)]), (16, .slice adl ms.length capl), (17, .int .i64 (ms.length : Int)), (18, .int .i64 (i : Int)), (39, .slice adg11 x11.globs.length capg11), (40, .int .i64 (x11.globs.length : Int)), (41, .int .i64 (kg : Int))]) (fun ⟨kg, es2, ck2⟩ u => St w ws2 u R2 [(b17, .cells #[.map (some b15)] 40 (0, 0)), (b15, .map es2 ck2), (b6, .cells #[.int .i64 ((mod10 ns (nam10 ns (ms.take i)).2 ((its10 x11).take (x11.funcs.length + kg))).2 : Int)] 3 (0, 0)), (b3, .cells #[.slice adn ns.length capn] 25 (0, 0)), (b12, .cells #[.slice adf11 x11.funcs.length capf11, .slice adg11 x11.globs.length capg11] 32 (0, 0))] [⟨.slice adv i capv, 40, 1, i, cs⟩] ∧ kg ≤ x11.globs.length ∧ MapG kS kS es2 ck2 (x11.funcs.length + kg) (mod10 ns (nam10 ns (ms.take i)).2 ((its10 x11).take (x11.funcs.length + kg))).1) (fun ⟨kg, es2, ck2⟩ => x11.globs.length - kg) (0, es1, ck1) ⟨rfl, rfl, rfl, rfl, rfl, rfl, rfl, rfl, rfl, rfl, rfl, rfl, trivial⟩ ⟨hS, Nat.zero_le _, hM1⟩ ?_
  clear hS
  rintro ⟨kg, es2, ck2⟩ w27 ⟨hS, hk2, hM2⟩
  have hmn2 := mod10_num hnl (nam10 ns (ms.take i)).2 ((its10 x11).take (x11.funcs.length + kg))
  have hitl2 := hit x11 (List.mem_of_getElem? hx11)
  have htl2 : ((its10 x11).take (x11.funcs.length + kg)).length ≤ 32 := by rw [List.length_take]; omega
  refine W.seq (W.region (WL.bin rfl rfl rfl rfl rfl (WL.nil (N.seq (W.seq ?_)))))
  refine W.cond rfl (fun hc28 => ?_) (fun hc28 => ?_)
  ·
   have hc28p : (kg : Int) < (x11.globs.length : Int) := by simpa using hc28
   refine W.skip (N.seq (W.seq (W.block (W.seq (W.region ?_)))))
   have hj29 : kg < x11.globs.length := by omega
   obtain ⟨x29, hx29⟩ : ∃ zz, x11.globs[kg]? = some zz := ⟨_, List.getElem?_eq_getElem hj29⟩
   obtain ⟨b29, o29, cs29, hE29, hr29, hl29, hc29, hQ29⟩ := hgs11d kg _ hx29
   obtain ⟨rfl, hgn29, hgb29, hgi29⟩ := hQ29
   refine WL.indexAddrE (j := kg) Tryd.underlying30 isz_38 rfl rfl rfl rfl hj29 hE29 (WL.loadN (cs := [.string x29.name, .int .i64 x29.bind, .bool x29.here, .int .u64 x29.init]) agg_38 rfl rfl rfl rfl (hS.roCells hr29 hc29) ?_)
   refine WL.alloc (tyZero_spec zer_38) rfl rfl hS ?_
   clear hS; intro w31 b30 hb_b30 hS
   refine WL.store (L' := [(b30, .cells #[.string x29.name, .int .i64 x29.bind, .bool x29.here, .int .u64 x29.init] 38 (0, 0)), (b17, .cells #[.map (some b15)] 40 (0, 0)), (b15, .map es2 ck2), (b6, .cells #[.int .i64 ((mod10 ns (nam10 ns (ms.take i)).2 ((its10 x11).take (x11.funcs.length + kg))).2 : Int)] 3 (0, 0)), (b3, .cells #[.slice adn ns.length capn] 25 (0, 0)), (b12, .cells #[.slice adf11 x11.funcs.length capf11, .slice adg11 x11.globs.length capg11] 32 (0, 0))]) 0 rfl rfl rfl rfl siz_38 rfl rfl rfl rfl rfl hS ?_
   clear hS; intro w32 hS
   refine WL.nil (N.seq (W.region (WL.move rfl rfl rfl (WL.fieldAddr fo_38_0 rfl rfl rfl (WL.load1 (v := .string x29.name) one_9 rfl rfl rfl (hS.cell 0 rfl rfl) (WL.fieldAddr fo_38_1 rfl rfl rfl (WL.load1 (v := .int .i64 x29.bind) one_3 rfl rfl rfl (hS.cell 0 rfl rfl) ?_)))))))
   replace hS := hS.dropN 1
   refine WL.callV (vs := [.string x29.name, .int .i64 x29.bind]) (cs := #[.pointer (some ⟨b17, 0, none⟩), .pointer (some ⟨b6, 0, none⟩), .pointer (some ⟨b3, 0, none⟩)]) Tryd.func25 (by kernel_rfl) rfl rfl rfl rfl (give10_ret b17 b15 b6 b3 es2 ck2 (x11.funcs.length + kg) (mod10 ns (nam10 ns (ms.take i)).2 ((its10 x11).take (x11.funcs.length + kg))).2 (mod10 ns (nam10 ns (ms.take i)).2 ((its10 x11).take (x11.funcs.length + kg))).1 ns (.slice adn ns.length capn) x29.name x29.bind hS hM2 hnv hpw (by omega)) ?_
   rintro v w33 ⟨rfl, es9, ck9, hM9, hS⟩
   rw [show give10 ns ((mod10 ns (nam10 ns (ms.take i)).2 ((its10 x11).take (x11.funcs.length + kg))).1, (mod10 ns (nam10 ns (ms.take i)).2 ((its10 x11).take (x11.funcs.length + kg))).2) (x29.name, x29.bind) = (mod10 ns (nam10 ns (ms.take i)).2 ((its10 x11).take (x11.funcs.length + kg + 1))) from (mod10_next (its_g hx29)).symm] at hM9 hS
   refine WL.nil (N.blk (N.seq (W.region ?_)))
   refine WL.add (c := (kg : Int) + 1) rfl rfl rfl rfl (rfl) (by omega) ?_
   refine WL.move rfl rfl rfl (WL.nil ?_)
   exact N.loop (kg + 1, es9, ck9) ⟨rfl, rfl, rfl, rfl, rfl, rfl, rfl, rfl, rfl, rfl, rfl, rfl, trivial⟩ ⟨hS, by omega, hM9⟩ (by first | omega | (simp only; omega))
  have hc28p : ¬ ((kg : Int) < (x11.globs.length : Int)) := by simpa using hc28
  refine W.exit (X.seq (X.loop (X.blk (N.seq (W.region (WL.move rfl rfl rfl (WL.load1 (v := .map (some b15)) one_40 rfl rfl rfl (hS.cell 0 rfl rfl) ?_)))))))
  refine WL.buildSlice (ps := [(0, .map (some b15))]) (cs := [.map (some b15)]) Tryd.underlying27 (tyZero_spec zer_40) rfl rfl rfl rfl (by kernel_rfl) hS ?_
  clear hS; intro w35 b34 hb_b34 hS
  refine WL.append (r := ⟨.slice adv i capv, 40, 1, i, cs⟩) (cs := [.map (some b15)]) 8 Tryd.underlying27 (tyZero_spec zer_40) byt_40 rfl rfl rfl rfl rfl rfl rfl rfl rfl hS (by unfold maxLen; simp only; omega) (by simp only; omega) ?_
  clear hS; intro w36 v37 hn_v37 hS
  have hrow : w36.ownsRow w.heap.size 40 1 v37 (i + 1) _ := hS.rows _ List.mem_cons_self
  obtain ⟨av37, cv37, rfl, hc1_v37, hc2_v37, hc3_v37⟩ := row_shape hrow
  clear hrow
  refine WL.assign rfl rfl rfl (WL.nil (N.blk (N.seq (W.region ?_))))
  refine WL.add (c := (i : Int) + 1) rfl rfl rfl rfl (rfl) (by omega) ?_
  refine WL.move rfl rfl rfl (WL.nil ?_)
  have hke : x11.funcs.length + kg = (its10 x11).length := by rw [its_len]; omega
  rw [hke, List.take_length] at hS hM2
  replace hS : St w ws2 w36 R2 [(b15, .map es2 ck2), (b17, .cells #[.map (some b15)] 40 (0, 0)), (b12, .cells #[.slice adf11 x11.funcs.length capf11, .slice adg11 x11.globs.length capg11] 32 (0, 0)), (b6, .cells #[.int .i64 ((mod10 ns (nam10 ns (ms.take i)).2 (its10 x11)).2 : Int)] 3 (0, 0)), (b3, .cells #[.slice adn ns.length capn] 25 (0, 0))] [⟨.slice av37 (i + 1) cv37, 40, 1, i + 1, cs ++ ([.map (some b15)] : List Value)⟩] := hS.perm ((((List.Perm.swap _ _ _)).trans ((List.Perm.cons _ (List.Perm.cons _ (List.Perm.cons _ (List.Perm.swap _ _ _)))))).trans ((List.Perm.cons _ (List.Perm.cons _ (List.Perm.swap _ _ _)))))
  have hal38 := hS.giveAlike
  replace hsub : ∀ b, (fun x => R2 x ∨ x = b15) b → ro b ∨ w.heap.size ≤ b := fun b hb => hb.elim (hsub b) (fun h => .inr (by rw [h]; exact hS.giveLe))
  replace halL0 := halL0.trans hal38
  replace hx := SlV.keep hx hal38 (fun _ _ h => h.keep hal38)
  replace hch := hch.mono fun _ _ h => h.keep hal38
  have hown39 := hS.own _ List.mem_cons_self
  replace hS := hS.give
  replace hS := hS.dropN 2
  have hgm : MapC (fun x => R2 x ∨ x = b15) w36 [.map (some b15)] (mod10 ns (nam10 ns (ms.take i)).2 (its10 x11)).1 := ⟨b15, _, _, _, rfl, .inr rfl, hown39, hM2⟩
  have hch2 : Chunks 1 (MapC (fun x => R2 x ∨ x = b15) w36) (cs ++ ([.map (some b15)] : List Value)) (nam10 ns (ms.take (i + 1))).1 := by rw [nam10_next hx11]; exact hch.snoc rfl hgm
  exact N.loop (i + 1, .slice av37 (i + 1) cv37, cs ++ ([.map (some b15)] : List Value), (fun x => R2 x ∨ x = b15), w36) ⟨rfl, rfl, rfl, rfl, rfl, rfl, rfl, trivial⟩ ⟨(by rw [nam10_next hx11]; exact hS), by omega, hch2, halL0, hsub⟩ (by first | omega | (simp only; omega))
 have hc10p : ¬ ((i : Int) < (ms.length : Int)) := by simpa using hc10
 refine W.exit (X.seq (X.loop (X.blk (N.seq (W.seq (W.region (WL.move rfl rfl rfl (WL.assign rfl rfl rfl (WL.nil ?_)))))))))
 refine N.seq ?_
 refine Fin.ret1 rfl (v := .slice adv i capv) rfl ?_
 have hfin : Alike R2 ws2 (roFrom ro w w9) w9 := fun b hb => ⟨(hsub b hb).elim .inl (fun h => .inr ⟨h, (hS.snap b hb).1⟩), (hS.snap b hb).2⟩
 have hie : i = ms.length := by omega
 have hlen := hnm.2
 rw [hie, List.take_length] at hch
 rw [hie, List.take_length] at hlen
 rw [← hns2]
 exact ⟨row_slv (hS.rows _ List.mem_cons_self) (hch.mono fun _ _ h => h.keep hfin) (by simp only; omega) (fun x hx => .inr ((hS.keys x (by simp only [keysOf, List.mem_append, List.mem_filterMap]; exact .inr ⟨_, List.mem_cons_self, hx⟩)).imp id (·.1))), hS.below⟩

end Go.Proofs.YtapjejjmhmdmdaaDoor
