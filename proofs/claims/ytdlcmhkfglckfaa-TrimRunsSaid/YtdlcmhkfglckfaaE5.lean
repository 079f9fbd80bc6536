/-
  Contracts of the document's runs (marlineref07). No condition beyond those that each theorem states.
-/
import Derived.Test.YtdlcmhkfglckfaaE4
namespace Go.Proofs.Ytdlcmhkfglckfaa
open Go.RowKit
theorem agg_58 : tyAgg Try.prog 58 6 = true := by kernel_rfl
theorem fo_58_0 : fOff Try.prog 58 0 0 = true := by kernel_rfl
theorem fo_58_1 : fOff Try.prog 58 1 1 = true := by kernel_rfl
theorem siz_58 : tySize Try.prog 58 6 = true := by kernel_rfl
theorem zer_58 : tyZero Try.prog 58 = some [.bool false, .int .u64 0, .string ⟨#[]⟩, .int .i64 0, .int .i64 0, .int .i64 0] := by kernel_rfl
set_option maxRecDepth 20000 in
set_option maxHeartbeats 4000000 in
theorem run7_ret (m : DMod) (cm : List Value) (inp : ByteArray) (fuel deep : Int) (T : DTr) (e : Int) (hT : run7 m inp fuel deep = (T, e)) {w : World} {ro : Nat → Prop} (hro : ∀ b, ro b → b < w.heap.size) (hm : ModC ro w cm m) (hok : okMod m) : Ret Try.prog 28 #[.agg cm.toArray, .string inp, .int .i64 fuel, .int .i64 deep] w fun v w' => v = .tuple #[.agg #[.bool T.ended, .int .u64 T.code, .string T.out, .int .i64 T.read, .int .i64 T.steps, .int .i64 T.deep], .int .i64 e] ∧ Below w.heap.size w w' := by
 obtain ⟨sf, sg, rfl, hfs, hgs⟩ := id hm
 obtain ⟨adf, capf, rfl, hfsa, hfsb, hfsc, hfsd⟩ := id hfs
 have hfsm : m.funcs.length ≤ 9223372036854775807 := by have h1 := hfsa; have h2 := hfsb; unfold maxLen at h2; omega
 obtain ⟨adg, capg, rfl, hgsa, hgsb, hgsc, hgsd⟩ := id hgs
 have hgsm : m.globs.length ≤ 9223372036854775807 := by have h1 := hgsa; have h2 := hgsb; unfold maxLen at h2; omega
 refine Ret.enter (P := Try.prog) (n := 77) (args := [.agg #[.slice adf m.funcs.length capf, .slice adg m.globs.length capg], .string inp, .int .i64 fuel, .int .i64 deep]) (σ := [(0, .agg #[.slice adf m.funcs.length capf, .slice adg m.globs.length capg]), (1, .string inp), (2, .int .i64 fuel), (3, .int .i64 deep)]) Try.func28 rfl rfl rfl rfl ?_
 have hS := St.start (ro := ro) hro
 have hsub : ∀ b, ro b → ro b ∨ w.heap.size ≤ b := fun _ h => .inl h
 refine W.seq (W.region ?_)
 refine WL.box (v := .agg #[.slice adf m.funcs.length capf, .slice adg m.globs.length capg]) (cs := [.slice adf m.funcs.length capf, .slice adg m.globs.length capg]) rfl rfl rfl rfl hS ?_
 clear hS; intro w2 b1 hb_b1 hS
 refine WL.alloc (tyZero_spec zer_58) rfl rfl hS ?_
 clear hS; intro w4 b3 hb_b3 hS
 refine WL.assign rfl rfl rfl (WL.nil (N.seq (W.seq (W.seq (W.region (WL.move rfl rfl rfl (WL.bin rfl rfl rfl rfl rfl (WL.move rfl rfl rfl ?_))))))))
 rcases (Bool.eq_false_or_eq_true (decide (fuel < 0))).symm with hg5 | hg5
 ·
  refine WL.set 15 (v' := .bool false) rfl (by rw [hg5]) ?_
  refine WL.set 16 (v' := .bool false) rfl (by rw [hg5]) ?_
  have hg5p : ¬ (fuel < 0) := by simpa using hg5
  refine WL.move rfl rfl rfl (WL.bin rfl rfl rfl rfl rfl (WL.pick (v := .bool (decide (100000 < fuel))) rfl rfl rfl rfl rfl rfl (WL.move rfl rfl rfl ?_)))
  rcases (Bool.eq_false_or_eq_true (decide (100000 < fuel))).symm with hg6 | hg6
  ·
   refine WL.set 18 (v' := .bool false) rfl (by rw [hg6]) ?_
   refine WL.set 19 (v' := .bool false) rfl (by rw [hg6]) ?_
   refine WL.set 20 (v' := .bool false) rfl (by rw [hg6]) ?_
   have hg6p : ¬ (100000 < fuel) := by simpa using hg6
   refine WL.move rfl rfl rfl (WL.bin rfl rfl rfl rfl rfl (WL.pick (v := .bool (decide (deep < 1))) rfl rfl rfl rfl rfl rfl (WL.move rfl rfl rfl ?_)))
   rcases (Bool.eq_false_or_eq_true (decide (deep < 1))).symm with hg7 | hg7
   ·
    refine WL.set 22 (v' := .bool false) rfl (by rw [hg7]) ?_
    refine WL.set 23 (v' := .bool false) rfl (by rw [hg7]) ?_
    refine WL.set 24 (v' := .bool false) rfl (by rw [hg7]) ?_
    have hg7p : ¬ (deep < 1) := by simpa using hg7
    refine WL.move rfl rfl rfl (WL.bin rfl rfl rfl rfl rfl (WL.pick (v := .bool (decide (64 < deep))) rfl rfl rfl rfl rfl rfl (WL.nil (N.seq ?_))))
    refine W.cond rfl (fun hc8 => ?_) (fun hc8 => ?_)
    ·
     have hc8p : 64 < deep := by simpa using hc8
     refine W.seq (W.region ?_)
     refine WL.build (ps := []) (cs := [.bool false, .int .u64 0, .string ⟨#[]⟩, .int .i64 0, .int .i64 0, .int .i64 0]) rfl rfl rfl (by kernel_rfl) ?_
     refine WL.store (L' := [(b3, .cells #[.bool false, .int .u64 0, .string ⟨#[]⟩, .int .i64 0, .int .i64 0, .int .i64 0] 58 (0, 0)), (b1, .cells #[.slice adf m.funcs.length capf, .slice adg m.globs.length capg] 46 (0, 0))]) 0 rfl rfl rfl rfl siz_58 rfl rfl rfl rfl rfl hS ?_
     clear hS; intro w9 hS
     refine WL.assign rfl rfl rfl (WL.nil (N.seq ?_))
     refine Fin.retCT rfl (v := .agg #[.bool false, .int .u64 0, .string ⟨#[]⟩, .int .i64 0, .int .i64 0, .int .i64 0]) (v' := .int .i64 1) rfl (tyAgg_run agg_58 (cs := [.bool false, .int .u64 0, .string ⟨#[]⟩, .int .i64 0, .int .i64 0, .int .i64 0]) rfl (hS.cells 0 (m := 6) rfl rfl)) rfl ?_
     have e : run7 m inp fuel deep = (tr0, 1) := by unfold run7; rw [if_pos (by omega)]
     obtain ⟨rfl, rfl⟩ := Prod.mk.inj (e.symm.trans hT)
     exact ⟨rfl, hS.below⟩
    have hc8p : ¬ (64 < deep) := by simpa using hc8
    refine W.skip (N.seq (W.seq (W.region (WL.loadN (cs := [.slice adf m.funcs.length capf, .slice adg m.globs.length capg]) agg_46 rfl rfl rfl rfl (hS.cells 1 (m := 2) rfl rfl) ?_))))
    refine WL.callF (vs := [.agg #[.slice adf m.funcs.length capf, .slice adg m.globs.length capg]]) Try.func27 (by kernel_rfl) rfl rfl rfl (whole7_ret m _ (ro := ro) (fun b hb => (hS.snap b hb).1) (ModC.keep hm hS.alike) hok) ?_
    rintro v w10 ⟨rfl, hbl⟩
    replace hS := hS.grow hbl
    refine WL.assign rfl rfl rfl (WL.nil (N.seq (W.seq (W.seq (W.region (WL.move rfl rfl rfl (WL.bin rfl rfl rfl rfl rfl (WL.nil (N.seq ?_)))))))))
    refine W.cond rfl (fun hc11 => ?_) (fun hc11 => ?_)
    ·
     have hc11p : ¬ (whole7 m = 0) := by simpa using hc11
     refine W.seq (W.region ?_)
     refine WL.build (ps := []) (cs := [.bool false, .int .u64 0, .string ⟨#[]⟩, .int .i64 0, .int .i64 0, .int .i64 0]) rfl rfl rfl (by kernel_rfl) ?_
     refine WL.move rfl rfl rfl ?_
     refine WL.store (L' := [(b3, .cells #[.bool false, .int .u64 0, .string ⟨#[]⟩, .int .i64 0, .int .i64 0, .int .i64 0] 58 (0, 0)), (b1, .cells #[.slice adf m.funcs.length capf, .slice adg m.globs.length capg] 46 (0, 0))]) 0 rfl rfl rfl rfl siz_58 rfl rfl rfl rfl rfl hS ?_
     clear hS; intro w12 hS
     refine WL.assign rfl rfl rfl (WL.nil (N.seq ?_))
     refine Fin.retCT rfl (v := .agg #[.bool false, .int .u64 0, .string ⟨#[]⟩, .int .i64 0, .int .i64 0, .int .i64 0]) (v' := .int .i64 (whole7 m)) rfl (tyAgg_run agg_58 (cs := [.bool false, .int .u64 0, .string ⟨#[]⟩, .int .i64 0, .int .i64 0, .int .i64 0]) rfl (hS.cells 0 (m := 6) rfl rfl)) rfl ?_
     have e : run7 m inp fuel deep = (tr0, whole7 m) := by unfold run7; rw [if_neg (by omega), if_pos (by simpa using hc11p)]
     obtain ⟨rfl, rfl⟩ := Prod.mk.inj (e.symm.trans hT)
     exact ⟨rfl, hS.below⟩
    have hc11p : whole7 m = 0 := by simpa using hc11
    refine W.skip (N.seq (W.seq (W.region ?_)))
    refine WL.build (ps := []) (cs := [.bool false, .int .u64 0, .string ⟨#[]⟩, .int .i64 0, .int .i64 0, .int .i64 0, .slice none 0 0, .int .i64 0]) rfl rfl rfl (by kernel_rfl) ?_
    refine WL.alloc (tyZero_spec zer_84) rfl rfl hS ?_
    clear hS; intro w14 b13 hb_b13 hS
    refine WL.store (L' := [(b13, .cells #[.bool false, .int .u64 0, .string ⟨#[]⟩, .int .i64 0, .int .i64 0, .int .i64 0, .slice none 0 0, .int .i64 0] 84 (0, 0)), (b3, .cells #[.bool false, .int .u64 0, .string ⟨#[]⟩, .int .i64 0, .int .i64 0, .int .i64 0] 58 (0, 0)), (b1, .cells #[.slice adf m.funcs.length capf, .slice adg m.globs.length capg] 46 (0, 0))]) 0 rfl rfl rfl rfl siz_84 rfl rfl rfl rfl rfl hS ?_
    clear hS; intro w15 hS
    refine WL.nil (N.seq (W.seq (W.seq (W.region (WL.assign rfl rfl rfl (WL.nil (N.seq (W.block ?_))))))))
    have hw0 : whole7 m = 0 := by simpa using hc11p
    obtain ⟨_, hgl16, _⟩ := check5_all (whole7_all hw0).1
    replace hS := hS.row0 34 1
    refine W.loop (α := Nat × Value × List Value) (fun ⟨i, v, cs⟩ => [(1, .string inp), (2, .int .i64 fuel), (3, .int .i64 deep), (4, .pointer (some ⟨b1, 0, none⟩)), (8, .pointer (some ⟨b3, 0, none⟩)), (9, .int .i64 0), (11, .pointer (some ⟨b13, 0, none⟩)), (12, .int .i64 (i : Int))]) (fun ⟨i, v, cs⟩ u => St w w u ro [(b13, .cells #[.bool false, .int .u64 0, .string ⟨#[]⟩, .int .i64 0, .int .i64 0, .int .i64 0, v, .int .i64 0] 84 (0, 0)), (b3, .cells #[.bool false, .int .u64 0, .string ⟨#[]⟩, .int .i64 0, .int .i64 0, .int .i64 0] 58 (0, 0)), (b1, .cells #[.slice adf m.funcs.length capf, .slice adg m.globs.length capg] 46 (0, 0))] [⟨v, 34, 1, i, cs⟩] ∧ i ≤ m.globs.length ∧ Chunks 1 U64C cs ((m.globs.take i).map (·.init))) (fun ⟨i, v, cs⟩ => m.globs.length - i) (0, (.slice none 0 0), []) ⟨rfl, rfl, rfl, rfl, rfl, rfl, rfl, rfl, trivial⟩ ⟨hS, Nat.zero_le _, Chunks.nil⟩ ?_
    clear hS
    rintro ⟨i, v, cs⟩ w16 ⟨hS, hi, hch⟩
    have hrow : w16.ownsRow w.heap.size 34 1 v (i) _ := hS.rows _ List.mem_cons_self
    obtain ⟨adv, capv, rfl, hr1v, hr2v, hr3v⟩ := row_shape hrow
    clear hrow
    refine W.seq (W.seq (W.region (WL.move rfl rfl rfl (WL.fieldAddr fo_46_1 rfl rfl rfl (WL.load1 (v := .slice adg m.globs.length capg) one_44 rfl rfl rfl (hS.cell 2 rfl rfl) (WL.lenSlice Try.underlying44 rfl rfl rfl (WL.bin rfl rfl rfl rfl rfl (WL.nil (N.seq ?_)))))))))
    refine W.cond rfl (fun hc17 => ?_) (fun hc17 => ?_)
    ·
     have hc17p : (i : Int) < (m.globs.length : Int) := by simpa using hc17
     refine W.skip (N.seq (W.seq (W.block ?_)))
     have hj18 : i < m.globs.length := by omega
     obtain ⟨x18, hx18⟩ : ∃ zz, m.globs[i]? = some zz := ⟨_, List.getElem?_eq_getElem hj18⟩
     obtain ⟨b18, o18, cs18, hE18, hr18, hl18, hc18, hQ18⟩ := hgsd i _ hx18
     obtain ⟨rfl, hgn18, hgb18, hgi18⟩ := hQ18
     refine W.drawA0 (S := fun u => True) (by kernel_rfl) (fun w19 hbd => ?_)
     replace hS := hS.grow hbd
     refine WA.conv (fuel' := 9 + 3) (listed' := #[false, false, false, false, false, false, false, false, false, false, false, false]) (by kernel_rfl) (by kernel_rfl) (WA.phaseI [(0, (fun v _ => v = .pointer (some ⟨b13, 6, none⟩))), (1, (fun v _ => v = .slice adv i capv)), (2, (fun v _ => v = .pointer (some ⟨b1, 1, none⟩))), (3, (fun v _ => v = .slice adg m.globs.length capg)), (4, (fun v _ => v = .int .i64 (i : Int))), (5, (fun v _ => v = .pointer (some ⟨b18, o18 + i * 4, none⟩))), (6, (fun v _ => v = .pointer (some ⟨b18, o18 + i * 4 + 3, none⟩))), (7, (fun v _ => v = .int .u64 x18.init)), (8, (fun v u => ∃ b, v = .slice (some ⟨b, 0, none⟩) 1 1 ∧ u.heap[b]? = some (.cells [.int .u64 x18.init].toArray 34 (0, 0))))] (by kernel_rfl) [(1, .string inp), (2, .int .i64 fuel), (3, .int .i64 deep), (4, .pointer (some ⟨b1, 0, none⟩)), (8, .pointer (some ⟨b3, 0, none⟩)), (9, .int .i64 0), (11, .pointer (some ⟨b13, 0, none⟩)), (12, .int .i64 (i : Int))] ⟨rfl, rfl, rfl, rfl, rfl, rfl, rfl, rfl, trivial⟩ (by kernel_rfl) ⟨stays_eq, stays_eq, stays_eq, stays_eq, stays_eq, stays_eq, stays_eq, stays_eq, (fun v u u2 h hb => h.elim fun b h => ⟨b, h.1, (hb.block b (Array.getElem?_eq_some_iff.1 h.2).1).trans h.2⟩), trivial⟩ ?_ (fun _ _ => trivial) ?_)
     ·
      refine ⟨fun β wd hb hD => ⟨_, rfl, ?_⟩, ?_⟩
      ·
       refine WL.sub (σ' := [(11, .pointer (some ⟨b13, 0, none⟩))]) ⟨rfl, trivial⟩ ?_
       have hS := hS.grow hb
       refine WL.fieldAddr fo_84_1 rfl rfl rfl ?_
       exact WL.nil (N.cut (.pointer (some ⟨b13, 6, none⟩)) ⟨rfl, trivial⟩ ⟨(Below.refl _ _), rfl⟩)
      refine ⟨fun β wd hb hD => ⟨_, rfl, ?_⟩, ?_⟩
      ·
       obtain ⟨hp0, _⟩ := hD
       replace hp0 : β 0 = .pointer (some ⟨b13, 6, none⟩) := hp0
       refine WL.sub (σ' := [(43, .pointer (some ⟨b13, 6, none⟩))]) ⟨congrArg some hp0, trivial⟩ ?_
       have hS := hS.grow hb
       refine WL.load1 (v := .slice adv i capv) one_82 rfl rfl rfl (hS.cell 0 rfl rfl) ?_
       exact WL.nil (N.cut (.slice adv i capv) ⟨rfl, trivial⟩ ⟨(Below.refl _ _), rfl⟩)
      refine ⟨fun β wd hb hD => ⟨_, rfl, ?_⟩, ?_⟩
      ·
       refine WL.sub (σ' := [(4, .pointer (some ⟨b1, 0, none⟩))]) ⟨rfl, trivial⟩ ?_
       have hS := hS.grow hb
       refine WL.fieldAddr fo_46_1 rfl rfl rfl ?_
       exact WL.nil (N.cut (.pointer (some ⟨b1, 1, none⟩)) ⟨rfl, trivial⟩ ⟨(Below.refl _ _), rfl⟩)
      refine ⟨fun β wd hb hD => ⟨_, rfl, ?_⟩, ?_⟩
      ·
       obtain ⟨hp2, _⟩ := hD
       replace hp2 : β 2 = .pointer (some ⟨b1, 1, none⟩) := hp2
       refine WL.sub (σ' := [(45, .pointer (some ⟨b1, 1, none⟩))]) ⟨congrArg some hp2, trivial⟩ ?_
       have hS := hS.grow hb
       refine WL.load1 (v := .slice adg m.globs.length capg) one_44 rfl rfl rfl (hS.cell 2 rfl rfl) ?_
       exact WL.nil (N.cut (.slice adg m.globs.length capg) ⟨rfl, trivial⟩ ⟨(Below.refl _ _), rfl⟩)
      refine ⟨fun β wd hb hD => ⟨_, rfl, ?_⟩, ?_⟩
      ·
       refine WL.sub (σ' := [(12, .int .i64 (i : Int))]) ⟨rfl, trivial⟩ ?_
       have hS := hS.grow hb
       refine WL.move rfl rfl rfl ?_
       exact WL.nil (N.cut (.int .i64 (i : Int)) ⟨rfl, trivial⟩ ⟨(Below.refl _ _), rfl⟩)
      refine ⟨fun β wd hb hD => ⟨_, rfl, ?_⟩, ?_⟩
      ·
       obtain ⟨hp3, hp4, _⟩ := hD
       replace hp3 : β 3 = .slice adg m.globs.length capg := hp3
       replace hp4 : β 4 = .int .i64 (i : Int) := hp4
       refine WL.sub (σ' := [(46, .slice adg m.globs.length capg), (47, .int .i64 (i : Int))]) ⟨congrArg some hp3, congrArg some hp4, trivial⟩ ?_
       have hS := hS.grow hb
       refine WL.indexAddrE (j := i) Try.underlying44 isz_71 rfl rfl rfl rfl hj18 hE18 ?_
       exact WL.nil (N.cut (.pointer (some ⟨b18, o18 + i * 4, none⟩)) ⟨rfl, trivial⟩ ⟨(Below.refl _ _), rfl⟩)
      refine ⟨fun β wd hb hD => ⟨_, rfl, ?_⟩, ?_⟩
      ·
       obtain ⟨hp5, _⟩ := hD
       replace hp5 : β 5 = .pointer (some ⟨b18, o18 + i * 4, none⟩) := hp5
       refine WL.sub (σ' := [(48, .pointer (some ⟨b18, o18 + i * 4, none⟩))]) ⟨congrArg some hp5, trivial⟩ ?_
       have hS := hS.grow hb
       refine WL.fieldAddr fo_71_3 rfl rfl rfl ?_
       exact WL.nil (N.cut (.pointer (some ⟨b18, o18 + i * 4 + 3, none⟩)) ⟨rfl, trivial⟩ ⟨(Below.refl _ _), rfl⟩)
      refine ⟨fun β wd hb hD => ⟨_, rfl, ?_⟩, ?_⟩
      ·
       obtain ⟨hp6, _⟩ := hD
       replace hp6 : β 6 = .pointer (some ⟨b18, o18 + i * 4 + 3, none⟩) := hp6
       refine WL.sub (σ' := [(49, .pointer (some ⟨b18, o18 + i * 4 + 3, none⟩))]) ⟨congrArg some hp6, trivial⟩ ?_
       have hS := hS.grow hb
       refine WL.load1 (v := .int .u64 x18.init) one_34 rfl rfl rfl (hS.roCells hr18 hc18 3 _ rfl) ?_
       exact WL.nil (N.cut (.int .u64 x18.init) ⟨rfl, trivial⟩ ⟨(Below.refl _ _), rfl⟩)
      refine ⟨fun β wd hb hD => ⟨_, rfl, ?_⟩, ?_⟩
      ·
       obtain ⟨hp7, _⟩ := hD
       replace hp7 : β 7 = .int .u64 x18.init := hp7
       refine WL.sub (σ' := [(50, .int .u64 x18.init)]) ⟨congrArg some hp7, trivial⟩ ?_
       have hS := hS.grow hb
       have hX := St.start (w := wd) (ro := fun z => z < wd.heap.size) (fun _ h => h)
       refine WL.buildSlice (ps := [(0, .int .u64 x18.init)]) (cs := [.int .u64 x18.init]) Try.underlying82 (tyZero_spec zer_34) rfl rfl rfl rfl (by kernel_rfl) hX ?_
       clear hX; intro w21 b20 hb_b20 hX
       exact WL.nil (N.cut (.slice (some ⟨b20, 0, none⟩) 1 1) ⟨rfl, trivial⟩ ⟨hX.below, ⟨_, rfl, hX.own _ List.mem_cons_self⟩⟩)
      trivial
     intro β w22 hb hD
     obtain ⟨hp0, hp1, hp2, hp3, hp4, hp5, hp6, hp7, hp8, _⟩ := hD
     refine WA.sub (σ' := [(1, .string inp), (2, .int .i64 fuel), (3, .int .i64 deep), (4, .pointer (some ⟨b1, 0, none⟩)), (8, .pointer (some ⟨b3, 0, none⟩)), (9, .int .i64 0), (11, .pointer (some ⟨b13, 0, none⟩)), (12, .int .i64 (i : Int)), (44, .slice adv i capv), (51, (β 8))]) ⟨rfl, rfl, rfl, rfl, rfl, rfl, rfl, rfl, congrArg some (show β 1 = .slice adv i capv from hp1), rfl, trivial⟩ ?_
     have hSd := hS
     replace hS := hS.grow hb
     replace hp8 : (fun v u => ∃ b, v = .slice (some ⟨b, 0, none⟩) 1 1 ∧ u.heap[b]? = some (.cells [.int .u64 x18.init].toArray 34 (0, 0))) (β 8) w22 := hp8
     generalize β 8 = z8 at hp8 ⊢
     refine WA.conv (fuel' := 2 + 1) (listed' := #[true, true, true, true, true, true, true, true, true, false, false, false]) (by kernel_rfl) (by kernel_rfl) (WA.stepS 9 (by kernel_rfl) rfl ?_)
     obtain ⟨bq8, rfl, hbq8⟩ := hp8
     have hcq8 := cellsAt_block hbq8
     refine WL.appendRo (r := ⟨.slice adv i capv, 34, 1, i, cs⟩) (news := [.int .u64 x18.init]) 8 Try.underlying82 (tyZero_spec zer_34) byt_34 rfl rfl rfl rfl rfl rfl (fun e => by cases e) (fun b off e => by cases e; exact hcq8) (fun a e _ => by cases e; rfl) ?_ rfl rfl hS (by simp only; unfold maxLen; omega) (by simp only; omega) ?_
     ·
      intro u hu; simp only [List.mem_cons, List.not_mem_nil, or_false] at hu; rcases hu with rfl <;> rfl
     clear hS; intro w23 v24 hS hnn
     have hrow : w23.ownsRow w.heap.size 34 1 v24 (i + 1) _ := hS.rows _ List.mem_cons_self
     obtain ⟨av24, cv24, rfl, hc1_v24, hc2_v24, hc3_v24⟩ := row_shape hrow
     clear hrow
     refine WL.nil (N.restS trivial ?_)
     refine WA.conv (fuel' := 1 + 1) (listed' := #[true, true, true, true, true, true, true, true, true, true, false, false]) (by kernel_rfl) (by kernel_rfl) (WA.stepS 10 (by kernel_rfl) rfl ?_)
     refine WL.fieldAddr fo_84_1 rfl rfl rfl ?_
     refine WL.nil (N.restS trivial ?_)
     refine WA.conv (fuel' := 0 + 1) (listed' := #[true, true, true, true, true, true, true, true, true, true, true, false]) (by kernel_rfl) (by kernel_rfl) (WA.stepS 11 (by kernel_rfl) rfl ?_)
     refine WL.store (L' := [(b13, .cells #[.bool false, .int .u64 0, .string ⟨#[]⟩, .int .i64 0, .int .i64 0, .int .i64 0, .slice av24 (i + 1) cv24, .int .i64 0] 84 (0, 0)), (b3, .cells #[.bool false, .int .u64 0, .string ⟨#[]⟩, .int .i64 0, .int .i64 0, .int .i64 0] 58 (0, 0)), (b1, .cells #[.slice adf m.funcs.length capf, .slice adg m.globs.length capg] 46 (0, 0))]) 0 rfl rfl rfl rfl siz_82 rfl rfl rfl rfl rfl hS ?_
     clear hS; intro w25 hS
     refine WL.nil (N.restS trivial ?_)
     refine WA.doneN (by kernel_rfl) ?_
     refine N.blk (N.seq (W.region (WL.move rfl rfl rfl ?_)))
     refine WL.add (c := (i : Int) + 1) rfl rfl rfl rfl (rfl) (by omega) ?_
     refine WL.assign rfl rfl rfl (WL.nil ?_)
     have hch2 : Chunks 1 U64C (cs ++ [.int .u64 x18.init]) ((m.globs.take (i + 1)).map (·.init)) := by rw [take_next hx18, List.map_append]; exact hch.snoc rfl ⟨rfl, hgi18⟩
     exact N.loop (i + 1, .slice av24 (i + 1) cv24, cs ++ [.int .u64 x18.init]) ⟨rfl, rfl, rfl, rfl, rfl, rfl, rfl, rfl, trivial⟩ ⟨hS, by omega, hch2⟩ (by first | omega | (simp only; omega))
    have hc17p : ¬ ((i : Int) < (m.globs.length : Int)) := by simpa using hc17
    refine W.exit (X.seq (X.loop (X.blk (N.seq (W.seq ?_)))))
    have hie : i = m.globs.length := by omega
    rw [hie, List.take_length] at hch
    have hal26 := hS.giveRowAlike
    replace hm := hm.keep hal26
    have hrow27 := hS.rows _ List.mem_cons_self
    replace hS := hS.giveRow
    have hgv : SlV (fun x => ro x ∨ (.slice adv i capv : Value).ownBlock = some x) w16 1 U64C (.slice adv i capv) (⟨tr0, m.globs.map (·.init), 0⟩ : DW).globs := row_slv hrow27 hch (by show i = (m.globs.map (·.init)).length; rw [List.length_map]; exact hie) (fun b hb => .inr hb)
    have hI0 : Inv7 m fuel 0 (⟨tr0, m.globs.map (·.init), 0⟩ : DW) := ⟨by simp, Int.le_refl 0, Int.le_refl 0, Int.le_refl 0, by show (0 : Int) ≤ fuel; omega, Int.le_refl 0⟩
    have hmain : ∃ f, m.funcs[(find5 (fnames m) mainB).toNat]? = some f ∧ 0 ≤ find5 (fnames m) mainB ∧ f.blocks ≠ [] ∧ f.params = (([] : List Int).length : Int) := by obtain ⟨f, h1, h2, h3, h4⟩ := (whole7_all hw0).2.1; exact ⟨f, h1, h2, h3, by rw [h4]; rfl⟩
    obtain ⟨Y5, k5, hc5⟩ : ∃ Y k, call7 m inp fuel deep (deep - 1).toNat (⟨tr0, m.globs.map (·.init), 0⟩ : DW) mainB [] = (Y, k) := ⟨_, _, rfl⟩
    have hrun : run7 m inp fuel deep = if Y5.bad ≠ 0 then (Y5.t, Y5.bad) else ({ Y5.t with ended := true, code := k5 }, 0) := by unfold run7; rw [if_neg (by omega), if_neg (by omega), hc5]
    refine W.region (WL.loadN (cs := [.slice adf m.funcs.length capf, .slice adg m.globs.length capg]) agg_46 rfl rfl rfl rfl (hS.cells 2 (m := 2) rfl rfl) (WL.loadN (cs := [.bool false, .int .u64 0, .string ⟨#[]⟩, .int .i64 0, .int .i64 0, .int .i64 0, .slice adv i capv, .int .i64 0]) agg_84 rfl rfl rfl rfl (hS.cells 0 (m := 8) rfl rfl) (WL.move rfl rfl rfl (WL.move rfl rfl rfl (WL.move rfl rfl rfl ?_)))))
    refine WL.callF (vs := [.agg #[.slice adf m.funcs.length capf, .slice adg m.globs.length capg], .agg #[.bool false, .int .u64 0, .string ⟨#[]⟩, .int .i64 0, .int .i64 0, .int .i64 0, .slice adv i capv, .int .i64 0], .string inp, .string ⟨#[109, 97, 105, 110]⟩, .slice none 0 0, .int .i64 1, .int .i64 fuel, .int .i64 deep]) Try.func50 (by kernel_rfl) rfl rfl rfl (call7_ret hw0 ⟨by omega, by omega⟩ ⟨by omega, by omega⟩ (deep - 1).toNat _ 1 (⟨tr0, m.globs.map (·.init), 0⟩ : DW) _ mainB [] (.slice none 0 0) (ro := (fun x => ro x ∨ (.slice adv i capv : Value).ownBlock = some x)) (fun b hb => (hS.snap b hb).1) (ModC.keep hm hS.alike) (SlV.keep hgv hS.alike (fun _ _ q => q)) slv_nil hI0 rfl ⟨by omega, by omega⟩ hmain Y5 k5 hc5) ?_
    rintro v w28 ⟨g5, rfl, hg5, hk5, hbl⟩
    replace hS := hS.readNew hbl
    obtain ⟨ga5, gc5, rfl, hg5a, hg5b, hg5c, hg5d⟩ := id hg5
    have hg5m : Y5.globs.length ≤ 9223372036854775807 := by have h1 := hg5a; have h2 := hg5b; unfold maxLen at h2; omega
    refine WL.move rfl rfl rfl (WL.extract (v := .agg #[.bool Y5.t.ended, .int .u64 Y5.t.code, .string Y5.t.out, .int .i64 Y5.t.read, .int .i64 Y5.t.steps, .int .i64 Y5.t.deep, .slice ga5 Y5.globs.length gc5, .int .i64 Y5.bad]) rfl rfl rfl rfl (WL.extract (v := .int .u64 k5) rfl rfl rfl rfl ?_))
    refine WL.store (L' := [(b13, .cells #[.bool Y5.t.ended, .int .u64 Y5.t.code, .string Y5.t.out, .int .i64 Y5.t.read, .int .i64 Y5.t.steps, .int .i64 Y5.t.deep, .slice ga5 Y5.globs.length gc5, .int .i64 Y5.bad] 84 (0, 0)), (b3, .cells #[.bool false, .int .u64 0, .string ⟨#[]⟩, .int .i64 0, .int .i64 0, .int .i64 0] 58 (0, 0)), (b1, .cells #[.slice adf m.funcs.length capf, .slice adg m.globs.length capg] 46 (0, 0))]) 0 rfl rfl rfl rfl siz_84 rfl rfl rfl rfl rfl hS ?_
    clear hS; intro w30 hS
    refine WL.assign rfl rfl rfl (WL.nil (N.seq (W.seq (W.seq (W.region (WL.fieldAddr fo_84_2 rfl rfl rfl (WL.load1 (v := .int .i64 Y5.bad) one_3 rfl rfl rfl (hS.cell 0 rfl rfl) (WL.bin rfl rfl rfl rfl rfl (WL.nil ?_)))))))))
    refine N.seq ?_
    refine W.cond rfl (fun hc31 => ?_) (fun hc31 => ?_)
    ·
     have hc31p : ¬ (Y5.bad = 0) := by simpa using hc31
     refine W.seq ?_
     refine W.drawS (L' := [(b13, .cells #[.bool Y5.t.ended, .int .u64 Y5.t.code, .string Y5.t.out, .int .i64 Y5.t.read, .int .i64 Y5.t.steps, .int .i64 Y5.t.deep, .slice ga5 Y5.globs.length gc5, .int .i64 Y5.bad] 84 (0, 0)), (b3, .cells #[.bool Y5.t.ended, .int .u64 Y5.t.code, .string Y5.t.out, .int .i64 Y5.t.read, .int .i64 Y5.t.steps, .int .i64 Y5.t.deep] 58 (0, 0)), (b1, .cells #[.slice adf m.funcs.length capf, .slice adg m.globs.length capg] 46 (0, 0))]) (by kernel_rfl) 5 4 [(.pointer (some ⟨b13, 0, none⟩), true), (.agg #[.bool Y5.t.ended, .int .u64 Y5.t.code, .string Y5.t.out, .int .i64 Y5.t.read, .int .i64 Y5.t.steps, .int .i64 Y5.t.deep], true), (.pointer (some ⟨b13, 7, none⟩), false), (.int .i64 Y5.bad, false), (undef, false)] (by kernel_rfl) rfl (by kernel_rfl) rfl rfl [(8, .pointer (some ⟨b3, 0, none⟩)), (9, .int .i64 0), (11, .pointer (some ⟨b13, 0, none⟩)), (13, .int .u64 k5)] ⟨rfl, rfl, rfl, rfl, trivial⟩ rfl hS ?_ ?_
     ·
      refine And.intro (fun C hC wd hCw => ?_) ?_
      ·
       rcases hC with rfl | hC
       ·
        refine WL.sub (σ' := [(11, .pointer (some ⟨b13, 0, none⟩))]) ⟨rfl, trivial⟩ ?_
        replace hS := hCw
        refine WL.fieldAddr fo_84_0 rfl rfl rfl ?_
        exact WL.nil (N.cut () ⟨rfl, trivial⟩ (Below.refl _ _))
       exact False.elim hC
      refine And.intro (fun C hC wd hCw => ?_) ?_
      ·
       rcases hC with rfl | hC
       ·
        refine WL.sub (σ' := [(66, .pointer (some ⟨b13, 0, none⟩))]) ⟨rfl, trivial⟩ ?_
        replace hS := hCw
        refine WL.loadN (cs := [.bool Y5.t.ended, .int .u64 Y5.t.code, .string Y5.t.out, .int .i64 Y5.t.read, .int .i64 Y5.t.steps, .int .i64 Y5.t.deep]) agg_58 rfl rfl rfl rfl (hS.cells 0 (m := 6) rfl rfl) ?_
        exact WL.nil (N.cut () ⟨rfl, trivial⟩ (Below.refl _ _))
       exact False.elim hC
      refine And.intro (fun C hC wd hCw => ?_) ?_
      ·
       rcases hC with rfl | hC
       ·
        refine WL.sub (σ' := [(11, .pointer (some ⟨b13, 0, none⟩))]) ⟨rfl, trivial⟩ ?_
        replace hS := hCw
        refine WL.fieldAddr fo_84_2 rfl rfl rfl ?_
        exact WL.nil (N.cut () ⟨rfl, trivial⟩ (Below.refl _ _))
       cases hC
       refine WL.sub (σ' := [(11, .pointer (some ⟨b13, 0, none⟩))]) ⟨rfl, trivial⟩ ?_
       replace hS := hCw
       refine WL.fieldAddr fo_84_2 rfl rfl rfl ?_
       exact WL.nil (N.cut () ⟨rfl, trivial⟩ (Below.refl _ _))
      refine And.intro (fun C hC wd hCw => ?_) ?_
      ·
       rcases hC with rfl | hC
       ·
        refine WL.sub (σ' := [(68, .pointer (some ⟨b13, 7, none⟩))]) ⟨rfl, trivial⟩ ?_
        replace hS := hCw
        refine WL.load1 (v := .int .i64 Y5.bad) one_3 rfl rfl rfl (hS.cell 0 rfl rfl) ?_
        exact WL.nil (N.cut () ⟨rfl, trivial⟩ (Below.refl _ _))
       cases hC
       refine WL.sub (σ' := [(68, .pointer (some ⟨b13, 7, none⟩))]) ⟨rfl, trivial⟩ ?_
       replace hS := hCw
       refine WL.load1 (v := .int .i64 Y5.bad) one_3 rfl rfl rfl (hS.cell 0 rfl rfl) ?_
       exact WL.nil (N.cut () ⟨rfl, trivial⟩ (Below.refl _ _))
      refine And.intro (fun wd hCw => ?_) ?_
      ·
       refine WL.sub (σ' := [(8, .pointer (some ⟨b3, 0, none⟩)), (67, .agg #[.bool Y5.t.ended, .int .u64 Y5.t.code, .string Y5.t.out, .int .i64 Y5.t.read, .int .i64 Y5.t.steps, .int .i64 Y5.t.deep])]) ⟨rfl, rfl, trivial⟩ ?_
       replace hS := hCw
       refine WL.store (L' := [(b13, .cells #[.bool Y5.t.ended, .int .u64 Y5.t.code, .string Y5.t.out, .int .i64 Y5.t.read, .int .i64 Y5.t.steps, .int .i64 Y5.t.deep, .slice ga5 Y5.globs.length gc5, .int .i64 Y5.bad] 84 (0, 0)), (b3, .cells #[.bool Y5.t.ended, .int .u64 Y5.t.code, .string Y5.t.out, .int .i64 Y5.t.read, .int .i64 Y5.t.steps, .int .i64 Y5.t.deep] 58 (0, 0)), (b1, .cells #[.slice adf m.funcs.length capf, .slice adg m.globs.length capg] 46 (0, 0))]) 1 rfl rfl rfl rfl siz_58 rfl rfl rfl rfl rfl hS ?_
       clear hS; intro w33 hS
       exact WL.nil (N.cut () trivial hS)
      trivial
     clear hS; intro w34 hS
     refine WL.sub (σ' := [(8, .pointer (some ⟨b3, 0, none⟩)), (9, .int .i64 0), (11, .pointer (some ⟨b13, 0, none⟩)), (13, .int .u64 k5), (69, .int .i64 Y5.bad)]) ⟨rfl, rfl, rfl, rfl, rfl, trivial⟩ ?_
     refine WL.assign rfl rfl rfl (WL.nil (N.seq ?_))
     refine Fin.retCT rfl (v := .agg #[.bool Y5.t.ended, .int .u64 Y5.t.code, .string Y5.t.out, .int .i64 Y5.t.read, .int .i64 Y5.t.steps, .int .i64 Y5.t.deep]) (v' := .int .i64 Y5.bad) rfl (tyAgg_run agg_58 (cs := [.bool Y5.t.ended, .int .u64 Y5.t.code, .string Y5.t.out, .int .i64 Y5.t.read, .int .i64 Y5.t.steps, .int .i64 Y5.t.deep]) rfl (hS.cells 1 (m := 6) rfl rfl)) rfl ?_
     have e : run7 m inp fuel deep = (Y5.t, Y5.bad) := by rw [hrun, if_pos (by simpa using hc31p)]
     obtain ⟨rfl, rfl⟩ := Prod.mk.inj (e.symm.trans hT)
     exact ⟨rfl, hS.below⟩
    have hc31p : Y5.bad = 0 := by simpa using hc31
    refine W.skip (N.seq (W.seq (W.region (WL.fieldAddr fo_84_0 rfl rfl rfl (WL.fieldAddr fo_58_0 rfl rfl rfl ?_)))))
    refine WL.store (L' := [(b13, .cells #[.bool true, .int .u64 Y5.t.code, .string Y5.t.out, .int .i64 Y5.t.read, .int .i64 Y5.t.steps, .int .i64 Y5.t.deep, .slice ga5 Y5.globs.length gc5, .int .i64 Y5.bad] 84 (0, 0)), (b3, .cells #[.bool false, .int .u64 0, .string ⟨#[]⟩, .int .i64 0, .int .i64 0, .int .i64 0] 58 (0, 0)), (b1, .cells #[.slice adf m.funcs.length capf, .slice adg m.globs.length capg] 46 (0, 0))]) 0 rfl rfl rfl rfl siz_4 rfl rfl rfl rfl rfl hS ?_
    clear hS; intro w35 hS
    refine WL.nil (N.seq (W.seq (W.region (WL.move rfl rfl rfl (WL.fieldAddr fo_84_0 rfl rfl rfl (WL.fieldAddr fo_58_1 rfl rfl rfl ?_))))))
    refine WL.store (L' := [(b13, .cells #[.bool true, .int .u64 k5, .string Y5.t.out, .int .i64 Y5.t.read, .int .i64 Y5.t.steps, .int .i64 Y5.t.deep, .slice ga5 Y5.globs.length gc5, .int .i64 Y5.bad] 84 (0, 0)), (b3, .cells #[.bool false, .int .u64 0, .string ⟨#[]⟩, .int .i64 0, .int .i64 0, .int .i64 0] 58 (0, 0)), (b1, .cells #[.slice adf m.funcs.length capf, .slice adg m.globs.length capg] 46 (0, 0))]) 0 rfl rfl rfl rfl siz_34 rfl rfl rfl rfl rfl hS ?_
    clear hS; intro w36 hS
    refine WL.nil (N.seq (W.seq (W.region (WL.fieldAddr fo_84_0 rfl rfl rfl (WL.loadN (cs := [.bool true, .int .u64 k5, .string Y5.t.out, .int .i64 Y5.t.read, .int .i64 Y5.t.steps, .int .i64 Y5.t.deep]) agg_58 rfl rfl rfl rfl (hS.cells 0 (m := 6) rfl rfl) ?_)))))
    refine WL.store (L' := [(b13, .cells #[.bool true, .int .u64 k5, .string Y5.t.out, .int .i64 Y5.t.read, .int .i64 Y5.t.steps, .int .i64 Y5.t.deep, .slice ga5 Y5.globs.length gc5, .int .i64 Y5.bad] 84 (0, 0)), (b3, .cells #[.bool true, .int .u64 k5, .string Y5.t.out, .int .i64 Y5.t.read, .int .i64 Y5.t.steps, .int .i64 Y5.t.deep] 58 (0, 0)), (b1, .cells #[.slice adf m.funcs.length capf, .slice adg m.globs.length capg] 46 (0, 0))]) 1 rfl rfl rfl rfl siz_58 rfl rfl rfl rfl rfl hS ?_
    clear hS; intro w37 hS
    refine WL.assign rfl rfl rfl (WL.nil (N.seq ?_))
    refine Fin.retCT rfl (v := .agg #[.bool true, .int .u64 k5, .string Y5.t.out, .int .i64 Y5.t.read, .int .i64 Y5.t.steps, .int .i64 Y5.t.deep]) (v' := .int .i64 0) rfl (tyAgg_run agg_58 (cs := [.bool true, .int .u64 k5, .string Y5.t.out, .int .i64 Y5.t.read, .int .i64 Y5.t.steps, .int .i64 Y5.t.deep]) rfl (hS.cells 1 (m := 6) rfl rfl)) rfl ?_
    have e : run7 m inp fuel deep = ({ Y5.t with ended := true, code := k5 }, 0) := by rw [hrun, if_neg (by simpa using hc31p)]
    obtain ⟨rfl, rfl⟩ := Prod.mk.inj (e.symm.trans hT)
    exact ⟨rfl, hS.below⟩
   refine WL.set 22 (v' := .bool true) rfl (by rw [hg7]) ?_
   refine WL.set 23 (v' := .bool true) rfl (by rw [hg7]) ?_
   refine WL.set 24 (v' := .bool true) rfl (by rw [hg7]) ?_
   have hg7p : deep < 1 := by simpa using hg7
   refine WL.skp rfl rfl (WL.skp rfl rfl (WL.pick (v := .bool true) rfl rfl rfl rfl rfl rfl (WL.nil (N.seq (W.condT rfl (W.seq (W.region ?_)))))))
   refine WL.build (ps := []) (cs := [.bool false, .int .u64 0, .string ⟨#[]⟩, .int .i64 0, .int .i64 0, .int .i64 0]) rfl rfl rfl (by kernel_rfl) ?_
   refine WL.store (L' := [(b3, .cells #[.bool false, .int .u64 0, .string ⟨#[]⟩, .int .i64 0, .int .i64 0, .int .i64 0] 58 (0, 0)), (b1, .cells #[.slice adf m.funcs.length capf, .slice adg m.globs.length capg] 46 (0, 0))]) 0 rfl rfl rfl rfl siz_58 rfl rfl rfl rfl rfl hS ?_
   clear hS; intro w38 hS
   refine WL.assign rfl rfl rfl (WL.nil (N.seq ?_))
   refine Fin.retCT rfl (v := .agg #[.bool false, .int .u64 0, .string ⟨#[]⟩, .int .i64 0, .int .i64 0, .int .i64 0]) (v' := .int .i64 1) rfl (tyAgg_run agg_58 (cs := [.bool false, .int .u64 0, .string ⟨#[]⟩, .int .i64 0, .int .i64 0, .int .i64 0]) rfl (hS.cells 0 (m := 6) rfl rfl)) rfl ?_
   have e : run7 m inp fuel deep = (tr0, 1) := by unfold run7; rw [if_pos (by omega)]
   obtain ⟨rfl, rfl⟩ := Prod.mk.inj (e.symm.trans hT)
   exact ⟨rfl, hS.below⟩
  refine WL.set 18 (v' := .bool true) rfl (by rw [hg6]) ?_
  refine WL.set 19 (v' := .bool true) rfl (by rw [hg6]) ?_
  refine WL.set 20 (v' := .bool true) rfl (by rw [hg6]) ?_
  have hg6p : 100000 < fuel := by simpa using hg6
  refine WL.skp rfl rfl (WL.skp rfl rfl (WL.pick (v := .bool true) rfl rfl rfl rfl rfl rfl (WL.move rfl rfl rfl (WL.skp rfl rfl (WL.skp rfl rfl (WL.pick (v := .bool true) rfl rfl rfl rfl rfl rfl (WL.nil (N.seq (W.condT rfl ?_)))))))))
  refine W.seq (W.region ?_)
  refine WL.build (ps := []) (cs := [.bool false, .int .u64 0, .string ⟨#[]⟩, .int .i64 0, .int .i64 0, .int .i64 0]) rfl rfl rfl (by kernel_rfl) ?_
  refine WL.store (L' := [(b3, .cells #[.bool false, .int .u64 0, .string ⟨#[]⟩, .int .i64 0, .int .i64 0, .int .i64 0] 58 (0, 0)), (b1, .cells #[.slice adf m.funcs.length capf, .slice adg m.globs.length capg] 46 (0, 0))]) 0 rfl rfl rfl rfl siz_58 rfl rfl rfl rfl rfl hS ?_
  clear hS; intro w39 hS
  refine WL.assign rfl rfl rfl (WL.nil (N.seq ?_))
  refine Fin.retCT rfl (v := .agg #[.bool false, .int .u64 0, .string ⟨#[]⟩, .int .i64 0, .int .i64 0, .int .i64 0]) (v' := .int .i64 1) rfl (tyAgg_run agg_58 (cs := [.bool false, .int .u64 0, .string ⟨#[]⟩, .int .i64 0, .int .i64 0, .int .i64 0]) rfl (hS.cells 0 (m := 6) rfl rfl)) rfl ?_
  have e : run7 m inp fuel deep = (tr0, 1) := by unfold run7; rw [if_pos (by omega)]
  obtain ⟨rfl, rfl⟩ := Prod.mk.inj (e.symm.trans hT)
  exact ⟨rfl, hS.below⟩
 refine WL.set 15 (v' := .bool true) rfl (by rw [hg5]) ?_
 refine WL.set 16 (v' := .bool true) rfl (by rw [hg5]) ?_
 have hg5p : fuel < 0 := by simpa using hg5
 refine WL.skp rfl rfl (WL.skp rfl rfl (WL.pick (v := .bool true) rfl rfl rfl rfl rfl rfl (WL.move rfl rfl rfl (WL.skp rfl rfl (WL.skp rfl rfl (WL.pick (v := .bool true) rfl rfl rfl rfl rfl rfl (WL.move rfl rfl rfl (WL.skp rfl rfl (WL.skp rfl rfl ?_)))))))))
 refine WL.pick (v := .bool true) rfl rfl rfl rfl rfl rfl (WL.nil (N.seq (W.condT rfl (W.seq (W.region ?_)))))
 refine WL.build (ps := []) (cs := [.bool false, .int .u64 0, .string ⟨#[]⟩, .int .i64 0, .int .i64 0, .int .i64 0]) rfl rfl rfl (by kernel_rfl) ?_
 refine WL.store (L' := [(b3, .cells #[.bool false, .int .u64 0, .string ⟨#[]⟩, .int .i64 0, .int .i64 0, .int .i64 0] 58 (0, 0)), (b1, .cells #[.slice adf m.funcs.length capf, .slice adg m.globs.length capg] 46 (0, 0))]) 0 rfl rfl rfl rfl siz_58 rfl rfl rfl rfl rfl hS ?_
 clear hS; intro w40 hS
 refine WL.assign rfl rfl rfl (WL.nil (N.seq ?_))
 refine Fin.retCT rfl (v := .agg #[.bool false, .int .u64 0, .string ⟨#[]⟩, .int .i64 0, .int .i64 0, .int .i64 0]) (v' := .int .i64 1) rfl (tyAgg_run agg_58 (cs := [.bool false, .int .u64 0, .string ⟨#[]⟩, .int .i64 0, .int .i64 0, .int .i64 0]) rfl (hS.cells 0 (m := 6) rfl rfl)) rfl ?_
 have e : run7 m inp fuel deep = (tr0, 1) := by unfold run7; rw [if_pos (by omega)]
 obtain ⟨rfl, rfl⟩ := Prod.mk.inj (e.symm.trans hT)
 exact ⟨rfl, hS.below⟩

end Go.Proofs.Ytdlcmhkfglckfaa
