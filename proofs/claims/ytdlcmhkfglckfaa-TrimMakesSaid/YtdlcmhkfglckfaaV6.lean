/-
  Contracts of layer 13 (trim). No condition beyond those that each theorem states.
-/
import Derived.Test.YtdlcmhkfglckfaaV5
import Derived.Test.YtdlcmhkfglckfaaA27
namespace Go.Proofs.Ytdlcmhkfglckfaa
open Go.RowKit

/-- A module without what isn't used: functions that are not right stay as they are. -/
def fun13a (f : DFunc) : DFunc := if func5 f = true then func13 f else f
def mod13a (m : DMod) : DMod := ⟨m.funcs.map fun13a, m.globs⟩
theorem stays_lit {R : Nat → Prop} {B T : Nat} {x : DFunc} : Stays fun v u => ∃ b cs, v = .slice (some ⟨b, 0, none⟩) 1 1 ∧ u.heap[b]? = some (.cells cs.toArray T (0, 0)) ∧ FuncC (fun b => (R b ∨ B ≤ b) ∧ b < u.heap.size) u cs x := fun _ _ _ ⟨b, cs, h1, h2, h3⟩ hb =>
  ⟨b, cs, h1, (hb.block b (Array.getElem?_eq_some_iff.1 h2).1).trans h2, h3.keep fun b hr => ⟨⟨hr.1, Nat.lt_of_lt_of_le hr.2 hb.size⟩, hb.block b hr.2⟩⟩

set_option maxRecDepth 10000 in
set_option maxHeartbeats 4000000 in
theorem rmod13_ret (m : DMod) (cm : List Value) {w : World} {ro : Nat → Prop} (hro : ∀ b, ro b → b < w.heap.size) (hx : ModC ro w cm m) (hok : okMod m) : Ret Try.prog 18 #[.agg cm.toArray] w fun v w' => ∃ cs, v = .agg cs.toArray ∧ ModC (roFrom ro w w') w' cs (mod13a m) ∧ Below w.heap.size w w' := by
 obtain ⟨sfM, sgM, rfl, hfsM, hgsM⟩ := id hx
 obtain ⟨adfM, capfM, rfl, hfsMa, hfsMb, hfsMc, hfsMd⟩ := id hfsM
 have hfsMm : m.funcs.length ≤ 9223372036854775807 := by have h1 := hfsMa; have h2 := hfsMb; unfold maxLen at h2; omega
 obtain ⟨adgM, capgM, rfl, hgsMa, hgsMb, hgsMc, hgsMd⟩ := id hgsM
 have hgsMm : m.globs.length ≤ 9223372036854775807 := by have h1 := hgsMa; have h2 := hgsMb; unfold maxLen at h2; omega
 refine Ret.enter (P := Try.prog) (n := 45) (args := [.agg #[.slice adfM m.funcs.length capfM, .slice adgM m.globs.length capgM]]) (σ := [(0, .agg #[.slice adfM m.funcs.length capfM, .slice adgM m.globs.length capgM])]) Try.func18 rfl rfl rfl rfl ?_
 have hS := St.start (ro := ro) hro
 have hlm : m.funcs.length * 56 ≤ 140737488351232 := by have h := hok.2.1; unfold reachBytes at h; omega
 have hsub : ∀ b, ro b → ro b ∨ w.heap.size ≤ b := fun _ h => .inl h
 refine W.seq (W.region ?_)
 refine WL.box (v := .agg #[.slice adfM m.funcs.length capfM, .slice adgM m.globs.length capgM]) (cs := [.slice adfM m.funcs.length capfM, .slice adgM m.globs.length capgM]) rfl rfl rfl rfl hS ?_
 clear hS; intro w2 b1 hb_b1 hS
 refine WL.alloc (tyZero_spec zer_46) rfl rfl hS ?_
 clear hS; intro w4 b3 hb_b3 hS
 refine WL.nil (N.seq (W.seq (W.region (WL.fieldAddr fo_46_1 rfl rfl rfl (WL.load1 (v := .slice adgM m.globs.length capgM) one_44 rfl rfl rfl (hS.cell 1 rfl rfl) ?_)))))
 refine WL.build (ps := [(1, .slice adgM m.globs.length capgM)]) (cs := [.slice none 0 0, .slice adgM m.globs.length capgM]) rfl rfl rfl (by kernel_rfl) ?_
 refine WL.alloc (tyZero_spec zer_46) rfl rfl hS ?_
 clear hS; intro w6 b5 hb_b5 hS
 refine WL.store (L' := [(b5, .cells #[.slice none 0 0, .slice adgM m.globs.length capgM] 46 (0, 0)), (b3, .cells #[.slice none 0 0, .slice none 0 0] 46 (0, 0)), (b1, .cells #[.slice adfM m.funcs.length capfM, .slice adgM m.globs.length capgM] 46 (0, 0))]) 0 rfl rfl rfl rfl siz_46 rfl rfl rfl rfl rfl hS ?_
 clear hS; intro w7 hS
 refine WL.nil (N.seq (W.seq (W.seq (W.region (WL.assign rfl rfl rfl (WL.nil (N.seq (W.block ?_))))))))
 replace hS := hS.row0 24 4
 refine W.loop (α := Nat × Value × List Value × (Nat → Prop) × World) (fun ⟨k, v, cs, R2, ws2⟩ => [(1, .pointer (some ⟨b1, 0, none⟩)), (2, .pointer (some ⟨b3, 0, none⟩)), (3, .pointer (some ⟨b5, 0, none⟩)), (4, .int .i64 (k : Int))]) (fun ⟨k, v, cs, R2, ws2⟩ u => St w ws2 u R2 [(b5, .cells #[v, .slice adgM m.globs.length capgM] 46 (0, 0)), (b3, .cells #[.slice none 0 0, .slice none 0 0] 46 (0, 0)), (b1, .cells #[.slice adfM m.funcs.length capfM, .slice adgM m.globs.length capgM] 46 (0, 0))] [⟨v, 24, 4, k, cs⟩] ∧ k ≤ m.funcs.length ∧ Chunks 4 (FuncC R2 ws2) cs ((m.funcs.take k).map fun13a) ∧ Alike ro w R2 ws2 ∧ (∀ b, R2 b → ro b ∨ w.heap.size ≤ b)) (fun ⟨k, v, cs, R2, ws2⟩ => m.funcs.length - k) (0, (.slice none 0 0), [], ro, w) ⟨rfl, rfl, rfl, rfl, trivial⟩ ⟨hS, Nat.zero_le _, Chunks.nil, Alike.refl, hsub⟩ ?_
 clear hS
 rintro ⟨k, v, cs, R2, ws2⟩ w8 ⟨hS, hk, hch, halL0, hsub⟩
 replace hx := hx.keep halL0
 replace hfsMd := hfsMd.keep halL0 (fun _ _ h => h.keep halL0)
 replace hgsM := SlV.keep hgsM halL0 (fun _ _ h => h)
 have hrow : w8.ownsRow w.heap.size 24 4 v (k) _ := hS.rows _ List.mem_cons_self
 obtain ⟨adv, capv, rfl, hr1v, hr2v, hr3v⟩ := row_shape hrow
 clear hrow
 refine W.seq (W.seq (W.region (WL.move rfl rfl rfl (WL.fieldAddr fo_46_0 rfl rfl rfl (WL.load1 (v := .slice adfM m.funcs.length capfM) one_43 rfl rfl rfl (hS.cell 2 rfl rfl) (WL.lenSlice Try.underlying43 rfl rfl rfl (WL.bin rfl rfl rfl rfl rfl (WL.nil (N.seq ?_)))))))))
 refine W.cond rfl (fun hc9 => ?_) (fun hc9 => ?_)
 ·
  have hc9p : (k : Int) < (m.funcs.length : Int) := by simpa using hc9
  refine W.skip (N.seq (W.seq (W.block (W.seq (W.region (WL.fieldAddr fo_46_0 rfl rfl rfl (WL.load1 (v := .slice adfM m.funcs.length capfM) one_43 rfl rfl rfl (hS.cell 2 rfl rfl) (WL.move rfl rfl rfl ?_))))))))
  have hj10 : k < m.funcs.length := by omega
  obtain ⟨x10, hx10⟩ : ∃ zz, m.funcs[k]? = some zz := ⟨_, List.getElem?_eq_getElem hj10⟩
  obtain ⟨b10, o10, cs10, hE10, hr10, hl10, hc10, hQ10⟩ := hfsMd k _ hx10
  obtain ⟨sb10, rfl, hbl10, hnm10, hbd10, hpr10⟩ := id hQ10
  obtain ⟨adb10, capb10, rfl, hbk10a, hbk10b, hbk10c, hbk10d⟩ := id hbl10
  have hbk10m : x10.blocks.length ≤ 9223372036854775807 := by have h1 := hbk10a; have h2 := hbk10b; unfold maxLen at h2; omega
  refine WL.indexAddrE (j := k) Try.underlying43 isz_24 rfl rfl rfl rfl hj10 hE10 (WL.loadN (cs := [.string x10.name, .int .i64 x10.bind, .int .i64 x10.params, .slice adb10 x10.blocks.length capb10]) agg_24 rfl rfl rfl rfl (hS.roCells hr10 hc10) ?_)
  refine WL.callF (vs := [.agg #[.string x10.name, .int .i64 x10.bind, .int .i64 x10.params, .slice adb10 x10.blocks.length capb10]]) Try.func10 (by kernel_rfl) rfl rfl rfl (func5_ret x10 _ (ro := R2) (fun b hb => (hS.snap b hb).1) (hQ10.keep hS.alike) (hok.1 x10 (List.mem_of_getElem? hx10))) ?_
  rintro v w11 ⟨rfl, hbl⟩
  replace hS := hS.grow hbl
  refine WL.assign rfl rfl rfl (WL.nil (N.seq (W.seq (W.region (WL.move rfl rfl rfl (WL.nil (N.seq ?_)))))))
  refine W.cond rfl (fun hc12 => ?_) (fun hc12 => ?_)
  ·
   have h5f : func5 x10 = true := hc12
   refine W.drawA0 (S := fun u => True) (by kernel_rfl) (fun w13 hbd => ?_)
   replace hS := hS.grow hbd
   refine WA.conv (fuel' := 9 + 3) (listed' := #[false, false, false, false, false, false, false, false, false, false, false, false]) (by kernel_rfl) (by kernel_rfl) (WA.phaseI [(0, (fun v _ => v = .pointer (some ⟨b5, 0, none⟩))), (1, (fun v _ => v = .slice adv k capv)), (2, (fun v _ => v = .pointer (some ⟨b1, 0, none⟩))), (3, (fun v _ => v = .slice adfM m.funcs.length capfM)), (4, (fun v _ => v = .int .i64 (k : Int))), (5, (fun v _ => v = .pointer (some ⟨b10, o10 + k * 4, none⟩))), (6, (fun v _ => v = .agg #[.string x10.name, .int .i64 x10.bind, .int .i64 x10.params, .slice adb10 x10.blocks.length capb10])), (7, (fun v u => ∃ cs, v = .agg cs.toArray ∧ FuncC (fun b => (R2 b ∨ w13.heap.size ≤ b) ∧ b < u.heap.size) u cs (func13 x10))), (8, (fun v u => ∃ b cs, v = .slice (some ⟨b, 0, none⟩) 1 1 ∧ u.heap[b]? = some (.cells cs.toArray 24 (0, 0)) ∧ FuncC (fun b => (R2 b ∨ w13.heap.size ≤ b) ∧ b < u.heap.size) u cs (func13 x10)))] (by kernel_rfl) [(1, .pointer (some ⟨b1, 0, none⟩)), (2, .pointer (some ⟨b3, 0, none⟩)), (3, .pointer (some ⟨b5, 0, none⟩)), (4, .int .i64 (k : Int))] ⟨rfl, rfl, rfl, rfl, trivial⟩ (by kernel_rfl) ⟨stays_eq, stays_eq, stays_eq, stays_eq, stays_eq, stays_eq, stays_eq, stays_func (R := R2) (B := w13.heap.size), stays_lit (R := R2) (B := w13.heap.size), trivial⟩ ?_ (fun _ _ => trivial) ?_)
   ·
    refine ⟨fun β wd hb hD => ⟨_, rfl, ?_⟩, ?_⟩
    ·
     refine WL.sub (σ' := [(3, .pointer (some ⟨b5, 0, none⟩))]) ⟨rfl, trivial⟩ ?_
     have hS := hS.grow hb
     refine WL.fieldAddr fo_46_0 rfl rfl rfl ?_
     exact WL.nil (N.cut (.pointer (some ⟨b5, 0, none⟩)) ⟨rfl, trivial⟩ ⟨(Below.refl _ _), rfl⟩)
    refine ⟨fun β wd hb hD => ⟨_, rfl, ?_⟩, ?_⟩
    ·
     obtain ⟨hp0, _⟩ := hD
     replace hp0 : β 0 = .pointer (some ⟨b5, 0, none⟩) := hp0
     refine WL.sub (σ' := [(23, .pointer (some ⟨b5, 0, none⟩))]) ⟨congrArg some hp0, trivial⟩ ?_
     have hS := hS.grow hb
     refine WL.load1 (v := .slice adv k capv) one_43 rfl rfl rfl (hS.cell 0 rfl rfl) ?_
     exact WL.nil (N.cut (.slice adv k capv) ⟨rfl, trivial⟩ ⟨(Below.refl _ _), rfl⟩)
    refine ⟨fun β wd hb hD => ⟨_, rfl, ?_⟩, ?_⟩
    ·
     refine WL.sub (σ' := [(1, .pointer (some ⟨b1, 0, none⟩))]) ⟨rfl, trivial⟩ ?_
     have hS := hS.grow hb
     refine WL.fieldAddr fo_46_0 rfl rfl rfl ?_
     exact WL.nil (N.cut (.pointer (some ⟨b1, 0, none⟩)) ⟨rfl, trivial⟩ ⟨(Below.refl _ _), rfl⟩)
    refine ⟨fun β wd hb hD => ⟨_, rfl, ?_⟩, ?_⟩
    ·
     obtain ⟨hp2, _⟩ := hD
     replace hp2 : β 2 = .pointer (some ⟨b1, 0, none⟩) := hp2
     refine WL.sub (σ' := [(25, .pointer (some ⟨b1, 0, none⟩))]) ⟨congrArg some hp2, trivial⟩ ?_
     have hS := hS.grow hb
     refine WL.load1 (v := .slice adfM m.funcs.length capfM) one_43 rfl rfl rfl (hS.cell 2 rfl rfl) ?_
     exact WL.nil (N.cut (.slice adfM m.funcs.length capfM) ⟨rfl, trivial⟩ ⟨(Below.refl _ _), rfl⟩)
    refine ⟨fun β wd hb hD => ⟨_, rfl, ?_⟩, ?_⟩
    ·
     refine WL.sub (σ' := [(4, .int .i64 (k : Int))]) ⟨rfl, trivial⟩ ?_
     have hS := hS.grow hb
     refine WL.move rfl rfl rfl ?_
     exact WL.nil (N.cut (.int .i64 (k : Int)) ⟨rfl, trivial⟩ ⟨(Below.refl _ _), rfl⟩)
    refine ⟨fun β wd hb hD => ⟨_, rfl, ?_⟩, ?_⟩
    ·
     obtain ⟨hp3, hp4, _⟩ := hD
     replace hp3 : β 3 = .slice adfM m.funcs.length capfM := hp3
     replace hp4 : β 4 = .int .i64 (k : Int) := hp4
     refine WL.sub (σ' := [(26, .slice adfM m.funcs.length capfM), (27, .int .i64 (k : Int))]) ⟨congrArg some hp3, congrArg some hp4, trivial⟩ ?_
     have hS := hS.grow hb
     refine WL.indexAddrE (j := k) Try.underlying43 isz_24 rfl rfl rfl rfl hj10 hE10 ?_
     exact WL.nil (N.cut (.pointer (some ⟨b10, o10 + k * 4, none⟩)) ⟨rfl, trivial⟩ ⟨(Below.refl _ _), rfl⟩)
    refine ⟨fun β wd hb hD => ⟨_, rfl, ?_⟩, ?_⟩
    ·
     obtain ⟨hp5, _⟩ := hD
     replace hp5 : β 5 = .pointer (some ⟨b10, o10 + k * 4, none⟩) := hp5
     refine WL.sub (σ' := [(28, .pointer (some ⟨b10, o10 + k * 4, none⟩))]) ⟨congrArg some hp5, trivial⟩ ?_
     have hS := hS.grow hb
     refine WL.loadN (cs := [.string x10.name, .int .i64 x10.bind, .int .i64 x10.params, .slice adb10 x10.blocks.length capb10]) agg_24 rfl rfl rfl rfl (hS.roCells hr10 hc10) ?_
     exact WL.nil (N.cut (.agg #[.string x10.name, .int .i64 x10.bind, .int .i64 x10.params, .slice adb10 x10.blocks.length capb10]) ⟨rfl, trivial⟩ ⟨(Below.refl _ _), rfl⟩)
    refine ⟨fun β wd hb hD => ⟨_, rfl, ?_⟩, ?_⟩
    ·
     obtain ⟨hp6, _⟩ := hD
     replace hp6 : β 6 = .agg #[.string x10.name, .int .i64 x10.bind, .int .i64 x10.params, .slice adb10 x10.blocks.length capb10] := hp6
     refine WL.sub (σ' := [(29, .agg #[.string x10.name, .int .i64 x10.bind, .int .i64 x10.params, .slice adb10 x10.blocks.length capb10])]) ⟨congrArg some hp6, trivial⟩ ?_
     have hS := hS.grow hb
     refine WL.callF (vs := [.agg #[.string x10.name, .int .i64 x10.bind, .int .i64 x10.params, .slice adb10 x10.blocks.length capb10]]) Try.func25 (by kernel_rfl) rfl rfl rfl (rfunc13_ret x10 _ (ro := R2) (fun b hb => (hS.snap b hb).1) (hQ10.keep hS.alike) h5f) ?_
     rintro v w14 ⟨csq, rfl, hFn, hbl⟩
     replace hS := hS.grow hbl
     exact WL.nil (N.cut (.agg csq.toArray) ⟨rfl, trivial⟩ ⟨hbl, ⟨csq, rfl, hFn.keep (fun b hb2 => ⟨⟨hb2.elim .inl (fun h => .inr (Nat.le_trans hb.size h.1)), hb2.elim (fun h => by first | exact (hS.snap b h).1 | exact Nat.lt_of_lt_of_le (hS.snap b h).1 hbl.size) (·.2)⟩, rfl⟩)⟩⟩)
    refine ⟨fun β wd hb hD => ⟨_, rfl, ?_⟩, ?_⟩
    ·
     obtain ⟨hp7, _⟩ := hD
     replace hp7 : (fun v u => ∃ cs, v = .agg cs.toArray ∧ FuncC (fun b => (R2 b ∨ w13.heap.size ≤ b) ∧ b < u.heap.size) u cs (func13 x10)) (β 7) wd := hp7
     refine WL.sub (σ' := [(30, (β 7))]) ⟨rfl, trivial⟩ ?_
     have hS := hS.grow hb
     generalize β 7 = z7 at hp7 ⊢
     obtain ⟨cz8, rfl, hz8⟩ := hp7
     obtain ⟨sbz, rfl, hblz, hnmz, hbdz, hprz⟩ := id hz8
     obtain ⟨adbz, capbz, rfl, hbkza, hbkzb, hbkzc, hbkzd⟩ := id hblz
     have hbkzm : ((func13 x10).blocks).length ≤ 9223372036854775807 := by have h1 := hbkza; have h2 := hbkzb; unfold maxLen at h2; omega
     have hX := St.start (w := wd) (ro := fun z => z < wd.heap.size) (fun _ h => h)
     refine WL.buildSlice (ps := [(0, .agg #[.string ((func13 x10).name), .int .i64 ((func13 x10).bind), .int .i64 ((func13 x10).params), .slice adbz (((func13 x10).blocks).length) capbz])]) (cs := [.string ((func13 x10).name), .int .i64 ((func13 x10).bind), .int .i64 ((func13 x10).params), .slice adbz (((func13 x10).blocks).length) capbz]) Try.underlying43 (tyZero_spec zer_24) rfl rfl rfl rfl (by kernel_rfl) hX ?_
     clear hX; intro w16 b15 hb_b15 hX
     exact WL.nil (N.cut (.slice (some ⟨b15, 0, none⟩) 1 1) ⟨rfl, trivial⟩ ⟨hX.below, ⟨_, _, rfl, hX.own _ List.mem_cons_self, FuncC.keep (cs := [.string _, .int .i64 _, .int .i64 _, .slice _ _ _]) ⟨_, rfl, hblz, hnmz, hbdz, hprz⟩ (fun b hr => ⟨⟨hr.1, Nat.lt_of_lt_of_le hr.2 hX.below.size⟩, hX.below.block b hr.2⟩)⟩⟩)
    trivial
   intro β w17 hb hD
   obtain ⟨hp0, hp1, hp2, hp3, hp4, hp5, hp6, hp7, hp8, _⟩ := hD
   refine WA.sub (σ' := [(1, .pointer (some ⟨b1, 0, none⟩)), (2, .pointer (some ⟨b3, 0, none⟩)), (3, .pointer (some ⟨b5, 0, none⟩)), (4, .int .i64 (k : Int)), (24, .slice adv k capv), (31, (β 8))]) ⟨rfl, rfl, rfl, rfl, congrArg some (show β 1 = .slice adv k capv from hp1), rfl, trivial⟩ ?_
   have hSd := hS
   replace hS := hS.grow hb
   replace hp7 : (fun v u => ∃ cs, v = .agg cs.toArray ∧ FuncC (fun b => (R2 b ∨ w13.heap.size ≤ b) ∧ b < u.heap.size) u cs (func13 x10)) (β 7) w17 := hp7
   generalize β 7 = z7 at hp7 ⊢
   have hal18 := hSd.alikeTo hb (ro' := (roFrom R2 w13 w17)) (fun b hb => .inl hb)
   replace hsub : ∀ b, (roFrom R2 w13 w17) b → ro b ∨ w.heap.size ≤ b := fun b hb => hb.elim (hsub b) (fun h => .inr (Nat.le_trans hSd.below.size h.1))
   replace halL0 := halL0.trans hal18
   replace hx := hx.keep hal18
   replace hgsM := SlV.keep hgsM hal18 (fun _ _ h => h)
   replace hch := hch.mono fun _ _ h => h.keep hal18
   replace hQ10 := hQ10.keep hal18
   replace hc10 := hc10.keep (hal18 _ hr10).2
   replace hr10 := (hal18 _ hr10).1
   replace hS := hSd.readNew hb
   replace hp8 : (fun v u => ∃ b cs, v = .slice (some ⟨b, 0, none⟩) 1 1 ∧ u.heap[b]? = some (.cells cs.toArray 24 (0, 0)) ∧ FuncC (fun b => (R2 b ∨ w13.heap.size ≤ b) ∧ b < u.heap.size) u cs (func13 x10)) (β 8) w17 := hp8
   generalize β 8 = z8 at hp8 ⊢
   obtain ⟨bq, csq9, rfl, hbq, hFq⟩ := hp8
   replace hFq : FuncC (roFrom R2 w13 w17) w17 csq9 (func13 x10) := hFq.keep (fun b hb2 => ⟨hb2.1.elim .inl (fun h => .inr ⟨h, hb2.2⟩), rfl⟩)
   refine WA.conv (fuel' := 2 + 1) (listed' := #[true, true, true, true, true, true, true, true, true, false, false, false]) (by kernel_rfl) (by kernel_rfl) (WA.stepS 9 (by kernel_rfl) rfl ?_)
   have hlq : csq9.length = 1 * 4 := by obtain ⟨_, e, _⟩ := hFq; rw [e]; rfl
   have hcq := cellsAt_block hbq
   refine WL.appendRo (r := ⟨.slice adv k capv, 24, 4, k, cs⟩) (news := csq9) 56 Try.underlying43 (tyZero_spec zer_24) byt_24 rfl rfl rfl rfl rfl hlq (fun e => by cases e) (fun b off e => by cases e; exact hcq) (fun a e _ => by cases e; rfl) (one_func hFq) rfl rfl hS (by simp only; unfold maxLen; omega) (by simp only; omega) ?_
   clear hS; intro w19 v20 hS _
   have hrow : w19.ownsRow w.heap.size 24 4 v20 (k + 1) _ := hS.rows _ List.mem_cons_self
   obtain ⟨adw, capw, rfl, _, _, _⟩ := row_shape hrow
   clear hrow
   have hIC : FuncC (roFrom R2 w13 w17) w17 csq9 (fun13a x10) := by unfold fun13a; rw [if_pos h5f]; exact hFq
   refine WL.nil (N.restS trivial ?_)
   refine WA.conv (fuel' := 1 + 1) (listed' := #[true, true, true, true, true, true, true, true, true, true, false, false]) (by kernel_rfl) (by kernel_rfl) (WA.stepS 10 (by kernel_rfl) rfl ?_)
   refine WL.fieldAddr fo_46_0 rfl rfl rfl ?_
   refine WL.nil (N.restS trivial ?_)
   refine WA.conv (fuel' := 0 + 1) (listed' := #[true, true, true, true, true, true, true, true, true, true, true, false]) (by kernel_rfl) (by kernel_rfl) (WA.stepS 11 (by kernel_rfl) rfl ?_)
   refine WL.store (L' := [(b5, .cells #[.slice adw (k + 1) capw, .slice adgM m.globs.length capgM] 46 (0, 0)), (b3, .cells #[.slice none 0 0, .slice none 0 0] 46 (0, 0)), (b1, .cells #[.slice adfM m.funcs.length capfM, .slice adgM m.globs.length capgM] 46 (0, 0))]) 0 rfl rfl rfl rfl siz_43 rfl rfl rfl rfl rfl hS ?_
   clear hS; intro w21 hS
   refine WL.nil (N.restS trivial ?_)
   refine WA.doneN (by kernel_rfl) ?_
   refine N.blk (N.seq (W.region (WL.move rfl rfl rfl ?_)))
   refine WL.add (c := (k : Int) + 1) rfl rfl rfl rfl (rfl) (by omega) ?_
   refine WL.assign rfl rfl rfl (WL.nil ?_)
   have hch2 : Chunks 4 (FuncC (roFrom R2 w13 w17) w17) (cs ++ csq9) ((m.funcs.take (k + 1)).map fun13a) := by rw [take_next hx10, List.map_append]; exact hch.snoc (by first | rfl | exact hlq) hIC
   exact N.loop (k + 1, .slice adw (k + 1) capw, cs ++ csq9, (roFrom R2 w13 w17), w17) ⟨rfl, rfl, rfl, rfl, trivial⟩ ⟨hS, by omega, hch2, halL0, hsub⟩ (by first | omega | (simp only; omega))
  refine W.drawA0 (S := fun u => True) (by kernel_rfl) (fun w22 hbd => ?_)
  replace hS := hS.grow hbd
  refine WA.conv (fuel' := 8 + 3) (listed' := #[false, false, false, false, false, false, false, false, false, false, false]) (by kernel_rfl) (by kernel_rfl) (WA.phaseI [(0, (fun v _ => v = .pointer (some ⟨b5, 0, none⟩))), (1, (fun v _ => v = .slice adv k capv)), (2, (fun v _ => v = .pointer (some ⟨b1, 0, none⟩))), (3, (fun v _ => v = .slice adfM m.funcs.length capfM)), (4, (fun v _ => v = .int .i64 (k : Int))), (5, (fun v _ => v = .pointer (some ⟨b10, o10 + k * 4, none⟩))), (6, (fun v _ => v = .agg #[.string x10.name, .int .i64 x10.bind, .int .i64 x10.params, .slice adb10 x10.blocks.length capb10])), (7, (fun v u => ∃ b, v = .slice (some ⟨b, 0, none⟩) 1 1 ∧ u.heap[b]? = some (.cells [.string x10.name, .int .i64 x10.bind, .int .i64 x10.params, .slice adb10 x10.blocks.length capb10].toArray 24 (0, 0))))] (by kernel_rfl) [(1, .pointer (some ⟨b1, 0, none⟩)), (2, .pointer (some ⟨b3, 0, none⟩)), (3, .pointer (some ⟨b5, 0, none⟩)), (4, .int .i64 (k : Int))] ⟨rfl, rfl, rfl, rfl, trivial⟩ (by kernel_rfl) ⟨stays_eq, stays_eq, stays_eq, stays_eq, stays_eq, stays_eq, stays_eq, (fun v u u2 h hb => h.elim fun b h => ⟨b, h.1, (hb.block b (Array.getElem?_eq_some_iff.1 h.2).1).trans h.2⟩), trivial⟩ ?_ (fun _ _ => trivial) ?_)
  ·
   refine ⟨fun β wd hb hD => ⟨_, rfl, ?_⟩, ?_⟩
   ·
    refine WL.sub (σ' := [(3, .pointer (some ⟨b5, 0, none⟩))]) ⟨rfl, trivial⟩ ?_
    have hS := hS.grow hb
    refine WL.fieldAddr fo_46_0 rfl rfl rfl ?_
    exact WL.nil (N.cut (.pointer (some ⟨b5, 0, none⟩)) ⟨rfl, trivial⟩ ⟨(Below.refl _ _), rfl⟩)
   refine ⟨fun β wd hb hD => ⟨_, rfl, ?_⟩, ?_⟩
   ·
    obtain ⟨hp0, _⟩ := hD
    replace hp0 : β 0 = .pointer (some ⟨b5, 0, none⟩) := hp0
    refine WL.sub (σ' := [(34, .pointer (some ⟨b5, 0, none⟩))]) ⟨congrArg some hp0, trivial⟩ ?_
    have hS := hS.grow hb
    refine WL.load1 (v := .slice adv k capv) one_43 rfl rfl rfl (hS.cell 0 rfl rfl) ?_
    exact WL.nil (N.cut (.slice adv k capv) ⟨rfl, trivial⟩ ⟨(Below.refl _ _), rfl⟩)
   refine ⟨fun β wd hb hD => ⟨_, rfl, ?_⟩, ?_⟩
   ·
    refine WL.sub (σ' := [(1, .pointer (some ⟨b1, 0, none⟩))]) ⟨rfl, trivial⟩ ?_
    have hS := hS.grow hb
    refine WL.fieldAddr fo_46_0 rfl rfl rfl ?_
    exact WL.nil (N.cut (.pointer (some ⟨b1, 0, none⟩)) ⟨rfl, trivial⟩ ⟨(Below.refl _ _), rfl⟩)
   refine ⟨fun β wd hb hD => ⟨_, rfl, ?_⟩, ?_⟩
   ·
    obtain ⟨hp2, _⟩ := hD
    replace hp2 : β 2 = .pointer (some ⟨b1, 0, none⟩) := hp2
    refine WL.sub (σ' := [(36, .pointer (some ⟨b1, 0, none⟩))]) ⟨congrArg some hp2, trivial⟩ ?_
    have hS := hS.grow hb
    refine WL.load1 (v := .slice adfM m.funcs.length capfM) one_43 rfl rfl rfl (hS.cell 2 rfl rfl) ?_
    exact WL.nil (N.cut (.slice adfM m.funcs.length capfM) ⟨rfl, trivial⟩ ⟨(Below.refl _ _), rfl⟩)
   refine ⟨fun β wd hb hD => ⟨_, rfl, ?_⟩, ?_⟩
   ·
    refine WL.sub (σ' := [(4, .int .i64 (k : Int))]) ⟨rfl, trivial⟩ ?_
    have hS := hS.grow hb
    refine WL.move rfl rfl rfl ?_
    exact WL.nil (N.cut (.int .i64 (k : Int)) ⟨rfl, trivial⟩ ⟨(Below.refl _ _), rfl⟩)
   refine ⟨fun β wd hb hD => ⟨_, rfl, ?_⟩, ?_⟩
   ·
    obtain ⟨hp3, hp4, _⟩ := hD
    replace hp3 : β 3 = .slice adfM m.funcs.length capfM := hp3
    replace hp4 : β 4 = .int .i64 (k : Int) := hp4
    refine WL.sub (σ' := [(37, .slice adfM m.funcs.length capfM), (38, .int .i64 (k : Int))]) ⟨congrArg some hp3, congrArg some hp4, trivial⟩ ?_
    have hS := hS.grow hb
    refine WL.indexAddrE (j := k) Try.underlying43 isz_24 rfl rfl rfl rfl hj10 hE10 ?_
    exact WL.nil (N.cut (.pointer (some ⟨b10, o10 + k * 4, none⟩)) ⟨rfl, trivial⟩ ⟨(Below.refl _ _), rfl⟩)
   refine ⟨fun β wd hb hD => ⟨_, rfl, ?_⟩, ?_⟩
   ·
    obtain ⟨hp5, _⟩ := hD
    replace hp5 : β 5 = .pointer (some ⟨b10, o10 + k * 4, none⟩) := hp5
    refine WL.sub (σ' := [(39, .pointer (some ⟨b10, o10 + k * 4, none⟩))]) ⟨congrArg some hp5, trivial⟩ ?_
    have hS := hS.grow hb
    refine WL.loadN (cs := [.string x10.name, .int .i64 x10.bind, .int .i64 x10.params, .slice adb10 x10.blocks.length capb10]) agg_24 rfl rfl rfl rfl (hS.roCells hr10 hc10) ?_
    exact WL.nil (N.cut (.agg #[.string x10.name, .int .i64 x10.bind, .int .i64 x10.params, .slice adb10 x10.blocks.length capb10]) ⟨rfl, trivial⟩ ⟨(Below.refl _ _), rfl⟩)
   refine ⟨fun β wd hb hD => ⟨_, rfl, ?_⟩, ?_⟩
   ·
    obtain ⟨hp6, _⟩ := hD
    replace hp6 : β 6 = .agg #[.string x10.name, .int .i64 x10.bind, .int .i64 x10.params, .slice adb10 x10.blocks.length capb10] := hp6
    refine WL.sub (σ' := [(40, .agg #[.string x10.name, .int .i64 x10.bind, .int .i64 x10.params, .slice adb10 x10.blocks.length capb10])]) ⟨congrArg some hp6, trivial⟩ ?_
    have hS := hS.grow hb
    have hX := St.start (w := wd) (ro := fun z => z < wd.heap.size) (fun _ h => h)
    refine WL.buildSlice (ps := [(0, .agg #[.string x10.name, .int .i64 x10.bind, .int .i64 x10.params, .slice adb10 x10.blocks.length capb10])]) (cs := [.string x10.name, .int .i64 x10.bind, .int .i64 x10.params, .slice adb10 x10.blocks.length capb10]) Try.underlying43 (tyZero_spec zer_24) rfl rfl rfl rfl (by kernel_rfl) hX ?_
    clear hX; intro w24 b23 hb_b23 hX
    exact WL.nil (N.cut (.slice (some ⟨b23, 0, none⟩) 1 1) ⟨rfl, trivial⟩ ⟨hX.below, ⟨_, rfl, hX.own _ List.mem_cons_self⟩⟩)
   trivial
  intro β w25 hb hD
  obtain ⟨hp0, hp1, hp2, hp3, hp4, hp5, hp6, hp7, _⟩ := hD
  refine WA.sub (σ' := [(1, .pointer (some ⟨b1, 0, none⟩)), (2, .pointer (some ⟨b3, 0, none⟩)), (3, .pointer (some ⟨b5, 0, none⟩)), (4, .int .i64 (k : Int)), (35, .slice adv k capv), (41, (β 7))]) ⟨rfl, rfl, rfl, rfl, congrArg some (show β 1 = .slice adv k capv from hp1), rfl, trivial⟩ ?_
  have hSd := hS
  replace hS := hS.grow hb
  replace hp7 : (fun v u => ∃ b, v = .slice (some ⟨b, 0, none⟩) 1 1 ∧ u.heap[b]? = some (.cells [.string x10.name, .int .i64 x10.bind, .int .i64 x10.params, .slice adb10 x10.blocks.length capb10].toArray 24 (0, 0))) (β 7) w25 := hp7
  generalize β 7 = z7 at hp7 ⊢
  refine WA.conv (fuel' := 2 + 1) (listed' := #[true, true, true, true, true, true, true, true, false, false, false]) (by kernel_rfl) (by kernel_rfl) (WA.stepS 8 (by kernel_rfl) rfl ?_)
  obtain ⟨bq7, rfl, hbq7⟩ := hp7
  have hcq7 := cellsAt_block hbq7
  refine WL.appendRo (r := ⟨.slice adv k capv, 24, 4, k, cs⟩) (news := [.string x10.name, .int .i64 x10.bind, .int .i64 x10.params, .slice adb10 x10.blocks.length capb10]) 56 Try.underlying43 (tyZero_spec zer_24) byt_24 rfl rfl rfl rfl rfl rfl (fun e => by cases e) (fun b off e => by cases e; exact hcq7) (fun a e _ => by cases e; rfl) ?_ rfl rfl hS (by simp only; unfold maxLen; omega) (by simp only; omega) ?_
  ·
   intro u hu; simp only [List.mem_cons, List.not_mem_nil, or_false] at hu; rcases hu with rfl | rfl | rfl | rfl <;> rfl
  clear hS; intro w26 v27 hS hnn
  have hrow : w26.ownsRow w.heap.size 24 4 v27 (k + 1) _ := hS.rows _ List.mem_cons_self
  obtain ⟨av27, cv27, rfl, hc1_v27, hc2_v27, hc3_v27⟩ := row_shape hrow
  clear hrow
  have hIC : FuncC R2 ws2 [.string x10.name, .int .i64 x10.bind, .int .i64 x10.params, .slice adb10 x10.blocks.length capb10] (fun13a x10) := by unfold fun13a; rw [if_neg (by rw [hc12]; simp)]; exact hQ10
  refine WL.nil (N.restS trivial ?_)
  refine WA.conv (fuel' := 1 + 1) (listed' := #[true, true, true, true, true, true, true, true, true, false, false]) (by kernel_rfl) (by kernel_rfl) (WA.stepS 9 (by kernel_rfl) rfl ?_)
  refine WL.fieldAddr fo_46_0 rfl rfl rfl ?_
  refine WL.nil (N.restS trivial ?_)
  refine WA.conv (fuel' := 0 + 1) (listed' := #[true, true, true, true, true, true, true, true, true, true, false]) (by kernel_rfl) (by kernel_rfl) (WA.stepS 10 (by kernel_rfl) rfl ?_)
  refine WL.store (L' := [(b5, .cells #[.slice av27 (k + 1) cv27, .slice adgM m.globs.length capgM] 46 (0, 0)), (b3, .cells #[.slice none 0 0, .slice none 0 0] 46 (0, 0)), (b1, .cells #[.slice adfM m.funcs.length capfM, .slice adgM m.globs.length capgM] 46 (0, 0))]) 0 rfl rfl rfl rfl siz_43 rfl rfl rfl rfl rfl hS ?_
  clear hS; intro w28 hS
  refine WL.nil (N.restS trivial ?_)
  refine WA.doneN (by kernel_rfl) ?_
  refine N.blk (N.seq (W.region (WL.move rfl rfl rfl ?_)))
  refine WL.add (c := (k : Int) + 1) rfl rfl rfl rfl (rfl) (by omega) ?_
  refine WL.assign rfl rfl rfl (WL.nil ?_)
  have hch2 : Chunks 4 (FuncC R2 ws2) (cs ++ [.string x10.name, .int .i64 x10.bind, .int .i64 x10.params, .slice adb10 x10.blocks.length capb10]) ((m.funcs.take (k + 1)).map fun13a) := by rw [take_next hx10, List.map_append]; exact hch.snoc (by first | rfl | exact hlq) hIC
  exact N.loop (k + 1, .slice av27 (k + 1) cv27, cs ++ [.string x10.name, .int .i64 x10.bind, .int .i64 x10.params, .slice adb10 x10.blocks.length capb10], R2, ws2) ⟨rfl, rfl, rfl, rfl, trivial⟩ ⟨hS, by omega, hch2, halL0, hsub⟩ (by first | omega | (simp only; omega))
 have hc9p : ¬ ((k : Int) < (m.funcs.length : Int)) := by simpa using hc9
 refine W.exit (X.seq (X.loop (X.blk (N.seq (W.seq (W.region (WL.loadN (cs := [.slice adv k capv, .slice adgM m.globs.length capgM]) agg_46 rfl rfl rfl rfl (hS.cells 0 (m := 2) rfl rfl) ?_)))))))
 refine WL.store (L' := [(b5, .cells #[.slice adv k capv, .slice adgM m.globs.length capgM] 46 (0, 0)), (b3, .cells #[.slice adv k capv, .slice adgM m.globs.length capgM] 46 (0, 0)), (b1, .cells #[.slice adfM m.funcs.length capfM, .slice adgM m.globs.length capgM] 46 (0, 0))]) 1 rfl rfl rfl rfl siz_46 rfl rfl rfl rfl rfl hS ?_
 clear hS; intro w29 hS
 refine WL.nil (N.seq ?_)
 refine Fin.retC rfl (v := .agg #[.slice adv k capv, .slice adgM m.globs.length capgM]) rfl (tyAgg_run agg_46 (cs := [.slice adv k capv, .slice adgM m.globs.length capgM]) rfl (hS.cells 1 (m := 2) rfl rfl)) ?_
 have hfin : Alike R2 ws2 (roFrom ro w w29) w29 := fun b hb => ⟨(hsub b hb).elim .inl (fun h => .inr ⟨h, (hS.snap b hb).1⟩), (hS.snap b hb).2⟩
 have hke : k = m.funcs.length := by omega
 rw [hke, List.take_length] at hch
 exact ⟨_, rfl, ⟨_, _, rfl, row_slv (hS.rows _ List.mem_cons_self) (hch.mono fun _ _ h => h.keep hfin) (by simp [mod13a]; omega) (fun x hx => .inr ((hS.keys x (by simp only [keysOf, List.mem_append, List.mem_filterMap]; exact .inr ⟨_, List.mem_cons_self, hx⟩)).imp id (·.1))), GlobsV.keep hgsM hfin⟩, hS.below⟩

end Go.Proofs.Ytdlcmhkfglckfaa
