/-
  Contracts of layer 10 (merge). No condition beyond those that each theorem states.
-/
import Derived.Test.YtapjejjmhmdmdaaDoorZ8
namespace Go.Proofs.YtapjejjmhmdmdaaDoor
open Go.RowKit
theorem fo_74_2 : fOff Tryd.prog 74 2 2 = true := by kernel_rfl
theorem siz_29 : tySize Tryd.prog 29 1 = true := by kernel_rfl
theorem bind10_in (ks : List ByteArray) (s : ByteArray) : inI (bind10 ks s) := by unfold bind10; split <;> decide
theorem stays_lit {R : Nat → Prop} {B T : Nat} {x : DFunc} : Stays fun v u => ∃ b cs, v = .slice (some ⟨b, 0, none⟩) 1 1 ∧ u.heap[b]? = some (.cells cs.toArray T (0, 0)) ∧ FuncC (fun b => (R b ∨ B ≤ b) ∧ b < u.heap.size) u cs x := fun _ _ _ ⟨b, cs, h1, h2, h3⟩ hb =>
  ⟨b, cs, h1, (hb.block b (Array.getElem?_eq_some_iff.1 h2).1).trans h2, h3.keep fun b hr => ⟨⟨hr.1, Nat.lt_of_lt_of_le hr.2 hb.size⟩, hb.block b hr.2⟩⟩
theorem fun10_gs (ds : List DDef) (ks : List ByteArray) (i : Nat) (g : Ren) (s : S10) (f : DFunc) : (fun10 ds ks i g s f).gs = s.gs := by
  unfold fun10; (repeat' split) <;> rfl
theorem glob10_fs (ds : List DDef) (ks : List ByteArray) (i : Nat) (g : Ren) (s : S10) (f : DGlob) : (glob10 ds ks i g s f).fs = s.fs := by
  unfold glob10; (repeat' split) <;> rfl

set_option maxRecDepth 10000 in
set_option maxHeartbeats 4000000 in
theorem mfun_ret {w0 ws w : World} {ro : Nat → Prop} {L : List (Nat × Obj)} {Rs : List Row} (bm bd : Nat) (vd vk v1 v2 : Value) (es : Array MapEntry) (ck c : Nat) (dn : ByteArray → Option Bool) (ds : List DDef) (ks : List ByteArray) (fs : List DFunc) (gs : List DGlob) (xs1 : List Value) (f : DFunc) (cf : List Value) (i : Nat) (g : Ren) (vm : Value) (hS : St w0 ws w ro ((bm, .cells #[vd, vk, v1, v2, .map (some bd)] 74 (0, 0)) :: (bd, .map es ck) :: L) (⟨v1, 35, 4, fs.length, xs1⟩ :: Rs)) (hM : MapG kS kB es ck c dn) (hd : SlV ro ws 5 DefC vd ds) (hk : SlV ro ws 1 StrC vk ks) (hch : Chunks 4 (FuncC ro ws) xs1 fs) (hx : FuncC ro ws cf f) (hm : MapC ro ws [vm] g) (hgs : ∀ s v, g s = some v → v.size ≤ maxLen) (hnb : f.blocks.length ≤ 16) (hbi : ∀ b ∈ f.blocks, b.ins.length ≤ 32) (hfl : fs.length + 1 ≤ 1000000) : Ret Tryd.prog 30 #[.pointer (some ⟨bm, 0, none⟩), .agg cf.toArray, .int .i64 (i : Int), vm] w fun v w' => v = .tuple #[] ∧ ∃ ro' ws' v1' xs1' es' ck', Alike ro ws ro' ws' ∧ (∀ b, ro' b → ro b ∨ w0.heap.size ≤ b) ∧ MapG kS kB es' ck' (c + 1) (fun10 ds ks i g ⟨fs, gs, dn⟩ f).done ∧ Chunks 4 (FuncC ro' ws') xs1' (fun10 ds ks i g ⟨fs, gs, dn⟩ f).fs ∧ St w0 ws' w' ro' ((bm, .cells #[vd, vk, v1', v2, .map (some bd)] 74 (0, 0)) :: (bd, .map es' ck') :: L) (⟨v1', 35, 4, (fun10 ds ks i g ⟨fs, gs, dn⟩ f).fs.length, xs1'⟩ :: Rs) := by
 obtain ⟨sbF, rfl, hblF, hnmF, hbdF, hprF⟩ := id hx
 obtain ⟨adbF, capbF, rfl, hbkFa, hbkFb, hbkFc, hbkFd⟩ := id hblF
 have hbkFm : f.blocks.length ≤ 9223372036854775807 := by have h1 := hbkFa; have h2 := hbkFb; unfold maxLen at h2; omega
 refine Ret.enter (P := Tryd.prog) (n := 48) (args := [.pointer (some ⟨bm, 0, none⟩), .agg #[.string f.name, .int .i64 f.bind, .int .i64 f.params, .slice adbF f.blocks.length capbF], .int .i64 (i : Int), vm]) (σ := [(0, .pointer (some ⟨bm, 0, none⟩)), (1, .agg #[.string f.name, .int .i64 f.bind, .int .i64 f.params, .slice adbF f.blocks.length capbF]), (2, .int .i64 (i : Int)), (3, vm)]) Tryd.func30 rfl rfl rfl rfl ?_
 have hsub : ∀ b, ro b → ro b ∨ w0.heap.size ≤ b := fun _ h => .inl h
 have halT : Alike ro ws ro ws := Alike.refl
 refine W.seq (W.region ?_)
 refine WL.box (v := .agg #[.string f.name, .int .i64 f.bind, .int .i64 f.params, .slice adbF f.blocks.length capbF]) (cs := [.string f.name, .int .i64 f.bind, .int .i64 f.params, .slice adbF f.blocks.length capbF]) rfl rfl rfl rfl hS ?_
 clear hS; intro w2 b1 hb_b1 hS
 refine WL.nil (N.seq (W.seq (W.seq (W.region (WL.fieldAddr fo_35_1 rfl rfl rfl (WL.load1 (v := .int .i64 f.bind) one_3 rfl rfl rfl (hS.cell 0 rfl rfl) (WL.bin rfl rfl rfl rfl rfl (WL.nil (N.seq ?_)))))))))
 refine W.cond rfl (fun hc3 => ?_) (fun hc3 => ?_)
 ·
  have hc3p : ¬ (f.bind = 1) := by simpa using hc3
  refine W.seq (W.seq (W.region (WL.move rfl rfl rfl (WL.fieldAddr fo_35_0 rfl rfl rfl (WL.load1 (v := .string f.name) one_9 rfl rfl rfl (hS.cell 0 rfl rfl) (WL.move rfl rfl rfl (WL.fieldAddr fo_35_3 rfl rfl rfl (WL.load1 (v := .slice adbF f.blocks.length capbF) one_33 rfl rfl rfl (hS.cell 0 rfl rfl) (WL.lenSlice Tryd.underlying33 rfl rfl rfl ?_)))))))))
  refine WL.bin rfl rfl rfl rfl rfl ?_
  replace hS : St w0 ws w2 ro ((bm, .cells #[vd, vk, v1, v2, .map (some bd)] 74 (0, 0)) :: (bd, .map es ck) :: (b1, .cells #[.string f.name, .int .i64 f.bind, .int .i64 f.params, .slice adbF f.blocks.length capbF] 35 (0, 0)) :: L) (⟨v1, 35, 4, fs.length, xs1⟩ :: Rs) := hS.perm (((List.Perm.swap _ _ _)).trans ((List.Perm.cons _ (List.Perm.swap _ _ _))))
  refine WL.callF (vs := [.pointer (some ⟨bm, 0, none⟩), .string f.name, .int .i64 (i : Int), .bool (decide (0 < (f.blocks.length : Int)))]) Tryd.func61 (by kernel_rfl) rfl rfl rfl (wants_ret bm bd vd vk v1 v2 es ck c dn ds ks f.name (i : Int) (hereF f) hS hM hd) ?_
  rintro v w4 ⟨rfl, es2, ck2, hM2, hS⟩
  refine WL.not rfl rfl rfl (WL.nil (N.seq ?_))
  refine W.cond rfl (fun hc5 => ?_) (fun hc5 => ?_)
  ·
   refine Fin.ret0 rfl ?_
   replace hS : St w0 ws w4 ro ((b1, .cells #[.string f.name, .int .i64 f.bind, .int .i64 f.params, .slice adbF f.blocks.length capbF] 35 (0, 0)) :: (bm, .cells #[vd, vk, v1, v2, .map (some bd)] 74 (0, 0)) :: (bd, .map es2 ck2) :: L) (⟨v1, 35, 4, fs.length, xs1⟩ :: Rs) := hS.perm (((List.Perm.cons _ (List.Perm.swap _ _ _))).trans ((List.Perm.swap _ _ _)))
   replace hS := hS.dropN 1
   have hbd1 : ¬ f.bind = 1 := by simpa using hc3p
   have hww : ¬ wants10 ds dn f.name (i : Int) (hereF f) = true := by simpa using hc5
   rw [if_neg hww] at hM2
   have hfun : fun10 ds ks i g ⟨fs, gs, dn⟩ f = ⟨fs, gs, dn⟩ := by unfold fun10; rw [if_neg hbd1, if_neg hww]
   rw [hfun]
   exact ⟨rfl, ro, ws, v1, xs1, es2, ck2, halT, hsub, hM2, hch, hS⟩
  refine W.skip (N.seq (W.seq (W.region (WL.move rfl rfl rfl (WL.fieldAddr fo_35_0 rfl rfl rfl (WL.load1 (v := .string f.name) one_9 rfl rfl rfl (hS.cell 2 rfl rfl) ?_))))))
  have hbm9 := (hS.keys bm (by simp [keysOf])).2.1
  refine WL.callF (vs := [.pointer (some ⟨bm, 0, none⟩), .string f.name]) Tryd.func62 (by kernel_rfl) rfl rfl rfl (mbind_ret bm vd vk v1 v2 (.map (some bd)) ks f.name (ro := fun z => z < w4.heap.size) (fun _ h => h) hbm9 (hS.cells 0 (m := 5) rfl rfl) (SlV.keep hk (fun z hz => ⟨(hS.snap z hz).1, (hS.snap z hz).2⟩) (fun _ _ q => q))) ?_
  rintro v w6 ⟨rfl, hbl⟩
  replace hS := hS.grow hbl
  refine WL.fieldAddr fo_35_1 rfl rfl rfl ?_
  refine WL.store (L' := ((bm, .cells #[vd, vk, v1, v2, .map (some bd)] 74 (0, 0)) :: (bd, .map es2 ck2) :: (b1, .cells #[.string f.name, .int .i64 (bind10 ks f.name), .int .i64 f.params, .slice adbF f.blocks.length capbF] 35 (0, 0)) :: L)) 2 rfl rfl rfl rfl siz_3 rfl rfl rfl rfl rfl hS ?_
  clear hS; intro w7 hS
  refine WL.nil (N.seq (W.seq (W.region (WL.fieldAddr fo_35_3 rfl rfl rfl (WL.load1 (v := .slice adbF f.blocks.length capbF) one_33 rfl rfl rfl (hS.cell 2 rfl rfl) (WL.lenSlice Tryd.underlying33 rfl rfl rfl (WL.bin rfl rfl rfl rfl rfl (WL.nil (N.seq ?_)))))))))
  refine W.cond rfl (fun hc8 => ?_) (fun hc8 => ?_)
  ·
   have hc8p : (f.blocks.length : Int) = 0 := by simpa using hc8
   refine W.region (WL.fieldAddr fo_35_2 rfl rfl rfl (WL.load1 (v := .int .i64 f.params) one_3 rfl rfl rfl (hS.cell 2 rfl rfl) ?_))
   refine WL.callF (vs := [.int .i64 f.params]) Tryd.func63 (by kernel_rfl) rfl rfl rfl (nothing_ret f.params (ro := ro) (fun b hb => (hS.snap b hb).1) hprF) ?_
   rintro vn w9 ⟨hnv, hbl⟩
   have hal10 := hS.alikeTo hbl (ro' := (roFrom ro w7 w9)) (fun b hb => .inl hb)
   replace hsub : ∀ b, (roFrom ro w7 w9) b → ro b ∨ w0.heap.size ≤ b := fun b hb => hb.elim (hsub b) (fun h => .inr (Nat.le_trans hS.below.size h.1))
   replace halT := halT.trans hal10
   replace hx := hx.keep hal10
   replace hblF := SlV.keep hblF hal10 (fun _ _ h => h.keep hal10)
   replace hm := hm.keep hal10
   replace hch := hch.mono fun _ _ h => h.keep hal10
   replace hS := hS.readNew hbl
   replace hnv := SlV.keep hnv (ro' := (roFrom ro w7 w9)) (w' := w9) (Q' := BlockC (roFrom ro w7 w9) w9) (fun x hx => ⟨.inr hx, rfl⟩) (fun _ _ h => h.keep fun x hx => ⟨.inr hx, rfl⟩)
   obtain ⟨adN, capN, rfl, hNa, hNb, hNc, hNd⟩ := id hnv
   have hNm : (nothing10 f.params).length ≤ 9223372036854775807 := by have h1 := hNa; have h2 := hNb; unfold maxLen at h2; omega
   refine WL.fieldAddr fo_35_3 rfl rfl rfl ?_
   refine WL.store (L' := ((bm, .cells #[vd, vk, v1, v2, .map (some bd)] 74 (0, 0)) :: (bd, .map es2 ck2) :: (b1, .cells #[.string f.name, .int .i64 (bind10 ks f.name), .int .i64 f.params, .slice adN ((nothing10 f.params).length) capN] 35 (0, 0)) :: L)) 2 rfl rfl rfl rfl siz_33 rfl rfl rfl rfl rfl hS ?_
   clear hS; intro w11 hS
   refine WL.nil (N.seq ?_)
   have hbd1 : ¬ f.bind = 1 := by simpa using hc3p
   have hww : wants10 ds dn f.name (i : Int) (hereF f) = true := by simpa using hc5
   rw [if_pos hww] at hM2
   obtain ⟨F, hF0⟩ : ∃ F, F = defF ks f := ⟨_, rfl⟩
   have hln0 : f.blocks.length = 0 := by omega
   have hF : FuncC (roFrom ro w7 w9) w9 [.string f.name, .int .i64 (bind10 ks f.name), .int .i64 f.params, .slice adN ((nothing10 f.params).length) capN] F := by rw [hF0]; unfold defF; rw [if_pos hln0]; exact ⟨_, rfl, hnv, hnmF, bind10_in ks f.name, hprF⟩
   have hFb : F.blocks.length ≤ 16 ∧ ∀ b ∈ F.blocks, b.ins.length ≤ 32 := by rw [hF0]; unfold defF; simp only; rw [if_pos hln0]; exact ⟨(by decide : 1 ≤ 16), fun b hb => by simp only [nothing10, List.mem_singleton] at hb; rw [hb]; simp⟩
   have hfun : fun10 ds ks i g ⟨fs, gs, dn⟩ f = ⟨fs ++ [rename10 g F], gs, updG dn f.name true⟩ := by unfold fun10; rw [if_neg hbd1, if_pos hww, hF0]
   refine W.drawA0 (S := fun u => True) (by kernel_rfl) (fun w12 hbd => ?_)
   replace hS := hS.grow hbd
   refine WA.conv (fuel' := 14 + 1) (listed' := #[false, false, false, false, false, false, false, false, false, false, false, false, false, false, false]) (by kernel_rfl) (by kernel_rfl) (WA.take 0 (v := .pointer (some ⟨bm, 0, none⟩)) rfl rfl (by kernel_rfl) (by kernel_rfl) (by kernel_rfl) (fin_no_panic _) rfl (exec_move rfl) trivial ?_)
   refine WA.conv (fuel' := 9 + 5) (listed' := #[true, false, false, false, false, false, false, false, false, false, false, false, false, false, false]) (by kernel_rfl) (by kernel_rfl) (WA.phaseI [(1, (fun v _ => v = .pointer (some ⟨bm, 0, none⟩))), (2, (fun v _ => v = .pointer (some ⟨bm, 0, none⟩))), (3, (fun v _ => v = .pointer (some ⟨bm, 2, none⟩))), (4, (fun v _ => v = .pointer (some ⟨bm, 2, none⟩))), (5, (fun v _ => v = v1)), (6, (fun v _ => v = .agg #[.string f.name, .int .i64 (bind10 ks f.name), .int .i64 f.params, .slice adN ((nothing10 f.params).length) capN])), (7, (fun v _ => v = vm)), (8, (fun v u => ∃ cs, v = .agg cs.toArray ∧ FuncC (fun b => ((roFrom ro w7 w9) b ∨ w12.heap.size ≤ b) ∧ b < u.heap.size) u cs (rename10 g F))), (9, (fun v u => ∃ b cs, v = .slice (some ⟨b, 0, none⟩) 1 1 ∧ u.heap[b]? = some (.cells cs.toArray 35 (0, 0)) ∧ FuncC (fun b => ((roFrom ro w7 w9) b ∨ w12.heap.size ≤ b) ∧ b < u.heap.size) u cs (rename10 g F)))] (by kernel_rfl) [(0, .pointer (some ⟨bm, 0, none⟩)), (3, vm), (5, .pointer (some ⟨b1, 0, none⟩)), (34, .pointer (some ⟨bm, 0, none⟩))] ⟨rfl, rfl, rfl, rfl, trivial⟩ (by kernel_rfl) ⟨stays_eq, stays_eq, stays_eq, stays_eq, stays_eq, stays_eq, stays_eq, stays_func (R := (roFrom ro w7 w9)) (B := w12.heap.size), stays_lit (R := (roFrom ro w7 w9)) (B := w12.heap.size), trivial⟩ ?_ (fun _ _ => trivial) ?_)
   ·
    refine ⟨fun β wd hb hD => ⟨_, rfl, ?_⟩, ?_⟩
    ·
     refine WL.sub (σ' := [(0, .pointer (some ⟨bm, 0, none⟩))]) ⟨rfl, trivial⟩ ?_
     have hS := hS.grow hb
     refine WL.move rfl rfl rfl ?_
     exact WL.nil (N.cut (.pointer (some ⟨bm, 0, none⟩)) ⟨rfl, trivial⟩ ⟨(Below.refl _ _), rfl⟩)
    refine ⟨fun β wd hb hD => ⟨_, rfl, ?_⟩, ?_⟩
    ·
     obtain ⟨hp1, _⟩ := hD
     replace hp1 : β 1 = .pointer (some ⟨bm, 0, none⟩) := hp1
     refine WL.sub (σ' := [(35, .pointer (some ⟨bm, 0, none⟩))]) ⟨congrArg some hp1, trivial⟩ ?_
     have hS := hS.grow hb
     refine WL.nilPtr rfl rfl rfl ?_
     exact WL.nil (N.cut (.pointer (some ⟨bm, 0, none⟩)) ⟨rfl, trivial⟩ ⟨(Below.refl _ _), rfl⟩)
    refine ⟨fun β wd hb hD => ⟨_, rfl, ?_⟩, ?_⟩
    ·
     obtain ⟨hp2, _⟩ := hD
     replace hp2 : β 2 = .pointer (some ⟨bm, 0, none⟩) := hp2
     refine WL.sub (σ' := [(36, .pointer (some ⟨bm, 0, none⟩))]) ⟨congrArg some hp2, trivial⟩ ?_
     have hS := hS.grow hb
     refine WL.fieldAddr fo_74_2 rfl rfl rfl ?_
     exact WL.nil (N.cut (.pointer (some ⟨bm, 2, none⟩)) ⟨rfl, trivial⟩ ⟨(Below.refl _ _), rfl⟩)
    refine ⟨fun β wd hb hD => ⟨_, rfl, ?_⟩, ?_⟩
    ·
     obtain ⟨hp3, _⟩ := hD
     replace hp3 : β 3 = .pointer (some ⟨bm, 2, none⟩) := hp3
     refine WL.sub (σ' := [(37, .pointer (some ⟨bm, 2, none⟩))]) ⟨congrArg some hp3, trivial⟩ ?_
     have hS := hS.grow hb
     refine WL.fieldAddr fo_32_0 rfl rfl rfl ?_
     exact WL.nil (N.cut (.pointer (some ⟨bm, 2, none⟩)) ⟨rfl, trivial⟩ ⟨(Below.refl _ _), rfl⟩)
    refine ⟨fun β wd hb hD => ⟨_, rfl, ?_⟩, ?_⟩
    ·
     obtain ⟨hp4, _⟩ := hD
     replace hp4 : β 4 = .pointer (some ⟨bm, 2, none⟩) := hp4
     refine WL.sub (σ' := [(38, .pointer (some ⟨bm, 2, none⟩))]) ⟨congrArg some hp4, trivial⟩ ?_
     have hS := hS.grow hb
     refine WL.load1 (v := v1) one_29 rfl rfl rfl (hS.cell 0 rfl rfl) ?_
     exact WL.nil (N.cut v1 ⟨rfl, trivial⟩ ⟨(Below.refl _ _), rfl⟩)
    refine ⟨fun β wd hb hD => ⟨_, rfl, ?_⟩, ?_⟩
    ·
     refine WL.sub (σ' := [(5, .pointer (some ⟨b1, 0, none⟩))]) ⟨rfl, trivial⟩ ?_
     have hS := hS.grow hb
     refine WL.loadN (cs := [.string f.name, .int .i64 (bind10 ks f.name), .int .i64 f.params, .slice adN ((nothing10 f.params).length) capN]) agg_35 rfl rfl rfl rfl (hS.cells 2 (m := 4) rfl rfl) ?_
     exact WL.nil (N.cut (.agg #[.string f.name, .int .i64 (bind10 ks f.name), .int .i64 f.params, .slice adN ((nothing10 f.params).length) capN]) ⟨rfl, trivial⟩ ⟨(Below.refl _ _), rfl⟩)
    refine ⟨fun β wd hb hD => ⟨_, rfl, ?_⟩, ?_⟩
    ·
     refine WL.sub (σ' := [(3, vm)]) ⟨rfl, trivial⟩ ?_
     have hS := hS.grow hb
     refine WL.move rfl rfl rfl ?_
     exact WL.nil (N.cut vm ⟨rfl, trivial⟩ ⟨(Below.refl _ _), rfl⟩)
    refine ⟨fun β wd hb hD => ⟨_, rfl, ?_⟩, ?_⟩
    ·
     obtain ⟨hp6, hp7, _⟩ := hD
     replace hp6 : β 6 = .agg #[.string f.name, .int .i64 (bind10 ks f.name), .int .i64 f.params, .slice adN ((nothing10 f.params).length) capN] := hp6
     replace hp7 : β 7 = vm := hp7
     refine WL.sub (σ' := [(40, .agg #[.string f.name, .int .i64 (bind10 ks f.name), .int .i64 f.params, .slice adN ((nothing10 f.params).length) capN]), (41, vm)]) ⟨congrArg some hp6, congrArg some hp7, trivial⟩ ?_
     have hS := hS.grow hb
     refine WL.callF (vs := [.agg #[.string f.name, .int .i64 (bind10 ks f.name), .int .i64 f.params, .slice adN ((nothing10 f.params).length) capN], vm]) Tryd.func65 (by kernel_rfl) rfl rfl rfl (rename_ret F _ g vm (ro := (roFrom ro w7 w9)) (fun b hb => (hS.snap b hb).1) (hF.keep hS.alike) (hm.keep hS.alike) hgs hFb.1 hFb.2) ?_
     rintro v w13 ⟨csq, rfl, hFn, hbl⟩
     replace hS := hS.grow hbl
     exact WL.nil (N.cut (.agg csq.toArray) ⟨rfl, trivial⟩ ⟨hbl, ⟨csq, rfl, hFn.keep (fun b hb2 => ⟨⟨hb2.elim .inl (fun h => .inr (Nat.le_trans hb.size h.1)), hb2.elim (fun h => by first | exact (hS.snap b h).1 | exact Nat.lt_of_lt_of_le (hS.snap b h).1 hbl.size) (·.2)⟩, rfl⟩)⟩⟩)
    refine ⟨fun β wd hb hD => ⟨_, rfl, ?_⟩, ?_⟩
    ·
     obtain ⟨hp8, _⟩ := hD
     replace hp8 : (fun v u => ∃ cs, v = .agg cs.toArray ∧ FuncC (fun b => ((roFrom ro w7 w9) b ∨ w12.heap.size ≤ b) ∧ b < u.heap.size) u cs (rename10 g F)) (β 8) wd := hp8
     refine WL.sub (σ' := [(42, (β 8))]) ⟨rfl, trivial⟩ ?_
     have hS := hS.grow hb
     generalize β 8 = z8 at hp8 ⊢
     obtain ⟨cz8, rfl, hz8⟩ := hp8
     obtain ⟨sbz, rfl, hblz, hnmz, hbdz, hprz⟩ := id hz8
     obtain ⟨adbz, capbz, rfl, hbkza, hbkzb, hbkzc, hbkzd⟩ := id hblz
     have hbkzm : ((rename10 g F).blocks).length ≤ 9223372036854775807 := by have h1 := hbkza; have h2 := hbkzb; unfold maxLen at h2; omega
     have hX := St.start (w := wd) (ro := fun z => z < wd.heap.size) (fun _ h => h)
     refine WL.buildSlice (ps := [(0, .agg #[.string ((rename10 g F).name), .int .i64 ((rename10 g F).bind), .int .i64 ((rename10 g F).params), .slice adbz (((rename10 g F).blocks).length) capbz])]) (cs := [.string ((rename10 g F).name), .int .i64 ((rename10 g F).bind), .int .i64 ((rename10 g F).params), .slice adbz (((rename10 g F).blocks).length) capbz]) Tryd.underlying29 (tyZero_spec zer_35) rfl rfl rfl rfl (by kernel_rfl) hX ?_
     clear hX; intro w15 b14 hb_b14 hX
     exact WL.nil (N.cut (.slice (some ⟨b14, 0, none⟩) 1 1) ⟨rfl, trivial⟩ ⟨hX.below, ⟨_, _, rfl, hX.own _ List.mem_cons_self, FuncC.keep (cs := [.string _, .int .i64 _, .int .i64 _, .slice _ _ _]) ⟨_, rfl, hblz, hnmz, hbdz, hprz⟩ (fun b hr => ⟨⟨hr.1, Nat.lt_of_lt_of_le hr.2 hX.below.size⟩, hX.below.block b hr.2⟩)⟩⟩)
    trivial
   intro β w16 hb hD
   obtain ⟨hp1, hp2, hp3, hp4, hp5, hp6, hp7, hp8, hp9, _⟩ := hD
   refine WA.sub (σ' := [(34, .pointer (some ⟨bm, 0, none⟩)), (39, v1), (43, (β 9))]) ⟨rfl, congrArg some (show β 5 = v1 from hp5), rfl, trivial⟩ ?_
   have hSd := hS
   replace hS := hS.grow hb
   replace hp8 : (fun v u => ∃ cs, v = .agg cs.toArray ∧ FuncC (fun b => ((roFrom ro w7 w9) b ∨ w12.heap.size ≤ b) ∧ b < u.heap.size) u cs (rename10 g F)) (β 8) w16 := hp8
   generalize β 8 = z8 at hp8 ⊢
   have hal17 := hSd.alikeTo hb (ro' := (roFrom (roFrom ro w7 w9) w12 w16)) (fun b hb => .inl hb)
   replace hsub : ∀ b, (roFrom (roFrom ro w7 w9) w12 w16) b → ro b ∨ w0.heap.size ≤ b := fun b hb => hb.elim (hsub b) (fun h => .inr (Nat.le_trans hSd.below.size h.1))
   replace halT := halT.trans hal17
   replace hblF := SlV.keep hblF hal17 (fun _ _ h => h.keep hal17)
   replace hm := hm.keep hal17
   replace hch := hch.mono fun _ _ h => h.keep hal17
   replace hF := hF.keep hal17
   replace hS := hSd.readNew hb
   replace hp9 : (fun v u => ∃ b cs, v = .slice (some ⟨b, 0, none⟩) 1 1 ∧ u.heap[b]? = some (.cells cs.toArray 35 (0, 0)) ∧ FuncC (fun b => ((roFrom ro w7 w9) b ∨ w12.heap.size ≤ b) ∧ b < u.heap.size) u cs (rename10 g F)) (β 9) w16 := hp9
   generalize β 9 = z9 at hp9 ⊢
   obtain ⟨bq, csq9, rfl, hbq, hFq⟩ := hp9
   replace hFq : FuncC (roFrom (roFrom ro w7 w9) w12 w16) w16 csq9 (rename10 g F) := hFq.keep (fun b hb2 => ⟨hb2.1.elim .inl (fun h => .inr ⟨h, hb2.2⟩), rfl⟩)
   refine WA.conv (fuel' := 4 + 1) (listed' := #[true, true, true, true, true, true, true, true, true, true, false, false, false, false, false]) (by kernel_rfl) (by kernel_rfl) (WA.stepS 10 (by kernel_rfl) rfl ?_)
   have hlq : csq9.length = 1 * 4 := by obtain ⟨_, e, _⟩ := hFq; rw [e]; rfl
   refine WL.callF (vs := [v1, .slice (some ⟨bq, 0, none⟩) 1 1]) Tryd.func64 (by kernel_rfl) rfl rfl rfl (behindF_ret v1 fs.length xs1 csq9 bq hS hlq (one_func hFq) (cellsAt_block hbq) (by omega)) ?_
   rintro v9 w18 hS
   have hrow9 : w18.ownsRow w0.heap.size 35 4 v9 (fs.length + 1) _ := hS.rows _ List.mem_cons_self
   obtain ⟨adw, capw, rfl, _, _, _⟩ := row_shape hrow9
   clear hrow9
   refine WL.nil (N.restS trivial ?_)
   refine WA.conv (fuel' := 3 + 1) (listed' := #[true, true, true, true, true, true, true, true, true, true, true, false, false, false, false]) (by kernel_rfl) (by kernel_rfl) (WA.stepS 11 (by kernel_rfl) rfl ?_)
   refine WL.nilPtr rfl rfl rfl ?_
   refine WL.nil (N.restS trivial ?_)
   refine WA.conv (fuel' := 2 + 1) (listed' := #[true, true, true, true, true, true, true, true, true, true, true, true, false, false, false]) (by kernel_rfl) (by kernel_rfl) (WA.stepS 12 (by kernel_rfl) rfl ?_)
   refine WL.fieldAddr fo_74_2 rfl rfl rfl ?_
   refine WL.nil (N.restS trivial ?_)
   refine WA.conv (fuel' := 1 + 1) (listed' := #[true, true, true, true, true, true, true, true, true, true, true, true, true, false, false]) (by kernel_rfl) (by kernel_rfl) (WA.stepS 13 (by kernel_rfl) rfl ?_)
   refine WL.fieldAddr fo_32_0 rfl rfl rfl ?_
   refine WL.nil (N.restS trivial ?_)
   refine WA.conv (fuel' := 0 + 1) (listed' := #[true, true, true, true, true, true, true, true, true, true, true, true, true, true, false]) (by kernel_rfl) (by kernel_rfl) (WA.stepS 14 (by kernel_rfl) rfl ?_)
   refine WL.store (L' := ((bm, .cells #[vd, vk, .slice adw (fs.length + 1) capw, v2, .map (some bd)] 74 (0, 0)) :: (bd, .map es2 ck2) :: (b1, .cells #[.string f.name, .int .i64 (bind10 ks f.name), .int .i64 f.params, .slice adN ((nothing10 f.params).length) capN] 35 (0, 0)) :: L)) 0 rfl rfl rfl rfl siz_29 rfl rfl rfl rfl rfl hS ?_
   clear hS; intro w19 hS
   refine WL.nil (N.restS trivial ?_)
   refine WA.doneN (by kernel_rfl) ?_
   refine Fin.end0 rfl ?_
   replace hS : St w0 w16 w19 (roFrom (roFrom ro w7 w9) w12 w16) ((b1, .cells #[.string f.name, .int .i64 (bind10 ks f.name), .int .i64 f.params, .slice adN ((nothing10 f.params).length) capN] 35 (0, 0)) :: (bm, .cells #[vd, vk, .slice adw (fs.length + 1) capw, v2, .map (some bd)] 74 (0, 0)) :: (bd, .map es2 ck2) :: L) (⟨.slice adw (fs.length + 1) capw, 35, 4, fs.length + 1, xs1 ++ csq9⟩ :: Rs) := hS.perm (((List.Perm.cons _ (List.Perm.swap _ _ _))).trans ((List.Perm.swap _ _ _)))
   replace hS := hS.dropN 1
   rw [hfun]
   exact ⟨rfl, (roFrom (roFrom ro w7 w9) w12 w16), w16, .slice adw (fs.length + 1) capw, _, es2, ck2, halT, hsub, hM2, hch.snoc (by obtain ⟨_, e, _⟩ := hFq; rw [e]; rfl) hFq, by show St _ _ _ _ _ (⟨_, _, _, (fs ++ [_]).length, _⟩ :: _); rw [List.length_append]; exact hS⟩
  have hc8p : ¬ ((f.blocks.length : Int) = 0) := by simpa using hc8
  refine W.skip (N.seq ?_)
  have hbd1 : ¬ f.bind = 1 := by simpa using hc3p
  have hww : wants10 ds dn f.name (i : Int) (hereF f) = true := by simpa using hc5
  rw [if_pos hww] at hM2
  obtain ⟨F, hF0⟩ : ∃ F, F = defF ks f := ⟨_, rfl⟩
  have hln0 : ¬ f.blocks.length = 0 := by omega
  have hF : FuncC ro ws [.string f.name, .int .i64 (bind10 ks f.name), .int .i64 f.params, .slice adbF f.blocks.length capbF] F := by rw [hF0]; unfold defF; rw [if_neg hln0]; exact ⟨_, rfl, hblF, hnmF, bind10_in ks f.name, hprF⟩
  have hFb : F.blocks.length ≤ 16 ∧ ∀ b ∈ F.blocks, b.ins.length ≤ 32 := by rw [hF0]; unfold defF; simp only; rw [if_neg hln0]; exact ⟨hnb, hbi⟩
  have hfun : fun10 ds ks i g ⟨fs, gs, dn⟩ f = ⟨fs ++ [rename10 g F], gs, updG dn f.name true⟩ := by unfold fun10; rw [if_neg hbd1, if_pos hww, hF0]
  refine W.drawA0 (S := fun u => True) (by kernel_rfl) (fun w20 hbd => ?_)
  replace hS := hS.grow hbd
  refine WA.conv (fuel' := 14 + 1) (listed' := #[false, false, false, false, false, false, false, false, false, false, false, false, false, false, false]) (by kernel_rfl) (by kernel_rfl) (WA.take 0 (v := .pointer (some ⟨bm, 0, none⟩)) rfl rfl (by kernel_rfl) (by kernel_rfl) (by kernel_rfl) (fin_no_panic _) rfl (exec_move rfl) trivial ?_)
  refine WA.conv (fuel' := 9 + 5) (listed' := #[true, false, false, false, false, false, false, false, false, false, false, false, false, false, false]) (by kernel_rfl) (by kernel_rfl) (WA.phaseI [(1, (fun v _ => v = .pointer (some ⟨bm, 0, none⟩))), (2, (fun v _ => v = .pointer (some ⟨bm, 0, none⟩))), (3, (fun v _ => v = .pointer (some ⟨bm, 2, none⟩))), (4, (fun v _ => v = .pointer (some ⟨bm, 2, none⟩))), (5, (fun v _ => v = v1)), (6, (fun v _ => v = .agg #[.string f.name, .int .i64 (bind10 ks f.name), .int .i64 f.params, .slice adbF f.blocks.length capbF])), (7, (fun v _ => v = vm)), (8, (fun v u => ∃ cs, v = .agg cs.toArray ∧ FuncC (fun b => (ro b ∨ w20.heap.size ≤ b) ∧ b < u.heap.size) u cs (rename10 g F))), (9, (fun v u => ∃ b cs, v = .slice (some ⟨b, 0, none⟩) 1 1 ∧ u.heap[b]? = some (.cells cs.toArray 35 (0, 0)) ∧ FuncC (fun b => (ro b ∨ w20.heap.size ≤ b) ∧ b < u.heap.size) u cs (rename10 g F)))] (by kernel_rfl) [(0, .pointer (some ⟨bm, 0, none⟩)), (3, vm), (5, .pointer (some ⟨b1, 0, none⟩)), (34, .pointer (some ⟨bm, 0, none⟩))] ⟨rfl, rfl, rfl, rfl, trivial⟩ (by kernel_rfl) ⟨stays_eq, stays_eq, stays_eq, stays_eq, stays_eq, stays_eq, stays_eq, stays_func (R := ro) (B := w20.heap.size), stays_lit (R := ro) (B := w20.heap.size), trivial⟩ ?_ (fun _ _ => trivial) ?_)
  ·
   refine ⟨fun β wd hb hD => ⟨_, rfl, ?_⟩, ?_⟩
   ·
    refine WL.sub (σ' := [(0, .pointer (some ⟨bm, 0, none⟩))]) ⟨rfl, trivial⟩ ?_
    have hS := hS.grow hb
    refine WL.move rfl rfl rfl ?_
    exact WL.nil (N.cut (.pointer (some ⟨bm, 0, none⟩)) ⟨rfl, trivial⟩ ⟨(Below.refl _ _), rfl⟩)
   refine ⟨fun β wd hb hD => ⟨_, rfl, ?_⟩, ?_⟩
   ·
    obtain ⟨hp1, _⟩ := hD
    replace hp1 : β 1 = .pointer (some ⟨bm, 0, none⟩) := hp1
    refine WL.sub (σ' := [(35, .pointer (some ⟨bm, 0, none⟩))]) ⟨congrArg some hp1, trivial⟩ ?_
    have hS := hS.grow hb
    refine WL.nilPtr rfl rfl rfl ?_
    exact WL.nil (N.cut (.pointer (some ⟨bm, 0, none⟩)) ⟨rfl, trivial⟩ ⟨(Below.refl _ _), rfl⟩)
   refine ⟨fun β wd hb hD => ⟨_, rfl, ?_⟩, ?_⟩
   ·
    obtain ⟨hp2, _⟩ := hD
    replace hp2 : β 2 = .pointer (some ⟨bm, 0, none⟩) := hp2
    refine WL.sub (σ' := [(36, .pointer (some ⟨bm, 0, none⟩))]) ⟨congrArg some hp2, trivial⟩ ?_
    have hS := hS.grow hb
    refine WL.fieldAddr fo_74_2 rfl rfl rfl ?_
    exact WL.nil (N.cut (.pointer (some ⟨bm, 2, none⟩)) ⟨rfl, trivial⟩ ⟨(Below.refl _ _), rfl⟩)
   refine ⟨fun β wd hb hD => ⟨_, rfl, ?_⟩, ?_⟩
   ·
    obtain ⟨hp3, _⟩ := hD
    replace hp3 : β 3 = .pointer (some ⟨bm, 2, none⟩) := hp3
    refine WL.sub (σ' := [(37, .pointer (some ⟨bm, 2, none⟩))]) ⟨congrArg some hp3, trivial⟩ ?_
    have hS := hS.grow hb
    refine WL.fieldAddr fo_32_0 rfl rfl rfl ?_
    exact WL.nil (N.cut (.pointer (some ⟨bm, 2, none⟩)) ⟨rfl, trivial⟩ ⟨(Below.refl _ _), rfl⟩)
   refine ⟨fun β wd hb hD => ⟨_, rfl, ?_⟩, ?_⟩
   ·
    obtain ⟨hp4, _⟩ := hD
    replace hp4 : β 4 = .pointer (some ⟨bm, 2, none⟩) := hp4
    refine WL.sub (σ' := [(38, .pointer (some ⟨bm, 2, none⟩))]) ⟨congrArg some hp4, trivial⟩ ?_
    have hS := hS.grow hb
    refine WL.load1 (v := v1) one_29 rfl rfl rfl (hS.cell 0 rfl rfl) ?_
    exact WL.nil (N.cut v1 ⟨rfl, trivial⟩ ⟨(Below.refl _ _), rfl⟩)
   refine ⟨fun β wd hb hD => ⟨_, rfl, ?_⟩, ?_⟩
   ·
    refine WL.sub (σ' := [(5, .pointer (some ⟨b1, 0, none⟩))]) ⟨rfl, trivial⟩ ?_
    have hS := hS.grow hb
    refine WL.loadN (cs := [.string f.name, .int .i64 (bind10 ks f.name), .int .i64 f.params, .slice adbF f.blocks.length capbF]) agg_35 rfl rfl rfl rfl (hS.cells 2 (m := 4) rfl rfl) ?_
    exact WL.nil (N.cut (.agg #[.string f.name, .int .i64 (bind10 ks f.name), .int .i64 f.params, .slice adbF f.blocks.length capbF]) ⟨rfl, trivial⟩ ⟨(Below.refl _ _), rfl⟩)
   refine ⟨fun β wd hb hD => ⟨_, rfl, ?_⟩, ?_⟩
   ·
    refine WL.sub (σ' := [(3, vm)]) ⟨rfl, trivial⟩ ?_
    have hS := hS.grow hb
    refine WL.move rfl rfl rfl ?_
    exact WL.nil (N.cut vm ⟨rfl, trivial⟩ ⟨(Below.refl _ _), rfl⟩)
   refine ⟨fun β wd hb hD => ⟨_, rfl, ?_⟩, ?_⟩
   ·
    obtain ⟨hp6, hp7, _⟩ := hD
    replace hp6 : β 6 = .agg #[.string f.name, .int .i64 (bind10 ks f.name), .int .i64 f.params, .slice adbF f.blocks.length capbF] := hp6
    replace hp7 : β 7 = vm := hp7
    refine WL.sub (σ' := [(40, .agg #[.string f.name, .int .i64 (bind10 ks f.name), .int .i64 f.params, .slice adbF f.blocks.length capbF]), (41, vm)]) ⟨congrArg some hp6, congrArg some hp7, trivial⟩ ?_
    have hS := hS.grow hb
    refine WL.callF (vs := [.agg #[.string f.name, .int .i64 (bind10 ks f.name), .int .i64 f.params, .slice adbF f.blocks.length capbF], vm]) Tryd.func65 (by kernel_rfl) rfl rfl rfl (rename_ret F _ g vm (ro := ro) (fun b hb => (hS.snap b hb).1) (hF.keep hS.alike) (hm.keep hS.alike) hgs hFb.1 hFb.2) ?_
    rintro v w21 ⟨csq, rfl, hFn, hbl⟩
    replace hS := hS.grow hbl
    exact WL.nil (N.cut (.agg csq.toArray) ⟨rfl, trivial⟩ ⟨hbl, ⟨csq, rfl, hFn.keep (fun b hb2 => ⟨⟨hb2.elim .inl (fun h => .inr (Nat.le_trans hb.size h.1)), hb2.elim (fun h => by first | exact (hS.snap b h).1 | exact Nat.lt_of_lt_of_le (hS.snap b h).1 hbl.size) (·.2)⟩, rfl⟩)⟩⟩)
   refine ⟨fun β wd hb hD => ⟨_, rfl, ?_⟩, ?_⟩
   ·
    obtain ⟨hp8, _⟩ := hD
    replace hp8 : (fun v u => ∃ cs, v = .agg cs.toArray ∧ FuncC (fun b => (ro b ∨ w20.heap.size ≤ b) ∧ b < u.heap.size) u cs (rename10 g F)) (β 8) wd := hp8
    refine WL.sub (σ' := [(42, (β 8))]) ⟨rfl, trivial⟩ ?_
    have hS := hS.grow hb
    generalize β 8 = z8 at hp8 ⊢
    obtain ⟨cz8, rfl, hz8⟩ := hp8
    obtain ⟨sbz, rfl, hblz, hnmz, hbdz, hprz⟩ := id hz8
    obtain ⟨adbz, capbz, rfl, hbkza, hbkzb, hbkzc, hbkzd⟩ := id hblz
    have hbkzm : ((rename10 g F).blocks).length ≤ 9223372036854775807 := by have h1 := hbkza; have h2 := hbkzb; unfold maxLen at h2; omega
    have hX := St.start (w := wd) (ro := fun z => z < wd.heap.size) (fun _ h => h)
    refine WL.buildSlice (ps := [(0, .agg #[.string ((rename10 g F).name), .int .i64 ((rename10 g F).bind), .int .i64 ((rename10 g F).params), .slice adbz (((rename10 g F).blocks).length) capbz])]) (cs := [.string ((rename10 g F).name), .int .i64 ((rename10 g F).bind), .int .i64 ((rename10 g F).params), .slice adbz (((rename10 g F).blocks).length) capbz]) Tryd.underlying29 (tyZero_spec zer_35) rfl rfl rfl rfl (by kernel_rfl) hX ?_
    clear hX; intro w23 b22 hb_b22 hX
    exact WL.nil (N.cut (.slice (some ⟨b22, 0, none⟩) 1 1) ⟨rfl, trivial⟩ ⟨hX.below, ⟨_, _, rfl, hX.own _ List.mem_cons_self, FuncC.keep (cs := [.string _, .int .i64 _, .int .i64 _, .slice _ _ _]) ⟨_, rfl, hblz, hnmz, hbdz, hprz⟩ (fun b hr => ⟨⟨hr.1, Nat.lt_of_lt_of_le hr.2 hX.below.size⟩, hX.below.block b hr.2⟩)⟩⟩)
   trivial
  intro β w24 hb hD
  obtain ⟨hp1, hp2, hp3, hp4, hp5, hp6, hp7, hp8, hp9, _⟩ := hD
  refine WA.sub (σ' := [(34, .pointer (some ⟨bm, 0, none⟩)), (39, v1), (43, (β 9))]) ⟨rfl, congrArg some (show β 5 = v1 from hp5), rfl, trivial⟩ ?_
  have hSd := hS
  replace hS := hS.grow hb
  replace hp8 : (fun v u => ∃ cs, v = .agg cs.toArray ∧ FuncC (fun b => (ro b ∨ w20.heap.size ≤ b) ∧ b < u.heap.size) u cs (rename10 g F)) (β 8) w24 := hp8
  generalize β 8 = z8 at hp8 ⊢
  have hal25 := hSd.alikeTo hb (ro' := (roFrom ro w20 w24)) (fun b hb => .inl hb)
  replace hsub : ∀ b, (roFrom ro w20 w24) b → ro b ∨ w0.heap.size ≤ b := fun b hb => hb.elim (hsub b) (fun h => .inr (Nat.le_trans hSd.below.size h.1))
  replace halT := halT.trans hal25
  replace hblF := SlV.keep hblF hal25 (fun _ _ h => h.keep hal25)
  replace hm := hm.keep hal25
  replace hch := hch.mono fun _ _ h => h.keep hal25
  replace hF := hF.keep hal25
  replace hS := hSd.readNew hb
  replace hp9 : (fun v u => ∃ b cs, v = .slice (some ⟨b, 0, none⟩) 1 1 ∧ u.heap[b]? = some (.cells cs.toArray 35 (0, 0)) ∧ FuncC (fun b => (ro b ∨ w20.heap.size ≤ b) ∧ b < u.heap.size) u cs (rename10 g F)) (β 9) w24 := hp9
  generalize β 9 = z9 at hp9 ⊢
  obtain ⟨bq, csq9, rfl, hbq, hFq⟩ := hp9
  replace hFq : FuncC (roFrom ro w20 w24) w24 csq9 (rename10 g F) := hFq.keep (fun b hb2 => ⟨hb2.1.elim .inl (fun h => .inr ⟨h, hb2.2⟩), rfl⟩)
  refine WA.conv (fuel' := 4 + 1) (listed' := #[true, true, true, true, true, true, true, true, true, true, false, false, false, false, false]) (by kernel_rfl) (by kernel_rfl) (WA.stepS 10 (by kernel_rfl) rfl ?_)
  have hlq : csq9.length = 1 * 4 := by obtain ⟨_, e, _⟩ := hFq; rw [e]; rfl
  refine WL.callF (vs := [v1, .slice (some ⟨bq, 0, none⟩) 1 1]) Tryd.func64 (by kernel_rfl) rfl rfl rfl (behindF_ret v1 fs.length xs1 csq9 bq hS hlq (one_func hFq) (cellsAt_block hbq) (by omega)) ?_
  rintro v9 w26 hS
  have hrow9 : w26.ownsRow w0.heap.size 35 4 v9 (fs.length + 1) _ := hS.rows _ List.mem_cons_self
  obtain ⟨adw, capw, rfl, _, _, _⟩ := row_shape hrow9
  clear hrow9
  refine WL.nil (N.restS trivial ?_)
  refine WA.conv (fuel' := 3 + 1) (listed' := #[true, true, true, true, true, true, true, true, true, true, true, false, false, false, false]) (by kernel_rfl) (by kernel_rfl) (WA.stepS 11 (by kernel_rfl) rfl ?_)
  refine WL.nilPtr rfl rfl rfl ?_
  refine WL.nil (N.restS trivial ?_)
  refine WA.conv (fuel' := 2 + 1) (listed' := #[true, true, true, true, true, true, true, true, true, true, true, true, false, false, false]) (by kernel_rfl) (by kernel_rfl) (WA.stepS 12 (by kernel_rfl) rfl ?_)
  refine WL.fieldAddr fo_74_2 rfl rfl rfl ?_
  refine WL.nil (N.restS trivial ?_)
  refine WA.conv (fuel' := 1 + 1) (listed' := #[true, true, true, true, true, true, true, true, true, true, true, true, true, false, false]) (by kernel_rfl) (by kernel_rfl) (WA.stepS 13 (by kernel_rfl) rfl ?_)
  refine WL.fieldAddr fo_32_0 rfl rfl rfl ?_
  refine WL.nil (N.restS trivial ?_)
  refine WA.conv (fuel' := 0 + 1) (listed' := #[true, true, true, true, true, true, true, true, true, true, true, true, true, true, false]) (by kernel_rfl) (by kernel_rfl) (WA.stepS 14 (by kernel_rfl) rfl ?_)
  refine WL.store (L' := ((bm, .cells #[vd, vk, .slice adw (fs.length + 1) capw, v2, .map (some bd)] 74 (0, 0)) :: (bd, .map es2 ck2) :: (b1, .cells #[.string f.name, .int .i64 (bind10 ks f.name), .int .i64 f.params, .slice adbF f.blocks.length capbF] 35 (0, 0)) :: L)) 0 rfl rfl rfl rfl siz_29 rfl rfl rfl rfl rfl hS ?_
  clear hS; intro w27 hS
  refine WL.nil (N.restS trivial ?_)
  refine WA.doneN (by kernel_rfl) ?_
  refine Fin.end0 rfl ?_
  replace hS : St w0 w24 w27 (roFrom ro w20 w24) ((b1, .cells #[.string f.name, .int .i64 (bind10 ks f.name), .int .i64 f.params, .slice adbF f.blocks.length capbF] 35 (0, 0)) :: (bm, .cells #[vd, vk, .slice adw (fs.length + 1) capw, v2, .map (some bd)] 74 (0, 0)) :: (bd, .map es2 ck2) :: L) (⟨.slice adw (fs.length + 1) capw, 35, 4, fs.length + 1, xs1 ++ csq9⟩ :: Rs) := hS.perm (((List.Perm.cons _ (List.Perm.swap _ _ _))).trans ((List.Perm.swap _ _ _)))
  replace hS := hS.dropN 1
  rw [hfun]
  exact ⟨rfl, (roFrom ro w20 w24), w24, .slice adw (fs.length + 1) capw, _, es2, ck2, halT, hsub, hM2, hch.snoc (by obtain ⟨_, e, _⟩ := hFq; rw [e]; rfl) hFq, by show St _ _ _ _ _ (⟨_, _, _, (fs ++ [_]).length, _⟩ :: _); rw [List.length_append]; exact hS⟩
 have hc3p : f.bind = 1 := by simpa using hc3
 refine W.skip (N.seq ?_)
 obtain ⟨F, hF0⟩ : ∃ F, F = f := ⟨_, rfl⟩
 have hbd1 : f.bind = 1 := by simpa using hc3p
 have hF : FuncC ro ws [.string f.name, .int .i64 f.bind, .int .i64 f.params, .slice adbF f.blocks.length capbF] F := by rw [hF0]; exact ⟨_, rfl, hblF, hnmF, hbdF, hprF⟩
 have hFb : F.blocks.length ≤ 16 ∧ ∀ b ∈ F.blocks, b.ins.length ≤ 32 := by rw [hF0]; exact ⟨hnb, hbi⟩
 have hfun : fun10 ds ks i g ⟨fs, gs, dn⟩ f = ⟨fs ++ [rename10 g F], gs, dn⟩ := by unfold fun10; rw [if_pos hbd1, hF0]
 refine W.drawA0 (S := fun u => True) (by kernel_rfl) (fun w28 hbd => ?_)
 replace hS := hS.grow hbd
 refine WA.conv (fuel' := 14 + 1) (listed' := #[false, false, false, false, false, false, false, false, false, false, false, false, false, false, false]) (by kernel_rfl) (by kernel_rfl) (WA.take 0 (v := .pointer (some ⟨bm, 0, none⟩)) rfl rfl (by kernel_rfl) (by kernel_rfl) (by kernel_rfl) (fin_no_panic _) rfl (exec_move rfl) trivial ?_)
 refine WA.conv (fuel' := 9 + 5) (listed' := #[true, false, false, false, false, false, false, false, false, false, false, false, false, false, false]) (by kernel_rfl) (by kernel_rfl) (WA.phaseI [(1, (fun v _ => v = .pointer (some ⟨bm, 0, none⟩))), (2, (fun v _ => v = .pointer (some ⟨bm, 0, none⟩))), (3, (fun v _ => v = .pointer (some ⟨bm, 2, none⟩))), (4, (fun v _ => v = .pointer (some ⟨bm, 2, none⟩))), (5, (fun v _ => v = v1)), (6, (fun v _ => v = .agg #[.string f.name, .int .i64 f.bind, .int .i64 f.params, .slice adbF f.blocks.length capbF])), (7, (fun v _ => v = vm)), (8, (fun v u => ∃ cs, v = .agg cs.toArray ∧ FuncC (fun b => (ro b ∨ w28.heap.size ≤ b) ∧ b < u.heap.size) u cs (rename10 g F))), (9, (fun v u => ∃ b cs, v = .slice (some ⟨b, 0, none⟩) 1 1 ∧ u.heap[b]? = some (.cells cs.toArray 35 (0, 0)) ∧ FuncC (fun b => (ro b ∨ w28.heap.size ≤ b) ∧ b < u.heap.size) u cs (rename10 g F)))] (by kernel_rfl) [(0, .pointer (some ⟨bm, 0, none⟩)), (3, vm), (5, .pointer (some ⟨b1, 0, none⟩)), (34, .pointer (some ⟨bm, 0, none⟩))] ⟨rfl, rfl, rfl, rfl, trivial⟩ (by kernel_rfl) ⟨stays_eq, stays_eq, stays_eq, stays_eq, stays_eq, stays_eq, stays_eq, stays_func (R := ro) (B := w28.heap.size), stays_lit (R := ro) (B := w28.heap.size), trivial⟩ ?_ (fun _ _ => trivial) ?_)
 ·
  refine ⟨fun β wd hb hD => ⟨_, rfl, ?_⟩, ?_⟩
  ·
   refine WL.sub (σ' := [(0, .pointer (some ⟨bm, 0, none⟩))]) ⟨rfl, trivial⟩ ?_
   have hS := hS.grow hb
   refine WL.move rfl rfl rfl ?_
   exact WL.nil (N.cut (.pointer (some ⟨bm, 0, none⟩)) ⟨rfl, trivial⟩ ⟨(Below.refl _ _), rfl⟩)
  refine ⟨fun β wd hb hD => ⟨_, rfl, ?_⟩, ?_⟩
  ·
   obtain ⟨hp1, _⟩ := hD
   replace hp1 : β 1 = .pointer (some ⟨bm, 0, none⟩) := hp1
   refine WL.sub (σ' := [(35, .pointer (some ⟨bm, 0, none⟩))]) ⟨congrArg some hp1, trivial⟩ ?_
   have hS := hS.grow hb
   refine WL.nilPtr rfl rfl rfl ?_
   exact WL.nil (N.cut (.pointer (some ⟨bm, 0, none⟩)) ⟨rfl, trivial⟩ ⟨(Below.refl _ _), rfl⟩)
  refine ⟨fun β wd hb hD => ⟨_, rfl, ?_⟩, ?_⟩
  ·
   obtain ⟨hp2, _⟩ := hD
   replace hp2 : β 2 = .pointer (some ⟨bm, 0, none⟩) := hp2
   refine WL.sub (σ' := [(36, .pointer (some ⟨bm, 0, none⟩))]) ⟨congrArg some hp2, trivial⟩ ?_
   have hS := hS.grow hb
   refine WL.fieldAddr fo_74_2 rfl rfl rfl ?_
   exact WL.nil (N.cut (.pointer (some ⟨bm, 2, none⟩)) ⟨rfl, trivial⟩ ⟨(Below.refl _ _), rfl⟩)
  refine ⟨fun β wd hb hD => ⟨_, rfl, ?_⟩, ?_⟩
  ·
   obtain ⟨hp3, _⟩ := hD
   replace hp3 : β 3 = .pointer (some ⟨bm, 2, none⟩) := hp3
   refine WL.sub (σ' := [(37, .pointer (some ⟨bm, 2, none⟩))]) ⟨congrArg some hp3, trivial⟩ ?_
   have hS := hS.grow hb
   refine WL.fieldAddr fo_32_0 rfl rfl rfl ?_
   exact WL.nil (N.cut (.pointer (some ⟨bm, 2, none⟩)) ⟨rfl, trivial⟩ ⟨(Below.refl _ _), rfl⟩)
  refine ⟨fun β wd hb hD => ⟨_, rfl, ?_⟩, ?_⟩
  ·
   obtain ⟨hp4, _⟩ := hD
   replace hp4 : β 4 = .pointer (some ⟨bm, 2, none⟩) := hp4
   refine WL.sub (σ' := [(38, .pointer (some ⟨bm, 2, none⟩))]) ⟨congrArg some hp4, trivial⟩ ?_
   have hS := hS.grow hb
   refine WL.load1 (v := v1) one_29 rfl rfl rfl (hS.cell 1 rfl rfl) ?_
   exact WL.nil (N.cut v1 ⟨rfl, trivial⟩ ⟨(Below.refl _ _), rfl⟩)
  refine ⟨fun β wd hb hD => ⟨_, rfl, ?_⟩, ?_⟩
  ·
   refine WL.sub (σ' := [(5, .pointer (some ⟨b1, 0, none⟩))]) ⟨rfl, trivial⟩ ?_
   have hS := hS.grow hb
   refine WL.loadN (cs := [.string f.name, .int .i64 f.bind, .int .i64 f.params, .slice adbF f.blocks.length capbF]) agg_35 rfl rfl rfl rfl (hS.cells 0 (m := 4) rfl rfl) ?_
   exact WL.nil (N.cut (.agg #[.string f.name, .int .i64 f.bind, .int .i64 f.params, .slice adbF f.blocks.length capbF]) ⟨rfl, trivial⟩ ⟨(Below.refl _ _), rfl⟩)
  refine ⟨fun β wd hb hD => ⟨_, rfl, ?_⟩, ?_⟩
  ·
   refine WL.sub (σ' := [(3, vm)]) ⟨rfl, trivial⟩ ?_
   have hS := hS.grow hb
   refine WL.move rfl rfl rfl ?_
   exact WL.nil (N.cut vm ⟨rfl, trivial⟩ ⟨(Below.refl _ _), rfl⟩)
  refine ⟨fun β wd hb hD => ⟨_, rfl, ?_⟩, ?_⟩
  ·
   obtain ⟨hp6, hp7, _⟩ := hD
   replace hp6 : β 6 = .agg #[.string f.name, .int .i64 f.bind, .int .i64 f.params, .slice adbF f.blocks.length capbF] := hp6
   replace hp7 : β 7 = vm := hp7
   refine WL.sub (σ' := [(40, .agg #[.string f.name, .int .i64 f.bind, .int .i64 f.params, .slice adbF f.blocks.length capbF]), (41, vm)]) ⟨congrArg some hp6, congrArg some hp7, trivial⟩ ?_
   have hS := hS.grow hb
   refine WL.callF (vs := [.agg #[.string f.name, .int .i64 f.bind, .int .i64 f.params, .slice adbF f.blocks.length capbF], vm]) Tryd.func65 (by kernel_rfl) rfl rfl rfl (rename_ret F _ g vm (ro := ro) (fun b hb => (hS.snap b hb).1) (hF.keep hS.alike) (hm.keep hS.alike) hgs hFb.1 hFb.2) ?_
   rintro v w29 ⟨csq, rfl, hFn, hbl⟩
   replace hS := hS.grow hbl
   exact WL.nil (N.cut (.agg csq.toArray) ⟨rfl, trivial⟩ ⟨hbl, ⟨csq, rfl, hFn.keep (fun b hb2 => ⟨⟨hb2.elim .inl (fun h => .inr (Nat.le_trans hb.size h.1)), hb2.elim (fun h => by first | exact (hS.snap b h).1 | exact Nat.lt_of_lt_of_le (hS.snap b h).1 hbl.size) (·.2)⟩, rfl⟩)⟩⟩)
  refine ⟨fun β wd hb hD => ⟨_, rfl, ?_⟩, ?_⟩
  ·
   obtain ⟨hp8, _⟩ := hD
   replace hp8 : (fun v u => ∃ cs, v = .agg cs.toArray ∧ FuncC (fun b => (ro b ∨ w28.heap.size ≤ b) ∧ b < u.heap.size) u cs (rename10 g F)) (β 8) wd := hp8
   refine WL.sub (σ' := [(42, (β 8))]) ⟨rfl, trivial⟩ ?_
   have hS := hS.grow hb
   generalize β 8 = z8 at hp8 ⊢
   obtain ⟨cz8, rfl, hz8⟩ := hp8
   obtain ⟨sbz, rfl, hblz, hnmz, hbdz, hprz⟩ := id hz8
   obtain ⟨adbz, capbz, rfl, hbkza, hbkzb, hbkzc, hbkzd⟩ := id hblz
   have hbkzm : ((rename10 g F).blocks).length ≤ 9223372036854775807 := by have h1 := hbkza; have h2 := hbkzb; unfold maxLen at h2; omega
   have hX := St.start (w := wd) (ro := fun z => z < wd.heap.size) (fun _ h => h)
   refine WL.buildSlice (ps := [(0, .agg #[.string ((rename10 g F).name), .int .i64 ((rename10 g F).bind), .int .i64 ((rename10 g F).params), .slice adbz (((rename10 g F).blocks).length) capbz])]) (cs := [.string ((rename10 g F).name), .int .i64 ((rename10 g F).bind), .int .i64 ((rename10 g F).params), .slice adbz (((rename10 g F).blocks).length) capbz]) Tryd.underlying29 (tyZero_spec zer_35) rfl rfl rfl rfl (by kernel_rfl) hX ?_
   clear hX; intro w31 b30 hb_b30 hX
   exact WL.nil (N.cut (.slice (some ⟨b30, 0, none⟩) 1 1) ⟨rfl, trivial⟩ ⟨hX.below, ⟨_, _, rfl, hX.own _ List.mem_cons_self, FuncC.keep (cs := [.string _, .int .i64 _, .int .i64 _, .slice _ _ _]) ⟨_, rfl, hblz, hnmz, hbdz, hprz⟩ (fun b hr => ⟨⟨hr.1, Nat.lt_of_lt_of_le hr.2 hX.below.size⟩, hX.below.block b hr.2⟩)⟩⟩)
  trivial
 intro β w32 hb hD
 obtain ⟨hp1, hp2, hp3, hp4, hp5, hp6, hp7, hp8, hp9, _⟩ := hD
 refine WA.sub (σ' := [(34, .pointer (some ⟨bm, 0, none⟩)), (39, v1), (43, (β 9))]) ⟨rfl, congrArg some (show β 5 = v1 from hp5), rfl, trivial⟩ ?_
 have hSd := hS
 replace hS := hS.grow hb
 replace hp8 : (fun v u => ∃ cs, v = .agg cs.toArray ∧ FuncC (fun b => (ro b ∨ w28.heap.size ≤ b) ∧ b < u.heap.size) u cs (rename10 g F)) (β 8) w32 := hp8
 generalize β 8 = z8 at hp8 ⊢
 have hal33 := hSd.alikeTo hb (ro' := (roFrom ro w28 w32)) (fun b hb => .inl hb)
 replace hsub : ∀ b, (roFrom ro w28 w32) b → ro b ∨ w0.heap.size ≤ b := fun b hb => hb.elim (hsub b) (fun h => .inr (Nat.le_trans hSd.below.size h.1))
 replace halT := halT.trans hal33
 replace hch := hch.mono fun _ _ h => h.keep hal33
 replace hS := hSd.readNew hb
 replace hp9 : (fun v u => ∃ b cs, v = .slice (some ⟨b, 0, none⟩) 1 1 ∧ u.heap[b]? = some (.cells cs.toArray 35 (0, 0)) ∧ FuncC (fun b => (ro b ∨ w28.heap.size ≤ b) ∧ b < u.heap.size) u cs (rename10 g F)) (β 9) w32 := hp9
 generalize β 9 = z9 at hp9 ⊢
 obtain ⟨bq, csq9, rfl, hbq, hFq⟩ := hp9
 replace hFq : FuncC (roFrom ro w28 w32) w32 csq9 (rename10 g F) := hFq.keep (fun b hb2 => ⟨hb2.1.elim .inl (fun h => .inr ⟨h, hb2.2⟩), rfl⟩)
 refine WA.conv (fuel' := 4 + 1) (listed' := #[true, true, true, true, true, true, true, true, true, true, false, false, false, false, false]) (by kernel_rfl) (by kernel_rfl) (WA.stepS 10 (by kernel_rfl) rfl ?_)
 have hlq : csq9.length = 1 * 4 := by obtain ⟨_, e, _⟩ := hFq; rw [e]; rfl
 refine WL.callF (vs := [v1, .slice (some ⟨bq, 0, none⟩) 1 1]) Tryd.func64 (by kernel_rfl) rfl rfl rfl (behindF_ret v1 fs.length xs1 csq9 bq hS hlq (one_func hFq) (cellsAt_block hbq) (by omega)) ?_
 rintro v9 w34 hS
 have hrow9 : w34.ownsRow w0.heap.size 35 4 v9 (fs.length + 1) _ := hS.rows _ List.mem_cons_self
 obtain ⟨adw, capw, rfl, _, _, _⟩ := row_shape hrow9
 clear hrow9
 refine WL.nil (N.restS trivial ?_)
 refine WA.conv (fuel' := 3 + 1) (listed' := #[true, true, true, true, true, true, true, true, true, true, true, false, false, false, false]) (by kernel_rfl) (by kernel_rfl) (WA.stepS 11 (by kernel_rfl) rfl ?_)
 refine WL.nilPtr rfl rfl rfl ?_
 refine WL.nil (N.restS trivial ?_)
 refine WA.conv (fuel' := 2 + 1) (listed' := #[true, true, true, true, true, true, true, true, true, true, true, true, false, false, false]) (by kernel_rfl) (by kernel_rfl) (WA.stepS 12 (by kernel_rfl) rfl ?_)
 refine WL.fieldAddr fo_74_2 rfl rfl rfl ?_
 refine WL.nil (N.restS trivial ?_)
 refine WA.conv (fuel' := 1 + 1) (listed' := #[true, true, true, true, true, true, true, true, true, true, true, true, true, false, false]) (by kernel_rfl) (by kernel_rfl) (WA.stepS 13 (by kernel_rfl) rfl ?_)
 refine WL.fieldAddr fo_32_0 rfl rfl rfl ?_
 refine WL.nil (N.restS trivial ?_)
 refine WA.conv (fuel' := 0 + 1) (listed' := #[true, true, true, true, true, true, true, true, true, true, true, true, true, true, false]) (by kernel_rfl) (by kernel_rfl) (WA.stepS 14 (by kernel_rfl) rfl ?_)
 refine WL.store (L' := ((b1, .cells #[.string f.name, .int .i64 f.bind, .int .i64 f.params, .slice adbF f.blocks.length capbF] 35 (0, 0)) :: (bm, .cells #[vd, vk, .slice adw (fs.length + 1) capw, v2, .map (some bd)] 74 (0, 0)) :: (bd, .map es ck) :: L)) 1 rfl rfl rfl rfl siz_29 rfl rfl rfl rfl rfl hS ?_
 clear hS; intro w35 hS
 refine WL.nil (N.restS trivial ?_)
 refine WA.doneN (by kernel_rfl) ?_
 refine Fin.end0 rfl ?_
 replace hS := hS.dropN 1
 rw [hfun]
 exact ⟨rfl, (roFrom ro w28 w32), w32, .slice adw (fs.length + 1) capw, _, es, ck, halT, hsub, hM.mono (by omega), hch.snoc (by obtain ⟨_, e, _⟩ := hFq; rw [e]; rfl) hFq, by show St _ _ _ _ _ (⟨_, _, _, (fs ++ [_]).length, _⟩ :: _); rw [List.length_append]; exact hS⟩

end Go.Proofs.YtapjejjmhmdmdaaDoor
