/-
  Contracts of layer 10 (merge). No condition beyond those that each theorem states.
-/
import Derived.Test.YtapjejjmhmdmdaaDoorZ9
namespace Go.Proofs.YtapjejjmhmdmdaaDoor
open Go.RowKit
theorem siz_30 : tySize Tryd.prog 30 1 = true := by kernel_rfl
theorem siz_4 : tySize Tryd.prog 4 1 = true := by kernel_rfl
theorem foldF_gs (ds : List DDef) (ks : List ByteArray) (i : Nat) (g : Ren) : ∀ (l : List DFunc) (s : S10), (l.foldl (fun10 ds ks i g) s).gs = s.gs
  | [], s => rfl
  | x :: l, s => by rw [List.foldl_cons, foldF_gs ds ks i g l, fun10_gs]
theorem foldG_fs (ds : List DDef) (ks : List ByteArray) (i : Nat) (g : Ren) : ∀ (l : List DGlob) (s : S10), (l.foldl (glob10 ds ks i g) s).fs = s.fs
  | [], s => rfl
  | x :: l, s => by rw [List.foldl_cons, foldG_fs ds ks i g l, glob10_fs]
theorem one_glob {c : List Value} {x : DGlob} (h : GlobC c x) : ∀ u ∈ c, u.oneCell' = true := by
  obtain ⟨e, _⟩ := h
  rw [e]; intro u hu
  simp only [List.mem_cons, List.not_mem_nil, or_false] at hu
  rcases hu with rfl | rfl | rfl | rfl <;> rfl

set_option maxRecDepth 10000 in
set_option maxHeartbeats 4000000 in
theorem mglob_ret {w0 ws w : World} {ro : Nat → Prop} {L : List (Nat × Obj)} {Rs : List Row} (bm bd : Nat) (vd vk v1 v2 : Value) (es : Array MapEntry) (ck c : Nat) (dn : ByteArray → Option Bool) (ds : List DDef) (ks : List ByteArray) (fs : List DFunc) (gs : List DGlob) (xs2 : List Value) (x : DGlob) (cf : List Value) (i : Nat) (g : Ren) (vm : Value) (hS : St w0 ws w ro ((bm, .cells #[vd, vk, v1, v2, .map (some bd)] 74 (0, 0)) :: (bd, .map es ck) :: L) (⟨v2, 38, 4, gs.length, xs2⟩ :: Rs)) (hM : MapG kS kB es ck c dn) (hd : SlV ro ws 5 DefC vd ds) (hk : SlV ro ws 1 StrC vk ks) (hch : Chunks 4 GlobC xs2 gs) (hx : GlobC cf x) (hm : MapC ro ws [vm] g) (hgs : ∀ s v, g s = some v → v.size ≤ maxLen) (hfl : gs.length + 1 ≤ 1000000) : Ret Tryd.prog 31 #[.pointer (some ⟨bm, 0, none⟩), .agg cf.toArray, .int .i64 (i : Int), vm] w fun v w' => v = .tuple #[] ∧ ∃ v2' xs2' es' ck', MapG kS kB es' ck' (c + 1) (glob10 ds ks i g ⟨fs, gs, dn⟩ x).done ∧ Chunks 4 GlobC xs2' (glob10 ds ks i g ⟨fs, gs, dn⟩ x).gs ∧ St w0 ws w' ro ((bm, .cells #[vd, vk, v1, v2', .map (some bd)] 74 (0, 0)) :: (bd, .map es' ck') :: L) (⟨v2', 38, 4, (glob10 ds ks i g ⟨fs, gs, dn⟩ x).gs.length, xs2'⟩ :: Rs) := by
 obtain ⟨rfl, hgn, hgb, hgi⟩ := hx
 refine Ret.enter (P := Tryd.prog) (n := 42) (args := [.pointer (some ⟨bm, 0, none⟩), .agg #[.string x.name, .int .i64 x.bind, .bool x.here, .int .u64 x.init], .int .i64 (i : Int), vm]) (σ := [(0, .pointer (some ⟨bm, 0, none⟩)), (1, .agg #[.string x.name, .int .i64 x.bind, .bool x.here, .int .u64 x.init]), (2, .int .i64 (i : Int)), (3, vm)]) Tryd.func31 rfl rfl rfl rfl ?_
 have hsub : ∀ b, ro b → ro b ∨ w0.heap.size ≤ b := fun _ h => .inl h
 refine W.seq (W.region ?_)
 refine WL.box (v := .agg #[.string x.name, .int .i64 x.bind, .bool x.here, .int .u64 x.init]) (cs := [.string x.name, .int .i64 x.bind, .bool x.here, .int .u64 x.init]) rfl rfl rfl rfl hS ?_
 clear hS; intro w2 b1 hb_b1 hS
 refine WL.nil (N.seq (W.seq (W.seq (W.region (WL.fieldAddr fo_38_1 rfl rfl rfl (WL.load1 (v := .int .i64 x.bind) one_3 rfl rfl rfl (hS.cell 0 rfl rfl) (WL.bin rfl rfl rfl rfl rfl (WL.nil (N.seq ?_)))))))))
 refine W.cond rfl (fun hc3 => ?_) (fun hc3 => ?_)
 ·
  have hc3p : ¬ (x.bind = 1) := by simpa using hc3
  refine W.seq (W.seq (W.region (WL.move rfl rfl rfl (WL.fieldAddr fo_38_0 rfl rfl rfl (WL.load1 (v := .string x.name) one_9 rfl rfl rfl (hS.cell 0 rfl rfl) (WL.move rfl rfl rfl (WL.fieldAddr fo_38_2 rfl rfl rfl (WL.load1 (v := .bool x.here) one_4 rfl rfl rfl (hS.cell 0 rfl rfl) ?_))))))))
  replace hS : St w0 ws w2 ro ((bm, .cells #[vd, vk, v1, v2, .map (some bd)] 74 (0, 0)) :: (bd, .map es ck) :: (b1, .cells #[.string x.name, .int .i64 x.bind, .bool x.here, .int .u64 x.init] 38 (0, 0)) :: L) (⟨v2, 38, 4, gs.length, xs2⟩ :: Rs) := hS.perm (((List.Perm.swap _ _ _)).trans ((List.Perm.cons _ (List.Perm.swap _ _ _))))
  refine WL.callF (vs := [.pointer (some ⟨bm, 0, none⟩), .string x.name, .int .i64 (i : Int), .bool x.here]) Tryd.func61 (by kernel_rfl) rfl rfl rfl (wants_ret bm bd vd vk v1 v2 es ck c dn ds ks x.name (i : Int) x.here hS hM hd) ?_
  rintro v w4 ⟨rfl, es2, ck2, hM2, hS⟩
  refine WL.not rfl rfl rfl (WL.nil (N.seq ?_))
  refine W.cond rfl (fun hc5 => ?_) (fun hc5 => ?_)
  ·
   refine Fin.ret0 rfl ?_
   replace hS : St w0 ws w4 ro ((b1, .cells #[.string x.name, .int .i64 x.bind, .bool x.here, .int .u64 x.init] 38 (0, 0)) :: (bm, .cells #[vd, vk, v1, v2, .map (some bd)] 74 (0, 0)) :: (bd, .map es2 ck2) :: L) (⟨v2, 38, 4, gs.length, xs2⟩ :: Rs) := hS.perm (((List.Perm.cons _ (List.Perm.swap _ _ _))).trans ((List.Perm.swap _ _ _)))
   replace hS := hS.dropN 1
   have hbd1 : ¬ x.bind = 1 := by simpa using hc3p
   have hww : ¬ wants10 ds dn x.name (i : Int) x.here = true := by simpa using hc5
   rw [if_neg hww] at hM2
   have hfun : glob10 ds ks i g ⟨fs, gs, dn⟩ x = ⟨fs, gs, dn⟩ := by unfold glob10; rw [if_neg hbd1, if_neg hww]
   rw [hfun]
   exact ⟨rfl, v2, xs2, es2, ck2, hM2, hch, hS⟩
  refine W.skip (N.seq (W.region (WL.move rfl rfl rfl (WL.fieldAddr fo_38_0 rfl rfl rfl (WL.load1 (v := .string x.name) one_9 rfl rfl rfl (hS.cell 2 rfl rfl) ?_)))))
  have hbm9 := (hS.keys bm (by simp [keysOf])).2.1
  refine WL.callF (vs := [.pointer (some ⟨bm, 0, none⟩), .string x.name]) Tryd.func62 (by kernel_rfl) rfl rfl rfl (mbind_ret bm vd vk v1 v2 (.map (some bd)) ks x.name (ro := fun z => z < w4.heap.size) (fun _ h => h) hbm9 (hS.cells 0 (m := 5) rfl rfl) (SlV.keep hk (fun z hz => ⟨(hS.snap z hz).1, (hS.snap z hz).2⟩) (fun _ _ q => q))) ?_
  rintro v w6 ⟨rfl, hbl⟩
  replace hS := hS.grow hbl
  refine WL.fieldAddr fo_38_1 rfl rfl rfl ?_
  refine WL.store (L' := ((bm, .cells #[vd, vk, v1, v2, .map (some bd)] 74 (0, 0)) :: (bd, .map es2 ck2) :: (b1, .cells #[.string x.name, .int .i64 (bind10 ks x.name), .bool x.here, .int .u64 x.init] 38 (0, 0)) :: L)) 2 rfl rfl rfl rfl siz_3 rfl rfl rfl rfl rfl hS ?_
  clear hS; intro w7 hS
  refine WL.fieldAddr fo_38_2 rfl rfl rfl ?_
  refine WL.store (L' := ((bm, .cells #[vd, vk, v1, v2, .map (some bd)] 74 (0, 0)) :: (bd, .map es2 ck2) :: (b1, .cells #[.string x.name, .int .i64 (bind10 ks x.name), .bool true, .int .u64 x.init] 38 (0, 0)) :: L)) 2 rfl rfl rfl rfl siz_4 rfl rfl rfl rfl rfl hS ?_
  clear hS; intro w8 hS
  refine WL.nil (N.seq (W.seq ?_))
  have hbd1 : ¬ x.bind = 1 := by simpa using hc3p
  have hww : wants10 ds dn x.name (i : Int) x.here = true := by simpa using hc5
  rw [if_pos hww] at hM2
  obtain ⟨X, hX0⟩ : ∃ X, X = renG g (defG ks x) := ⟨_, rfl⟩
  have hfun : glob10 ds ks i g ⟨fs, gs, dn⟩ x = ⟨fs, gs ++ [X], updG dn x.name true⟩ := by unfold glob10; rw [if_neg hbd1, if_pos hww, hX0]
  refine W.region (WL.move rfl rfl rfl (WL.fieldAddr fo_38_0 rfl rfl rfl (WL.load1 (v := .string x.name) one_9 rfl rfl rfl (hS.cell 2 rfl rfl) ?_)))
  refine WL.callF (vs := [vm, .string x.name]) Tryd.func66 (by kernel_rfl) rfl rfl rfl (of_ret g vm x.name (ro := ro) (fun b hb => (hS.snap b hb).1) (hm.keep hS.alike)) ?_
  rintro v w9 ⟨rfl, hbl⟩
  replace hS := hS.grow hbl
  refine WL.fieldAddr fo_38_0 rfl rfl rfl ?_
  refine WL.store (L' := ((bm, .cells #[vd, vk, v1, v2, .map (some bd)] 74 (0, 0)) :: (bd, .map es2 ck2) :: (b1, .cells #[.string (ren10 g x.name), .int .i64 (bind10 ks x.name), .bool true, .int .u64 x.init] 38 (0, 0)) :: L)) 2 rfl rfl rfl rfl siz_9 rfl rfl rfl rfl rfl hS ?_
  clear hS; intro w10 hS
  refine WL.nil (N.seq ?_)
  refine W.drawA0 (S := fun u => True) (by kernel_rfl) (fun w11 hbd => ?_)
  replace hS := hS.grow hbd
  refine WA.conv (fuel' := 12 + 1) (listed' := #[false, false, false, false, false, false, false, false, false, false, false, false, false]) (by kernel_rfl) (by kernel_rfl) (WA.take 0 (v := .pointer (some ⟨bm, 0, none⟩)) rfl rfl (by kernel_rfl) (by kernel_rfl) (by kernel_rfl) (fin_no_panic _) rfl (exec_move rfl) trivial ?_)
  refine WA.conv (fuel' := 7 + 5) (listed' := #[true, false, false, false, false, false, false, false, false, false, false, false, false]) (by kernel_rfl) (by kernel_rfl) (WA.phaseI [(1, (fun v _ => v = .pointer (some ⟨bm, 0, none⟩))), (2, (fun v _ => v = .pointer (some ⟨bm, 0, none⟩))), (3, (fun v _ => v = .pointer (some ⟨bm, 2, none⟩))), (4, (fun v _ => v = .pointer (some ⟨bm, 3, none⟩))), (5, (fun v _ => v = v2)), (6, (fun v _ => v = .agg #[.string (ren10 g x.name), .int .i64 (bind10 ks x.name), .bool true, .int .u64 x.init])), (7, (fun v u => ∃ b, v = .slice (some ⟨b, 0, none⟩) 1 1 ∧ u.heap[b]? = some (.cells [.string (ren10 g x.name), .int .i64 (bind10 ks x.name), .bool true, .int .u64 x.init].toArray 38 (0, 0))))] (by kernel_rfl) [(0, .pointer (some ⟨bm, 0, none⟩)), (5, .pointer (some ⟨b1, 0, none⟩)), (30, .pointer (some ⟨bm, 0, none⟩))] ⟨rfl, rfl, rfl, trivial⟩ (by kernel_rfl) ⟨stays_eq, stays_eq, stays_eq, stays_eq, stays_eq, stays_eq, (fun v u u2 h hb => h.elim fun b h => ⟨b, h.1, (hb.block b (Array.getElem?_eq_some_iff.1 h.2).1).trans h.2⟩), trivial⟩ ?_ (fun _ _ => trivial) ?_)
  ·
   refine ⟨fun β wd hb hD => ⟨_, rfl, ?_⟩, ?_⟩
   ·
    refine WL.sub (σ' := [(0, .pointer (some ⟨bm, 0, none⟩))]) ⟨rfl, trivial⟩ ?_
    have hS := hS.grow hb
    refine WL.move rfl rfl rfl ?_
    exact WL.nil (N.cut (.pointer (some ⟨bm, 0, none⟩)) ⟨rfl, trivial⟩ ⟨(Below.refl _ _), rfl⟩)
   refine ⟨fun β wd hb hD => ⟨_, rfl, ?_⟩, ?_⟩
   ·
    obtain ⟨hp1, _⟩ := hD
    replace hp1 : β 1 = .pointer (some ⟨bm, 0, none⟩) := hp1
    refine WL.sub (σ' := [(31, .pointer (some ⟨bm, 0, none⟩))]) ⟨congrArg some hp1, trivial⟩ ?_
    have hS := hS.grow hb
    refine WL.nilPtr rfl rfl rfl ?_
    exact WL.nil (N.cut (.pointer (some ⟨bm, 0, none⟩)) ⟨rfl, trivial⟩ ⟨(Below.refl _ _), rfl⟩)
   refine ⟨fun β wd hb hD => ⟨_, rfl, ?_⟩, ?_⟩
   ·
    obtain ⟨hp2, _⟩ := hD
    replace hp2 : β 2 = .pointer (some ⟨bm, 0, none⟩) := hp2
    refine WL.sub (σ' := [(32, .pointer (some ⟨bm, 0, none⟩))]) ⟨congrArg some hp2, trivial⟩ ?_
    have hS := hS.grow hb
    refine WL.fieldAddr fo_74_2 rfl rfl rfl ?_
    exact WL.nil (N.cut (.pointer (some ⟨bm, 2, none⟩)) ⟨rfl, trivial⟩ ⟨(Below.refl _ _), rfl⟩)
   refine ⟨fun β wd hb hD => ⟨_, rfl, ?_⟩, ?_⟩
   ·
    obtain ⟨hp3, _⟩ := hD
    replace hp3 : β 3 = .pointer (some ⟨bm, 2, none⟩) := hp3
    refine WL.sub (σ' := [(33, .pointer (some ⟨bm, 2, none⟩))]) ⟨congrArg some hp3, trivial⟩ ?_
    have hS := hS.grow hb
    refine WL.fieldAddr fo_32_1 rfl rfl rfl ?_
    exact WL.nil (N.cut (.pointer (some ⟨bm, 3, none⟩)) ⟨rfl, trivial⟩ ⟨(Below.refl _ _), rfl⟩)
   refine ⟨fun β wd hb hD => ⟨_, rfl, ?_⟩, ?_⟩
   ·
    obtain ⟨hp4, _⟩ := hD
    replace hp4 : β 4 = .pointer (some ⟨bm, 3, none⟩) := hp4
    refine WL.sub (σ' := [(34, .pointer (some ⟨bm, 3, none⟩))]) ⟨congrArg some hp4, trivial⟩ ?_
    have hS := hS.grow hb
    refine WL.load1 (v := v2) one_30 rfl rfl rfl (hS.cell 0 rfl rfl) ?_
    exact WL.nil (N.cut v2 ⟨rfl, trivial⟩ ⟨(Below.refl _ _), rfl⟩)
   refine ⟨fun β wd hb hD => ⟨_, rfl, ?_⟩, ?_⟩
   ·
    refine WL.sub (σ' := [(5, .pointer (some ⟨b1, 0, none⟩))]) ⟨rfl, trivial⟩ ?_
    have hS := hS.grow hb
    refine WL.loadN (cs := [.string (ren10 g x.name), .int .i64 (bind10 ks x.name), .bool true, .int .u64 x.init]) agg_38 rfl rfl rfl rfl (hS.cells 2 (m := 4) rfl rfl) ?_
    exact WL.nil (N.cut (.agg #[.string (ren10 g x.name), .int .i64 (bind10 ks x.name), .bool true, .int .u64 x.init]) ⟨rfl, trivial⟩ ⟨(Below.refl _ _), rfl⟩)
   refine ⟨fun β wd hb hD => ⟨_, rfl, ?_⟩, ?_⟩
   ·
    obtain ⟨hp6, _⟩ := hD
    replace hp6 : β 6 = .agg #[.string (ren10 g x.name), .int .i64 (bind10 ks x.name), .bool true, .int .u64 x.init] := hp6
    refine WL.sub (σ' := [(36, .agg #[.string (ren10 g x.name), .int .i64 (bind10 ks x.name), .bool true, .int .u64 x.init])]) ⟨congrArg some hp6, trivial⟩ ?_
    have hS := hS.grow hb
    have hX := St.start (w := wd) (ro := fun z => z < wd.heap.size) (fun _ h => h)
    refine WL.buildSlice (ps := [(0, .agg #[.string (ren10 g x.name), .int .i64 (bind10 ks x.name), .bool true, .int .u64 x.init])]) (cs := [.string (ren10 g x.name), .int .i64 (bind10 ks x.name), .bool true, .int .u64 x.init]) Tryd.underlying30 (tyZero_spec zer_38) rfl rfl rfl rfl (by kernel_rfl) hX ?_
    clear hX; intro w13 b12 hb_b12 hX
    exact WL.nil (N.cut (.slice (some ⟨b12, 0, none⟩) 1 1) ⟨rfl, trivial⟩ ⟨hX.below, ⟨_, rfl, hX.own _ List.mem_cons_self⟩⟩)
   trivial
  intro β w14 hb hD
  obtain ⟨hp1, hp2, hp3, hp4, hp5, hp6, hp7, _⟩ := hD
  refine WA.sub (σ' := [(30, .pointer (some ⟨bm, 0, none⟩)), (35, v2), (37, (β 7))]) ⟨rfl, congrArg some (show β 5 = v2 from hp5), rfl, trivial⟩ ?_
  have hSd := hS
  replace hS := hS.grow hb
  replace hp7 : (fun v u => ∃ b, v = .slice (some ⟨b, 0, none⟩) 1 1 ∧ u.heap[b]? = some (.cells [.string (ren10 g x.name), .int .i64 (bind10 ks x.name), .bool true, .int .u64 x.init].toArray 38 (0, 0))) (β 7) w14 := hp7
  generalize β 7 = z7 at hp7 ⊢
  obtain ⟨bq, rfl, hbq⟩ := hp7
  have hgc : GlobC [.string (ren10 g x.name), .int .i64 (bind10 ks x.name), .bool true, .int .u64 x.init] X := by rw [hX0]; exact ⟨rfl, ren10_size hgs hgn, bind10_in ks x.name, hgi⟩
  refine WA.conv (fuel' := 4 + 1) (listed' := #[true, true, true, true, true, true, true, true, false, false, false, false, false]) (by kernel_rfl) (by kernel_rfl) (WA.stepS 8 (by kernel_rfl) rfl ?_)
  refine WL.callF (vs := [v2, .slice (some ⟨bq, 0, none⟩) 1 1]) Tryd.func67 (by kernel_rfl) rfl rfl rfl (behindG_ret v2 gs.length xs2 _ bq hS (by rfl) (one_glob hgc) (cellsAt_block hbq) (by omega)) ?_
  rintro v9 w15 hS
  have hrow9 : w15.ownsRow w0.heap.size 38 4 v9 (gs.length + 1) _ := hS.rows _ List.mem_cons_self
  obtain ⟨adw, capw, rfl, _, _, _⟩ := row_shape hrow9
  clear hrow9
  refine WL.nil (N.restS trivial ?_)
  refine WA.conv (fuel' := 3 + 1) (listed' := #[true, true, true, true, true, true, true, true, true, false, false, false, false]) (by kernel_rfl) (by kernel_rfl) (WA.stepS 9 (by kernel_rfl) rfl ?_)
  refine WL.nilPtr rfl rfl rfl ?_
  refine WL.nil (N.restS trivial ?_)
  refine WA.conv (fuel' := 2 + 1) (listed' := #[true, true, true, true, true, true, true, true, true, true, false, false, false]) (by kernel_rfl) (by kernel_rfl) (WA.stepS 10 (by kernel_rfl) rfl ?_)
  refine WL.fieldAddr fo_74_2 rfl rfl rfl ?_
  refine WL.nil (N.restS trivial ?_)
  refine WA.conv (fuel' := 1 + 1) (listed' := #[true, true, true, true, true, true, true, true, true, true, true, false, false]) (by kernel_rfl) (by kernel_rfl) (WA.stepS 11 (by kernel_rfl) rfl ?_)
  refine WL.fieldAddr fo_32_1 rfl rfl rfl ?_
  refine WL.nil (N.restS trivial ?_)
  refine WA.conv (fuel' := 0 + 1) (listed' := #[true, true, true, true, true, true, true, true, true, true, true, true, false]) (by kernel_rfl) (by kernel_rfl) (WA.stepS 12 (by kernel_rfl) rfl ?_)
  refine WL.store (L' := ((bm, .cells #[vd, vk, v1, .slice adw (gs.length + 1) capw, .map (some bd)] 74 (0, 0)) :: (bd, .map es2 ck2) :: (b1, .cells #[.string (ren10 g x.name), .int .i64 (bind10 ks x.name), .bool true, .int .u64 x.init] 38 (0, 0)) :: L)) 0 rfl rfl rfl rfl siz_30 rfl rfl rfl rfl rfl hS ?_
  clear hS; intro w16 hS
  refine WL.nil (N.restS trivial ?_)
  refine WA.doneN (by kernel_rfl) ?_
  refine Fin.end0 rfl ?_
  replace hS : St w0 ws w16 ro ((b1, .cells #[.string (ren10 g x.name), .int .i64 (bind10 ks x.name), .bool true, .int .u64 x.init] 38 (0, 0)) :: (bm, .cells #[vd, vk, v1, .slice adw (gs.length + 1) capw, .map (some bd)] 74 (0, 0)) :: (bd, .map es2 ck2) :: L) (⟨.slice adw (gs.length + 1) capw, 38, 4, gs.length + 1, xs2 ++ [.string (ren10 g x.name), .int .i64 (bind10 ks x.name), .bool true, .int .u64 x.init]⟩ :: Rs) := hS.perm (((List.Perm.cons _ (List.Perm.swap _ _ _))).trans ((List.Perm.swap _ _ _)))
  replace hS := hS.dropN 1
  rw [hfun]
  exact ⟨rfl, .slice adw (gs.length + 1) capw, _, es2, ck2, hM2, hch.snoc rfl hgc, by show St _ _ _ _ _ (⟨_, _, _, (gs ++ [_]).length, _⟩ :: _); rw [List.length_append]; exact hS⟩
 have hc3p : x.bind = 1 := by simpa using hc3
 refine W.skip (N.seq (W.seq ?_))
 have hbd1 : x.bind = 1 := by simpa using hc3p
 obtain ⟨X, hX0⟩ : ∃ X, X = renG g x := ⟨_, rfl⟩
 have hfun : glob10 ds ks i g ⟨fs, gs, dn⟩ x = ⟨fs, gs ++ [X], dn⟩ := by unfold glob10; rw [if_pos hbd1, hX0]
 refine W.region (WL.move rfl rfl rfl (WL.fieldAddr fo_38_0 rfl rfl rfl (WL.load1 (v := .string x.name) one_9 rfl rfl rfl (hS.cell 0 rfl rfl) ?_)))
 refine WL.callF (vs := [vm, .string x.name]) Tryd.func66 (by kernel_rfl) rfl rfl rfl (of_ret g vm x.name (ro := ro) (fun b hb => (hS.snap b hb).1) (hm.keep hS.alike)) ?_
 rintro v w17 ⟨rfl, hbl⟩
 replace hS := hS.grow hbl
 refine WL.fieldAddr fo_38_0 rfl rfl rfl ?_
 refine WL.store (L' := ((b1, .cells #[.string (ren10 g x.name), .int .i64 x.bind, .bool x.here, .int .u64 x.init] 38 (0, 0)) :: (bm, .cells #[vd, vk, v1, v2, .map (some bd)] 74 (0, 0)) :: (bd, .map es ck) :: L)) 0 rfl rfl rfl rfl siz_9 rfl rfl rfl rfl rfl hS ?_
 clear hS; intro w18 hS
 refine WL.nil (N.seq ?_)
 refine W.drawA0 (S := fun u => True) (by kernel_rfl) (fun w19 hbd => ?_)
 replace hS := hS.grow hbd
 refine WA.conv (fuel' := 12 + 1) (listed' := #[false, false, false, false, false, false, false, false, false, false, false, false, false]) (by kernel_rfl) (by kernel_rfl) (WA.take 0 (v := .pointer (some ⟨bm, 0, none⟩)) rfl rfl (by kernel_rfl) (by kernel_rfl) (by kernel_rfl) (fin_no_panic _) rfl (exec_move rfl) trivial ?_)
 refine WA.conv (fuel' := 7 + 5) (listed' := #[true, false, false, false, false, false, false, false, false, false, false, false, false]) (by kernel_rfl) (by kernel_rfl) (WA.phaseI [(1, (fun v _ => v = .pointer (some ⟨bm, 0, none⟩))), (2, (fun v _ => v = .pointer (some ⟨bm, 0, none⟩))), (3, (fun v _ => v = .pointer (some ⟨bm, 2, none⟩))), (4, (fun v _ => v = .pointer (some ⟨bm, 3, none⟩))), (5, (fun v _ => v = v2)), (6, (fun v _ => v = .agg #[.string (ren10 g x.name), .int .i64 x.bind, .bool x.here, .int .u64 x.init])), (7, (fun v u => ∃ b, v = .slice (some ⟨b, 0, none⟩) 1 1 ∧ u.heap[b]? = some (.cells [.string (ren10 g x.name), .int .i64 x.bind, .bool x.here, .int .u64 x.init].toArray 38 (0, 0))))] (by kernel_rfl) [(0, .pointer (some ⟨bm, 0, none⟩)), (5, .pointer (some ⟨b1, 0, none⟩)), (30, .pointer (some ⟨bm, 0, none⟩))] ⟨rfl, rfl, rfl, trivial⟩ (by kernel_rfl) ⟨stays_eq, stays_eq, stays_eq, stays_eq, stays_eq, stays_eq, (fun v u u2 h hb => h.elim fun b h => ⟨b, h.1, (hb.block b (Array.getElem?_eq_some_iff.1 h.2).1).trans h.2⟩), trivial⟩ ?_ (fun _ _ => trivial) ?_)
 ·
  refine ⟨fun β wd hb hD => ⟨_, rfl, ?_⟩, ?_⟩
  ·
   refine WL.sub (σ' := [(0, .pointer (some ⟨bm, 0, none⟩))]) ⟨rfl, trivial⟩ ?_
   have hS := hS.grow hb
   refine WL.move rfl rfl rfl ?_
   exact WL.nil (N.cut (.pointer (some ⟨bm, 0, none⟩)) ⟨rfl, trivial⟩ ⟨(Below.refl _ _), rfl⟩)
  refine ⟨fun β wd hb hD => ⟨_, rfl, ?_⟩, ?_⟩
  ·
   obtain ⟨hp1, _⟩ := hD
   replace hp1 : β 1 = .pointer (some ⟨bm, 0, none⟩) := hp1
   refine WL.sub (σ' := [(31, .pointer (some ⟨bm, 0, none⟩))]) ⟨congrArg some hp1, trivial⟩ ?_
   have hS := hS.grow hb
   refine WL.nilPtr rfl rfl rfl ?_
   exact WL.nil (N.cut (.pointer (some ⟨bm, 0, none⟩)) ⟨rfl, trivial⟩ ⟨(Below.refl _ _), rfl⟩)
  refine ⟨fun β wd hb hD => ⟨_, rfl, ?_⟩, ?_⟩
  ·
   obtain ⟨hp2, _⟩ := hD
   replace hp2 : β 2 = .pointer (some ⟨bm, 0, none⟩) := hp2
   refine WL.sub (σ' := [(32, .pointer (some ⟨bm, 0, none⟩))]) ⟨congrArg some hp2, trivial⟩ ?_
   have hS := hS.grow hb
   refine WL.fieldAddr fo_74_2 rfl rfl rfl ?_
   exact WL.nil (N.cut (.pointer (some ⟨bm, 2, none⟩)) ⟨rfl, trivial⟩ ⟨(Below.refl _ _), rfl⟩)
  refine ⟨fun β wd hb hD => ⟨_, rfl, ?_⟩, ?_⟩
  ·
   obtain ⟨hp3, _⟩ := hD
   replace hp3 : β 3 = .pointer (some ⟨bm, 2, none⟩) := hp3
   refine WL.sub (σ' := [(33, .pointer (some ⟨bm, 2, none⟩))]) ⟨congrArg some hp3, trivial⟩ ?_
   have hS := hS.grow hb
   refine WL.fieldAddr fo_32_1 rfl rfl rfl ?_
   exact WL.nil (N.cut (.pointer (some ⟨bm, 3, none⟩)) ⟨rfl, trivial⟩ ⟨(Below.refl _ _), rfl⟩)
  refine ⟨fun β wd hb hD => ⟨_, rfl, ?_⟩, ?_⟩
  ·
   obtain ⟨hp4, _⟩ := hD
   replace hp4 : β 4 = .pointer (some ⟨bm, 3, none⟩) := hp4
   refine WL.sub (σ' := [(34, .pointer (some ⟨bm, 3, none⟩))]) ⟨congrArg some hp4, trivial⟩ ?_
   have hS := hS.grow hb
   refine WL.load1 (v := v2) one_30 rfl rfl rfl (hS.cell 1 rfl rfl) ?_
   exact WL.nil (N.cut v2 ⟨rfl, trivial⟩ ⟨(Below.refl _ _), rfl⟩)
  refine ⟨fun β wd hb hD => ⟨_, rfl, ?_⟩, ?_⟩
  ·
   refine WL.sub (σ' := [(5, .pointer (some ⟨b1, 0, none⟩))]) ⟨rfl, trivial⟩ ?_
   have hS := hS.grow hb
   refine WL.loadN (cs := [.string (ren10 g x.name), .int .i64 x.bind, .bool x.here, .int .u64 x.init]) agg_38 rfl rfl rfl rfl (hS.cells 0 (m := 4) rfl rfl) ?_
   exact WL.nil (N.cut (.agg #[.string (ren10 g x.name), .int .i64 x.bind, .bool x.here, .int .u64 x.init]) ⟨rfl, trivial⟩ ⟨(Below.refl _ _), rfl⟩)
  refine ⟨fun β wd hb hD => ⟨_, rfl, ?_⟩, ?_⟩
  ·
   obtain ⟨hp6, _⟩ := hD
   replace hp6 : β 6 = .agg #[.string (ren10 g x.name), .int .i64 x.bind, .bool x.here, .int .u64 x.init] := hp6
   refine WL.sub (σ' := [(36, .agg #[.string (ren10 g x.name), .int .i64 x.bind, .bool x.here, .int .u64 x.init])]) ⟨congrArg some hp6, trivial⟩ ?_
   have hS := hS.grow hb
   have hX := St.start (w := wd) (ro := fun z => z < wd.heap.size) (fun _ h => h)
   refine WL.buildSlice (ps := [(0, .agg #[.string (ren10 g x.name), .int .i64 x.bind, .bool x.here, .int .u64 x.init])]) (cs := [.string (ren10 g x.name), .int .i64 x.bind, .bool x.here, .int .u64 x.init]) Tryd.underlying30 (tyZero_spec zer_38) rfl rfl rfl rfl (by kernel_rfl) hX ?_
   clear hX; intro w21 b20 hb_b20 hX
   exact WL.nil (N.cut (.slice (some ⟨b20, 0, none⟩) 1 1) ⟨rfl, trivial⟩ ⟨hX.below, ⟨_, rfl, hX.own _ List.mem_cons_self⟩⟩)
  trivial
 intro β w22 hb hD
 obtain ⟨hp1, hp2, hp3, hp4, hp5, hp6, hp7, _⟩ := hD
 refine WA.sub (σ' := [(30, .pointer (some ⟨bm, 0, none⟩)), (35, v2), (37, (β 7))]) ⟨rfl, congrArg some (show β 5 = v2 from hp5), rfl, trivial⟩ ?_
 have hSd := hS
 replace hS := hS.grow hb
 replace hp7 : (fun v u => ∃ b, v = .slice (some ⟨b, 0, none⟩) 1 1 ∧ u.heap[b]? = some (.cells [.string (ren10 g x.name), .int .i64 x.bind, .bool x.here, .int .u64 x.init].toArray 38 (0, 0))) (β 7) w22 := hp7
 generalize β 7 = z7 at hp7 ⊢
 obtain ⟨bq, rfl, hbq⟩ := hp7
 have hgc : GlobC [.string (ren10 g x.name), .int .i64 x.bind, .bool x.here, .int .u64 x.init] X := by rw [hX0]; exact ⟨rfl, ren10_size hgs hgn, hgb, hgi⟩
 refine WA.conv (fuel' := 4 + 1) (listed' := #[true, true, true, true, true, true, true, true, false, false, false, false, false]) (by kernel_rfl) (by kernel_rfl) (WA.stepS 8 (by kernel_rfl) rfl ?_)
 refine WL.callF (vs := [v2, .slice (some ⟨bq, 0, none⟩) 1 1]) Tryd.func67 (by kernel_rfl) rfl rfl rfl (behindG_ret v2 gs.length xs2 _ bq hS (by rfl) (one_glob hgc) (cellsAt_block hbq) (by omega)) ?_
 rintro v9 w23 hS
 have hrow9 : w23.ownsRow w0.heap.size 38 4 v9 (gs.length + 1) _ := hS.rows _ List.mem_cons_self
 obtain ⟨adw, capw, rfl, _, _, _⟩ := row_shape hrow9
 clear hrow9
 refine WL.nil (N.restS trivial ?_)
 refine WA.conv (fuel' := 3 + 1) (listed' := #[true, true, true, true, true, true, true, true, true, false, false, false, false]) (by kernel_rfl) (by kernel_rfl) (WA.stepS 9 (by kernel_rfl) rfl ?_)
 refine WL.nilPtr rfl rfl rfl ?_
 refine WL.nil (N.restS trivial ?_)
 refine WA.conv (fuel' := 2 + 1) (listed' := #[true, true, true, true, true, true, true, true, true, true, false, false, false]) (by kernel_rfl) (by kernel_rfl) (WA.stepS 10 (by kernel_rfl) rfl ?_)
 refine WL.fieldAddr fo_74_2 rfl rfl rfl ?_
 refine WL.nil (N.restS trivial ?_)
 refine WA.conv (fuel' := 1 + 1) (listed' := #[true, true, true, true, true, true, true, true, true, true, true, false, false]) (by kernel_rfl) (by kernel_rfl) (WA.stepS 11 (by kernel_rfl) rfl ?_)
 refine WL.fieldAddr fo_32_1 rfl rfl rfl ?_
 refine WL.nil (N.restS trivial ?_)
 refine WA.conv (fuel' := 0 + 1) (listed' := #[true, true, true, true, true, true, true, true, true, true, true, true, false]) (by kernel_rfl) (by kernel_rfl) (WA.stepS 12 (by kernel_rfl) rfl ?_)
 refine WL.store (L' := ((b1, .cells #[.string (ren10 g x.name), .int .i64 x.bind, .bool x.here, .int .u64 x.init] 38 (0, 0)) :: (bm, .cells #[vd, vk, v1, .slice adw (gs.length + 1) capw, .map (some bd)] 74 (0, 0)) :: (bd, .map es ck) :: L)) 1 rfl rfl rfl rfl siz_30 rfl rfl rfl rfl rfl hS ?_
 clear hS; intro w24 hS
 refine WL.nil (N.restS trivial ?_)
 refine WA.doneN (by kernel_rfl) ?_
 refine Fin.end0 rfl ?_
 replace hS := hS.dropN 1
 rw [hfun]
 exact ⟨rfl, .slice adw (gs.length + 1) capw, _, es, ck, hM.mono (by omega), hch.snoc rfl hgc, by show St _ _ _ _ _ (⟨_, _, _, (gs ++ [_]).length, _⟩ :: _); rw [List.length_append]; exact hS⟩

end Go.Proofs.YtapjejjmhmdmdaaDoor
