/-
  Contracts of layer 10 (merge). No condition beyond those that each theorem states.
-/
import Derived.Test.YtapjejjmhmdmdaaDoorZ10
import Derived.Test.YtapjejjmhmdmdaaDoorP4
namespace Go.Proofs.YtapjejjmhmdmdaaDoor
open Go.RowKit
theorem isz_40 : (Tryd.prog.info? 40).map (·.size) = some 1 := by kernel_rfl
theorem siz_62 : tySize Tryd.prog 62 1 = true := by kernel_rfl
theorem zer_62 : tyZero Tryd.prog 62 = some [.slice none 0 0] := by kernel_rfl
theorem ixStr_ret {q : Nat} {fnq : Func} {caps : Array Value} (g : List (ByteArray)) (p : (ByteArray) → Bool) (vx : Value) {w : World} {ro : Nat → Prop} (hro : ∀ b, ro b → b < w.heap.size) (hx : SlV ro w 1 StrC vx g) (hf : Tryd.prog.funcs[q]? = some fnq) (hfb : (fnq.body.isSome && !(fnq.name == "runtime.NumGoroutine")) = true) (hp : ∀ (x : ByteArray) (u : World), x ∈ g → Below w.heap.size w u → Ret Tryd.prog q (#[.string x] ++ caps) u fun v u2 => v = .bool (p x) ∧ Below u.heap.size u u2) : Ret Tryd.prog 60 #[vx, .func (.func q) #[] caps] w fun v w' => v = .int .i64 (ixI p g) ∧ Below w.heap.size w w' := by
 obtain ⟨ad, cap, rfl, haa, hab, hac, had⟩ := id hx
 have ham : g.length ≤ 9223372036854775807 := by have h1 := haa; have h2 := hab; unfold maxLen at h2; omega
 refine Ret.enter (P := Tryd.prog) (n := 19) (args := [.slice ad g.length cap, .func (.func q) #[] caps]) (σ := [(0, .slice ad g.length cap), (1, .func (.func q) #[] caps)]) Tryd.func60 rfl rfl rfl rfl ?_
 have hS := St.start (ro := ro) hro
 refine W.seq (W.region (WL.assign rfl rfl rfl (WL.nil (N.seq (W.seq (W.seq (W.region (WL.move rfl rfl rfl (WL.lenSlice Tryd.underlying25 rfl rfl rfl ?_)))))))))
 refine WL.move rfl rfl rfl (WL.nil (N.seq (W.block ?_)))
 refine W.loop (α := Nat) (fun (k : Nat) => [(0, .slice ad g.length cap), (1, .func (.func q) #[] caps), (7, .int .i64 (g.length : Int)), (8, .int .i64 (k : Int))]) (fun (k : Nat) u => St w w u ro [] [] ∧ k ≤ g.length ∧ (g.take k).findIdx? p = none) (fun (k : Nat) => g.length - k) 0 ⟨rfl, rfl, rfl, rfl, trivial⟩ ⟨hS, Nat.zero_le _, rfl⟩ ?_
 clear hS
 rintro k w1 ⟨hS, hk, hno⟩
 refine W.seq (W.region (WL.bin rfl rfl rfl rfl rfl (WL.nil (N.seq (W.seq ?_)))))
 refine W.cond rfl (fun hc2 => ?_) (fun hc2 => ?_)
 ·
  have hc2p : (k : Int) < (g.length : Int) := by simpa using hc2
  refine W.skip (N.seq (W.seq (W.block (W.seq (W.region (WL.move rfl rfl rfl (WL.assign rfl rfl rfl (WL.nil (N.seq ?_)))))))))
  refine W.seq (W.region (WL.move rfl rfl rfl (WL.move rfl rfl rfl (WL.move rfl rfl rfl ?_))))
  have hj3 : k < g.length := by omega
  obtain ⟨x3, hx3⟩ : ∃ zz, g[k]? = some zz := ⟨_, List.getElem?_eq_getElem hj3⟩
  obtain ⟨b3, o3, cs3, hE3, hr3, hl3, hc3, hQ3⟩ := had k _ hx3
  obtain ⟨rfl, hsz3⟩ := hQ3
  refine WL.indexAddrE (j := k) Tryd.underlying25 isz_9 rfl rfl rfl rfl hj3 hE3 (WL.load1 (v := .string x3) one_9 rfl rfl rfl (hS.roCells hr3 hc3 0 _ rfl) ?_)
  refine WL.callV (vs := [.string x3]) (cs := caps) hf hfb rfl rfl rfl rfl (hp x3 _ (List.mem_of_getElem? hx3) hS.below) ?_
  rintro v w4 ⟨rfl, hbl⟩
  replace hS := hS.grow hbl
  refine WL.nil (N.seq ?_)
  refine W.cond rfl (fun hc5 => ?_) (fun hc5 => ?_)
  ·
   refine W.seq (W.region (WL.move rfl rfl rfl (WL.assign rfl rfl rfl (WL.nil (N.seq ?_)))))
   refine Fin.ret1 rfl (v := .int .i64 (k : Int)) rfl ?_
   exact ⟨by rw [find_here hno hx3 hc5], hS.below⟩
  refine W.skip (N.blk (N.seq (W.region ?_)))
  refine WL.add (c := (k : Int) + 1) rfl rfl rfl rfl (rfl) (by omega) ?_
  refine WL.move rfl rfl rfl (WL.nil ?_)
  exact N.loop (k + 1) ⟨rfl, rfl, rfl, rfl, trivial⟩ ⟨hS, by omega, find_next hno hx3 hc5⟩ (by first | omega | (simp only; omega))
 have hc2p : ¬ ((k : Int) < (g.length : Int)) := by simpa using hc2
 refine W.exit (X.seq (X.loop (X.blk (N.seq (W.seq (W.region (WL.assign rfl rfl rfl (WL.nil (N.seq ?_)))))))))
 refine Fin.ret1 rfl (v := .int .i64 (-1)) rfl ?_
 have e : k = g.length := by omega
 subst e
 rw [List.take_length] at hno
 exact ⟨by rw [find_end hno], hS.below⟩

theorem coStr_ret {q : Nat} {fnq : Func} {caps : Array Value} (g : List (ByteArray)) (p : (ByteArray) → Bool) (vx : Value) {w : World} {ro : Nat → Prop} (hro : ∀ b, ro b → b < w.heap.size) (hx : SlV ro w 1 StrC vx g) (hf : Tryd.prog.funcs[q]? = some fnq) (hfb : (fnq.body.isSome && !(fnq.name == "runtime.NumGoroutine")) = true) (hp : ∀ (x : ByteArray) (u : World), x ∈ g → Below w.heap.size w u → Ret Tryd.prog q (#[.string x] ++ caps) u fun v u2 => v = .bool (p x) ∧ Below u.heap.size u u2) : Ret Tryd.prog 29 #[vx, .func (.func q) #[] caps] w fun v w' => v = .bool (g.any p) ∧ Below w.heap.size w w' := by
 obtain ⟨ad, cap, rfl, haa, hab, hac, had⟩ := id hx
 have ham : g.length ≤ 9223372036854775807 := by have h1 := haa; have h2 := hab; unfold maxLen at h2; omega
 refine Ret.enter (P := Tryd.prog) (n := 9) (args := [.slice ad g.length cap, .func (.func q) #[] caps]) (σ := [(0, .slice ad g.length cap), (1, .func (.func q) #[] caps)]) Tryd.func29 rfl rfl rfl rfl ?_
 have hS := St.start (ro := ro) hro
 refine W.seq (W.region (WL.assign rfl rfl rfl (WL.nil (N.seq (W.seq (W.region (WL.move rfl rfl rfl (WL.move rfl rfl rfl ?_))))))))
 refine WL.callF (vs := [.slice ad g.length cap, .func (.func q) #[] caps]) Tryd.func60 (by kernel_rfl) rfl rfl rfl (ixStr_ret g p _ (ro := ro) (fun b hb => (hS.snap b hb).1) (SlV.keep hx hS.alike (fun _ _ q => q)) hf hfb (fun x u hm hb => hp x u hm (hS.below.trans (hb.mono hS.below.size)))) ?_
 rintro v w1 ⟨rfl, hbl⟩
 replace hS := hS.grow hbl
 refine WL.bin rfl rfl rfl rfl rfl (WL.assign rfl rfl rfl (WL.nil (N.seq ?_)))
 refine Fin.ret1 rfl (v := .bool (decide (0 ≤ ixI p g))) rfl ?_
 exact ⟨by rw [ixI_any], hS.below⟩

theorem missing10_ret (ds : List DDef) (s : ByteArray) (vd : Value) (bx : Nat) {w : World} {ro : Nat → Prop} (hro : ∀ b, ro b → b < w.heap.size) (hbx : ro bx) (hcx : CellsAt w bx 0 [vd]) (hd : SlV ro w 5 DefC vd ds) : Ret Tryd.prog 27 #[.string s, .pointer (some ⟨bx, 0, none⟩)] w fun v w' => v = .bool (lost10 ds s) ∧ Below w.heap.size w w' := by
 refine Ret.enter (P := Tryd.prog) (n := 19) (args := [.string s, .pointer (some ⟨bx, 0, none⟩)]) (σ := [(0, .string s), (1, .pointer (some ⟨bx, 0, none⟩))]) Tryd.func27 rfl rfl rfl rfl ?_
 have hS := St.start (ro := ro) hro
 refine W.seq (W.region (WL.assign rfl rfl rfl (WL.nil (N.seq (W.seq (W.region (WL.load1 (v := vd) one_62 rfl rfl rfl (hS.roCells hbx hcx 0 _ rfl) (WL.move rfl rfl rfl ?_))))))))
 refine WL.callF (vs := [vd, .string s]) Tryd.func28 (by kernel_rfl) rfl rfl rfl (rfind_ret ds s _ (ro := ro) (fun b hb => (hS.snap b hb).1) (SlV.keep hd hS.alike (fun _ _ q => q))) ?_
 rintro v w1 ⟨rfl, hbl⟩
 replace hS := hS.grow hbl
 refine WL.move rfl rfl rfl (WL.extract (v := .agg #[.string ((fnd9 ds s).1.name), .int .i64 ((fnd9 ds s).1.mod), .bool ((fnd9 ds s).1.fn), .bool ((fnd9 ds s).1.weak), .bool ((fnd9 ds s).1.here)]) rfl rfl rfl rfl (WL.extract (v := .bool ((fnd9 ds s).2)) rfl rfl rfl rfl ?_))
 refine WL.alloc (tyZero_spec zer_66) rfl rfl hS ?_
 clear hS; intro w3 b2 hb_b2 hS
 refine WL.store (L' := [(b2, .cells #[.string ((fnd9 ds s).1.name), .int .i64 ((fnd9 ds s).1.mod), .bool ((fnd9 ds s).1.fn), .bool ((fnd9 ds s).1.weak), .bool ((fnd9 ds s).1.here)] 66 (0, 0))]) 0 rfl rfl rfl rfl siz_66 rfl rfl rfl rfl rfl hS ?_
 clear hS; intro w4 hS
 refine WL.assign rfl rfl rfl (WL.nil (N.seq (W.seq (W.region (WL.move rfl rfl rfl (WL.not rfl rfl rfl (WL.move rfl rfl rfl ?_)))))))
 cases hg5 : (!((fnd9 ds s).2))
 ·
  refine WL.fieldAddr fo_66_4 rfl rfl rfl (WL.load1 (v := .bool ((fnd9 ds s).1.here)) one_4 rfl rfl rfl (hS.cell 0 rfl rfl) (WL.not rfl rfl rfl (WL.pick (v := .bool (!((fnd9 ds s).1.here))) rfl rfl rfl rfl rfl rfl (WL.assign rfl rfl rfl (WL.nil (N.seq ?_))))))
  refine Fin.ret1 rfl (v := .bool (!((fnd9 ds s).1.here))) rfl ?_
  refine ⟨?_, hS.below⟩
  congr 1
  unfold lost10
  simp [hg5]
 refine WL.skp rfl rfl (WL.skp rfl rfl (WL.skp rfl rfl (WL.pick (v := .bool true) rfl rfl rfl rfl rfl rfl (WL.assign rfl rfl rfl (WL.nil (N.seq ?_))))))
 refine Fin.ret1 rfl (v := .bool true) rfl ?_
 refine ⟨?_, hS.below⟩
 congr 1
 unfold lost10
 simp [hg5]

set_option maxRecDepth 10000 in
set_option maxHeartbeats 4000000 in
theorem all10_ret (ms : List DMod) (ks : List ByteArray) (vx vk : Value) {w : World} {ro : Nat → Prop} (hro : ∀ b, ro b → b < w.heap.size) (hx : SlV ro w 2 (ModC ro w) vx ms) (hk : SlV ro w 1 StrC vk ks) (hpw : PowT ro w) (hrt : ∀ m ∈ ms, check5 m = 0) (hml : ms.length ≤ 16) : Ret Tryd.prog 14 #[vx, vk] w fun v w' => ∃ cs, v = .tuple #[.agg cs.toArray, .int .i64 (merge10 ms ks).2] ∧ ModC (roFrom ro w w') w' cs (merge10 ms ks).1 ∧ Below w.heap.size w w' := by
 have hxo := hx
 obtain ⟨adl, capl, rfl, hla, hlb, hlc, hld⟩ := hxo
 have hlm : ms.length ≤ 9223372036854775807 := slv_len hx
 obtain ⟨adk, capk, rfl, hk0a, hk0b, hk0c, hk0d⟩ := id hk
 have hk0m : ks.length ≤ 9223372036854775807 := by have h1 := hk0a; have h2 := hk0b; unfold maxLen at h2; omega
 refine Ret.enter (P := Tryd.prog) (n := 99) (args := [.slice adl ms.length capl, .slice adk ks.length capk]) (σ := [(0, .slice adl ms.length capl), (1, .slice adk ks.length capk)]) Tryd.func14 rfl rfl rfl rfl ?_
 have hS := St.start (ro := ro) hro
 have hsub : ∀ b, ro b → ro b ∨ w.heap.size ≤ b := fun _ h => .inl h
 have hit : ∀ m ∈ ms, (its10 m).length ≤ 32 := fun m hm => its_small (hrt m hm)
 have hmx : (items9 ms).length ≤ 1048576 := Nat.le_trans (items_few hrt hml) (by decide)
 have hns := fun x hx9 => (items_ok hx x hx9).1
 refine W.seq (W.region ?_)
 refine WL.alloc (tyZero_spec zer_32) rfl rfl hS ?_
 clear hS; intro w2 b1 hb_b1 hS
 refine WL.assign rfl rfl rfl (WL.nil (N.seq (W.seq (W.region (WL.move rfl rfl rfl ?_)))))
 refine WL.callF (vs := [.slice adl ms.length capl]) Tryd.func26 (by kernel_rfl) rfl rfl rfl (all_ret ms _ (ro := ro) (fun b hb => (hS.snap b hb).1) (SlV.keep hx hS.alike (fun _ _ q => q.keep hS.alike)) hmx (items_ok hx)) ?_
 rintro v w3 ⟨sv, rfl, hdv, hbl⟩
 have hal4 := hS.alikeTo hbl (ro' := (roFrom ro w2 w3)) (fun b hb => .inl hb)
 replace hsub : ∀ b, (roFrom ro w2 w3) b → ro b ∨ w.heap.size ≤ b := fun b hb => hb.elim (hsub b) (fun h => .inr (Nat.le_trans hS.below.size h.1))
 replace hld := hld.keep hal4 (fun _ _ h => h.keep hal4)
 replace hx := SlV.keep hx hal4 (fun _ _ h => h.keep hal4)
 replace hk := SlV.keep hk hal4 (fun _ _ h => h)
 replace hpw := hpw.keep hal4
 replace hS := hS.readNew hbl
 obtain ⟨ds, hds⟩ : ∃ ds, ds = (all9 (items9 ms)).1 := ⟨_, rfl⟩
 rw [← hds] at hdv
 obtain ⟨add, capd, rfl, hda, hdb, hdc, hdd⟩ := id hdv
 have hdm : ds.length ≤ 9223372036854775807 := by have h1 := hda; have h2 := hdb; unfold maxLen at h2; omega
 refine WL.move rfl rfl rfl (WL.extract (v := .slice add ds.length capd) rfl rfl rfl rfl (WL.extract (v := .int .i64 ((all9 (items9 ms)).2)) rfl rfl rfl rfl ?_))
 refine WL.alloc (tyZero_spec zer_62) rfl rfl hS ?_
 clear hS; intro w6 b5 hb_b5 hS
 refine WL.store (L' := [(b5, .cells #[.slice add ds.length capd] 62 (0, 0)), (b1, .cells #[.slice none 0 0, .slice none 0 0] 32 (0, 0))]) 0 rfl rfl rfl rfl siz_62 rfl rfl rfl rfl rfl hS ?_
 clear hS; intro w7 hS
 refine WL.assign rfl rfl rfl (WL.nil (N.seq (W.seq (W.seq (W.region (WL.move rfl rfl rfl (WL.bin rfl rfl rfl rfl rfl (WL.nil (N.seq ?_)))))))))
 refine W.cond rfl (fun hc8 => ?_) (fun hc8 => ?_)
 ·
  have hc8p : ¬ ((all9 (items9 ms)).2 = 0) := by simpa using hc8
  refine W.seq (W.region ?_)
  refine WL.build (ps := []) (cs := [.slice none 0 0, .slice none 0 0]) rfl rfl rfl (by kernel_rfl) ?_
  refine WL.move rfl rfl rfl ?_
  refine WL.store (L' := [(b5, .cells #[.slice add ds.length capd] 62 (0, 0)), (b1, .cells #[.slice none 0 0, .slice none 0 0] 32 (0, 0))]) 1 rfl rfl rfl rfl siz_32 rfl rfl rfl rfl rfl hS ?_
  clear hS; intro w9 hS
  refine WL.assign rfl rfl rfl (WL.nil (N.seq ?_))
  refine Fin.retCT rfl (v := .agg #[.slice none 0 0, .slice none 0 0]) (v' := .int .i64 ((all9 (items9 ms)).2)) rfl (tyAgg_run agg_32 (cs := [.slice none 0 0, .slice none 0 0]) rfl (hS.cells 1 (m := 2) rfl rfl)) rfl ?_
  have he0 : ¬ (all9 (items9 ms)).2 = 0 := by simpa using hc8p
  have e : merge10 ms ks = (⟨[], []⟩, (all9 (items9 ms)).2) := by unfold merge10; rw [if_neg he0]
  rw [e]
  exact ⟨_, rfl, ⟨_, _, rfl, slv_nil, slv_nil⟩, hS.below⟩
 have hc8p : (all9 (items9 ms)).2 = 0 := by simpa using hc8
 refine W.skip (N.seq (W.seq (W.region ?_)))
 refine WL.makeFunc (vs := #[.pointer (some ⟨b5, 0, none⟩)]) rfl rfl rfl ?_
 refine WL.assign rfl rfl rfl (WL.nil (N.seq (W.seq (W.seq (W.region (WL.move rfl rfl rfl (WL.move rfl rfl rfl ?_)))))))
 refine WL.callF (vs := [.slice adk ks.length capk, .func (.func 27) #[] #[.pointer (some ⟨b5, 0, none⟩)]]) Tryd.func29 (by kernel_rfl) rfl rfl rfl (coStr_ret ks (lost10 ds) _ (ro := (roFrom ro w2 w3)) (fun b hb => (hS.snap b hb).1) (SlV.keep hk hS.alike (fun _ _ q => q)) Tryd.func27 (by kernel_rfl) (fun x u hm hb => missing10_ret ds x (.slice add ds.length capd) b5 (ro := fun z => z < u.heap.size) (fun _ h => h) (Nat.lt_of_lt_of_le (hS.keys b5 (by simp [keysOf])).2.1 hb.size) ((hS.grow hb).cells 0 (m := 1) rfl rfl) (SlV.keep hdv (fun z hz => ⟨((hS.grow hb).snap z hz).1, ((hS.grow hb).snap z hz).2⟩) (fun _ _ q => q)))) ?_
 rintro v w11 ⟨rfl, hbl⟩
 replace hS := hS.grow hbl
 refine WL.nil (N.seq ?_)
 refine W.cond rfl (fun hc12 => ?_) (fun hc12 => ?_)
 ·
  refine W.seq (W.region ?_)
  refine WL.build (ps := []) (cs := [.slice none 0 0, .slice none 0 0]) rfl rfl rfl (by kernel_rfl) ?_
  refine WL.store (L' := [(b5, .cells #[.slice add ds.length capd] 62 (0, 0)), (b1, .cells #[.slice none 0 0, .slice none 0 0] 32 (0, 0))]) 1 rfl rfl rfl rfl siz_32 rfl rfl rfl rfl rfl hS ?_
  clear hS; intro w13 hS
  refine WL.assign rfl rfl rfl (WL.nil (N.seq ?_))
  refine Fin.retCT rfl (v := .agg #[.slice none 0 0, .slice none 0 0]) (v' := .int .i64 8) rfl (tyAgg_run agg_32 (cs := [.slice none 0 0, .slice none 0 0]) rfl (hS.cells 1 (m := 2) rfl rfl)) rfl ?_
  have he0 : (all9 (items9 ms)).2 = 0 := by simpa using hc8p
  have e : merge10 ms ks = (⟨[], []⟩, 8) := by unfold merge10; rw [if_pos he0, if_pos (by rw [← hds]; exact hc12)]
  rw [e]
  exact ⟨_, rfl, ⟨_, _, rfl, slv_nil, slv_nil⟩, hS.below⟩
 refine W.skip (N.seq (W.seq (W.region (WL.load1 (v := .slice add ds.length capd) one_62 rfl rfl rfl (hS.cell 0 rfl rfl) (WL.move rfl rfl rfl ?_)))))
 refine WL.makeMap rfl rfl hS ?_
 clear hS; intro w15 b14 hS
 refine WL.build (ps := [(0, .slice add ds.length capd), (1, .slice adk ks.length capk), (3, .map (some b14))]) (cs := [.slice add ds.length capd, .slice adk ks.length capk, .slice none 0 0, .slice none 0 0, .map (some b14)]) rfl rfl rfl (by kernel_rfl) ?_
 refine WL.box (v := .agg #[.slice add ds.length capd, .slice adk ks.length capk, .slice none 0 0, .slice none 0 0, .map (some b14)]) (cs := [.slice add ds.length capd, .slice adk ks.length capk, .slice none 0 0, .slice none 0 0, .map (some b14)]) rfl rfl rfl rfl hS ?_
 clear hS; intro w17 b16 hb_b16 hS
 refine WL.assign rfl rfl rfl (WL.nil (N.seq (W.seq (W.region (WL.move rfl rfl rfl ?_)))))
 refine WL.callF (vs := [.slice adl ms.length capl]) Tryd.func12 (by kernel_rfl) rfl rfl rfl (names10_ret ms _ (ro := (roFrom ro w2 w3)) (fun b hb => (hS.snap b hb).1) (SlV.keep hx hS.alike (fun _ _ q => q.keep hS.alike)) (hpw.keep hS.alike) hml hit hmx hns) ?_
 rintro va w18 ⟨hav, hbl⟩
 have hal19 := hS.alikeTo hbl (ro' := (roFrom (roFrom ro w2 w3) w17 w18)) (fun b hb => .inl hb)
 replace hsub : ∀ b, (roFrom (roFrom ro w2 w3) w17 w18) b → ro b ∨ w.heap.size ≤ b := fun b hb => hb.elim (hsub b) (fun h => .inr (Nat.le_trans hS.below.size h.1))
 replace hld := hld.keep hal19 (fun _ _ h => h.keep hal19)
 replace hx := SlV.keep hx hal19 (fun _ _ h => h.keep hal19)
 replace hk := SlV.keep hk hal19 (fun _ _ h => h)
 replace hdv := SlV.keep hdv hal19 (fun _ _ h => h)
 replace hS := hS.readNew hbl
 obtain ⟨gl, hgs2⟩ : ∃ gl, gl = (nam10 (nms9 (items9 ms)) ms).1 := ⟨_, rfl⟩
 rw [← hgs2] at hav
 obtain ⟨ada, capa, rfl, haa, hab, hac, had⟩ := id hav
 have ham : gl.length ≤ 9223372036854775807 := by have h1 := haa; have h2 := hab; unfold maxLen at h2; omega
 have hnl : (nms9 (items9 ms)).length ≤ 1048576 := Nat.le_trans (nms9_length _) hmx
 have hgl : gl.length = ms.length := by rw [hgs2]; exact (nam10_num hnl ms hit).2
 refine WL.assign rfl rfl rfl (WL.nil (N.seq (W.seq (W.seq (W.region (WL.move rfl rfl rfl (WL.lenSlice Tryd.underlying22 rfl rfl rfl (WL.move rfl rfl rfl (WL.nil ?_)))))))))
 refine N.seq (W.block ?_)
 replace hS := hS.row0 38 4
 replace hS := hS.row0 35 4
 refine W.loop (α := Nat × Value × Value × List Value × List Value × Array MapEntry × Nat × Nat × (Nat → Prop) × World) (fun ⟨i, v1, v2, xs1, xs2, es, ck, c, R2, ws2⟩ => [(4, .pointer (some ⟨b1, 0, none⟩)), (5, .int .i64 0), (9, .pointer (some ⟨b16, 0, none⟩)), (10, .slice ada gl.length capa), (38, .slice adl ms.length capl), (39, .int .i64 (ms.length : Int)), (40, .int .i64 (i : Int))]) (fun ⟨i, v1, v2, xs1, xs2, es, ck, c, R2, ws2⟩ u => St w ws2 u R2 [(b16, .cells #[.slice add ds.length capd, .slice adk ks.length capk, v1, v2, .map (some b14)] 74 (0, 0)), (b14, .map es ck), (b5, .cells #[.slice add ds.length capd] 62 (0, 0)), (b1, .cells #[.slice none 0 0, .slice none 0 0] 32 (0, 0))] [⟨v1, 35, 4, (out10 ds ks ((zip10 ms gl).take i)).fs.length, xs1⟩, ⟨v2, 38, 4, (out10 ds ks ((zip10 ms gl).take i)).gs.length, xs2⟩] ∧ i ≤ ms.length ∧ MapG kS kB es ck c (out10 ds ks ((zip10 ms gl).take i)).done ∧ Chunks 4 (FuncC R2 ws2) xs1 (out10 ds ks ((zip10 ms gl).take i)).fs ∧ Chunks 4 GlobC xs2 (out10 ds ks ((zip10 ms gl).take i)).gs ∧ Alike (roFrom (roFrom ro w2 w3) w17 w18) w18 R2 ws2 ∧ (∀ b, R2 b → ro b ∨ w.heap.size ≤ b)) (fun ⟨i, v1, v2, xs1, xs2, es, ck, c, R2, ws2⟩ => ms.length - i) (0, (.slice none 0 0), (.slice none 0 0), [], [], #[], 0, 0, (roFrom (roFrom ro w2 w3) w17 w18), w18) ⟨rfl, rfl, rfl, rfl, rfl, rfl, rfl, trivial⟩ ⟨hS, Nat.zero_le _, MapG.empty, Chunks.nil, Chunks.nil, Alike.refl, hsub⟩ ?_
 clear hS
 rintro ⟨i, v1, v2, xs1, xs2, es, ck, c, R2, ws2⟩ w20 ⟨hS, hi, hM, hch1, hch2, halL0, hsub⟩
 replace hld := hld.keep halL0 (fun _ _ h => h.keep halL0)
 replace hx := SlV.keep hx halL0 (fun _ _ h => h.keep halL0)
 replace hk := SlV.keep hk halL0 (fun _ _ h => h)
 replace hdv := SlV.keep hdv halL0 (fun _ _ h => h)
 replace had := had.keep halL0 (fun _ _ h => h.keep halL0)
 have hrow : w20.ownsRow w.heap.size 35 4 v1 ((out10 ds ks ((zip10 ms gl).take i)).fs.length) _ := hS.rows _ List.mem_cons_self
 obtain ⟨adv1, capv1, rfl, hr1v1, hr2v1, hr3v1⟩ := row_shape hrow
 clear hrow
 have hrow : w20.ownsRow w.heap.size 38 4 v2 ((out10 ds ks ((zip10 ms gl).take i)).gs.length) _ := hS.rows _ (List.mem_cons_of_mem _ List.mem_cons_self)
 obtain ⟨adv2, capv2, rfl, hr1v2, hr2v2, hr3v2⟩ := row_shape hrow
 clear hrow
 refine W.seq (W.region (WL.bin rfl rfl rfl rfl rfl (WL.nil (N.seq (W.seq ?_)))))
 refine W.cond rfl (fun hc21 => ?_) (fun hc21 => ?_)
 ·
  have hc21p : (i : Int) < (ms.length : Int) := by simpa using hc21
  refine W.skip (N.seq (W.seq (W.block (W.seq ?_))))
  have hj22 : i < ms.length := by omega
  obtain ⟨x22, hx22⟩ : ∃ zz, ms[i]? = some zz := ⟨_, List.getElem?_eq_getElem hj22⟩
  obtain ⟨b22, o22, cs22, hE22, hr22, hl22, hc22, hQ22⟩ := hld i _ hx22
  obtain ⟨sf22, sg22, rfl, hfs22, hgs22⟩ := id hQ22
  obtain ⟨adf22, capf22, rfl, hfs22a, hfs22b, hfs22c, hfs22d⟩ := id hfs22
  have hfs22m : x22.funcs.length ≤ 9223372036854775807 := by have h1 := hfs22a; have h2 := hfs22b; unfold maxLen at h2; omega
  obtain ⟨adg22, capg22, rfl, hgs22a, hgs22b, hgs22c, hgs22d⟩ := id hgs22
  have hgs22m : x22.globs.length ≤ 9223372036854775807 := by have h1 := hgs22a; have h2 := hgs22b; unfold maxLen at h2; omega
  obtain ⟨G, hG0⟩ : ∃ G, G = (mod10 (nms9 (items9 ms)) (nam10 (nms9 (items9 ms)) (ms.take i)).2 (its10 x22)).1 := ⟨_, rfl⟩
  have hga : gl[i]? = some G := by rw [hgs2, hG0]; exact nam10_at hx22
  have hgsz : ∀ s v, G s = some v → v.size ≤ maxLen := fun s v h => by
   rw [hG0] at h; obtain ⟨_, k9, e9, _, h9, _⟩ := fold10_keys _ _ _ _ h; rw [e9]
   have hn1 := mod10_num hnl (nam10 (nms9 (items9 ms)) (ms.take i)).2 (its10 x22); have hn2 := nam10_num hnl (ms.take i) (fun m hm => hit m (List.mem_of_mem_take hm)); have hn3 := hit x22 (List.mem_of_getElem? hx22); rw [List.length_take] at hn2
   exact Nat.le_trans (dot10_le k9 (by omega)) (by decide)
  have hj23 : i < gl.length := (List.getElem?_eq_some_iff.1 hga).1
  have hx23 := hga
  obtain ⟨b23, o23, cs23, hE23, hr23, hl23, hc23, hQ23⟩ := had i _ hga
  have hQk23 := hQ23
  obtain ⟨bmp23, esm23, ckm23, cm23, rfl, hrm23, hmp23, hMm23⟩ := id hQ23
  have hck := hrt x22 (List.mem_of_getElem? hx22)
  obtain ⟨hcf, hcg, hc5, _⟩ := check5_all hck
  have hol := out10_len ds ks ((zip10 ms gl).take i)
  have hsm := zip10_sum (ms := ms) (gs := gl) hit i
  obtain ⟨O0, hO0⟩ : ∃ O0, O0 = out10 ds ks ((zip10 ms gl).take i) := ⟨_, rfl⟩
  rw [← hO0] at hS hM hch1 hch2 hol
  refine W.region (WL.move rfl rfl rfl (WL.indexAddrE (j := i) Tryd.underlying22 isz_32 rfl rfl rfl rfl hj22 hE22 (WL.loadN (cs := [.slice adf22 x22.funcs.length capf22, .slice adg22 x22.globs.length capg22]) agg_32 rfl rfl rfl rfl (hS.roCells hr22 hc22) ?_)))
  refine WL.alloc (tyZero_spec zer_32) rfl rfl hS ?_
  clear hS; intro w25 b24 hb_b24 hS
  refine WL.assign rfl rfl rfl ?_
  refine WL.store (L' := [(b24, .cells #[.slice adf22 x22.funcs.length capf22, .slice adg22 x22.globs.length capg22] 32 (0, 0)), (b16, .cells #[.slice add ds.length capd, .slice adk ks.length capk, .slice adv1 O0.fs.length capv1, .slice adv2 O0.gs.length capv2, .map (some b14)] 74 (0, 0)), (b14, .map es ck), (b5, .cells #[.slice add ds.length capd] 62 (0, 0)), (b1, .cells #[.slice none 0 0, .slice none 0 0] 32 (0, 0))]) 0 rfl rfl rfl rfl siz_32 rfl rfl rfl rfl rfl hS ?_
  clear hS; intro w26 hS
  refine WL.nil (N.seq (W.seq (W.seq (W.region (WL.fieldAddr fo_32_0 rfl rfl rfl (WL.load1 (v := .slice adf22 x22.funcs.length capf22) one_29 rfl rfl rfl (hS.cell 0 rfl rfl) (WL.lenSlice Tryd.underlying29 rfl rfl rfl (WL.move rfl rfl rfl (WL.nil ?_)))))))))
  refine N.seq (W.block ?_)
  replace hS : St w ws2 w26 R2 [(b16, .cells #[.slice add ds.length capd, .slice adk ks.length capk, .slice adv1 O0.fs.length capv1, .slice adv2 O0.gs.length capv2, .map (some b14)] 74 (0, 0)), (b14, .map es ck), (b24, .cells #[.slice adf22 x22.funcs.length capf22, .slice adg22 x22.globs.length capg22] 32 (0, 0)), (b5, .cells #[.slice add ds.length capd] 62 (0, 0)), (b1, .cells #[.slice none 0 0, .slice none 0 0] 32 (0, 0))] [⟨.slice adv1 O0.fs.length capv1, 35, 4, O0.fs.length, xs1⟩, ⟨.slice adv2 O0.gs.length capv2, 38, 4, O0.gs.length, xs2⟩] := hS.perm (((List.Perm.swap _ _ _)).trans ((List.Perm.cons _ (List.Perm.swap _ _ _))))
  refine W.loop (α := Nat × Value × List Value × Array MapEntry × Nat × Nat × (Nat → Prop) × World) (fun ⟨kf, v1a, xs1a, es1, ck1, c1, R3, ws3⟩ => [(4, .pointer (some ⟨b1, 0, none⟩)), (5, .int .i64 0), (9, .pointer (some ⟨b16, 0, none⟩)), (10, .slice ada gl.length capa), (11, .int .i64 (i : Int)), (12, .pointer (some ⟨b24, 0, none⟩)), (38, .slice adl ms.length capl), (39, .int .i64 (ms.length : Int)), (40, .int .i64 (i : Int)), (46, .slice adf22 x22.funcs.length capf22), (47, .int .i64 (x22.funcs.length : Int)), (48, .int .i64 (kf : Int))]) (fun ⟨kf, v1a, xs1a, es1, ck1, c1, R3, ws3⟩ u => St w ws3 u R3 [(b16, .cells #[.slice add ds.length capd, .slice adk ks.length capk, v1a, .slice adv2 O0.gs.length capv2, .map (some b14)] 74 (0, 0)), (b14, .map es1 ck1), (b24, .cells #[.slice adf22 x22.funcs.length capf22, .slice adg22 x22.globs.length capg22] 32 (0, 0)), (b5, .cells #[.slice add ds.length capd] 62 (0, 0)), (b1, .cells #[.slice none 0 0, .slice none 0 0] 32 (0, 0))] [⟨v1a, 35, 4, ((x22.funcs.take kf).foldl (fun10 ds ks i G) O0).fs.length, xs1a⟩, ⟨.slice adv2 O0.gs.length capv2, 38, 4, O0.gs.length, xs2⟩] ∧ kf ≤ x22.funcs.length ∧ MapG kS kB es1 ck1 c1 ((x22.funcs.take kf).foldl (fun10 ds ks i G) O0).done ∧ Chunks 4 (FuncC R3 ws3) xs1a ((x22.funcs.take kf).foldl (fun10 ds ks i G) O0).fs ∧ Alike R2 ws2 R3 ws3 ∧ (∀ b, R3 b → ro b ∨ w.heap.size ≤ b)) (fun ⟨kf, v1a, xs1a, es1, ck1, c1, R3, ws3⟩ => x22.funcs.length - kf) (0, .slice adv1 O0.fs.length capv1, xs1, es, ck, c, R2, ws2) ⟨rfl, rfl, rfl, rfl, rfl, rfl, rfl, rfl, rfl, rfl, rfl, rfl, trivial⟩ ⟨hS, Nat.zero_le _, hM, hch1, Alike.refl, hsub⟩ ?_
  clear hS
  rintro ⟨kf, v1a, xs1a, es1, ck1, c1, R3, ws3⟩ w27 ⟨hS, hkf, hM1, hch11, halL1, hsub⟩
  replace halL0 := halL0.trans halL1
  replace hx := SlV.keep hx halL1 (fun _ _ h => h.keep halL1)
  replace hk := SlV.keep hk halL1 (fun _ _ h => h)
  replace hdv := SlV.keep hdv halL1 (fun _ _ h => h)
  replace hch1 := hch1.mono fun _ _ h => h.keep halL1
  replace hfs22d := hfs22d.keep halL1 (fun _ _ h => h.keep halL1)
  replace hgs22d := hgs22d.keep halL1 (fun _ _ h => h)
  replace hQk23 := hQk23.keep halL1
  replace hc23 := hc23.keep (halL1 _ hr23).2
  replace hr23 := (halL1 _ hr23).1
  have hrow : w27.ownsRow w.heap.size 35 4 v1a (((x22.funcs.take kf).foldl (fun10 ds ks i G) O0).fs.length) _ := hS.rows _ List.mem_cons_self
  obtain ⟨adv1a, capv1a, rfl, hr1v1a, hr2v1a, hr3v1a⟩ := row_shape hrow
  clear hrow
  have hfl1 := foldF_len ds ks i G (x22.funcs.take kf) O0
  rw [List.length_take] at hfl1
  refine W.seq (W.region (WL.bin rfl rfl rfl rfl rfl (WL.nil (N.seq (W.seq ?_)))))
  refine W.cond rfl (fun hc28 => ?_) (fun hc28 => ?_)
  ·
   have hc28p : (kf : Int) < (x22.funcs.length : Int) := by simpa using hc28
   refine W.skip (N.seq (W.seq (W.block (W.seq (W.region ?_)))))
   have hj29 : kf < x22.funcs.length := by omega
   obtain ⟨x29, hx29⟩ : ∃ zz, x22.funcs[kf]? = some zz := ⟨_, List.getElem?_eq_getElem hj29⟩
   obtain ⟨b29, o29, cs29, hE29, hr29, hl29, hc29, hQ29⟩ := hfs22d kf _ hx29
   obtain ⟨sb29, rfl, hbl29, hnm29, hbd29, hpr29⟩ := id hQ29
   obtain ⟨adb29, capb29, rfl, hbk29a, hbk29b, hbk29c, hbk29d⟩ := id hbl29
   have hbk29m : x29.blocks.length ≤ 9223372036854775807 := by have h1 := hbk29a; have h2 := hbk29b; unfold maxLen at h2; omega
   refine WL.indexAddrE (j := kf) Tryd.underlying29 isz_35 rfl rfl rfl rfl hj29 hE29 (WL.loadN (cs := [.string x29.name, .int .i64 x29.bind, .int .i64 x29.params, .slice adb29 x29.blocks.length capb29]) agg_35 rfl rfl rfl rfl (hS.roCells hr29 hc29) ?_)
   refine WL.alloc (tyZero_spec zer_35) rfl rfl hS ?_
   clear hS; intro w31 b30 hb_b30 hS
   refine WL.store (L' := [(b30, .cells #[.string x29.name, .int .i64 x29.bind, .int .i64 x29.params, .slice adb29 x29.blocks.length capb29] 35 (0, 0)), (b16, .cells #[.slice add ds.length capd, .slice adk ks.length capk, .slice adv1a (((x22.funcs.take kf).foldl (fun10 ds ks i G) O0).fs.length) capv1a, .slice adv2 O0.gs.length capv2, .map (some b14)] 74 (0, 0)), (b14, .map es1 ck1), (b24, .cells #[.slice adf22 x22.funcs.length capf22, .slice adg22 x22.globs.length capg22] 32 (0, 0)), (b5, .cells #[.slice add ds.length capd] 62 (0, 0)), (b1, .cells #[.slice none 0 0, .slice none 0 0] 32 (0, 0))]) 0 rfl rfl rfl rfl siz_35 rfl rfl rfl rfl rfl hS ?_
   clear hS; intro w32 hS
   refine WL.nil (N.seq ?_)
   refine W.drawA0 (S := fun u => True) (by kernel_rfl) (fun w33 hbd => ?_)
   replace hS := hS.grow hbd
   refine WA.conv (fuel' := ([(0, .pointer (some ⟨b16, 0, none⟩)), (1, .agg #[.string x29.name, .int .i64 x29.bind, .int .i64 x29.params, .slice adb29 x29.blocks.length capb29]), (2, .int .i64 (i : Int)), (3, .slice ada gl.length capa), (4, .int .i64 (i : Int)), (5, .pointer (some ⟨b23, o23 + i * 1, none⟩)), (6, .map (some bmp23))] : List (Nat × Value)).length + 1) (listed' := #[false, false, false, false, false, false, false, false]) (by kernel_rfl) (by kernel_rfl) (WA.quiet [(0, .pointer (some ⟨b16, 0, none⟩)), (1, .agg #[.string x29.name, .int .i64 x29.bind, .int .i64 x29.params, .slice adb29 x29.blocks.length capb29]), (2, .int .i64 (i : Int)), (3, .slice ada gl.length capa), (4, .int .i64 (i : Int)), (5, .pointer (some ⟨b23, o23 + i * 1, none⟩)), (6, .map (some bmp23))] (by kernel_rfl) [(4, .pointer (some ⟨b1, 0, none⟩)), (5, .int .i64 0), (9, .pointer (some ⟨b16, 0, none⟩)), (10, .slice ada gl.length capa), (11, .int .i64 (i : Int)), (12, .pointer (some ⟨b24, 0, none⟩)), (14, .pointer (some ⟨b30, 0, none⟩)), (38, .slice adl ms.length capl), (39, .int .i64 (ms.length : Int)), (40, .int .i64 (i : Int)), (46, .slice adf22 x22.funcs.length capf22), (47, .int .i64 (x22.funcs.length : Int)), (48, .int .i64 (kf : Int))] ⟨rfl, rfl, rfl, rfl, rfl, rfl, rfl, rfl, rfl, rfl, rfl, rfl, rfl, trivial⟩ (by kernel_rfl) ?_ trivial ?_)
   ·
    refine ⟨⟨_, rfl, ?_⟩, ?_⟩
    ·
     refine WL.sub (σ' := [(9, .pointer (some ⟨b16, 0, none⟩))]) ⟨rfl, trivial⟩ ?_
     refine WL.move rfl rfl rfl ?_
     exact WL.nil (N.cut () ⟨rfl, trivial⟩ rfl)
    refine ⟨⟨_, rfl, ?_⟩, ?_⟩
    ·
     refine WL.sub (σ' := [(14, .pointer (some ⟨b30, 0, none⟩))]) ⟨rfl, trivial⟩ ?_
     refine WL.loadN (cs := [.string x29.name, .int .i64 x29.bind, .int .i64 x29.params, .slice adb29 x29.blocks.length capb29]) agg_35 rfl rfl rfl rfl (hS.cells 0 (m := 4) rfl rfl) ?_
     exact WL.nil (N.cut () ⟨rfl, trivial⟩ rfl)
    refine ⟨⟨_, rfl, ?_⟩, ?_⟩
    ·
     refine WL.sub (σ' := [(11, .int .i64 (i : Int))]) ⟨rfl, trivial⟩ ?_
     refine WL.move rfl rfl rfl ?_
     exact WL.nil (N.cut () ⟨rfl, trivial⟩ rfl)
    refine ⟨⟨_, rfl, ?_⟩, ?_⟩
    ·
     refine WL.sub (σ' := [(10, .slice ada gl.length capa)]) ⟨rfl, trivial⟩ ?_
     refine WL.move rfl rfl rfl ?_
     exact WL.nil (N.cut () ⟨rfl, trivial⟩ rfl)
    refine ⟨⟨_, rfl, ?_⟩, ?_⟩
    ·
     refine WL.sub (σ' := [(11, .int .i64 (i : Int))]) ⟨rfl, trivial⟩ ?_
     refine WL.move rfl rfl rfl ?_
     exact WL.nil (N.cut () ⟨rfl, trivial⟩ rfl)
    refine ⟨⟨_, rfl, ?_⟩, ?_⟩
    ·
     refine WL.sub (σ' := [(55, .slice ada gl.length capa), (56, .int .i64 (i : Int))]) ⟨rfl, rfl, trivial⟩ ?_
     refine WL.indexAddrE (j := i) Tryd.underlying27 isz_40 rfl rfl rfl rfl hj23 hE23 ?_
     exact WL.nil (N.cut () ⟨rfl, trivial⟩ rfl)
    refine ⟨⟨_, rfl, ?_⟩, ?_⟩
    ·
     refine WL.sub (σ' := [(57, .pointer (some ⟨b23, o23 + i * 1, none⟩))]) ⟨rfl, trivial⟩ ?_
     refine WL.load1 (v := .map (some bmp23)) one_40 rfl rfl rfl (hS.roCells hr23 hc23 0 _ rfl) ?_
     exact WL.nil (N.cut () ⟨rfl, trivial⟩ rfl)
    trivial
   refine WA.sub (σ' := [(4, .pointer (some ⟨b1, 0, none⟩)), (5, .int .i64 0), (9, .pointer (some ⟨b16, 0, none⟩)), (10, .slice ada gl.length capa), (11, .int .i64 (i : Int)), (12, .pointer (some ⟨b24, 0, none⟩)), (38, .slice adl ms.length capl), (39, .int .i64 (ms.length : Int)), (40, .int .i64 (i : Int)), (46, .slice adf22 x22.funcs.length capf22), (47, .int .i64 (x22.funcs.length : Int)), (48, .int .i64 (kf : Int)), (52, .pointer (some ⟨b16, 0, none⟩)), (53, .agg #[.string x29.name, .int .i64 x29.bind, .int .i64 x29.params, .slice adb29 x29.blocks.length capb29]), (54, .int .i64 (i : Int)), (58, .map (some bmp23))]) ⟨rfl, rfl, rfl, rfl, rfl, rfl, rfl, rfl, rfl, rfl, rfl, rfl, rfl, rfl, rfl, rfl, trivial⟩ ?_
   refine WA.conv (fuel' := 0 + 1) (listed' := #[true, true, true, true, true, true, true, false]) (by kernel_rfl) (by kernel_rfl) (WA.stepS 7 (by kernel_rfl) rfl ?_)
   replace hS := hS.dropN 1
   have hf5 := hc5 x29 (List.mem_of_getElem? hx29)
   refine WL.callF (vs := [.pointer (some ⟨b16, 0, none⟩), .agg #[.string x29.name, .int .i64 x29.bind, .int .i64 x29.params, .slice adb29 x29.blocks.length capb29], .int .i64 (i : Int), .map (some bmp23)]) Tryd.func30 (by kernel_rfl) rfl rfl rfl (mfun_ret b16 b14 (.slice add ds.length capd) (.slice adk ks.length capk) (.slice adv1a (((x22.funcs.take kf).foldl (fun10 ds ks i G) O0).fs.length) capv1a) (.slice adv2 O0.gs.length capv2) es1 ck1 c1 ((x22.funcs.take kf).foldl (fun10 ds ks i G) O0).done ds ks ((x22.funcs.take kf).foldl (fun10 ds ks i G) O0).fs ((x22.funcs.take kf).foldl (fun10 ds ks i G) O0).gs xs1a x29 _ i G (.map (some bmp23)) hS hM1 hdv hk hch11 hQ29 hQk23 hgsz (func5_all hf5).1 (fun b hb => (block5_all ((func5_all hf5).2 b hb)).2.2) (by omega)) ?_
   rintro v w34 ⟨rfl, ro9, ws9, v9, xs9, es9, ck9, hal9, hsub9, hM9, hch9, hS⟩
   replace hsub : ∀ b, ro9 b → ro b ∨ w.heap.size ≤ b := fun b hb => (hsub9 b hb).elim (hsub b) .inr
   replace halL0 := halL0.trans hal9
   replace halL1 := halL1.trans hal9
   replace hx := SlV.keep hx hal9 (fun _ _ h => h.keep hal9)
   replace hk := SlV.keep hk hal9 (fun _ _ h => h)
   replace hdv := SlV.keep hdv hal9 (fun _ _ h => h)
   replace hgs22d := hgs22d.keep hal9 (fun _ _ h => h)
   replace hQk23 := hQk23.keep hal9
   replace hc23 := hc23.keep (hal9 _ hr23).2
   replace hr23 := (hal9 _ hr23).1
   refine WL.nil (N.restS trivial ?_)
   refine WA.doneN (by kernel_rfl) ?_
   refine N.blk (N.seq (W.region ?_))
   refine WL.add (c := (kf : Int) + 1) rfl rfl rfl rfl (rfl) (by omega) ?_
   refine WL.move rfl rfl rfl (WL.nil ?_)
   exact N.loop (kf + 1, v9, xs9, es9, ck9, c1 + 1, ro9, ws9) ⟨rfl, rfl, rfl, rfl, rfl, rfl, rfl, rfl, rfl, rfl, rfl, rfl, trivial⟩ ⟨(by rw [foldl_next hx29]; exact hS), by omega, by rw [foldl_next hx29]; exact hM9, by rw [foldl_next hx29]; exact hch9, halL1, hsub⟩ (by first | omega | (simp only; omega))
  have hc28p : ¬ ((kf : Int) < (x22.funcs.length : Int)) := by simpa using hc28
  refine W.exit (X.seq (X.loop (X.blk (N.seq (W.seq (W.region (WL.fieldAddr fo_32_1 rfl rfl rfl (WL.load1 (v := .slice adg22 x22.globs.length capg22) one_30 rfl rfl rfl (hS.cell 2 rfl rfl) (WL.lenSlice Tryd.underlying30 rfl rfl rfl ?_)))))))))
  refine WL.move rfl rfl rfl (WL.nil (N.seq (W.block ?_)))
  rw [show kf = x22.funcs.length by omega, List.take_length] at hS hM1 hch11 hfl1
  obtain ⟨O1, hO1⟩ : ∃ O1, O1 = x22.funcs.foldl (fun10 ds ks i G) O0 := ⟨_, rfl⟩
  rw [← hO1] at hS hM1 hch11 hfl1
  have hgsx : O1.gs = O0.gs := by rw [hO1]; exact foldF_gs ds ks i G _ _
  rw [← hgsx] at hS hch2
  replace hS : St w ws3 w27 R3 [(b16, .cells #[.slice add ds.length capd, .slice adk ks.length capk, .slice adv1a O1.fs.length capv1a, .slice adv2 O1.gs.length capv2, .map (some b14)] 74 (0, 0)), (b14, .map es1 ck1), (b24, .cells #[.slice adf22 x22.funcs.length capf22, .slice adg22 x22.globs.length capg22] 32 (0, 0)), (b5, .cells #[.slice add ds.length capd] 62 (0, 0)), (b1, .cells #[.slice none 0 0, .slice none 0 0] 32 (0, 0))] [⟨.slice adv2 O1.gs.length capv2, 38, 4, O1.gs.length, xs2⟩, ⟨.slice adv1a O1.fs.length capv1a, 35, 4, O1.fs.length, xs1a⟩] := hS.permR ((List.Perm.swap _ _ _))
  refine W.loop (α := Nat × Value × List Value × Array MapEntry × Nat × Nat) (fun ⟨kg, v2b, xs2b, es2, ck2, c2⟩ => [(4, .pointer (some ⟨b1, 0, none⟩)), (5, .int .i64 0), (9, .pointer (some ⟨b16, 0, none⟩)), (10, .slice ada gl.length capa), (11, .int .i64 (i : Int)), (38, .slice adl ms.length capl), (39, .int .i64 (ms.length : Int)), (40, .int .i64 (i : Int)), (62, .slice adg22 x22.globs.length capg22), (63, .int .i64 (x22.globs.length : Int)), (64, .int .i64 (kg : Int))]) (fun ⟨kg, v2b, xs2b, es2, ck2, c2⟩ u => St w ws3 u R3 [(b16, .cells #[.slice add ds.length capd, .slice adk ks.length capk, .slice adv1a O1.fs.length capv1a, v2b, .map (some b14)] 74 (0, 0)), (b14, .map es2 ck2), (b24, .cells #[.slice adf22 x22.funcs.length capf22, .slice adg22 x22.globs.length capg22] 32 (0, 0)), (b5, .cells #[.slice add ds.length capd] 62 (0, 0)), (b1, .cells #[.slice none 0 0, .slice none 0 0] 32 (0, 0))] [⟨v2b, 38, 4, ((x22.globs.take kg).foldl (glob10 ds ks i G) O1).gs.length, xs2b⟩, ⟨.slice adv1a O1.fs.length capv1a, 35, 4, O1.fs.length, xs1a⟩] ∧ kg ≤ x22.globs.length ∧ MapG kS kB es2 ck2 c2 ((x22.globs.take kg).foldl (glob10 ds ks i G) O1).done ∧ Chunks 4 GlobC xs2b ((x22.globs.take kg).foldl (glob10 ds ks i G) O1).gs) (fun ⟨kg, v2b, xs2b, es2, ck2, c2⟩ => x22.globs.length - kg) (0, .slice adv2 O1.gs.length capv2, xs2, es1, ck1, c1) ⟨rfl, rfl, rfl, rfl, rfl, rfl, rfl, rfl, rfl, rfl, rfl, trivial⟩ ⟨hS, Nat.zero_le _, hM1, hch2⟩ ?_
  clear hS
  rintro ⟨kg, v2b, xs2b, es2, ck2, c2⟩ w35 ⟨hS, hkg, hM2, hch22⟩
  have hrow : w35.ownsRow w.heap.size 38 4 v2b (((x22.globs.take kg).foldl (glob10 ds ks i G) O1).gs.length) _ := hS.rows _ List.mem_cons_self
  obtain ⟨adv2b, capv2b, rfl, hr1v2b, hr2v2b, hr3v2b⟩ := row_shape hrow
  clear hrow
  have hfl2 := foldG_len ds ks i G (x22.globs.take kg) O1
  rw [List.length_take] at hfl2
  refine W.seq (W.region (WL.bin rfl rfl rfl rfl rfl (WL.nil (N.seq (W.seq ?_)))))
  refine W.cond rfl (fun hc36 => ?_) (fun hc36 => ?_)
  ·
   have hc36p : (kg : Int) < (x22.globs.length : Int) := by simpa using hc36
   refine W.skip (N.seq (W.seq (W.block (W.seq (W.region ?_)))))
   have hj37 : kg < x22.globs.length := by omega
   obtain ⟨x37, hx37⟩ : ∃ zz, x22.globs[kg]? = some zz := ⟨_, List.getElem?_eq_getElem hj37⟩
   obtain ⟨b37, o37, cs37, hE37, hr37, hl37, hc37, hQ37⟩ := hgs22d kg _ hx37
   obtain ⟨rfl, hgn37, hgb37, hgi37⟩ := hQ37
   refine WL.indexAddrE (j := kg) Tryd.underlying30 isz_38 rfl rfl rfl rfl hj37 hE37 (WL.loadN (cs := [.string x37.name, .int .i64 x37.bind, .bool x37.here, .int .u64 x37.init]) agg_38 rfl rfl rfl rfl (hS.roCells hr37 hc37) ?_)
   refine WL.alloc (tyZero_spec zer_38) rfl rfl hS ?_
   clear hS; intro w39 b38 hb_b38 hS
   refine WL.store (L' := [(b38, .cells #[.string x37.name, .int .i64 x37.bind, .bool x37.here, .int .u64 x37.init] 38 (0, 0)), (b16, .cells #[.slice add ds.length capd, .slice adk ks.length capk, .slice adv1a O1.fs.length capv1a, .slice adv2b (((x22.globs.take kg).foldl (glob10 ds ks i G) O1).gs.length) capv2b, .map (some b14)] 74 (0, 0)), (b14, .map es2 ck2), (b24, .cells #[.slice adf22 x22.funcs.length capf22, .slice adg22 x22.globs.length capg22] 32 (0, 0)), (b5, .cells #[.slice add ds.length capd] 62 (0, 0)), (b1, .cells #[.slice none 0 0, .slice none 0 0] 32 (0, 0))]) 0 rfl rfl rfl rfl siz_38 rfl rfl rfl rfl rfl hS ?_
   clear hS; intro w40 hS
   refine WL.nil (N.seq ?_)
   refine W.drawA0 (S := fun u => True) (by kernel_rfl) (fun w41 hbd => ?_)
   replace hS := hS.grow hbd
   refine WA.conv (fuel' := ([(0, .pointer (some ⟨b16, 0, none⟩)), (1, .agg #[.string x37.name, .int .i64 x37.bind, .bool x37.here, .int .u64 x37.init]), (2, .int .i64 (i : Int)), (3, .slice ada gl.length capa), (4, .int .i64 (i : Int)), (5, .pointer (some ⟨b23, o23 + i * 1, none⟩)), (6, .map (some bmp23))] : List (Nat × Value)).length + 1) (listed' := #[false, false, false, false, false, false, false, false]) (by kernel_rfl) (by kernel_rfl) (WA.quiet [(0, .pointer (some ⟨b16, 0, none⟩)), (1, .agg #[.string x37.name, .int .i64 x37.bind, .bool x37.here, .int .u64 x37.init]), (2, .int .i64 (i : Int)), (3, .slice ada gl.length capa), (4, .int .i64 (i : Int)), (5, .pointer (some ⟨b23, o23 + i * 1, none⟩)), (6, .map (some bmp23))] (by kernel_rfl) [(4, .pointer (some ⟨b1, 0, none⟩)), (5, .int .i64 0), (9, .pointer (some ⟨b16, 0, none⟩)), (10, .slice ada gl.length capa), (11, .int .i64 (i : Int)), (16, .pointer (some ⟨b38, 0, none⟩)), (38, .slice adl ms.length capl), (39, .int .i64 (ms.length : Int)), (40, .int .i64 (i : Int)), (62, .slice adg22 x22.globs.length capg22), (63, .int .i64 (x22.globs.length : Int)), (64, .int .i64 (kg : Int))] ⟨rfl, rfl, rfl, rfl, rfl, rfl, rfl, rfl, rfl, rfl, rfl, rfl, trivial⟩ (by kernel_rfl) ?_ trivial ?_)
   ·
    refine ⟨⟨_, rfl, ?_⟩, ?_⟩
    ·
     refine WL.sub (σ' := [(9, .pointer (some ⟨b16, 0, none⟩))]) ⟨rfl, trivial⟩ ?_
     refine WL.move rfl rfl rfl ?_
     exact WL.nil (N.cut () ⟨rfl, trivial⟩ rfl)
    refine ⟨⟨_, rfl, ?_⟩, ?_⟩
    ·
     refine WL.sub (σ' := [(16, .pointer (some ⟨b38, 0, none⟩))]) ⟨rfl, trivial⟩ ?_
     refine WL.loadN (cs := [.string x37.name, .int .i64 x37.bind, .bool x37.here, .int .u64 x37.init]) agg_38 rfl rfl rfl rfl (hS.cells 0 (m := 4) rfl rfl) ?_
     exact WL.nil (N.cut () ⟨rfl, trivial⟩ rfl)
    refine ⟨⟨_, rfl, ?_⟩, ?_⟩
    ·
     refine WL.sub (σ' := [(11, .int .i64 (i : Int))]) ⟨rfl, trivial⟩ ?_
     refine WL.move rfl rfl rfl ?_
     exact WL.nil (N.cut () ⟨rfl, trivial⟩ rfl)
    refine ⟨⟨_, rfl, ?_⟩, ?_⟩
    ·
     refine WL.sub (σ' := [(10, .slice ada gl.length capa)]) ⟨rfl, trivial⟩ ?_
     refine WL.move rfl rfl rfl ?_
     exact WL.nil (N.cut () ⟨rfl, trivial⟩ rfl)
    refine ⟨⟨_, rfl, ?_⟩, ?_⟩
    ·
     refine WL.sub (σ' := [(11, .int .i64 (i : Int))]) ⟨rfl, trivial⟩ ?_
     refine WL.move rfl rfl rfl ?_
     exact WL.nil (N.cut () ⟨rfl, trivial⟩ rfl)
    refine ⟨⟨_, rfl, ?_⟩, ?_⟩
    ·
     refine WL.sub (σ' := [(71, .slice ada gl.length capa), (72, .int .i64 (i : Int))]) ⟨rfl, rfl, trivial⟩ ?_
     refine WL.indexAddrE (j := i) Tryd.underlying27 isz_40 rfl rfl rfl rfl hj23 hE23 ?_
     exact WL.nil (N.cut () ⟨rfl, trivial⟩ rfl)
    refine ⟨⟨_, rfl, ?_⟩, ?_⟩
    ·
     refine WL.sub (σ' := [(73, .pointer (some ⟨b23, o23 + i * 1, none⟩))]) ⟨rfl, trivial⟩ ?_
     refine WL.load1 (v := .map (some bmp23)) one_40 rfl rfl rfl (hS.roCells hr23 hc23 0 _ rfl) ?_
     exact WL.nil (N.cut () ⟨rfl, trivial⟩ rfl)
    trivial
   refine WA.sub (σ' := [(4, .pointer (some ⟨b1, 0, none⟩)), (5, .int .i64 0), (9, .pointer (some ⟨b16, 0, none⟩)), (10, .slice ada gl.length capa), (11, .int .i64 (i : Int)), (38, .slice adl ms.length capl), (39, .int .i64 (ms.length : Int)), (40, .int .i64 (i : Int)), (62, .slice adg22 x22.globs.length capg22), (63, .int .i64 (x22.globs.length : Int)), (64, .int .i64 (kg : Int)), (68, .pointer (some ⟨b16, 0, none⟩)), (69, .agg #[.string x37.name, .int .i64 x37.bind, .bool x37.here, .int .u64 x37.init]), (70, .int .i64 (i : Int)), (74, .map (some bmp23))]) ⟨rfl, rfl, rfl, rfl, rfl, rfl, rfl, rfl, rfl, rfl, rfl, rfl, rfl, rfl, rfl, trivial⟩ ?_
   refine WA.conv (fuel' := 0 + 1) (listed' := #[true, true, true, true, true, true, true, false]) (by kernel_rfl) (by kernel_rfl) (WA.stepS 7 (by kernel_rfl) rfl ?_)
   replace hS := hS.dropN 1
   refine WL.callF (vs := [.pointer (some ⟨b16, 0, none⟩), .agg #[.string x37.name, .int .i64 x37.bind, .bool x37.here, .int .u64 x37.init], .int .i64 (i : Int), .map (some bmp23)]) Tryd.func31 (by kernel_rfl) rfl rfl rfl (mglob_ret b16 b14 (.slice add ds.length capd) (.slice adk ks.length capk) (.slice adv1a O1.fs.length capv1a) (.slice adv2b (((x22.globs.take kg).foldl (glob10 ds ks i G) O1).gs.length) capv2b) es2 ck2 c2 ((x22.globs.take kg).foldl (glob10 ds ks i G) O1).done ds ks ((x22.globs.take kg).foldl (glob10 ds ks i G) O1).fs ((x22.globs.take kg).foldl (glob10 ds ks i G) O1).gs xs2b x37 _ i G (.map (some bmp23)) hS hM2 hdv hk hch22 ⟨rfl, hgn37, hgb37, hgi37⟩ hQk23 hgsz (by omega)) ?_
   rintro v w42 ⟨rfl, v9, xs9, es9, ck9, hM9, hch9, hS⟩
   refine WL.nil (N.restS trivial ?_)
   refine WA.doneN (by kernel_rfl) ?_
   refine N.blk (N.seq (W.region ?_))
   refine WL.add (c := (kg : Int) + 1) rfl rfl rfl rfl (rfl) (by omega) ?_
   refine WL.move rfl rfl rfl (WL.nil ?_)
   exact N.loop (kg + 1, v9, xs9, es9, ck9, c2 + 1) ⟨rfl, rfl, rfl, rfl, rfl, rfl, rfl, rfl, rfl, rfl, rfl, trivial⟩ ⟨(by rw [foldl_next hx37]; exact hS), by omega, by rw [foldl_next hx37]; exact hM9, by rw [foldl_next hx37]; exact hch9⟩ (by first | omega | (simp only; omega))
  have hc36p : ¬ ((kg : Int) < (x22.globs.length : Int)) := by simpa using hc36
  refine W.exit (X.seq (X.loop (X.blk (N.blk (N.seq (W.region ?_))))))
  refine WL.add (c := (i : Int) + 1) rfl rfl rfl rfl (rfl) (by omega) ?_
  refine WL.move rfl rfl rfl (WL.nil ?_)
  rw [show kg = x22.globs.length by omega, List.take_length] at hS hM2 hch22
  replace hS : St w ws3 w35 R3 [(b16, .cells #[.slice add ds.length capd, .slice adk ks.length capk, .slice adv1a O1.fs.length capv1a, .slice adv2b ((x22.globs.foldl (glob10 ds ks i G) O1).gs.length) capv2b, .map (some b14)] 74 (0, 0)), (b14, .map es2 ck2), (b24, .cells #[.slice adf22 x22.funcs.length capf22, .slice adg22 x22.globs.length capg22] 32 (0, 0)), (b5, .cells #[.slice add ds.length capd] 62 (0, 0)), (b1, .cells #[.slice none 0 0, .slice none 0 0] 32 (0, 0))] [⟨.slice adv1a O1.fs.length capv1a, 35, 4, O1.fs.length, xs1a⟩, ⟨.slice adv2b ((x22.globs.foldl (glob10 ds ks i G) O1).gs.length) capv2b, 38, 4, (x22.globs.foldl (glob10 ds ks i G) O1).gs.length, xs2b⟩] := hS.permR ((List.Perm.swap _ _ _))
  replace hS : St w ws3 w35 R3 [(b24, .cells #[.slice adf22 x22.funcs.length capf22, .slice adg22 x22.globs.length capg22] 32 (0, 0)), (b16, .cells #[.slice add ds.length capd, .slice adk ks.length capk, .slice adv1a O1.fs.length capv1a, .slice adv2b ((x22.globs.foldl (glob10 ds ks i G) O1).gs.length) capv2b, .map (some b14)] 74 (0, 0)), (b14, .map es2 ck2), (b5, .cells #[.slice add ds.length capd] 62 (0, 0)), (b1, .cells #[.slice none 0 0, .slice none 0 0] 32 (0, 0))] [⟨.slice adv1a O1.fs.length capv1a, 35, 4, O1.fs.length, xs1a⟩, ⟨.slice adv2b ((x22.globs.foldl (glob10 ds ks i G) O1).gs.length) capv2b, 38, 4, (x22.globs.foldl (glob10 ds ks i G) O1).gs.length, xs2b⟩] := hS.perm (((List.Perm.cons _ (List.Perm.swap _ _ _))).trans ((List.Perm.swap _ _ _)))
  replace hS := hS.dropN 1
  have hnx : out10 ds ks ((zip10 ms gl).take (i + 1)) = (x22.globs.foldl (glob10 ds ks i G) O1) := by rw [out10_next (zip10_at hx22 hga)]; unfold mod10s; rw [← hO0, ← hO1]
  have hfsx : (x22.globs.foldl (glob10 ds ks i G) O1).fs = O1.fs := foldG_fs ds ks i G _ _
  exact N.loop (i + 1, .slice adv1a O1.fs.length capv1a, .slice adv2b ((x22.globs.foldl (glob10 ds ks i G) O1).gs.length) capv2b, xs1a, xs2b, es2, ck2, c2, R3, ws3) ⟨rfl, rfl, rfl, rfl, rfl, rfl, rfl, trivial⟩ ⟨(by rw [hnx, hfsx]; exact hS), by omega, by rw [hnx]; exact hM2, by rw [hnx, hfsx]; exact hch11, by rw [hnx]; exact hch22, halL0, hsub⟩ (by first | omega | (simp only; omega))
 have hc21p : ¬ ((i : Int) < (ms.length : Int)) := by simpa using hc21
 refine W.exit (X.seq (X.loop (X.blk (N.seq (W.seq (W.seq (W.region (WL.move rfl rfl rfl (WL.nilPtr rfl rfl rfl ?_)))))))))
 refine WL.fieldAddr fo_74_2 rfl rfl rfl (WL.fieldAddr fo_32_0 rfl rfl rfl (WL.load1 (v := .slice adv1 ((out10 ds ks ((zip10 ms gl).take i)).fs.length) capv1) one_29 rfl rfl rfl (hS.cell 0 rfl rfl) (WL.lenSlice Tryd.underlying29 rfl rfl rfl (WL.bin rfl rfl rfl rfl rfl (WL.move rfl rfl rfl ?_)))))
 rcases (Bool.eq_false_or_eq_true (decide (16 < ((out10 ds ks ((zip10 ms gl).take i)).fs.length : Int)))).symm with hg43 | hg43
 ·
  refine WL.set 84 (v' := .bool false) rfl (by rw [hg43]) ?_
  refine WL.set 85 (v' := .bool false) rfl (by rw [hg43]) ?_
  have hg43p : ¬ (16 < ((out10 ds ks ((zip10 ms gl).take i)).fs.length : Int)) := by simpa using hg43
  refine WL.move rfl rfl rfl (WL.nilPtr rfl rfl rfl (WL.fieldAddr fo_74_2 rfl rfl rfl (WL.fieldAddr fo_32_1 rfl rfl rfl (WL.load1 (v := .slice adv2 ((out10 ds ks ((zip10 ms gl).take i)).gs.length) capv2) one_30 rfl rfl rfl (hS.cell 0 rfl rfl) (WL.lenSlice Tryd.underlying30 rfl rfl rfl (WL.bin rfl rfl rfl rfl rfl (WL.pick (v := .bool (decide (16 < ((out10 ds ks ((zip10 ms gl).take i)).gs.length : Int)))) rfl rfl rfl rfl rfl rfl (WL.nil (N.seq ?_)))))))))
  refine W.cond rfl (fun hc44 => ?_) (fun hc44 => ?_)
  ·
   have hc44p : 16 < ((out10 ds ks ((zip10 ms gl).take i)).gs.length : Int) := by simpa using hc44
   refine W.seq (W.region ?_)
   refine WL.build (ps := []) (cs := [.slice none 0 0, .slice none 0 0]) rfl rfl rfl (by kernel_rfl) ?_
   refine WL.store (L' := [(b16, .cells #[.slice add ds.length capd, .slice adk ks.length capk, .slice adv1 ((out10 ds ks ((zip10 ms gl).take i)).fs.length) capv1, .slice adv2 ((out10 ds ks ((zip10 ms gl).take i)).gs.length) capv2, .map (some b14)] 74 (0, 0)), (b14, .map es ck), (b5, .cells #[.slice add ds.length capd] 62 (0, 0)), (b1, .cells #[.slice none 0 0, .slice none 0 0] 32 (0, 0))]) 3 rfl rfl rfl rfl siz_32 rfl rfl rfl rfl rfl hS ?_
   clear hS; intro w45 hS
   refine WL.assign rfl rfl rfl (WL.nil (N.seq ?_))
   refine Fin.retCT rfl (v := .agg #[.slice none 0 0, .slice none 0 0]) (v' := .int .i64 4) rfl (tyAgg_run agg_32 (cs := [.slice none 0 0, .slice none 0 0]) rfl (hS.cells 3 (m := 2) rfl rfl)) rfl ?_
   have he0 : (all9 (items9 ms)).2 = 0 := by simpa using hc8p
   have hlo : ¬ ks.any (lost10 (all9 (items9 ms)).1) = true := by rw [← hds]; simpa using hc12
   have hie : i = ms.length := by omega
   have hzz : out10 ds ks ((zip10 ms gl).take i) = out10 ds ks (zip10 ms gl) := by rw [hie, List.take_of_length_le (Nat.le_of_eq (zip10_len hgl))]
   rw [hzz] at hg43p
   rw [hzz] at hc44p
   have hbg : (16 < (out10 ds ks (zip10 ms gl)).fs.length ∨ 16 < (out10 ds ks (zip10 ms gl)).gs.length) := by omega
   have e : merge10 ms ks = (⟨[], []⟩, 4) := by unfold merge10; rw [if_pos he0, if_neg hlo]; simp only; rw [← hds, ← hgs2]; exact if_pos hbg
   rw [e]
   exact ⟨_, rfl, ⟨_, _, rfl, slv_nil, slv_nil⟩, hS.below⟩
  have hc44p : ¬ (16 < ((out10 ds ks ((zip10 ms gl).take i)).gs.length : Int)) := by simpa using hc44
  refine W.skip (N.seq (W.seq (W.region (WL.move rfl rfl rfl (WL.nilPtr rfl rfl rfl (WL.fieldAddr fo_74_2 rfl rfl rfl (WL.loadN (cs := [.slice adv1 ((out10 ds ks ((zip10 ms gl).take i)).fs.length) capv1, .slice adv2 ((out10 ds ks ((zip10 ms gl).take i)).gs.length) capv2]) agg_32 rfl rfl rfl rfl (hS.cells 0 (m := 2) rfl rfl) ?_)))))))
  refine WL.store (L' := [(b16, .cells #[.slice add ds.length capd, .slice adk ks.length capk, .slice adv1 ((out10 ds ks ((zip10 ms gl).take i)).fs.length) capv1, .slice adv2 ((out10 ds ks ((zip10 ms gl).take i)).gs.length) capv2, .map (some b14)] 74 (0, 0)), (b14, .map es ck), (b5, .cells #[.slice add ds.length capd] 62 (0, 0)), (b1, .cells #[.slice adv1 ((out10 ds ks ((zip10 ms gl).take i)).fs.length) capv1, .slice adv2 ((out10 ds ks ((zip10 ms gl).take i)).gs.length) capv2] 32 (0, 0))]) 3 rfl rfl rfl rfl siz_32 rfl rfl rfl rfl rfl hS ?_
  clear hS; intro w46 hS
  refine WL.assign rfl rfl rfl (WL.nil (N.seq ?_))
  refine Fin.retCT rfl (v := .agg #[.slice adv1 ((out10 ds ks ((zip10 ms gl).take i)).fs.length) capv1, .slice adv2 ((out10 ds ks ((zip10 ms gl).take i)).gs.length) capv2]) (v' := .int .i64 0) rfl (tyAgg_run agg_32 (cs := [.slice adv1 ((out10 ds ks ((zip10 ms gl).take i)).fs.length) capv1, .slice adv2 ((out10 ds ks ((zip10 ms gl).take i)).gs.length) capv2]) rfl (hS.cells 3 (m := 2) rfl rfl)) rfl ?_
  have he0 : (all9 (items9 ms)).2 = 0 := by simpa using hc8p
  have hlo : ¬ ks.any (lost10 (all9 (items9 ms)).1) = true := by rw [← hds]; simpa using hc12
  have hie : i = ms.length := by omega
  have hzz : out10 ds ks ((zip10 ms gl).take i) = out10 ds ks (zip10 ms gl) := by rw [hie, List.take_of_length_le (Nat.le_of_eq (zip10_len hgl))]
  rw [hzz] at hg43p
  rw [hzz] at hc44p
  have hbg : ¬ (16 < (out10 ds ks (zip10 ms gl)).fs.length ∨ 16 < (out10 ds ks (zip10 ms gl)).gs.length) := by omega
  have e : merge10 ms ks = (⟨(out10 ds ks (zip10 ms gl)).fs, (out10 ds ks (zip10 ms gl)).gs⟩, 0) := by unfold merge10; rw [if_pos he0, if_neg hlo]; simp only; rw [← hds, ← hgs2]; exact if_neg hbg
  rw [← hzz] at e
  rw [e]
  have hfin : Alike R2 ws2 (roFrom ro w w46) w46 := fun b hb => ⟨(hsub b hb).elim .inl (fun h => .inr ⟨h, (hS.snap b hb).1⟩), (hS.snap b hb).2⟩
  have hr1 := hS.rows _ List.mem_cons_self
  have hr2 := hS.rows _ (List.mem_cons_of_mem _ List.mem_cons_self)
  refine ⟨_, rfl, ⟨_, _, rfl, row_slv hr1 (hch1.mono fun _ _ h => h.keep hfin) rfl (fun x hx => .inr ((hS.keys x (by simp only [keysOf, List.mem_append, List.mem_filterMap]; exact .inr ⟨_, List.mem_cons_self, hx⟩)).imp id (·.1))), row_slv hr2 hch2 rfl (fun x hx => .inr ((hS.keys x (by simp only [keysOf, List.mem_append, List.mem_filterMap]; exact .inr ⟨_, (List.mem_cons_of_mem _ List.mem_cons_self), hx⟩)).imp id (·.1)))⟩, hS.below⟩
 refine WL.set 84 (v' := .bool true) rfl (by rw [hg43]) ?_
 refine WL.set 85 (v' := .bool true) rfl (by rw [hg43]) ?_
 have hg43p : 16 < ((out10 ds ks ((zip10 ms gl).take i)).fs.length : Int) := by simpa using hg43
 refine WL.skp rfl rfl (WL.skp rfl rfl (WL.skp rfl rfl (WL.skp rfl rfl (WL.skp rfl rfl (WL.skp rfl rfl (WL.skp rfl rfl (WL.pick (v := .bool true) rfl rfl rfl rfl rfl rfl (WL.nil (N.seq ?_)))))))))
 refine W.condT rfl (W.seq (W.region ?_))
 refine WL.build (ps := []) (cs := [.slice none 0 0, .slice none 0 0]) rfl rfl rfl (by kernel_rfl) ?_
 refine WL.store (L' := [(b16, .cells #[.slice add ds.length capd, .slice adk ks.length capk, .slice adv1 ((out10 ds ks ((zip10 ms gl).take i)).fs.length) capv1, .slice adv2 ((out10 ds ks ((zip10 ms gl).take i)).gs.length) capv2, .map (some b14)] 74 (0, 0)), (b14, .map es ck), (b5, .cells #[.slice add ds.length capd] 62 (0, 0)), (b1, .cells #[.slice none 0 0, .slice none 0 0] 32 (0, 0))]) 3 rfl rfl rfl rfl siz_32 rfl rfl rfl rfl rfl hS ?_
 clear hS; intro w47 hS
 refine WL.assign rfl rfl rfl (WL.nil (N.seq ?_))
 refine Fin.retCT rfl (v := .agg #[.slice none 0 0, .slice none 0 0]) (v' := .int .i64 4) rfl (tyAgg_run agg_32 (cs := [.slice none 0 0, .slice none 0 0]) rfl (hS.cells 3 (m := 2) rfl rfl)) rfl ?_
 have he0 : (all9 (items9 ms)).2 = 0 := by simpa using hc8p
 have hlo : ¬ ks.any (lost10 (all9 (items9 ms)).1) = true := by rw [← hds]; simpa using hc12
 have hie : i = ms.length := by omega
 have hzz : out10 ds ks ((zip10 ms gl).take i) = out10 ds ks (zip10 ms gl) := by rw [hie, List.take_of_length_le (Nat.le_of_eq (zip10_len hgl))]
 rw [hzz] at hg43p
 have hbg : (16 < (out10 ds ks (zip10 ms gl)).fs.length ∨ 16 < (out10 ds ks (zip10 ms gl)).gs.length) := by omega
 have e : merge10 ms ks = (⟨[], []⟩, 4) := by unfold merge10; rw [if_pos he0, if_neg hlo]; simp only; rw [← hds, ← hgs2]; exact if_pos hbg
 rw [e]
 exact ⟨_, rfl, ⟨_, _, rfl, slv_nil, slv_nil⟩, hS.below⟩

end Go.Proofs.YtapjejjmhmdmdaaDoor
