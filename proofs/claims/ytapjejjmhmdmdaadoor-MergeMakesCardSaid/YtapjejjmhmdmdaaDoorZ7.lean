/-
  Contracts of layer 10 (merge). No condition beyond those that each theorem states.
-/
import Derived.Test.YtapjejjmhmdmdaaDoorQ5
import Derived.Test.YtapjejjmhmdmdaaDoorZ6
namespace Go.Proofs.YtapjejjmhmdmdaaDoor
open Go.RowKit
theorem byt_35 : (Tryd.prog.info? 35).map (·.bytes) = some 56 := by kernel_rfl
theorem byt_38 : (Tryd.prog.info? 38).map (·.bytes) = some 40 := by kernel_rfl
theorem fo_66_0 : fOff Tryd.prog 66 0 0 = true := by kernel_rfl
def isName (s : ByteArray) (d : DDef) : Bool := decide (d.name = s)
def nothing10 (p : Int) : List DBlock := [⟨p, [⟨1, 0, 0, 0, ⟨#[]⟩, []⟩], ⟨3, p, 0, [], 0, []⟩⟩]
instance decInI (x : Int) : Decidable (inI x) := by unfold inI; infer_instance
instance decInU (x : Int) : Decidable (inU x) := by unfold inU; infer_instance
theorem chunk1' {α : Type} {sz : Nat} {Q : List Value → α → Prop} {cs : List Value} {x : α} (hl : cs.length = sz) (hq : Q cs x) : Chunks sz Q cs [x] := by simpa using Chunks.snoc Chunks.nil hl hq

def def0 : DDef := ⟨⟨#[]⟩, 0, false, false, false⟩
def fnd9 (l : List DDef) (t : ByteArray) : DDef × Bool := if ixI (isName t) l < 0 then (def0, false) else (l.getD (ixI (isName t) l).toNat def0, true)
theorem fnd9_no {l : List DDef} {t : ByteArray} (h : ixI (isName t) l < 0) : fnd9 l t = (def0, false) := if_pos h
theorem fnd9_at {l : List DDef} {t : ByteArray} {j : Nat} {d : DDef} (h : ixI (isName t) l = (j : Int)) (hd : l[j]? = some d) : fnd9 l t = (d, true) := by
  unfold fnd9
  rw [h, if_neg (by omega), Int.toNat_natCast, List.getD_eq_getElem?_getD, hd]; rfl

theorem ixDef_ret {q : Nat} {fnq : Func} {caps : Array Value} (g : List (DDef)) (p : (DDef) → Bool) (vx : Value) {w : World} {ro : Nat → Prop} (hro : ∀ b, ro b → b < w.heap.size) (hx : SlV ro w 5 DefC vx g) (hf : Tryd.prog.funcs[q]? = some fnq) (hfb : (fnq.body.isSome && !(fnq.name == "runtime.NumGoroutine")) = true) (hp : ∀ (x : DDef) (u : World), x ∈ g → Below w.heap.size w u → Ret Tryd.prog q (#[defV x] ++ caps) u fun v u2 => v = .bool (p x) ∧ Below u.heap.size u u2) : Ret Tryd.prog 58 #[vx, .func (.func q) #[] caps] w fun v w' => v = .int .i64 (ixI p g) ∧ Below w.heap.size w w' := by
 obtain ⟨ad, cap, rfl, haa, hab, hac, had⟩ := id hx
 have ham : g.length ≤ 9223372036854775807 := by have h1 := haa; have h2 := hab; unfold maxLen at h2; omega
 refine Ret.enter (P := Tryd.prog) (n := 19) (args := [.slice ad g.length cap, .func (.func q) #[] caps]) (σ := [(0, .slice ad g.length cap), (1, .func (.func q) #[] caps)]) Tryd.func58 rfl rfl rfl rfl ?_
 have hS := St.start (ro := ro) hro
 refine W.seq (W.region (WL.assign rfl rfl rfl (WL.nil (N.seq (W.seq (W.seq (W.region (WL.move rfl rfl rfl (WL.lenSlice Tryd.underlying62 rfl rfl rfl ?_)))))))))
 refine WL.move rfl rfl rfl (WL.nil (N.seq (W.block ?_)))
 refine W.loop (α := Nat) (fun (k : Nat) => [(0, .slice ad g.length cap), (1, .func (.func q) #[] caps), (7, .int .i64 (g.length : Int)), (8, .int .i64 (k : Int))]) (fun (k : Nat) u => St w w u ro [] [] ∧ k ≤ g.length ∧ (g.take k).findIdx? p = none) (fun (k : Nat) => g.length - k) 0 ⟨rfl, rfl, rfl, rfl, trivial⟩ ⟨hS, Nat.zero_le _, rfl⟩ ?_
 clear hS
 rintro k w1 ⟨hS, hk, hno⟩
 refine W.seq (W.region (WL.bin rfl rfl rfl rfl rfl (WL.nil (N.seq (W.seq ?_)))))
 refine W.cond rfl (fun hc2 => ?_) (fun hc2 => ?_)
 ·
  have hc2p : (k : Int) < (g.length : Int) := by simpa using hc2
  refine W.skip (N.seq (W.seq (W.block (W.seq (W.region (WL.move rfl rfl rfl (WL.assign rfl rfl rfl (WL.nil (N.seq ?_)))))))))
  refine W.seq (W.region (WL.move rfl rfl rfl (WL.move rfl rfl rfl (WL.move rfl rfl rfl ?_))))
  have hj3 : k < g.length := by omega
  obtain ⟨x3, hx3⟩ : ∃ zz, g[k]? = some zz := ⟨_, List.getElem?_eq_getElem hj3⟩
  obtain ⟨b3, o3, cs3, hE3, hr3, hl3, hc3, hQ3⟩ := had k _ hx3
  obtain ⟨rfl, hdn3, hdm3⟩ := hQ3
  refine WL.indexAddrE (j := k) Tryd.underlying62 isz_66 rfl rfl rfl rfl hj3 hE3 (WL.loadN (cs := [.string x3.name, .int .i64 x3.mod, .bool x3.fn, .bool x3.weak, .bool x3.here]) agg_66 rfl rfl rfl rfl (hS.roCells hr3 hc3) ?_)
  refine WL.callV (vs := [.agg #[.string x3.name, .int .i64 x3.mod, .bool x3.fn, .bool x3.weak, .bool x3.here]]) (cs := caps) hf hfb rfl rfl rfl rfl (hp x3 _ (List.mem_of_getElem? hx3) hS.below) ?_
  rintro v w4 ⟨rfl, hbl⟩
  replace hS := hS.grow hbl
  refine WL.nil (N.seq ?_)
  refine W.cond rfl (fun hc5 => ?_) (fun hc5 => ?_)
  ·
   refine W.seq (W.region (WL.move rfl rfl rfl (WL.assign rfl rfl rfl (WL.nil (N.seq ?_)))))
   refine Fin.ret1 rfl (v := .int .i64 (k : Int)) rfl ?_
   exact ⟨by rw [find_here hno hx3 hc5], hS.below⟩
  refine W.skip (N.blk (N.seq (W.region ?_)))
  refine WL.add (c := (k : Int) + 1) rfl rfl rfl rfl (rfl) (by omega) ?_
  refine WL.move rfl rfl rfl (WL.nil ?_)
  exact N.loop (k + 1) ⟨rfl, rfl, rfl, rfl, trivial⟩ ⟨hS, by omega, find_next hno hx3 hc5⟩ (by first | omega | (simp only; omega))
 have hc2p : ¬ ((k : Int) < (g.length : Int)) := by simpa using hc2
 refine W.exit (X.seq (X.loop (X.blk (N.seq (W.seq (W.region (WL.assign rfl rfl rfl (WL.nil (N.seq ?_)))))))))
 refine Fin.ret1 rfl (v := .int .i64 (-1)) rfl ?_
 have e : k = g.length := by omega
 subst e
 rw [List.take_length] at hno
 exact ⟨by rw [find_end hno], hS.below⟩

theorem find1_ret (x : DDef) (t : ByteArray) (bg : Nat) {w : World} {ro : Nat → Prop} (hro : ∀ b, ro b → b < w.heap.size) (hbg : ro bg) (hcg : CellsAt w bg 0 [.string t]) : Ret Tryd.prog 59 #[.agg #[.string x.name, .int .i64 x.mod, .bool x.fn, .bool x.weak, .bool x.here], .pointer (some ⟨bg, 0, none⟩)] w fun v w' => v = .bool (isName t x) ∧ Below w.heap.size w w' := by
 refine Ret.enter (P := Tryd.prog) (n := 8) (args := [.agg #[.string x.name, .int .i64 x.mod, .bool x.fn, .bool x.weak, .bool x.here], .pointer (some ⟨bg, 0, none⟩)]) (σ := [(0, .agg #[.string x.name, .int .i64 x.mod, .bool x.fn, .bool x.weak, .bool x.here]), (1, .pointer (some ⟨bg, 0, none⟩))]) Tryd.func59 rfl rfl rfl rfl ?_
 have hS := St.start (ro := ro) hro
 refine W.seq (W.region ?_)
 refine WL.box (v := .agg #[.string x.name, .int .i64 x.mod, .bool x.fn, .bool x.weak, .bool x.here]) (cs := [.string x.name, .int .i64 x.mod, .bool x.fn, .bool x.weak, .bool x.here]) rfl rfl rfl rfl hS ?_
 clear hS; intro w2 b1 hb_b1 hS
 refine WL.assign rfl rfl rfl (WL.nil (N.seq (W.seq (W.region (WL.fieldAddr fo_66_0 rfl rfl rfl (WL.load1 (v := .string x.name) one_9 rfl rfl rfl (hS.cell 0 rfl rfl) (WL.load1 (v := .string t) one_9 rfl rfl rfl (hS.roCells hbg hcg 0 _ rfl) (WL.eqStr rfl rfl rfl rfl (WL.assign rfl rfl rfl ?_)))))))))
 refine WL.nil (N.seq ?_)
 refine Fin.ret1 rfl (v := .bool (decide (x.name = t))) rfl ?_
 exact ⟨rfl, hS.below⟩

set_option maxRecDepth 10000 in
set_option maxHeartbeats 4000000 in
theorem rfind_ret (xs : List DDef) (t : ByteArray) (vx : Value) {w : World} {ro : Nat → Prop} (hro : ∀ b, ro b → b < w.heap.size) (hx : SlV ro w 5 DefC vx xs) : Ret Tryd.prog 28 #[vx, .string t] w fun v w' => v = .tuple #[defV (fnd9 xs t).1, .bool (fnd9 xs t).2] ∧ Below w.heap.size w w' := by
 obtain ⟨ad, cap, rfl, haa, hab, hac, had⟩ := id hx
 have ham : xs.length ≤ 9223372036854775807 := by have h1 := haa; have h2 := hab; unfold maxLen at h2; omega
 refine Ret.enter (P := Tryd.prog) (n := 17) (args := [.slice ad xs.length cap, .string t]) (σ := [(0, .slice ad xs.length cap), (1, .string t)]) Tryd.func28 rfl rfl rfl rfl ?_
 have hS := St.start (ro := ro) hro
 refine W.seq (W.region ?_)
 refine WL.box (v := .string t) (cs := [.string t]) rfl rfl rfl rfl hS ?_
 clear hS; intro w2 b1 hb_b1 hS
 refine WL.alloc (tyZero_spec zer_66) rfl rfl hS ?_
 clear hS; intro w4 b3 hb_b3 hS
 refine WL.assign rfl rfl rfl (WL.nil (N.seq (W.seq (W.region (WL.move rfl rfl rfl ?_)))))
 refine WL.makeFunc (vs := #[.pointer (some ⟨b1, 0, none⟩)]) rfl rfl rfl ?_
 refine WL.callF (vs := [.slice ad xs.length cap, .func (.func 59) #[] #[.pointer (some ⟨b1, 0, none⟩)]]) Tryd.func58 (by kernel_rfl) rfl rfl rfl (ixDef_ret xs (isName t) _ (ro := ro) (fun b hb => (hS.snap b hb).1) (SlV.keep hx hS.alike (fun _ _ q => q)) Tryd.func59 (by kernel_rfl) (fun x u hm hb => find1_ret x t b1 (ro := fun z => z < u.heap.size) (fun _ h => h) (Nat.lt_of_lt_of_le (hS.keys b1 (by simp [keysOf])).2.1 hb.size) ((hS.cells 1 (m := 1) rfl rfl).keep (hb.block _ (hS.keys b1 (by simp [keysOf])).2.1)))) ?_
 rintro v w5 ⟨rfl, hbl⟩
 replace hS := hS.grow hbl
 refine WL.assign rfl rfl rfl (WL.nil (N.seq (W.seq (W.seq (W.region (WL.move rfl rfl rfl (WL.bin rfl rfl rfl rfl rfl (WL.nil (N.seq ?_)))))))))
 refine W.cond rfl (fun hc6 => ?_) (fun hc6 => ?_)
 ·
  have hc6p : ixI (isName t) xs < 0 := by simpa using hc6
  refine W.seq (W.region ?_)
  refine WL.build (ps := []) (cs := [.string ⟨#[]⟩, .int .i64 0, .bool false, .bool false, .bool false]) rfl rfl rfl (by kernel_rfl) ?_
  refine WL.store (L' := [(b3, .cells #[.string ⟨#[]⟩, .int .i64 0, .bool false, .bool false, .bool false] 66 (0, 0)), (b1, .cells #[.string t] 9 (0, 0))]) 0 rfl rfl rfl rfl siz_66 rfl rfl rfl rfl rfl hS ?_
  clear hS; intro w7 hS
  refine WL.assign rfl rfl rfl (WL.nil (N.seq ?_))
  refine Fin.retCT rfl (v := .agg #[.string ⟨#[]⟩, .int .i64 0, .bool false, .bool false, .bool false]) (v' := .bool false) rfl (tyAgg_run agg_66 (cs := [.string ⟨#[]⟩, .int .i64 0, .bool false, .bool false, .bool false]) rfl (hS.cells 0 (m := 5) rfl rfl)) rfl ?_
  exact ⟨by rw [fnd9_no hc6p]; rfl, hS.below⟩
 have hc6p : ¬ (ixI (isName t) xs < 0) := by simpa using hc6
 refine W.skip (N.seq (W.seq (W.region (WL.move rfl rfl rfl (WL.move rfl rfl rfl ?_)))))
 obtain ⟨jm, hjm, hjl⟩ := ixI_nat hc6p
 refine WL.set 14 (v' := .int .i64 (jm : Int)) rfl (by rw [hjm]) ?_
 have hj8 : jm < xs.length := hjl
 obtain ⟨x8, hx8⟩ : ∃ zz, xs[jm]? = some zz := ⟨_, List.getElem?_eq_getElem hj8⟩
 obtain ⟨b8, o8, cs8, hE8, hr8, hl8, hc8, hQ8⟩ := had jm _ hx8
 obtain ⟨rfl, hdn8, hdm8⟩ := hQ8
 refine WL.indexAddrE (j := jm) Tryd.underlying62 isz_66 rfl rfl rfl rfl hj8 hE8 (WL.loadN (cs := [.string x8.name, .int .i64 x8.mod, .bool x8.fn, .bool x8.weak, .bool x8.here]) agg_66 rfl rfl rfl rfl (hS.roCells hr8 hc8) ?_)
 refine WL.store (L' := [(b3, .cells #[.string x8.name, .int .i64 x8.mod, .bool x8.fn, .bool x8.weak, .bool x8.here] 66 (0, 0)), (b1, .cells #[.string t] 9 (0, 0))]) 0 rfl rfl rfl rfl siz_66 rfl rfl rfl rfl rfl hS ?_
 clear hS; intro w9 hS
 refine WL.assign rfl rfl rfl (WL.nil (N.seq ?_))
 refine Fin.retCT rfl (v := .agg #[.string x8.name, .int .i64 x8.mod, .bool x8.fn, .bool x8.weak, .bool x8.here]) (v' := .bool true) rfl (tyAgg_run agg_66 (cs := [.string x8.name, .int .i64 x8.mod, .bool x8.fn, .bool x8.weak, .bool x8.here]) rfl (hS.cells 0 (m := 5) rfl rfl)) rfl ?_
 exact ⟨by rw [fnd9_at hjm hx8]; rfl, hS.below⟩

theorem nothing_ret (p : Int) {w : World} {ro : Nat → Prop} (hro : ∀ b, ro b → b < w.heap.size) (hp : inI p) : Ret Tryd.prog 63 #[.int .i64 p] w fun v w' => SlV (fun b => w.heap.size ≤ b ∧ b < w'.heap.size) w' 8 (BlockC (fun b => w.heap.size ≤ b ∧ b < w'.heap.size) w') v (nothing10 p) ∧ Below w.heap.size w w' := by
 refine Ret.enter (P := Tryd.prog) (n := 10) (args := [.int .i64 p]) (σ := [(0, .int .i64 p)]) Tryd.func63 rfl rfl rfl rfl ?_
 have hS := St.start (ro := ro) hro
 refine W.seq (W.region (WL.assign rfl rfl rfl (WL.nil (N.seq (W.seq (W.region (WL.move rfl rfl rfl ?_)))))))
 refine WL.build (ps := [(0, .int .i64 1)]) (cs := [.int .i64 1, .int .i64 0, .int .i64 0, .int .u64 0, .string ⟨#[]⟩, .slice none 0 0]) rfl rfl rfl (by kernel_rfl) ?_
 refine WL.buildSlice (ps := [(0, .agg #[.int .i64 1, .int .i64 0, .int .i64 0, .int .u64 0, .string ⟨#[]⟩, .slice none 0 0])]) (cs := [.int .i64 1, .int .i64 0, .int .i64 0, .int .u64 0, .string ⟨#[]⟩, .slice none 0 0]) Tryd.underlying87 (tyZero_spec zer_86) rfl rfl rfl rfl (by kernel_rfl) hS ?_
 clear hS; intro w2 b1 hb_b1 hS
 refine WL.move rfl rfl rfl ?_
 refine WL.build (ps := [(0, .int .i64 3), (1, .int .i64 p)]) (cs := [.int .i64 3, .int .i64 p, .int .i64 0, .slice none 0 0, .int .i64 0, .slice none 0 0]) rfl rfl rfl (by kernel_rfl) ?_
 refine WL.build (ps := [(0, .int .i64 p), (1, .slice (some ⟨b1, 0, none⟩) 1 1), (2, .agg #[.int .i64 3, .int .i64 p, .int .i64 0, .slice none 0 0, .int .i64 0, .slice none 0 0])]) (cs := [.int .i64 p, .slice (some ⟨b1, 0, none⟩) 1 1, .int .i64 3, .int .i64 p, .int .i64 0, .slice none 0 0, .int .i64 0, .slice none 0 0]) rfl rfl rfl (by kernel_rfl) ?_
 refine WL.buildSlice (ps := [(0, .agg #[.int .i64 p, .slice (some ⟨b1, 0, none⟩) 1 1, .int .i64 3, .int .i64 p, .int .i64 0, .slice none 0 0, .int .i64 0, .slice none 0 0])]) (cs := [.int .i64 p, .slice (some ⟨b1, 0, none⟩) 1 1, .int .i64 3, .int .i64 p, .int .i64 0, .slice none 0 0, .int .i64 0, .slice none 0 0]) Tryd.underlying33 (tyZero_spec zer_91) rfl rfl rfl rfl (by kernel_rfl) hS ?_
 clear hS; intro w4 b3 hb_b3 hS
 refine WL.assign rfl rfl rfl (WL.nil (N.seq ?_))
 refine Fin.ret1 rfl (v := .slice (some ⟨b3, 0, none⟩) 1 1) rfl ?_
 have hI : SlV (fun b => w.heap.size ≤ b ∧ b < w4.heap.size) w4 6 (InstC (fun b => w.heap.size ≤ b ∧ b < w4.heap.size) w4) (.slice (some ⟨b1, 0, none⟩) 1 1) [⟨1, 0, 0, 0, ⟨#[]⟩, []⟩] := slv_blk (hS.own _ (List.mem_of_getElem? (i := 1) rfl)) rfl (chunk1' rfl ⟨_, rfl, slv_nil, by decide, by decide, by decide, by decide, by decide⟩) ((hS.keys b1 (by simp [keysOf])).imp id (·.1)) rfl (by decide)
 exact ⟨slv_blk (hS.own _ (List.mem_of_getElem? (i := 0) rfl)) rfl (chunk1' rfl ⟨_, _, rfl, hI, ⟨_, _, rfl, slv_nil, slv_nil, show inI 3 by decide, hp, show inI 0 by decide, show inI 0 by decide⟩, hp⟩) ((hS.keys b3 (by simp [keysOf])).imp id (·.1)) rfl (show 1 ≤ maxLen by decide), hS.below⟩

theorem behindF_ret {w0 ws w : World} {ro : Nat → Prop} {L : List (Nat × Obj)} {Rs : List Row} (v : Value) (n : Nat) (xs cs : List Value) (b : Nat) (hS : St w0 ws w ro L (⟨v, 35, 4, n, xs⟩ :: Rs)) (hl : cs.length = 1 * 4) (h1 : ∀ u ∈ cs, u.oneCell' = true) (hcs : CellsAt w b 0 cs) (hn : n + 1 ≤ 1000000) : Ret Tryd.prog 64 #[v, .slice (some ⟨b, 0, none⟩) 1 1] w fun v' w' => St w0 ws w' ro L (⟨v', 35, 4, n + 1, xs ++ cs⟩ :: Rs) := by
 refine Ret.enter (P := Tryd.prog) (n := 8) (args := [v, .slice (some ⟨b, 0, none⟩) 1 1]) (σ := [(0, v), (1, .slice (some ⟨b, 0, none⟩) 1 1)]) Tryd.func64 rfl rfl rfl rfl ?_
 refine W.seq (W.region (WL.assign rfl rfl rfl (WL.nil (N.seq (W.seq (W.region (WL.move rfl rfl rfl (WL.move rfl rfl rfl ?_))))))))
 refine WL.appendRo (r := ⟨v, 35, 4, n, xs⟩) (news := cs) 56 Tryd.underlying29 (tyZero_spec zer_35) byt_35 rfl rfl rfl rfl rfl hl (fun e => by cases e) (fun b off e => by cases e; exact hcs) (fun a e _ => by cases e; rfl) h1 rfl rfl hS (by simp only; unfold maxLen; omega) (by simp only; omega) ?_
 clear hS; intro w1 v2 hS _
 refine WL.assign rfl rfl rfl (WL.nil (N.seq ?_))
 refine Fin.ret1 rfl (v := v2) rfl ?_
 exact hS

theorem behindG_ret {w0 ws w : World} {ro : Nat → Prop} {L : List (Nat × Obj)} {Rs : List Row} (v : Value) (n : Nat) (xs cs : List Value) (b : Nat) (hS : St w0 ws w ro L (⟨v, 38, 4, n, xs⟩ :: Rs)) (hl : cs.length = 1 * 4) (h1 : ∀ u ∈ cs, u.oneCell' = true) (hcs : CellsAt w b 0 cs) (hn : n + 1 ≤ 1000000) : Ret Tryd.prog 67 #[v, .slice (some ⟨b, 0, none⟩) 1 1] w fun v' w' => St w0 ws w' ro L (⟨v', 38, 4, n + 1, xs ++ cs⟩ :: Rs) := by
 refine Ret.enter (P := Tryd.prog) (n := 8) (args := [v, .slice (some ⟨b, 0, none⟩) 1 1]) (σ := [(0, v), (1, .slice (some ⟨b, 0, none⟩) 1 1)]) Tryd.func67 rfl rfl rfl rfl ?_
 refine W.seq (W.region (WL.assign rfl rfl rfl (WL.nil (N.seq (W.seq (W.region (WL.move rfl rfl rfl (WL.move rfl rfl rfl ?_))))))))
 refine WL.appendRo (r := ⟨v, 38, 4, n, xs⟩) (news := cs) 40 Tryd.underlying30 (tyZero_spec zer_38) byt_38 rfl rfl rfl rfl rfl hl (fun e => by cases e) (fun b off e => by cases e; exact hcs) (fun a e _ => by cases e; rfl) h1 rfl rfl hS (by simp only; unfold maxLen; omega) (by simp only; omega) ?_
 clear hS; intro w1 v2 hS _
 refine WL.assign rfl rfl rfl (WL.nil (N.seq ?_))
 refine Fin.ret1 rfl (v := v2) rfl ?_
 exact hS

end Go.Proofs.YtapjejjmhmdmdaaDoor
