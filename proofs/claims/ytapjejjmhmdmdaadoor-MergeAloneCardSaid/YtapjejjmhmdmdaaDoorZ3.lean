/-
  Contracts of layer 10 (merge). No condition beyond those that each theorem states.
-/
import Derived.Test.YtapjejjmhmdmdaaDoorP2
import Derived.Test.YtapjejjmhmdmdaaDoorZ0
import Derived.Test.YtapjejjmhmdmdaaDoorA27
import Derived.Test.YtapjejjmhmdmdaaDoorA28
namespace Go.Proofs.YtapjejjmhmdmdaaDoor
open Go.RowKit

theorem gPow : Tryd.prog.globalNamed "internal/strconv.uint64pow10" = some 0 := by kernel_rfl
structure PowT (ro : Nat → Prop) (w : World) : Prop where
  g : ro 0
  t : Lib.TabIs Tryd.prog w "internal/strconv.uint64pow10" .u64 Lib.pow10Tab
theorem PowT.keep {ro ro' : Nat → Prop} {w w' : World} (h : PowT ro w) (ha : Alike ro w ro' w') : PowT ro' w' := by
  obtain ⟨h1, h2⟩ := ha 0 h.g
  refine ⟨h1, ?_⟩
  have h3 := h.t
  unfold Lib.TabIs World.var? at h3 ⊢
  simp only [gPow, Option.bind_some] at h3 ⊢
  rw [h2]; exact h3
theorem itoa_ret {w : World} {ro : Nat → Prop} (n : Nat) (hn : (n : Int) ≤ 9223372036854775807) (hp : PowT ro w) : Ret Tryd.prog 42 #[.int .i64 (n : Int)] w fun v w' => v = .string ⟨(Lib.itoa (n : Int)).toArray⟩ ∧ Below w.heap.size w w' := by
  refine Calls.mono (Any.strconv_Itoa Tryd.laysItoa (n : Int) (by omega) hn w hp.t) ?_
  rintro e w' ⟨rfl, k, os, rfl⟩
  refine ⟨_, rfl, rfl, (below_drewN (Below.refl _ _) k).trans ⟨rfl, rfl, rfl, by simp [Sort.grow], fun i hi => ?_⟩⟩
  · have hi' : i < (w.drewN k).heap.size := hi
    simp only [Sort.grow]
    rw [Array.getElem?_append_left hi']
theorem dot10_size (n : Nat) (hn : (n : Int) ≤ 9223372036854775807) : (⟨#[46]⟩ : ByteArray).size + (⟨(Lib.itoa (n : Int)).toArray⟩ : ByteArray).size ≤ 9223372036854775807 := by
  have h := Lib.itoa_length_le (n : Int) (by omega) hn
  show 1 + (Lib.itoa (n : Int)).toArray.size ≤ _
  rw [List.size_toArray]; omega
theorem dot10_le (n : Nat) (hn : (n : Int) ≤ 9223372036854775807) : (dot10 n).size ≤ 22 := by
  have h := Lib.itoa_length_le (n : Int) (by omega) hn
  unfold dot10
  rw [ByteArray.size_append]
  show 1 + (Lib.itoa (n : Int)).toArray.size ≤ _
  rw [List.size_toArray]; omega

theorem sindex_ret (xs : List ByteArray) (t : ByteArray) (vx : Value) {w : World} {ro : Nat → Prop} (hro : ∀ b, ro b → b < w.heap.size) (hx : SlV ro w 1 StrC vx xs) : Ret Tryd.prog 78 #[vx, .string t] w fun v w' => (∃ z : Int, v = .int .i64 z ∧ (0 ≤ z ↔ t ∈ xs)) ∧ Below w.heap.size w w' := by
 obtain ⟨ad, cap, rfl, haa, hab, hac, had⟩ := id hx
 have ham : xs.length ≤ 9223372036854775807 := by have h1 := haa; have h2 := hab; unfold maxLen at h2; omega
 refine Ret.enter (P := Tryd.prog) (n := 19) (args := [.slice ad xs.length cap, .string t]) (σ := [(0, .slice ad xs.length cap), (1, .string t)]) Tryd.func78 rfl rfl rfl rfl ?_
 have hS := St.start (ro := ro) hro
 refine W.seq (W.region (WL.assign rfl rfl rfl (WL.nil (N.seq (W.seq (W.seq (W.region (WL.move rfl rfl rfl (WL.lenSlice Tryd.underlying25 rfl rfl rfl ?_)))))))))
 refine WL.move rfl rfl rfl (WL.nil (N.seq (W.block ?_)))
 refine W.loop (α := Nat) (fun (k : Nat) => [(0, .slice ad xs.length cap), (1, .string t), (7, .int .i64 (xs.length : Int)), (8, .int .i64 (k : Int))]) (fun (k : Nat) u => St w w u ro [] [] ∧ k ≤ xs.length ∧ ¬ t ∈ xs.take k) (fun (k : Nat) => xs.length - k) 0 ⟨rfl, rfl, rfl, rfl, trivial⟩ ⟨hS, Nat.zero_le _, by simp⟩ ?_
 clear hS
 rintro k w1 ⟨hS, hk, hnt⟩
 refine W.seq (W.region (WL.bin rfl rfl rfl rfl rfl (WL.nil (N.seq (W.seq ?_)))))
 refine W.cond rfl (fun hc2 => ?_) (fun hc2 => ?_)
 ·
  have hc2p : (k : Int) < (xs.length : Int) := by simpa using hc2
  refine W.skip (N.seq (W.seq (W.block (W.seq (W.region (WL.move rfl rfl rfl (WL.assign rfl rfl rfl (WL.nil (N.seq ?_)))))))))
  refine W.seq (W.region (WL.move rfl rfl rfl (WL.move rfl rfl rfl (WL.move rfl rfl rfl ?_))))
  have hj3 : k < xs.length := by omega
  obtain ⟨x3, hx3⟩ : ∃ zz, xs[k]? = some zz := ⟨_, List.getElem?_eq_getElem hj3⟩
  obtain ⟨b3, o3, cs3, hE3, hr3, hl3, hc3, hQ3⟩ := had k _ hx3
  obtain ⟨rfl, hsz3⟩ := hQ3
  refine WL.indexAddrE (j := k) Tryd.underlying25 isz_9 rfl rfl rfl rfl hj3 hE3 (WL.load1 (v := .string x3) one_9 rfl rfl rfl (hS.roCells hr3 hc3 0 _ rfl) (WL.eqStr rfl rfl rfl rfl (WL.nil (N.seq ?_))))
  refine W.cond rfl (fun hc4 => ?_) (fun hc4 => ?_)
  ·
   have hc4p : t = x3 := by simpa using hc4
   refine W.seq (W.region (WL.move rfl rfl rfl (WL.assign rfl rfl rfl (WL.nil (N.seq ?_)))))
   refine Fin.ret1 rfl (v := .int .i64 (k : Int)) rfl ?_
   exact ⟨⟨_, rfl, ⟨fun _ => by rw [hc4p]; exact List.mem_of_getElem? hx3, fun _ => by omega⟩⟩, hS.below⟩
  have hc4p : ¬ (t = x3) := by simpa using hc4
  refine W.skip (N.blk (N.seq (W.region ?_)))
  refine WL.add (c := (k : Int) + 1) rfl rfl rfl rfl (rfl) (by omega) ?_
  refine WL.move rfl rfl rfl (WL.nil ?_)
  have hnt2 : ¬ t ∈ xs.take (k + 1) := by rw [take_next hx3, List.mem_append, List.mem_singleton]; exact fun e => e.elim hnt hc4p
  exact N.loop (k + 1) ⟨rfl, rfl, rfl, rfl, trivial⟩ ⟨hS, by omega, hnt2⟩ (by first | omega | (simp only; omega))
 have hc2p : ¬ ((k : Int) < (xs.length : Int)) := by simpa using hc2
 refine W.exit (X.seq (X.loop (X.blk (N.seq (W.seq (W.region (WL.assign rfl rfl rfl (WL.nil (N.seq ?_)))))))))
 refine Fin.ret1 rfl (v := .int .i64 (-1)) rfl ?_
 have e : k = xs.length := by omega
 rw [e, List.take_length] at hnt
 exact ⟨⟨_, rfl, ⟨fun h => absurd h (by omega), fun h => absurd h hnt⟩⟩, hS.below⟩

theorem contains_ret (xs : List ByteArray) (t : ByteArray) (vx : Value) {w : World} {ro : Nat → Prop} (hro : ∀ b, ro b → b < w.heap.size) (hx : SlV ro w 1 StrC vx xs) : Ret Tryd.prog 43 #[vx, .string t] w fun v w' => v = .bool (decide (t ∈ xs)) ∧ Below w.heap.size w w' := by
 refine Ret.enter (P := Tryd.prog) (n := 9) (args := [vx, .string t]) (σ := [(0, vx), (1, .string t)]) Tryd.func43 rfl rfl rfl rfl ?_
 have hS := St.start (ro := ro) hro
 refine W.seq (W.region (WL.assign rfl rfl rfl (WL.nil (N.seq (W.seq (W.region (WL.move rfl rfl rfl (WL.move rfl rfl rfl ?_))))))))
 refine WL.callF (vs := [vx, .string t]) Tryd.func78 (by kernel_rfl) rfl rfl rfl (sindex_ret xs t _ (ro := ro) (fun b hb => (hS.snap b hb).1) hx) ?_
 rintro v w1 ⟨⟨z, rfl, hz⟩, hbl⟩
 replace hS := hS.grow hbl
 refine WL.bin rfl rfl rfl rfl rfl (WL.assign rfl rfl rfl (WL.nil (N.seq ?_)))
 refine Fin.ret1 rfl (v := .bool (decide (0 ≤ z))) rfl ?_
 exact ⟨congrArg Value.bool (decide_eq_decide.2 hz), hS.below⟩

theorem local_ret (n : Nat) (xs : List ByteArray) (vx : Value) {w : World} {ro : Nat → Prop} (hro : ∀ b, ro b → b < w.heap.size) (hx : SlV ro w 1 StrC vx xs) (hpw : PowT ro w) (hn : n + xs.length ≤ 9223372036854775800) : Ret Tryd.prog 21 #[.int .i64 (n : Int), vx] w fun v w' => v = .tuple #[.string (dot10 (loc10 xs n)), .int .i64 ((loc10 xs n : Nat) + 1 : Int)] ∧ Below w.heap.size w w' := by
 have hxl : xs.length ≤ 9223372036854775807 := slv_len hx
 refine Ret.enter (P := Tryd.prog) (n := 21) (args := [.int .i64 (n : Int), vx]) (σ := [(0, .int .i64 (n : Int)), (1, vx)]) Tryd.func21 rfl rfl rfl rfl ?_
 have hS := St.start (ro := ro) hro
 refine W.seq (W.region (WL.assign rfl rfl rfl (WL.assign rfl rfl rfl (WL.nil (N.seq (W.seq (W.region (WL.move rfl rfl rfl ?_))))))))
 refine WL.max2 rfl rfl rfl rfl ?_
 refine WL.set 8 (v' := .int .i64 (n : Int)) rfl (congrArg (Value.int .i64) (if_neg (by omega))) ?_
 refine WL.assign rfl rfl rfl (WL.nil (N.seq (W.block ?_)))
 refine W.loop (α := Nat × Nat) (fun ⟨c, f⟩ => [(0, .int .i64 (c : Int)), (1, vx)]) (fun ⟨c, f⟩ u => St w w u ro [] [] ∧ locF xs f c = loc10 xs n ∧ c + f ≤ n + xs.length) (fun ⟨c, f⟩ => f) (n, xs.length) ⟨rfl, rfl, trivial⟩ ⟨hS, rfl, Nat.le_refl _⟩ ?_
 clear hS
 rintro ⟨c, f⟩ w1 ⟨hS, hlc, hcf⟩
 refine W.seq (W.block (W.seq (W.region (WL.move rfl rfl rfl ?_))))
 refine WL.callF (vs := [.int .i64 (c : Int)]) Tryd.func42 (by kernel_rfl) rfl rfl rfl (itoa_ret c (by omega) (hpw.keep hS.alike)) ?_
 rintro v w2 ⟨rfl, hbl⟩
 replace hS := hS.grow hbl
 refine WL.addStr rfl rfl rfl rfl (dot10_size c (by omega)) ?_
 refine WL.set 13 (v' := .string (dot10 c)) rfl rfl ?_
 refine WL.assign rfl rfl rfl (WL.nil (N.seq (W.seq (W.region (WL.move rfl rfl rfl (WL.move rfl rfl rfl ?_))))))
 refine WL.callF (vs := [vx, .string (dot10 c)]) Tryd.func43 (by kernel_rfl) rfl rfl rfl (contains_ret xs (dot10 c) _ (ro := ro) (fun b hb => (hS.snap b hb).1) (SlV.keep hx hS.alike (fun _ _ q => q))) ?_
 rintro v w3 ⟨rfl, hbl⟩
 replace hS := hS.grow hbl
 refine WL.not rfl rfl rfl (WL.nil (N.seq ?_))
 refine W.cond rfl (fun hc4 => ?_) (fun hc4 => ?_)
 ·
  have hc4p : ¬ (dot10 c ∈ xs) := by simpa using hc4
  refine W.seq (W.region (WL.move rfl rfl rfl (WL.move rfl rfl rfl ?_)))
  refine WL.add (c := (c : Int) + 1) rfl rfl rfl rfl (rfl) (by omega) ?_
  refine WL.assign rfl rfl rfl (WL.assign rfl rfl rfl (WL.nil (N.seq ?_)))
  refine Fin.ret2 rfl (v := .string (dot10 c)) (v' := .int .i64 ((c : Int) + 1)) rfl rfl ?_
  have e : loc10 xs n = c := by rw [← hlc]; cases f with | zero => rfl | succ f => rw [locF, if_neg hc4p]
  rw [e]
  exact ⟨rfl, hS.below⟩
 have hc4p : dot10 c ∈ xs := by simpa using hc4
 refine W.skip (N.blk (N.seq (W.region (WL.move rfl rfl rfl ?_))))
 refine WL.add (c := (c : Int) + 1) rfl rfl rfl rfl (rfl) (by omega) ?_
 refine WL.assign rfl rfl rfl (WL.nil ?_)
 obtain ⟨f2, rfl⟩ : ∃ f2, f = f2 + 1 := by cases f with | zero => exact absurd hc4p (by have h := loc10_not xs n; rw [← hlc] at h; exact h) | succ f => exact ⟨f, rfl⟩
 rw [locF, if_pos hc4p] at hlc
 exact N.loop (c + 1, f2) ⟨rfl, rfl, trivial⟩ ⟨hS, hlc, by omega⟩ (by first | omega | (simp only; omega))

end Go.Proofs.YtapjejjmhmdmdaaDoor

namespace Go.Proofs.YtapjejjmhmdmdaaDoor
open Go.RowKit
theorem one_40 : tyOne Tryd.prog 40 = true := by kernel_rfl
theorem siz_3 : tySize Tryd.prog 3 1 = true := by kernel_rfl
theorem zb_9 : (Tryd.prog.info? 9).bind (·.zero) = some (.string ⟨#[]⟩) := by kernel_rfl
def MapC (ro : Nat → Prop) (w : World) (cs : List Value) (g : Ren) : Prop := ∃ b es ck c, cs = [.map (some b)] ∧ ro b ∧ w.heap[b]? = some (.map es ck) ∧ MapG kS kS es ck c g
theorem MapC.keep {ro ro' : Nat → Prop} {w w' : World} {cs : List Value} {g : Ren} (h : MapC ro w cs g) (ha : Alike ro w ro' w') : MapC ro' w' cs g := by
  obtain ⟨b, es, ck, c, h1, h2, h3, h4⟩ := h
  exact ⟨b, es, ck, c, h1, (ha b h2).1, (ha b h2).2.trans h3, h4⟩

theorem give10_ret {w0 ws w : World} {ro : Nat → Prop} {L : List (Nat × Obj)} {Rs : List Row} (bt bm bn bk : Nat) (es : Array MapEntry) (ck c nn : Nat) (g : Ren) (xs : List ByteArray) (vx : Value) (t : ByteArray) (bi : Int) (hS : St w0 ws w ro ((bt, .cells #[.map (some bm)] 40 (0, 0)) :: (bm, .map es ck) :: (bn, .cells #[.int .i64 (nn : Int)] 3 (0, 0)) :: (bk, .cells #[vx] 25 (0, 0)) :: L) Rs) (hM : MapG kS kS es ck c g) (hx : SlV ro ws 1 StrC vx xs) (hpw : PowT ro ws) (hn : nn + xs.length ≤ 9223372036854775800) : Ret Tryd.prog 25 #[.string t, .int .i64 bi, .pointer (some ⟨bt, 0, none⟩), .pointer (some ⟨bn, 0, none⟩), .pointer (some ⟨bk, 0, none⟩)] w fun v w' => v = .tuple #[] ∧ ∃ es' ck', MapG kS kS es' ck' (c + 1) (give10 xs (g, nn) (t, bi)).1 ∧ St w0 ws w' ro ((bt, .cells #[.map (some bm)] 40 (0, 0)) :: (bm, .map es' ck') :: (bn, .cells #[.int .i64 ((give10 xs (g, nn) (t, bi)).2 : Int)] 3 (0, 0)) :: (bk, .cells #[vx] 25 (0, 0)) :: L) Rs := by
 have hxl : xs.length ≤ 9223372036854775807 := slv_len hx
 refine Ret.enter (P := Tryd.prog) (n := 29) (args := [.string t, .int .i64 bi, .pointer (some ⟨bt, 0, none⟩), .pointer (some ⟨bn, 0, none⟩), .pointer (some ⟨bk, 0, none⟩)]) (σ := [(0, .string t), (1, .int .i64 bi), (2, .pointer (some ⟨bt, 0, none⟩)), (3, .pointer (some ⟨bn, 0, none⟩)), (4, .pointer (some ⟨bk, 0, none⟩))]) Tryd.func25 rfl rfl rfl rfl ?_
 refine W.seq (W.region (WL.load1 (v := .map (some bm)) one_40 rfl rfl rfl (hS.cell 0 rfl rfl) (WL.move rfl rfl rfl ?_)))
 refine WL.mapGetOk (c := (g t).isSome) t keyE_str Tryd.underlying40 Tryd.underlying9 zb_9 hM rfl rfl rfl rfl (hS.own _ (List.mem_of_getElem? (i := 1) rfl)) (v := .string ((g t).getD ⟨#[]⟩)) (by cases g t <;> rfl) rfl ?_
 refine WL.move rfl rfl rfl (WL.extract (v := .string ((g t).getD ⟨#[]⟩)) rfl rfl rfl rfl (WL.extract (v := .bool ((g t).isSome)) rfl rfl rfl rfl (WL.assign rfl rfl rfl (WL.assign rfl rfl rfl (WL.nil (N.seq (W.seq (W.region (WL.move rfl rfl rfl ?_)))))))))
 refine WL.bin rfl rfl rfl rfl rfl (WL.move rfl rfl rfl ?_)
 cases hg1 : (decide (bi = 1))
 ·
  have hg1p : ¬ (bi = 1) := by simpa using hg1
  refine WL.skp rfl rfl (WL.skp rfl rfl (WL.pick (v := .bool false) rfl rfl rfl rfl rfl rfl (WL.nil (N.seq (W.condF rfl (W.skip ?_))))))
  refine Fin.end0 rfl ?_
  rw [give10_no1 (x := (t, bi)) hg1p]
  exact ⟨rfl, es, ck, hM.mono (by omega), hS⟩
 have hg1p : bi = 1 := by simpa using hg1
 refine WL.move rfl rfl rfl (WL.not rfl rfl rfl (WL.pick (v := .bool (!((g t).isSome))) rfl rfl rfl rfl rfl rfl (WL.nil (N.seq ?_))))
 refine W.cond rfl (fun hc2 => ?_) (fun hc2 => ?_)
 ·
  refine W.drawA0 (S := fun u => CellsAt u bt (0) [.map (some bm)]) (by kernel_rfl) (fun w3 hbd => ?_)
  replace hS := hS.grow hbd
  refine WA.conv (fuel' := 9 + 1) (listed' := #[false, false, false, false, false, false, false, false, false, false]) (by kernel_rfl) (by kernel_rfl) (WA.take 0 (v := .map (some bm)) rfl rfl (by kernel_rfl) (by kernel_rfl) (by kernel_rfl) (fin_no_panic _) rfl (exec_load1 one_40 rfl (fun u hs => hs 0 _ rfl)) (hS.cells 0 (m := 1) rfl rfl) ?_)
  refine WA.conv (fuel' := 8 + 1) (listed' := #[true, false, false, false, false, false, false, false, false, false]) (by kernel_rfl) (by kernel_rfl) (WA.take 1 (v := .string t) rfl rfl (by kernel_rfl) (by kernel_rfl) (by kernel_rfl) (fin_no_panic _) rfl (exec_move rfl) (hS.cells 0 (m := 1) rfl rfl) ?_)
  refine WA.conv (fuel' := ([(2, .int .i64 (nn : Int)), (3, vx)] : List (Nat × Value)).length + 6) (listed' := #[true, true, false, false, false, false, false, false, false, false]) (by kernel_rfl) (by kernel_rfl) (WA.quiet [(2, .int .i64 (nn : Int)), (3, vx)] (by kernel_rfl) [(3, .pointer (some ⟨bn, 0, none⟩)), (4, .pointer (some ⟨bk, 0, none⟩)), (22, .map (some bm)), (23, .string t)] ⟨rfl, rfl, rfl, rfl, trivial⟩ (by kernel_rfl) ?_ (hS.cells 0 (m := 1) rfl rfl) ?_)
  ·
   refine ⟨⟨_, rfl, ?_⟩, ?_⟩
   ·
    refine WL.sub (σ' := [(3, .pointer (some ⟨bn, 0, none⟩))]) ⟨rfl, trivial⟩ ?_
    refine WL.load1 (v := .int .i64 (nn : Int)) one_3 rfl rfl rfl (hS.cell 2 rfl rfl) ?_
    exact WL.nil (N.cut () ⟨rfl, trivial⟩ rfl)
   refine ⟨⟨_, rfl, ?_⟩, ?_⟩
   ·
    refine WL.sub (σ' := [(4, .pointer (some ⟨bk, 0, none⟩))]) ⟨rfl, trivial⟩ ?_
    refine WL.load1 (v := vx) one_25 rfl rfl rfl (hS.cell 3 rfl rfl) ?_
    exact WL.nil (N.cut () ⟨rfl, trivial⟩ rfl)
   trivial
  refine WA.sub (σ' := [(3, .pointer (some ⟨bn, 0, none⟩)), (22, .map (some bm)), (23, .string t), (24, .int .i64 (nn : Int)), (25, vx)]) ⟨rfl, rfl, rfl, rfl, rfl, trivial⟩ ?_
  refine WA.conv (fuel' := 5 + 1) (listed' := #[true, true, true, true, false, false, false, false, false, false]) (by kernel_rfl) (by kernel_rfl) (WA.stepS 4 (by kernel_rfl) rfl ?_)
  refine WL.callF (vs := [.int .i64 (nn : Int), vx]) Tryd.func21 (by kernel_rfl) rfl rfl rfl (local_ret nn xs _ (ro := ro) (fun b hb => (hS.snap b hb).1) (SlV.keep hx hS.alike (fun _ _ q => q)) (hpw.keep hS.alike) (by omega)) ?_
  rintro v w4 ⟨rfl, hbl⟩
  replace hS := hS.grow hbl
  refine WL.nil (N.restS (hS.cells 0 (m := 1) rfl rfl) ?_)
  refine WA.conv (fuel' := 4 + 1) (listed' := #[true, true, true, true, true, false, false, false, false, false]) (by kernel_rfl) (by kernel_rfl) (WA.stepS 5 (by kernel_rfl) rfl ?_)
  refine WL.move rfl rfl rfl ?_
  refine WL.nil (N.restS (hS.cells 0 (m := 1) rfl rfl) ?_)
  refine WA.conv (fuel' := 3 + 1) (listed' := #[true, true, true, true, true, true, false, false, false, false]) (by kernel_rfl) (by kernel_rfl) (WA.take 7 (v := .int .i64 ((loc10 xs nn : Nat) + 1 : Int)) rfl rfl (by kernel_rfl) (by kernel_rfl) (by kernel_rfl) (fin_no_panic _) rfl (exec_extract rfl rfl) (hS.cells 0 (m := 1) rfl rfl) ?_)
  refine WA.conv (fuel' := 2 + 1) (listed' := #[true, true, true, true, true, true, false, true, false, false]) (by kernel_rfl) (by kernel_rfl) (WA.stepS 6 (by kernel_rfl) rfl ?_)
  refine WL.extract (v := .string (dot10 (loc10 xs nn))) rfl rfl rfl rfl ?_
  refine WL.nil (N.restS (hS.cells 0 (m := 1) rfl rfl) ?_)
  refine WA.conv (fuel' := 1 + 1) (listed' := #[true, true, true, true, true, true, true, true, false, false]) (by kernel_rfl) (by kernel_rfl) (WA.stepS 8 (by kernel_rfl) rfl ?_)
  refine WL.mapPut 1 t (dot10 (loc10 xs nn)) keyE_str Tryd.underlying40 Tryd.underlying9 hM rfl rfl rfl rfl rfl hS ?_
  clear hS; intro w6 es5 ck5 hM5 hS
  refine WL.nil (N.restS (hS.cells 0 (m := 1) rfl rfl) ?_)
  refine WA.conv (fuel' := 0 + 1) (listed' := #[true, true, true, true, true, true, true, true, true, false]) (by kernel_rfl) (by kernel_rfl) (WA.stepS 9 (by kernel_rfl) rfl ?_)
  refine WL.store (L' := ((bt, .cells #[.map (some bm)] 40 (0, 0)) :: (bm, .map es5 ck5) :: (bn, .cells #[.int .i64 ((loc10 xs nn : Nat) + 1 : Int)] 3 (0, 0)) :: (bk, .cells #[vx] 25 (0, 0)) :: L)) 2 rfl rfl rfl rfl siz_3 rfl rfl rfl rfl rfl hS ?_
  clear hS; intro w7 hS
  refine WL.nil (N.restS (hS.cells 0 (m := 1) rfl rfl) ?_)
  refine WA.doneN (by kernel_rfl) ?_
  refine Fin.end0 rfl ?_
  have hsm : (g t).isSome = false := by simpa using hc2
  rw [give10_yes (x := (t, bi)) hg1p hsm]
  exact ⟨rfl, es5, ck5, hM5, hS⟩
 refine W.skip ?_
 refine Fin.end0 rfl ?_
 have hsm : (g t).isSome = true := by simpa using hc2
 rw [give10_no2 (x := (t, bi)) hsm]
 exact ⟨rfl, es, ck, hM.mono (by omega), hS⟩

end Go.Proofs.YtapjejjmhmdmdaaDoor

namespace Go.Proofs.YtapjejjmhmdmdaaDoor
open Go.RowKit
theorem byt_40 : (Tryd.prog.info? 40).map (·.bytes) = some 8 := by kernel_rfl
theorem siz_40 : tySize Tryd.prog 40 1 = true := by kernel_rfl
theorem zer_40 : tyZero Tryd.prog 40 = some [.map none] := by kernel_rfl
set_option maxRecDepth 10000 in
set_option maxHeartbeats 4000000 in
theorem names10_ret (ms : List DMod) (vx : Value) {w : World} {ro : Nat → Prop} (hro : ∀ b, ro b → b < w.heap.size) (hx : SlV ro w 2 (ModC ro w) vx ms) (hpw : PowT ro w) (hml : ms.length ≤ 16) (hit : ∀ m ∈ ms, (its10 m).length ≤ 32) (hmx : (items9 ms).length ≤ 1048576) (hns : ∀ x ∈ items9 ms, x.name.size ≤ maxLen) : Ret Tryd.prog 12 #[vx] w fun v w' => SlV (roFrom ro w w') w' 1 (MapC (roFrom ro w w') w') v (nam10 (nms9 (items9 ms)) ms).1 ∧ Below w.heap.size w w' := by
 have hxo := hx
 obtain ⟨adl, capl, rfl, hla, hlb, hlc, hld⟩ := hxo
 have hlm : ms.length ≤ 9223372036854775807 := slv_len hx
 refine Ret.enter (P := Tryd.prog) (n := 58) (args := [.slice adl ms.length capl]) (σ := [(0, .slice adl ms.length capl)]) Tryd.func12 rfl rfl rfl rfl ?_
 have hS := St.start (ro := ro) hro
 have hsub : ∀ b, ro b → ro b ∨ w.heap.size ≤ b := fun _ h => .inl h
 refine W.seq (W.region (WL.assign rfl rfl rfl (WL.nil (N.seq (W.seq (W.region (WL.move rfl rfl rfl ?_)))))))
 refine WL.callF (vs := [.slice adl ms.length capl]) Tryd.func24 (by kernel_rfl) rfl rfl rfl (names_ret ms _ (ro := ro) (fun b hb => (hS.snap b hb).1) (SlV.keep hx hS.alike (fun _ _ q => q.keep hS.alike)) hmx hns) ?_
 rintro vn w1 ⟨hnv, hbl⟩
 have hal2 := hS.alikeTo hbl (ro' := (roFrom ro w w1)) (fun b hb => .inl hb)
 replace hsub : ∀ b, (roFrom ro w w1) b → ro b ∨ w.heap.size ≤ b := fun b hb => hb.elim (hsub b) (fun h => .inr (Nat.le_trans hS.below.size h.1))
 replace hld := hld.keep hal2 (fun _ _ h => h.keep hal2)
 replace hx := SlV.keep hx hal2 (fun _ _ h => h.keep hal2)
 replace hpw := hpw.keep hal2
 replace hS := hS.readNew hbl
 obtain ⟨ns, hns2⟩ : ∃ ns, ns = nms9 (items9 ms) := ⟨_, rfl⟩
 rw [← hns2] at hnv
 replace hnv := SlV.keep hnv (ro' := (roFrom ro w w1)) (w' := w1) (Q' := StrC) (fun x hx => ⟨.inr hx, rfl⟩) (fun _ _ h => h)
 obtain ⟨adn, capn, rfl, hna, hnb, hnc, hnd⟩ := id hnv
 have hnm : ns.length ≤ 9223372036854775807 := by have h1 := hna; have h2 := hnb; unfold maxLen at h2; omega
 have hnl : ns.length ≤ 1048576 := by rw [hns2]; exact Nat.le_trans (nms9_length _) hmx
 refine WL.alloc (tyZero_spec zer_25) rfl rfl hS ?_
 clear hS; intro w4 b3 hb_b3 hS
 refine WL.store (L' := [(b3, .cells #[.slice adn ns.length capn] 25 (0, 0))]) 0 rfl rfl rfl rfl siz_25 rfl rfl rfl rfl rfl hS ?_
 clear hS; intro w5 hS
 refine WL.nil (N.seq (W.seq (W.region ?_)))
 refine WL.alloc (tyZero_spec zer_3) rfl rfl hS ?_
 clear hS; intro w7 b6 hb_b6 hS
 refine WL.store (L' := [(b6, .cells #[.int .i64 0] 3 (0, 0)), (b3, .cells #[.slice adn ns.length capn] 25 (0, 0))]) 0 rfl rfl rfl rfl siz_3 rfl rfl rfl rfl rfl hS ?_
 clear hS; intro w8 hS
 refine WL.nil (N.seq (W.seq (W.region (WL.assign rfl rfl rfl (WL.nil (N.seq (W.seq (W.seq (W.region ?_)))))))))
 refine WL.move rfl rfl rfl (WL.lenSlice Tryd.underlying22 rfl rfl rfl (WL.move rfl rfl rfl (WL.nil (N.seq (W.block ?_)))))
 replace hS := hS.row0 40 1
 refine W.loop (α := Nat × Value × List Value × (Nat → Prop) × World) (fun ⟨i, v, cs, R2, ws2⟩ => [(2, .slice none 0 0), (3, .pointer (some ⟨b3, 0, none⟩)), (4, .pointer (some ⟨b6, 0, none⟩)), (5, v), (16, .slice adl ms.length capl), (17, .int .i64 (ms.length : Int)), (18, .int .i64 (i : Int))]) (fun ⟨i, v, cs, R2, ws2⟩ u => St w ws2 u R2 [(b6, .cells #[.int .i64 ((nam10 ns (ms.take i)).2 : Int)] 3 (0, 0)), (b3, .cells #[.slice adn ns.length capn] 25 (0, 0))] [⟨v, 40, 1, i, cs⟩] ∧ i ≤ ms.length ∧ Chunks 1 (MapC R2 ws2) cs (nam10 ns (ms.take i)).1 ∧ Alike (roFrom ro w w1) w1 R2 ws2 ∧ (∀ b, R2 b → ro b ∨ w.heap.size ≤ b)) (fun ⟨i, v, cs, R2, ws2⟩ => ms.length - i) (0, (.slice none 0 0), [], (roFrom ro w w1), w1) ⟨rfl, rfl, rfl, rfl, rfl, rfl, rfl, trivial⟩ ⟨hS, Nat.zero_le _, Chunks.nil, Alike.refl, hsub⟩ ?_
 clear hS
 rintro ⟨i, v, cs, R2, ws2⟩ w9 ⟨hS, hi, hch, halL0, hsub⟩
 replace hld := hld.keep halL0 (fun _ _ h => h.keep halL0)
 replace hx := SlV.keep hx halL0 (fun _ _ h => h.keep halL0)
 replace hpw := hpw.keep halL0
 replace hnv := SlV.keep hnv halL0 (fun _ _ h => h)
 have hrow : w9.ownsRow w.heap.size 40 1 v (i) _ := hS.rows _ List.mem_cons_self
 obtain ⟨adv, capv, rfl, hr1v, hr2v, hr3v⟩ := row_shape hrow
 clear hrow
 have hnm := nam10_num hnl (ms.take i) (fun m hm => hit m (List.mem_of_mem_take hm))
 rw [List.length_take, Nat.min_eq_left hi] at hnm
 refine W.seq (W.region (WL.bin rfl rfl rfl rfl rfl (WL.nil (N.seq (W.seq ?_)))))
 refine W.cond rfl (fun hc10 => ?_) (fun hc10 => ?_)
 ·
  have hc10p : (i : Int) < (ms.length : Int) := by simpa using hc10
  refine W.skip (N.seq (W.seq (W.block (W.seq (W.region ?_)))))
  have hj11 : i < ms.length := by omega
  obtain ⟨x11, hx11⟩ : ∃ zz, ms[i]? = some zz := ⟨_, List.getElem?_eq_getElem hj11⟩
  obtain ⟨b11, o11, cs11, hE11, hr11, hl11, hc11, hQ11⟩ := hld i _ hx11
  obtain ⟨sf11, sg11, rfl, hfs11, hgs11⟩ := id hQ11
  obtain ⟨adf11, capf11, rfl, hfs11a, hfs11b, hfs11c, hfs11d⟩ := id hfs11
  have hfs11m : x11.funcs.length ≤ 9223372036854775807 := by have h1 := hfs11a; have h2 := hfs11b; unfold maxLen at h2; omega
  obtain ⟨adg11, capg11, rfl, hgs11a, hgs11b, hgs11c, hgs11d⟩ := id hgs11
  have hgs11m : x11.globs.length ≤ 9223372036854775807 := by have h1 := hgs11a; have h2 := hgs11b; unfold maxLen at h2; omega
  refine WL.indexAddrE (j := i) Tryd.underlying22 isz_32 rfl rfl rfl rfl hj11 hE11 (WL.loadN (cs := [.slice adf11 x11.funcs.length capf11, .slice adg11 x11.globs.length capg11]) agg_32 rfl rfl rfl rfl (hS.roCells hr11 hc11) ?_)
  refine WL.alloc (tyZero_spec zer_32) rfl rfl hS ?_
  clear hS; intro w13 b12 hb_b12 hS
  refine WL.store (L' := [(b12, .cells #[.slice adf11 x11.funcs.length capf11, .slice adg11 x11.globs.length capg11] 32 (0, 0)), (b6, .cells #[.int .i64 ((nam10 ns (ms.take i)).2 : Int)] 3 (0, 0)), (b3, .cells #[.slice adn ns.length capn] 25 (0, 0))]) 0 rfl rfl rfl rfl siz_32 rfl rfl rfl rfl rfl hS ?_
  clear hS; intro w14 hS
  refine WL.nil (N.seq (W.seq (W.region ?_)))
  refine WL.makeMap rfl rfl hS ?_
  clear hS; intro w16 b15 hS
  refine WL.alloc (tyZero_spec zer_40) rfl rfl hS ?_
  clear hS; intro w18 b17 hb_b17 hS
  refine WL.store (L' := [(b17, .cells #[.map (some b15)] 40 (0, 0)), (b15, .map #[] 0), (b12, .cells #[.slice adf11 x11.funcs.length capf11, .slice adg11 x11.globs.length capg11] 32 (0, 0)), (b6, .cells #[.int .i64 ((nam10 ns (ms.take i)).2 : Int)] 3 (0, 0)), (b3, .cells #[.slice adn ns.length capn] 25 (0, 0))]) 0 rfl rfl rfl rfl siz_40 rfl rfl rfl rfl rfl hS ?_
  clear hS; intro w19 hS
  refine WL.nil (N.seq (W.seq (W.region ?_)))
  refine WL.makeFunc (vs := #[.pointer (some ⟨b17, 0, none⟩), .pointer (some ⟨b6, 0, none⟩), .pointer (some ⟨b3, 0, none⟩)]) rfl rfl rfl ?_
  refine WL.assign rfl rfl rfl (WL.nil (N.seq (W.seq (W.seq (W.region (WL.fieldAddr fo_32_0 rfl rfl rfl (WL.load1 (v := .slice adf11 x11.funcs.length capf11) one_29 rfl rfl rfl (hS.cell 2 rfl rfl) (WL.lenSlice Tryd.underlying29 rfl rfl rfl (WL.move rfl rfl rfl ?_)))))))))
  refine WL.nil (N.seq (W.block ?_))
  replace hS : St w ws2 w19 R2 [(b17, .cells #[.map (some b15)] 40 (0, 0)), (b15, .map #[] 0), (b6, .cells #[.int .i64 ((nam10 ns (ms.take i)).2 : Int)] 3 (0, 0)), (b3, .cells #[.slice adn ns.length capn] 25 (0, 0)), (b12, .cells #[.slice adf11 x11.funcs.length capf11, .slice adg11 x11.globs.length capg11] 32 (0, 0))] [⟨.slice adv i capv, 40, 1, i, cs⟩] := hS.perm (((List.Perm.cons _ (List.Perm.cons _ (List.Perm.swap _ _ _)))).trans ((List.Perm.cons _ (List.Perm.cons _ (List.Perm.cons _ (List.Perm.swap _ _ _))))))
  refine W.loop (α := Nat × Array MapEntry × Nat) (fun ⟨kf, es1, ck1⟩ => [(2, .slice none 0 0), (3, .pointer (some ⟨b3, 0, none⟩)), (4, .pointer (some ⟨b6, 0, none⟩)), (5, .slice adv i capv), (7, .pointer (some ⟨b12, 0, none⟩)), (8, .pointer (some ⟨b17, 0, none⟩)), (9, .func (.func 25) #[] #[.pointer (some ⟨b17, 0, none⟩), .pointer (some ⟨b6, 0, none⟩), .pointer (some ⟨b3, 0, none⟩)]), (16, .slice adl ms.length capl), (17, .int .i64 (ms.length : Int)), (18, .int .i64 (i : Int)), (25, .slice adf11 x11.funcs.length capf11), (26, .int .i64 (x11.funcs.length : Int)), (27, .int .i64 (kf : Int))]) (fun ⟨kf, es1, ck1⟩ u => St w ws2 u R2 [(b17, .cells #[.map (some b15)] 40 (0, 0)), (b15, .map es1 ck1), (b6, .cells #[.int .i64 ((mod10 ns (nam10 ns (ms.take i)).2 ((its10 x11).take kf)).2 : Int)] 3 (0, 0)), (b3, .cells #[.slice adn ns.length capn] 25 (0, 0)), (b12, .cells #[.slice adf11 x11.funcs.length capf11, .slice adg11 x11.globs.length capg11] 32 (0, 0))] [⟨.slice adv i capv, 40, 1, i, cs⟩] ∧ kf ≤ x11.funcs.length ∧ MapG kS kS es1 ck1 (kf) (mod10 ns (nam10 ns (ms.take i)).2 ((its10 x11).take kf)).1) (fun ⟨kf, es1, ck1⟩ => x11.funcs.length - kf) (0, #[], 0) ⟨rfl, rfl, rfl, rfl, rfl, rfl, rfl, rfl, rfl, rfl, rfl, rfl, rfl, trivial⟩ ⟨hS, Nat.zero_le _, MapG.empty⟩ ?_
  clear hS
  rintro ⟨kf, es1, ck1⟩ w20 ⟨hS, hk1, hM1⟩
  have hmn1 := mod10_num hnl (nam10 ns (ms.take i)).2 ((its10 x11).take kf)
  have hitl1 := hit x11 (List.mem_of_getElem? hx11)
  have htl1 : ((its10 x11).take kf).length ≤ 32 := by rw [List.length_take]; omega
  refine W.seq (W.region (WL.bin rfl rfl rfl rfl rfl (WL.nil (N.seq (W.seq ?_)))))
  refine W.cond rfl (fun hc21 => ?_) (fun hc21 => ?_)
  ·
   have hc21p : (kf : Int) < (x11.funcs.length : Int) := by simpa using hc21
   refine W.skip (N.seq (W.seq (W.block (W.seq (W.region ?_)))))
   have hj22 : kf < x11.funcs.length := by omega
   obtain ⟨x22, hx22⟩ : ∃ zz, x11.funcs[kf]? = some zz := ⟨_, List.getElem?_eq_getElem hj22⟩
   obtain ⟨b22, o22, cs22, hE22, hr22, hl22, hc22, hQ22⟩ := hfs11d kf _ hx22
   obtain ⟨sb22, rfl, hbl22, hnm22, hbd22, hpr22⟩ := id hQ22
   obtain ⟨adb22, capb22, rfl, hbk22a, hbk22b, hbk22c, hbk22d⟩ := id hbl22
   have hbk22m : x22.blocks.length ≤ 9223372036854775807 := by have h1 := hbk22a; have h2 := hbk22b; unfold maxLen at h2; omega
   refine WL.indexAddrE (j := kf) Tryd.underlying29 isz_35 rfl rfl rfl rfl hj22 hE22 (WL.loadN (cs := [.string x22.name, .int .i64 x22.bind, .int .i64 x22.params, .slice adb22 x22.blocks.length capb22]) agg_35 rfl rfl rfl rfl (hS.roCells hr22 hc22) ?_)
   refine WL.alloc (tyZero_spec zer_35) rfl rfl hS ?_
   clear hS; intro w24 b23 hb_b23 hS
   refine WL.store (L' := [(b23, .cells #[.string x22.name, .int .i64 x22.bind, .int .i64 x22.params, .slice adb22 x22.blocks.length capb22] 35 (0, 0)), (b17, .cells #[.map (some b15)] 40 (0, 0)), (b15, .map es1 ck1), (b6, .cells #[.int .i64 ((mod10 ns (nam10 ns (ms.take i)).2 ((its10 x11).take kf)).2 : Int)] 3 (0, 0)), (b3, .cells #[.slice adn ns.length capn] 25 (0, 0)), (b12, .cells #[.slice adf11 x11.funcs.length capf11, .slice adg11 x11.globs.length capg11] 32 (0, 0))]) 0 rfl rfl rfl rfl siz_35 rfl rfl rfl rfl rfl hS ?_
   clear hS; intro w25 hS
   refine WL.nil (N.seq (W.region (WL.move rfl rfl rfl (WL.fieldAddr fo_35_0 rfl rfl rfl (WL.load1 (v := .string x22.name) one_9 rfl rfl rfl (hS.cell 0 rfl rfl) (WL.fieldAddr fo_35_1 rfl rfl rfl (WL.load1 (v := .int .i64 x22.bind) one_3 rfl rfl rfl (hS.cell 0 rfl rfl) ?_)))))))
   replace hS := hS.dropN 1
   refine WL.callV (vs := [.string x22.name, .int .i64 x22.bind]) (cs := #[.pointer (some ⟨b17, 0, none⟩), .pointer (some ⟨b6, 0, none⟩), .pointer (some ⟨b3, 0, none⟩)]) Tryd.func25 (by kernel_rfl) rfl rfl rfl rfl (give10_ret b17 b15 b6 b3 es1 ck1 (kf) (mod10 ns (nam10 ns (ms.take i)).2 ((its10 x11).take kf)).2 (mod10 ns (nam10 ns (ms.take i)).2 ((its10 x11).take kf)).1 ns (.slice adn ns.length capn) x22.name x22.bind hS hM1 hnv hpw (by omega)) ?_
   rintro v w26 ⟨rfl, es9, ck9, hM9, hS⟩
   rw [show give10 ns ((mod10 ns (nam10 ns (ms.take i)).2 ((its10 x11).take kf)).1, (mod10 ns (nam10 ns (ms.take i)).2 ((its10 x11).take kf)).2) (x22.name, x22.bind) = (mod10 ns (nam10 ns (ms.take i)).2 ((its10 x11).take (kf + 1))) from (mod10_next (its_f hx22)).symm] at hM9 hS
   refine WL.nil (N.blk (N.seq (W.region ?_)))
   refine WL.add (c := (kf : Int) + 1) rfl rfl rfl rfl (rfl) (by omega) ?_
   refine WL.move rfl rfl rfl (WL.nil ?_)
   exact N.loop (kf + 1, es9, ck9) ⟨rfl, rfl, rfl, rfl, rfl, rfl, rfl, rfl, rfl, rfl, rfl, rfl, rfl, trivial⟩ ⟨hS, by omega, hM9⟩ (by first | omega | (simp only; omega))
  have hc21p : ¬ ((kf : Int) < (x11.funcs.length : Int)) := by simpa using hc21
  refine W.exit (X.seq (X.loop (X.blk (N.seq (W.seq (W.seq (W.region (WL.fieldAddr fo_32_1 rfl rfl rfl (WL.load1 (v := .slice adg11 x11.globs.length capg11) one_30 rfl rfl rfl (hS.cell 4 rfl rfl) ?_)))))))))
  refine WL.lenSlice Tryd.underlying30 rfl rfl rfl (WL.move rfl rfl rfl (WL.nil (N.seq (W.block ?_))))
  have hkf : kf = x11.funcs.length := by omega
  rw [hkf] at hS hM1
  refine W.loop (α := Nat × Array MapEntry × Nat) (fun ⟨kg, es2, ck2⟩ => [(2, .slice none 0 0), (3, .pointer (some ⟨b3, 0, none⟩)), (4, .pointer (some ⟨b6, 0, none⟩)), (5, .slice adv i capv), (8, .pointer (some ⟨b17, 0, none⟩)), (9, .func (.func 25) #[] #[.pointer (some ⟨b17, 0, none⟩), .pointer (some ⟨b6, 0, none⟩), .pointer (some ⟨b3, 0, none⟩)]), (16, .slice adl ms.length capl), (17, .int .i64 (ms.length : Int)), (18, .int .i64 (i : Int)), (39, .slice adg11 x11.globs.length capg11), (40, .int .i64 (x11.globs.length : Int)), (41, .int .i64 (kg : Int))]) (fun ⟨kg, es2, ck2⟩ u => St w ws2 u R2 [(b17, .cells #[.map (some b15)] 40 (0, 0)), (b15, .map es2 ck2), (b6, .cells #[.int .i64 ((mod10 ns (nam10 ns (ms.take i)).2 ((its10 x11).take (x11.funcs.length + kg))).2 : Int)] 3 (0, 0)), (b3, .cells #[.slice adn ns.length capn] 25 (0, 0)), (b12, .cells #[.slice adf11 x11.funcs.length capf11, .slice adg11 x11.globs.length capg11] 32 (0, 0))] [⟨.slice adv i capv, 40, 1, i, cs⟩] ∧ kg ≤ x11.globs.length ∧ MapG kS kS es2 ck2 (x11.funcs.length + kg) (mod10 ns (nam10 ns (ms.take i)).2 ((its10 x11).take (x11.funcs.length + kg))).1) (fun ⟨kg, es2, ck2⟩ => x11.globs.length - kg) (0, es1, ck1) ⟨rfl, rfl, rfl, rfl, rfl, rfl, rfl, rfl, rfl, rfl, rfl, rfl, trivial⟩ ⟨hS, Nat.zero_le _, hM1⟩ ?_
  clear hS
  rintro ⟨kg, es2, ck2⟩ w27 ⟨hS, hk2, hM2⟩
  have hmn2 := mod10_num hnl (nam10 ns (ms.take i)).2 ((its10 x11).take (x11.funcs.length + kg))
  have hitl2 := hit x11 (List.mem_of_getElem? hx11)
  have htl2 : ((its10 x11).take (x11.funcs.length + kg)).length ≤ 32 := by rw [List.length_take]; omega
  refine W.seq (W.region (WL.bin rfl rfl rfl rfl rfl (WL.nil (N.seq (W.seq ?_)))))
  refine W.cond rfl (fun hc28 => ?_) (fun hc28 => ?_)
  ·
   have hc28p : (kg : Int) < (x11.globs.length : Int) := by simpa using hc28
   refine W.skip (N.seq (W.seq (W.block (W.seq (W.region ?_)))))
   have hj29 : kg < x11.globs.length := by omega
   obtain ⟨x29, hx29⟩ : ∃ zz, x11.globs[kg]? = some zz := ⟨_, List.getElem?_eq_getElem hj29⟩
   obtain ⟨b29, o29, cs29, hE29, hr29, hl29, hc29, hQ29⟩ := hgs11d kg _ hx29
   obtain ⟨rfl, hgn29, hgb29, hgi29⟩ := hQ29
   refine WL.indexAddrE (j := kg) Tryd.underlying30 isz_38 rfl rfl rfl rfl hj29 hE29 (WL.loadN (cs := [.string x29.name, .int .i64 x29.bind, .bool x29.here, .int .u64 x29.init]) agg_38 rfl rfl rfl rfl (hS.roCells hr29 hc29) ?_)
   refine WL.alloc (tyZero_spec zer_38) rfl rfl hS ?_
   clear hS; intro w31 b30 hb_b30 hS
   refine WL.store (L' := [(b30, .cells #[.string x29.name, .int .i64 x29.bind, .bool x29.here, .int .u64 x29.init] 38 (0, 0)), (b17, .cells #[.map (some b15)] 40 (0, 0)), (b15, .map es2 ck2), (b6, .cells #[.int .i64 ((mod10 ns (nam10 ns (ms.take i)).2 ((its10 x11).take (x11.funcs.length + kg))).2 : Int)] 3 (0, 0)), (b3, .cells #[.slice adn ns.length capn] 25 (0, 0)), (b12, .cells #[.slice adf11 x11.funcs.length capf11, .slice adg11 x11.globs.length capg11] 32 (0, 0))]) 0 rfl rfl rfl rfl siz_38 rfl rfl rfl rfl rfl hS ?_
   clear hS; intro w32 hS
   refine WL.nil (N.seq (W.region (WL.move rfl rfl rfl (WL.fieldAddr fo_38_0 rfl rfl rfl (WL.load1 (v := .string x29.name) one_9 rfl rfl rfl (hS.cell 0 rfl rfl) (WL.fieldAddr fo_38_1 rfl rfl rfl (WL.load1 (v := .int .i64 x29.bind) one_3 rfl rfl rfl (hS.cell 0 rfl rfl) ?_)))))))
   replace hS := hS.dropN 1
   refine WL.callV (vs := [.string x29.name, .int .i64 x29.bind]) (cs := #[.pointer (some ⟨b17, 0, none⟩), .pointer (some ⟨b6, 0, none⟩), .pointer (some ⟨b3, 0, none⟩)]) Tryd.func25 (by kernel_rfl) rfl rfl rfl rfl (give10_ret b17 b15 b6 b3 es2 ck2 (x11.funcs.length + kg) (mod10 ns (nam10 ns (ms.take i)).2 ((its10 x11).take (x11.funcs.length + kg))).2 (mod10 ns (nam10 ns (ms.take i)).2 ((its10 x11).take (x11.funcs.length + kg))).1 ns (.slice adn ns.length capn) x29.name x29.bind hS hM2 hnv hpw (by omega)) ?_
   rintro v w33 ⟨rfl, es9, ck9, hM9, hS⟩
   rw [show give10 ns ((mod10 ns (nam10 ns (ms.take i)).2 ((its10 x11).take (x11.funcs.length + kg))).1, (mod10 ns (nam10 ns (ms.take i)).2 ((its10 x11).take (x11.funcs.length + kg))).2) (x29.name, x29.bind) = (mod10 ns (nam10 ns (ms.take i)).2 ((its10 x11).take (x11.funcs.length + kg + 1))) from (mod10_next (its_g hx29)).symm] at hM9 hS
   refine WL.nil (N.blk (N.seq (W.region ?_)))
   refine WL.add (c := (kg : Int) + 1) rfl rfl rfl rfl (rfl) (by omega) ?_
   refine WL.move rfl rfl rfl (WL.nil ?_)
   exact N.loop (kg + 1, es9, ck9) ⟨rfl, rfl, rfl, rfl, rfl, rfl, rfl, rfl, rfl, rfl, rfl, rfl, trivial⟩ ⟨hS, by omega, hM9⟩ (by first | omega | (simp only; omega))
  have hc28p : ¬ ((kg : Int) < (x11.globs.length : Int)) := by simpa using hc28
  refine W.exit (X.seq (X.loop (X.blk (N.seq (W.region (WL.move rfl rfl rfl (WL.load1 (v := .map (some b15)) one_40 rfl rfl rfl (hS.cell 0 rfl rfl) ?_)))))))
  refine WL.buildSlice (ps := [(0, .map (some b15))]) (cs := [.map (some b15)]) Tryd.underlying27 (tyZero_spec zer_40) rfl rfl rfl rfl (by kernel_rfl) hS ?_
  clear hS; intro w35 b34 hb_b34 hS
  refine WL.append (r := ⟨.slice adv i capv, 40, 1, i, cs⟩) (cs := [.map (some b15)]) 8 Tryd.underlying27 (tyZero_spec zer_40) byt_40 rfl rfl rfl rfl rfl rfl rfl rfl rfl hS (by unfold maxLen; simp only; omega) (by simp only; omega) ?_
  clear hS; intro w36 v37 hn_v37 hS
  have hrow : w36.ownsRow w.heap.size 40 1 v37 (i + 1) _ := hS.rows _ List.mem_cons_self
  obtain ⟨av37, cv37, rfl, hc1_v37, hc2_v37, hc3_v37⟩ := row_shape hrow
  clear hrow
  refine WL.assign rfl rfl rfl (WL.nil (N.blk (N.seq (W.region ?_))))
  refine WL.add (c := (i : Int) + 1) rfl rfl rfl rfl (rfl) (by omega) ?_
  refine WL.move rfl rfl rfl (WL.nil ?_)
  have hke : x11.funcs.length + kg = (its10 x11).length := by rw [its_len]; omega
  rw [hke, List.take_length] at hS hM2
  replace hS : St w ws2 w36 R2 [(b15, .map es2 ck2), (b17, .cells #[.map (some b15)] 40 (0, 0)), (b12, .cells #[.slice adf11 x11.funcs.length capf11, .slice adg11 x11.globs.length capg11] 32 (0, 0)), (b6, .cells #[.int .i64 ((mod10 ns (nam10 ns (ms.take i)).2 (its10 x11)).2 : Int)] 3 (0, 0)), (b3, .cells #[.slice adn ns.length capn] 25 (0, 0))] [⟨.slice av37 (i + 1) cv37, 40, 1, i + 1, cs ++ ([.map (some b15)] : List Value)⟩] := hS.perm ((((List.Perm.swap _ _ _)).trans ((List.Perm.cons _ (List.Perm.cons _ (List.Perm.cons _ (List.Perm.swap _ _ _)))))).trans ((List.Perm.cons _ (List.Perm.cons _ (List.Perm.swap _ _ _)))))
  have hal38 := hS.giveAlike
  replace hsub : ∀ b, (fun x => R2 x ∨ x = b15) b → ro b ∨ w.heap.size ≤ b := fun b hb => hb.elim (hsub b) (fun h => .inr (by rw [h]; exact hS.giveLe))
  replace halL0 := halL0.trans hal38
  replace hx := SlV.keep hx hal38 (fun _ _ h => h.keep hal38)
  replace hch := hch.mono fun _ _ h => h.keep hal38
  have hown39 := hS.own _ List.mem_cons_self
  replace hS := hS.give
  replace hS := hS.dropN 2
  have hgm : MapC (fun x => R2 x ∨ x = b15) w36 [.map (some b15)] (mod10 ns (nam10 ns (ms.take i)).2 (its10 x11)).1 := ⟨b15, _, _, _, rfl, .inr rfl, hown39, hM2⟩
  have hch2 : Chunks 1 (MapC (fun x => R2 x ∨ x = b15) w36) (cs ++ ([.map (some b15)] : List Value)) (nam10 ns (ms.take (i + 1))).1 := by rw [nam10_next hx11]; exact hch.snoc rfl hgm
  exact N.loop (i + 1, .slice av37 (i + 1) cv37, cs ++ ([.map (some b15)] : List Value), (fun x => R2 x ∨ x = b15), w36) ⟨rfl, rfl, rfl, rfl, rfl, rfl, rfl, trivial⟩ ⟨(by rw [nam10_next hx11]; exact hS), by omega, hch2, halL0, hsub⟩ (by first | omega | (simp only; omega))
 have hc10p : ¬ ((i : Int) < (ms.length : Int)) := by simpa using hc10
 refine W.exit (X.seq (X.loop (X.blk (N.seq (W.seq (W.region (WL.move rfl rfl rfl (WL.assign rfl rfl rfl (WL.nil ?_)))))))))
 refine N.seq ?_
 refine Fin.ret1 rfl (v := .slice adv i capv) rfl ?_
 have hfin : Alike R2 ws2 (roFrom ro w w9) w9 := fun b hb => ⟨(hsub b hb).elim .inl (fun h => .inr ⟨h, (hS.snap b hb).1⟩), (hS.snap b hb).2⟩
 have hie : i = ms.length := by omega
 have hlen := hnm.2
 rw [hie, List.take_length] at hch
 rw [hie, List.take_length] at hlen
 rw [← hns2]
 exact ⟨row_slv (hS.rows _ List.mem_cons_self) (hch.mono fun _ _ h => h.keep hfin) (by simp only; omega) (fun x hx => .inr ((hS.keys x (by simp only [keysOf, List.mem_append, List.mem_filterMap]; exact .inr ⟨_, List.mem_cons_self, hx⟩)).imp id (·.1))), hS.below⟩

end Go.Proofs.YtapjejjmhmdmdaaDoor
