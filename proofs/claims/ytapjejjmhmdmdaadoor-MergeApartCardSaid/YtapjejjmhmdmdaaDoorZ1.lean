/-
  Contracts of layer 10 (merge). No condition beyond those that each theorem states.
-/
import Derived.Test.YtapjejjmhmdmdaaDoorQ13
import Derived.Test.YtapjejjmhmdmdaaDoorZ0
namespace Go.Proofs.YtapjejjmhmdmdaaDoor
open Go.RowKit

theorem gPow : Tryd.prog.globalNamed "internal/strconv.uint64pow10" = some 0 := by kernel_rfl
structure PowT (ro : Nat → Prop) (w : World) : Prop where
  g : ro 0
  t : Lib.TabIs Tryd.prog w "internal/strconv.uint64pow10" .u64 Lib.pow10Tab
theorem PowT.keep {ro ro' : Nat → Prop} {w w' : World} (h : PowT ro w) (ha : Alike ro w ro' w') : PowT ro' w' := by
  obtain ⟨h1, h2⟩ := ha 0 h.g
  refine ⟨h1, ?_⟩
  have h3 := h.t
  unfold Lib.TabIs World.var? at h3 ⊢
  simp only [gPow, Option.bind_some] at h3 ⊢
  rw [h2]; exact h3
theorem itoa_ret {w : World} {ro : Nat → Prop} (n : Nat) (hn : (n : Int) ≤ 9223372036854775807) (hp : PowT ro w) : Ret Tryd.prog 42 #[.int .i64 (n : Int)] w fun v w' => v = .string ⟨(Lib.itoa (n : Int)).toArray⟩ ∧ Below w.heap.size w w' := by
  refine Calls.mono (Any.strconv_Itoa Tryd.laysItoa (n : Int) (by omega) hn w hp.t) ?_
  rintro e w' ⟨rfl, k, os, rfl⟩
  refine ⟨_, rfl, rfl, (below_drewN (Below.refl _ _) k).trans ⟨rfl, rfl, rfl, by simp [Sort.grow], fun i hi => ?_⟩⟩
  · have hi' : i < (w.drewN k).heap.size := hi
    simp only [Sort.grow]
    rw [Array.getElem?_append_left hi']
theorem dot10_size (n : Nat) (hn : (n : Int) ≤ 9223372036854775807) : (⟨#[46]⟩ : ByteArray).size + (⟨(Lib.itoa (n : Int)).toArray⟩ : ByteArray).size ≤ 9223372036854775807 := by
  have h := Lib.itoa_length_le (n : Int) (by omega) hn
  show 1 + (Lib.itoa (n : Int)).toArray.size ≤ _
  rw [List.size_toArray]; omega
theorem dot10_le (n : Nat) (hn : (n : Int) ≤ 9223372036854775807) : (dot10 n).size ≤ 22 := by
  have h := Lib.itoa_length_le (n : Int) (by omega) hn
  unfold dot10
  rw [ByteArray.size_append]
  show 1 + (Lib.itoa (n : Int)).toArray.size ≤ _
  rw [List.size_toArray]; omega

theorem sindex_ret (xs : List ByteArray) (t : ByteArray) (vx : Value) {w : World} {ro : Nat → Prop} (hro : ∀ b, ro b → b < w.heap.size) (hx : SlV ro w 1 StrC vx xs) : Ret Tryd.prog 78 #[vx, .string t] w fun v w' => (∃ z : Int, v = .int .i64 z ∧ (0 ≤ z ↔ t ∈ xs)) ∧ Below w.heap.size w w' := by
 obtain ⟨ad, cap, rfl, haa, hab, hac, had⟩ := id hx
 have ham : xs.length ≤ 9223372036854775807 := by have h1 := haa; have h2 := hab; unfold maxLen at h2; omega
 refine Ret.enter (P := Tryd.prog) (n := 19) (args := [.slice ad xs.length cap, .string t]) (σ := [(0, .slice ad xs.length cap), (1, .string t)]) Tryd.func78 rfl rfl rfl rfl ?_
 have hS := St.start (ro := ro) hro
 refine W.seq ?_
 refine W.region ?_
 refine WL.assign rfl rfl rfl ?_
 refine WL.nil ?_
 refine N.seq ?_
 refine W.seq ?_
 refine W.seq ?_
 refine W.region ?_
 refine WL.move rfl rfl rfl ?_
 refine WL.lenSlice Tryd.underlying25 rfl rfl rfl ?_
 refine WL.move rfl rfl rfl ?_
 refine WL.nil ?_
 refine N.seq ?_
 refine W.block ?_
 refine W.loop (α := Nat) (fun (k : Nat) => [(0, .slice ad xs.length cap), (1, .string t), (6, .slice ad xs.length cap), (7, .int .i64 (xs.length : Int)), (8, .int .i64 (k : Int))]) (fun (k : Nat) u => St w w u ro [] [] ∧ k ≤ xs.length ∧ ¬ t ∈ xs.take k) (fun (k : Nat) => xs.length - k) 0 ⟨rfl, rfl, rfl, rfl, rfl, trivial⟩ ⟨hS, Nat.zero_le _, by simp⟩ ?_
 clear hS
 rintro k w1 ⟨hS, hk, hnt⟩
 refine W.seq ?_
 refine W.region ?_
 refine WL.bin rfl rfl rfl rfl rfl ?_
 refine WL.nil ?_
 refine N.seq ?_
 refine W.seq ?_
 refine W.cond rfl (fun hc2 => ?_) (fun hc2 => ?_)
 ·
  have hc2p : (k : Int) < (xs.length : Int) := by simpa using hc2
  refine W.skip ?_
  refine N.seq ?_
  refine W.seq ?_
  refine W.block ?_
  refine W.seq ?_
  refine W.region ?_
  refine WL.move rfl rfl rfl ?_
  refine WL.assign rfl rfl rfl ?_
  refine WL.nil ?_
  refine N.seq ?_
  refine W.seq ?_
  refine W.region ?_
  refine WL.move rfl rfl rfl ?_
  refine WL.move rfl rfl rfl ?_
  refine WL.move rfl rfl rfl ?_
  have hj3 : k < xs.length := by omega
  obtain ⟨x3, hx3⟩ : ∃ zz, xs[k]? = some zz := ⟨_, List.getElem?_eq_getElem hj3⟩
  obtain ⟨b3, o3, cs3, hE3, hr3, hl3, hc3, hQ3⟩ := had k _ hx3
  obtain ⟨rfl, hsz3⟩ := hQ3
  refine WL.indexAddrE (j := k) Tryd.underlying25 isz_9 rfl rfl rfl rfl hj3 hE3 ?_
  refine WL.load1 (v := .string x3) one_9 rfl rfl rfl (hS.roCells hr3 hc3 0 _ rfl) ?_
  refine WL.eqStr rfl rfl rfl rfl ?_
  refine WL.nil ?_
  refine N.seq ?_
  refine W.cond rfl (fun hc4 => ?_) (fun hc4 => ?_)
  ·
   have hc4p : t = x3 := by simpa using hc4
   refine W.seq ?_
   refine W.region ?_
   refine WL.move rfl rfl rfl ?_
   refine WL.assign rfl rfl rfl ?_
   refine WL.nil ?_
   refine N.seq ?_
   refine Fin.ret1 rfl (v := .int .i64 (k : Int)) rfl ?_
   exact ⟨⟨_, rfl, ⟨fun _ => by rw [hc4p]; exact List.mem_of_getElem? hx3, fun _ => by omega⟩⟩, hS.below⟩
  have hc4p : ¬ (t = x3) := by simpa using hc4
  refine W.skip ?_
  refine N.blk ?_
  refine N.seq ?_
  refine W.region ?_
  refine WL.add (c := (k : Int) + 1) rfl rfl rfl rfl (rfl) (by omega) ?_
  refine WL.move rfl rfl rfl ?_
  refine WL.nil ?_
  have hnt2 : ¬ t ∈ xs.take (k + 1) := by rw [take_next hx3, List.mem_append, List.mem_singleton]; exact fun e => e.elim hnt hc4p
  exact N.loop (k + 1) ⟨rfl, rfl, rfl, rfl, rfl, trivial⟩ ⟨hS, by omega, hnt2⟩ (by first | omega | (simp only; omega))
 have hc2p : ¬ ((k : Int) < (xs.length : Int)) := by simpa using hc2
 refine W.exit ?_
 refine X.seq ?_
 refine X.loop ?_
 refine X.blk ?_
 refine N.seq ?_
 refine W.seq ?_
 refine W.region ?_
 refine WL.assign rfl rfl rfl ?_
 refine WL.nil ?_
 refine N.seq ?_
 refine Fin.ret1 rfl (v := .int .i64 (-1)) rfl ?_
 have e : k = xs.length := by omega
 rw [e, List.take_length] at hnt
 exact ⟨⟨_, rfl, ⟨fun h => absurd h (by omega), fun h => absurd h hnt⟩⟩, hS.below⟩

theorem contains_ret (xs : List ByteArray) (t : ByteArray) (vx : Value) {w : World} {ro : Nat → Prop} (hro : ∀ b, ro b → b < w.heap.size) (hx : SlV ro w 1 StrC vx xs) : Ret Tryd.prog 43 #[vx, .string t] w fun v w' => v = .bool (decide (t ∈ xs)) ∧ Below w.heap.size w w' := by
 refine Ret.enter (P := Tryd.prog) (n := 9) (args := [vx, .string t]) (σ := [(0, vx), (1, .string t)]) Tryd.func43 rfl rfl rfl rfl ?_
 have hS := St.start (ro := ro) hro
 refine W.seq ?_
 refine W.region ?_
 refine WL.assign rfl rfl rfl ?_
 refine WL.nil ?_
 refine N.seq ?_
 refine W.seq ?_
 refine W.region ?_
 refine WL.move rfl rfl rfl ?_
 refine WL.move rfl rfl rfl ?_
 refine WL.callF (vs := [vx, .string t]) Tryd.func78 (by kernel_rfl) rfl rfl rfl (sindex_ret xs t _ (ro := ro) (fun b hb => (hS.snap b hb).1) hx) ?_
 rintro v w1 ⟨⟨z, rfl, hz⟩, hbl⟩
 replace hS := hS.grow hbl
 refine WL.bin rfl rfl rfl rfl rfl ?_
 refine WL.assign rfl rfl rfl ?_
 refine WL.nil ?_
 refine N.seq ?_
 refine Fin.ret1 rfl (v := .bool (decide (0 ≤ z))) rfl ?_
 exact ⟨congrArg Value.bool (decide_eq_decide.2 hz), hS.below⟩

theorem local_ret (n : Nat) (xs : List ByteArray) (vx : Value) {w : World} {ro : Nat → Prop} (hro : ∀ b, ro b → b < w.heap.size) (hx : SlV ro w 1 StrC vx xs) (hpw : PowT ro w) (hn : n + xs.length ≤ 9223372036854775800) : Ret Tryd.prog 21 #[.int .i64 (n : Int), vx] w fun v w' => v = .tuple #[.string (dot10 (loc10 xs n)), .int .i64 ((loc10 xs n : Nat) + 1 : Int)] ∧ Below w.heap.size w w' := by
 have hxl : xs.length ≤ 9223372036854775807 := slv_len hx
 refine Ret.enter (P := Tryd.prog) (n := 21) (args := [.int .i64 (n : Int), vx]) (σ := [(0, .int .i64 (n : Int)), (1, vx)]) Tryd.func21 rfl rfl rfl rfl ?_
 have hS := St.start (ro := ro) hro
 refine W.seq ?_
 refine W.region ?_
 refine WL.assign rfl rfl rfl ?_
 refine WL.assign rfl rfl rfl ?_
 refine WL.nil ?_
 refine N.seq ?_
 refine W.seq ?_
 refine W.region ?_
 refine WL.move rfl rfl rfl ?_
 refine WL.max2 rfl rfl rfl rfl ?_
 refine WL.set 8 (v' := .int .i64 (n : Int)) rfl (congrArg (Value.int .i64) (if_neg (by omega))) ?_
 refine WL.assign rfl rfl rfl ?_
 refine WL.nil ?_
 refine N.seq ?_
 refine W.block ?_
 refine W.loop (α := Nat × Nat) (fun ⟨c, f⟩ => [(0, .int .i64 (c : Int)), (1, vx), (7, .int .i64 (n : Int)), (8, .int .i64 (n : Int))]) (fun ⟨c, f⟩ u => St w w u ro [] [] ∧ locF xs f c = loc10 xs n ∧ c + f ≤ n + xs.length) (fun ⟨c, f⟩ => f) (n, xs.length) ⟨rfl, rfl, rfl, rfl, trivial⟩ ⟨hS, rfl, Nat.le_refl _⟩ ?_
 clear hS
 rintro ⟨c, f⟩ w1 ⟨hS, hlc, hcf⟩
 refine W.seq ?_
 refine W.block ?_
 refine W.seq ?_
 refine W.region ?_
 refine WL.move rfl rfl rfl ?_
 refine WL.callF (vs := [.int .i64 (c : Int)]) Tryd.func42 (by kernel_rfl) rfl rfl rfl (itoa_ret c (by omega) (hpw.keep hS.alike)) ?_
 rintro v w2 ⟨rfl, hbl⟩
 replace hS := hS.grow hbl
 refine WL.addStr rfl rfl rfl rfl (dot10_size c (by omega)) ?_
 refine WL.set 13 (v' := .string (dot10 c)) rfl rfl ?_
 refine WL.assign rfl rfl rfl ?_
 refine WL.nil ?_
 refine N.seq ?_
 refine W.seq ?_
 refine W.region ?_
 refine WL.move rfl rfl rfl ?_
 refine WL.move rfl rfl rfl ?_
 refine WL.callF (vs := [vx, .string (dot10 c)]) Tryd.func43 (by kernel_rfl) rfl rfl rfl (contains_ret xs (dot10 c) _ (ro := ro) (fun b hb => (hS.snap b hb).1) (SlV.keep hx hS.alike (fun _ _ q => q))) ?_
 rintro v w3 ⟨rfl, hbl⟩
 replace hS := hS.grow hbl
 refine WL.not rfl rfl rfl ?_
 refine WL.nil ?_
 refine N.seq ?_
 refine W.cond rfl (fun hc4 => ?_) (fun hc4 => ?_)
 ·
  have hc4p : ¬ (dot10 c ∈ xs) := by simpa using hc4
  refine W.seq ?_
  refine W.region ?_
  refine WL.move rfl rfl rfl ?_
  refine WL.move rfl rfl rfl ?_
  refine WL.add (c := (c : Int) + 1) rfl rfl rfl rfl (rfl) (by omega) ?_
  refine WL.assign rfl rfl rfl ?_
  refine WL.assign rfl rfl rfl ?_
  refine WL.nil ?_
  refine N.seq ?_
  refine Fin.ret2 rfl (v := .string (dot10 c)) (v' := .int .i64 ((c : Int) + 1)) rfl rfl ?_
  have e : loc10 xs n = c := by rw [← hlc]; cases f with | zero => rfl | succ f => rw [locF, if_neg hc4p]
  rw [e]
  exact ⟨rfl, hS.below⟩
 have hc4p : dot10 c ∈ xs := by simpa using hc4
 refine W.skip ?_
 refine N.blk ?_
 refine N.seq ?_
 refine W.region ?_
 refine WL.move rfl rfl rfl ?_
 refine WL.add (c := (c : Int) + 1) rfl rfl rfl rfl (rfl) (by omega) ?_
 refine WL.assign rfl rfl rfl ?_
 refine WL.nil ?_
 obtain ⟨f2, rfl⟩ : ∃ f2, f = f2 + 1 := by cases f with | zero => exact absurd hc4p (by have h := loc10_not xs n; rw [← hlc] at h; exact h) | succ f => exact ⟨f, rfl⟩
 rw [locF, if_pos hc4p] at hlc
 exact N.loop (c + 1, f2) ⟨rfl, rfl, rfl, rfl, trivial⟩ ⟨hS, hlc, by omega⟩ (by first | omega | (simp only; omega))

end Go.Proofs.YtapjejjmhmdmdaaDoor
