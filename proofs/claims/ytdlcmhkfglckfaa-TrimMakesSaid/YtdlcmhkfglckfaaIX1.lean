/-
  ir.Func, both ways. No condition beyond those that each theorem states.
-/
import Derived.Test.YtdlcmhkfglckfaaU8
import Derived.Test.YtdlcmhkfglckfaaA27
namespace Go.Proofs.Ytdlcmhkfglckfaa
open Go.RowKit

theorem empty_iff {s : ByteArray} : s = ⟨#[]⟩ ↔ s.size = 0 := ⟨fun h => by rw [h]; rfl, fun h => ByteArray.ext (Array.eq_empty_of_size_eq_zero h)⟩
theorem below5_take {l : List Int} {n x : Int} {k : Nat} (h : below5 (l.take k) n = true) (hx : l[k]? = some x) (hb : 0 ≤ x ∧ x < n) : below5 (l.take (k + 1)) n = true := by
  unfold below5 at *; rw [take_next hx, List.all_append, h]; simp [hb]
theorem below5_no {l : List Int} {n x : Int} (hx : x ∈ l) (hb : ¬ (0 ≤ x ∧ x < n)) : below5 l n = false := by
  unfold below5; rw [List.all_eq_false]; exact ⟨x, hx, by simpa using hb⟩

theorem xname_ret (s : ByteArray) (hs : s.size ≤ maxLen) {w : World} {ro : Nat → Prop} (hro : ∀ b, ro b → b < w.heap.size) : Ret Try.prog 54 #[.string s] w fun v w' => v = .bool (name5 s) ∧ Below w.heap.size w w' := by
 refine Ret.enter (P := Try.prog) (n := 10) (args := [.string s]) (σ := [(0, .string s)]) Try.func54 rfl rfl rfl rfl ?_
 have hS := St.start (ro := ro) hro
 refine W.seq (W.region (WL.assign rfl rfl rfl (WL.nil (N.seq (W.seq (W.region (WL.move rfl rfl rfl (WL.neStr rfl rfl rfl rfl (WL.move rfl rfl rfl ?_)))))))))
 cases hg1 : (!decide (s = ⟨#[]⟩))
 ·
  have hg1p : s = ⟨#[]⟩ := by simpa using hg1
  refine WL.skp rfl rfl (WL.skp rfl rfl (WL.skp rfl rfl (WL.pick (v := .bool false) rfl rfl rfl rfl rfl rfl (WL.assign rfl rfl rfl (WL.nil (N.seq ?_))))))
  refine Fin.ret1 rfl (v := .bool false) rfl ?_
  have hbz := hS.below
  clear hS
  refine ⟨?_, hbz⟩
  congr 1
  unfold name5
  by_cases h0 : s.size = 0
  ·
   have h1 : s = ⟨#[]⟩ := empty_iff.2 h0
   first | (simp_all; done) | (rw [Bool.eq_iff_iff]; simp_all; omega)
  have h1 : ¬ s = ⟨#[]⟩ := fun e => h0 (empty_iff.1 e)
  first | (rw [decide_eq_true (show 1 ≤ s.size by omega), Bool.true_and]; exact decide_eq_decide.2 (by omega)) | (exfalso; simp_all; done)
 have hg1p : ¬ (s = ⟨#[]⟩) := by simpa using hg1
 refine WL.move rfl rfl rfl (WL.lenStr Try.underlying9 rfl rfl rfl (WL.bin rfl rfl rfl rfl rfl (WL.pick (v := .bool (decide ((s.size : Int) ≤ 16))) rfl rfl rfl rfl rfl rfl (WL.assign rfl rfl rfl (WL.nil (N.seq ?_))))))
 refine Fin.ret1 rfl (v := .bool (decide ((s.size : Int) ≤ 16))) rfl ?_
 have hbz := hS.below
 clear hS
 refine ⟨?_, hbz⟩
 congr 1
 unfold name5
 by_cases h0 : s.size = 0
 ·
  have h1 : s = ⟨#[]⟩ := empty_iff.2 h0
  first | (simp_all; done) | (rw [Bool.eq_iff_iff]; simp_all; omega)
 have h1 : ¬ s = ⟨#[]⟩ := fun e => h0 (empty_iff.1 e)
 first | (rw [decide_eq_true (show 1 ≤ s.size by omega), Bool.true_and]; exact decide_eq_decide.2 (by omega)) | (exfalso; simp_all; done)

theorem xall1_ret (x n : Int) (bn : Nat) {w : World} {ro : Nat → Prop} (hro : ∀ b, ro b → b < w.heap.size) (hbn : ro bn) (hcn : CellsAt w bn 0 [.int .i64 n]) : Ret Try.prog 72 #[.int .i64 x, .pointer (some ⟨bn, 0, none⟩)] w fun v w' => v = .bool (decide (x < 0 ∨ n ≤ x)) ∧ Below w.heap.size w w' := by
 refine Ret.enter (P := Try.prog) (n := 11) (args := [.int .i64 x, .pointer (some ⟨bn, 0, none⟩)]) (σ := [(0, .int .i64 x), (1, .pointer (some ⟨bn, 0, none⟩))]) Try.func72 rfl rfl rfl rfl ?_
 have hS := St.start (ro := ro) hro
 refine W.seq (W.region (WL.assign rfl rfl rfl (WL.nil (N.seq (W.seq (W.region (WL.move rfl rfl rfl (WL.bin rfl rfl rfl rfl rfl (WL.move rfl rfl rfl ?_)))))))))
 cases hg1 : (decide (x < 0))
 ·
  have hg1p : ¬ (x < 0) := by simpa using hg1
  refine WL.move rfl rfl rfl (WL.load1 (v := .int .i64 n) one_3 rfl rfl rfl (hS.roCells hbn hcn 0 _ rfl) (WL.bin rfl rfl rfl rfl rfl (WL.pick (v := .bool (decide (n ≤ x))) rfl rfl rfl rfl rfl rfl (WL.assign rfl rfl rfl (WL.nil (N.seq ?_))))))
  refine Fin.ret1 rfl (v := .bool (decide (n ≤ x))) rfl ?_
  have hbz := hS.below
  clear hS
  refine ⟨?_, hbz⟩
  congr 1
  first | exact (decide_eq_true (by omega)).symm | exact decide_eq_decide.2 (by omega)
 have hg1p : x < 0 := by simpa using hg1
 refine WL.skp rfl rfl (WL.skp rfl rfl (WL.skp rfl rfl (WL.pick (v := .bool true) rfl rfl rfl rfl rfl rfl (WL.assign rfl rfl rfl (WL.nil (N.seq ?_))))))
 refine Fin.ret1 rfl (v := .bool true) rfl ?_
 have hbz := hS.below
 clear hS
 refine ⟨?_, hbz⟩
 congr 1
 first | exact (decide_eq_true (by omega)).symm | exact decide_eq_decide.2 (by omega)

theorem xix_ret (xs : List Int) (vx : Value) (n : Int) (bn : Nat) {w : World} {ro : Nat → Prop} (hro : ∀ b, ro b → b < w.heap.size) (hx : SlV ro w 1 IntC vx xs) (hbn : ro bn) (hcn : CellsAt w bn 0 [.int .i64 n]) : Ret Try.prog 73 #[vx, .func (.func 72) #[] #[.pointer (some ⟨bn, 0, none⟩)]] w fun v w' => ∃ z : Int, v = .int .i64 z ∧ (0 ≤ z ↔ below5 xs n = false) ∧ Below w.heap.size w w' := by
 obtain ⟨ad, cap, rfl, haa, hab, hac, had⟩ := id hx
 have ham : xs.length ≤ 9223372036854775807 := by have h1 := haa; have h2 := hab; unfold maxLen at h2; omega
 refine Ret.enter (P := Try.prog) (n := 19) (args := [.slice ad xs.length cap, .func (.func 72) #[] #[.pointer (some ⟨bn, 0, none⟩)]]) (σ := [(0, .slice ad xs.length cap), (1, .func (.func 72) #[] #[.pointer (some ⟨bn, 0, none⟩)])]) Try.func73 rfl rfl rfl rfl ?_
 have hS := St.start (ro := ro) hro
 refine W.seq (W.region (WL.assign rfl rfl rfl (WL.nil (N.seq (W.seq (W.seq (W.region (WL.move rfl rfl rfl (WL.lenSlice Try.underlying28 rfl rfl rfl ?_)))))))))
 refine WL.move rfl rfl rfl (WL.nil (N.seq (W.block ?_)))
 refine W.loop (α := Nat) (fun (k : Nat) => [(0, .slice ad xs.length cap), (1, .func (.func 72) #[] #[.pointer (some ⟨bn, 0, none⟩)]), (7, .int .i64 (xs.length : Int)), (8, .int .i64 (k : Int))]) (fun (k : Nat) u => St w w u ro [] [] ∧ k ≤ xs.length ∧ below5 (xs.take k) n = true) (fun (k : Nat) => xs.length - k) 0 ⟨rfl, rfl, rfl, rfl, trivial⟩ ⟨hS, Nat.zero_le _, rfl⟩ ?_
 clear hS
 rintro k w1 ⟨hS, hk, hb⟩
 refine W.seq (W.region (WL.bin rfl rfl rfl rfl rfl (WL.nil (N.seq (W.seq ?_)))))
 refine W.cond rfl (fun hc2 => ?_) (fun hc2 => ?_)
 ·
  have hc2p : (k : Int) < (xs.length : Int) := by simpa using hc2
  refine W.skip (N.seq (W.seq (W.block (W.seq (W.region (WL.move rfl rfl rfl (WL.assign rfl rfl rfl (WL.nil (N.seq ?_)))))))))
  refine W.seq (W.region (WL.move rfl rfl rfl (WL.move rfl rfl rfl (WL.move rfl rfl rfl ?_))))
  have hj3 : k < xs.length := by omega
  obtain ⟨x3, hx3⟩ : ∃ zz, xs[k]? = some zz := ⟨_, List.getElem?_eq_getElem hj3⟩
  obtain ⟨b3, o3, cs3, hE3, hr3, hl3, hc3, hQ3⟩ := had k _ hx3
  obtain ⟨rfl, hi3⟩ := hQ3
  refine WL.indexAddrE (j := k) Try.underlying28 isz_3 rfl rfl rfl rfl hj3 hE3 (WL.load1 (v := .int .i64 x3) one_3 rfl rfl rfl (hS.roCells hr3 hc3 0 _ rfl) ?_)
  refine WL.callV (vs := [.int .i64 x3]) (cs := #[.pointer (some ⟨bn, 0, none⟩)]) Try.func72 (by kernel_rfl) rfl rfl rfl rfl (xall1_ret x3 n bn (ro := ro) (fun b hb => (hS.snap b hb).1) hbn (hcn.keep (hS.snap _ hbn).2)) ?_
  rintro v w4 ⟨rfl, hbl⟩
  replace hS := hS.grow hbl
  refine WL.nil (N.seq ?_)
  refine W.cond rfl (fun hc5 => ?_) (fun hc5 => ?_)
  ·
   have hc5p : x3 < 0 ∨ n ≤ x3 := by simpa using hc5
   refine W.seq (W.region (WL.move rfl rfl rfl (WL.assign rfl rfl rfl (WL.nil (N.seq ?_)))))
   refine Fin.ret1 rfl (v := .int .i64 (k : Int)) rfl ?_
   have hb2 := below5_no (n := n) (List.mem_of_getElem? hx3) (by omega)
   exact ⟨_, rfl, by rw [hb2]; simp, hS.below⟩
  have hc5p : ¬ (x3 < 0 ∨ n ≤ x3) := by simpa using hc5
  refine W.skip (N.blk (N.seq (W.region ?_)))
  refine WL.add (c := (k : Int) + 1) rfl rfl rfl rfl (rfl) (by omega) ?_
  refine WL.move rfl rfl rfl (WL.nil ?_)
  have hb2 := below5_take hb hx3 (by omega)
  exact N.loop (k + 1) ⟨rfl, rfl, rfl, rfl, trivial⟩ ⟨hS, by omega, hb2⟩ (by first | omega | (simp only; omega))
 have hc2p : ¬ ((k : Int) < (xs.length : Int)) := by simpa using hc2
 refine W.exit (X.seq (X.loop (X.blk (N.seq (W.seq (W.region (WL.assign rfl rfl rfl (WL.nil (N.seq ?_)))))))))
 refine Fin.ret1 rfl (v := .int .i64 (-1)) rfl ?_
 have hke : k = xs.length := by omega
 rw [hke, List.take_length] at hb
 exact ⟨-1, rfl, by rw [hb]; decide, hS.below⟩

theorem xco_ret (xs : List Int) (vx : Value) (n : Int) (bn : Nat) {w : World} {ro : Nat → Prop} (hro : ∀ b, ro b → b < w.heap.size) (hx : SlV ro w 1 IntC vx xs) (hbn : ro bn) (hcn : CellsAt w bn 0 [.int .i64 n]) : Ret Try.prog 71 #[vx, .func (.func 72) #[] #[.pointer (some ⟨bn, 0, none⟩)]] w fun v w' => v = .bool (!below5 xs n) ∧ Below w.heap.size w w' := by
 obtain ⟨ad, cap, rfl, haa, hab, hac, had⟩ := id hx
 have ham : xs.length ≤ 9223372036854775807 := by have h1 := haa; have h2 := hab; unfold maxLen at h2; omega
 refine Ret.enter (P := Try.prog) (n := 9) (args := [.slice ad xs.length cap, .func (.func 72) #[] #[.pointer (some ⟨bn, 0, none⟩)]]) (σ := [(0, .slice ad xs.length cap), (1, .func (.func 72) #[] #[.pointer (some ⟨bn, 0, none⟩)])]) Try.func71 rfl rfl rfl rfl ?_
 have hS := St.start (ro := ro) hro
 refine W.seq (W.region (WL.assign rfl rfl rfl (WL.nil (N.seq (W.seq (W.region (WL.move rfl rfl rfl (WL.move rfl rfl rfl ?_))))))))
 refine WL.callF (vs := [.slice ad xs.length cap, .func (.func 72) #[] #[.pointer (some ⟨bn, 0, none⟩)]]) Try.func73 (by kernel_rfl) rfl rfl rfl (xix_ret xs _ n bn (ro := ro) (fun b hb => (hS.snap b hb).1) (SlV.keep hx hS.alike (fun _ _ q => q)) hbn (hcn.keep (hS.snap _ hbn).2)) ?_
 rintro v w1 ⟨z, rfl, hz, hbl⟩
 replace hS := hS.grow hbl
 refine WL.bin rfl rfl rfl rfl rfl (WL.assign rfl rfl rfl (WL.nil (N.seq ?_)))
 refine Fin.ret1 rfl (v := .bool (decide (0 ≤ z))) rfl ?_
 have hbz := hS.below
 clear hS
 refine ⟨?_, hbz⟩
 congr 1
 rw [Bool.eq_iff_iff]
 simpa using hz

theorem xall_ret (xs : List Int) (vx : Value) (n : Int) {w : World} {ro : Nat → Prop} (hro : ∀ b, ro b → b < w.heap.size) (hx : SlV ro w 1 IntC vx xs) : Ret Try.prog 67 #[vx, .int .i64 n] w fun v w' => v = .bool (below5 xs n) ∧ Below w.heap.size w w' := by
 obtain ⟨ad, cap, rfl, haa, hab, hac, had⟩ := id hx
 have ham : xs.length ≤ 9223372036854775807 := by have h1 := haa; have h2 := hab; unfold maxLen at h2; omega
 refine Ret.enter (P := Try.prog) (n := 9) (args := [.slice ad xs.length cap, .int .i64 n]) (σ := [(0, .slice ad xs.length cap), (1, .int .i64 n)]) Try.func67 rfl rfl rfl rfl ?_
 have hS := St.start (ro := ro) hro
 refine W.seq (W.region ?_)
 refine WL.box (v := .int .i64 n) (cs := [.int .i64 n]) rfl rfl rfl rfl hS ?_
 clear hS; intro w2 b1 hb_b1 hS
 refine WL.assign rfl rfl rfl (WL.nil (N.seq (W.seq (W.region (WL.move rfl rfl rfl ?_)))))
 refine WL.makeFunc (vs := #[.pointer (some ⟨b1, 0, none⟩)]) rfl rfl rfl ?_
 refine WL.callF (vs := [.slice ad xs.length cap, .func (.func 72) #[] #[.pointer (some ⟨b1, 0, none⟩)]]) Try.func71 (by kernel_rfl) rfl rfl rfl (xco_ret xs _ n b1 (ro := fun x => x < w2.heap.size) (fun _ h => h) (SlV.keep hx (fun b hb => hS.snap b hb) (fun _ _ q => q)) (hS.keys b1 (by simp [keysOf])).2.1 (hS.cells 0 (m := 1) rfl rfl)) ?_
 rintro v w3 ⟨rfl, hbl⟩
 replace hS := hS.grow hbl
 refine WL.not rfl rfl rfl (WL.assign rfl rfl rfl (WL.nil (N.seq ?_)))
 refine Fin.ret1 rfl (v := .bool (!(!below5 xs n))) rfl ?_
 exact ⟨by rw [Bool.not_not], hS.below⟩

end Go.Proofs.Ytdlcmhkfglckfaa
