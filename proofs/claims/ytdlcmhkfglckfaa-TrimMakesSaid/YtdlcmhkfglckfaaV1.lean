/-
  Contracts of layer 13 (trim). No condition beyond those that each theorem states.
-/
import Derived.Test.YtdlcmhkfglckfaaU11
namespace Go.Proofs.Ytdlcmhkfglckfaa
open Go.RowKit

def num13 (us : List Bool) (v : Int) : Int := (((us.take v.toNat).count true : Nat) : Int)
theorem num13_le (us : List Bool) (v : Int) : 0 ≤ num13 us v ∧ num13 us v ≤ (us.length : Int) := by
  unfold num13
  have h1 := List.count_le_length (a := true) (l := us.take v.toNat)
  rw [List.length_take] at h1
  omega
theorem cnt_next {us : List Bool} {i : Nat} {x : Bool} (h : us[i]? = some x) : (us.take (i + 1)).count true = (us.take i).count true + (if x = true then 1 else 0) := by
  rw [take_next h, List.count_append]
  cases x <;> simp

theorem has13_ret (xs : List Int) (vx : Value) (n : Int) {w : World} {ro : Nat → Prop} (hro : ∀ b, ro b → b < w.heap.size) (hx : SlV ro w 1 IntC vx xs) : Ret Try.prog 44 #[vx, .int .i64 n] w fun v w' => v = .bool (decide (n ∈ xs)) ∧ Below w.heap.size w w' := by
 obtain ⟨ad, cap, rfl, haa, hab, hac, had⟩ := id hx
 have ham : xs.length ≤ 9223372036854775807 := by have h1 := haa; have h2 := hab; unfold maxLen at h2; omega
 refine Ret.enter (P := Try.prog) (n := 18) (args := [.slice ad xs.length cap, .int .i64 n]) (σ := [(0, .slice ad xs.length cap), (1, .int .i64 n)]) Try.func44 rfl rfl rfl rfl ?_
 have hS := St.start (ro := ro) hro
 refine W.seq (W.region (WL.assign rfl rfl rfl (WL.nil (N.seq (W.seq (W.seq (W.region (WL.assign rfl rfl rfl (WL.nil ?_)))))))))
 refine N.seq (W.block ?_)
 refine W.loop (α := Nat) (fun (k : Nat) => [(0, .slice ad xs.length cap), (1, .int .i64 n), (5, .int .i64 (k : Int))]) (fun (k : Nat) u => St w w u ro [] [] ∧ k ≤ xs.length ∧ n ∉ xs.take k) (fun (k : Nat) => xs.length - k) 0 ⟨rfl, rfl, rfl, trivial⟩ ⟨hS, Nat.zero_le _, by simp⟩ ?_
 clear hS
 rintro k w1 ⟨hS, hk, hno⟩
 refine W.seq (W.seq (W.region (WL.move rfl rfl rfl (WL.move rfl rfl rfl (WL.lenSlice Try.underlying28 rfl rfl rfl (WL.bin rfl rfl rfl rfl rfl (WL.nil (N.seq ?_))))))))
 refine W.cond rfl (fun hc2 => ?_) (fun hc2 => ?_)
 ·
  have hc2p : (k : Int) < (xs.length : Int) := by simpa using hc2
  refine W.skip (N.seq (W.seq (W.block (W.seq (W.region (WL.move rfl rfl rfl (WL.move rfl rfl rfl ?_)))))))
  have hj3 : k < xs.length := by omega
  obtain ⟨x3, hx3⟩ : ∃ zz, xs[k]? = some zz := ⟨_, List.getElem?_eq_getElem hj3⟩
  obtain ⟨b3, o3, cs3, hE3, hr3, hl3, hc3, hQ3⟩ := had k _ hx3
  obtain ⟨rfl, hi3⟩ := hQ3
  refine WL.indexAddrE (j := k) Try.underlying28 isz_3 rfl rfl rfl rfl hj3 hE3 (WL.load1 (v := .int .i64 x3) one_3 rfl rfl rfl (hS.roCells hr3 hc3 0 _ rfl) (WL.move rfl rfl rfl (WL.bin rfl rfl rfl rfl rfl (WL.nil (N.seq ?_)))))
  refine W.cond rfl (fun hc4 => ?_) (fun hc4 => ?_)
  ·
   have hc4p : x3 = n := by simpa using hc4
   refine W.seq (W.region (WL.assign rfl rfl rfl (WL.nil (N.seq ?_))))
   refine Fin.ret1 rfl (v := .bool true) rfl ?_
   have hin : n ∈ xs := by
    have e : x3 = n := by simpa using hc4p
    rw [← e]; exact List.mem_of_getElem? hx3
   exact ⟨by rw [decide_eq_true hin], hS.below⟩
  have hc4p : ¬ (x3 = n) := by simpa using hc4
  refine W.skip (N.blk (N.seq (W.region (WL.move rfl rfl rfl ?_))))
  refine WL.add (c := (k : Int) + 1) rfl rfl rfl rfl (rfl) (by omega) ?_
  refine WL.assign rfl rfl rfl (WL.nil ?_)
  have hno2 : n ∉ xs.take (k + 1) := by rw [take_next hx3, List.mem_append, List.mem_singleton]; exact fun e => e.elim hno (fun e => by rw [e] at hc4p; simp at hc4p)
  exact N.loop (k + 1) ⟨rfl, rfl, rfl, trivial⟩ ⟨hS, by omega, hno2⟩ (by first | omega | (simp only; omega))
 have hc2p : ¬ ((k : Int) < (xs.length : Int)) := by simpa using hc2
 refine W.exit (X.seq (X.loop (X.blk (N.seq (W.seq (W.region (WL.assign rfl rfl rfl (WL.nil (N.seq ?_)))))))))
 refine Fin.ret1 rfl (v := .bool false) rfl ?_
 have hke : k = xs.length := by omega
 rw [hke, List.take_length] at hno
 exact ⟨by rw [decide_eq_false hno], hS.below⟩

theorem number13_ret (us : List Bool) (vx : Value) (v : Int) {w : World} {ro : Nat → Prop} (hro : ∀ b, ro b → b < w.heap.size) (hx : SlV ro w 1 BoolC vx us) (hv : v ≤ us.length) (hl : us.length ≤ 1000000) : Ret Try.prog 42 #[vx, .int .i64 v] w fun z w' => z = .int .i64 (num13 us v) ∧ Below w.heap.size w w' := by
 obtain ⟨ad, cap, rfl, haa, hab, hac, had⟩ := id hx
 have ham : us.length ≤ 9223372036854775807 := by have h1 := haa; have h2 := hab; unfold maxLen at h2; omega
 refine Ret.enter (P := Try.prog) (n := 19) (args := [.slice ad us.length cap, .int .i64 v]) (σ := [(0, .slice ad us.length cap), (1, .int .i64 v)]) Try.func42 rfl rfl rfl rfl ?_
 have hS := St.start (ro := ro) hro
 refine W.seq (W.region (WL.assign rfl rfl rfl (WL.nil (N.seq (W.seq (W.region (WL.assign rfl rfl rfl (WL.nil (N.seq ?_)))))))))
 refine W.seq (W.seq (W.region (WL.assign rfl rfl rfl (WL.nil (N.seq (W.block ?_))))))
 refine W.loop (α := Nat × Nat) (fun ⟨i, c⟩ => [(0, .slice ad us.length cap), (1, .int .i64 v), (4, .int .i64 0), (5, .int .i64 (c : Int)), (6, .int .i64 (i : Int))]) (fun ⟨i, c⟩ u => St w w u ro [] [] ∧ i ≤ v.toNat ∧ c = (us.take i).count true ∧ c ≤ i) (fun ⟨i, c⟩ => v.toNat - i) (0, 0) ⟨rfl, rfl, rfl, rfl, rfl, trivial⟩ ⟨hS, Nat.zero_le _, by simp, Nat.le_refl _⟩ ?_
 clear hS
 rintro ⟨i, c⟩ w1 ⟨hS, hi, hc, hci⟩
 refine W.seq (W.seq (W.region (WL.move rfl rfl rfl (WL.move rfl rfl rfl (WL.bin rfl rfl rfl rfl rfl (WL.nil (N.seq ?_)))))))
 refine W.cond rfl (fun hc2 => ?_) (fun hc2 => ?_)
 ·
  have hc2p : (i : Int) < v := by simpa using hc2
  refine W.skip (N.seq (W.seq (W.block (W.seq (W.region (WL.move rfl rfl rfl (WL.move rfl rfl rfl ?_)))))))
  have hj3 : i < us.length := by omega
  obtain ⟨x3, hx3⟩ : ∃ zz, us[i]? = some zz := ⟨_, List.getElem?_eq_getElem hj3⟩
  obtain ⟨b3, o3, cs3, hE3, hr3, hl3, hc3, hQ3⟩ := had i _ hx3
  cases hQ3
  refine WL.indexAddrE (j := i) Try.underlying40 isz_4 rfl rfl rfl rfl hj3 hE3 (WL.load1 (v := .bool x3) one_4 rfl rfl rfl (hS.roCells hr3 hc3 0 _ rfl) (WL.nil (N.seq ?_)))
  refine W.cond rfl (fun hc4 => ?_) (fun hc4 => ?_)
  ·
   refine W.region (WL.move rfl rfl rfl ?_)
   refine WL.add (c := (c : Int) + 1) rfl rfl rfl rfl (rfl) (by omega) ?_
   refine WL.assign rfl rfl rfl (WL.nil (N.blk (N.seq (W.region (WL.move rfl rfl rfl ?_)))))
   refine WL.add (c := (i : Int) + 1) rfl rfl rfl rfl (rfl) (by omega) ?_
   refine WL.assign rfl rfl rfl (WL.nil ?_)
   have hc2 := cnt_next hx3; rw [← hc, hc4] at hc2
   exact N.loop (i + 1, c + 1) ⟨rfl, rfl, rfl, rfl, rfl, trivial⟩ ⟨hS, by omega, by rw [hc2]; simp, by omega⟩ (by first | omega | (simp only; omega))
  refine W.skip (N.blk (N.seq (W.region (WL.move rfl rfl rfl ?_))))
  refine WL.add (c := (i : Int) + 1) rfl rfl rfl rfl (rfl) (by omega) ?_
  refine WL.assign rfl rfl rfl (WL.nil ?_)
  have hc2 := cnt_next hx3; rw [← hc, hc4] at hc2
  exact N.loop (i + 1, c) ⟨rfl, rfl, rfl, rfl, rfl, trivial⟩ ⟨hS, by omega, by rw [hc2]; simp, by omega⟩ (by first | omega | (simp only; omega))
 have hc2p : ¬ ((i : Int) < v) := by simpa using hc2
 refine W.exit (X.seq (X.loop (X.blk (N.seq (W.seq (W.region (WL.move rfl rfl rfl (WL.assign rfl rfl rfl (WL.nil ?_)))))))))
 refine N.seq ?_
 refine Fin.ret1 rfl (v := .int .i64 (c : Int)) rfl ?_
 have hie : i = v.toNat := by omega
 exact ⟨by rw [hc, hie]; rfl, hS.below⟩

theorem numbers13_ret (us : List Bool) (l : List Int) (vx vy : Value) {w : World} {ro : Nat → Prop} (hro : ∀ b, ro b → b < w.heap.size) (hx : SlV ro w 1 BoolC vx us) (hy : SlV ro w 1 IntC vy l) (hv : ∀ x ∈ l, x ≤ us.length) (hl : us.length ≤ 1000000) (hl2 : l.length ≤ 1000) : Ret Try.prog 43 #[vx, vy] w fun v w' => SlV (fun b => w.heap.size ≤ b ∧ b < w'.heap.size) w' 1 IntC v (l.map (num13 us)) ∧ Below w.heap.size w w' := by
 obtain ⟨ad, cap, rfl, haa, hab, hac, had⟩ := id hx
 have ham : us.length ≤ 9223372036854775807 := by have h1 := haa; have h2 := hab; unfold maxLen at h2; omega
 obtain ⟨bd, cbp, rfl, hba, hbb, hbc, hbd⟩ := id hy
 have hbm : l.length ≤ 9223372036854775807 := by have h1 := hba; have h2 := hbb; unfold maxLen at h2; omega
 refine Ret.enter (P := Try.prog) (n := 23) (args := [.slice ad us.length cap, .slice bd l.length cbp]) (σ := [(0, .slice ad us.length cap), (1, .slice bd l.length cbp)]) Try.func43 rfl rfl rfl rfl ?_
 have hS := St.start (ro := ro) hro
 refine W.seq (W.region (WL.assign rfl rfl rfl (WL.nil (N.seq (W.seq (W.region (WL.assign rfl rfl rfl (WL.nil (N.seq ?_)))))))))
 refine W.seq (W.seq (W.region (WL.assign rfl rfl rfl (WL.nil (N.seq (W.block ?_))))))
 replace hS := hS.row0 3 1
 refine W.loop (α := Nat × Value × List Value) (fun ⟨k, v, cs⟩ => [(0, .slice ad us.length cap), (1, .slice bd l.length cbp), (4, .slice none 0 0), (5, v), (6, .int .i64 (k : Int))]) (fun ⟨k, v, cs⟩ u => St w w u ro [] [⟨v, 3, 1, k, cs⟩] ∧ k ≤ l.length ∧ Chunks 1 IntC cs ((l.take k).map (num13 us))) (fun ⟨k, v, cs⟩ => l.length - k) (0, (.slice none 0 0), []) ⟨rfl, rfl, rfl, rfl, rfl, trivial⟩ ⟨hS, Nat.zero_le _, Chunks.nil⟩ ?_
 clear hS
 rintro ⟨k, v, cs⟩ w1 ⟨hS, hk, hch⟩
 have hrow : w1.ownsRow w.heap.size 3 1 v (k) _ := hS.rows _ List.mem_cons_self
 obtain ⟨adv, capv, rfl, hr1v, hr2v, hr3v⟩ := row_shape hrow
 clear hrow
 refine W.seq (W.seq (W.region (WL.move rfl rfl rfl (WL.move rfl rfl rfl (WL.lenSlice Try.underlying28 rfl rfl rfl (WL.bin rfl rfl rfl rfl rfl (WL.nil (N.seq ?_))))))))
 refine W.cond rfl (fun hc2 => ?_) (fun hc2 => ?_)
 ·
  have hc2p : (k : Int) < (l.length : Int) := by simpa using hc2
  refine W.skip (N.seq (W.seq (W.block (W.region (WL.move rfl rfl rfl (WL.move rfl rfl rfl (WL.move rfl rfl rfl (WL.move rfl rfl rfl ?_))))))))
  have hj3 : k < l.length := by omega
  obtain ⟨x3, hx3⟩ : ∃ zz, l[k]? = some zz := ⟨_, List.getElem?_eq_getElem hj3⟩
  obtain ⟨b3, o3, cs3, hE3, hr3, hl3, hc3, hQ3⟩ := hbd k _ hx3
  obtain ⟨rfl, hi3⟩ := hQ3
  refine WL.indexAddrE (j := k) Try.underlying28 isz_3 rfl rfl rfl rfl hj3 hE3 (WL.load1 (v := .int .i64 x3) one_3 rfl rfl rfl (hS.roCells hr3 hc3 0 _ rfl) ?_)
  refine WL.callF (vs := [.slice ad us.length cap, .int .i64 x3]) Try.func42 (by kernel_rfl) rfl rfl rfl (number13_ret us _ x3 (ro := ro) (fun b hb => (hS.snap b hb).1) (SlV.keep hx hS.alike fun _ _ h => h) (hv _ (List.mem_of_getElem? hx3)) hl) ?_
  rintro v w4 ⟨rfl, hbl⟩
  replace hS := hS.grow hbl
  refine WL.buildSlice (ps := [(0, .int .i64 (num13 us x3))]) (cs := [.int .i64 (num13 us x3)]) Try.underlying28 (tyZero_spec zer_3) rfl rfl rfl rfl (by kernel_rfl) hS ?_
  clear hS; intro w6 b5 hb_b5 hS
  refine WL.append (r := ⟨.slice adv k capv, 3, 1, k, cs⟩) (cs := [.int .i64 (num13 us x3)]) 8 Try.underlying28 (tyZero_spec zer_3) byt_3 rfl rfl rfl rfl rfl rfl rfl rfl rfl hS (by unfold maxLen; simp only; omega) (by simp only; omega) ?_
  clear hS; intro w7 v8 hn_v8 hS
  have hrow : w7.ownsRow w.heap.size 3 1 v8 (k + 1) _ := hS.rows _ List.mem_cons_self
  obtain ⟨av8, cv8, rfl, hc1_v8, hc2_v8, hc3_v8⟩ := row_shape hrow
  clear hrow
  refine WL.assign rfl rfl rfl (WL.nil (N.blk (N.seq (W.region (WL.move rfl rfl rfl ?_)))))
  refine WL.add (c := (k : Int) + 1) rfl rfl rfl rfl (rfl) (by omega) ?_
  refine WL.assign rfl rfl rfl (WL.nil ?_)
  have hch2 : Chunks 1 IntC (cs ++ ([.int .i64 (num13 us x3)] : List Value)) ((l.take (k + 1)).map (num13 us)) := by rw [take_next hx3, List.map_append]; exact hch.snoc rfl ⟨rfl, by have := num13_le us x3; unfold inI; omega⟩
  exact N.loop (k + 1, .slice av8 (k + 1) cv8, cs ++ ([.int .i64 (num13 us x3)] : List Value)) ⟨rfl, rfl, rfl, rfl, rfl, trivial⟩ ⟨hS, by omega, hch2⟩ (by first | omega | (simp only; omega))
 have hc2p : ¬ ((k : Int) < (l.length : Int)) := by simpa using hc2
 refine W.exit (X.seq (X.loop (X.blk (N.seq (W.seq (W.region (WL.move rfl rfl rfl (WL.assign rfl rfl rfl (WL.nil ?_)))))))))
 refine N.seq ?_
 refine Fin.ret1 rfl (v := .slice adv k capv) rfl ?_
 have hke : k = l.length := by omega
 subst hke
 rw [List.take_length] at hch
 refine ⟨row_slv (hS.rows _ List.mem_cons_self) hch (by simp) (fun x hx => ?_), hS.below⟩
 exact (hS.keys x (by simp only [keysOf, List.mem_append, List.mem_filterMap]; exact .inr ⟨_, List.mem_cons_self, hx⟩)).imp id (·.1)

end Go.Proofs.Ytdlcmhkfglckfaa
