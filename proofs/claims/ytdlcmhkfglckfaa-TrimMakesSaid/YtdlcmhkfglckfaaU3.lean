/-
  Contracts of layer 13 (trim). No condition beyond those that each theorem states.
-/
import Derived.Test.YtdlcmhkfglckfaaU2
namespace Go.Proofs.Ytdlcmhkfglckfaa
open Go.RowKit
theorem zb_3 : (Try.prog.info? 3).bind (·.zero) = some (.int .i64 0) := by kernel_rfl
def anew13 (g : Int → Option Int) (l : List Int) : List Int := l.map fun x => (g x).getD 0
theorem used13_length (b : DBlock) : (used13 b).length = b.params.toNat + b.ins.length := by
  have h : ∀ (k : Nat) (us : List Bool), (back13 b k us).length = us.length := fun k => by
    induction k with
    | zero => intro us; rfl
    | succ k ih =>
      intro us
      rw [back13]
      split
      · rw [ih]; unfold stepU13; split
        · rw [mark13_length]
        · rfl
      · exact ih us
  unfold used13
  rw [h, mark13_length, List.length_replicate]

theorem anew_ret (xs : List Int) (vx : Value) (bm : Nat) (es : Array MapEntry) (ck n : Nat) (g : Int → Option Int) {w : World} {ro : Nat → Prop} (hro : ∀ b, ro b → b < w.heap.size) (hx : SlV ro w 1 IntC vx xs) (hrm : ro bm) (hmp : w.heap[bm]? = some (.map es ck)) (hM : MapG kI kI es ck n g) (hgi : ∀ x, inI ((g x).getD 0)) (hl : xs.length ≤ 1000) : Ret Try.prog 33 #[vx, .map (some bm)] w fun v w' => SlV (fun b => w.heap.size ≤ b ∧ b < w'.heap.size) w' 1 IntC v (anew13 g xs) ∧ Below w.heap.size w w' := by
 obtain ⟨ad, cap, rfl, haa, hab, hac, had⟩ := id hx
 have ham : xs.length ≤ 9223372036854775807 := by have h1 := haa; have h2 := hab; unfold maxLen at h2; omega
 refine Ret.enter (P := Try.prog) (n := 22) (args := [.slice ad xs.length cap, .map (some bm)]) (σ := [(0, .slice ad xs.length cap), (1, .map (some bm))]) Try.func33 rfl rfl rfl rfl ?_
 have hS := St.start (ro := ro) hro
 refine W.seq (W.region (WL.assign rfl rfl rfl (WL.nil (N.seq (W.seq (W.region (WL.assign rfl rfl rfl (WL.nil (N.seq ?_)))))))))
 refine W.seq (W.seq (W.region (WL.move rfl rfl rfl (WL.lenSlice Try.underlying28 rfl rfl rfl (WL.move rfl rfl rfl (WL.nil (N.seq (W.block ?_))))))))
 replace hS := hS.row0 3 1
 refine W.loop (α := Nat × Value × List Value) (fun ⟨k, v, cs⟩ => [(1, .map (some bm)), (4, .slice none 0 0), (5, v), (8, .slice ad xs.length cap), (9, .int .i64 (xs.length : Int)), (10, .int .i64 (k : Int))]) (fun ⟨k, v, cs⟩ u => St w w u ro [] [⟨v, 3, 1, k, cs⟩] ∧ k ≤ xs.length ∧ Chunks 1 IntC cs (anew13 g (xs.take k))) (fun ⟨k, v, cs⟩ => xs.length - k) (0, (.slice none 0 0), []) ⟨rfl, rfl, rfl, rfl, rfl, rfl, trivial⟩ ⟨hS, Nat.zero_le _, Chunks.nil⟩ ?_
 clear hS
 rintro ⟨k, v, cs⟩ w1 ⟨hS, hk, hch⟩
 have hrow : w1.ownsRow w.heap.size 3 1 v (k) _ := hS.rows _ List.mem_cons_self
 obtain ⟨adv, capv, rfl, hr1v, hr2v, hr3v⟩ := row_shape hrow
 clear hrow
 refine W.seq (W.region (WL.bin rfl rfl rfl rfl rfl (WL.nil (N.seq (W.seq ?_)))))
 refine W.cond rfl (fun hc2 => ?_) (fun hc2 => ?_)
 ·
  have hc2p : (k : Int) < (xs.length : Int) := by simpa using hc2
  refine W.skip (N.seq (W.seq (W.block (W.seq (W.region ?_)))))
  have hj3 : k < xs.length := by omega
  obtain ⟨x3, hx3⟩ : ∃ zz, xs[k]? = some zz := ⟨_, List.getElem?_eq_getElem hj3⟩
  obtain ⟨b3, o3, cs3, hE3, hr3, hl3, hc3, hQ3⟩ := had k _ hx3
  obtain ⟨rfl, hi3⟩ := hQ3
  refine WL.indexAddrE (j := k) Try.underlying28 isz_3 rfl rfl rfl rfl hj3 hE3 (WL.load1 (v := .int .i64 x3) one_3 rfl rfl rfl (hS.roCells hr3 hc3 0 _ rfl) (WL.assign rfl rfl rfl (WL.nil (N.seq (W.region (WL.move rfl rfl rfl (WL.move rfl rfl rfl (WL.move rfl rfl rfl ?_))))))))
  refine WL.mapGet x3 keyE_int Try.underlying63 Try.underlying3 zb_3 hM rfl rfl rfl rfl ((hS.snap bm hrm).2.trans hmp) (v := .int .i64 ((g x3).getD 0)) (by cases g x3 <;> rfl) ?_
  refine WL.buildSlice (ps := [(0, .int .i64 ((g x3).getD 0))]) (cs := [.int .i64 ((g x3).getD 0)]) Try.underlying28 (tyZero_spec zer_3) rfl rfl rfl rfl (by kernel_rfl) hS ?_
  clear hS; intro w5 b4 hb_b4 hS
  refine WL.append (r := ⟨.slice adv k capv, 3, 1, k, cs⟩) (cs := [.int .i64 ((g x3).getD 0)]) 8 Try.underlying28 (tyZero_spec zer_3) byt_3 rfl rfl rfl rfl rfl rfl rfl rfl rfl hS (by unfold maxLen; simp only; omega) (by simp only; omega) ?_
  clear hS; intro w6 v7 hn_v7 hS
  have hrow : w6.ownsRow w.heap.size 3 1 v7 (k + 1) _ := hS.rows _ List.mem_cons_self
  obtain ⟨av7, cv7, rfl, hc1_v7, hc2_v7, hc3_v7⟩ := row_shape hrow
  clear hrow
  refine WL.assign rfl rfl rfl (WL.nil (N.blk (N.seq (W.region ?_))))
  refine WL.add (c := (k : Int) + 1) rfl rfl rfl rfl (rfl) (by omega) ?_
  refine WL.move rfl rfl rfl (WL.nil ?_)
  have hch2 : Chunks 1 IntC (cs ++ ([.int .i64 ((g x3).getD 0)] : List Value)) (anew13 g (xs.take (k + 1))) := by rw [take_next hx3, anew13, List.map_append]; exact hch.snoc rfl ⟨rfl, hgi _⟩
  exact N.loop (k + 1, .slice av7 (k + 1) cv7, cs ++ ([.int .i64 ((g x3).getD 0)] : List Value)) ⟨rfl, rfl, rfl, rfl, rfl, rfl, trivial⟩ ⟨hS, by omega, hch2⟩ (by first | omega | (simp only; omega))
 have hc2p : ¬ ((k : Int) < (xs.length : Int)) := by simpa using hc2
 refine W.exit (X.seq (X.loop (X.blk (N.seq (W.seq (W.region (WL.move rfl rfl rfl (WL.assign rfl rfl rfl (WL.nil ?_)))))))))
 refine N.seq ?_
 refine Fin.ret1 rfl (v := .slice adv k capv) rfl ?_
 have hke : k = xs.length := by omega
 subst hke
 rw [List.take_length] at hch
 refine ⟨row_slv (hS.rows _ List.mem_cons_self) hch (by simp [anew13]) (fun x hx => ?_), hS.below⟩
 exact (hS.keys x (by simp only [keysOf, List.mem_append, List.mem_filterMap]; exact .inr ⟨_, List.mem_cons_self, hx⟩)).imp id (·.1)

end Go.Proofs.Ytdlcmhkfglckfaa
