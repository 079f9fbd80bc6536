/-
  Contracts of layer 13 (trim). No condition beyond those that each theorem states.
-/
import Derived.Test.YtdlcmhkfglckfaaV2
import Derived.Test.YtdlcmhkfglckfaaA17
namespace Go.Proofs.Ytdlcmhkfglckfaa
open Go.RowKit

def passK (f : DFunc) (us : List Bool) (k : Nat) : List Bool := match f.blocks[k]? with
  | none => us
  | some b => if (if us[k]? = some true ∧ b.fin.kind ≠ 3 then us.set b.fin.to.toNat true else us)[k]? = some true ∧ b.fin.kind = 2 then (if us[k]? = some true ∧ b.fin.kind ≠ 3 then us.set b.fin.to.toNat true else us).set b.fin.els.toNat true else (if us[k]? = some true ∧ b.fin.kind ≠ 3 then us.set b.fin.to.toNat true else us)
def passTo (f : DFunc) (us : List Bool) (k : Nat) : List Bool := (List.range k).foldl (passK f) us
def rounds (f : DFunc) : Nat → List Bool
  | 0 => List.replicate f.blocks.length false
  | n + 1 => passTo f ((rounds f n).set 0 true) f.blocks.length
theorem passK_at {f : DFunc} {us u1 : List Bool} {k : Nat} {b : DBlock} (hb : f.blocks[k]? = some b) (h1 : (if us[k]? = some true ∧ b.fin.kind ≠ 3 then us.set b.fin.to.toNat true else us) = u1) :
    passK f us k = if u1[k]? = some true ∧ b.fin.kind = 2 then u1.set b.fin.els.toNat true else u1 := by unfold passK; rw [hb]; dsimp only; rw [h1]
theorem passTo_succ (f : DFunc) (us : List Bool) (k : Nat) : passTo f us (k + 1) = passK f (passTo f us k) k := by simp [passTo, List.range_succ]
theorem passK_length (f : DFunc) (us : List Bool) (k : Nat) : (passK f us k).length = us.length := by
  unfold passK
  split
  · rfl
  · split <;> split <;> simp only [List.length_set]
theorem passTo_length (f : DFunc) (us : List Bool) (k : Nat) : (passTo f us k).length = us.length := by
  induction k with
  | zero => rfl
  | succ k ih => rw [passTo_succ, passK_length, ih]
theorem rounds_length (f : DFunc) (n : Nat) : (rounds f n).length = f.blocks.length := by
  induction n with
  | zero => simp [rounds]
  | succ n ih => rw [rounds, passTo_length, List.length_set, ih]

set_option maxRecDepth 10000 in
set_option maxHeartbeats 4000000 in
theorem rreached13_ret (f : DFunc) (cs : List Value) {w : World} {ro : Nat → Prop} (hro : ∀ b, ro b → b < w.heap.size) (hx : FuncC ro w cs f) (hgo : Goes13 f) (hl : f.blocks.length ≤ 1000) : Ret Try.prog 23 #[.agg cs.toArray] w fun v w' => ∃ g, v = .slice (some ⟨g, 0, none⟩) f.blocks.length f.blocks.length ∧ w.heap.size ≤ g ∧ w'.heap[g]? = some (arrO Value.bool 4 (rounds f f.blocks.length)) ∧ Below w.heap.size w w' := by
 obtain ⟨sbF, rfl, hblF, hnmF, hbdF, hprF⟩ := id hx
 obtain ⟨adbF, capbF, rfl, hbkFa, hbkFb, hbkFc, hbkFd⟩ := id hblF
 have hbkFm : f.blocks.length ≤ 9223372036854775807 := by have h1 := hbkFa; have h2 := hbkFb; unfold maxLen at h2; omega
 refine Ret.enter (P := Try.prog) (n := 60) (args := [.agg #[.string f.name, .int .i64 f.bind, .int .i64 f.params, .slice adbF f.blocks.length capbF]]) (σ := [(0, .agg #[.string f.name, .int .i64 f.bind, .int .i64 f.params, .slice adbF f.blocks.length capbF])]) Try.func23 rfl rfl rfl rfl ?_
 have hS := St.start (ro := ro) hro
 refine W.seq (W.region ?_)
 refine WL.box (v := .agg #[.string f.name, .int .i64 f.bind, .int .i64 f.params, .slice adbF f.blocks.length capbF]) (cs := [.string f.name, .int .i64 f.bind, .int .i64 f.params, .slice adbF f.blocks.length capbF]) rfl rfl rfl rfl hS ?_
 clear hS; intro w2 b1 hb_b1 hS
 refine WL.assign rfl rfl rfl (WL.nil (N.seq (W.seq (W.region (WL.fieldAddr fo_24_3 rfl rfl rfl (WL.load1 (v := .slice adbF f.blocks.length capbF) one_22 rfl rfl rfl (hS.cell 0 rfl rfl) (WL.lenSlice Try.underlying22 rfl rfl rfl ?_)))))))
 refine WL.makeSliceL (m := f.blocks.length) (f := Value.bool) (z := false) 1 Try.underlying40 (tyZero_spec zer_4) byt_4 rfl rfl rfl rfl hS (by unfold maxLen; omega) (by omega) ?_
 clear hS; intro w4 b3 hS
 refine WL.assign rfl rfl rfl (WL.nil (N.seq (W.seq (W.seq (W.region (WL.assign rfl rfl rfl (WL.nil (N.seq (W.block ?_)))))))))
 refine W.loop (α := Nat) (fun (n : Nat) => [(1, .pointer (some ⟨b1, 0, none⟩)), (2, .slice none 0 0), (3, .slice (some ⟨b3, 0, none⟩) f.blocks.length f.blocks.length), (4, .int .i64 (n : Int))]) (fun (n : Nat) u => St w w u ro [(b3, arrO Value.bool 4 (rounds f n)), (b1, .cells #[.string f.name, .int .i64 f.bind, .int .i64 f.params, .slice adbF f.blocks.length capbF] 24 (0, 0))] [] ∧ n ≤ f.blocks.length) (fun (n : Nat) => f.blocks.length - n) 0 ⟨rfl, rfl, rfl, rfl, trivial⟩ ⟨hS, Nat.zero_le _⟩ ?_
 clear hS
 rintro n w5 ⟨hS, hn⟩
 refine W.seq (W.seq (W.region (WL.move rfl rfl rfl (WL.fieldAddr fo_24_3 rfl rfl rfl (WL.load1 (v := .slice adbF f.blocks.length capbF) one_22 rfl rfl rfl (hS.cell 1 rfl rfl) (WL.lenSlice Try.underlying22 rfl rfl rfl (WL.bin rfl rfl rfl rfl rfl (WL.nil (N.seq ?_)))))))))
 refine W.cond rfl (fun hc6 => ?_) (fun hc6 => ?_)
 ·
  have hc6p : (n : Int) < (f.blocks.length : Int) := by simpa using hc6
  refine W.skip (N.seq (W.seq (W.block (W.seq (W.region (WL.move rfl rfl rfl ?_))))))
  refine WL.indexAddr (j := 0) Try.underlying40 isz_4 rfl rfl rfl rfl (by omega) ?_
  refine WL.storeArr (v := true) 0 rfl rfl rfl rfl siz_4 rfl rfl (by simp only [passTo_length, List.length_set, rounds_length]; omega) hS ?_
  clear hS; intro w7 hS
  refine WL.nil (N.seq (W.seq (W.region (WL.assign rfl rfl rfl (WL.nil (N.seq (W.block ?_)))))))
  rw [show ((rounds f n).set 0 true) = passTo f ((rounds f n).set 0 true) 0 from rfl] at hS
  refine W.loop (α := Nat) (fun (k : Nat) => [(1, .pointer (some ⟨b1, 0, none⟩)), (2, .slice none 0 0), (3, .slice (some ⟨b3, 0, none⟩) f.blocks.length f.blocks.length), (4, .int .i64 (n : Int)), (5, .int .i64 (k : Int))]) (fun (k : Nat) u => St w w u ro [(b3, arrO Value.bool 4 (passTo f ((rounds f n).set 0 true) k)), (b1, .cells #[.string f.name, .int .i64 f.bind, .int .i64 f.params, .slice adbF f.blocks.length capbF] 24 (0, 0))] [] ∧ k ≤ f.blocks.length) (fun (k : Nat) => f.blocks.length - k) 0 ⟨rfl, rfl, rfl, rfl, rfl, trivial⟩ ⟨hS, Nat.zero_le _⟩ ?_
  clear hS
  rintro k w8 ⟨hS, hk⟩
  refine W.seq (W.seq (W.region (WL.move rfl rfl rfl (WL.fieldAddr fo_24_3 rfl rfl rfl (WL.load1 (v := .slice adbF f.blocks.length capbF) one_22 rfl rfl rfl (hS.cell 1 rfl rfl) (WL.lenSlice Try.underlying22 rfl rfl rfl (WL.bin rfl rfl rfl rfl rfl (WL.nil (N.seq ?_)))))))))
  refine W.cond rfl (fun hc9 => ?_) (fun hc9 => ?_)
  ·
   have hc9p : (k : Int) < (f.blocks.length : Int) := by simpa using hc9
   refine W.skip (N.seq (W.seq (W.block (W.seq (W.region (WL.fieldAddr fo_24_3 rfl rfl rfl (WL.load1 (v := .slice adbF f.blocks.length capbF) one_22 rfl rfl rfl (hS.cell 1 rfl rfl) (WL.move rfl rfl rfl ?_))))))))
   have hj10 : k < f.blocks.length := by omega
   obtain ⟨x10, hx10⟩ : ∃ zz, f.blocks[k]? = some zz := ⟨_, List.getElem?_eq_getElem hj10⟩
   obtain ⟨b10, o10, cs10, hE10, hr10, hl10, hc10, hQ10⟩ := hbkFd k _ hx10
   obtain ⟨si10, tsx10, rfl, hin10, hfin10, hpar10⟩ := id hQ10
   obtain ⟨adi10, capi10, rfl, hin10a, hin10b, hin10c, hin10d⟩ := id hin10
   have hin10m : x10.ins.length ≤ 9223372036854775807 := by have h1 := hin10a; have h2 := hin10b; unfold maxLen at h2; omega
   obtain ⟨sp10, sq10, rfl, ht110, ht210, htk10, hta10, htt10, hte10⟩ := id hfin10
   obtain ⟨adp10, capp10, rfl, htp10a, htp10b, htp10c, htp10d⟩ := id ht110
   have htp10m : x10.fin.args.length ≤ 9223372036854775807 := by have h1 := htp10a; have h2 := htp10b; unfold maxLen at h2; omega
   obtain ⟨adq10, capq10, rfl, htq10a, htq10b, htq10c, htq10d⟩ := id ht210
   have htq10m : x10.fin.elses.length ≤ 9223372036854775807 := by have h1 := htq10a; have h2 := htq10b; unfold maxLen at h2; omega
   refine WL.indexAddrE (j := k) Try.underlying22 isz_32 rfl rfl rfl rfl hj10 hE10 (WL.fieldAddr fo_32_2 rfl rfl rfl (WL.loadN (cs := [.int .i64 x10.fin.kind, .int .i64 x10.fin.a, .int .i64 x10.fin.to, .slice adp10 x10.fin.args.length capp10, .int .i64 x10.fin.els, .slice adq10 x10.fin.elses.length capq10]) agg_30 rfl rfl rfl rfl (CellsAt.part (hS.roCells hr10 hc10) 2 6 rfl) ?_))
   refine WL.alloc (tyZero_spec zer_30) rfl rfl hS ?_
   clear hS; intro w12 b11 hb_b11 hS
   refine WL.store (L' := [(b11, .cells #[.int .i64 x10.fin.kind, .int .i64 x10.fin.a, .int .i64 x10.fin.to, .slice adp10 x10.fin.args.length capp10, .int .i64 x10.fin.els, .slice adq10 x10.fin.elses.length capq10] 30 (0, 0)), (b3, arrO Value.bool 4 (passTo f ((rounds f n).set 0 true) k)), (b1, .cells #[.string f.name, .int .i64 f.bind, .int .i64 f.params, .slice adbF f.blocks.length capbF] 24 (0, 0))]) 0 rfl rfl rfl rfl siz_30 rfl rfl rfl rfl rfl hS ?_
   clear hS; intro w13 hS
   refine WL.nil (N.seq (W.seq (W.seq (W.region (WL.move rfl rfl rfl (WL.move rfl rfl rfl ?_))))))
   refine WL.indexAddr (j := k) Try.underlying40 isz_4 rfl rfl rfl rfl (by omega) ?_
   obtain ⟨x14, hx14⟩ : ∃ zz, (passTo f ((rounds f n).set 0 true) k)[k]? = some zz := ⟨_, List.getElem?_eq_getElem (by simp only [passTo_length, List.length_set, rounds_length]; omega)⟩
   refine WL.load1 (v := .bool x14) one_4 rfl rfl rfl (hS.arr 1 rfl hx14) (WL.move rfl rfl rfl ?_)
   cases hg15 : x14
   ·
    refine WL.skp rfl rfl (WL.skp rfl rfl (WL.skp rfl rfl (WL.pick (v := .bool false) rfl rfl rfl rfl rfl rfl (WL.nil (N.seq (W.condF rfl (W.skip (N.seq (W.seq ?_)))))))))
    refine W.region (WL.move rfl rfl rfl (WL.move rfl rfl rfl ?_))
    refine WL.indexAddr (j := k) Try.underlying40 isz_4 rfl rfl rfl rfl (by omega) ?_
    obtain ⟨x16, hx16⟩ : ∃ zz, (passTo f ((rounds f n).set 0 true) k)[k]? = some zz := ⟨_, List.getElem?_eq_getElem (by simp only [passTo_length, List.length_set, rounds_length]; omega)⟩
    refine WL.load1 (v := .bool x16) one_4 rfl rfl rfl (hS.arr 1 rfl hx16) (WL.move rfl rfl rfl ?_)
    cases hg17 : x16
    ·
     refine WL.skp rfl rfl (WL.skp rfl rfl (WL.skp rfl rfl (WL.pick (v := .bool false) rfl rfl rfl rfl rfl rfl (WL.nil (N.seq (W.condF rfl (W.skip (N.blk (N.seq ?_)))))))))
     refine W.region (WL.move rfl rfl rfl ?_)
     refine WL.add (c := (k : Int) + 1) rfl rfl rfl rfl (rfl) (by omega) ?_
     refine WL.assign rfl rfl rfl (WL.nil ?_)
     have hS := hS.dropN 1
     have hst : passK f (passTo f ((rounds f n).set 0 true) k) k = (passTo f ((rounds f n).set 0 true) k) := (passK_at hx10 (u1 := (passTo f ((rounds f n).set 0 true) k)) (if_neg (fun c => by first | exact c.2 ‹_› | exact absurd c.2 ‹_› | (have c1 := c.1; simp_all)))).trans (if_neg (fun c => by first | exact c.2 ‹_› | exact absurd c.2 ‹_› | (have c1 := c.1; simp_all)))
     rw [← hst, ← passTo_succ] at hS
     exact N.loop (k + 1) ⟨rfl, rfl, rfl, rfl, rfl, trivial⟩ ⟨hS, by omega⟩ (by first | omega | (simp only; omega))
    refine WL.fieldAddr fo_30_0 rfl rfl rfl (WL.load1 (v := .int .i64 x10.fin.kind) one_3 rfl rfl rfl (hS.cell 0 rfl rfl) (WL.bin rfl rfl rfl rfl rfl (WL.pick (v := .bool (decide (x10.fin.kind = 2))) rfl rfl rfl rfl rfl rfl (WL.nil (N.seq ?_)))))
    refine W.cond rfl (fun hc18 => ?_) (fun hc18 => ?_)
    ·
     have hc18p : x10.fin.kind = 2 := by simpa using hc18
     refine W.region (WL.move rfl rfl rfl (WL.fieldAddr fo_30_4 rfl rfl rfl (WL.load1 (v := .int .i64 x10.fin.els) one_3 rfl rfl rfl (hS.cell 0 rfl rfl) ?_)))
     have hg2 := (hgo x10 (List.mem_of_getElem? hx10)).2 (by first | assumption | omega)
     refine WL.set 57 (v' := .int .i64 (x10.fin.els.toNat : Int)) rfl (by congr 1; omega) ?_
     refine WL.indexAddr (j := x10.fin.els.toNat) Try.underlying40 isz_4 rfl rfl rfl rfl (by omega) ?_
     refine WL.storeArr (v := true) 1 rfl rfl rfl rfl siz_4 rfl rfl (by simp only [passTo_length, List.length_set, rounds_length]; omega) hS ?_
     clear hS; intro w19 hS
     refine WL.nil (N.blk (N.seq (W.region (WL.move rfl rfl rfl ?_))))
     refine WL.add (c := (k : Int) + 1) rfl rfl rfl rfl (rfl) (by omega) ?_
     refine WL.assign rfl rfl rfl (WL.nil ?_)
     have hS := hS.dropN 1
     have hst : passK f (passTo f ((rounds f n).set 0 true) k) k = (passTo f ((rounds f n).set 0 true) k).set x10.fin.els.toNat true := (passK_at hx10 (u1 := (passTo f ((rounds f n).set 0 true) k)) (if_neg (fun c => by first | exact c.2 ‹_› | exact absurd c.2 ‹_› | (have c1 := c.1; simp_all)))).trans (if_pos ⟨by first | assumption | simp_all, by first | assumption | simp_all⟩)
     rw [← hst, ← passTo_succ] at hS
     exact N.loop (k + 1) ⟨rfl, rfl, rfl, rfl, rfl, trivial⟩ ⟨hS, by omega⟩ (by first | omega | (simp only; omega))
    have hc18p : ¬ (x10.fin.kind = 2) := by simpa using hc18
    refine W.skip (N.blk (N.seq (W.region (WL.move rfl rfl rfl ?_))))
    refine WL.add (c := (k : Int) + 1) rfl rfl rfl rfl (rfl) (by omega) ?_
    refine WL.assign rfl rfl rfl (WL.nil ?_)
    have hS := hS.dropN 1
    have hst : passK f (passTo f ((rounds f n).set 0 true) k) k = (passTo f ((rounds f n).set 0 true) k) := (passK_at hx10 (u1 := (passTo f ((rounds f n).set 0 true) k)) (if_neg (fun c => by first | exact c.2 ‹_› | exact absurd c.2 ‹_› | (have c1 := c.1; simp_all)))).trans (if_neg (fun c => by first | exact c.2 ‹_› | exact absurd c.2 ‹_› | (have c1 := c.1; simp_all)))
    rw [← hst, ← passTo_succ] at hS
    exact N.loop (k + 1) ⟨rfl, rfl, rfl, rfl, rfl, trivial⟩ ⟨hS, by omega⟩ (by first | omega | (simp only; omega))
   refine WL.fieldAddr fo_30_0 rfl rfl rfl (WL.load1 (v := .int .i64 x10.fin.kind) one_3 rfl rfl rfl (hS.cell 0 rfl rfl) (WL.bin rfl rfl rfl rfl rfl (WL.pick (v := .bool (!decide (x10.fin.kind = 3))) rfl rfl rfl rfl rfl rfl (WL.nil (N.seq ?_)))))
   refine W.cond rfl (fun hc20 => ?_) (fun hc20 => ?_)
   ·
    have hc20p : ¬ (x10.fin.kind = 3) := by simpa using hc20
    refine W.region (WL.move rfl rfl rfl (WL.fieldAddr fo_30_2 rfl rfl rfl (WL.load1 (v := .int .i64 x10.fin.to) one_3 rfl rfl rfl (hS.cell 0 rfl rfl) ?_)))
    have hg1 := (hgo x10 (List.mem_of_getElem? hx10)).1 (by first | assumption | omega)
    refine WL.set 44 (v' := .int .i64 (x10.fin.to.toNat : Int)) rfl (by congr 1; omega) ?_
    refine WL.indexAddr (j := x10.fin.to.toNat) Try.underlying40 isz_4 rfl rfl rfl rfl (by omega) ?_
    refine WL.storeArr (v := true) 1 rfl rfl rfl rfl siz_4 rfl rfl (by simp only [passTo_length, List.length_set, rounds_length]; omega) hS ?_
    clear hS; intro w21 hS
    refine WL.nil (N.seq (W.seq (W.region (WL.move rfl rfl rfl (WL.move rfl rfl rfl ?_)))))
    refine WL.indexAddr (j := k) Try.underlying40 isz_4 rfl rfl rfl rfl (by omega) ?_
    obtain ⟨x22, hx22⟩ : ∃ zz, ((passTo f ((rounds f n).set 0 true) k).set x10.fin.to.toNat true)[k]? = some zz := ⟨_, List.getElem?_eq_getElem (by simp only [passTo_length, List.length_set, rounds_length]; omega)⟩
    refine WL.load1 (v := .bool x22) one_4 rfl rfl rfl (hS.arr 1 rfl hx22) (WL.move rfl rfl rfl ?_)
    cases hg23 : x22
    ·
     refine WL.skp rfl rfl (WL.skp rfl rfl (WL.skp rfl rfl (WL.pick (v := .bool false) rfl rfl rfl rfl rfl rfl (WL.nil (N.seq (W.condF rfl (W.skip (N.blk (N.seq ?_)))))))))
     refine W.region (WL.move rfl rfl rfl ?_)
     refine WL.add (c := (k : Int) + 1) rfl rfl rfl rfl (rfl) (by omega) ?_
     refine WL.assign rfl rfl rfl (WL.nil ?_)
     have hS := hS.dropN 1
     have hst : passK f (passTo f ((rounds f n).set 0 true) k) k = (passTo f ((rounds f n).set 0 true) k).set x10.fin.to.toNat true := (passK_at hx10 (u1 := ((passTo f ((rounds f n).set 0 true) k).set x10.fin.to.toNat true)) (if_pos ⟨by first | assumption | simp_all, by first | assumption | simp_all⟩)).trans (if_neg (fun c => by first | exact c.2 ‹_› | exact absurd c.2 ‹_› | (have c1 := c.1; simp_all)))
     rw [← hst, ← passTo_succ] at hS
     exact N.loop (k + 1) ⟨rfl, rfl, rfl, rfl, rfl, trivial⟩ ⟨hS, by omega⟩ (by first | omega | (simp only; omega))
    refine WL.fieldAddr fo_30_0 rfl rfl rfl (WL.load1 (v := .int .i64 x10.fin.kind) one_3 rfl rfl rfl (hS.cell 0 rfl rfl) (WL.bin rfl rfl rfl rfl rfl (WL.pick (v := .bool (decide (x10.fin.kind = 2))) rfl rfl rfl rfl rfl rfl (WL.nil (N.seq ?_)))))
    refine W.cond rfl (fun hc24 => ?_) (fun hc24 => ?_)
    ·
     have hc24p : x10.fin.kind = 2 := by simpa using hc24
     refine W.region (WL.move rfl rfl rfl (WL.fieldAddr fo_30_4 rfl rfl rfl (WL.load1 (v := .int .i64 x10.fin.els) one_3 rfl rfl rfl (hS.cell 0 rfl rfl) ?_)))
     have hg2 := (hgo x10 (List.mem_of_getElem? hx10)).2 (by first | assumption | omega)
     refine WL.set 57 (v' := .int .i64 (x10.fin.els.toNat : Int)) rfl (by congr 1; omega) ?_
     refine WL.indexAddr (j := x10.fin.els.toNat) Try.underlying40 isz_4 rfl rfl rfl rfl (by omega) ?_
     refine WL.storeArr (v := true) 1 rfl rfl rfl rfl siz_4 rfl rfl (by simp only [passTo_length, List.length_set, rounds_length]; omega) hS ?_
     clear hS; intro w25 hS
     refine WL.nil (N.blk (N.seq (W.region (WL.move rfl rfl rfl ?_))))
     refine WL.add (c := (k : Int) + 1) rfl rfl rfl rfl (rfl) (by omega) ?_
     refine WL.assign rfl rfl rfl (WL.nil ?_)
     have hS := hS.dropN 1
     have hst : passK f (passTo f ((rounds f n).set 0 true) k) k = ((passTo f ((rounds f n).set 0 true) k).set x10.fin.to.toNat true).set x10.fin.els.toNat true := (passK_at hx10 (u1 := ((passTo f ((rounds f n).set 0 true) k).set x10.fin.to.toNat true)) (if_pos ⟨by first | assumption | simp_all, by first | assumption | simp_all⟩)).trans (if_pos ⟨by first | assumption | simp_all, by first | assumption | simp_all⟩)
     rw [← hst, ← passTo_succ] at hS
     exact N.loop (k + 1) ⟨rfl, rfl, rfl, rfl, rfl, trivial⟩ ⟨hS, by omega⟩ (by first | omega | (simp only; omega))
    have hc24p : ¬ (x10.fin.kind = 2) := by simpa using hc24
    refine W.skip (N.blk (N.seq (W.region (WL.move rfl rfl rfl ?_))))
    refine WL.add (c := (k : Int) + 1) rfl rfl rfl rfl (rfl) (by omega) ?_
    refine WL.assign rfl rfl rfl (WL.nil ?_)
    have hS := hS.dropN 1
    have hst : passK f (passTo f ((rounds f n).set 0 true) k) k = (passTo f ((rounds f n).set 0 true) k).set x10.fin.to.toNat true := (passK_at hx10 (u1 := ((passTo f ((rounds f n).set 0 true) k).set x10.fin.to.toNat true)) (if_pos ⟨by first | assumption | simp_all, by first | assumption | simp_all⟩)).trans (if_neg (fun c => by first | exact c.2 ‹_› | exact absurd c.2 ‹_› | (have c1 := c.1; simp_all)))
    rw [← hst, ← passTo_succ] at hS
    exact N.loop (k + 1) ⟨rfl, rfl, rfl, rfl, rfl, trivial⟩ ⟨hS, by omega⟩ (by first | omega | (simp only; omega))
   have hc20p : x10.fin.kind = 3 := by simpa using hc20
   refine W.skip (N.seq (W.seq (W.region (WL.move rfl rfl rfl (WL.move rfl rfl rfl ?_)))))
   refine WL.indexAddr (j := k) Try.underlying40 isz_4 rfl rfl rfl rfl (by omega) ?_
   obtain ⟨x26, hx26⟩ : ∃ zz, (passTo f ((rounds f n).set 0 true) k)[k]? = some zz := ⟨_, List.getElem?_eq_getElem (by simp only [passTo_length, List.length_set, rounds_length]; omega)⟩
   refine WL.load1 (v := .bool x26) one_4 rfl rfl rfl (hS.arr 1 rfl hx26) (WL.move rfl rfl rfl ?_)
   cases hg27 : x26
   ·
    refine WL.skp rfl rfl (WL.skp rfl rfl (WL.skp rfl rfl (WL.pick (v := .bool false) rfl rfl rfl rfl rfl rfl (WL.nil (N.seq (W.condF rfl (W.skip (N.blk (N.seq ?_)))))))))
    refine W.region (WL.move rfl rfl rfl ?_)
    refine WL.add (c := (k : Int) + 1) rfl rfl rfl rfl (rfl) (by omega) ?_
    refine WL.assign rfl rfl rfl (WL.nil ?_)
    have hS := hS.dropN 1
    have hst : passK f (passTo f ((rounds f n).set 0 true) k) k = (passTo f ((rounds f n).set 0 true) k) := (passK_at hx10 (u1 := (passTo f ((rounds f n).set 0 true) k)) (if_neg (fun c => by first | exact c.2 ‹_› | exact absurd c.2 ‹_› | (have c1 := c.1; simp_all)))).trans (if_neg (fun c => by first | exact c.2 ‹_› | exact absurd c.2 ‹_› | (have c1 := c.1; simp_all)))
    rw [← hst, ← passTo_succ] at hS
    exact N.loop (k + 1) ⟨rfl, rfl, rfl, rfl, rfl, trivial⟩ ⟨hS, by omega⟩ (by first | omega | (simp only; omega))
   refine WL.fieldAddr fo_30_0 rfl rfl rfl (WL.load1 (v := .int .i64 x10.fin.kind) one_3 rfl rfl rfl (hS.cell 0 rfl rfl) (WL.bin rfl rfl rfl rfl rfl (WL.pick (v := .bool (decide (x10.fin.kind = 2))) rfl rfl rfl rfl rfl rfl (WL.nil (N.seq ?_)))))
   refine W.cond rfl (fun hc28 => ?_) (fun hc28 => ?_)
   ·
    have hc28p : x10.fin.kind = 2 := by simpa using hc28
    refine W.region (WL.move rfl rfl rfl (WL.fieldAddr fo_30_4 rfl rfl rfl (WL.load1 (v := .int .i64 x10.fin.els) one_3 rfl rfl rfl (hS.cell 0 rfl rfl) ?_)))
    have hg2 := (hgo x10 (List.mem_of_getElem? hx10)).2 (by first | assumption | omega)
    refine WL.set 57 (v' := .int .i64 (x10.fin.els.toNat : Int)) rfl (by congr 1; omega) ?_
    refine WL.indexAddr (j := x10.fin.els.toNat) Try.underlying40 isz_4 rfl rfl rfl rfl (by omega) ?_
    refine WL.storeArr (v := true) 1 rfl rfl rfl rfl siz_4 rfl rfl (by simp only [passTo_length, List.length_set, rounds_length]; omega) hS ?_
    clear hS; intro w29 hS
    refine WL.nil (N.blk (N.seq (W.region (WL.move rfl rfl rfl ?_))))
    refine WL.add (c := (k : Int) + 1) rfl rfl rfl rfl (rfl) (by omega) ?_
    refine WL.assign rfl rfl rfl (WL.nil ?_)
    have hS := hS.dropN 1
    have hst : passK f (passTo f ((rounds f n).set 0 true) k) k = (passTo f ((rounds f n).set 0 true) k).set x10.fin.els.toNat true := (passK_at hx10 (u1 := (passTo f ((rounds f n).set 0 true) k)) (if_neg (fun c => by first | exact c.2 ‹_› | exact absurd c.2 ‹_› | (have c1 := c.1; simp_all)))).trans (if_pos ⟨by first | assumption | simp_all, by first | assumption | simp_all⟩)
    rw [← hst, ← passTo_succ] at hS
    exact N.loop (k + 1) ⟨rfl, rfl, rfl, rfl, rfl, trivial⟩ ⟨hS, by omega⟩ (by first | omega | (simp only; omega))
   have hc28p : ¬ (x10.fin.kind = 2) := by simpa using hc28
   refine W.skip (N.blk (N.seq (W.region (WL.move rfl rfl rfl ?_))))
   refine WL.add (c := (k : Int) + 1) rfl rfl rfl rfl (rfl) (by omega) ?_
   refine WL.assign rfl rfl rfl (WL.nil ?_)
   have hS := hS.dropN 1
   have hst : passK f (passTo f ((rounds f n).set 0 true) k) k = (passTo f ((rounds f n).set 0 true) k) := (passK_at hx10 (u1 := (passTo f ((rounds f n).set 0 true) k)) (if_neg (fun c => by first | exact c.2 ‹_› | exact absurd c.2 ‹_› | (have c1 := c.1; simp_all)))).trans (if_neg (fun c => by first | exact c.2 ‹_› | exact absurd c.2 ‹_› | (have c1 := c.1; simp_all)))
   rw [← hst, ← passTo_succ] at hS
   exact N.loop (k + 1) ⟨rfl, rfl, rfl, rfl, rfl, trivial⟩ ⟨hS, by omega⟩ (by first | omega | (simp only; omega))
  have hc9p : ¬ ((k : Int) < (f.blocks.length : Int)) := by simpa using hc9
  have hke : k = f.blocks.length := by omega
  rw [hke, show passTo f ((rounds f n).set 0 true) f.blocks.length = rounds f (n + 1) from rfl] at hS
  refine W.exit (X.seq (X.loop (X.blk (N.blk (N.seq (W.region (WL.move rfl rfl rfl ?_)))))))
  refine WL.add (c := (n : Int) + 1) rfl rfl rfl rfl (rfl) (by omega) ?_
  refine WL.assign rfl rfl rfl (WL.nil ?_)
  exact N.loop (n + 1) ⟨rfl, rfl, rfl, rfl, trivial⟩ ⟨hS, by omega⟩ (by first | omega | (simp only; omega))
 have hc6p : ¬ ((n : Int) < (f.blocks.length : Int)) := by simpa using hc6
 refine W.exit (X.seq (X.loop (X.blk (N.seq (W.seq (W.region (WL.move rfl rfl rfl (WL.assign rfl rfl rfl (WL.nil ?_)))))))))
 refine N.seq ?_
 refine Fin.ret1 rfl (v := .slice (some ⟨b3, 0, none⟩) f.blocks.length f.blocks.length) rfl ?_
 have e : n = f.blocks.length := by omega
 rw [e] at hS
 exact ⟨b3, rfl, (hS.keys b3 (by simp [keysOf])).1, hS.own _ (List.mem_of_getElem? (i := 0) rfl), hS.below⟩

end Go.Proofs.Ytdlcmhkfglckfaa
