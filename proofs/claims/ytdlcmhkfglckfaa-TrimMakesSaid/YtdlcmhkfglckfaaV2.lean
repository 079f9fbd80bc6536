/-
  Contracts of layer 13 (trim). No condition beyond those that each theorem states.
-/
import Derived.Test.YtdlcmhkfglckfaaV1
import Derived.Test.YtdlcmhkfglckfaaL3
namespace Go.Proofs.Ytdlcmhkfglckfaa
open Go.RowKit

theorem end_args {t : DTerm} {v : Int} (h : v ∈ t.args) : true = decide (v ∈ ends13 t) := by rw [eq_comm, decide_eq_true_eq]; unfold ends13; exact List.mem_append_left _ (List.mem_append_left _ h)
theorem end_elses {t : DTerm} {v : Int} (h : v ∈ t.elses) : true = decide (v ∈ ends13 t) := by rw [eq_comm, decide_eq_true_eq]; unfold ends13; exact List.mem_append_left _ (List.mem_append_right _ h)
theorem end_k1 {t : DTerm} {v : Int} (h1 : ¬ v ∈ t.args) (h2 : ¬ v ∈ t.elses) (h3 : t.kind = 1) : false = decide (v ∈ ends13 t) := by
  rw [eq_comm, decide_eq_false_iff_not]; unfold ends13; rw [if_pos h3]; simp [h1, h2]
theorem end_a {t : DTerm} {v : Int} (h1 : ¬ v ∈ t.args) (h2 : ¬ v ∈ t.elses) (h3 : ¬ t.kind = 1) : decide (t.a = v) = decide (v ∈ ends13 t) := by
  unfold ends13; rw [if_neg h3]; simp [h1, h2, eq_comm]
theorem init_set {us : List Bool} {N k : Nat} {l : List Int} {x : Bool} (h : ∀ i, i < N → us[i]? = some (decide (i < k ∧ (i : Int) ∈ l))) (hl : us.length = N) (hk : k < N) (hx : x = decide ((k : Int) ∈ l)) : ∀ i, i < N → (us.set k x)[i]? = some (decide (i < k + 1 ∧ (i : Int) ∈ l)) := fun i hi => by
  rw [List.getElem?_set]
  by_cases e : k = i
  · subst e
    rw [if_pos rfl, if_pos (by omega), hx]; simp
  · rw [if_neg e, h i hi]
    have : (i < k ∧ (i : Int) ∈ l) ↔ (i < k + 1 ∧ (i : Int) ∈ l) := ⟨fun h => ⟨by omega, h.2⟩, fun h => ⟨by omega, h.2⟩⟩
    simp only [this]
theorem init_full {us : List Bool} {N : Nat} {l : List Int} (h : ∀ i, i < N → us[i]? = some (decide (i < N ∧ (i : Int) ∈ l))) (hl : us.length = N) (hp : ∀ x ∈ l, 0 ≤ x) : us = mark13 (List.replicate N false) l := by
  apply List.ext_getElem?
  intro i
  by_cases hi : i < N
  · rw [h i hi, mark13_get (by rw [List.length_replicate]; exact hi) hp]
    by_cases hm : (i : Int) ∈ l
    · rw [if_pos hm]; simp [hi, hm]
    · rw [if_neg hm, List.getElem?_replicate, if_pos hi]; simp [hm]
  · rw [List.getElem?_eq_none (by omega), List.getElem?_eq_none (by rw [mark13_length, List.length_replicate]; omega)]

set_option maxRecDepth 10000 in
set_option maxHeartbeats 4000000 in
theorem rused13_ret (b : DBlock) (cs : List Value) {w : World} {ro : Nat → Prop} (hro : ∀ b, ro b → b < w.heap.size) (hb : BlockC ro w cs b) (hok : Ok13 b) : Ret Try.prog 22 #[.agg cs.toArray] w fun v w' => ∃ g, v = .slice (some ⟨g, 0, none⟩) (b.params.toNat + b.ins.length) (b.params.toNat + b.ins.length) ∧ w.heap.size ≤ g ∧ w'.heap[g]? = some (arrO Value.bool 4 (used13 b)) ∧ Below w.heap.size w w' := by
 obtain ⟨si, tsx, rfl, hin, hfin, hpar⟩ := id hb
 obtain ⟨adi, capi, rfl, hina, hinb, hinc, hind⟩ := id hin
 have hinm : b.ins.length ≤ 9223372036854775807 := by have h1 := hina; have h2 := hinb; unfold maxLen at h2; omega
 obtain ⟨sp, sq, rfl, ht1, ht2, htk, hta, htt, hte⟩ := id hfin
 obtain ⟨adp, capp, rfl, htpa, htpb, htpc, htpd⟩ := id ht1
 have htpm : b.fin.args.length ≤ 9223372036854775807 := by have h1 := htpa; have h2 := htpb; unfold maxLen at h2; omega
 obtain ⟨adq, capq, rfl, htqa, htqb, htqc, htqd⟩ := id ht2
 have htqm : b.fin.elses.length ≤ 9223372036854775807 := by have h1 := htqa; have h2 := htqb; unfold maxLen at h2; omega
 refine Ret.enter (P := Try.prog) (n := 100) (args := [.agg #[.int .i64 b.params, .slice adi b.ins.length capi, .int .i64 b.fin.kind, .int .i64 b.fin.a, .int .i64 b.fin.to, .slice adp b.fin.args.length capp, .int .i64 b.fin.els, .slice adq b.fin.elses.length capq]]) (σ := [(0, .agg #[.int .i64 b.params, .slice adi b.ins.length capi, .int .i64 b.fin.kind, .int .i64 b.fin.a, .int .i64 b.fin.to, .slice adp b.fin.args.length capp, .int .i64 b.fin.els, .slice adq b.fin.elses.length capq])]) Try.func22 rfl rfl rfl rfl ?_
 have hS := St.start (ro := ro) hro
 have hokn := hok.n; have hokp := hok.p0; have hokq := hok.p1
 have hsub : ∀ b, ro b → ro b ∨ w.heap.size ≤ b := fun _ h => .inl h
 refine W.seq (W.region ?_)
 refine WL.box (v := .agg #[.int .i64 b.params, .slice adi b.ins.length capi, .int .i64 b.fin.kind, .int .i64 b.fin.a, .int .i64 b.fin.to, .slice adp b.fin.args.length capp, .int .i64 b.fin.els, .slice adq b.fin.elses.length capq]) (cs := [.int .i64 b.params, .slice adi b.ins.length capi, .int .i64 b.fin.kind, .int .i64 b.fin.a, .int .i64 b.fin.to, .slice adp b.fin.args.length capp, .int .i64 b.fin.els, .slice adq b.fin.elses.length capq]) rfl rfl rfl rfl hS ?_
 clear hS; intro w2 b1 hb_b1 hS
 refine WL.assign rfl rfl rfl (WL.nil (N.seq (W.seq (W.region (WL.fieldAddr fo_32_0 rfl rfl rfl (WL.load1 (v := .int .i64 b.params) one_3 rfl rfl rfl (hS.cell 0 rfl rfl) (WL.fieldAddr fo_32_1 rfl rfl rfl (WL.load1 (v := .slice adi b.ins.length capi) one_27 rfl rfl rfl (hS.cell 0 rfl rfl) (WL.lenSlice Try.underlying27 rfl rfl rfl ?_)))))))))
 refine WL.add (c := ((b.params.toNat + b.ins.length : Nat) : Int)) rfl rfl rfl rfl (by omega) (by omega) ?_
 refine WL.assign rfl rfl rfl (WL.nil (N.seq (W.seq (W.region (WL.move rfl rfl rfl ?_)))))
 refine WL.makeSliceL (m := (b.params.toNat + b.ins.length : Nat)) (f := Value.bool) (z := false) 1 Try.underlying40 (tyZero_spec zer_4) byt_4 rfl rfl rfl rfl hS (by unfold maxLen; omega) (by omega) ?_
 clear hS; intro w4 b3 hS
 refine WL.assign rfl rfl rfl (WL.nil (N.seq (W.seq (W.seq (W.region (WL.assign rfl rfl rfl (WL.nil (N.seq (W.block ?_)))))))))
 refine W.loop (α := Nat × List Bool) (fun ⟨k, us⟩ => [(1, .pointer (some ⟨b1, 0, none⟩)), (2, .slice none 0 0), (3, .int .i64 ((b.params.toNat + b.ins.length : Nat) : Int)), (4, .slice (some ⟨b3, 0, none⟩) (b.params.toNat + b.ins.length : Nat) (b.params.toNat + b.ins.length : Nat)), (5, .int .i64 (k : Int))]) (fun ⟨k, us⟩ u => St w w u ro [(b3, arrO Value.bool 4 us), (b1, .cells #[.int .i64 b.params, .slice adi b.ins.length capi, .int .i64 b.fin.kind, .int .i64 b.fin.a, .int .i64 b.fin.to, .slice adp b.fin.args.length capp, .int .i64 b.fin.els, .slice adq b.fin.elses.length capq] 32 (0, 0))] [] ∧ k ≤ (b.params.toNat + b.ins.length) ∧ us.length = (b.params.toNat + b.ins.length) ∧ (∀ i, i < (b.params.toNat + b.ins.length) → us[i]? = some (decide (i < k ∧ (i : Int) ∈ ends13 b.fin)))) (fun ⟨k, us⟩ => (b.params.toNat + b.ins.length) - k) (0, (List.replicate (b.params.toNat + b.ins.length) false)) ⟨rfl, rfl, rfl, rfl, rfl, trivial⟩ ⟨hS, Nat.zero_le _, List.length_replicate, fun i hi => by rw [List.getElem?_replicate, if_pos hi]; simp⟩ ?_
 clear hS
 rintro ⟨k, us⟩ w5 ⟨hS, hk, hul, hus⟩
 refine W.seq (W.seq (W.region (WL.move rfl rfl rfl (WL.move rfl rfl rfl (WL.bin rfl rfl rfl rfl rfl (WL.nil (N.seq ?_)))))))
 refine W.cond rfl (fun hc6 => ?_) (fun hc6 => ?_)
 ·
  have hc6p : (k : Int) < ((b.params.toNat + b.ins.length : Nat) : Int) := by simpa using hc6
  refine W.skip (N.seq (W.seq (W.block (W.seq (W.region (WL.fieldAddr fo_32_2 rfl rfl rfl (WL.fieldAddr fo_30_3 rfl rfl rfl (WL.load1 (v := .slice adp b.fin.args.length capp) one_28 rfl rfl rfl (hS.cell 1 rfl rfl) (WL.move rfl rfl rfl ?_)))))))))
  refine WL.callF (vs := [.slice adp b.fin.args.length capp, .int .i64 (k : Int)]) Try.func44 (by kernel_rfl) rfl rfl rfl (has13_ret b.fin.args _ (k : Int) (ro := ro) (fun b hb => (hS.snap b hb).1) (SlV.keep ht1 hS.alike fun _ _ h => h)) ?_
  rintro v w7 ⟨rfl, hbl⟩
  replace hS := hS.grow hbl
  refine WL.assign rfl rfl rfl (WL.nil (N.seq (W.seq (W.region (WL.fieldAddr fo_32_2 rfl rfl rfl (WL.fieldAddr fo_30_5 rfl rfl rfl (WL.load1 (v := .slice adq b.fin.elses.length capq) one_28 rfl rfl rfl (hS.cell 1 rfl rfl) (WL.move rfl rfl rfl ?_))))))))
  refine WL.callF (vs := [.slice adq b.fin.elses.length capq, .int .i64 (k : Int)]) Try.func44 (by kernel_rfl) rfl rfl rfl (has13_ret b.fin.elses _ (k : Int) (ro := ro) (fun b hb => (hS.snap b hb).1) (SlV.keep ht2 hS.alike fun _ _ h => h)) ?_
  rintro v w8 ⟨rfl, hbl⟩
  replace hS := hS.grow hbl
  refine WL.assign rfl rfl rfl (WL.nil (N.seq (W.region (WL.move rfl rfl rfl (WL.move rfl rfl rfl (WL.move rfl rfl rfl (WL.move rfl rfl rfl ?_)))))))
  cases hg9 : (decide ((k : Int) ∈ b.fin.args))
  ·
   have hg9p : ¬ ((k : Int) ∈ b.fin.args) := by simpa using hg9
   refine WL.move rfl rfl rfl (WL.pick (v := .bool (decide ((k : Int) ∈ b.fin.elses))) rfl rfl rfl rfl rfl rfl (WL.move rfl rfl rfl ?_))
   cases hg10 : (decide ((k : Int) ∈ b.fin.elses))
   ·
    have hg10p : ¬ ((k : Int) ∈ b.fin.elses) := by simpa using hg10
    refine WL.fieldAddr fo_32_2 rfl rfl rfl (WL.fieldAddr fo_30_0 rfl rfl rfl (WL.load1 (v := .int .i64 b.fin.kind) one_3 rfl rfl rfl (hS.cell 1 rfl rfl) (WL.bin rfl rfl rfl rfl rfl (WL.move rfl rfl rfl ?_))))
    cases hg11 : (!decide (b.fin.kind = 1))
    ·
     have hg11p : b.fin.kind = 1 := by simpa using hg11
     refine WL.skp rfl rfl (WL.skp rfl rfl (WL.skp rfl rfl (WL.skp rfl rfl (WL.skp rfl rfl (WL.pick (v := .bool false) rfl rfl rfl rfl rfl rfl (WL.pick (v := .bool false) rfl rfl rfl rfl rfl rfl ?_))))))
     refine WL.indexAddr (j := k) Try.underlying40 isz_4 rfl rfl rfl rfl (by omega) ?_
     refine WL.storeArr (v := false) 0 rfl rfl rfl rfl siz_4 rfl rfl (by omega) hS ?_
     clear hS; intro w12 hS
     refine WL.nil (N.blk (N.seq (W.region (WL.move rfl rfl rfl ?_))))
     refine WL.add (c := (k : Int) + 1) rfl rfl rfl rfl (rfl) (by omega) ?_
     refine WL.assign rfl rfl rfl (WL.nil ?_)
     exact N.loop (k + 1, us.set k false) ⟨rfl, rfl, rfl, rfl, rfl, trivial⟩ ⟨hS, by omega, by rw [List.length_set]; exact hul, init_set hus hul (by omega) (by first | exact end_args ‹_› | exact end_elses ‹_› | exact end_k1 ‹_› ‹_› ‹_› | exact end_a ‹_› ‹_› ‹_›)⟩ (by first | omega | (simp only; omega))
    have hg11p : ¬ (b.fin.kind = 1) := by simpa using hg11
    refine WL.fieldAddr fo_32_2 rfl rfl rfl (WL.fieldAddr fo_30_1 rfl rfl rfl (WL.load1 (v := .int .i64 b.fin.a) one_3 rfl rfl rfl (hS.cell 1 rfl rfl) (WL.move rfl rfl rfl (WL.bin rfl rfl rfl rfl rfl (WL.pick (v := .bool (decide (b.fin.a = (k : Int)))) rfl rfl rfl rfl rfl rfl (WL.pick (v := .bool (decide (b.fin.a = (k : Int)))) rfl rfl rfl rfl rfl rfl ?_))))))
    refine WL.indexAddr (j := k) Try.underlying40 isz_4 rfl rfl rfl rfl (by omega) ?_
    refine WL.storeArr (v := decide (b.fin.a = (k : Int))) 0 rfl rfl rfl rfl siz_4 rfl rfl (by omega) hS ?_
    clear hS; intro w13 hS
    refine WL.nil (N.blk (N.seq (W.region (WL.move rfl rfl rfl ?_))))
    refine WL.add (c := (k : Int) + 1) rfl rfl rfl rfl (rfl) (by omega) ?_
    refine WL.assign rfl rfl rfl (WL.nil ?_)
    exact N.loop (k + 1, us.set k (decide (b.fin.a = (k : Int)))) ⟨rfl, rfl, rfl, rfl, rfl, trivial⟩ ⟨hS, by omega, by rw [List.length_set]; exact hul, init_set hus hul (by omega) (by first | exact end_args ‹_› | exact end_elses ‹_› | exact end_k1 ‹_› ‹_› ‹_› | exact end_a ‹_› ‹_› ‹_›)⟩ (by first | omega | (simp only; omega))
   have hg10p : (k : Int) ∈ b.fin.elses := by simpa using hg10
   refine WL.skp rfl rfl (WL.skp rfl rfl (WL.skp rfl rfl (WL.skp rfl rfl (WL.skp rfl rfl (WL.skp rfl rfl (WL.skp rfl rfl (WL.skp rfl rfl (WL.skp rfl rfl (WL.skp rfl rfl ?_)))))))))
   refine WL.skp rfl rfl (WL.pick (v := .bool true) rfl rfl rfl rfl rfl rfl ?_)
   refine WL.indexAddr (j := k) Try.underlying40 isz_4 rfl rfl rfl rfl (by omega) ?_
   refine WL.storeArr (v := true) 0 rfl rfl rfl rfl siz_4 rfl rfl (by omega) hS ?_
   clear hS; intro w14 hS
   refine WL.nil (N.blk (N.seq (W.region (WL.move rfl rfl rfl ?_))))
   refine WL.add (c := (k : Int) + 1) rfl rfl rfl rfl (rfl) (by omega) ?_
   refine WL.assign rfl rfl rfl (WL.nil ?_)
   exact N.loop (k + 1, us.set k true) ⟨rfl, rfl, rfl, rfl, rfl, trivial⟩ ⟨hS, by omega, by rw [List.length_set]; exact hul, init_set hus hul (by omega) (by first | exact end_args ‹_› | exact end_elses ‹_› | exact end_k1 ‹_› ‹_› ‹_› | exact end_a ‹_› ‹_› ‹_›)⟩ (by first | omega | (simp only; omega))
  have hg9p : (k : Int) ∈ b.fin.args := by simpa using hg9
  refine WL.skp rfl rfl (WL.pick (v := .bool true) rfl rfl rfl rfl rfl rfl (WL.move rfl rfl rfl (WL.skp rfl rfl (WL.skp rfl rfl (WL.skp rfl rfl (WL.skp rfl rfl (WL.skp rfl rfl (WL.skp rfl rfl (WL.skp rfl rfl ?_)))))))))
  refine WL.skp rfl rfl (WL.skp rfl rfl (WL.skp rfl rfl (WL.skp rfl rfl (WL.pick (v := .bool true) rfl rfl rfl rfl rfl rfl ?_))))
  refine WL.indexAddr (j := k) Try.underlying40 isz_4 rfl rfl rfl rfl (by omega) ?_
  refine WL.storeArr (v := true) 0 rfl rfl rfl rfl siz_4 rfl rfl (by omega) hS ?_
  clear hS; intro w15 hS
  refine WL.nil (N.blk (N.seq (W.region (WL.move rfl rfl rfl ?_))))
  refine WL.add (c := (k : Int) + 1) rfl rfl rfl rfl (rfl) (by omega) ?_
  refine WL.assign rfl rfl rfl (WL.nil ?_)
  exact N.loop (k + 1, us.set k true) ⟨rfl, rfl, rfl, rfl, rfl, trivial⟩ ⟨hS, by omega, by rw [List.length_set]; exact hul, init_set hus hul (by omega) (by first | exact end_args ‹_› | exact end_elses ‹_› | exact end_k1 ‹_› ‹_› ‹_› | exact end_a ‹_› ‹_› ‹_›)⟩ (by first | omega | (simp only; omega))
 have hc6p : ¬ ((k : Int) < ((b.params.toNat + b.ins.length : Nat) : Int)) := by simpa using hc6
 refine W.exit (X.seq (X.loop (X.blk (N.seq (W.seq (W.seq (W.region (WL.fieldAddr fo_32_1 rfl rfl rfl (WL.load1 (v := .slice adi b.ins.length capi) one_27 rfl rfl rfl (hS.cell 1 rfl rfl) ?_)))))))))
 refine WL.lenSlice Try.underlying27 rfl rfl rfl ?_
 refine WL.sub_ (c := (b.ins.length : Int) - 1) rfl rfl rfl rfl (rfl) (by omega) ?_
 refine WL.assign rfl rfl rfl (WL.nil (N.seq (W.block ?_)))
 have hke : k = (b.params.toNat + b.ins.length) := by omega
 rw [hke] at hus
 have hu0 := init_full hus hul (fun x hx => (hok.ends x hx).1)
 rw [hu0] at hS
 refine W.loop (α := Nat × List Bool × (Nat → Prop) × World) (fun ⟨j, us1, R2, ws2⟩ => [(1, .pointer (some ⟨b1, 0, none⟩)), (2, .slice none 0 0), (4, .slice (some ⟨b3, 0, none⟩) (b.params.toNat + b.ins.length : Nat) (b.params.toNat + b.ins.length : Nat)), (8, .int .i64 ((j : Int) - 1))]) (fun ⟨j, us1, R2, ws2⟩ u => St w ws2 u R2 [(b3, arrO Value.bool 4 us1), (b1, .cells #[.int .i64 b.params, .slice adi b.ins.length capi, .int .i64 b.fin.kind, .int .i64 b.fin.a, .int .i64 b.fin.to, .slice adp b.fin.args.length capp, .int .i64 b.fin.els, .slice adq b.fin.elses.length capq] 32 (0, 0))] [] ∧ j ≤ b.ins.length ∧ us1.length = (b.params.toNat + b.ins.length) ∧ back13 b j us1 = used13 b ∧ Alike ro w R2 ws2 ∧ (∀ b, R2 b → ro b ∨ w.heap.size ≤ b)) (fun ⟨j, us1, R2, ws2⟩ => j) (b.ins.length, (mark13 (List.replicate (b.params.toNat + b.ins.length) false) (ends13 b.fin)), ro, w) ⟨rfl, rfl, rfl, rfl, trivial⟩ ⟨hS, Nat.le_refl _, by rw [mark13_length, List.length_replicate], rfl, Alike.refl, hsub⟩ ?_
 clear hS
 rintro ⟨j, us1, R2, ws2⟩ w16 ⟨hS, hjl, hul1, hbk, halL1, hsub⟩
 replace hb := hb.keep halL1
 replace hind := hind.keep halL1 (fun _ _ h => h.keep halL1)
 refine W.seq (W.seq (W.region (WL.move rfl rfl rfl (WL.bin rfl rfl rfl rfl rfl (WL.nil (N.seq ?_))))))
 refine W.cond rfl (fun hc17 => ?_) (fun hc17 => ?_)
 ·
  have hc17p : 0 ≤ (j : Int) - 1 := by simpa using hc17
  refine W.skip (N.seq (W.seq (W.block (W.seq (W.region (WL.fieldAddr fo_32_1 rfl rfl rfl (WL.load1 (v := .slice adi b.ins.length capi) one_27 rfl rfl rfl (hS.cell 1 rfl rfl) (WL.move rfl rfl rfl ?_))))))))
  refine WL.set 65 (v' := .int .i64 (((j - 1 : Nat) : Nat) : Int)) rfl (by congr 1; omega) ?_
  have hj18 : (j - 1 : Nat) < b.ins.length := by omega
  obtain ⟨x18, hx18⟩ : ∃ zz, b.ins[(j - 1 : Nat)]? = some zz := ⟨_, List.getElem?_eq_getElem hj18⟩
  obtain ⟨b18, o18, cs18, hE18, hr18, hl18, hc18, hQ18⟩ := hind (j - 1 : Nat) _ hx18
  have hQk18 := hQ18
  obtain ⟨sv18, rfl, hs18, ho18, ha18, hb18, hk18, hn18⟩ := hQ18
  obtain ⟨ad18, cap18, rfl, hs18a, hs18b, hs18c, hs18d⟩ := id hs18
  have hs18m : x18.args.length ≤ 9223372036854775807 := by have h1 := hs18a; have h2 := hs18b; unfold maxLen at h2; omega
  refine WL.indexAddrE (j := (j - 1 : Nat)) Try.underlying27 isz_36 rfl rfl rfl rfl hj18 hE18 (WL.loadN (cs := [.int .i64 x18.op, .int .i64 x18.a, .int .i64 x18.b, .int .u64 x18.k, .string x18.name, .slice ad18 x18.args.length cap18]) agg_36 rfl rfl rfl rfl (hS.roCells hr18 hc18) ?_)
  refine WL.callF (vs := [.agg #[.int .i64 x18.op, .int .i64 x18.a, .int .i64 x18.b, .int .u64 x18.k, .string x18.name, .slice ad18 x18.args.length cap18]]) Try.func12 (by kernel_rfl) rfl rfl rfl (rdoes_ret x18 _ (ro := R2) (fun b hb => (hS.snap b hb).1) (hQk18.keep hS.alike)) ?_
  rintro v w19 ⟨rfl, hbl⟩
  replace hS := hS.grow hbl
  refine WL.assign rfl rfl rfl (WL.nil (N.seq (W.seq (W.seq (W.region (WL.move rfl rfl rfl (WL.not rfl rfl rfl (WL.move rfl rfl rfl ?_))))))))
  cases hg20 : (!(does13 x18))
  ·
   refine WL.skp rfl rfl (WL.skp rfl rfl (WL.skp rfl rfl (WL.skp rfl rfl (WL.skp rfl rfl (WL.skp rfl rfl (WL.skp rfl rfl (WL.skp rfl rfl (WL.pick (v := .bool false) rfl rfl rfl rfl rfl rfl (WL.nil ?_)))))))))
   refine N.seq (W.condF rfl (W.skip (N.seq (W.seq (W.region (WL.fieldAddr fo_32_1 rfl rfl rfl (WL.load1 (v := .slice adi b.ins.length capi) one_27 rfl rfl rfl (hS.cell 1 rfl rfl) (WL.move rfl rfl rfl ?_))))))))
   refine WL.set 83 (v' := .int .i64 (((j - 1 : Nat) : Nat) : Int)) rfl (by congr 1; omega) ?_
   refine WL.indexAddrE (j := (j - 1 : Nat)) Try.underlying27 isz_36 rfl rfl rfl rfl hj18 hE18 (WL.loadN (cs := [.int .i64 x18.op, .int .i64 x18.a, .int .i64 x18.b, .int .u64 x18.k, .string x18.name, .slice ad18 x18.args.length cap18]) agg_36 rfl rfl rfl rfl (hS.roCells hr18 hc18) ?_)
   have hinu := hok.uses _ (List.mem_of_getElem? hx18)
   refine WL.callF (vs := [.agg #[.int .i64 x18.op, .int .i64 x18.a, .int .i64 x18.b, .int .u64 x18.k, .string x18.name, .slice ad18 x18.args.length cap18]]) Try.func45 (by kernel_rfl) rfl rfl rfl (uses5_ret x18 _ (ro := R2) (fun b hb => (hS.snap b hb).1) (hQk18.keep hS.alike) (by have := hok.args _ (List.mem_of_getElem? hx18); omega)) ?_
   rintro vu w21 ⟨hvu, hbl⟩
   have hal22 := hS.alikeTo hbl (ro' := (roFrom R2 w19 w21)) (fun b hb => .inl hb)
   replace hsub : ∀ b, (roFrom R2 w19 w21) b → ro b ∨ w.heap.size ≤ b := fun b hb => hb.elim (hsub b) (fun h => .inr (Nat.le_trans hS.below.size h.1))
   replace halL1 := halL1.trans hal22
   replace hb := hb.keep hal22
   replace hQk18 := hQk18.keep hal22
   replace hc18 := hc18.keep (hal22 _ hr18).2
   replace hr18 := (hal22 _ hr18).1
   replace hS := hS.readNew hbl
   replace hvu := SlV.keep hvu (ro' := (roFrom R2 w19 w21)) (w' := w21) (Q' := IntC) (fun x hx => ⟨.inr hx, rfl⟩) (fun _ _ h => h)
   obtain ⟨adu, capu, rfl, hvua, hvub, hvuc, hvud⟩ := id hvu
   have hvum : (uses5 x18).length ≤ 9223372036854775807 := by have h1 := hvua; have h2 := hvub; unfold maxLen at h2; omega
   refine WL.assign rfl rfl rfl (WL.nil (N.seq (W.seq (W.region (WL.assign rfl rfl rfl (WL.nil (N.seq (W.block ?_))))))))
   refine W.loop (α := Nat) (fun (q : Nat) => [(1, .pointer (some ⟨b1, 0, none⟩)), (2, .slice none 0 0), (4, .slice (some ⟨b3, 0, none⟩) (b.params.toNat + b.ins.length : Nat) (b.params.toNat + b.ins.length : Nat)), (8, .int .i64 ((j : Int) - 1)), (10, .slice adu ((uses5 x18).length) capu), (11, .int .i64 (q : Int))]) (fun (q : Nat) u => St w w21 u (roFrom R2 w19 w21) [(b3, arrO Value.bool 4 (mark13 us1 ((uses5 x18).take q))), (b1, .cells #[.int .i64 b.params, .slice adi b.ins.length capi, .int .i64 b.fin.kind, .int .i64 b.fin.a, .int .i64 b.fin.to, .slice adp b.fin.args.length capp, .int .i64 b.fin.els, .slice adq b.fin.elses.length capq] 32 (0, 0))] [] ∧ q ≤ (uses5 x18).length) (fun (q : Nat) => (uses5 x18).length - q) 0 ⟨rfl, rfl, rfl, rfl, rfl, rfl, trivial⟩ ⟨hS, Nat.zero_le _⟩ ?_
   clear hS
   rintro q w23 ⟨hS, hq⟩
   refine W.seq (W.seq (W.region (WL.move rfl rfl rfl (WL.move rfl rfl rfl (WL.lenSlice Try.underlying28 rfl rfl rfl (WL.bin rfl rfl rfl rfl rfl (WL.nil (N.seq ?_))))))))
   refine W.cond rfl (fun hc24 => ?_) (fun hc24 => ?_)
   ·
    have hc24p : (q : Int) < ((uses5 x18).length : Int) := by simpa using hc24
    refine W.skip (N.seq (W.seq (W.block (W.region (WL.move rfl rfl rfl (WL.move rfl rfl rfl (WL.move rfl rfl rfl ?_)))))))
    have hj25 : q < (uses5 x18).length := by omega
    obtain ⟨x25, hx25⟩ : ∃ zz, (uses5 x18)[q]? = some zz := ⟨_, List.getElem?_eq_getElem hj25⟩
    obtain ⟨b25, o25, cs25, hE25, hr25, hl25, hc25, hQ25⟩ := hvud q _ hx25
    obtain ⟨rfl, hi25⟩ := hQ25
    refine WL.indexAddrE (j := q) Try.underlying28 isz_3 rfl rfl rfl rfl hj25 hE25 (WL.load1 (v := .int .i64 x25) one_3 rfl rfl rfl (hS.roCells hr25 hc25 0 _ rfl) ?_)
    have hlt25 := hinu _ (List.mem_of_getElem? hx25)
    refine WL.set 97 (v' := .int .i64 (x25.toNat : Int)) rfl (by congr 1; omega) ?_
    refine WL.indexAddr (j := x25.toNat) Try.underlying40 isz_4 rfl rfl rfl rfl (by omega) ?_
    refine WL.storeArr (v := true) 0 rfl rfl rfl rfl siz_4 rfl rfl (by rw [mark13_length]; omega) hS ?_
    clear hS; intro w26 hS
    refine WL.nil (N.blk (N.seq (W.region (WL.move rfl rfl rfl ?_))))
    refine WL.add (c := (q : Int) + 1) rfl rfl rfl rfl (rfl) (by omega) ?_
    refine WL.assign rfl rfl rfl (WL.nil ?_)
    rw [← mark13_snoc, ← take_next hx25] at hS
    exact N.loop (q + 1) ⟨rfl, rfl, rfl, rfl, rfl, rfl, trivial⟩ ⟨hS, by omega⟩ (by first | omega | (simp only; omega))
   have hc24p : ¬ ((q : Int) < ((uses5 x18).length : Int)) := by simpa using hc24
   have hqe : q = (uses5 x18).length := by omega
   rw [hqe, List.take_length] at hS
   refine W.exit (X.seq (X.loop (X.blk (N.blk (N.seq (W.region (WL.move rfl rfl rfl ?_)))))))
   refine WL.sub_ (c := ((j - 1 : Nat) : Int) - 1) rfl rfl rfl rfl (by omega) (by omega) ?_
   refine WL.assign rfl rfl rfl (WL.nil ?_)
   have hst : stepU13 b.params.toNat (j - 1) x18 us1 = mark13 us1 (uses5 x18) := stepU_does (by simpa using hg20)
   exact N.loop (j - 1, mark13 us1 (uses5 x18), (roFrom R2 w19 w21), w21) ⟨rfl, rfl, rfl, rfl, trivial⟩ ⟨hS, by omega, by rw [mark13_length]; exact hul1, back13_step hbk (by omega) hx18 hst, halL1, hsub⟩ (by first | omega | (simp only; omega))
  refine WL.move rfl rfl rfl (WL.fieldAddr fo_32_0 rfl rfl rfl (WL.load1 (v := .int .i64 b.params) one_3 rfl rfl rfl (hS.cell 1 rfl rfl) (WL.move rfl rfl rfl ?_)))
  refine WL.add (c := ((b.params.toNat + (j - 1) : Nat) : Int)) rfl rfl rfl rfl (by omega) (by omega) ?_
  refine WL.indexAddr (j := (b.params.toNat + (j - 1) : Nat)) Try.underlying40 isz_4 rfl rfl rfl rfl (by omega) ?_
  obtain ⟨x27, hx27⟩ : ∃ zz, us1[(b.params.toNat + (j - 1) : Nat)]? = some zz := ⟨_, List.getElem?_eq_getElem (by omega)⟩
  refine WL.load1 (v := .bool x27) one_4 rfl rfl rfl (hS.arr 0 rfl hx27) (WL.not rfl rfl rfl (WL.pick (v := .bool (!x27)) rfl rfl rfl rfl rfl rfl (WL.nil (N.seq ?_))))
  refine W.cond rfl (fun hc28 => ?_) (fun hc28 => ?_)
  ·
   refine W.exit (X.seq (X.blk (N.seq (W.region (WL.move rfl rfl rfl ?_)))))
   refine WL.sub_ (c := ((j - 1 : Nat) : Int) - 1) rfl rfl rfl rfl (by omega) (by omega) ?_
   refine WL.assign rfl rfl rfl (WL.nil ?_)
   have hst : stepU13 b.params.toNat (j - 1) x18 us1 = us1 := stepU_no (by simpa using hg20) (by have h2 := hc28; simp at h2; rw [hx27, h2])
   exact N.loop (j - 1, us1, R2, ws2) ⟨rfl, rfl, rfl, rfl, trivial⟩ ⟨hS, by omega, hul1, back13_step hbk (by omega) hx18 hst, halL1, hsub⟩ (by first | omega | (simp only; omega))
  refine W.skip (N.seq (W.seq (W.region (WL.fieldAddr fo_32_1 rfl rfl rfl (WL.load1 (v := .slice adi b.ins.length capi) one_27 rfl rfl rfl (hS.cell 1 rfl rfl) (WL.move rfl rfl rfl ?_))))))
  refine WL.set 83 (v' := .int .i64 (((j - 1 : Nat) : Nat) : Int)) rfl (by congr 1; omega) ?_
  refine WL.indexAddrE (j := (j - 1 : Nat)) Try.underlying27 isz_36 rfl rfl rfl rfl hj18 hE18 (WL.loadN (cs := [.int .i64 x18.op, .int .i64 x18.a, .int .i64 x18.b, .int .u64 x18.k, .string x18.name, .slice ad18 x18.args.length cap18]) agg_36 rfl rfl rfl rfl (hS.roCells hr18 hc18) ?_)
  have hinu := hok.uses _ (List.mem_of_getElem? hx18)
  refine WL.callF (vs := [.agg #[.int .i64 x18.op, .int .i64 x18.a, .int .i64 x18.b, .int .u64 x18.k, .string x18.name, .slice ad18 x18.args.length cap18]]) Try.func45 (by kernel_rfl) rfl rfl rfl (uses5_ret x18 _ (ro := R2) (fun b hb => (hS.snap b hb).1) (hQk18.keep hS.alike) (by have := hok.args _ (List.mem_of_getElem? hx18); omega)) ?_
  rintro vu w29 ⟨hvu, hbl⟩
  have hal30 := hS.alikeTo hbl (ro' := (roFrom R2 w19 w29)) (fun b hb => .inl hb)
  replace hsub : ∀ b, (roFrom R2 w19 w29) b → ro b ∨ w.heap.size ≤ b := fun b hb => hb.elim (hsub b) (fun h => .inr (Nat.le_trans hS.below.size h.1))
  replace halL1 := halL1.trans hal30
  replace hS := hS.readNew hbl
  replace hvu := SlV.keep hvu (ro' := (roFrom R2 w19 w29)) (w' := w29) (Q' := IntC) (fun x hx => ⟨.inr hx, rfl⟩) (fun _ _ h => h)
  obtain ⟨adu, capu, rfl, hvua, hvub, hvuc, hvud⟩ := id hvu
  have hvum : (uses5 x18).length ≤ 9223372036854775807 := by have h1 := hvua; have h2 := hvub; unfold maxLen at h2; omega
  refine WL.assign rfl rfl rfl (WL.nil (N.seq (W.seq (W.region (WL.assign rfl rfl rfl (WL.nil (N.seq (W.block ?_))))))))
  refine W.loop (α := Nat) (fun (q : Nat) => [(1, .pointer (some ⟨b1, 0, none⟩)), (2, .slice none 0 0), (4, .slice (some ⟨b3, 0, none⟩) (b.params.toNat + b.ins.length : Nat) (b.params.toNat + b.ins.length : Nat)), (8, .int .i64 ((j : Int) - 1)), (10, .slice adu ((uses5 x18).length) capu), (11, .int .i64 (q : Int))]) (fun (q : Nat) u => St w w29 u (roFrom R2 w19 w29) [(b3, arrO Value.bool 4 (mark13 us1 ((uses5 x18).take q))), (b1, .cells #[.int .i64 b.params, .slice adi b.ins.length capi, .int .i64 b.fin.kind, .int .i64 b.fin.a, .int .i64 b.fin.to, .slice adp b.fin.args.length capp, .int .i64 b.fin.els, .slice adq b.fin.elses.length capq] 32 (0, 0))] [] ∧ q ≤ (uses5 x18).length) (fun (q : Nat) => (uses5 x18).length - q) 0 ⟨rfl, rfl, rfl, rfl, rfl, rfl, trivial⟩ ⟨hS, Nat.zero_le _⟩ ?_
  clear hS
  rintro q w31 ⟨hS, hq⟩
  refine W.seq (W.seq (W.region (WL.move rfl rfl rfl (WL.move rfl rfl rfl (WL.lenSlice Try.underlying28 rfl rfl rfl (WL.bin rfl rfl rfl rfl rfl (WL.nil (N.seq ?_))))))))
  refine W.cond rfl (fun hc32 => ?_) (fun hc32 => ?_)
  ·
   have hc32p : (q : Int) < ((uses5 x18).length : Int) := by simpa using hc32
   refine W.skip (N.seq (W.seq (W.block (W.region (WL.move rfl rfl rfl (WL.move rfl rfl rfl (WL.move rfl rfl rfl ?_)))))))
   have hj33 : q < (uses5 x18).length := by omega
   obtain ⟨x33, hx33⟩ : ∃ zz, (uses5 x18)[q]? = some zz := ⟨_, List.getElem?_eq_getElem hj33⟩
   obtain ⟨b33, o33, cs33, hE33, hr33, hl33, hc33, hQ33⟩ := hvud q _ hx33
   obtain ⟨rfl, hi33⟩ := hQ33
   refine WL.indexAddrE (j := q) Try.underlying28 isz_3 rfl rfl rfl rfl hj33 hE33 (WL.load1 (v := .int .i64 x33) one_3 rfl rfl rfl (hS.roCells hr33 hc33 0 _ rfl) ?_)
   have hlt33 := hinu _ (List.mem_of_getElem? hx33)
   refine WL.set 97 (v' := .int .i64 (x33.toNat : Int)) rfl (by congr 1; omega) ?_
   refine WL.indexAddr (j := x33.toNat) Try.underlying40 isz_4 rfl rfl rfl rfl (by omega) ?_
   refine WL.storeArr (v := true) 0 rfl rfl rfl rfl siz_4 rfl rfl (by rw [mark13_length]; omega) hS ?_
   clear hS; intro w34 hS
   refine WL.nil (N.blk (N.seq (W.region (WL.move rfl rfl rfl ?_))))
   refine WL.add (c := (q : Int) + 1) rfl rfl rfl rfl (rfl) (by omega) ?_
   refine WL.assign rfl rfl rfl (WL.nil ?_)
   rw [← mark13_snoc, ← take_next hx33] at hS
   exact N.loop (q + 1) ⟨rfl, rfl, rfl, rfl, rfl, rfl, trivial⟩ ⟨hS, by omega⟩ (by first | omega | (simp only; omega))
  have hc32p : ¬ ((q : Int) < ((uses5 x18).length : Int)) := by simpa using hc32
  have hqe : q = (uses5 x18).length := by omega
  rw [hqe, List.take_length] at hS
  refine W.exit (X.seq (X.loop (X.blk (N.blk (N.seq (W.region (WL.move rfl rfl rfl ?_)))))))
  refine WL.sub_ (c := ((j - 1 : Nat) : Int) - 1) rfl rfl rfl rfl (by omega) (by omega) ?_
  refine WL.assign rfl rfl rfl (WL.nil ?_)
  have hst : stepU13 b.params.toNat (j - 1) x18 us1 = mark13 us1 (uses5 x18) := stepU_used (by have h2 := hc28; simp at h2; rw [hx27, h2])
  exact N.loop (j - 1, mark13 us1 (uses5 x18), (roFrom R2 w19 w29), w29) ⟨rfl, rfl, rfl, rfl, trivial⟩ ⟨hS, by omega, by rw [mark13_length]; exact hul1, back13_step hbk (by omega) hx18 hst, halL1, hsub⟩ (by first | omega | (simp only; omega))
 have hc17p : ¬ (0 ≤ (j : Int) - 1) := by simpa using hc17
 refine W.exit (X.seq (X.loop (X.blk (N.seq (W.seq (W.region (WL.move rfl rfl rfl (WL.assign rfl rfl rfl (WL.nil ?_)))))))))
 refine N.seq ?_
 refine Fin.ret1 rfl (v := .slice (some ⟨b3, 0, none⟩) (b.params.toNat + b.ins.length : Nat) (b.params.toNat + b.ins.length : Nat)) rfl ?_
 have e : j = 0 := by omega
 subst e
 have hbk2 : us1 = used13 b := hbk
 rw [hbk2] at hS
 exact ⟨b3, rfl, (hS.keys b3 (by simp [keysOf])).1, hS.own _ (List.mem_of_getElem? (i := 0) rfl), hS.below⟩

end Go.Proofs.Ytdlcmhkfglckfaa
