/-
  Contracts of layer 13 (trim). No condition beyond those that each theorem states.
-/
import Derived.Test.YtdlcmhkfglckfaaU1
namespace Go.Proofs.Ytdlcmhkfglckfaa
open Go.RowKit
theorem byt_4 : (Try.prog.info? 4).map (·.bytes) = some 1 := by kernel_rfl
theorem siz_40 : tySize Try.prog 40 1 = true := by kernel_rfl
theorem zer_4 : tyZero Try.prog 4 = some [.bool false] := by kernel_rfl
theorem zer_40 : tyZero Try.prog 40 = some [.slice none 0 0] := by kernel_rfl
def stepU13 (p i : Nat) (x : DInst) (us : List Bool) : List Bool := if does13 x = true ∨ us[p + i]? = some true then mark13 us (uses5 x) else us
def back13 (b : DBlock) : Nat → List Bool → List Bool
  | 0, us => us
  | k + 1, us => match b.ins[k]? with
    | some x => back13 b k (stepU13 b.params.toNat k x us)
    | none => back13 b k us
def used13 (b : DBlock) : List Bool := back13 b b.ins.length (mark13 (List.replicate (b.params.toNat + b.ins.length) false) (ends13 b.fin))
structure Ok13 (b : DBlock) : Prop where
  p0 : 0 ≤ b.params
  p1 : b.params ≤ 1000
  n : b.ins.length ≤ 1000
  a : b.fin.args.length ≤ 1000
  e : b.fin.elses.length ≤ 1000
  args : ∀ x ∈ b.ins, x.args.length ≤ 1000
  ends : ∀ v ∈ ends13 b.fin, 0 ≤ v ∧ v < ((b.params.toNat + b.ins.length : Nat) : Int)
  uses : ∀ x ∈ b.ins, ∀ v ∈ uses5 x, 0 ≤ v ∧ v < ((b.params.toNat + b.ins.length : Nat) : Int)
theorem back13_step {b : DBlock} {k : Nat} {x : DInst} {us us' : List Bool} {r : List Bool} (h : back13 b k us = r) (hk : k ≠ 0) (hx : b.ins[k - 1]? = some x) (hs : stepU13 b.params.toNat (k - 1) x us = us') : back13 b (k - 1) us' = r := by
  obtain ⟨q, rfl⟩ : ∃ q, k = q + 1 := ⟨k - 1, by omega⟩
  simp only [Nat.add_sub_cancel] at *
  rw [back13, hx] at h
  dsimp only at h
  rw [hs] at h
  exact h
theorem stepU_no {p i : Nat} {x : DInst} {us : List Bool} (h1 : does13 x = false) (h2 : us[p + i]? = some false) : stepU13 p i x us = us := by unfold stepU13; rw [if_neg (by rw [h1, h2]; simp)]
theorem stepU_does {p i : Nat} {x : DInst} {us : List Bool} (h1 : does13 x = true) : stepU13 p i x us = mark13 us (uses5 x) := by unfold stepU13; rw [if_pos (.inl h1)]
theorem stepU_used {p i : Nat} {x : DInst} {us : List Bool} (h1 : us[p + i]? = some true) : stepU13 p i x us = mark13 us (uses5 x) := by unfold stepU13; rw [if_pos (.inr h1)]

theorem used_ret (b : DBlock) (cs : List Value) {w : World} {ro : Nat → Prop} (hro : ∀ b, ro b → b < w.heap.size) (hb : BlockC ro w cs b) (hok : Ok13 b) : Ret Try.prog 15 #[.agg cs.toArray] w fun v w' => SlV (fun b => w.heap.size ≤ b ∧ b < w'.heap.size) w' 1 BoolC v (used13 b) ∧ Below w.heap.size w w' := by
 obtain ⟨si, tsx, rfl, hin, hfin, hpar⟩ := id hb
 obtain ⟨adi, capi, rfl, hina, hinb, hinc, hind⟩ := id hin
 have hinm : b.ins.length ≤ 9223372036854775807 := by have h1 := hina; have h2 := hinb; unfold maxLen at h2; omega
 obtain ⟨sp, sq, rfl, ht1, ht2, htk, hta, htt, hte⟩ := id hfin
 obtain ⟨adp, capp, rfl, htpa, htpb, htpc, htpd⟩ := id ht1
 have htpm : b.fin.args.length ≤ 9223372036854775807 := by have h1 := htpa; have h2 := htpb; unfold maxLen at h2; omega
 obtain ⟨adq, capq, rfl, htqa, htqb, htqc, htqd⟩ := id ht2
 have htqm : b.fin.elses.length ≤ 9223372036854775807 := by have h1 := htqa; have h2 := htqb; unfold maxLen at h2; omega
 refine Ret.enter (P := Try.prog) (n := 47) (args := [.agg #[.int .i64 b.params, .slice adi b.ins.length capi, .int .i64 b.fin.kind, .int .i64 b.fin.a, .int .i64 b.fin.to, .slice adp b.fin.args.length capp, .int .i64 b.fin.els, .slice adq b.fin.elses.length capq]]) (σ := [(0, .agg #[.int .i64 b.params, .slice adi b.ins.length capi, .int .i64 b.fin.kind, .int .i64 b.fin.a, .int .i64 b.fin.to, .slice adp b.fin.args.length capp, .int .i64 b.fin.els, .slice adq b.fin.elses.length capq])]) Try.func15 rfl rfl rfl rfl ?_
 have hS := St.start (ro := ro) hro
 have hokn := hok.n; have hokp := hok.p0; have hokq := hok.p1
 have hsub : ∀ b, ro b → ro b ∨ w.heap.size ≤ b := fun _ h => .inl h
 refine W.seq (W.region ?_)
 refine WL.box (v := .agg #[.int .i64 b.params, .slice adi b.ins.length capi, .int .i64 b.fin.kind, .int .i64 b.fin.a, .int .i64 b.fin.to, .slice adp b.fin.args.length capp, .int .i64 b.fin.els, .slice adq b.fin.elses.length capq]) (cs := [.int .i64 b.params, .slice adi b.ins.length capi, .int .i64 b.fin.kind, .int .i64 b.fin.a, .int .i64 b.fin.to, .slice adp b.fin.args.length capp, .int .i64 b.fin.els, .slice adq b.fin.elses.length capq]) rfl rfl rfl rfl hS ?_
 clear hS; intro w2 b1 hb_b1 hS
 refine WL.assign rfl rfl rfl (WL.nil (N.seq (W.scope (W.seq (W.region (WL.loadN (cs := [.int .i64 b.params, .slice adi b.ins.length capi, .int .i64 b.fin.kind, .int .i64 b.fin.a, .int .i64 b.fin.to, .slice adp b.fin.args.length capp, .int .i64 b.fin.els, .slice adq b.fin.elses.length capq]) agg_32 rfl rfl rfl rfl (hS.cells 0 (m := 8) rfl rfl) ?_))))))
 refine WL.callF (vs := [.agg #[.int .i64 b.params, .slice adi b.ins.length capi, .int .i64 b.fin.kind, .int .i64 b.fin.a, .int .i64 b.fin.to, .slice adp b.fin.args.length capp, .int .i64 b.fin.els, .slice adq b.fin.elses.length capq]]) Try.func35 (by kernel_rfl) rfl rfl rfl (ivalues_ret b _ (ro := ro) (fun b hb => (hS.snap b hb).1) (hb.keep hS.alike) ⟨hok.p0, hok.p1⟩ hok.n) ?_
 rintro v w3 ⟨rfl, hbl⟩
 replace hS := hS.grow hbl
 refine WL.makeSliceL (m := (b.params.toNat + b.ins.length : Nat)) (f := Value.bool) (z := false) 1 Try.underlying40 (tyZero_spec zer_4) byt_4 rfl rfl rfl rfl hS (by unfold maxLen; omega) (by omega) ?_
 clear hS; intro w5 b4 hS
 refine WL.alloc (tyZero_spec zer_40) rfl rfl hS ?_
 clear hS; intro w7 b6 hb_b6 hS
 refine WL.store (L' := [(b6, .cells #[.slice (some ⟨b4, 0, none⟩) (b.params.toNat + b.ins.length : Nat) (b.params.toNat + b.ins.length : Nat)] 40 (0, 0)), (b4, arrO Value.bool 4 (List.replicate (b.params.toNat + b.ins.length : Nat) false)), (b1, .cells #[.int .i64 b.params, .slice adi b.ins.length capi, .int .i64 b.fin.kind, .int .i64 b.fin.a, .int .i64 b.fin.to, .slice adp b.fin.args.length capp, .int .i64 b.fin.els, .slice adq b.fin.elses.length capq] 32 (0, 0))]) 0 rfl rfl rfl rfl siz_40 rfl rfl rfl rfl rfl hS ?_
 clear hS; intro w8 hS
 refine WL.nil (N.seq (W.seq (W.region ?_)))
 refine WL.makeFunc (vs := #[.pointer (some ⟨b6, 0, none⟩)]) rfl rfl rfl ?_
 refine WL.assign rfl rfl rfl (WL.nil (N.seq (W.seq (W.region (WL.move rfl rfl rfl (WL.fieldAddr fo_32_2 rfl rfl rfl (WL.loadN (cs := [.int .i64 b.fin.kind, .int .i64 b.fin.a, .int .i64 b.fin.to, .slice adp b.fin.args.length capp, .int .i64 b.fin.els, .slice adq b.fin.elses.length capq]) agg_30 rfl rfl rfl rfl (hS.cells 2 (m := 6) rfl rfl) ?_)))))))
 refine WL.callF (vs := [.agg #[.int .i64 b.fin.kind, .int .i64 b.fin.a, .int .i64 b.fin.to, .slice adp b.fin.args.length capp, .int .i64 b.fin.els, .slice adq b.fin.elses.length capq]]) Try.func37 (by kernel_rfl) rfl rfl rfl (ends_ret b.fin _ (ro := ro) (fun b hb => (hS.snap b hb).1) (hfin.keep hS.alike) hok.a hok.e) ?_
 rintro ve w9 ⟨hve, hbl⟩
 have hal10 := hS.alikeTo hbl (ro' := (roFrom ro w8 w9)) (fun b hb => .inl hb)
 replace hsub : ∀ b, (roFrom ro w8 w9) b → ro b ∨ w.heap.size ≤ b := fun b hb => hb.elim (hsub b) (fun h => .inr (Nat.le_trans hS.below.size h.1))
 replace hb := hb.keep hal10
 replace hind := hind.keep hal10 (fun _ _ h => h.keep hal10)
 replace hS := hS.readNew hbl
 replace hve := SlV.keep hve (ro' := (roFrom ro w8 w9)) (w' := w9) (Q' := IntC) (fun x hx => ⟨.inr hx, rfl⟩) (fun _ _ h => h)
 refine WL.callV (vs := [ve]) (cs := #[.pointer (some ⟨b6, 0, none⟩)]) Try.func36 (by kernel_rfl) rfl rfl rfl rfl (mark_ret b6 b4 (List.replicate (b.params.toNat + b.ins.length : Nat) false) _ (List.length_replicate) (ends13 b.fin) ve hS hve hok.ends) ?_
 rintro v w11 ⟨rfl, hS⟩
 refine WL.nil (N.seq (W.seq (W.label (N.seq (W.seq (W.seq (W.region (WL.fieldAddr fo_32_1 rfl rfl rfl (WL.load1 (v := .slice adi b.ins.length capi) one_27 rfl rfl rfl (hS.cell 2 rfl rfl) ?_)))))))))
 refine WL.lenSlice Try.underlying27 rfl rfl rfl ?_
 refine WL.sub_ (c := (b.ins.length : Int) - 1) rfl rfl rfl rfl (rfl) (by omega) ?_
 refine WL.assign rfl rfl rfl (WL.nil (N.seq (W.block ?_)))
 refine W.loop (α := Nat × List Bool × (Nat → Prop) × World) (fun ⟨k, us, R2, ws2⟩ => [(1, .pointer (some ⟨b1, 0, none⟩)), (2, .slice none 0 0), (3, .pointer (some ⟨b6, 0, none⟩)), (4, .func (.func 36) #[] #[.pointer (some ⟨b6, 0, none⟩)]), (5, .int .i64 ((k : Int) - 1))]) (fun ⟨k, us, R2, ws2⟩ u => St w ws2 u R2 [(b6, .cells #[.slice (some ⟨b4, 0, none⟩) (b.params.toNat + b.ins.length) (b.params.toNat + b.ins.length)] 40 (0, 0)), (b4, arrO Value.bool 4 us), (b1, .cells #[.int .i64 b.params, .slice adi b.ins.length capi, .int .i64 b.fin.kind, .int .i64 b.fin.a, .int .i64 b.fin.to, .slice adp b.fin.args.length capp, .int .i64 b.fin.els, .slice adq b.fin.elses.length capq] 32 (0, 0))] [] ∧ k ≤ b.ins.length ∧ us.length = b.params.toNat + b.ins.length ∧ back13 b k us = used13 b ∧ Alike (roFrom ro w8 w9) w9 R2 ws2 ∧ (∀ b, R2 b → ro b ∨ w.heap.size ≤ b)) (fun ⟨k, us, R2, ws2⟩ => k) (b.ins.length, mark13 (List.replicate (b.params.toNat + b.ins.length) false) (ends13 b.fin), (roFrom ro w8 w9), w9) ⟨rfl, rfl, rfl, rfl, rfl, trivial⟩ ⟨hS, Nat.le_refl _, by rw [mark13_length, List.length_replicate], rfl, Alike.refl, hsub⟩ ?_
 clear hS
 rintro ⟨k, us, R2, ws2⟩ w12 ⟨hS, hk, hul, hbk, halL0, hsub⟩
 replace hb := hb.keep halL0
 replace hind := hind.keep halL0 (fun _ _ h => h.keep halL0)
 refine W.seq (W.seq (W.region (WL.move rfl rfl rfl (WL.bin rfl rfl rfl rfl rfl (WL.nil (N.seq ?_))))))
 refine W.cond rfl (fun hc13 => ?_) (fun hc13 => ?_)
 ·
  have hc13p : 0 ≤ (k : Int) - 1 := by simpa using hc13
  refine W.skip (N.seq (W.seq (W.block (W.seq (W.region (WL.fieldAddr fo_32_1 rfl rfl rfl (WL.load1 (v := .slice adi b.ins.length capi) one_27 rfl rfl rfl (hS.cell 2 rfl rfl) (WL.move rfl rfl rfl ?_))))))))
  refine WL.set 26 (v' := .int .i64 (((k - 1 : Nat) : Nat) : Int)) rfl (by congr 1; omega) ?_
  have hj14 : (k - 1 : Nat) < b.ins.length := by omega
  obtain ⟨x14, hx14⟩ : ∃ zz, b.ins[(k - 1 : Nat)]? = some zz := ⟨_, List.getElem?_eq_getElem hj14⟩
  obtain ⟨b14, o14, cs14, hE14, hr14, hl14, hc14, hQ14⟩ := hind (k - 1 : Nat) _ hx14
  have hQk14 := hQ14
  obtain ⟨sv14, rfl, hs14, ho14, ha14, hb14, hk14, hn14⟩ := hQ14
  obtain ⟨ad14, cap14, rfl, hs14a, hs14b, hs14c, hs14d⟩ := id hs14
  have hs14m : x14.args.length ≤ 9223372036854775807 := by have h1 := hs14a; have h2 := hs14b; unfold maxLen at h2; omega
  refine WL.indexAddrE (j := (k - 1 : Nat)) Try.underlying27 isz_36 rfl rfl rfl rfl hj14 hE14 (WL.loadN (cs := [.int .i64 x14.op, .int .i64 x14.a, .int .i64 x14.b, .int .u64 x14.k, .string x14.name, .slice ad14 x14.args.length cap14]) agg_36 rfl rfl rfl rfl (hS.roCells hr14 hc14) ?_)
  refine WL.alloc (tyZero_spec zer_36) rfl rfl hS ?_
  clear hS; intro w16 b15 hb_b15 hS
  refine WL.store (L' := [(b15, .cells #[.int .i64 x14.op, .int .i64 x14.a, .int .i64 x14.b, .int .u64 x14.k, .string x14.name, .slice ad14 x14.args.length cap14] 36 (0, 0)), (b6, .cells #[.slice (some ⟨b4, 0, none⟩) (b.params.toNat + b.ins.length) (b.params.toNat + b.ins.length)] 40 (0, 0)), (b4, arrO Value.bool 4 us), (b1, .cells #[.int .i64 b.params, .slice adi b.ins.length capi, .int .i64 b.fin.kind, .int .i64 b.fin.a, .int .i64 b.fin.to, .slice adp b.fin.args.length capp, .int .i64 b.fin.els, .slice adq b.fin.elses.length capq] 32 (0, 0))]) 0 rfl rfl rfl rfl siz_36 rfl rfl rfl rfl rfl hS ?_
  clear hS; intro w17 hS
  refine WL.nil (N.seq (W.seq (W.seq (W.region (WL.loadN (cs := [.int .i64 x14.op, .int .i64 x14.a, .int .i64 x14.b, .int .u64 x14.k, .string x14.name, .slice ad14 x14.args.length cap14]) agg_36 rfl rfl rfl rfl (hS.cells 0 (m := 6) rfl rfl) ?_)))))
  refine WL.callF (vs := [.agg #[.int .i64 x14.op, .int .i64 x14.a, .int .i64 x14.b, .int .u64 x14.k, .string x14.name, .slice ad14 x14.args.length cap14]]) Try.func31 (by kernel_rfl) rfl rfl rfl (does_ret x14 _ (ro := R2) (fun b hb => (hS.snap b hb).1) (hQk14.keep hS.alike)) ?_
  rintro v w18 ⟨rfl, hbl⟩
  replace hS := hS.grow hbl
  refine WL.not rfl rfl rfl (WL.move rfl rfl rfl ?_)
  cases hg19 : (!(does13 x14))
  ·
   refine WL.skp rfl rfl (WL.skp rfl rfl (WL.skp rfl rfl (WL.skp rfl rfl (WL.skp rfl rfl (WL.skp rfl rfl (WL.skp rfl rfl (WL.skp rfl rfl (WL.pick (v := .bool false) rfl rfl rfl rfl rfl rfl (WL.nil ?_)))))))))
   refine N.seq (W.condF rfl (W.skip (N.seq (W.region (WL.move rfl rfl rfl (WL.loadN (cs := [.int .i64 x14.op, .int .i64 x14.a, .int .i64 x14.b, .int .u64 x14.k, .string x14.name, .slice ad14 x14.args.length cap14]) agg_36 rfl rfl rfl rfl (hS.cells 0 (m := 6) rfl rfl) ?_))))))
   refine WL.callF (vs := [.agg #[.int .i64 x14.op, .int .i64 x14.a, .int .i64 x14.b, .int .u64 x14.k, .string x14.name, .slice ad14 x14.args.length cap14]]) Try.func32 (by kernel_rfl) rfl rfl rfl (iuses_ret x14 _ (ro := R2) (fun b hb => (hS.snap b hb).1) (hQk14.keep hS.alike) (Nat.le_trans (hok.args _ (List.mem_of_getElem? hx14)) (by decide))) ?_
   rintro vu w20 ⟨hvu, hbl⟩
   have hal21 := hS.alikeTo hbl (ro' := (roFrom R2 w18 w20)) (fun b hb => .inl hb)
   replace hsub : ∀ b, (roFrom R2 w18 w20) b → ro b ∨ w.heap.size ≤ b := fun b hb => hb.elim (hsub b) (fun h => .inr (Nat.le_trans hS.below.size h.1))
   replace halL0 := halL0.trans hal21
   replace hb := hb.keep hal21
   replace hQk14 := hQk14.keep hal21
   replace hS := hS.readNew hbl
   replace hvu := SlV.keep hvu (ro' := (roFrom R2 w18 w20)) (w' := w20) (Q' := IntC) (fun x hx => ⟨.inr hx, rfl⟩) (fun _ _ h => h)
   replace hS := hS.dropN 1
   refine WL.callV (vs := [vu]) (cs := #[.pointer (some ⟨b6, 0, none⟩)]) Try.func36 (by kernel_rfl) rfl rfl rfl rfl (mark_ret b6 b4 us _ hul (uses5 x14) vu hS hvu (hok.uses _ (List.mem_of_getElem? hx14))) ?_
   rintro v w22 ⟨rfl, hS⟩
   refine WL.nil (N.blk (N.seq (W.region (WL.move rfl rfl rfl ?_))))
   refine WL.sub_ (c := ((k - 1 : Nat) : Int) - 1) rfl rfl rfl rfl (by omega) (by omega) ?_
   refine WL.assign rfl rfl rfl (WL.nil ?_)
   have hst : stepU13 b.params.toNat (k - 1) x14 us = mark13 us (uses5 x14) := stepU_does (by simpa using hg19)
   exact N.loop (k - 1, mark13 us (uses5 x14), (roFrom R2 w18 w20), w20) ⟨rfl, rfl, rfl, rfl, rfl, trivial⟩ ⟨hS, by omega, by rw [mark13_length]; exact hul, back13_step hbk (by omega) hx14 hst, halL0, hsub⟩ (by first | omega | (simp only; omega))
  refine WL.load1 (v := .slice (some ⟨b4, 0, none⟩) (b.params.toNat + b.ins.length) (b.params.toNat + b.ins.length)) one_40 rfl rfl rfl (hS.cell 1 rfl rfl) (WL.fieldAddr fo_32_0 rfl rfl rfl (WL.load1 (v := .int .i64 b.params) one_3 rfl rfl rfl (hS.cell 3 rfl rfl) (WL.move rfl rfl rfl ?_)))
  refine WL.add (c := ((b.params.toNat + (k - 1) : Nat) : Int)) rfl rfl rfl rfl (by omega) (by omega) ?_
  refine WL.indexAddr (j := (b.params.toNat + (k - 1) : Nat)) Try.underlying40 isz_4 rfl rfl rfl rfl (by omega) ?_
  obtain ⟨x23, hx23⟩ : ∃ zz, us[(b.params.toNat + (k - 1) : Nat)]? = some zz := ⟨_, List.getElem?_eq_getElem (by omega)⟩
  refine WL.load1 (v := .bool x23) one_4 rfl rfl rfl (hS.arr 2 rfl hx23) (WL.not rfl rfl rfl (WL.pick (v := .bool (!x23)) rfl rfl rfl rfl rfl rfl (WL.nil (N.seq ?_))))
  refine W.cond rfl (fun hc24 => ?_) (fun hc24 => ?_)
  ·
   refine W.exit (X.seq (X.blk (N.seq (W.region (WL.move rfl rfl rfl ?_)))))
   refine WL.sub_ (c := ((k - 1 : Nat) : Int) - 1) rfl rfl rfl rfl (by omega) (by omega) ?_
   refine WL.assign rfl rfl rfl (WL.nil ?_)
   have hS := hS.dropN 1
   have hst : stepU13 b.params.toNat (k - 1) x14 us = us := stepU_no (by simpa using hg19) (by have h2 := hc24; simp at h2; rw [hx23, h2])
   exact N.loop (k - 1, us, R2, ws2) ⟨rfl, rfl, rfl, rfl, rfl, trivial⟩ ⟨hS, by omega, hul, back13_step hbk (by omega) hx14 hst, halL0, hsub⟩ (by first | omega | (simp only; omega))
  refine W.skip (N.seq (W.region (WL.move rfl rfl rfl (WL.loadN (cs := [.int .i64 x14.op, .int .i64 x14.a, .int .i64 x14.b, .int .u64 x14.k, .string x14.name, .slice ad14 x14.args.length cap14]) agg_36 rfl rfl rfl rfl (hS.cells 0 (m := 6) rfl rfl) ?_))))
  refine WL.callF (vs := [.agg #[.int .i64 x14.op, .int .i64 x14.a, .int .i64 x14.b, .int .u64 x14.k, .string x14.name, .slice ad14 x14.args.length cap14]]) Try.func32 (by kernel_rfl) rfl rfl rfl (iuses_ret x14 _ (ro := R2) (fun b hb => (hS.snap b hb).1) (hQk14.keep hS.alike) (Nat.le_trans (hok.args _ (List.mem_of_getElem? hx14)) (by decide))) ?_
  rintro vu w25 ⟨hvu, hbl⟩
  have hal26 := hS.alikeTo hbl (ro' := (roFrom R2 w18 w25)) (fun b hb => .inl hb)
  replace hsub : ∀ b, (roFrom R2 w18 w25) b → ro b ∨ w.heap.size ≤ b := fun b hb => hb.elim (hsub b) (fun h => .inr (Nat.le_trans hS.below.size h.1))
  replace halL0 := halL0.trans hal26
  replace hS := hS.readNew hbl
  replace hvu := SlV.keep hvu (ro' := (roFrom R2 w18 w25)) (w' := w25) (Q' := IntC) (fun x hx => ⟨.inr hx, rfl⟩) (fun _ _ h => h)
  replace hS := hS.dropN 1
  refine WL.callV (vs := [vu]) (cs := #[.pointer (some ⟨b6, 0, none⟩)]) Try.func36 (by kernel_rfl) rfl rfl rfl rfl (mark_ret b6 b4 us _ hul (uses5 x14) vu hS hvu (hok.uses _ (List.mem_of_getElem? hx14))) ?_
  rintro v w27 ⟨rfl, hS⟩
  refine WL.nil (N.blk (N.seq (W.region (WL.move rfl rfl rfl ?_))))
  refine WL.sub_ (c := ((k - 1 : Nat) : Int) - 1) rfl rfl rfl rfl (by omega) (by omega) ?_
  refine WL.assign rfl rfl rfl (WL.nil ?_)
  have hst : stepU13 b.params.toNat (k - 1) x14 us = mark13 us (uses5 x14) := stepU_used (by have h2 := hc24; simp at h2; rw [hx23, h2])
  exact N.loop (k - 1, mark13 us (uses5 x14), (roFrom R2 w18 w25), w25) ⟨rfl, rfl, rfl, rfl, rfl, trivial⟩ ⟨hS, by omega, by rw [mark13_length]; exact hul, back13_step hbk (by omega) hx14 hst, halL0, hsub⟩ (by first | omega | (simp only; omega))
 have hc13p : ¬ (0 ≤ (k : Int) - 1) := by simpa using hc13
 refine W.exit (X.seq (X.loop (X.blk (N.seq (W.seq (W.region (WL.load1 (v := .slice (some ⟨b4, 0, none⟩) (b.params.toNat + b.ins.length) (b.params.toNat + b.ins.length)) one_40 rfl rfl rfl (hS.cell 0 rfl rfl) (WL.assign rfl rfl rfl (WL.nil ?_)))))))))
 refine N.seq ?_
 refine Fin.ret1 rfl (v := .slice (some ⟨b4, 0, none⟩) (b.params.toNat + b.ins.length) (b.params.toNat + b.ins.length)) rfl ?_
 have e : k = 0 := by omega
 subst e
 have hbk2 : us = used13 b := hbk
 rw [← hbk2]
 exact ⟨arr_row (hS.dropN 1) (by unfold maxLen; omega) hul rfl (fun _ _ => rfl) ((hS.keys b4 (by simp [keysOf])).imp id (·.1)), hS.below⟩

end Go.Proofs.Ytdlcmhkfglckfaa
