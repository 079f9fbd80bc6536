/-
  Contracts of layer 13 (trim). No condition beyond those that each theorem states.
-/
import Derived.Test.YtdlcmhkfglckfaaU6
namespace Go.Proofs.Ytdlcmhkfglckfaa
open Go.RowKit
theorem byt_32 : (Try.prog.info? 32).map (·.bytes) = some 112 := by kernel_rfl
theorem siz_22 : tySize Try.prog 22 1 = true := by kernel_rfl
theorem siz_24 : tySize Try.prog 24 4 = true := by kernel_rfl
theorem zer_24 : tyZero Try.prog 24 = some [.string ⟨#[]⟩, .int .i64 0, .int .i64 0, .slice none 0 0] := by kernel_rfl
def numStep (us : List Bool) (s : (Int → Option Int) × Nat) (k : Nat) : (Int → Option Int) × Nat := if us[k]? = some true then (updG s.1 (k : Int) (s.2 : Int), s.2 + 1) else s
def numAt (us : List Bool) (k : Nat) : (Int → Option Int) × Nat := (List.range k).foldl (numStep us) (fun _ => none, 0)
theorem numAt_succ (us : List Bool) (k : Nat) : numAt us (k + 1) = numStep us (numAt us k) k := by simp [numAt, List.range_succ]
theorem numAt_le (us : List Bool) (k : Nat) : (numAt us k).2 ≤ k ∧ ∀ x v, (numAt us k).1 x = some v → 0 ≤ v ∧ v < ((numAt us k).2 : Int) := by
  induction k with
  | zero => exact ⟨Nat.le_refl _, fun x v h => by cases h⟩
  | succ k ih =>
    rw [numAt_succ]
    unfold numStep
    split
    · refine ⟨by dsimp only; omega, fun x v h => ?_⟩
      simp only [updG] at h
      dsimp only
      split at h
      · cases h; omega
      · have := ih.2 x v h; omega
    · exact ⟨by omega, ih.2⟩
def blk13 (g : Int → Option Int) (b : DBlock) : DBlock := ⟨(block13 b).params, (block13 b).ins, ⟨(block13 b).fin.kind, (block13 b).fin.a, if (block13 b).fin.kind = 3 then (block13 b).fin.to else (g (block13 b).fin.to).getD 0, (block13 b).fin.args, if (block13 b).fin.kind = 2 then (g (block13 b).fin.els).getD 0 else (block13 b).fin.els, (block13 b).fin.elses⟩⟩
def outs13 (g : Int → Option Int) (bs : List DBlock) (us : List Bool) : List DBlock := (bs.zip us).filterMap fun p => if p.2 = true then some (blk13 g p.1) else none
theorem outs13_snoc {g : Int → Option Int} {bs : List DBlock} {us : List Bool} {k : Nat} {b : DBlock} {x : Bool} (hb : bs[k]? = some b) (hu : us[k]? = some x) :
    outs13 g (bs.take (k + 1)) (us.take (k + 1)) = outs13 g (bs.take k) (us.take k) ++ if x = true then [blk13 g b] else [] := by
  have h1 := (List.getElem?_eq_some_iff.1 hb).1
  have h2 := (List.getElem?_eq_some_iff.1 hu).1
  unfold outs13
  rw [take_next hb, take_next hu, List.zip_append (by simp; omega), List.filterMap_append]
  congr 1
  cases x <;> simp
theorem outs13_len (g : Int → Option Int) (bs : List DBlock) (us : List Bool) : (outs13 g bs us).length ≤ bs.length := by
  unfold outs13
  refine Nat.le_trans (List.length_filterMap_le _ _) ?_
  rw [List.length_zip]; omega
def func13 (f : DFunc) : DFunc := ⟨f.name, f.bind, f.params, outs13 (numAt (reached13 f) f.blocks.length).1 f.blocks (reached13 f)⟩

set_option maxRecDepth 10000 in
set_option maxHeartbeats 4000000 in
theorem func13_ret (f : DFunc) (cf : List Value) {w : World} {ro : Nat → Prop} (hro : ∀ b, ro b → b < w.heap.size) (hx : FuncC ro w cf f) (hgo : Goes13 f) (hok : ∀ b ∈ f.blocks, Ok13 b) (hl : f.blocks.length ≤ 1000) : Ret Try.prog 13 #[.agg cf.toArray] w fun v w' => ∃ cs, v = .agg cs.toArray ∧ FuncC (roFrom ro w w') w' cs (func13 f) ∧ Below w.heap.size w w' := by
 obtain ⟨sbF, rfl, hblF, hnmF, hbdF, hprF⟩ := id hx
 obtain ⟨adbF, capbF, rfl, hbkFa, hbkFb, hbkFc, hbkFd⟩ := id hblF
 have hbkFm : f.blocks.length ≤ 9223372036854775807 := by have h1 := hbkFa; have h2 := hbkFb; unfold maxLen at h2; omega
 refine Ret.enter (P := Try.prog) (n := 73) (args := [.agg #[.string f.name, .int .i64 f.bind, .int .i64 f.params, .slice adbF f.blocks.length capbF]]) (σ := [(0, .agg #[.string f.name, .int .i64 f.bind, .int .i64 f.params, .slice adbF f.blocks.length capbF])]) Try.func13 rfl rfl rfl rfl ?_
 have hS := St.start (ro := ro) hro
 have hsub : ∀ b, ro b → ro b ∨ w.heap.size ≤ b := fun _ h => .inl h
 refine W.seq (W.region ?_)
 refine WL.box (v := .agg #[.string f.name, .int .i64 f.bind, .int .i64 f.params, .slice adbF f.blocks.length capbF]) (cs := [.string f.name, .int .i64 f.bind, .int .i64 f.params, .slice adbF f.blocks.length capbF]) rfl rfl rfl rfl hS ?_
 clear hS; intro w2 b1 hb_b1 hS
 refine WL.alloc (tyZero_spec zer_24) rfl rfl hS ?_
 clear hS; intro w4 b3 hb_b3 hS
 refine WL.nil (N.seq (W.seq (W.region (WL.loadN (cs := [.string f.name, .int .i64 f.bind, .int .i64 f.params, .slice adbF f.blocks.length capbF]) agg_24 rfl rfl rfl rfl (hS.cells 1 (m := 4) rfl rfl) ?_))))
 refine WL.callF (vs := [.agg #[.string f.name, .int .i64 f.bind, .int .i64 f.params, .slice adbF f.blocks.length capbF]]) Try.func14 (by kernel_rfl) rfl rfl rfl (reached_ret f _ (ro := ro) (fun b hb => (hS.snap b hb).1) (hx.keep hS.alike) hgo hl) ?_
 rintro vi w5 ⟨hvi, hbl⟩
 have hal6 := hS.alikeTo hbl (ro' := (roFrom ro w4 w5)) (fun b hb => .inl hb)
 replace hsub : ∀ b, (roFrom ro w4 w5) b → ro b ∨ w.heap.size ≤ b := fun b hb => hb.elim (hsub b) (fun h => .inr (Nat.le_trans hS.below.size h.1))
 replace hx := hx.keep hal6
 replace hbkFd := hbkFd.keep hal6 (fun _ _ h => h.keep hal6)
 replace hS := hS.readNew hbl
 replace hvi := SlV.keep hvi (ro' := (roFrom ro w4 w5)) (w' := w5) (Q' := BoolC) (fun x hx => ⟨.inr hx, rfl⟩) (fun _ _ h => h)
 obtain ⟨adn, capn, rfl, hvia, hvib, hvic, hvid⟩ := id hvi
 have hvim : (reached13 f).length ≤ 9223372036854775807 := by have h1 := hvia; have h2 := hvib; unfold maxLen at h2; omega
 have hul := reached13_length f
 refine WL.assign rfl rfl rfl (WL.nil (N.seq (W.seq (W.region ?_))))
 refine WL.makeMap rfl rfl hS ?_
 clear hS; intro w8 b7 hS
 refine WL.assign rfl rfl rfl (WL.nil (N.seq (W.seq (W.region (WL.assign rfl rfl rfl (WL.nil (N.seq (W.seq (W.seq ?_)))))))))
 refine W.region (WL.move rfl rfl rfl (WL.lenSlice Try.underlying40 rfl rfl rfl (WL.move rfl rfl rfl (WL.nil (N.seq (W.block ?_))))))
 refine W.loop (α := Nat × Nat × Array MapEntry × Nat) (fun ⟨k, c, es, ck⟩ => [(1, .pointer (some ⟨b1, 0, none⟩)), (2, .pointer (some ⟨b3, 0, none⟩)), (3, .slice adn ((reached13 f).length) capn), (4, .map (some b7)), (5, .int .i64 (c : Int)), (14, .slice adn ((reached13 f).length) capn), (15, .int .i64 ((reached13 f).length : Int)), (16, .int .i64 (k : Int))]) (fun ⟨k, c, es, ck⟩ u => St w w5 u (roFrom ro w4 w5) [(b7, .map es ck), (b3, .cells #[.string ⟨#[]⟩, .int .i64 0, .int .i64 0, .slice none 0 0] 24 (0, 0)), (b1, .cells #[.string f.name, .int .i64 f.bind, .int .i64 f.params, .slice adbF f.blocks.length capbF] 24 (0, 0))] [] ∧ k ≤ (reached13 f).length ∧ MapG kI kI es ck k (numAt (reached13 f) k).1 ∧ c = (numAt (reached13 f) k).2) (fun ⟨k, c, es, ck⟩ => (reached13 f).length - k) (0, 0, #[], 0) ⟨rfl, rfl, rfl, rfl, rfl, rfl, rfl, rfl, trivial⟩ ⟨hS, Nat.zero_le _, MapG.empty, rfl⟩ ?_
 clear hS
 rintro ⟨k, c, es, ck⟩ w9 ⟨hS, hk, hM, hc⟩
 have hcl := (numAt_le (reached13 f) k).1
 refine W.seq (W.region (WL.bin rfl rfl rfl rfl rfl (WL.nil (N.seq (W.seq ?_)))))
 refine W.cond rfl (fun hc10 => ?_) (fun hc10 => ?_)
 ·
  have hc10p : (k : Int) < ((reached13 f).length : Int) := by simpa using hc10
  refine W.skip (N.seq (W.seq (W.block (W.seq (W.region (WL.move rfl rfl rfl ?_))))))
  have hj11 : k < (reached13 f).length := by omega
  obtain ⟨x11, hx11⟩ : ∃ zz, (reached13 f)[k]? = some zz := ⟨_, List.getElem?_eq_getElem hj11⟩
  obtain ⟨b11, o11, cs11, hE11, hr11, hl11, hc11, hQ11⟩ := hvid k _ hx11
  cases hQ11
  refine WL.indexAddrE (j := k) Try.underlying40 isz_4 rfl rfl rfl rfl hj11 hE11 (WL.load1 (v := .bool x11) one_4 rfl rfl rfl (hS.roCells hr11 hc11 0 _ rfl) (WL.assign rfl rfl rfl (WL.assign rfl rfl rfl (WL.nil (N.seq (W.seq (W.region (WL.move rfl rfl rfl (WL.nil ?_)))))))))
  refine N.seq ?_
  refine W.cond rfl (fun hc12 => ?_) (fun hc12 => ?_)
  ·
   refine W.seq (W.region (WL.move rfl rfl rfl (WL.move rfl rfl rfl (WL.move rfl rfl rfl ?_))))
   refine WL.mapPut 0 (k : Int) (c : Int) keyE_int Try.underlying63 Try.underlying3 hM rfl rfl rfl rfl rfl hS ?_
   clear hS; intro w14 es13 ck13 hM13 hS
   refine WL.nil (N.seq (W.region (WL.move rfl rfl rfl ?_)))
   refine WL.add (c := (c : Int) + 1) rfl rfl rfl rfl (rfl) (by omega) ?_
   refine WL.assign rfl rfl rfl (WL.nil (N.blk (N.seq (W.region ?_))))
   refine WL.add (c := (k : Int) + 1) rfl rfl rfl rfl (rfl) (by omega) ?_
   refine WL.move rfl rfl rfl (WL.nil ?_)
   have hst := numAt_succ (reached13 f) k
   unfold numStep at hst
   rw [hx11, if_pos (by rw [hc12])] at hst
   exact N.loop (k + 1, c + 1, es13, ck13) ⟨rfl, rfl, rfl, rfl, rfl, rfl, rfl, rfl, trivial⟩ ⟨hS, by omega, by rw [hst, ← hc]; exact hM13, by rw [hst, ← hc]⟩ (by first | omega | (simp only; omega))
  refine W.skip (N.blk (N.seq (W.region ?_)))
  refine WL.add (c := (k : Int) + 1) rfl rfl rfl rfl (rfl) (by omega) ?_
  refine WL.move rfl rfl rfl (WL.nil ?_)
  have hst := numAt_succ (reached13 f) k
  unfold numStep at hst
  rw [hx11, if_neg (by rw [hc12]; simp)] at hst
  exact N.loop (k + 1, c, es, ck) ⟨rfl, rfl, rfl, rfl, rfl, rfl, rfl, rfl, trivial⟩ ⟨hS, by omega, by rw [hst]; exact hM.mono (by omega), by rw [hst]; exact hc⟩ (by first | omega | (simp only; omega))
 have hc10p : ¬ ((k : Int) < ((reached13 f).length : Int)) := by simpa using hc10
 refine W.exit (X.seq (X.loop (X.blk (N.seq (W.seq (W.region (WL.assign rfl rfl rfl (WL.nil (N.seq ?_)))))))))
 refine W.seq (W.seq (W.region (WL.fieldAddr fo_24_3 rfl rfl rfl (WL.load1 (v := .slice adbF f.blocks.length capbF) one_22 rfl rfl rfl (hS.cell 2 rfl rfl) (WL.lenSlice Try.underlying22 rfl rfl rfl (WL.move rfl rfl rfl (WL.nil (N.seq (W.block ?_)))))))))
 rw [show k = f.blocks.length by omega] at hM
 have hgi := small_inI (g := (numAt (reached13 f) f.blocks.length).1) (fun x v h => by have h1 := (numAt_le (reached13 f) f.blocks.length).2 x v h; have h2 := (numAt_le (reached13 f) f.blocks.length).1; omega)
 replace hS := hS.row0 32 8
 refine W.loop (α := Nat × Value × List Value × Nat × (Nat → Prop) × World) (fun ⟨i, v, cs, c2, R2, ws2⟩ => [(1, .pointer (some ⟨b1, 0, none⟩)), (2, .pointer (some ⟨b3, 0, none⟩)), (3, .slice adn ((reached13 f).length) capn), (4, .map (some b7)), (8, v), (29, .slice adbF f.blocks.length capbF), (30, .int .i64 (f.blocks.length : Int)), (31, .int .i64 (i : Int))]) (fun ⟨i, v, cs, c2, R2, ws2⟩ u => St w ws2 u R2 [(b7, .map es ck), (b3, .cells #[.string ⟨#[]⟩, .int .i64 0, .int .i64 0, .slice none 0 0] 24 (0, 0)), (b1, .cells #[.string f.name, .int .i64 f.bind, .int .i64 f.params, .slice adbF f.blocks.length capbF] 24 (0, 0))] [⟨v, 32, 8, c2, cs⟩] ∧ i ≤ f.blocks.length ∧ Chunks 8 (BlockC R2 ws2) cs (outs13 (numAt (reached13 f) f.blocks.length).1 (f.blocks.take i) ((reached13 f).take i)) ∧ c2 = (outs13 (numAt (reached13 f) f.blocks.length).1 (f.blocks.take i) ((reached13 f).take i)).length ∧ Alike (roFrom ro w4 w5) w5 R2 ws2 ∧ (∀ b, R2 b → ro b ∨ w.heap.size ≤ b)) (fun ⟨i, v, cs, c2, R2, ws2⟩ => f.blocks.length - i) (0, (.slice none 0 0), [], 0, (roFrom ro w4 w5), w5) ⟨rfl, rfl, rfl, rfl, rfl, rfl, rfl, rfl, trivial⟩ ⟨hS, Nat.zero_le _, by simpa [outs13] using Chunks.nil, by simp [outs13], Alike.refl, hsub⟩ ?_
 clear hS
 rintro ⟨i, v, cs, c2, R2, ws2⟩ w15 ⟨hS, hi, hch, hc2, halL1, hsub⟩
 replace hx := hx.keep halL1
 replace hbkFd := hbkFd.keep halL1 (fun _ _ h => h.keep halL1)
 replace hvid := hvid.keep halL1 (fun _ _ h => h)
 have hrow : w15.ownsRow w.heap.size 32 8 v (c2) _ := hS.rows _ List.mem_cons_self
 obtain ⟨adv, capv, rfl, hr1v, hr2v, hr3v⟩ := row_shape hrow
 clear hrow
 have hol := outs13_len (numAt (reached13 f) f.blocks.length).1 (f.blocks.take i) ((reached13 f).take i)
 rw [List.length_take] at hol
 refine W.seq (W.region (WL.bin rfl rfl rfl rfl rfl (WL.nil (N.seq (W.seq ?_)))))
 refine W.cond rfl (fun hc16 => ?_) (fun hc16 => ?_)
 ·
  have hc16p : (i : Int) < (f.blocks.length : Int) := by simpa using hc16
  refine W.skip (N.seq (W.seq (W.block (W.seq (W.region (WL.move rfl rfl rfl ?_))))))
  have hj17 : i < f.blocks.length := by omega
  obtain ⟨x17, hx17⟩ : ∃ zz, f.blocks[i]? = some zz := ⟨_, List.getElem?_eq_getElem hj17⟩
  obtain ⟨b17, o17, cs17, hE17, hr17, hl17, hc17, hQ17⟩ := hbkFd i _ hx17
  obtain ⟨si17, tsx17, rfl, hin17, hfin17, hpar17⟩ := id hQ17
  obtain ⟨adi17, capi17, rfl, hin17a, hin17b, hin17c, hin17d⟩ := id hin17
  have hin17m : x17.ins.length ≤ 9223372036854775807 := by have h1 := hin17a; have h2 := hin17b; unfold maxLen at h2; omega
  obtain ⟨sp17, sq17, rfl, ht117, ht217, htk17, hta17, htt17, hte17⟩ := id hfin17
  obtain ⟨adp17, capp17, rfl, htp17a, htp17b, htp17c, htp17d⟩ := id ht117
  have htp17m : x17.fin.args.length ≤ 9223372036854775807 := by have h1 := htp17a; have h2 := htp17b; unfold maxLen at h2; omega
  obtain ⟨adq17, capq17, rfl, htq17a, htq17b, htq17c, htq17d⟩ := id ht217
  have htq17m : x17.fin.elses.length ≤ 9223372036854775807 := by have h1 := htq17a; have h2 := htq17b; unfold maxLen at h2; omega
  refine WL.indexAddrE (j := i) Try.underlying22 isz_32 rfl rfl rfl rfl hj17 hE17 (WL.loadN (cs := [.int .i64 x17.params, .slice adi17 x17.ins.length capi17, .int .i64 x17.fin.kind, .int .i64 x17.fin.a, .int .i64 x17.fin.to, .slice adp17 x17.fin.args.length capp17, .int .i64 x17.fin.els, .slice adq17 x17.fin.elses.length capq17]) agg_32 rfl rfl rfl rfl (hS.roCells hr17 hc17) ?_)
  refine WL.alloc (tyZero_spec zer_32) rfl rfl hS ?_
  clear hS; intro w19 b18 hb_b18 hS
  refine WL.assign rfl rfl rfl ?_
  refine WL.store (L' := [(b18, .cells #[.int .i64 x17.params, .slice adi17 x17.ins.length capi17, .int .i64 x17.fin.kind, .int .i64 x17.fin.a, .int .i64 x17.fin.to, .slice adp17 x17.fin.args.length capp17, .int .i64 x17.fin.els, .slice adq17 x17.fin.elses.length capq17] 32 (0, 0)), (b7, .map es ck), (b3, .cells #[.string ⟨#[]⟩, .int .i64 0, .int .i64 0, .slice none 0 0] 24 (0, 0)), (b1, .cells #[.string f.name, .int .i64 f.bind, .int .i64 f.params, .slice adbF f.blocks.length capbF] 24 (0, 0))]) 0 rfl rfl rfl rfl siz_32 rfl rfl rfl rfl rfl hS ?_
  clear hS; intro w20 hS
  refine WL.nil (N.seq (W.seq (W.seq (W.region (WL.move rfl rfl rfl (WL.move rfl rfl rfl ?_))))))
  have hj21 : i < (reached13 f).length := by omega
  obtain ⟨x21, hx21⟩ : ∃ zz, (reached13 f)[i]? = some zz := ⟨_, List.getElem?_eq_getElem hj21⟩
  obtain ⟨b21, o21, cs21, hE21, hr21, hl21, hc21, hQ21⟩ := hvid i _ hx21
  cases hQ21
  refine WL.indexAddrE (j := i) Try.underlying40 isz_4 rfl rfl rfl rfl hj21 hE21 (WL.load1 (v := .bool x21) one_4 rfl rfl rfl (hS.roCells hr21 hc21 0 _ rfl) (WL.not rfl rfl rfl (WL.nil (N.seq ?_))))
  refine W.cond rfl (fun hc22 => ?_) (fun hc22 => ?_)
  ·
   refine W.exit (X.seq (X.blk (N.seq (W.region ?_))))
   refine WL.add (c := (i : Int) + 1) rfl rfl rfl rfl (rfl) (by omega) ?_
   refine WL.move rfl rfl rfl (WL.nil ?_)
   have hS := hS.dropN 1
   have hst := outs13_snoc (g := (numAt (reached13 f) f.blocks.length).1) hx17 hx21
   rw [if_neg (by have h2 := hc22; simp at h2; rw [h2]; simp), List.append_nil] at hst
   exact N.loop (i + 1, .slice adv c2 capv, cs, c2, R2, ws2) ⟨rfl, rfl, rfl, rfl, rfl, rfl, rfl, rfl, trivial⟩ ⟨hS, by omega, by rw [hst]; exact hch, by rw [hst]; exact hc2, halL1, hsub⟩ (by first | omega | (simp only; omega))
  refine W.skip (N.seq (W.seq (W.region (WL.loadN (cs := [.int .i64 x17.params, .slice adi17 x17.ins.length capi17, .int .i64 x17.fin.kind, .int .i64 x17.fin.a, .int .i64 x17.fin.to, .slice adp17 x17.fin.args.length capp17, .int .i64 x17.fin.els, .slice adq17 x17.fin.elses.length capq17]) agg_32 rfl rfl rfl rfl (hS.cells 0 (m := 8) rfl rfl) ?_))))
  refine WL.callF (vs := [.agg #[.int .i64 x17.params, .slice adi17 x17.ins.length capi17, .int .i64 x17.fin.kind, .int .i64 x17.fin.a, .int .i64 x17.fin.to, .slice adp17 x17.fin.args.length capp17, .int .i64 x17.fin.els, .slice adq17 x17.fin.elses.length capq17]]) Try.func11 (by kernel_rfl) rfl rfl rfl (block13_ret x17 _ (ro := R2) (fun b hb => (hS.snap b hb).1) (hQ17.keep hS.alike) (hok _ (List.mem_of_getElem? hx17))) ?_
  rintro v w23 ⟨csr, rfl, hB, hbl⟩
  have hal24 := hS.alikeTo hbl (ro' := (roFrom R2 w20 w23)) (fun b hb => .inl hb)
  replace hsub : ∀ b, (roFrom R2 w20 w23) b → ro b ∨ w.heap.size ≤ b := fun b hb => hb.elim (hsub b) (fun h => .inr (Nat.le_trans hS.below.size h.1))
  replace halL1 := halL1.trans hal24
  replace hx := hx.keep hal24
  replace hch := hch.mono fun _ _ h => h.keep hal24
  replace hS := hS.readNew hbl
  obtain ⟨sir, tsxr, rfl, hinr, hfinr, hparr⟩ := id hB
  obtain ⟨adir, capir, rfl, hinra, hinrb, hinrc, hinrd⟩ := id hinr
  have hinrm : ((block13 x17).ins).length ≤ 9223372036854775807 := by have h1 := hinra; have h2 := hinrb; unfold maxLen at h2; omega
  obtain ⟨spr, sqr, rfl, ht1r, ht2r, htkr, htar, httr, hter⟩ := id hfinr
  obtain ⟨adpr, cappr, rfl, htpra, htprb, htprc, htprd⟩ := id ht1r
  have htprm : ((block13 x17).fin.args).length ≤ 9223372036854775807 := by have h1 := htpra; have h2 := htprb; unfold maxLen at h2; omega
  obtain ⟨adqr, capqr, rfl, htqra, htqrb, htqrc, htqrd⟩ := id ht2r
  have htqrm : ((block13 x17).fin.elses).length ≤ 9223372036854775807 := by have h1 := htqra; have h2 := htqrb; unfold maxLen at h2; omega
  refine WL.store (L' := [(b18, .cells #[.int .i64 ((block13 x17).params), .slice adir (((block13 x17).ins).length) capir, .int .i64 ((block13 x17).fin.kind), .int .i64 ((block13 x17).fin.a), .int .i64 ((block13 x17).fin.to), .slice adpr (((block13 x17).fin.args).length) cappr, .int .i64 ((block13 x17).fin.els), .slice adqr (((block13 x17).fin.elses).length) capqr] 32 (0, 0)), (b7, .map es ck), (b3, .cells #[.string ⟨#[]⟩, .int .i64 0, .int .i64 0, .slice none 0 0] 24 (0, 0)), (b1, .cells #[.string f.name, .int .i64 f.bind, .int .i64 f.params, .slice adbF f.blocks.length capbF] 24 (0, 0))]) 0 rfl rfl rfl rfl siz_32 rfl rfl rfl rfl rfl hS ?_
  clear hS; intro w25 hS
  refine WL.nil (N.seq (W.seq (W.seq (W.region (WL.fieldAddr fo_32_2 rfl rfl rfl (WL.fieldAddr fo_30_0 rfl rfl rfl (WL.load1 (v := .int .i64 ((block13 x17).fin.kind)) one_3 rfl rfl rfl (hS.cell 0 rfl rfl) (WL.bin rfl rfl rfl rfl rfl (WL.nil ?_)))))))))
  refine N.seq ?_
  refine W.cond rfl (fun hc26 => ?_) (fun hc26 => ?_)
  ·
   have hc26p : ¬ ((block13 x17).fin.kind = 3) := by simpa using hc26
   refine W.region (WL.move rfl rfl rfl (WL.fieldAddr fo_32_2 rfl rfl rfl (WL.fieldAddr fo_30_2 rfl rfl rfl (WL.load1 (v := .int .i64 ((block13 x17).fin.to)) one_3 rfl rfl rfl (hS.cell 0 rfl rfl) ?_))))
   refine WL.mapGet ((block13 x17).fin.to) keyE_int Try.underlying63 Try.underlying3 zb_3 hM rfl rfl rfl rfl (hS.own _ (List.mem_of_getElem? (i := 1) rfl)) (v := .int .i64 (((numAt (reached13 f) f.blocks.length).1 ((block13 x17).fin.to)).getD 0)) (by cases (numAt (reached13 f) f.blocks.length).1 ((block13 x17).fin.to) <;> rfl) ?_
   refine WL.fieldAddr fo_32_2 rfl rfl rfl (WL.fieldAddr fo_30_2 rfl rfl rfl ?_)
   refine WL.store (L' := [(b18, .cells #[.int .i64 ((block13 x17).params), .slice adir (((block13 x17).ins).length) capir, .int .i64 ((block13 x17).fin.kind), .int .i64 ((block13 x17).fin.a), .int .i64 (((numAt (reached13 f) f.blocks.length).1 ((block13 x17).fin.to)).getD 0), .slice adpr (((block13 x17).fin.args).length) cappr, .int .i64 ((block13 x17).fin.els), .slice adqr (((block13 x17).fin.elses).length) capqr] 32 (0, 0)), (b7, .map es ck), (b3, .cells #[.string ⟨#[]⟩, .int .i64 0, .int .i64 0, .slice none 0 0] 24 (0, 0)), (b1, .cells #[.string f.name, .int .i64 f.bind, .int .i64 f.params, .slice adbF f.blocks.length capbF] 24 (0, 0))]) 0 rfl rfl rfl rfl siz_3 rfl rfl rfl rfl rfl hS ?_
   clear hS; intro w27 hS
   refine WL.nil (N.seq (W.seq (W.seq (W.region (WL.fieldAddr fo_32_2 rfl rfl rfl (WL.fieldAddr fo_30_0 rfl rfl rfl (WL.load1 (v := .int .i64 ((block13 x17).fin.kind)) one_3 rfl rfl rfl (hS.cell 0 rfl rfl) (WL.bin rfl rfl rfl rfl rfl (WL.nil ?_)))))))))
   refine N.seq ?_
   refine W.cond rfl (fun hc28 => ?_) (fun hc28 => ?_)
   ·
    have hc28p : (block13 x17).fin.kind = 2 := by simpa using hc28
    refine W.region (WL.move rfl rfl rfl (WL.fieldAddr fo_32_2 rfl rfl rfl (WL.fieldAddr fo_30_4 rfl rfl rfl (WL.load1 (v := .int .i64 ((block13 x17).fin.els)) one_3 rfl rfl rfl (hS.cell 0 rfl rfl) ?_))))
    refine WL.mapGet ((block13 x17).fin.els) keyE_int Try.underlying63 Try.underlying3 zb_3 hM rfl rfl rfl rfl (hS.own _ (List.mem_of_getElem? (i := 1) rfl)) (v := .int .i64 (((numAt (reached13 f) f.blocks.length).1 ((block13 x17).fin.els)).getD 0)) (by cases (numAt (reached13 f) f.blocks.length).1 ((block13 x17).fin.els) <;> rfl) ?_
    refine WL.fieldAddr fo_32_2 rfl rfl rfl (WL.fieldAddr fo_30_4 rfl rfl rfl ?_)
    refine WL.store (L' := [(b18, .cells #[.int .i64 ((block13 x17).params), .slice adir (((block13 x17).ins).length) capir, .int .i64 ((block13 x17).fin.kind), .int .i64 ((block13 x17).fin.a), .int .i64 (((numAt (reached13 f) f.blocks.length).1 ((block13 x17).fin.to)).getD 0), .slice adpr (((block13 x17).fin.args).length) cappr, .int .i64 (((numAt (reached13 f) f.blocks.length).1 ((block13 x17).fin.els)).getD 0), .slice adqr (((block13 x17).fin.elses).length) capqr] 32 (0, 0)), (b7, .map es ck), (b3, .cells #[.string ⟨#[]⟩, .int .i64 0, .int .i64 0, .slice none 0 0] 24 (0, 0)), (b1, .cells #[.string f.name, .int .i64 f.bind, .int .i64 f.params, .slice adbF f.blocks.length capbF] 24 (0, 0))]) 0 rfl rfl rfl rfl siz_3 rfl rfl rfl rfl rfl hS ?_
    clear hS; intro w29 hS
    refine WL.nil (N.seq (W.region (WL.move rfl rfl rfl (WL.loadN (cs := [.int .i64 ((block13 x17).params), .slice adir (((block13 x17).ins).length) capir, .int .i64 ((block13 x17).fin.kind), .int .i64 ((block13 x17).fin.a), .int .i64 (((numAt (reached13 f) f.blocks.length).1 ((block13 x17).fin.to)).getD 0), .slice adpr (((block13 x17).fin.args).length) cappr, .int .i64 (((numAt (reached13 f) f.blocks.length).1 ((block13 x17).fin.els)).getD 0), .slice adqr (((block13 x17).fin.elses).length) capqr]) agg_32 rfl rfl rfl rfl (hS.cells 0 (m := 8) rfl rfl) ?_))))
    refine WL.buildSlice (ps := [(0, .agg #[.int .i64 ((block13 x17).params), .slice adir (((block13 x17).ins).length) capir, .int .i64 ((block13 x17).fin.kind), .int .i64 ((block13 x17).fin.a), .int .i64 (((numAt (reached13 f) f.blocks.length).1 ((block13 x17).fin.to)).getD 0), .slice adpr (((block13 x17).fin.args).length) cappr, .int .i64 (((numAt (reached13 f) f.blocks.length).1 ((block13 x17).fin.els)).getD 0), .slice adqr (((block13 x17).fin.elses).length) capqr])]) (cs := [.int .i64 ((block13 x17).params), .slice adir (((block13 x17).ins).length) capir, .int .i64 ((block13 x17).fin.kind), .int .i64 ((block13 x17).fin.a), .int .i64 (((numAt (reached13 f) f.blocks.length).1 ((block13 x17).fin.to)).getD 0), .slice adpr (((block13 x17).fin.args).length) cappr, .int .i64 (((numAt (reached13 f) f.blocks.length).1 ((block13 x17).fin.els)).getD 0), .slice adqr (((block13 x17).fin.elses).length) capqr]) Try.underlying22 (tyZero_spec zer_32) rfl rfl rfl rfl (by kernel_rfl) hS ?_
    clear hS; intro w31 b30 hb_b30 hS
    have hb13 : blk13 (numAt (reached13 f) f.blocks.length).1 x17 = ⟨(block13 x17).params, (block13 x17).ins, ⟨(block13 x17).fin.kind, (block13 x17).fin.a, ((numAt (reached13 f) f.blocks.length).1 ((block13 x17).fin.to)).getD 0, (block13 x17).fin.args, ((numAt (reached13 f) f.blocks.length).1 ((block13 x17).fin.els)).getD 0, (block13 x17).fin.elses⟩⟩ := by unfold blk13; rw [if_neg (by omega), if_pos (by omega)]
    have hIC : BlockC (roFrom R2 w20 w23) w23 [.int .i64 ((block13 x17).params), .slice adir (((block13 x17).ins).length) capir, .int .i64 ((block13 x17).fin.kind), .int .i64 ((block13 x17).fin.a), .int .i64 (((numAt (reached13 f) f.blocks.length).1 ((block13 x17).fin.to)).getD 0), .slice adpr (((block13 x17).fin.args).length) cappr, .int .i64 (((numAt (reached13 f) f.blocks.length).1 ((block13 x17).fin.els)).getD 0), .slice adqr (((block13 x17).fin.elses).length) capqr] (blk13 (numAt (reached13 f) f.blocks.length).1 x17) := by rw [hb13]; exact ⟨_, _, rfl, hinr, ⟨_, _, rfl, ht1r, ht2r, htkr, htar, hgi _, hgi _⟩, hparr⟩
    refine WL.append (r := ⟨.slice adv c2 capv, 32, 8, c2, cs⟩) (cs := [.int .i64 ((block13 x17).params), .slice adir (((block13 x17).ins).length) capir, .int .i64 ((block13 x17).fin.kind), .int .i64 ((block13 x17).fin.a), .int .i64 (((numAt (reached13 f) f.blocks.length).1 ((block13 x17).fin.to)).getD 0), .slice adpr (((block13 x17).fin.args).length) cappr, .int .i64 (((numAt (reached13 f) f.blocks.length).1 ((block13 x17).fin.els)).getD 0), .slice adqr (((block13 x17).fin.elses).length) capqr]) 112 Try.underlying22 (tyZero_spec zer_32) byt_32 rfl rfl rfl rfl rfl rfl rfl rfl rfl hS (by unfold maxLen; simp only; omega) (by simp only; omega) ?_
    clear hS; intro w32 v33 hn_v33 hS
    have hrow : w32.ownsRow w.heap.size 32 8 v33 (c2 + 1) _ := hS.rows _ List.mem_cons_self
    obtain ⟨av33, cv33, rfl, hc1_v33, hc2_v33, hc3_v33⟩ := row_shape hrow
    clear hrow
    refine WL.assign rfl rfl rfl (WL.nil (N.blk (N.seq (W.region ?_))))
    refine WL.add (c := (i : Int) + 1) rfl rfl rfl rfl (rfl) (by omega) ?_
    refine WL.move rfl rfl rfl (WL.nil ?_)
    have hS := hS.dropN 1
    have hst := outs13_snoc (g := (numAt (reached13 f) f.blocks.length).1) hx17 hx21
    rw [if_pos (by simpa using hc22)] at hst
    exact N.loop (i + 1, .slice av33 (c2 + 1) cv33, cs ++ ([.int .i64 ((block13 x17).params), .slice adir (((block13 x17).ins).length) capir, .int .i64 ((block13 x17).fin.kind), .int .i64 ((block13 x17).fin.a), .int .i64 (((numAt (reached13 f) f.blocks.length).1 ((block13 x17).fin.to)).getD 0), .slice adpr (((block13 x17).fin.args).length) cappr, .int .i64 (((numAt (reached13 f) f.blocks.length).1 ((block13 x17).fin.els)).getD 0), .slice adqr (((block13 x17).fin.elses).length) capqr] : List Value), c2 + 1, (roFrom R2 w20 w23), w23) ⟨rfl, rfl, rfl, rfl, rfl, rfl, rfl, rfl, trivial⟩ ⟨hS, by omega, by rw [hst]; exact hch.snoc rfl hIC, by rw [hst, List.length_append, ← hc2]; rfl, halL1, hsub⟩ (by first | omega | (simp only; omega))
   have hc28p : ¬ ((block13 x17).fin.kind = 2) := by simpa using hc28
   refine W.skip (N.seq (W.region (WL.move rfl rfl rfl (WL.loadN (cs := [.int .i64 ((block13 x17).params), .slice adir (((block13 x17).ins).length) capir, .int .i64 ((block13 x17).fin.kind), .int .i64 ((block13 x17).fin.a), .int .i64 (((numAt (reached13 f) f.blocks.length).1 ((block13 x17).fin.to)).getD 0), .slice adpr (((block13 x17).fin.args).length) cappr, .int .i64 ((block13 x17).fin.els), .slice adqr (((block13 x17).fin.elses).length) capqr]) agg_32 rfl rfl rfl rfl (hS.cells 0 (m := 8) rfl rfl) ?_))))
   refine WL.buildSlice (ps := [(0, .agg #[.int .i64 ((block13 x17).params), .slice adir (((block13 x17).ins).length) capir, .int .i64 ((block13 x17).fin.kind), .int .i64 ((block13 x17).fin.a), .int .i64 (((numAt (reached13 f) f.blocks.length).1 ((block13 x17).fin.to)).getD 0), .slice adpr (((block13 x17).fin.args).length) cappr, .int .i64 ((block13 x17).fin.els), .slice adqr (((block13 x17).fin.elses).length) capqr])]) (cs := [.int .i64 ((block13 x17).params), .slice adir (((block13 x17).ins).length) capir, .int .i64 ((block13 x17).fin.kind), .int .i64 ((block13 x17).fin.a), .int .i64 (((numAt (reached13 f) f.blocks.length).1 ((block13 x17).fin.to)).getD 0), .slice adpr (((block13 x17).fin.args).length) cappr, .int .i64 ((block13 x17).fin.els), .slice adqr (((block13 x17).fin.elses).length) capqr]) Try.underlying22 (tyZero_spec zer_32) rfl rfl rfl rfl (by kernel_rfl) hS ?_
   clear hS; intro w35 b34 hb_b34 hS
   have hb13 : blk13 (numAt (reached13 f) f.blocks.length).1 x17 = ⟨(block13 x17).params, (block13 x17).ins, ⟨(block13 x17).fin.kind, (block13 x17).fin.a, ((numAt (reached13 f) f.blocks.length).1 ((block13 x17).fin.to)).getD 0, (block13 x17).fin.args, (block13 x17).fin.els, (block13 x17).fin.elses⟩⟩ := by unfold blk13; rw [if_neg (by omega), if_neg (by omega)]
   have hIC : BlockC (roFrom R2 w20 w23) w23 [.int .i64 ((block13 x17).params), .slice adir (((block13 x17).ins).length) capir, .int .i64 ((block13 x17).fin.kind), .int .i64 ((block13 x17).fin.a), .int .i64 (((numAt (reached13 f) f.blocks.length).1 ((block13 x17).fin.to)).getD 0), .slice adpr (((block13 x17).fin.args).length) cappr, .int .i64 ((block13 x17).fin.els), .slice adqr (((block13 x17).fin.elses).length) capqr] (blk13 (numAt (reached13 f) f.blocks.length).1 x17) := by rw [hb13]; exact ⟨_, _, rfl, hinr, ⟨_, _, rfl, ht1r, ht2r, htkr, htar, hgi _, hter⟩, hparr⟩
   refine WL.append (r := ⟨.slice adv c2 capv, 32, 8, c2, cs⟩) (cs := [.int .i64 ((block13 x17).params), .slice adir (((block13 x17).ins).length) capir, .int .i64 ((block13 x17).fin.kind), .int .i64 ((block13 x17).fin.a), .int .i64 (((numAt (reached13 f) f.blocks.length).1 ((block13 x17).fin.to)).getD 0), .slice adpr (((block13 x17).fin.args).length) cappr, .int .i64 ((block13 x17).fin.els), .slice adqr (((block13 x17).fin.elses).length) capqr]) 112 Try.underlying22 (tyZero_spec zer_32) byt_32 rfl rfl rfl rfl rfl rfl rfl rfl rfl hS (by unfold maxLen; simp only; omega) (by simp only; omega) ?_
   clear hS; intro w36 v37 hn_v37 hS
   have hrow : w36.ownsRow w.heap.size 32 8 v37 (c2 + 1) _ := hS.rows _ List.mem_cons_self
   obtain ⟨av37, cv37, rfl, hc1_v37, hc2_v37, hc3_v37⟩ := row_shape hrow
   clear hrow
   refine WL.assign rfl rfl rfl (WL.nil (N.blk (N.seq (W.region ?_))))
   refine WL.add (c := (i : Int) + 1) rfl rfl rfl rfl (rfl) (by omega) ?_
   refine WL.move rfl rfl rfl (WL.nil ?_)
   have hS := hS.dropN 1
   have hst := outs13_snoc (g := (numAt (reached13 f) f.blocks.length).1) hx17 hx21
   rw [if_pos (by simpa using hc22)] at hst
   exact N.loop (i + 1, .slice av37 (c2 + 1) cv37, cs ++ ([.int .i64 ((block13 x17).params), .slice adir (((block13 x17).ins).length) capir, .int .i64 ((block13 x17).fin.kind), .int .i64 ((block13 x17).fin.a), .int .i64 (((numAt (reached13 f) f.blocks.length).1 ((block13 x17).fin.to)).getD 0), .slice adpr (((block13 x17).fin.args).length) cappr, .int .i64 ((block13 x17).fin.els), .slice adqr (((block13 x17).fin.elses).length) capqr] : List Value), c2 + 1, (roFrom R2 w20 w23), w23) ⟨rfl, rfl, rfl, rfl, rfl, rfl, rfl, rfl, trivial⟩ ⟨hS, by omega, by rw [hst]; exact hch.snoc rfl hIC, by rw [hst, List.length_append, ← hc2]; rfl, halL1, hsub⟩ (by first | omega | (simp only; omega))
  have hc26p : (block13 x17).fin.kind = 3 := by simpa using hc26
  refine W.skip (N.seq (W.seq (W.seq (W.region (WL.fieldAddr fo_32_2 rfl rfl rfl (WL.fieldAddr fo_30_0 rfl rfl rfl (WL.load1 (v := .int .i64 ((block13 x17).fin.kind)) one_3 rfl rfl rfl (hS.cell 0 rfl rfl) (WL.bin rfl rfl rfl rfl rfl (WL.nil ?_)))))))))
  refine N.seq ?_
  refine W.cond rfl (fun hc38 => ?_) (fun hc38 => ?_)
  ·
   have hc38p : (block13 x17).fin.kind = 2 := by simpa using hc38
   refine W.region (WL.move rfl rfl rfl (WL.fieldAddr fo_32_2 rfl rfl rfl (WL.fieldAddr fo_30_4 rfl rfl rfl (WL.load1 (v := .int .i64 ((block13 x17).fin.els)) one_3 rfl rfl rfl (hS.cell 0 rfl rfl) ?_))))
   refine WL.mapGet ((block13 x17).fin.els) keyE_int Try.underlying63 Try.underlying3 zb_3 hM rfl rfl rfl rfl (hS.own _ (List.mem_of_getElem? (i := 1) rfl)) (v := .int .i64 (((numAt (reached13 f) f.blocks.length).1 ((block13 x17).fin.els)).getD 0)) (by cases (numAt (reached13 f) f.blocks.length).1 ((block13 x17).fin.els) <;> rfl) ?_
   refine WL.fieldAddr fo_32_2 rfl rfl rfl (WL.fieldAddr fo_30_4 rfl rfl rfl ?_)
   refine WL.store (L' := [(b18, .cells #[.int .i64 ((block13 x17).params), .slice adir (((block13 x17).ins).length) capir, .int .i64 ((block13 x17).fin.kind), .int .i64 ((block13 x17).fin.a), .int .i64 ((block13 x17).fin.to), .slice adpr (((block13 x17).fin.args).length) cappr, .int .i64 (((numAt (reached13 f) f.blocks.length).1 ((block13 x17).fin.els)).getD 0), .slice adqr (((block13 x17).fin.elses).length) capqr] 32 (0, 0)), (b7, .map es ck), (b3, .cells #[.string ⟨#[]⟩, .int .i64 0, .int .i64 0, .slice none 0 0] 24 (0, 0)), (b1, .cells #[.string f.name, .int .i64 f.bind, .int .i64 f.params, .slice adbF f.blocks.length capbF] 24 (0, 0))]) 0 rfl rfl rfl rfl siz_3 rfl rfl rfl rfl rfl hS ?_
   clear hS; intro w39 hS
   refine WL.nil (N.seq (W.region (WL.move rfl rfl rfl (WL.loadN (cs := [.int .i64 ((block13 x17).params), .slice adir (((block13 x17).ins).length) capir, .int .i64 ((block13 x17).fin.kind), .int .i64 ((block13 x17).fin.a), .int .i64 ((block13 x17).fin.to), .slice adpr (((block13 x17).fin.args).length) cappr, .int .i64 (((numAt (reached13 f) f.blocks.length).1 ((block13 x17).fin.els)).getD 0), .slice adqr (((block13 x17).fin.elses).length) capqr]) agg_32 rfl rfl rfl rfl (hS.cells 0 (m := 8) rfl rfl) ?_))))
   refine WL.buildSlice (ps := [(0, .agg #[.int .i64 ((block13 x17).params), .slice adir (((block13 x17).ins).length) capir, .int .i64 ((block13 x17).fin.kind), .int .i64 ((block13 x17).fin.a), .int .i64 ((block13 x17).fin.to), .slice adpr (((block13 x17).fin.args).length) cappr, .int .i64 (((numAt (reached13 f) f.blocks.length).1 ((block13 x17).fin.els)).getD 0), .slice adqr (((block13 x17).fin.elses).length) capqr])]) (cs := [.int .i64 ((block13 x17).params), .slice adir (((block13 x17).ins).length) capir, .int .i64 ((block13 x17).fin.kind), .int .i64 ((block13 x17).fin.a), .int .i64 ((block13 x17).fin.to), .slice adpr (((block13 x17).fin.args).length) cappr, .int .i64 (((numAt (reached13 f) f.blocks.length).1 ((block13 x17).fin.els)).getD 0), .slice adqr (((block13 x17).fin.elses).length) capqr]) Try.underlying22 (tyZero_spec zer_32) rfl rfl rfl rfl (by kernel_rfl) hS ?_
   clear hS; intro w41 b40 hb_b40 hS
   have hb13 : blk13 (numAt (reached13 f) f.blocks.length).1 x17 = ⟨(block13 x17).params, (block13 x17).ins, ⟨(block13 x17).fin.kind, (block13 x17).fin.a, (block13 x17).fin.to, (block13 x17).fin.args, ((numAt (reached13 f) f.blocks.length).1 ((block13 x17).fin.els)).getD 0, (block13 x17).fin.elses⟩⟩ := by unfold blk13; rw [if_pos (by omega), if_pos (by omega)]
   have hIC : BlockC (roFrom R2 w20 w23) w23 [.int .i64 ((block13 x17).params), .slice adir (((block13 x17).ins).length) capir, .int .i64 ((block13 x17).fin.kind), .int .i64 ((block13 x17).fin.a), .int .i64 ((block13 x17).fin.to), .slice adpr (((block13 x17).fin.args).length) cappr, .int .i64 (((numAt (reached13 f) f.blocks.length).1 ((block13 x17).fin.els)).getD 0), .slice adqr (((block13 x17).fin.elses).length) capqr] (blk13 (numAt (reached13 f) f.blocks.length).1 x17) := by rw [hb13]; exact ⟨_, _, rfl, hinr, ⟨_, _, rfl, ht1r, ht2r, htkr, htar, httr, hgi _⟩, hparr⟩
   refine WL.append (r := ⟨.slice adv c2 capv, 32, 8, c2, cs⟩) (cs := [.int .i64 ((block13 x17).params), .slice adir (((block13 x17).ins).length) capir, .int .i64 ((block13 x17).fin.kind), .int .i64 ((block13 x17).fin.a), .int .i64 ((block13 x17).fin.to), .slice adpr (((block13 x17).fin.args).length) cappr, .int .i64 (((numAt (reached13 f) f.blocks.length).1 ((block13 x17).fin.els)).getD 0), .slice adqr (((block13 x17).fin.elses).length) capqr]) 112 Try.underlying22 (tyZero_spec zer_32) byt_32 rfl rfl rfl rfl rfl rfl rfl rfl rfl hS (by unfold maxLen; simp only; omega) (by simp only; omega) ?_
   clear hS; intro w42 v43 hn_v43 hS
   have hrow : w42.ownsRow w.heap.size 32 8 v43 (c2 + 1) _ := hS.rows _ List.mem_cons_self
   obtain ⟨av43, cv43, rfl, hc1_v43, hc2_v43, hc3_v43⟩ := row_shape hrow
   clear hrow
   refine WL.assign rfl rfl rfl (WL.nil (N.blk (N.seq (W.region ?_))))
   refine WL.add (c := (i : Int) + 1) rfl rfl rfl rfl (rfl) (by omega) ?_
   refine WL.move rfl rfl rfl (WL.nil ?_)
   have hS := hS.dropN 1
   have hst := outs13_snoc (g := (numAt (reached13 f) f.blocks.length).1) hx17 hx21
   rw [if_pos (by simpa using hc22)] at hst
   exact N.loop (i + 1, .slice av43 (c2 + 1) cv43, cs ++ ([.int .i64 ((block13 x17).params), .slice adir (((block13 x17).ins).length) capir, .int .i64 ((block13 x17).fin.kind), .int .i64 ((block13 x17).fin.a), .int .i64 ((block13 x17).fin.to), .slice adpr (((block13 x17).fin.args).length) cappr, .int .i64 (((numAt (reached13 f) f.blocks.length).1 ((block13 x17).fin.els)).getD 0), .slice adqr (((block13 x17).fin.elses).length) capqr] : List Value), c2 + 1, (roFrom R2 w20 w23), w23) ⟨rfl, rfl, rfl, rfl, rfl, rfl, rfl, rfl, trivial⟩ ⟨hS, by omega, by rw [hst]; exact hch.snoc rfl hIC, by rw [hst, List.length_append, ← hc2]; rfl, halL1, hsub⟩ (by first | omega | (simp only; omega))
  have hc38p : ¬ ((block13 x17).fin.kind = 2) := by simpa using hc38
  refine W.skip (N.seq (W.region (WL.move rfl rfl rfl (WL.loadN (cs := [.int .i64 ((block13 x17).params), .slice adir (((block13 x17).ins).length) capir, .int .i64 ((block13 x17).fin.kind), .int .i64 ((block13 x17).fin.a), .int .i64 ((block13 x17).fin.to), .slice adpr (((block13 x17).fin.args).length) cappr, .int .i64 ((block13 x17).fin.els), .slice adqr (((block13 x17).fin.elses).length) capqr]) agg_32 rfl rfl rfl rfl (hS.cells 0 (m := 8) rfl rfl) ?_))))
  refine WL.buildSlice (ps := [(0, .agg #[.int .i64 ((block13 x17).params), .slice adir (((block13 x17).ins).length) capir, .int .i64 ((block13 x17).fin.kind), .int .i64 ((block13 x17).fin.a), .int .i64 ((block13 x17).fin.to), .slice adpr (((block13 x17).fin.args).length) cappr, .int .i64 ((block13 x17).fin.els), .slice adqr (((block13 x17).fin.elses).length) capqr])]) (cs := [.int .i64 ((block13 x17).params), .slice adir (((block13 x17).ins).length) capir, .int .i64 ((block13 x17).fin.kind), .int .i64 ((block13 x17).fin.a), .int .i64 ((block13 x17).fin.to), .slice adpr (((block13 x17).fin.args).length) cappr, .int .i64 ((block13 x17).fin.els), .slice adqr (((block13 x17).fin.elses).length) capqr]) Try.underlying22 (tyZero_spec zer_32) rfl rfl rfl rfl (by kernel_rfl) hS ?_
  clear hS; intro w45 b44 hb_b44 hS
  have hb13 : blk13 (numAt (reached13 f) f.blocks.length).1 x17 = ⟨(block13 x17).params, (block13 x17).ins, ⟨(block13 x17).fin.kind, (block13 x17).fin.a, (block13 x17).fin.to, (block13 x17).fin.args, (block13 x17).fin.els, (block13 x17).fin.elses⟩⟩ := by unfold blk13; rw [if_pos (by omega), if_neg (by omega)]
  have hIC : BlockC (roFrom R2 w20 w23) w23 [.int .i64 ((block13 x17).params), .slice adir (((block13 x17).ins).length) capir, .int .i64 ((block13 x17).fin.kind), .int .i64 ((block13 x17).fin.a), .int .i64 ((block13 x17).fin.to), .slice adpr (((block13 x17).fin.args).length) cappr, .int .i64 ((block13 x17).fin.els), .slice adqr (((block13 x17).fin.elses).length) capqr] (blk13 (numAt (reached13 f) f.blocks.length).1 x17) := by rw [hb13]; exact ⟨_, _, rfl, hinr, ⟨_, _, rfl, ht1r, ht2r, htkr, htar, httr, hter⟩, hparr⟩
  refine WL.append (r := ⟨.slice adv c2 capv, 32, 8, c2, cs⟩) (cs := [.int .i64 ((block13 x17).params), .slice adir (((block13 x17).ins).length) capir, .int .i64 ((block13 x17).fin.kind), .int .i64 ((block13 x17).fin.a), .int .i64 ((block13 x17).fin.to), .slice adpr (((block13 x17).fin.args).length) cappr, .int .i64 ((block13 x17).fin.els), .slice adqr (((block13 x17).fin.elses).length) capqr]) 112 Try.underlying22 (tyZero_spec zer_32) byt_32 rfl rfl rfl rfl rfl rfl rfl rfl rfl hS (by unfold maxLen; simp only; omega) (by simp only; omega) ?_
  clear hS; intro w46 v47 hn_v47 hS
  have hrow : w46.ownsRow w.heap.size 32 8 v47 (c2 + 1) _ := hS.rows _ List.mem_cons_self
  obtain ⟨av47, cv47, rfl, hc1_v47, hc2_v47, hc3_v47⟩ := row_shape hrow
  clear hrow
  refine WL.assign rfl rfl rfl (WL.nil (N.blk (N.seq (W.region ?_))))
  refine WL.add (c := (i : Int) + 1) rfl rfl rfl rfl (rfl) (by omega) ?_
  refine WL.move rfl rfl rfl (WL.nil ?_)
  have hS := hS.dropN 1
  have hst := outs13_snoc (g := (numAt (reached13 f) f.blocks.length).1) hx17 hx21
  rw [if_pos (by simpa using hc22)] at hst
  exact N.loop (i + 1, .slice av47 (c2 + 1) cv47, cs ++ ([.int .i64 ((block13 x17).params), .slice adir (((block13 x17).ins).length) capir, .int .i64 ((block13 x17).fin.kind), .int .i64 ((block13 x17).fin.a), .int .i64 ((block13 x17).fin.to), .slice adpr (((block13 x17).fin.args).length) cappr, .int .i64 ((block13 x17).fin.els), .slice adqr (((block13 x17).fin.elses).length) capqr] : List Value), c2 + 1, (roFrom R2 w20 w23), w23) ⟨rfl, rfl, rfl, rfl, rfl, rfl, rfl, rfl, trivial⟩ ⟨hS, by omega, by rw [hst]; exact hch.snoc rfl hIC, by rw [hst, List.length_append, ← hc2]; rfl, halL1, hsub⟩ (by first | omega | (simp only; omega))
 have hc16p : ¬ ((i : Int) < (f.blocks.length : Int)) := by simpa using hc16
 refine W.exit (X.seq (X.loop (X.blk (N.seq (W.seq (W.region (WL.move rfl rfl rfl (WL.fieldAddr fo_24_3 rfl rfl rfl ?_))))))))
 refine WL.store (L' := [(b7, .map es ck), (b3, .cells #[.string ⟨#[]⟩, .int .i64 0, .int .i64 0, .slice none 0 0] 24 (0, 0)), (b1, .cells #[.string f.name, .int .i64 f.bind, .int .i64 f.params, .slice adv c2 capv] 24 (0, 0))]) 2 rfl rfl rfl rfl siz_22 rfl rfl rfl rfl rfl hS ?_
 clear hS; intro w48 hS
 refine WL.nil (N.seq (W.seq (W.region (WL.loadN (cs := [.string f.name, .int .i64 f.bind, .int .i64 f.params, .slice adv c2 capv]) agg_24 rfl rfl rfl rfl (hS.cells 2 (m := 4) rfl rfl) ?_))))
 refine WL.store (L' := [(b7, .map es ck), (b3, .cells #[.string f.name, .int .i64 f.bind, .int .i64 f.params, .slice adv c2 capv] 24 (0, 0)), (b1, .cells #[.string f.name, .int .i64 f.bind, .int .i64 f.params, .slice adv c2 capv] 24 (0, 0))]) 1 rfl rfl rfl rfl siz_24 rfl rfl rfl rfl rfl hS ?_
 clear hS; intro w49 hS
 refine WL.nil (N.seq ?_)
 refine Fin.retC rfl (v := .agg #[.string f.name, .int .i64 f.bind, .int .i64 f.params, .slice adv c2 capv]) rfl (tyAgg_run agg_24 (cs := [.string f.name, .int .i64 f.bind, .int .i64 f.params, .slice adv c2 capv]) rfl (hS.cells 1 (m := 4) rfl rfl)) ?_
 have hfin : Alike R2 ws2 (roFrom ro w w49) w49 := fun b hb => ⟨(hsub b hb).elim .inl (fun h => .inr ⟨h, (hS.snap b hb).1⟩), (hS.snap b hb).2⟩
 have hie : i = f.blocks.length := by omega
 have hfe : func13 f = ⟨f.name, f.bind, f.params, outs13 (numAt (reached13 f) f.blocks.length).1 (f.blocks.take i) ((reached13 f).take i)⟩ := by rw [hie, List.take_length, ← hul, List.take_length, hul]; rfl
 rw [hfe]
 refine ⟨_, rfl, ⟨_, rfl, row_slv (hS.rows _ List.mem_cons_self) (hch.mono fun _ _ h => h.keep hfin) hc2 (fun x hx => .inr ((hS.keys x (by simp only [keysOf, List.mem_append, List.mem_filterMap]; exact .inr ⟨_, List.mem_cons_self, hx⟩)).imp id (·.1))), hnmF, hbdF, hprF⟩, hS.below⟩

end Go.Proofs.Ytdlcmhkfglckfaa
