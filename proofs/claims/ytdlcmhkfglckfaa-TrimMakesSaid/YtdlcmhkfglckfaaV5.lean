/-
  Contracts of layer 13 (trim). No condition beyond those that each theorem states.
-/
import Derived.Test.YtdlcmhkfglckfaaL9
namespace Go.Proofs.Ytdlcmhkfglckfaa
open Go.RowKit

set_option maxRecDepth 10000 in
set_option maxHeartbeats 4000000 in
theorem rfunc13_ret (f : DFunc) (cf : List Value) {w : World} {ro : Nat → Prop} (hro : ∀ b, ro b → b < w.heap.size) (hx : FuncC ro w cf f) (h5 : func5 f = true) : Ret Try.prog 25 #[.agg cf.toArray] w fun v w' => ∃ cs, v = .agg cs.toArray ∧ FuncC (roFrom ro w w') w' cs (func13 f) ∧ Below w.heap.size w w' := by
 obtain ⟨sbF, rfl, hblF, hnmF, hbdF, hprF⟩ := id hx
 obtain ⟨adbF, capbF, rfl, hbkFa, hbkFb, hbkFc, hbkFd⟩ := id hblF
 have hbkFm : f.blocks.length ≤ 9223372036854775807 := by have h1 := hbkFa; have h2 := hbkFb; unfold maxLen at h2; omega
 refine Ret.enter (P := Try.prog) (n := 63) (args := [.agg #[.string f.name, .int .i64 f.bind, .int .i64 f.params, .slice adbF f.blocks.length capbF]]) (σ := [(0, .agg #[.string f.name, .int .i64 f.bind, .int .i64 f.params, .slice adbF f.blocks.length capbF])]) Try.func25 rfl rfl rfl rfl ?_
 have hS := St.start (ro := ro) hro
 have hgo := goes13_of5 h5; have hfl := (func5_all h5).1
 have hsub : ∀ b, ro b → ro b ∨ w.heap.size ≤ b := fun _ h => .inl h
 refine W.seq (W.region ?_)
 refine WL.box (v := .agg #[.string f.name, .int .i64 f.bind, .int .i64 f.params, .slice adbF f.blocks.length capbF]) (cs := [.string f.name, .int .i64 f.bind, .int .i64 f.params, .slice adbF f.blocks.length capbF]) rfl rfl rfl rfl hS ?_
 clear hS; intro w2 b1 hb_b1 hS
 refine WL.alloc (tyZero_spec zer_24) rfl rfl hS ?_
 clear hS; intro w4 b3 hb_b3 hS
 refine WL.nil (N.seq (W.seq (W.region (WL.loadN (cs := [.string f.name, .int .i64 f.bind, .int .i64 f.params, .slice adbF f.blocks.length capbF]) agg_24 rfl rfl rfl rfl (hS.cells 1 (m := 4) rfl rfl) ?_))))
 refine WL.callF (vs := [.agg #[.string f.name, .int .i64 f.bind, .int .i64 f.params, .slice adbF f.blocks.length capbF]]) Try.func23 (by kernel_rfl) rfl rfl rfl (rreached13_ret f _ (ro := ro) (fun b hb => (hS.snap b hb).1) (hx.keep hS.alike) hgo (by omega)) ?_
 rintro v w5 ⟨g13, rfl, hge, hgo13, hbl⟩
 rw [rounds_eq hgo] at hgo13
 replace hS := hS.callOwn hbl hge hgo13
 refine WL.assign rfl rfl rfl (WL.nil (N.seq (W.seq (W.region (WL.fieldAddr fo_24_0 rfl rfl rfl (WL.load1 (v := .string f.name) one_9 rfl rfl rfl (hS.cell 2 rfl rfl) (WL.fieldAddr fo_24_1 rfl rfl rfl (WL.load1 (v := .int .i64 f.bind) one_3 rfl rfl rfl (hS.cell 2 rfl rfl) (WL.fieldAddr fo_24_2 rfl rfl rfl ?_)))))))))
 refine WL.load1 (v := .int .i64 f.params) one_3 rfl rfl rfl (hS.cell 2 rfl rfl) ?_
 refine WL.build (ps := [(0, .string f.name), (1, .int .i64 f.bind), (2, .int .i64 f.params)]) (cs := [.string f.name, .int .i64 f.bind, .int .i64 f.params, .slice none 0 0]) rfl rfl rfl (by kernel_rfl) ?_
 refine WL.alloc (tyZero_spec zer_24) rfl rfl hS ?_
 clear hS; intro w7 b6 hb_b6 hS
 refine WL.store (L' := [(b6, .cells #[.string f.name, .int .i64 f.bind, .int .i64 f.params, .slice none 0 0] 24 (0, 0)), (g13, arrO Value.bool 4 (reached13 f)), (b3, .cells #[.string ⟨#[]⟩, .int .i64 0, .int .i64 0, .slice none 0 0] 24 (0, 0)), (b1, .cells #[.string f.name, .int .i64 f.bind, .int .i64 f.params, .slice adbF f.blocks.length capbF] 24 (0, 0))]) 0 rfl rfl rfl rfl siz_24 rfl rfl rfl rfl rfl hS ?_
 clear hS; intro w8 hS
 refine WL.nil (N.seq (W.seq (W.seq (W.region (WL.assign rfl rfl rfl (WL.nil (N.seq (W.block ?_))))))))
 have hul := reached13_length f
 replace hS := hS.row0 32 8
 replace hS : St w w w8 ro [(g13, arrO Value.bool 4 (reached13 f)), (b6, .cells #[.string f.name, .int .i64 f.bind, .int .i64 f.params, .slice none 0 0] 24 (0, 0)), (b3, .cells #[.string ⟨#[]⟩, .int .i64 0, .int .i64 0, .slice none 0 0] 24 (0, 0)), (b1, .cells #[.string f.name, .int .i64 f.bind, .int .i64 f.params, .slice adbF f.blocks.length capbF] 24 (0, 0))] [⟨.slice none 0 0, 32, 8, 0, []⟩] := hS.perm ((List.Perm.swap _ _ _))
 have hal9 := hS.giveAlike
 replace hsub : ∀ b, (fun x => ro x ∨ x = g13) b → ro b ∨ w.heap.size ≤ b := fun b hb => hb.elim (hsub b) (fun h => .inr (by rw [h]; exact hS.giveLe))
 replace hx := hx.keep hal9
 replace hbkFd := hbkFd.keep hal9 (fun _ _ h => h.keep hal9)
 have hown10 := hS.own _ List.mem_cons_self
 replace hS := hS.give
 have hsv : SlV (fun x => ro x ∨ x = g13) w8 1 BoolC (.slice (some ⟨g13, 0, none⟩) f.blocks.length f.blocks.length) (reached13 f) := by rw [← hul]; exact slv_blk hown10 (by simp [List.take_of_length_le]) (chunks_bools _) (.inr rfl) (by simp) (by unfold maxLen; omega)
 refine W.loop (α := Nat × Value × List Value × Nat × Value × (Nat → Prop) × World) (fun ⟨k, v, cs, c2, vst, R2, ws2⟩ => [(1, .pointer (some ⟨b1, 0, none⟩)), (2, .pointer (some ⟨b3, 0, none⟩)), (3, vst), (4, .pointer (some ⟨b6, 0, none⟩)), (5, .int .i64 (k : Int))]) (fun ⟨k, v, cs, c2, vst, R2, ws2⟩ u => St w ws2 u R2 [(b6, .cells #[.string f.name, .int .i64 f.bind, .int .i64 f.params, v] 24 (0, 0)), (b3, .cells #[.string ⟨#[]⟩, .int .i64 0, .int .i64 0, .slice none 0 0] 24 (0, 0)), (b1, .cells #[.string f.name, .int .i64 f.bind, .int .i64 f.params, .slice adbF f.blocks.length capbF] 24 (0, 0))] [⟨v, 32, 8, c2, cs⟩] ∧ k ≤ f.blocks.length ∧ Chunks 8 (BlockC R2 ws2) cs (outs13 (numAt (reached13 f) f.blocks.length).1 (f.blocks.take k) ((reached13 f).take k)) ∧ c2 = (outs13 (numAt (reached13 f) f.blocks.length).1 (f.blocks.take k) ((reached13 f).take k)).length ∧ SlV R2 ws2 1 BoolC vst (reached13 f) ∧ Alike (fun x => ro x ∨ x = g13) w8 R2 ws2 ∧ (∀ b, R2 b → ro b ∨ w.heap.size ≤ b)) (fun ⟨k, v, cs, c2, vst, R2, ws2⟩ => f.blocks.length - k) (0, (.slice none 0 0), [], 0, (.slice (some ⟨g13, 0, none⟩) f.blocks.length f.blocks.length), (fun x => ro x ∨ x = g13), w8) ⟨rfl, rfl, rfl, rfl, rfl, trivial⟩ ⟨hS, Nat.zero_le _, by simpa [outs13] using Chunks.nil, by simp [outs13], hsv, Alike.refl, hsub⟩ ?_
 clear hS
 rintro ⟨k, v, cs, c2, vst, R2, ws2⟩ w11 ⟨hS, hk, hch, hc2, hsv, halL0, hsub⟩
 replace hx := hx.keep halL0
 replace hbkFd := hbkFd.keep halL0 (fun _ _ h => h.keep halL0)
 have hrow : w11.ownsRow w.heap.size 32 8 v (c2) _ := hS.rows _ List.mem_cons_self
 obtain ⟨adv, capv, rfl, hr1v, hr2v, hr3v⟩ := row_shape hrow
 clear hrow
 obtain ⟨adst, capst, rfl, hsva, hsvb, hsvc, hsvd⟩ := id hsv
 have hsvm : (reached13 f).length ≤ 9223372036854775807 := by have h1 := hsva; have h2 := hsvb; unfold maxLen at h2; omega
 have hol := outs13_len (numAt (reached13 f) f.blocks.length).1 (f.blocks.take k) ((reached13 f).take k)
 rw [List.length_take] at hol
 refine W.seq (W.seq (W.region (WL.move rfl rfl rfl (WL.fieldAddr fo_24_3 rfl rfl rfl (WL.load1 (v := .slice adbF f.blocks.length capbF) one_22 rfl rfl rfl (hS.cell 2 rfl rfl) (WL.lenSlice Try.underlying22 rfl rfl rfl (WL.bin rfl rfl rfl rfl rfl (WL.nil (N.seq ?_)))))))))
 refine W.cond rfl (fun hc12 => ?_) (fun hc12 => ?_)
 ·
  have hc12p : (k : Int) < (f.blocks.length : Int) := by simpa using hc12
  refine W.skip (N.seq (W.seq (W.block (W.seq (W.seq (W.region (WL.move rfl rfl rfl (WL.move rfl rfl rfl ?_))))))))
  have hj13 : k < (reached13 f).length := by omega
  obtain ⟨x13, hx13⟩ : ∃ zz, (reached13 f)[k]? = some zz := ⟨_, List.getElem?_eq_getElem hj13⟩
  obtain ⟨b13, o13, cs13, hE13, hr13, hl13, hc13, hQ13⟩ := hsvd k _ hx13
  cases hQ13
  refine WL.indexAddrE (j := k) Try.underlying40 isz_4 rfl rfl rfl rfl hj13 hE13 (WL.load1 (v := .bool x13) one_4 rfl rfl rfl (hS.roCells hr13 hc13 0 _ rfl) (WL.not rfl rfl rfl (WL.nil (N.seq ?_))))
  refine W.cond rfl (fun hc14 => ?_) (fun hc14 => ?_)
  ·
   refine W.exit (X.seq (X.blk (N.seq (W.region (WL.move rfl rfl rfl ?_)))))
   refine WL.add (c := (k : Int) + 1) rfl rfl rfl rfl (rfl) (by omega) ?_
   refine WL.assign rfl rfl rfl (WL.nil ?_)
   have hxi := List.getElem?_eq_getElem (show k < f.blocks.length by omega)
   have hsp := outs13_snoc (g := (numAt (reached13 f) f.blocks.length).1) hxi hx13
   rw [if_neg (by have h3 := hc14; simp_all), List.append_nil] at hsp
   exact N.loop (k + 1, .slice adv c2 capv, cs, c2, .slice adst ((reached13 f).length) capst, R2, ws2) ⟨rfl, rfl, rfl, rfl, rfl, trivial⟩ ⟨hS, by omega, by rw [hsp]; exact hch, by rw [hsp]; exact hc2, hsv, halL0, hsub⟩ (by first | omega | (simp only; omega))
  refine W.skip (N.seq (W.seq (W.region (WL.fieldAddr fo_24_3 rfl rfl rfl (WL.load1 (v := .slice adbF f.blocks.length capbF) one_22 rfl rfl rfl (hS.cell 2 rfl rfl) (WL.move rfl rfl rfl ?_))))))
  have hj15 : k < f.blocks.length := by omega
  obtain ⟨x15, hx15⟩ : ∃ zz, f.blocks[k]? = some zz := ⟨_, List.getElem?_eq_getElem hj15⟩
  obtain ⟨b15, o15, cs15, hE15, hr15, hl15, hc15, hQ15⟩ := hbkFd k _ hx15
  obtain ⟨si15, tsx15, rfl, hin15, hfin15, hpar15⟩ := id hQ15
  obtain ⟨adi15, capi15, rfl, hin15a, hin15b, hin15c, hin15d⟩ := id hin15
  have hin15m : x15.ins.length ≤ 9223372036854775807 := by have h1 := hin15a; have h2 := hin15b; unfold maxLen at h2; omega
  obtain ⟨sp15, sq15, rfl, ht115, ht215, htk15, hta15, htt15, hte15⟩ := id hfin15
  obtain ⟨adp15, capp15, rfl, htp15a, htp15b, htp15c, htp15d⟩ := id ht115
  have htp15m : x15.fin.args.length ≤ 9223372036854775807 := by have h1 := htp15a; have h2 := htp15b; unfold maxLen at h2; omega
  obtain ⟨adq15, capq15, rfl, htq15a, htq15b, htq15c, htq15d⟩ := id ht215
  have htq15m : x15.fin.elses.length ≤ 9223372036854775807 := by have h1 := htq15a; have h2 := htq15b; unfold maxLen at h2; omega
  refine WL.indexAddrE (j := k) Try.underlying22 isz_32 rfl rfl rfl rfl hj15 hE15 (WL.loadN (cs := [.int .i64 x15.params, .slice adi15 x15.ins.length capi15, .int .i64 x15.fin.kind, .int .i64 x15.fin.a, .int .i64 x15.fin.to, .slice adp15 x15.fin.args.length capp15, .int .i64 x15.fin.els, .slice adq15 x15.fin.elses.length capq15]) agg_32 rfl rfl rfl rfl (hS.roCells hr15 hc15) ?_)
  have hr : (reached13 f)[k]? = some true := by rw [hx13]; have h3 := hc14; simp_all
  have hgx := hgo x15 (List.mem_of_getElem? hx15)
  have hbe := rblk_eq hgo hr hx15
  have hk1 : (block13 x15).fin.kind = x15.fin.kind := rfl; have hk2 : (block13 x15).fin.to = x15.fin.to := rfl; have hk3 : (block13 x15).fin.els = x15.fin.els := rfl
  refine WL.callF (vs := [.agg #[.int .i64 x15.params, .slice adi15 x15.ins.length capi15, .int .i64 x15.fin.kind, .int .i64 x15.fin.a, .int .i64 x15.fin.to, .slice adp15 x15.fin.args.length capp15, .int .i64 x15.fin.els, .slice adq15 x15.fin.elses.length capq15]]) Try.func20 (by kernel_rfl) rfl rfl rfl (rblock13_ret f x15 _ (ro := R2) (fun b hb => (hS.snap b hb).1) (hQ15.keep hS.alike) h5 (List.mem_of_getElem? hx15)) ?_
  rintro v w16 ⟨csr, rfl, hB, hbl⟩
  have hal17 := hS.alikeTo hbl (ro' := (roFrom R2 w11 w16)) (fun b hb => .inl hb)
  replace hsub : ∀ b, (roFrom R2 w11 w16) b → ro b ∨ w.heap.size ≤ b := fun b hb => hb.elim (hsub b) (fun h => .inr (Nat.le_trans hS.below.size h.1))
  replace halL0 := halL0.trans hal17
  replace hx := hx.keep hal17
  replace hch := hch.mono fun _ _ h => h.keep hal17
  replace hsv := SlV.keep hsv hal17 (fun _ _ h => h)
  replace hS := hS.readNew hbl
  obtain ⟨sir, tsxr, rfl, hinr, hfinr, hparr⟩ := id hB
  obtain ⟨adir, capir, rfl, hinra, hinrb, hinrc, hinrd⟩ := id hinr
  have hinrm : ((block13 x15).ins).length ≤ 9223372036854775807 := by have h1 := hinra; have h2 := hinrb; unfold maxLen at h2; omega
  obtain ⟨spr, sqr, rfl, ht1r, ht2r, htkr, htar, httr, hter⟩ := id hfinr
  obtain ⟨adpr, cappr, rfl, htpra, htprb, htprc, htprd⟩ := id ht1r
  have htprm : ((block13 x15).fin.args).length ≤ 9223372036854775807 := by have h1 := htpra; have h2 := htprb; unfold maxLen at h2; omega
  obtain ⟨adqr, capqr, rfl, htqra, htqrb, htqrc, htqrd⟩ := id ht2r
  have htqrm : ((block13 x15).fin.elses).length ≤ 9223372036854775807 := by have h1 := htqra; have h2 := htqrb; unfold maxLen at h2; omega
  refine WL.alloc (tyZero_spec zer_32) rfl rfl hS ?_
  clear hS; intro w19 b18 hb_b18 hS
  refine WL.store (L' := [(b18, .cells #[.int .i64 ((block13 x15).params), .slice adir (((block13 x15).ins).length) capir, .int .i64 ((block13 x15).fin.kind), .int .i64 ((block13 x15).fin.a), .int .i64 ((block13 x15).fin.to), .slice adpr (((block13 x15).fin.args).length) cappr, .int .i64 ((block13 x15).fin.els), .slice adqr (((block13 x15).fin.elses).length) capqr] 32 (0, 0)), (b6, .cells #[.string f.name, .int .i64 f.bind, .int .i64 f.params, .slice adv c2 capv] 24 (0, 0)), (b3, .cells #[.string ⟨#[]⟩, .int .i64 0, .int .i64 0, .slice none 0 0] 24 (0, 0)), (b1, .cells #[.string f.name, .int .i64 f.bind, .int .i64 f.params, .slice adbF f.blocks.length capbF] 24 (0, 0))]) 0 rfl rfl rfl rfl siz_32 rfl rfl rfl rfl rfl hS ?_
  clear hS; intro w20 hS
  refine WL.nil (N.seq ?_)
  refine W.cut (α := Int) (fun (tt : Int) => [(1, .pointer (some ⟨b1, 0, none⟩)), (2, .pointer (some ⟨b3, 0, none⟩)), (3, .slice adst ((reached13 f).length) capst), (4, .pointer (some ⟨b6, 0, none⟩)), (5, .int .i64 (k : Int)), (6, .pointer (some ⟨b18, 0, none⟩))]) (fun (tt : Int) u => St w w16 u (roFrom R2 w11 w16) [(b18, .cells #[.int .i64 ((block13 x15).params), .slice adir (((block13 x15).ins).length) capir, .int .i64 ((block13 x15).fin.kind), .int .i64 ((block13 x15).fin.a), .int .i64 tt, .slice adpr (((block13 x15).fin.args).length) cappr, .int .i64 ((block13 x15).fin.els), .slice adqr (((block13 x15).fin.elses).length) capqr] 32 (0, 0)), (b6, .cells #[.string f.name, .int .i64 f.bind, .int .i64 f.params, .slice adv c2 capv] 24 (0, 0)), (b3, .cells #[.string ⟨#[]⟩, .int .i64 0, .int .i64 0, .slice none 0 0] 24 (0, 0)), (b1, .cells #[.string f.name, .int .i64 f.bind, .int .i64 f.params, .slice adbF f.blocks.length capbF] 24 (0, 0))] [⟨.slice adv c2 capv, 32, 8, c2, cs⟩] ∧ tt = if (block13 x15).fin.kind = 3 then (block13 x15).fin.to else num13 (reached13 f) (block13 x15).fin.to) ?_ ?_
  ·
   refine W.seq (W.region (WL.fieldAddr fo_32_2 rfl rfl rfl (WL.fieldAddr fo_30_0 rfl rfl rfl (WL.load1 (v := .int .i64 ((block13 x15).fin.kind)) one_3 rfl rfl rfl (hS.cell 0 rfl rfl) (WL.bin rfl rfl rfl rfl rfl (WL.nil (N.seq ?_)))))))
   refine W.cond rfl (fun hc21 => ?_) (fun hc21 => ?_)
   ·
    have hc21p : ¬ ((block13 x15).fin.kind = 3) := by simpa using hc21
    refine W.region (WL.move rfl rfl rfl (WL.fieldAddr fo_32_2 rfl rfl rfl (WL.fieldAddr fo_30_2 rfl rfl rfl (WL.load1 (v := .int .i64 ((block13 x15).fin.to)) one_3 rfl rfl rfl (hS.cell 0 rfl rfl) ?_))))
    refine WL.callF (vs := [.slice adst ((reached13 f).length) capst, .int .i64 ((block13 x15).fin.to)]) Try.func42 (by kernel_rfl) rfl rfl rfl (number13_ret (reached13 f) _ (block13 x15).fin.to (ro := (roFrom R2 w11 w16)) (fun b hb => (hS.snap b hb).1) (SlV.keep hsv hS.alike fun _ _ h => h) (by have h := hgx.1 (by omega); omega) (by omega)) ?_
    rintro v w22 ⟨rfl, hbl⟩
    replace hS := hS.grow hbl
    refine WL.fieldAddr fo_32_2 rfl rfl rfl (WL.fieldAddr fo_30_2 rfl rfl rfl ?_)
    refine WL.store (L' := [(b18, .cells #[.int .i64 ((block13 x15).params), .slice adir (((block13 x15).ins).length) capir, .int .i64 ((block13 x15).fin.kind), .int .i64 ((block13 x15).fin.a), .int .i64 (num13 (reached13 f) (block13 x15).fin.to), .slice adpr (((block13 x15).fin.args).length) cappr, .int .i64 ((block13 x15).fin.els), .slice adqr (((block13 x15).fin.elses).length) capqr] 32 (0, 0)), (b6, .cells #[.string f.name, .int .i64 f.bind, .int .i64 f.params, .slice adv c2 capv] 24 (0, 0)), (b3, .cells #[.string ⟨#[]⟩, .int .i64 0, .int .i64 0, .slice none 0 0] 24 (0, 0)), (b1, .cells #[.string f.name, .int .i64 f.bind, .int .i64 f.params, .slice adbF f.blocks.length capbF] 24 (0, 0))]) 0 rfl rfl rfl rfl siz_3 rfl rfl rfl rfl rfl hS ?_
    clear hS; intro w23 hS
    refine WL.nil ?_
    exact N.cut (num13 (reached13 f) (block13 x15).fin.to) ⟨rfl, rfl, rfl, rfl, rfl, rfl, trivial⟩ ⟨hS, by rw [if_neg (by omega)]⟩
   have hc21p : (block13 x15).fin.kind = 3 := by simpa using hc21
   refine W.skip ?_
   exact N.cut ((block13 x15).fin.to) ⟨rfl, rfl, rfl, rfl, rfl, rfl, trivial⟩ ⟨hS, by rw [if_pos (by omega)]⟩
  clear hS
  rintro tt w24 ⟨hS, htt⟩
  refine W.cut (α := Int) (fun (ee : Int) => [(1, .pointer (some ⟨b1, 0, none⟩)), (2, .pointer (some ⟨b3, 0, none⟩)), (3, .slice adst ((reached13 f).length) capst), (4, .pointer (some ⟨b6, 0, none⟩)), (5, .int .i64 (k : Int)), (6, .pointer (some ⟨b18, 0, none⟩))]) (fun (ee : Int) u => St w w16 u (roFrom R2 w11 w16) [(b18, .cells #[.int .i64 ((block13 x15).params), .slice adir (((block13 x15).ins).length) capir, .int .i64 ((block13 x15).fin.kind), .int .i64 ((block13 x15).fin.a), .int .i64 tt, .slice adpr (((block13 x15).fin.args).length) cappr, .int .i64 ee, .slice adqr (((block13 x15).fin.elses).length) capqr] 32 (0, 0)), (b6, .cells #[.string f.name, .int .i64 f.bind, .int .i64 f.params, .slice adv c2 capv] 24 (0, 0)), (b3, .cells #[.string ⟨#[]⟩, .int .i64 0, .int .i64 0, .slice none 0 0] 24 (0, 0)), (b1, .cells #[.string f.name, .int .i64 f.bind, .int .i64 f.params, .slice adbF f.blocks.length capbF] 24 (0, 0))] [⟨.slice adv c2 capv, 32, 8, c2, cs⟩] ∧ ee = if (block13 x15).fin.kind = 2 then num13 (reached13 f) (block13 x15).fin.els else (block13 x15).fin.els) ?_ ?_
  ·
   refine W.seq (W.region (WL.fieldAddr fo_32_2 rfl rfl rfl (WL.fieldAddr fo_30_0 rfl rfl rfl (WL.load1 (v := .int .i64 ((block13 x15).fin.kind)) one_3 rfl rfl rfl (hS.cell 0 rfl rfl) (WL.bin rfl rfl rfl rfl rfl (WL.nil (N.seq ?_)))))))
   refine W.cond rfl (fun hc25 => ?_) (fun hc25 => ?_)
   ·
    have hc25p : (block13 x15).fin.kind = 2 := by simpa using hc25
    refine W.region (WL.move rfl rfl rfl (WL.fieldAddr fo_32_2 rfl rfl rfl (WL.fieldAddr fo_30_4 rfl rfl rfl (WL.load1 (v := .int .i64 ((block13 x15).fin.els)) one_3 rfl rfl rfl (hS.cell 0 rfl rfl) ?_))))
    refine WL.callF (vs := [.slice adst ((reached13 f).length) capst, .int .i64 ((block13 x15).fin.els)]) Try.func42 (by kernel_rfl) rfl rfl rfl (number13_ret (reached13 f) _ (block13 x15).fin.els (ro := (roFrom R2 w11 w16)) (fun b hb => (hS.snap b hb).1) (SlV.keep hsv hS.alike fun _ _ h => h) (by have h := hgx.2 (by omega); omega) (by omega)) ?_
    rintro v w26 ⟨rfl, hbl⟩
    replace hS := hS.grow hbl
    refine WL.fieldAddr fo_32_2 rfl rfl rfl (WL.fieldAddr fo_30_4 rfl rfl rfl ?_)
    refine WL.store (L' := [(b18, .cells #[.int .i64 ((block13 x15).params), .slice adir (((block13 x15).ins).length) capir, .int .i64 ((block13 x15).fin.kind), .int .i64 ((block13 x15).fin.a), .int .i64 tt, .slice adpr (((block13 x15).fin.args).length) cappr, .int .i64 (num13 (reached13 f) (block13 x15).fin.els), .slice adqr (((block13 x15).fin.elses).length) capqr] 32 (0, 0)), (b6, .cells #[.string f.name, .int .i64 f.bind, .int .i64 f.params, .slice adv c2 capv] 24 (0, 0)), (b3, .cells #[.string ⟨#[]⟩, .int .i64 0, .int .i64 0, .slice none 0 0] 24 (0, 0)), (b1, .cells #[.string f.name, .int .i64 f.bind, .int .i64 f.params, .slice adbF f.blocks.length capbF] 24 (0, 0))]) 0 rfl rfl rfl rfl siz_3 rfl rfl rfl rfl rfl hS ?_
    clear hS; intro w27 hS
    refine WL.nil ?_
    exact N.cut (num13 (reached13 f) (block13 x15).fin.els) ⟨rfl, rfl, rfl, rfl, rfl, rfl, trivial⟩ ⟨hS, by rw [if_pos (by omega)]⟩
   have hc25p : ¬ ((block13 x15).fin.kind = 2) := by simpa using hc25
   refine W.skip ?_
   exact N.cut ((block13 x15).fin.els) ⟨rfl, rfl, rfl, rfl, rfl, rfl, trivial⟩ ⟨hS, by rw [if_neg (by omega)]⟩
  clear hS
  rintro ee w28 ⟨hS, hee⟩
  refine W.region (WL.fieldAddr fo_24_3 rfl rfl rfl (WL.load1 (v := .slice adv c2 capv) one_22 rfl rfl rfl (hS.cell 1 rfl rfl) (WL.loadN (cs := [.int .i64 ((block13 x15).params), .slice adir (((block13 x15).ins).length) capir, .int .i64 ((block13 x15).fin.kind), .int .i64 ((block13 x15).fin.a), .int .i64 tt, .slice adpr (((block13 x15).fin.args).length) cappr, .int .i64 ee, .slice adqr (((block13 x15).fin.elses).length) capqr]) agg_32 rfl rfl rfl rfl (hS.cells 0 (m := 8) rfl rfl) ?_)))
  refine WL.buildSlice (ps := [(0, .agg #[.int .i64 ((block13 x15).params), .slice adir (((block13 x15).ins).length) capir, .int .i64 ((block13 x15).fin.kind), .int .i64 ((block13 x15).fin.a), .int .i64 tt, .slice adpr (((block13 x15).fin.args).length) cappr, .int .i64 ee, .slice adqr (((block13 x15).fin.elses).length) capqr])]) (cs := [.int .i64 ((block13 x15).params), .slice adir (((block13 x15).ins).length) capir, .int .i64 ((block13 x15).fin.kind), .int .i64 ((block13 x15).fin.a), .int .i64 tt, .slice adpr (((block13 x15).fin.args).length) cappr, .int .i64 ee, .slice adqr (((block13 x15).fin.elses).length) capqr]) Try.underlying22 (tyZero_spec zer_32) rfl rfl rfl rfl (by kernel_rfl) hS ?_
  clear hS; intro w30 b29 hb_b29 hS
  have hIC : BlockC (roFrom R2 w11 w16) w16 [.int .i64 ((block13 x15).params), .slice adir (((block13 x15).ins).length) capir, .int .i64 ((block13 x15).fin.kind), .int .i64 ((block13 x15).fin.a), .int .i64 tt, .slice adpr (((block13 x15).fin.args).length) cappr, .int .i64 ee, .slice adqr (((block13 x15).fin.elses).length) capqr] (blk13 (numAt (reached13 f) f.blocks.length).1 x15) := by rw [hbe, ← htt, ← hee]; exact ⟨_, _, rfl, hinr, ⟨_, _, rfl, ht1r, ht2r, htkr, htar, (show inI tt from by rw [htt]; split <;> first | exact httr | exact num_in (by omega) _), (show inI ee from by rw [hee]; split <;> first | exact hter | exact num_in (by omega) _)⟩, hparr⟩
  refine WL.append (r := ⟨.slice adv c2 capv, 32, 8, c2, cs⟩) (cs := [.int .i64 ((block13 x15).params), .slice adir (((block13 x15).ins).length) capir, .int .i64 ((block13 x15).fin.kind), .int .i64 ((block13 x15).fin.a), .int .i64 tt, .slice adpr (((block13 x15).fin.args).length) cappr, .int .i64 ee, .slice adqr (((block13 x15).fin.elses).length) capqr]) 112 Try.underlying22 (tyZero_spec zer_32) byt_32 rfl rfl rfl rfl rfl rfl rfl rfl rfl hS (by unfold maxLen; simp only; omega) (by simp only; omega) ?_
  clear hS; intro w31 v32 hn_v32 hS
  have hrow : w31.ownsRow w.heap.size 32 8 v32 (c2 + 1) _ := hS.rows _ List.mem_cons_self
  obtain ⟨av32, cv32, rfl, hc1_v32, hc2_v32, hc3_v32⟩ := row_shape hrow
  clear hrow
  refine WL.fieldAddr fo_24_3 rfl rfl rfl ?_
  refine WL.store (L' := [(b18, .cells #[.int .i64 ((block13 x15).params), .slice adir (((block13 x15).ins).length) capir, .int .i64 ((block13 x15).fin.kind), .int .i64 ((block13 x15).fin.a), .int .i64 tt, .slice adpr (((block13 x15).fin.args).length) cappr, .int .i64 ee, .slice adqr (((block13 x15).fin.elses).length) capqr] 32 (0, 0)), (b6, .cells #[.string f.name, .int .i64 f.bind, .int .i64 f.params, .slice av32 (c2 + 1) cv32] 24 (0, 0)), (b3, .cells #[.string ⟨#[]⟩, .int .i64 0, .int .i64 0, .slice none 0 0] 24 (0, 0)), (b1, .cells #[.string f.name, .int .i64 f.bind, .int .i64 f.params, .slice adbF f.blocks.length capbF] 24 (0, 0))]) 1 rfl rfl rfl rfl siz_22 rfl rfl rfl rfl rfl hS ?_
  clear hS; intro w33 hS
  refine WL.nil (N.blk (N.seq (W.region (WL.move rfl rfl rfl ?_))))
  refine WL.add (c := (k : Int) + 1) rfl rfl rfl rfl (rfl) (by omega) ?_
  refine WL.assign rfl rfl rfl (WL.nil ?_)
  have hS := hS.dropN 1
  have hsp := outs13_snoc (g := (numAt (reached13 f) f.blocks.length).1) hx15 hx13
  rw [if_pos (by have h3 := hc14; simp_all)] at hsp
  exact N.loop (k + 1, .slice av32 (c2 + 1) cv32, cs ++ ([.int .i64 ((block13 x15).params), .slice adir (((block13 x15).ins).length) capir, .int .i64 ((block13 x15).fin.kind), .int .i64 ((block13 x15).fin.a), .int .i64 tt, .slice adpr (((block13 x15).fin.args).length) cappr, .int .i64 ee, .slice adqr (((block13 x15).fin.elses).length) capqr] : List Value), c2 + 1, .slice adst ((reached13 f).length) capst, (roFrom R2 w11 w16), w16) ⟨rfl, rfl, rfl, rfl, rfl, trivial⟩ ⟨hS, by omega, by rw [hsp]; exact hch.snoc rfl hIC, by rw [hsp, List.length_append, ← hc2]; rfl, hsv, halL0, hsub⟩ (by first | omega | (simp only; omega))
 have hc12p : ¬ ((k : Int) < (f.blocks.length : Int)) := by simpa using hc12
 refine W.exit (X.seq (X.loop (X.blk (N.seq (W.seq (W.region (WL.loadN (cs := [.string f.name, .int .i64 f.bind, .int .i64 f.params, .slice adv c2 capv]) agg_24 rfl rfl rfl rfl (hS.cells 0 (m := 4) rfl rfl) ?_)))))))
 refine WL.store (L' := [(b6, .cells #[.string f.name, .int .i64 f.bind, .int .i64 f.params, .slice adv c2 capv] 24 (0, 0)), (b3, .cells #[.string f.name, .int .i64 f.bind, .int .i64 f.params, .slice adv c2 capv] 24 (0, 0)), (b1, .cells #[.string f.name, .int .i64 f.bind, .int .i64 f.params, .slice adbF f.blocks.length capbF] 24 (0, 0))]) 1 rfl rfl rfl rfl siz_24 rfl rfl rfl rfl rfl hS ?_
 clear hS; intro w34 hS
 refine WL.nil (N.seq ?_)
 refine Fin.retC rfl (v := .agg #[.string f.name, .int .i64 f.bind, .int .i64 f.params, .slice adv c2 capv]) rfl (tyAgg_run agg_24 (cs := [.string f.name, .int .i64 f.bind, .int .i64 f.params, .slice adv c2 capv]) rfl (hS.cells 1 (m := 4) rfl rfl)) ?_
 have hfin : Alike R2 ws2 (roFrom ro w w34) w34 := fun b hb => ⟨(hsub b hb).elim .inl (fun h => .inr ⟨h, (hS.snap b hb).1⟩), (hS.snap b hb).2⟩
 have hie : k = f.blocks.length := by omega
 have hfe : func13 f = ⟨f.name, f.bind, f.params, outs13 (numAt (reached13 f) f.blocks.length).1 (f.blocks.take k) ((reached13 f).take k)⟩ := by rw [hie, List.take_length, ← hul, List.take_length, hul]; rfl
 rw [hfe]
 refine ⟨_, rfl, ⟨_, rfl, row_slv (hS.rows _ List.mem_cons_self) (hch.mono fun _ _ h => h.keep hfin) hc2 (fun x hx => .inr ((hS.keys x (by simp only [keysOf, List.mem_append, List.mem_filterMap]; exact .inr ⟨_, List.mem_cons_self, hx⟩)).imp id (·.1))), hnmF, hbdF, hprF⟩, hS.below⟩

end Go.Proofs.Ytdlcmhkfglckfaa
