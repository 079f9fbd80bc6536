/-
  Contracts of layer 13 (trim). No condition beyond those that each theorem states.
-/
import Derived.Test.YtdlcmhkfglckfaaV6
import Derived.Test.YtdlcmhkfglckfaaIX4
namespace Go.Proofs.Ytdlcmhkfglckfaa
open Go.RowKit

theorem mix_same {α : Type} {k : Nat} {a b : List α} {x : α} (hl : a.length = b.length) (hk : k < b.length) (ha : a[k]? = some x) (hb : b[k]? = some x) : mixL k a b = mixL (k + 1) a b := by
  rw [← mix_set hl hk ha]
  apply List.ext_getElem?
  intro j
  rw [List.getElem?_set]
  by_cases e : k = j
  · subst e; rw [if_pos rfl, if_pos (by rw [mix_length hl (by omega)]; exact hk), mix_at hl hk, hb]
  · rw [if_neg e]

set_option maxRecDepth 10000 in
set_option maxHeartbeats 4000000 in
theorem tmod13_ret (m : DMod) (cm : List Value) {w : World} {ro : Nat → Prop} (hro : ∀ b, ro b → b < w.heap.size) (hx : ModC ro w cm m) (hok : okMod m) : Ret Try.prog 17 #[.agg cm.toArray] w fun v w' => ∃ cs, v = .agg cs.toArray ∧ ModC (roFrom ro w w') w' cs (mod13a m) ∧ Below w.heap.size w w' := by
 obtain ⟨sfM, sgM, rfl, hfsM, hgsM⟩ := id hx
 obtain ⟨adfM, capfM, rfl, hfsMa, hfsMb, hfsMc, hfsMd⟩ := id hfsM
 have hfsMm : m.funcs.length ≤ 9223372036854775807 := by have h1 := hfsMa; have h2 := hfsMb; unfold maxLen at h2; omega
 obtain ⟨adgM, capgM, rfl, hgsMa, hgsMb, hgsMc, hgsMd⟩ := id hgsM
 have hgsMm : m.globs.length ≤ 9223372036854775807 := by have h1 := hgsMa; have h2 := hgsMb; unfold maxLen at h2; omega
 refine Ret.enter (P := Try.prog) (n := 27) (args := [.agg #[.slice adfM m.funcs.length capfM, .slice adgM m.globs.length capgM]]) (σ := [(0, .agg #[.slice adfM m.funcs.length capfM, .slice adgM m.globs.length capgM])]) Try.func17 rfl rfl rfl rfl ?_
 have hS := St.start (ro := ro) hro
 have hlm : m.funcs.length * 56 ≤ 140737488351232 := by have h := hok.2.1; unfold reachBytes at h; omega
 have hsub : ∀ b, ro b → ro b ∨ w.heap.size ≤ b := fun _ h => .inl h
 refine W.seq (W.region ?_)
 refine WL.box (v := .agg #[.slice adfM m.funcs.length capfM, .slice adgM m.globs.length capgM]) (cs := [.slice adfM m.funcs.length capfM, .slice adgM m.globs.length capgM]) rfl rfl rfl rfl hS ?_
 clear hS; intro w2 b1 hb_b1 hS
 refine WL.alloc (tyZero_spec zer_46) rfl rfl hS ?_
 clear hS; intro w4 b3 hb_b3 hS
 refine WL.nil (N.seq (W.seq (W.region (WL.fieldAddr fo_46_0 rfl rfl rfl (WL.load1 (v := .slice adfM m.funcs.length capfM) one_43 rfl rfl rfl (hS.cell 1 rfl rfl) ?_)))))
 have hel3 : Elems ro w4 4 (FuncC ro w) adfM m.funcs := hfsMd.keep hS.alike (fun _ _ h => h)
 refine WL.callF (vs := [.slice adfM m.funcs.length capfM]) Try.func38 (by kernel_rfl) rfl rfl rfl (cloneFunc_ret adfM capfM m.funcs (ro := ro) (fun b hb => (hS.snap b hb).1) hel3 hfsMa hfsMc (fun _ _ h => one_func h) (by unfold maxLen; omega) (by omega)) ?_
 rintro v w5 ⟨ics, how, hics, hbl⟩
 replace hS := hS.callRow hbl how
 obtain ⟨adr, capr, rfl, hr1, hr2, hr3⟩ := row_shape how
 refine WL.fieldAddr fo_46_0 rfl rfl rfl ?_
 refine WL.store (L' := [(b3, .cells #[.slice none 0 0, .slice none 0 0] 46 (0, 0)), (b1, .cells #[.slice adr m.funcs.length capr, .slice adgM m.globs.length capgM] 46 (0, 0))]) 1 rfl rfl rfl rfl siz_43 rfl rfl rfl rfl rfl hS ?_
 clear hS; intro w6 hS
 refine WL.nil (N.seq (W.seq (W.seq (W.region (WL.fieldAddr fo_46_0 rfl rfl rfl (WL.load1 (v := .slice adr m.funcs.length capr) one_43 rfl rfl rfl (hS.cell 1 rfl rfl) (WL.lenSlice Try.underlying43 rfl rfl rfl (WL.move rfl rfl rfl (WL.nil ?_)))))))))
 refine N.seq (W.block ?_)
 refine W.loop (α := Nat × List Value × (Nat → Prop) × World) (fun ⟨k, cs, R2, ws2⟩ => [(1, .pointer (some ⟨b1, 0, none⟩)), (2, .pointer (some ⟨b3, 0, none⟩)), (10, .slice adr m.funcs.length capr), (11, .int .i64 (m.funcs.length : Int)), (12, .int .i64 (k : Int))]) (fun ⟨k, cs, R2, ws2⟩ u => St w ws2 u R2 [(b3, .cells #[.slice none 0 0, .slice none 0 0] 46 (0, 0)), (b1, .cells #[.slice adr m.funcs.length capr, .slice adgM m.globs.length capgM] 46 (0, 0))] [⟨.slice adr m.funcs.length capr, 24, 4, m.funcs.length, cs⟩] ∧ k ≤ m.funcs.length ∧ Chunks 4 (FuncC R2 ws2) cs (mixL k (m.funcs.map fun13a) m.funcs) ∧ Alike ro w R2 ws2 ∧ (∀ b, R2 b → ro b ∨ w.heap.size ≤ b)) (fun ⟨k, cs, R2, ws2⟩ => m.funcs.length - k) (0, ics, ro, w) ⟨rfl, rfl, rfl, rfl, rfl, trivial⟩ ⟨hS, Nat.zero_le _, by simpa [mixL] using hics, Alike.refl, hsub⟩ ?_
 clear hS
 rintro ⟨k, cs, R2, ws2⟩ w7 ⟨hS, hk, hch, halL0, hsub⟩
 replace hx := hx.keep halL0
 replace hgsM := SlV.keep hgsM halL0 (fun _ _ h => h)
 refine W.seq (W.region (WL.bin rfl rfl rfl rfl rfl (WL.nil (N.seq (W.seq ?_)))))
 refine W.cond rfl (fun hc8 => ?_) (fun hc8 => ?_)
 ·
  have hc8p : (k : Int) < (m.funcs.length : Int) := by simpa using hc8
  refine W.skip (N.seq (W.seq (W.block (W.seq (W.region (WL.move rfl rfl rfl ?_))))))
  obtain ⟨gr, rfl⟩ : ∃ g, adr = some ⟨g, 0, none⟩ := row_some (hS.rows _ List.mem_cons_self) (show m.funcs.length ≠ 0 by omega)
  have hsv : SlV (fun x => x < w7.heap.size) w7 4 (FuncC R2 ws2) (.slice (some ⟨gr, 0, none⟩) m.funcs.length capr) (mixL k (m.funcs.map fun13a) m.funcs) := row_slv (hS.rows _ List.mem_cons_self) hch (by rw [mix_length (by simp) hk]) (fun x hx => (hS.keys x (by simp only [keysOf, List.mem_append, List.mem_filterMap]; exact .inr ⟨_, List.mem_cons_self, hx⟩)).2.1)
  obtain ⟨ade, cape, e_, _, _, _, hele⟩ := hsv; injection e_ with e1 e2 e3; subst e1
  obtain ⟨xf, hxf⟩ : ∃ zz, m.funcs[k]? = some zz := ⟨_, List.getElem?_eq_getElem (by omega)⟩
  obtain ⟨bf, of_, csf, hEf, hrf, hlf, hcf, hQf⟩ := hele k xf (by rw [mix_at (by simp) (by omega)]; exact hxf)
  obtain ⟨sbf, rfl, hblf, hnmf, hbdf, hprf⟩ := id hQf
  obtain ⟨adbf, capbf, rfl, hbkfa, hbkfb, hbkfc, hbkfd⟩ := id hblf
  have hbkfm : xf.blocks.length ≤ 9223372036854775807 := by have h1 := hbkfa; have h2 := hbkfb; unfold maxLen at h2; omega
  refine WL.indexAddrE (j := k) Try.underlying43 isz_24 rfl rfl rfl rfl (by omega) hEf (WL.loadN (cs := [.string xf.name, .int .i64 xf.bind, .int .i64 xf.params, .slice adbf xf.blocks.length capbf]) agg_24 rfl rfl rfl rfl hcf ?_)
  refine WL.alloc (tyZero_spec zer_24) rfl rfl hS ?_
  clear hS; intro w10 b9 hb_b9 hS
  refine WL.assign rfl rfl rfl ?_
  refine WL.store (L' := [(b9, .cells #[.string xf.name, .int .i64 xf.bind, .int .i64 xf.params, .slice adbf xf.blocks.length capbf] 24 (0, 0)), (b3, .cells #[.slice none 0 0, .slice none 0 0] 46 (0, 0)), (b1, .cells #[.slice (some ⟨gr, 0, none⟩) m.funcs.length capr, .slice adgM m.globs.length capgM] 46 (0, 0))]) 0 rfl rfl rfl rfl siz_24 rfl rfl rfl rfl rfl hS ?_
  clear hS; intro w11 hS
  refine WL.nil (N.seq (W.seq (W.region (WL.loadN (cs := [.string xf.name, .int .i64 xf.bind, .int .i64 xf.params, .slice adbf xf.blocks.length capbf]) agg_24 rfl rfl rfl rfl (hS.cells 0 (m := 4) rfl rfl) ?_))))
  refine WL.callF (vs := [.agg #[.string xf.name, .int .i64 xf.bind, .int .i64 xf.params, .slice adbf xf.blocks.length capbf]]) Try.func39 (by kernel_rfl) rfl rfl rfl (xfunc_ret xf _ (ro := R2) (fun b hb => (hS.snap b hb).1) (hQf.keep hS.alike) (hok.1 _ (List.mem_of_getElem? hxf))) ?_
  rintro v w12 ⟨rfl, hbl⟩
  replace hS := hS.grow hbl
  refine WL.nil (N.seq ?_)
  refine W.cond rfl (fun hc13 => ?_) (fun hc13 => ?_)
  ·
   have h5f : func5 xf = true := hc13
   refine W.drawP (by kernel_rfl) 6 [(fun v _ => v = .pointer (some ⟨b1, 0, none⟩)), (fun v _ => v = .slice (some ⟨gr, 0, none⟩) m.funcs.length capr), (fun v _ => v = .int .i64 (k : Int)), (fun v _ => v = .agg #[.string xf.name, .int .i64 xf.bind, .int .i64 xf.params, .slice adbf xf.blocks.length capbf]), (fun v u => ∃ cs, v = .agg cs.toArray ∧ FuncC (fun b => (R2 b ∨ w12.heap.size ≤ b) ∧ b < u.heap.size) u cs (func13 xf)), (fun v _ => v = .pointer (some ⟨gr, 0 + k * 4, none⟩))] (by kernel_rfl) rfl (by kernel_rfl) [(1, .pointer (some ⟨b1, 0, none⟩)), (2, .pointer (some ⟨b3, 0, none⟩)), (3, .int .i64 (k : Int)), (4, .pointer (some ⟨b9, 0, none⟩)), (10, .slice (some ⟨gr, 0, none⟩) m.funcs.length capr), (11, .int .i64 (m.funcs.length : Int)), (12, .int .i64 (k : Int))] ⟨rfl, rfl, rfl, rfl, rfl, rfl, rfl, trivial⟩ rfl ⟨stays_eq, stays_eq, stays_eq, stays_eq, stays_func (R := R2) (B := w12.heap.size), stays_eq, trivial⟩ ?_ ?_
   ·
    refine And.intro (fun β wd hb hD => ?_) ?_
    ·
     refine WL.sub (σ' := [(1, .pointer (some ⟨b1, 0, none⟩))]) ⟨rfl, trivial⟩ ?_
     have hS := hS.grow hb
     refine WL.fieldAddr fo_46_0 rfl rfl rfl ?_
     exact WL.nil (N.cut (.pointer (some ⟨b1, 0, none⟩)) ⟨rfl, trivial⟩ ⟨(Below.refl _ _), rfl⟩)
    refine And.intro (fun β wd hb hD => ?_) ?_
    ·
     obtain ⟨hp0, _⟩ := hD
     replace hp0 : β 0 = .pointer (some ⟨b1, 0, none⟩) := hp0
     refine WL.sub (σ' := [(19, .pointer (some ⟨b1, 0, none⟩))]) ⟨congrArg some hp0, trivial⟩ ?_
     have hS := hS.grow hb
     refine WL.load1 (v := .slice (some ⟨gr, 0, none⟩) m.funcs.length capr) one_43 rfl rfl rfl (hS.cell 2 rfl rfl) ?_
     exact WL.nil (N.cut (.slice (some ⟨gr, 0, none⟩) m.funcs.length capr) ⟨rfl, trivial⟩ ⟨(Below.refl _ _), rfl⟩)
    refine And.intro (fun β wd hb hD => ?_) ?_
    ·
     refine WL.sub (σ' := [(3, .int .i64 (k : Int))]) ⟨rfl, trivial⟩ ?_
     have hS := hS.grow hb
     refine WL.move rfl rfl rfl ?_
     exact WL.nil (N.cut (.int .i64 (k : Int)) ⟨rfl, trivial⟩ ⟨(Below.refl _ _), rfl⟩)
    refine And.intro (fun β wd hb hD => ?_) ?_
    ·
     refine WL.sub (σ' := [(4, .pointer (some ⟨b9, 0, none⟩))]) ⟨rfl, trivial⟩ ?_
     have hS := hS.grow hb
     refine WL.loadN (cs := [.string xf.name, .int .i64 xf.bind, .int .i64 xf.params, .slice adbf xf.blocks.length capbf]) agg_24 rfl rfl rfl rfl (hS.cells 0 (m := 4) rfl rfl) ?_
     exact WL.nil (N.cut (.agg #[.string xf.name, .int .i64 xf.bind, .int .i64 xf.params, .slice adbf xf.blocks.length capbf]) ⟨rfl, trivial⟩ ⟨(Below.refl _ _), rfl⟩)
    refine And.intro (fun β wd hb hD => ?_) ?_
    ·
     obtain ⟨hp3, _⟩ := hD
     replace hp3 : β 3 = .agg #[.string xf.name, .int .i64 xf.bind, .int .i64 xf.params, .slice adbf xf.blocks.length capbf] := hp3
     refine WL.sub (σ' := [(22, .agg #[.string xf.name, .int .i64 xf.bind, .int .i64 xf.params, .slice adbf xf.blocks.length capbf])]) ⟨congrArg some hp3, trivial⟩ ?_
     have hS := hS.grow hb
     refine WL.callF (vs := [.agg #[.string xf.name, .int .i64 xf.bind, .int .i64 xf.params, .slice adbf xf.blocks.length capbf]]) Try.func13 (by kernel_rfl) rfl rfl rfl (func13_ret xf _ (ro := R2) (fun b hb => (hS.snap b hb).1) (hQf.keep hS.alike) (goes13_of5 h5f) (fun b hb => ok13_of5 h5f hb) (by have := (func5_all h5f).1; omega)) ?_
     rintro v w14 ⟨csq, rfl, hF, hbl⟩
     replace hS := hS.grow hbl
     exact WL.nil (N.cut (.agg csq.toArray) ⟨rfl, trivial⟩ ⟨hbl, ⟨csq, rfl, hF.keep (fun b hb2 => ⟨⟨hb2.elim .inl (fun h => .inr (Nat.le_trans hb.size h.1)), hb2.elim (fun h => by first | exact (hS.snap b h).1 | exact Nat.lt_of_lt_of_le (hS.snap b h).1 hbl.size) (·.2)⟩, rfl⟩)⟩⟩)
    refine And.intro (fun β wd hb hD => ?_) ?_
    ·
     obtain ⟨hp1, hp2, _, _, _, _, _, _⟩ := hD
     replace hp1 : β 1 = .slice (some ⟨gr, 0, none⟩) m.funcs.length capr := hp1
     replace hp2 : β 2 = .int .i64 (k : Int) := hp2
     refine WL.sub (σ' := [(20, .slice (some ⟨gr, 0, none⟩) m.funcs.length capr), (21, .int .i64 (k : Int))]) ⟨congrArg some hp1, congrArg some hp2, trivial⟩ ?_
     have hS := hS.grow hb
     refine WL.indexAddr (j := k) Try.underlying43 isz_24 rfl rfl rfl rfl (by omega) ?_
     exact WL.nil (N.cut (.pointer (some ⟨gr, 0 + k * 4, none⟩)) ⟨rfl, trivial⟩ ⟨(Below.refl _ _), rfl⟩)
    trivial
   intro β w15 hb hD
   obtain ⟨hp0, hp1, hp2, hp3, hp4, hp5, _⟩ := hD
   refine WL.sub (σ' := [(1, .pointer (some ⟨b1, 0, none⟩)), (2, .pointer (some ⟨b3, 0, none⟩)), (3, .int .i64 (k : Int)), (4, .pointer (some ⟨b9, 0, none⟩)), (10, .slice (some ⟨gr, 0, none⟩) m.funcs.length capr), (11, .int .i64 (m.funcs.length : Int)), (12, .int .i64 (k : Int)), (19, .pointer (some ⟨b1, 0, none⟩)), (20, .slice (some ⟨gr, 0, none⟩) m.funcs.length capr), (21, .int .i64 (k : Int)), (22, .agg #[.string xf.name, .int .i64 xf.bind, .int .i64 xf.params, .slice adbf xf.blocks.length capbf]), (23, (β 4)), (24, .pointer (some ⟨gr, 0 + k * 4, none⟩))]) ⟨rfl, rfl, rfl, rfl, rfl, rfl, rfl, congrArg some (show β 0 = .pointer (some ⟨b1, 0, none⟩) from hp0), congrArg some (show β 1 = .slice (some ⟨gr, 0, none⟩) m.funcs.length capr from hp1), congrArg some (show β 2 = .int .i64 (k : Int) from hp2), congrArg some (show β 3 = .agg #[.string xf.name, .int .i64 xf.bind, .int .i64 xf.params, .slice adbf xf.blocks.length capbf] from hp3), rfl, congrArg some (show β 5 = .pointer (some ⟨gr, 0 + k * 4, none⟩) from hp5), trivial⟩ ?_
   have hSd := hS
   replace hS := hS.grow hb
   replace hp4 : (fun v u => ∃ cs, v = .agg cs.toArray ∧ FuncC (fun b => (R2 b ∨ w12.heap.size ≤ b) ∧ b < u.heap.size) u cs (func13 xf)) (β 4) w15 := hp4
   generalize β 4 = z4 at hp4 ⊢
   have hal16 := hSd.alikeTo hb (ro' := (roFrom R2 w12 w15)) (fun b hb => .inl hb)
   replace hsub : ∀ b, (roFrom R2 w12 w15) b → ro b ∨ w.heap.size ≤ b := fun b hb => hb.elim (hsub b) (fun h => .inr (Nat.le_trans hSd.below.size h.1))
   replace halL0 := halL0.trans hal16
   replace hx := hx.keep hal16
   replace hgsM := SlV.keep hgsM hal16 (fun _ _ h => h)
   replace hch := hch.mono fun _ _ h => h.keep hal16
   replace hS := hSd.readNew hb
   obtain ⟨csr, rfl, hB⟩ := hp4
   replace hB : FuncC (roFrom R2 w12 w15) w15 csr (func13 xf) := hB.keep (fun b hb2 => ⟨hb2.1.elim .inl (fun h => .inr ⟨h, hb2.2⟩), rfl⟩)
   obtain ⟨sbr, rfl, hblr, hnmr, hbdr, hprr⟩ := id hB
   obtain ⟨adbr, capbr, rfl, hbkra, hbkrb, hbkrc, hbkrd⟩ := id hblr
   have hbkrm : ((func13 xf).blocks).length ≤ 9223372036854775807 := by have h1 := hbkra; have h2 := hbkrb; unfold maxLen at h2; omega
   refine WL.storeRow (cs := [.string ((func13 xf).name), .int .i64 ((func13 xf).bind), .int .i64 ((func13 xf).params), .slice adbr (((func13 xf).blocks).length) capbr]) rfl rfl rfl rfl siz_24 rfl hS (by simp only [List.length_cons, List.length_nil]; omega) ?_
   clear hS; intro w17 hS
   have hB2 : FuncC (roFrom R2 w12 w15) w15 [.string ((func13 xf).name), .int .i64 ((func13 xf).bind), .int .i64 ((func13 xf).params), .slice adbr (((func13 xf).blocks).length) capbr] (fun13a xf) := by unfold fun13a; rw [if_pos h5f]; exact hB
   have hset : Chunks 4 (FuncC (roFrom R2 w12 w15) w15) (cs.take (0 + k * 4) ++ ([.string ((func13 xf).name), .int .i64 ((func13 xf).bind), .int .i64 ((func13 xf).params), .slice adbr (((func13 xf).blocks).length) capbr] : List Value) ++ cs.drop (0 + k * 4 + 4)) (mixL (k + 1) (m.funcs.map fun13a) m.funcs) := by
    have h1 := hch.setAt (i := k) (by rw [mix_length (by simp) hk]; omega) rfl hB2
    rw [mix_set (by simp) (by omega) (by rw [List.getElem?_map, hxf]; rfl)] at h1
    simpa using h1
   refine WL.nil (N.blk (N.seq (W.region ?_)))
   refine WL.add (c := (k : Int) + 1) rfl rfl rfl rfl (rfl) (by omega) ?_
   refine WL.move rfl rfl rfl (WL.nil ?_)
   have hS := hS.dropN 1
   exact N.loop (k + 1, cs.take (0 + k * 4) ++ ([.string ((func13 xf).name), .int .i64 ((func13 xf).bind), .int .i64 ((func13 xf).params), .slice adbr (((func13 xf).blocks).length) capbr] : List Value) ++ cs.drop (0 + k * 4 + 4), (roFrom R2 w12 w15), w15) ⟨rfl, rfl, rfl, rfl, rfl, trivial⟩ ⟨hS, by omega, hset, halL0, hsub⟩ (by first | omega | (simp only; omega))
  refine W.skip (N.blk (N.seq (W.region ?_)))
  refine WL.add (c := (k : Int) + 1) rfl rfl rfl rfl (rfl) (by omega) ?_
  refine WL.move rfl rfl rfl (WL.nil ?_)
  have hS := hS.dropN 1
  have hset := hch; rw [mix_same (x := xf) (by simp) (by omega) (by rw [List.getElem?_map, hxf]; unfold fun13a; simp [hc13]) hxf] at hset
  exact N.loop (k + 1, cs, R2, ws2) ⟨rfl, rfl, rfl, rfl, rfl, trivial⟩ ⟨hS, by omega, hset, halL0, hsub⟩ (by first | omega | (simp only; omega))
 have hc8p : ¬ ((k : Int) < (m.funcs.length : Int)) := by simpa using hc8
 refine W.exit (X.seq (X.loop (X.blk (N.seq (W.seq (W.region (WL.loadN (cs := [.slice adr m.funcs.length capr, .slice adgM m.globs.length capgM]) agg_46 rfl rfl rfl rfl (hS.cells 1 (m := 2) rfl rfl) ?_)))))))
 refine WL.store (L' := [(b3, .cells #[.slice adr m.funcs.length capr, .slice adgM m.globs.length capgM] 46 (0, 0)), (b1, .cells #[.slice adr m.funcs.length capr, .slice adgM m.globs.length capgM] 46 (0, 0))]) 0 rfl rfl rfl rfl siz_46 rfl rfl rfl rfl rfl hS ?_
 clear hS; intro w18 hS
 refine WL.nil (N.seq ?_)
 refine Fin.retC rfl (v := .agg #[.slice adr m.funcs.length capr, .slice adgM m.globs.length capgM]) rfl (tyAgg_run agg_46 (cs := [.slice adr m.funcs.length capr, .slice adgM m.globs.length capgM]) rfl (hS.cells 0 (m := 2) rfl rfl)) ?_
 have hfin : Alike R2 ws2 (roFrom ro w w18) w18 := fun b hb => ⟨(hsub b hb).elim .inl (fun h => .inr ⟨h, (hS.snap b hb).1⟩), (hS.snap b hb).2⟩
 have hke : k = m.funcs.length := by omega
 rw [hke, mix_full (by simp)] at hch
 exact ⟨_, rfl, ⟨_, _, rfl, row_slv (hS.rows _ List.mem_cons_self) (hch.mono fun _ _ h => h.keep hfin) (by simp [mod13a]) (fun x hx => .inr ((hS.keys x (by simp only [keysOf, List.mem_append, List.mem_filterMap]; exact .inr ⟨_, List.mem_cons_self, hx⟩)).imp id (·.1))), GlobsV.keep hgsM hfin⟩, hS.below⟩

end Go.Proofs.Ytdlcmhkfglckfaa
