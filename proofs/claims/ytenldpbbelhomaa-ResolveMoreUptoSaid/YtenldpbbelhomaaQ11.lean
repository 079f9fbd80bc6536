/-
  Contracts of layer 9 (resolve). No condition beyond those that each theorem states.
-/
import Derived.Test.YtenldpbbelhomaaN6
namespace Go.Proofs.Ytenldpbbelhomaa
open Go.RowKit
theorem byt_33 : (Try.prog.info? 33).map (·.bytes) = some 48 := by kernel_rfl
theorem one_mod {ro : Nat → Prop} {w : World} {c : List Value} {x : DMod} (h : ModC ro w c x) : ∀ u ∈ c, u.oneCell' = true := by
  obtain ⟨s, t, rfl, h1, h2⟩ := h
  intro u hu
  simp only [List.mem_cons, List.not_mem_nil, or_false] at hu
  rcases hu with rfl | rfl <;> first | exact slv_one h1 | exact slv_one h2

set_option maxRecDepth 10000 in
set_option maxHeartbeats 4000000 in
theorem resolveTurned_ret (ms : List DMod) (i0 k0 : Int) (vx : Value) {w : World} {ro : Nat → Prop} (hro : ∀ b, ro b → b < w.heap.size) (hx : SlV ro w 2 (ModC ro w) vx ms) (hml : ms.length ≤ 1048576) (hmx : (items9 ms).length ≤ 1048576) : Ret Try.prog 4 #[vx, .int .i64 i0, .int .i64 k0] w fun v w' => v = .bool true ∧ Below w.heap.size w w' := by
 have hxo := hx
 obtain ⟨adl, capl, rfl, hla, hlb, hlc, hld⟩ := hxo
 have hlm : ms.length ≤ 9223372036854775807 := slv_len hx
 refine Ret.enter (P := Try.prog) (n := 153) (args := [.slice adl ms.length capl, .int .i64 i0, .int .i64 k0]) (σ := [(0, .slice adl ms.length capl), (1, .int .i64 i0), (2, .int .i64 k0)]) Try.func4 rfl rfl rfl rfl ?_
 have hS := St.start (ro := ro) hro
 have hsub : ∀ b, ro b → ro b ∨ w.heap.size ≤ b := fun _ h => .inl h
 have halT : Alike ro w ro w := Alike.refl
 refine W.seq ?_
 refine W.region ?_
 refine WL.assign rfl rfl rfl ?_
 refine WL.nil ?_
 refine N.seq ?_
 refine W.seq ?_
 refine W.region ?_
 refine WL.callF (vs := []) Try.func9 (by kernel_rfl) rfl rfl rfl (shown_ret) ?_
 rintro v w1 ⟨rfl, hbl⟩
 replace hS := hS.grow hbl
 refine WL.assign rfl rfl rfl ?_
 refine WL.nil ?_
 refine N.seq ?_
 refine W.seq ?_
 refine W.seq ?_
 refine W.region ?_
 refine WL.move rfl rfl rfl ?_
 refine WL.bin rfl rfl rfl rfl rfl ?_
 refine WL.move rfl rfl rfl ?_
 rcases (Bool.eq_false_or_eq_true (decide (i0 < 0))).symm with hg2 | hg2
 ·
  refine WL.set 18 (v' := .bool false) rfl (by rw [hg2]) ?_
  refine WL.set 19 (v' := .bool false) rfl (by rw [hg2]) ?_
  have hg2p : ¬ (i0 < 0) := by simpa using hg2
  refine WL.move rfl rfl rfl ?_
  refine WL.bin rfl rfl rfl rfl rfl ?_
  refine WL.pick (v := .bool (decide (k0 < 0))) rfl rfl rfl rfl rfl rfl ?_
  refine WL.move rfl rfl rfl ?_
  rcases (Bool.eq_false_or_eq_true (decide (k0 < 0))).symm with hg3 | hg3
  ·
   refine WL.set 21 (v' := .bool false) rfl (by rw [hg3]) ?_
   refine WL.set 22 (v' := .bool false) rfl (by rw [hg3]) ?_
   refine WL.set 23 (v' := .bool false) rfl (by rw [hg3]) ?_
   have hg3p : ¬ (k0 < 0) := by simpa using hg3
   refine WL.move rfl rfl rfl ?_
   refine WL.move rfl rfl rfl ?_
   refine WL.lenSlice Try.underlying22 rfl rfl rfl ?_
   refine WL.bin rfl rfl rfl rfl rfl ?_
   refine WL.pick (v := .bool (decide ((ms.length : Int) ≤ i0))) rfl rfl rfl rfl rfl rfl ?_
   refine WL.move rfl rfl rfl ?_
   rcases (Bool.eq_false_or_eq_true (decide ((ms.length : Int) ≤ i0))).symm with hg4 | hg4
   ·
    refine WL.set 27 (v' := .bool false) rfl (by rw [hg4]) ?_
    refine WL.set 28 (v' := .bool false) rfl (by rw [hg4]) ?_
    refine WL.set 29 (v' := .bool false) rfl (by rw [hg4]) ?_
    have hg4p : ¬ ((ms.length : Int) ≤ i0) := by simpa using hg4
    refine WL.move rfl rfl rfl ?_
    refine WL.move rfl rfl rfl ?_
    refine WL.lenSlice Try.underlying22 rfl rfl rfl ?_
    refine WL.bin rfl rfl rfl rfl rfl ?_
    refine WL.pick (v := .bool (decide ((ms.length : Int) ≤ k0))) rfl rfl rfl rfl rfl rfl ?_
    refine WL.nil ?_
    refine N.seq ?_
    refine W.cond rfl (fun hc5 => ?_) (fun hc5 => ?_)
    ·
     have hc5p : (ms.length : Int) ≤ k0 := by simpa using hc5
     refine W.seq ?_
     refine W.region ?_
     refine WL.move rfl rfl rfl ?_
     refine WL.assign rfl rfl rfl ?_
     refine WL.nil ?_
     refine N.seq ?_
     refine Fin.ret1 rfl (v := .bool true) rfl ?_
     exact ⟨rfl, hS.below⟩
    have hc5p : ¬ ((ms.length : Int) ≤ k0) := by simpa using hc5
    refine W.skip ?_
    refine N.seq ?_
    refine W.seq ?_
    refine W.region ?_
    refine WL.buildSlice0 Try.underlying22 isz_33 rfl rfl hS ?_
    clear hS; intro w7 b6 hS
    refine WL.move rfl rfl rfl ?_
    obtain ⟨news, hchn, hnw, hsp⟩ := elems_news hld
    refine WL.appendRo (r := ⟨.slice (some ⟨b6, 0, none⟩) 0 0, 33, 2, 0, []⟩) (news := news) 48 Try.underlying22 (tyZero_spec zer_33) byt_33 rfl rfl rfl rfl rfl hchn.1 (fun e => ⟨by have := hlc e; omega, hlc e⟩) ?_ hsp (chunks_all hchn (by decide) (fun _ _ q => one_mod q)) rfl rfl hS (by simp only; unfold maxLen; omega) (by simp only; omega) ?_
    ·
     intro b off e
     by_cases hn0 : news = []
     ·
      subst hn0; intro j v hj; simp at hj
     exact hS.roCells ((hnw b off e).2 hn0) (hnw b off e).1
    clear hS; intro w8 v9 hS hnn
    rw [Nat.zero_add, List.nil_append] at hS
    have hrow : w8.ownsRow w.heap.size 33 2 v9 ms.length _ := hS.rows _ List.mem_cons_self
    obtain ⟨adO, capO, rfl, hO1, hO2, hO3⟩ := row_shape hrow
    clear hrow
    refine WL.assign rfl rfl rfl ?_
    refine WL.nil ?_
    refine N.seq ?_
    refine W.seq ?_
    have hi0 : i0.toNat < ms.length ∧ k0.toNat < ms.length ∧ (i0.toNat : Int) = i0 ∧ (k0.toNat : Int) = k0 := by omega
    obtain ⟨hil, hkl, hie, hke⟩ := hi0
    obtain ⟨xi, hxi⟩ : ∃ z, ms[i0.toNat]? = some z := ⟨_, List.getElem?_eq_getElem hil⟩
    obtain ⟨xk, hxk⟩ : ∃ z, ms[k0.toNat]? = some z := ⟨_, List.getElem?_eq_getElem hkl⟩
    have hperm := items9_turn hxi hxk
    obtain ⟨gO, rfl⟩ : ∃ g, adO = some ⟨g, 0, none⟩ := row_some (show w8.ownsRow w.heap.size 33 2 (.slice adO ms.length capO) ms.length _ from hS.rows _ List.mem_cons_self) (by omega)
    refine W.region ?_
    refine WL.move rfl rfl rfl ?_
    refine WL.move rfl rfl rfl ?_
    refine WL.move rfl rfl rfl ?_
    refine WL.move rfl rfl rfl ?_
    have hj10 : k0.toNat < ms.length := (List.getElem?_eq_some_iff.1 hxk).1
    have hx10 := hxk
    obtain ⟨b10, o10, cs10, hE10, hr10, hl10, hc10, hQ10⟩ := hld k0.toNat _ hxk
    obtain ⟨sf10, sg10, rfl, hfs10, hgs10⟩ := id hQ10
    obtain ⟨adf10, capf10, rfl, hfs10a, hfs10b, hfs10c, hfs10d⟩ := id hfs10
    have hfs10m : xk.funcs.length ≤ 9223372036854775807 := by have h1 := hfs10a; have h2 := hfs10b; unfold maxLen at h2; omega
    obtain ⟨adg10, capg10, rfl, hgs10a, hgs10b, hgs10c, hgs10d⟩ := id hgs10
    have hgs10m : xk.globs.length ≤ 9223372036854775807 := by have h1 := hgs10a; have h2 := hgs10b; unfold maxLen at h2; omega
    refine WL.set 42 (v' := .int .i64 (k0.toNat : Int)) rfl (by rw [hke]) ?_
    refine WL.indexAddrE (j := k0.toNat) Try.underlying22 isz_33 rfl rfl rfl rfl hj10 hE10 ?_
    refine WL.loadN (cs := [.slice adf10 xk.funcs.length capf10, .slice adg10 xk.globs.length capg10]) agg_33 rfl rfl rfl rfl (hS.roCells hr10 hc10) ?_
    refine WL.set 40 (v' := .int .i64 ((i0.toNat : Nat) : Int)) rfl (by rw [hie]) ?_
    refine WL.indexAddr (j := i0.toNat) Try.underlying22 isz_33 rfl rfl rfl rfl hil ?_
    have hle1 : (i0.toNat + 1) * 2 ≤ ms.length * 2 := Nat.mul_le_mul_right _ hil
    refine WL.storeRow (v := .agg #[.slice adf10 xk.funcs.length capf10, .slice adg10 xk.globs.length capg10]) (cs := [.slice adf10 xk.funcs.length capf10, .slice adg10 xk.globs.length capg10]) rfl rfl rfl rfl siz_33 rfl hS (by simp only [List.length_cons, List.length_nil]; omega) ?_
    clear hS; intro w11 hS
    have hch1 := hchn.setAt (i := i0.toNat) (c := [.slice adf10 xk.funcs.length capf10, .slice adg10 xk.globs.length capg10]) (x := xk) (by first | exact hil | (rw [List.length_set]; exact hil)) rfl hQ10
    obtain ⟨nw1, hnw1⟩ : ∃ z, z = news.take (i0.toNat * 2) ++ [.slice adf10 xk.funcs.length capf10, .slice adg10 xk.globs.length capg10] ++ news.drop (i0.toNat * 2 + 2) := ⟨_, rfl⟩
    rw [← hnw1] at hch1
    replace hS : St w w w11 ro [] [⟨.slice (some ⟨gO, 0, none⟩) ms.length capO, 33, 2, ms.length, nw1⟩] := by rw [hnw1]; simpa using hS
    refine WL.nil ?_
    refine N.seq ?_
    refine W.seq ?_
    refine W.region ?_
    refine WL.move rfl rfl rfl ?_
    refine WL.move rfl rfl rfl ?_
    refine WL.move rfl rfl rfl ?_
    refine WL.move rfl rfl rfl ?_
    have hj12 : i0.toNat < ms.length := (List.getElem?_eq_some_iff.1 hxi).1
    have hx12 := hxi
    obtain ⟨b12, o12, cs12, hE12, hr12, hl12, hc12, hQ12⟩ := hld i0.toNat _ hxi
    obtain ⟨sf12, sg12, rfl, hfs12, hgs12⟩ := id hQ12
    obtain ⟨adf12, capf12, rfl, hfs12a, hfs12b, hfs12c, hfs12d⟩ := id hfs12
    have hfs12m : xi.funcs.length ≤ 9223372036854775807 := by have h1 := hfs12a; have h2 := hfs12b; unfold maxLen at h2; omega
    obtain ⟨adg12, capg12, rfl, hgs12a, hgs12b, hgs12c, hgs12d⟩ := id hgs12
    have hgs12m : xi.globs.length ≤ 9223372036854775807 := by have h1 := hgs12a; have h2 := hgs12b; unfold maxLen at h2; omega
    refine WL.set 49 (v' := .int .i64 (i0.toNat : Int)) rfl (by rw [hie]) ?_
    refine WL.indexAddrE (j := i0.toNat) Try.underlying22 isz_33 rfl rfl rfl rfl hj12 hE12 ?_
    refine WL.loadN (cs := [.slice adf12 xi.funcs.length capf12, .slice adg12 xi.globs.length capg12]) agg_33 rfl rfl rfl rfl (hS.roCells hr12 hc12) ?_
    refine WL.set 47 (v' := .int .i64 ((k0.toNat : Nat) : Int)) rfl (by rw [hke]) ?_
    refine WL.indexAddr (j := k0.toNat) Try.underlying22 isz_33 rfl rfl rfl rfl hkl ?_
    have hle2 : (k0.toNat + 1) * 2 ≤ ms.length * 2 := Nat.mul_le_mul_right _ hkl
    refine WL.storeRow (v := .agg #[.slice adf12 xi.funcs.length capf12, .slice adg12 xi.globs.length capg12]) (cs := [.slice adf12 xi.funcs.length capf12, .slice adg12 xi.globs.length capg12]) rfl rfl rfl rfl siz_33 rfl hS (by simp only [List.length_cons, List.length_nil]; omega) ?_
    clear hS; intro w13 hS
    have hch2 := hch1.setAt (i := k0.toNat) (c := [.slice adf12 xi.funcs.length capf12, .slice adg12 xi.globs.length capg12]) (x := xi) (by first | exact hkl | (rw [List.length_set]; exact hkl)) rfl hQ12
    obtain ⟨nw2, hnw2⟩ : ∃ z, z = nw1.take (k0.toNat * 2) ++ [.slice adf12 xi.funcs.length capf12, .slice adg12 xi.globs.length capg12] ++ nw1.drop (k0.toNat * 2 + 2) := ⟨_, rfl⟩
    rw [← hnw2] at hch2
    replace hS : St w w w13 ro [] [⟨.slice (some ⟨gO, 0, none⟩) ms.length capO, 33, 2, ms.length, nw2⟩] := by rw [hnw2]; simpa using hS
    refine WL.nil ?_
    refine N.seq ?_
    refine W.seq ?_
    refine W.region ?_
    refine WL.move rfl rfl rfl ?_
    refine WL.callF (vs := [.slice adl ms.length capl]) Try.func10 (by kernel_rfl) rfl rfl rfl (all_ret ms _ (ro := ro) (fun b hb => (hS.snap b hb).1) (SlV.keep hx hS.alike (fun _ _ q => q.keep hS.alike)) hmx (items_ok hx)) ?_
    rintro v w14 ⟨sv, rfl, hdv, hbl⟩
    have hal15 := hS.alikeTo hbl (ro' := (roFrom ro w13 w14)) (fun b hb => .inl hb)
    replace hsub : ∀ b, (roFrom ro w13 w14) b → ro b ∨ w.heap.size ≤ b := fun b hb => hb.elim (hsub b) (fun h => .inr (Nat.le_trans hS.below.size h.1))
    replace halT := halT.trans hal15
    replace hld : Elems (roFrom ro w13 w14) w14 2 (ModC (roFrom ro w13 w14) w14) adl ms := hld.keep hal15 (fun _ _ h => h.keep hal15)
    replace hx : SlV (roFrom ro w13 w14) w14 2 (ModC (roFrom ro w13 w14) w14) (.slice adl ms.length capl) ms := SlV.keep hx hal15 (fun _ _ h => h.keep hal15)
    replace hchn := hchn.mono fun _ _ h => h.keep hal15
    replace hQ10 := hQ10.keep hal15
    replace hfs10d : Elems (roFrom ro w13 w14) w14 4 (FuncC (roFrom ro w13 w14) w14) adf10 xk.funcs := hfs10d.keep hal15 (fun _ _ h => h.keep hal15)
    replace hfs10 : SlV (roFrom ro w13 w14) w14 4 (FuncC (roFrom ro w13 w14) w14) (.slice adf10 xk.funcs.length capf10) xk.funcs := SlV.keep hfs10 hal15 (fun _ _ h => h.keep hal15)
    replace hgs10d : Elems (roFrom ro w13 w14) w14 4 GlobC adg10 xk.globs := hgs10d.keep hal15 (fun _ _ h => h)
    replace hgs10 : SlV (roFrom ro w13 w14) w14 4 GlobC (.slice adg10 xk.globs.length capg10) xk.globs := SlV.keep hgs10 hal15 (fun _ _ h => h)
    replace hch1 := hch1.mono fun _ _ h => h.keep hal15
    replace hQ12 := hQ12.keep hal15
    replace hfs12d : Elems (roFrom ro w13 w14) w14 4 (FuncC (roFrom ro w13 w14) w14) adf12 xi.funcs := hfs12d.keep hal15 (fun _ _ h => h.keep hal15)
    replace hfs12 : SlV (roFrom ro w13 w14) w14 4 (FuncC (roFrom ro w13 w14) w14) (.slice adf12 xi.funcs.length capf12) xi.funcs := SlV.keep hfs12 hal15 (fun _ _ h => h.keep hal15)
    replace hgs12d : Elems (roFrom ro w13 w14) w14 4 GlobC adg12 xi.globs := hgs12d.keep hal15 (fun _ _ h => h)
    replace hgs12 : SlV (roFrom ro w13 w14) w14 4 GlobC (.slice adg12 xi.globs.length capg12) xi.globs := SlV.keep hgs12 hal15 (fun _ _ h => h)
    replace hch2 := hch2.mono fun _ _ h => h.keep hal15
    replace hc10 := hc10.keep (hal15 _ hr10).2
    replace hr10 := (hal15 _ hr10).1
    replace hc12 := hc12.keep (hal15 _ hr12).2
    replace hr12 := (hal15 _ hr12).1
    replace hS := hS.readNew hbl
    obtain ⟨ds, hds⟩ : ∃ ds, ds = (all9 (items9 ms)).1 := ⟨_, rfl⟩
    rw [← hds] at hdv
    obtain ⟨add, capd, rfl, hda, hdb, hdc, hdd⟩ := id hdv
    have hdm : ds.length ≤ 9223372036854775807 := by have h1 := hda; have h2 := hdb; unfold maxLen at h2; omega
    refine WL.move rfl rfl rfl ?_
    refine WL.extract (v := .slice add ds.length capd) rfl rfl rfl rfl ?_
    refine WL.extract (v := .int .i64 ((all9 (items9 ms)).2)) rfl rfl rfl rfl ?_
    refine WL.assign rfl rfl rfl ?_
    refine WL.assign rfl rfl rfl ?_
    refine WL.nil ?_
    refine N.seq ?_
    refine W.seq ?_
    refine W.region ?_
    refine WL.move rfl rfl rfl ?_
    have hal16 := hS.giveRowAlike
    replace hsub : ∀ b, (fun x => (roFrom ro w13 w14) x ∨ (.slice (some ⟨gO, 0, none⟩) ms.length capO : Value).ownBlock = some x) b → ro b ∨ w.heap.size ≤ b := fun b hb => hb.elim (hsub b) (fun h => .inr (hS.giveRowLe b h))
    replace halT := halT.trans hal16
    replace hld : Elems (fun x => (roFrom ro w13 w14) x ∨ (.slice (some ⟨gO, 0, none⟩) ms.length capO : Value).ownBlock = some x) w14 2 (ModC (fun x => (roFrom ro w13 w14) x ∨ (.slice (some ⟨gO, 0, none⟩) ms.length capO : Value).ownBlock = some x) w14) adl ms := hld.keep hal16 (fun _ _ h => h.keep hal16)
    replace hx : SlV (fun x => (roFrom ro w13 w14) x ∨ (.slice (some ⟨gO, 0, none⟩) ms.length capO : Value).ownBlock = some x) w14 2 (ModC (fun x => (roFrom ro w13 w14) x ∨ (.slice (some ⟨gO, 0, none⟩) ms.length capO : Value).ownBlock = some x) w14) (.slice adl ms.length capl) ms := SlV.keep hx hal16 (fun _ _ h => h.keep hal16)
    replace hchn := hchn.mono fun _ _ h => h.keep hal16
    replace hQ10 := hQ10.keep hal16
    replace hfs10d : Elems (fun x => (roFrom ro w13 w14) x ∨ (.slice (some ⟨gO, 0, none⟩) ms.length capO : Value).ownBlock = some x) w14 4 (FuncC (fun x => (roFrom ro w13 w14) x ∨ (.slice (some ⟨gO, 0, none⟩) ms.length capO : Value).ownBlock = some x) w14) adf10 xk.funcs := hfs10d.keep hal16 (fun _ _ h => h.keep hal16)
    replace hfs10 : SlV (fun x => (roFrom ro w13 w14) x ∨ (.slice (some ⟨gO, 0, none⟩) ms.length capO : Value).ownBlock = some x) w14 4 (FuncC (fun x => (roFrom ro w13 w14) x ∨ (.slice (some ⟨gO, 0, none⟩) ms.length capO : Value).ownBlock = some x) w14) (.slice adf10 xk.funcs.length capf10) xk.funcs := SlV.keep hfs10 hal16 (fun _ _ h => h.keep hal16)
    replace hgs10d : Elems (fun x => (roFrom ro w13 w14) x ∨ (.slice (some ⟨gO, 0, none⟩) ms.length capO : Value).ownBlock = some x) w14 4 GlobC adg10 xk.globs := hgs10d.keep hal16 (fun _ _ h => h)
    replace hgs10 : SlV (fun x => (roFrom ro w13 w14) x ∨ (.slice (some ⟨gO, 0, none⟩) ms.length capO : Value).ownBlock = some x) w14 4 GlobC (.slice adg10 xk.globs.length capg10) xk.globs := SlV.keep hgs10 hal16 (fun _ _ h => h)
    replace hch1 := hch1.mono fun _ _ h => h.keep hal16
    replace hQ12 := hQ12.keep hal16
    replace hfs12d : Elems (fun x => (roFrom ro w13 w14) x ∨ (.slice (some ⟨gO, 0, none⟩) ms.length capO : Value).ownBlock = some x) w14 4 (FuncC (fun x => (roFrom ro w13 w14) x ∨ (.slice (some ⟨gO, 0, none⟩) ms.length capO : Value).ownBlock = some x) w14) adf12 xi.funcs := hfs12d.keep hal16 (fun _ _ h => h.keep hal16)
    replace hfs12 : SlV (fun x => (roFrom ro w13 w14) x ∨ (.slice (some ⟨gO, 0, none⟩) ms.length capO : Value).ownBlock = some x) w14 4 (FuncC (fun x => (roFrom ro w13 w14) x ∨ (.slice (some ⟨gO, 0, none⟩) ms.length capO : Value).ownBlock = some x) w14) (.slice adf12 xi.funcs.length capf12) xi.funcs := SlV.keep hfs12 hal16 (fun _ _ h => h.keep hal16)
    replace hgs12d : Elems (fun x => (roFrom ro w13 w14) x ∨ (.slice (some ⟨gO, 0, none⟩) ms.length capO : Value).ownBlock = some x) w14 4 GlobC adg12 xi.globs := hgs12d.keep hal16 (fun _ _ h => h)
    replace hgs12 : SlV (fun x => (roFrom ro w13 w14) x ∨ (.slice (some ⟨gO, 0, none⟩) ms.length capO : Value).ownBlock = some x) w14 4 GlobC (.slice adg12 xi.globs.length capg12) xi.globs := SlV.keep hgs12 hal16 (fun _ _ h => h)
    replace hch2 := hch2.mono fun _ _ h => h.keep hal16
    replace hdd : Elems (fun x => (roFrom ro w13 w14) x ∨ (.slice (some ⟨gO, 0, none⟩) ms.length capO : Value).ownBlock = some x) w14 5 DefC add ds := hdd.keep hal16 (fun _ _ h => h)
    replace hdv : SlV (fun x => (roFrom ro w13 w14) x ∨ (.slice (some ⟨gO, 0, none⟩) ms.length capO : Value).ownBlock = some x) w14 5 DefC (.slice add ds.length capd) ds := SlV.keep hdv hal16 (fun _ _ h => h)
    replace hc10 := hc10.keep (hal16 _ hr10).2
    replace hr10 := (hal16 _ hr10).1
    replace hc12 := hc12.keep (hal16 _ hr12).2
    replace hr12 := (hal16 _ hr12).1
    have hrow17 := hS.rows _ List.mem_cons_self
    replace hS := hS.giveRow
    have hsv : SlV (fun x => (roFrom ro w13 w14) x ∨ (.slice (some ⟨gO, 0, none⟩) ms.length capO : Value).ownBlock = some x) w14 2 (ModC (fun x => (roFrom ro w13 w14) x ∨ (.slice (some ⟨gO, 0, none⟩) ms.length capO : Value).ownBlock = some x) w14) (.slice (some ⟨gO, 0, none⟩) ms.length capO) (turn9 ms i0.toNat k0.toNat xi xk) := row_slv hrow17 hch2 (by simp [turn9]) (fun b hb => .inr hb)
    refine WL.callF (vs := [.slice (some ⟨gO, 0, none⟩) ms.length capO]) Try.func10 (by kernel_rfl) rfl rfl rfl (all_ret (turn9 ms i0.toNat k0.toNat xi xk) _ (ro := (fun x => (roFrom ro w13 w14) x ∨ (.slice (some ⟨gO, 0, none⟩) ms.length capO : Value).ownBlock = some x)) (fun b hb => (hS.snap b hb).1) (SlV.keep hsv hS.alike (fun _ _ q => q.keep hS.alike)) (by rw [hperm.length_eq, List.length_map]; exact hmx) (items_ok hsv)) ?_
    rintro v w18 ⟨sv2, rfl, hdv2, hbl⟩
    have hal19 := hS.alikeTo hbl (ro' := (roFrom (fun x => (roFrom ro w13 w14) x ∨ (.slice (some ⟨gO, 0, none⟩) ms.length capO : Value).ownBlock = some x) w14 w18)) (fun b hb => .inl hb)
    replace hsub : ∀ b, (roFrom (fun x => (roFrom ro w13 w14) x ∨ (.slice (some ⟨gO, 0, none⟩) ms.length capO : Value).ownBlock = some x) w14 w18) b → ro b ∨ w.heap.size ≤ b := fun b hb => hb.elim (hsub b) (fun h => .inr (Nat.le_trans hS.below.size h.1))
    replace halT := halT.trans hal19
    replace hld : Elems (roFrom (fun x => (roFrom ro w13 w14) x ∨ (.slice (some ⟨gO, 0, none⟩) ms.length capO : Value).ownBlock = some x) w14 w18) w18 2 (ModC (roFrom (fun x => (roFrom ro w13 w14) x ∨ (.slice (some ⟨gO, 0, none⟩) ms.length capO : Value).ownBlock = some x) w14 w18) w18) adl ms := hld.keep hal19 (fun _ _ h => h.keep hal19)
    replace hx : SlV (roFrom (fun x => (roFrom ro w13 w14) x ∨ (.slice (some ⟨gO, 0, none⟩) ms.length capO : Value).ownBlock = some x) w14 w18) w18 2 (ModC (roFrom (fun x => (roFrom ro w13 w14) x ∨ (.slice (some ⟨gO, 0, none⟩) ms.length capO : Value).ownBlock = some x) w14 w18) w18) (.slice adl ms.length capl) ms := SlV.keep hx hal19 (fun _ _ h => h.keep hal19)
    replace hchn := hchn.mono fun _ _ h => h.keep hal19
    replace hQ10 := hQ10.keep hal19
    replace hfs10d : Elems (roFrom (fun x => (roFrom ro w13 w14) x ∨ (.slice (some ⟨gO, 0, none⟩) ms.length capO : Value).ownBlock = some x) w14 w18) w18 4 (FuncC (roFrom (fun x => (roFrom ro w13 w14) x ∨ (.slice (some ⟨gO, 0, none⟩) ms.length capO : Value).ownBlock = some x) w14 w18) w18) adf10 xk.funcs := hfs10d.keep hal19 (fun _ _ h => h.keep hal19)
    replace hfs10 : SlV (roFrom (fun x => (roFrom ro w13 w14) x ∨ (.slice (some ⟨gO, 0, none⟩) ms.length capO : Value).ownBlock = some x) w14 w18) w18 4 (FuncC (roFrom (fun x => (roFrom ro w13 w14) x ∨ (.slice (some ⟨gO, 0, none⟩) ms.length capO : Value).ownBlock = some x) w14 w18) w18) (.slice adf10 xk.funcs.length capf10) xk.funcs := SlV.keep hfs10 hal19 (fun _ _ h => h.keep hal19)
    replace hgs10d : Elems (roFrom (fun x => (roFrom ro w13 w14) x ∨ (.slice (some ⟨gO, 0, none⟩) ms.length capO : Value).ownBlock = some x) w14 w18) w18 4 GlobC adg10 xk.globs := hgs10d.keep hal19 (fun _ _ h => h)
    replace hgs10 : SlV (roFrom (fun x => (roFrom ro w13 w14) x ∨ (.slice (some ⟨gO, 0, none⟩) ms.length capO : Value).ownBlock = some x) w14 w18) w18 4 GlobC (.slice adg10 xk.globs.length capg10) xk.globs := SlV.keep hgs10 hal19 (fun _ _ h => h)
    replace hch1 := hch1.mono fun _ _ h => h.keep hal19
    replace hQ12 := hQ12.keep hal19
    replace hfs12d : Elems (roFrom (fun x => (roFrom ro w13 w14) x ∨ (.slice (some ⟨gO, 0, none⟩) ms.length capO : Value).ownBlock = some x) w14 w18) w18 4 (FuncC (roFrom (fun x => (roFrom ro w13 w14) x ∨ (.slice (some ⟨gO, 0, none⟩) ms.length capO : Value).ownBlock = some x) w14 w18) w18) adf12 xi.funcs := hfs12d.keep hal19 (fun _ _ h => h.keep hal19)
    replace hfs12 : SlV (roFrom (fun x => (roFrom ro w13 w14) x ∨ (.slice (some ⟨gO, 0, none⟩) ms.length capO : Value).ownBlock = some x) w14 w18) w18 4 (FuncC (roFrom (fun x => (roFrom ro w13 w14) x ∨ (.slice (some ⟨gO, 0, none⟩) ms.length capO : Value).ownBlock = some x) w14 w18) w18) (.slice adf12 xi.funcs.length capf12) xi.funcs := SlV.keep hfs12 hal19 (fun _ _ h => h.keep hal19)
    replace hgs12d : Elems (roFrom (fun x => (roFrom ro w13 w14) x ∨ (.slice (some ⟨gO, 0, none⟩) ms.length capO : Value).ownBlock = some x) w14 w18) w18 4 GlobC adg12 xi.globs := hgs12d.keep hal19 (fun _ _ h => h)
    replace hgs12 : SlV (roFrom (fun x => (roFrom ro w13 w14) x ∨ (.slice (some ⟨gO, 0, none⟩) ms.length capO : Value).ownBlock = some x) w14 w18) w18 4 GlobC (.slice adg12 xi.globs.length capg12) xi.globs := SlV.keep hgs12 hal19 (fun _ _ h => h)
    replace hch2 := hch2.mono fun _ _ h => h.keep hal19
    replace hdd : Elems (roFrom (fun x => (roFrom ro w13 w14) x ∨ (.slice (some ⟨gO, 0, none⟩) ms.length capO : Value).ownBlock = some x) w14 w18) w18 5 DefC add ds := hdd.keep hal19 (fun _ _ h => h)
    replace hdv : SlV (roFrom (fun x => (roFrom ro w13 w14) x ∨ (.slice (some ⟨gO, 0, none⟩) ms.length capO : Value).ownBlock = some x) w14 w18) w18 5 DefC (.slice add ds.length capd) ds := SlV.keep hdv hal19 (fun _ _ h => h)
    replace hsv : SlV (roFrom (fun x => (roFrom ro w13 w14) x ∨ (.slice (some ⟨gO, 0, none⟩) ms.length capO : Value).ownBlock = some x) w14 w18) w18 2 (ModC (roFrom (fun x => (roFrom ro w13 w14) x ∨ (.slice (some ⟨gO, 0, none⟩) ms.length capO : Value).ownBlock = some x) w14 w18) w18) (.slice (some ⟨gO, 0, none⟩) ms.length capO) (turn9 ms i0.toNat k0.toNat xi xk) := SlV.keep hsv hal19 (fun _ _ h => h.keep hal19)
    replace hc10 := hc10.keep (hal19 _ hr10).2
    replace hr10 := (hal19 _ hr10).1
    replace hc12 := hc12.keep (hal19 _ hr12).2
    replace hr12 := (hal19 _ hr12).1
    replace hS := hS.readNew hbl
    obtain ⟨ds2, hds2⟩ : ∃ ds, ds = (all9 (items9 (turn9 ms i0.toNat k0.toNat xi xk))).1 := ⟨_, rfl⟩
    rw [← hds2] at hdv2
    obtain ⟨add2, capd2, rfl, hd2a, hd2b, hd2c, hd2d⟩ := id hdv2
    have hd2m : ds2.length ≤ 9223372036854775807 := by have h1 := hd2a; have h2 := hd2b; unfold maxLen at h2; omega
    refine WL.move rfl rfl rfl ?_
    refine WL.extract (v := .slice add2 ds2.length capd2) rfl rfl rfl rfl ?_
    refine WL.extract (v := .int .i64 ((all9 (items9 (turn9 ms i0.toNat k0.toNat xi xk))).2)) rfl rfl rfl rfl ?_
    refine WL.assign rfl rfl rfl ?_
    refine WL.assign rfl rfl rfl ?_
    refine WL.nil ?_
    refine N.seq ?_
    refine W.seq ?_
    refine W.seq ?_
    refine W.region ?_
    refine WL.move rfl rfl rfl ?_
    refine WL.move rfl rfl rfl ?_
    refine WL.bin rfl rfl rfl rfl rfl ?_
    refine WL.set 65 (v' := .bool false) rfl (by rw [decide_eq_true (all9_turn hperm).symm]; rfl) ?_
    refine WL.nil ?_
    refine N.seq ?_
    refine W.condF rfl ?_
    refine W.skip ?_
    refine N.seq ?_
    refine W.seq ?_
    refine W.seq ?_
    refine W.region ?_
    refine WL.assign rfl rfl rfl ?_
    refine WL.nil ?_
    refine N.seq ?_
    refine W.block ?_
    refine W.loop (α := Nat) (fun (n : Nat) => [(0, .slice adl ms.length capl), (1, .int .i64 i0), (2, .int .i64 k0), (7, .bool true), (8, .slice (some ⟨gO, 0, none⟩) ms.length capO), (9, .slice add ds.length capd), (10, .int .i64 ((all9 (items9 ms)).2)), (11, .slice add2 ds2.length capd2), (12, .int .i64 ((all9 (items9 (turn9 ms i0.toNat k0.toNat xi xk))).2)), (13, .int .i64 (n : Int)), (16, .bool true), (17, .int .i64 i0), (18, .bool false), (19, .bool false), (20, .int .i64 k0), (21, .bool false), (22, .bool false), (23, .bool false), (24, .int .i64 i0), (25, .slice adl ms.length capl), (26, .int .i64 (ms.length : Int)), (27, .bool false), (28, .bool false), (29, .bool false), (30, .int .i64 k0), (31, .slice adl ms.length capl), (32, .int .i64 (ms.length : Int)), (33, .bool (decide ((ms.length : Int) ≤ k0))), (34, .bool (decide ((ms.length : Int) ≤ k0))), (36, .slice (some ⟨b6, 0, none⟩) 0 0), (37, .slice adl ms.length capl), (38, .slice (some ⟨gO, 0, none⟩) ms.length capO), (39, .slice (some ⟨gO, 0, none⟩) ms.length capO), (40, .int .i64 (i0.toNat : Int)), (41, .slice adl ms.length capl), (42, .int .i64 (k0.toNat : Int)), (43, .pointer (some ⟨b10, o10 + k0.toNat * 2, none⟩)), (44, .agg #[.slice adf10 xk.funcs.length capf10, .slice adg10 xk.globs.length capg10]), (45, .pointer (some ⟨gO, 0 + i0.toNat * 2, none⟩)), (46, .slice (some ⟨gO, 0, none⟩) ms.length capO), (47, .int .i64 (k0.toNat : Int)), (48, .slice adl ms.length capl), (49, .int .i64 (i0.toNat : Int)), (50, .pointer (some ⟨b12, o12 + i0.toNat * 2, none⟩)), (51, .agg #[.slice adf12 xi.funcs.length capf12, .slice adg12 xi.globs.length capg12]), (52, .pointer (some ⟨gO, 0 + k0.toNat * 2, none⟩)), (53, .tuple #[.slice add ds.length capd, .int .i64 ((all9 (items9 ms)).2)]), (54, .slice adl ms.length capl), (55, .tuple #[.slice add ds.length capd, .int .i64 ((all9 (items9 ms)).2)]), (56, .slice add ds.length capd), (57, .int .i64 ((all9 (items9 ms)).2)), (58, .tuple #[.slice add2 ds2.length capd2, .int .i64 ((all9 (items9 (turn9 ms i0.toNat k0.toNat xi xk))).2)]), (59, .slice (some ⟨gO, 0, none⟩) ms.length capO), (60, .tuple #[.slice add2 ds2.length capd2, .int .i64 ((all9 (items9 (turn9 ms i0.toNat k0.toNat xi xk))).2)]), (61, .slice add2 ds2.length capd2), (62, .int .i64 ((all9 (items9 (turn9 ms i0.toNat k0.toNat xi xk))).2)), (63, .int .i64 ((all9 (items9 ms)).2)), (64, .int .i64 ((all9 (items9 (turn9 ms i0.toNat k0.toNat xi xk))).2)), (65, .bool false)]) (fun (n : Nat) u => St w w18 u (roFrom (fun x => (roFrom ro w13 w14) x ∨ (.slice (some ⟨gO, 0, none⟩) ms.length capO : Value).ownBlock = some x) w14 w18) [] [] ∧ n ≤ ds.length) (fun (n : Nat) => ds.length - n) 0 ⟨rfl, rfl, rfl, rfl, rfl, rfl, rfl, rfl, rfl, rfl, rfl, rfl, rfl, rfl, rfl, rfl, rfl, rfl, rfl, rfl, rfl, rfl, rfl, rfl, rfl, rfl, rfl, rfl, rfl, rfl, rfl, rfl, rfl, rfl, rfl, rfl, rfl, rfl, rfl, rfl, rfl, rfl, rfl, rfl, rfl, rfl, rfl, rfl, rfl, rfl, rfl, rfl, rfl, rfl, rfl, rfl, rfl, rfl, rfl, trivial⟩ ⟨hS, Nat.zero_le _⟩ ?_
    clear hS
    rintro n w20 ⟨hS, hn⟩
    refine W.seq ?_
    refine W.seq ?_
    refine W.region ?_
    refine WL.move rfl rfl rfl ?_
    refine WL.move rfl rfl rfl ?_
    refine WL.lenSlice Try.underlying24 rfl rfl rfl ?_
    refine WL.bin rfl rfl rfl rfl rfl ?_
    refine WL.nil ?_
    refine N.seq ?_
    refine W.cond rfl (fun hc21 => ?_) (fun hc21 => ?_)
    ·
     have hc21p : (n : Int) < (ds.length : Int) := by simpa using hc21
     refine W.skip ?_
     refine N.seq ?_
     refine W.seq ?_
     refine W.block ?_
     refine W.seq ?_
     have hj22 : n < ds.length := by omega
     obtain ⟨x22, hx22⟩ : ∃ zz, ds[n]? = some zz := ⟨_, List.getElem?_eq_getElem hj22⟩
     obtain ⟨b22, o22, cs22, hE22, hr22, hl22, hc22, hQ22⟩ := hdd n _ hx22
     obtain ⟨rfl, hdn22, hdm22⟩ := hQ22
     have hok : (all9 (items9 ms)).2 = 0 := by apply Classical.byContradiction; intro hno; have h := all9_bad hno; rw [← hds] at h; rw [h] at hj22; simp at hj22
     obtain ⟨j, d', hj1, hj2, hw, hh, hf, hmod⟩ := turned9 hxi hxk hok (d := x22) (by rw [← hds]; exact List.mem_of_getElem? hx22)
     rw [← hds2] at hj1 hj2
     refine W.region ?_
     refine WL.move rfl rfl rfl ?_
     refine WL.move rfl rfl rfl ?_
     refine WL.move rfl rfl rfl ?_
     refine WL.indexAddrE (j := n) Try.underlying24 isz_29 rfl rfl rfl rfl hj22 hE22 ?_
     refine WL.fieldAddr fo_29_0 rfl rfl rfl ?_
     refine WL.load1 (v := .string x22.name) one_9 rfl rfl rfl (hS.roCells hr22 hc22 0 _ rfl) ?_
     refine WL.callF (vs := [.slice add2 ds2.length capd2, .string x22.name]) Try.func11 (by kernel_rfl) rfl rfl rfl (find9_ret ds2 x22.name _ (ro := (roFrom (fun x => (roFrom ro w13 w14) x ∨ (.slice (some ⟨gO, 0, none⟩) ms.length capO : Value).ownBlock = some x) w14 w18)) (fun b hb => (hS.snap b hb).1) (SlV.keep hdv2 hS.alike (fun _ _ q => q))) ?_
     rintro v w23 ⟨rfl, hbl⟩
     replace hS := hS.grow hbl
     refine WL.set 78 (v' := .int .i64 (j : Int)) rfl (by rw [hj1]) ?_
     refine WL.assign rfl rfl rfl ?_
     refine WL.nil ?_
     refine N.seq ?_
     refine W.seq ?_
     refine W.seq ?_
     have hj24 : j < ds2.length := (List.getElem?_eq_some_iff.1 hj2).1
     have hx24 := hj2
     obtain ⟨b24, o24, cs24, hE24, hr24, hl24, hc24, hQ24⟩ := hd2d j _ hj2
     obtain ⟨rfl, hdn24, hdm24⟩ := hQ24
     have hn_weak : (x22.weak != d'.weak) = false := by rw [hw]; simp
     have hn_here : (x22.here != d'.here) = false := by rw [hh]; simp
     have hn_fn : (x22.fn != d'.fn) = false := by rw [hf]; simp
     refine W.drawL (by kernel_rfl) 41 ((.q (.int .i64 (j : Int))) :: (.q (.bool false)) :: (.q (.bool false)) :: (.q (.slice add ds.length capd)) :: (.q (.int .i64 (n : Int))) :: (.q (.pointer (some ⟨b22, o22 + n * 5, none⟩))) :: (.q (.pointer (some ⟨b22, o22 + n * 5 + 3, none⟩))) :: (.q (.bool x22.weak)) :: (.q (.slice add2 ds2.length capd2)) :: (.q (.int .i64 (j : Int))) :: (.q (.pointer (some ⟨b24, o24 + j * 5, none⟩))) :: (.q (.pointer (some ⟨b24, o24 + j * 5 + 3, none⟩))) :: (.q (.bool d'.weak)) :: (.q (.bool false)) :: (.q (.bool false)) :: (.q (.bool false)) :: (.q (.slice add ds.length capd)) :: (.q (.int .i64 (n : Int))) :: (.q (.pointer (some ⟨b22, o22 + n * 5, none⟩))) :: (.q (.pointer (some ⟨b22, o22 + n * 5 + 4, none⟩))) :: (.q (.bool x22.here)) :: (.q (.slice add2 ds2.length capd2)) :: (.q (.int .i64 (j : Int))) :: (.q (.pointer (some ⟨b24, o24 + j * 5, none⟩))) :: (.q (.pointer (some ⟨b24, o24 + j * 5 + 4, none⟩))) :: (.q (.bool d'.here)) :: (.q (.bool false)) :: (.q (.bool false)) :: (.q (.bool false)) :: (.q (.slice add ds.length capd)) :: (.q (.int .i64 (n : Int))) :: (.q (.pointer (some ⟨b22, o22 + n * 5, none⟩))) :: (.q (.pointer (some ⟨b22, o22 + n * 5 + 2, none⟩))) :: (.q (.bool x22.fn)) :: (.q (.slice add2 ds2.length capd2)) :: (.q (.int .i64 (j : Int))) :: (.q (.pointer (some ⟨b24, o24 + j * 5, none⟩))) :: (.q (.pointer (some ⟨b24, o24 + j * 5 + 2, none⟩))) :: (.q (.bool d'.fn)) :: (.q (.bool false)) :: (.q (.bool false)) :: []) (by kernel_rfl) (by kernel_rfl) [(0, .slice adl ms.length capl), (1, .int .i64 i0), (2, .int .i64 k0), (7, .bool true), (8, .slice (some ⟨gO, 0, none⟩) ms.length capO), (9, .slice add ds.length capd), (10, .int .i64 ((all9 (items9 ms)).2)), (11, .slice add2 ds2.length capd2), (12, .int .i64 ((all9 (items9 (turn9 ms i0.toNat k0.toNat xi xk))).2)), (13, .int .i64 (n : Int)), (14, .int .i64 (j : Int)), (16, .bool true), (17, .int .i64 i0), (18, .bool false), (19, .bool false), (20, .int .i64 k0), (21, .bool false), (22, .bool false), (23, .bool false), (24, .int .i64 i0), (25, .slice adl ms.length capl), (26, .int .i64 (ms.length : Int)), (27, .bool false), (28, .bool false), (29, .bool false), (30, .int .i64 k0), (31, .slice adl ms.length capl), (32, .int .i64 (ms.length : Int)), (33, .bool (decide ((ms.length : Int) ≤ k0))), (34, .bool (decide ((ms.length : Int) ≤ k0))), (36, .slice (some ⟨b6, 0, none⟩) 0 0), (37, .slice adl ms.length capl), (38, .slice (some ⟨gO, 0, none⟩) ms.length capO), (39, .slice (some ⟨gO, 0, none⟩) ms.length capO), (40, .int .i64 (i0.toNat : Int)), (41, .slice adl ms.length capl), (42, .int .i64 (k0.toNat : Int)), (43, .pointer (some ⟨b10, o10 + k0.toNat * 2, none⟩)), (44, .agg #[.slice adf10 xk.funcs.length capf10, .slice adg10 xk.globs.length capg10]), (45, .pointer (some ⟨gO, 0 + i0.toNat * 2, none⟩)), (46, .slice (some ⟨gO, 0, none⟩) ms.length capO), (47, .int .i64 (k0.toNat : Int)), (48, .slice adl ms.length capl), (49, .int .i64 (i0.toNat : Int)), (50, .pointer (some ⟨b12, o12 + i0.toNat * 2, none⟩)), (51, .agg #[.slice adf12 xi.funcs.length capf12, .slice adg12 xi.globs.length capg12]), (52, .pointer (some ⟨gO, 0 + k0.toNat * 2, none⟩)), (53, .tuple #[.slice add ds.length capd, .int .i64 ((all9 (items9 ms)).2)]), (54, .slice adl ms.length capl), (55, .tuple #[.slice add ds.length capd, .int .i64 ((all9 (items9 ms)).2)]), (56, .slice add ds.length capd), (57, .int .i64 ((all9 (items9 ms)).2)), (58, .tuple #[.slice add2 ds2.length capd2, .int .i64 ((all9 (items9 (turn9 ms i0.toNat k0.toNat xi xk))).2)]), (59, .slice (some ⟨gO, 0, none⟩) ms.length capO), (60, .tuple #[.slice add2 ds2.length capd2, .int .i64 ((all9 (items9 (turn9 ms i0.toNat k0.toNat xi xk))).2)]), (61, .slice add2 ds2.length capd2), (62, .int .i64 ((all9 (items9 (turn9 ms i0.toNat k0.toNat xi xk))).2)), (63, .int .i64 ((all9 (items9 ms)).2)), (64, .int .i64 ((all9 (items9 (turn9 ms i0.toNat k0.toNat xi xk))).2)), (65, .bool false), (66, .int .i64 (n : Int)), (67, .slice add ds.length capd), (68, .int .i64 (ds.length : Int)), (69, .bool (decide ((n : Int) < (ds.length : Int)))), (72, .slice add2 ds2.length capd2), (73, .slice add ds.length capd), (74, .int .i64 (n : Int)), (75, .pointer (some ⟨b22, o22 + n * 5, none⟩)), (76, .pointer (some ⟨b22, o22 + n * 5, none⟩)), (77, .string x22.name), (78, .int .i64 (j : Int))] ⟨rfl, rfl, rfl, rfl, rfl, rfl, rfl, rfl, rfl, rfl, rfl, rfl, rfl, rfl, rfl, rfl, rfl, rfl, rfl, rfl, rfl, rfl, rfl, rfl, rfl, rfl, rfl, rfl, rfl, rfl, rfl, rfl, rfl, rfl, rfl, rfl, rfl, rfl, rfl, rfl, rfl, rfl, rfl, rfl, rfl, rfl, rfl, rfl, rfl, rfl, rfl, rfl, rfl, rfl, rfl, rfl, rfl, rfl, rfl, rfl, rfl, rfl, rfl, rfl, rfl, rfl, rfl, rfl, rfl, rfl, rfl, trivial⟩ (by kernel_rfl) hS ?_ ?_
     ·
      refine And.intro (fun β w hS => ?_) ?_
      ·
       refine WL.sub (σ' := [(14, .int .i64 (j : Int))]) ⟨rfl, trivial⟩ ?_
       refine WL.move rfl rfl rfl ?_
       exact WL.nil (N.cut () ⟨rfl, trivial⟩ (Below.refl _ _))
      refine And.intro (fun β w hS => ?_) ?_
      ·
       refine WL.sub (σ' := [(79, .int .i64 (j : Int))]) ⟨rfl, trivial⟩ ?_
       refine WL.bin rfl rfl rfl rfl rfl ?_
       refine WL.set 80 (v' := .bool false) rfl (congrArg Value.bool (show (decide ((j : Int) < 0)) = false from decide_eq_false (by omega))) ?_
       exact WL.nil (N.cut () ⟨rfl, trivial⟩ (Below.refl _ _))
      refine And.intro (fun β w hS => ?_) ?_
      ·
       refine WL.sub (σ' := [(80, .bool false)]) ⟨rfl, trivial⟩ ?_
       refine WL.move rfl rfl rfl ?_
       exact WL.nil (N.cut () ⟨rfl, trivial⟩ (Below.refl _ _))
      refine And.intro (fun β w hS => ?_) ?_
      ·
       refine WL.sub (σ' := [(9, .slice add ds.length capd), (81, .bool false)]) ⟨rfl, rfl, trivial⟩ ?_
       refine WL.move rfl rfl rfl ?_
       exact WL.nil (N.cut () ⟨rfl, trivial⟩ (Below.refl _ _))
      refine And.intro (fun β w hS => ?_) ?_
      ·
       refine WL.sub (σ' := [(13, .int .i64 (n : Int)), (81, .bool false)]) ⟨rfl, rfl, trivial⟩ ?_
       refine WL.move rfl rfl rfl ?_
       exact WL.nil (N.cut () ⟨rfl, trivial⟩ (Below.refl _ _))
      refine And.intro (fun β w hS => ?_) ?_
      ·
       refine WL.sub (σ' := [(81, .bool false), (82, .slice add ds.length capd), (83, .int .i64 (n : Int))]) ⟨rfl, rfl, rfl, trivial⟩ ?_
       refine WL.indexAddrE (j := n) Try.underlying24 isz_29 rfl rfl rfl rfl hj22 hE22 ?_
       exact WL.nil (N.cut () ⟨rfl, trivial⟩ (Below.refl _ _))
      refine And.intro (fun β w hS => ?_) ?_
      ·
       refine WL.sub (σ' := [(81, .bool false), (84, .pointer (some ⟨b22, o22 + n * 5, none⟩))]) ⟨rfl, rfl, trivial⟩ ?_
       refine WL.fieldAddr fo_29_3 rfl rfl rfl ?_
       exact WL.nil (N.cut () ⟨rfl, trivial⟩ (Below.refl _ _))
      refine And.intro (fun β w hS => ?_) ?_
      ·
       refine WL.sub (σ' := [(81, .bool false), (85, .pointer (some ⟨b22, o22 + n * 5 + 3, none⟩))]) ⟨rfl, rfl, trivial⟩ ?_
       refine WL.load1 (v := .bool x22.weak) one_4 rfl rfl rfl (hS.roCells hr22 hc22 3 _ rfl) ?_
       exact WL.nil (N.cut () ⟨rfl, trivial⟩ (Below.refl _ _))
      refine And.intro (fun β w hS => ?_) ?_
      ·
       refine WL.sub (σ' := [(11, .slice add2 ds2.length capd2), (81, .bool false)]) ⟨rfl, rfl, trivial⟩ ?_
       refine WL.move rfl rfl rfl ?_
       exact WL.nil (N.cut () ⟨rfl, trivial⟩ (Below.refl _ _))
      refine And.intro (fun β w hS => ?_) ?_
      ·
       refine WL.sub (σ' := [(14, .int .i64 (j : Int)), (81, .bool false)]) ⟨rfl, rfl, trivial⟩ ?_
       refine WL.move rfl rfl rfl ?_
       exact WL.nil (N.cut () ⟨rfl, trivial⟩ (Below.refl _ _))
      refine And.intro (fun β w hS => ?_) ?_
      ·
       refine WL.sub (σ' := [(81, .bool false), (87, .slice add2 ds2.length capd2), (88, .int .i64 (j : Int))]) ⟨rfl, rfl, rfl, trivial⟩ ?_
       refine WL.indexAddrE (j := j) Try.underlying24 isz_29 rfl rfl rfl rfl hj24 hE24 ?_
       exact WL.nil (N.cut () ⟨rfl, trivial⟩ (Below.refl _ _))
      refine And.intro (fun β w hS => ?_) ?_
      ·
       refine WL.sub (σ' := [(81, .bool false), (89, .pointer (some ⟨b24, o24 + j * 5, none⟩))]) ⟨rfl, rfl, trivial⟩ ?_
       refine WL.fieldAddr fo_29_3 rfl rfl rfl ?_
       exact WL.nil (N.cut () ⟨rfl, trivial⟩ (Below.refl _ _))
      refine And.intro (fun β w hS => ?_) ?_
      ·
       refine WL.sub (σ' := [(81, .bool false), (90, .pointer (some ⟨b24, o24 + j * 5 + 3, none⟩))]) ⟨rfl, rfl, trivial⟩ ?_
       refine WL.load1 (v := .bool d'.weak) one_4 rfl rfl rfl (hS.roCells hr24 hc24 3 _ rfl) ?_
       exact WL.nil (N.cut () ⟨rfl, trivial⟩ (Below.refl _ _))
      refine And.intro (fun β w hS => ?_) ?_
      ·
       refine WL.sub (σ' := [(81, .bool false), (86, .bool x22.weak), (91, .bool d'.weak)]) ⟨rfl, rfl, rfl, trivial⟩ ?_
       refine WL.neBool Try.underlying4 rfl rfl rfl rfl ?_
       refine WL.set 92 (v' := .bool false) rfl (by rw [hn_weak]) ?_
       exact WL.nil (N.cut () ⟨rfl, trivial⟩ (Below.refl _ _))
      refine And.intro (fun β w hS => ?_) ?_
      ·
       refine WL.sub (σ' := [(81, .bool false), (92, .bool false)]) ⟨rfl, rfl, trivial⟩ ?_
       refine WL.pick (v := .bool false) rfl rfl rfl rfl rfl rfl ?_
       exact WL.nil (N.cut () ⟨rfl, trivial⟩ (Below.refl _ _))
      refine And.intro (fun β w hS => ?_) ?_
      ·
       refine WL.sub (σ' := [(93, .bool false)]) ⟨rfl, trivial⟩ ?_
       refine WL.move rfl rfl rfl ?_
       exact WL.nil (N.cut () ⟨rfl, trivial⟩ (Below.refl _ _))
      refine And.intro (fun β w hS => ?_) ?_
      ·
       refine WL.sub (σ' := [(9, .slice add ds.length capd), (94, .bool false)]) ⟨rfl, rfl, trivial⟩ ?_
       refine WL.move rfl rfl rfl ?_
       exact WL.nil (N.cut () ⟨rfl, trivial⟩ (Below.refl _ _))
      refine And.intro (fun β w hS => ?_) ?_
      ·
       refine WL.sub (σ' := [(13, .int .i64 (n : Int)), (94, .bool false)]) ⟨rfl, rfl, trivial⟩ ?_
       refine WL.move rfl rfl rfl ?_
       exact WL.nil (N.cut () ⟨rfl, trivial⟩ (Below.refl _ _))
      refine And.intro (fun β w hS => ?_) ?_
      ·
       refine WL.sub (σ' := [(94, .bool false), (95, .slice add ds.length capd), (96, .int .i64 (n : Int))]) ⟨rfl, rfl, rfl, trivial⟩ ?_
       refine WL.indexAddrE (j := n) Try.underlying24 isz_29 rfl rfl rfl rfl hj22 hE22 ?_
       exact WL.nil (N.cut () ⟨rfl, trivial⟩ (Below.refl _ _))
      refine And.intro (fun β w hS => ?_) ?_
      ·
       refine WL.sub (σ' := [(94, .bool false), (97, .pointer (some ⟨b22, o22 + n * 5, none⟩))]) ⟨rfl, rfl, trivial⟩ ?_
       refine WL.fieldAddr fo_29_4 rfl rfl rfl ?_
       exact WL.nil (N.cut () ⟨rfl, trivial⟩ (Below.refl _ _))
      refine And.intro (fun β w hS => ?_) ?_
      ·
       refine WL.sub (σ' := [(94, .bool false), (98, .pointer (some ⟨b22, o22 + n * 5 + 4, none⟩))]) ⟨rfl, rfl, trivial⟩ ?_
       refine WL.load1 (v := .bool x22.here) one_4 rfl rfl rfl (hS.roCells hr22 hc22 4 _ rfl) ?_
       exact WL.nil (N.cut () ⟨rfl, trivial⟩ (Below.refl _ _))
      refine And.intro (fun β w hS => ?_) ?_
      ·
       refine WL.sub (σ' := [(11, .slice add2 ds2.length capd2), (94, .bool false)]) ⟨rfl, rfl, trivial⟩ ?_
       refine WL.move rfl rfl rfl ?_
       exact WL.nil (N.cut () ⟨rfl, trivial⟩ (Below.refl _ _))
      refine And.intro (fun β w hS => ?_) ?_
      ·
       refine WL.sub (σ' := [(14, .int .i64 (j : Int)), (94, .bool false)]) ⟨rfl, rfl, trivial⟩ ?_
       refine WL.move rfl rfl rfl ?_
       exact WL.nil (N.cut () ⟨rfl, trivial⟩ (Below.refl _ _))
      refine And.intro (fun β w hS => ?_) ?_
      ·
       refine WL.sub (σ' := [(94, .bool false), (100, .slice add2 ds2.length capd2), (101, .int .i64 (j : Int))]) ⟨rfl, rfl, rfl, trivial⟩ ?_
       refine WL.indexAddrE (j := j) Try.underlying24 isz_29 rfl rfl rfl rfl hj24 hE24 ?_
       exact WL.nil (N.cut () ⟨rfl, trivial⟩ (Below.refl _ _))
      refine And.intro (fun β w hS => ?_) ?_
      ·
       refine WL.sub (σ' := [(94, .bool false), (102, .pointer (some ⟨b24, o24 + j * 5, none⟩))]) ⟨rfl, rfl, trivial⟩ ?_
       refine WL.fieldAddr fo_29_4 rfl rfl rfl ?_
       exact WL.nil (N.cut () ⟨rfl, trivial⟩ (Below.refl _ _))
      refine And.intro (fun β w hS => ?_) ?_
      ·
       refine WL.sub (σ' := [(94, .bool false), (103, .pointer (some ⟨b24, o24 + j * 5 + 4, none⟩))]) ⟨rfl, rfl, trivial⟩ ?_
       refine WL.load1 (v := .bool d'.here) one_4 rfl rfl rfl (hS.roCells hr24 hc24 4 _ rfl) ?_
       exact WL.nil (N.cut () ⟨rfl, trivial⟩ (Below.refl _ _))
      refine And.intro (fun β w hS => ?_) ?_
      ·
       refine WL.sub (σ' := [(94, .bool false), (99, .bool x22.here), (104, .bool d'.here)]) ⟨rfl, rfl, rfl, trivial⟩ ?_
       refine WL.neBool Try.underlying4 rfl rfl rfl rfl ?_
       refine WL.set 105 (v' := .bool false) rfl (by rw [hn_here]) ?_
       exact WL.nil (N.cut () ⟨rfl, trivial⟩ (Below.refl _ _))
      refine And.intro (fun β w hS => ?_) ?_
      ·
       refine WL.sub (σ' := [(94, .bool false), (105, .bool false)]) ⟨rfl, rfl, trivial⟩ ?_
       refine WL.pick (v := .bool false) rfl rfl rfl rfl rfl rfl ?_
       exact WL.nil (N.cut () ⟨rfl, trivial⟩ (Below.refl _ _))
      refine And.intro (fun β w hS => ?_) ?_
      ·
       refine WL.sub (σ' := [(106, .bool false)]) ⟨rfl, trivial⟩ ?_
       refine WL.move rfl rfl rfl ?_
       exact WL.nil (N.cut () ⟨rfl, trivial⟩ (Below.refl _ _))
      refine And.intro (fun β w hS => ?_) ?_
      ·
       refine WL.sub (σ' := [(9, .slice add ds.length capd), (107, .bool false)]) ⟨rfl, rfl, trivial⟩ ?_
       refine WL.move rfl rfl rfl ?_
       exact WL.nil (N.cut () ⟨rfl, trivial⟩ (Below.refl _ _))
      refine And.intro (fun β w hS => ?_) ?_
      ·
       refine WL.sub (σ' := [(13, .int .i64 (n : Int)), (107, .bool false)]) ⟨rfl, rfl, trivial⟩ ?_
       refine WL.move rfl rfl rfl ?_
       exact WL.nil (N.cut () ⟨rfl, trivial⟩ (Below.refl _ _))
      refine And.intro (fun β w hS => ?_) ?_
      ·
       refine WL.sub (σ' := [(107, .bool false), (108, .slice add ds.length capd), (109, .int .i64 (n : Int))]) ⟨rfl, rfl, rfl, trivial⟩ ?_
       refine WL.indexAddrE (j := n) Try.underlying24 isz_29 rfl rfl rfl rfl hj22 hE22 ?_
       exact WL.nil (N.cut () ⟨rfl, trivial⟩ (Below.refl _ _))
      refine And.intro (fun β w hS => ?_) ?_
      ·
       refine WL.sub (σ' := [(107, .bool false), (110, .pointer (some ⟨b22, o22 + n * 5, none⟩))]) ⟨rfl, rfl, trivial⟩ ?_
       refine WL.fieldAddr fo_29_2 rfl rfl rfl ?_
       exact WL.nil (N.cut () ⟨rfl, trivial⟩ (Below.refl _ _))
      refine And.intro (fun β w hS => ?_) ?_
      ·
       refine WL.sub (σ' := [(107, .bool false), (111, .pointer (some ⟨b22, o22 + n * 5 + 2, none⟩))]) ⟨rfl, rfl, trivial⟩ ?_
       refine WL.load1 (v := .bool x22.fn) one_4 rfl rfl rfl (hS.roCells hr22 hc22 2 _ rfl) ?_
       exact WL.nil (N.cut () ⟨rfl, trivial⟩ (Below.refl _ _))
      refine And.intro (fun β w hS => ?_) ?_
      ·
       refine WL.sub (σ' := [(11, .slice add2 ds2.length capd2), (107, .bool false)]) ⟨rfl, rfl, trivial⟩ ?_
       refine WL.move rfl rfl rfl ?_
       exact WL.nil (N.cut () ⟨rfl, trivial⟩ (Below.refl _ _))
      refine And.intro (fun β w hS => ?_) ?_
      ·
       refine WL.sub (σ' := [(14, .int .i64 (j : Int)), (107, .bool false)]) ⟨rfl, rfl, trivial⟩ ?_
       refine WL.move rfl rfl rfl ?_
       exact WL.nil (N.cut () ⟨rfl, trivial⟩ (Below.refl _ _))
      refine And.intro (fun β w hS => ?_) ?_
      ·
       refine WL.sub (σ' := [(107, .bool false), (113, .slice add2 ds2.length capd2), (114, .int .i64 (j : Int))]) ⟨rfl, rfl, rfl, trivial⟩ ?_
       refine WL.indexAddrE (j := j) Try.underlying24 isz_29 rfl rfl rfl rfl hj24 hE24 ?_
       exact WL.nil (N.cut () ⟨rfl, trivial⟩ (Below.refl _ _))
      refine And.intro (fun β w hS => ?_) ?_
      ·
       refine WL.sub (σ' := [(107, .bool false), (115, .pointer (some ⟨b24, o24 + j * 5, none⟩))]) ⟨rfl, rfl, trivial⟩ ?_
       refine WL.fieldAddr fo_29_2 rfl rfl rfl ?_
       exact WL.nil (N.cut () ⟨rfl, trivial⟩ (Below.refl _ _))
      refine And.intro (fun β w hS => ?_) ?_
      ·
       refine WL.sub (σ' := [(107, .bool false), (116, .pointer (some ⟨b24, o24 + j * 5 + 2, none⟩))]) ⟨rfl, rfl, trivial⟩ ?_
       refine WL.load1 (v := .bool d'.fn) one_4 rfl rfl rfl (hS.roCells hr24 hc24 2 _ rfl) ?_
       exact WL.nil (N.cut () ⟨rfl, trivial⟩ (Below.refl _ _))
      refine And.intro (fun β w hS => ?_) ?_
      ·
       refine WL.sub (σ' := [(107, .bool false), (112, .bool x22.fn), (117, .bool d'.fn)]) ⟨rfl, rfl, rfl, trivial⟩ ?_
       refine WL.neBool Try.underlying4 rfl rfl rfl rfl ?_
       refine WL.set 118 (v' := .bool false) rfl (by rw [hn_fn]) ?_
       exact WL.nil (N.cut () ⟨rfl, trivial⟩ (Below.refl _ _))
      refine And.intro (fun β w hS => ?_) ?_
      ·
       refine WL.sub (σ' := [(107, .bool false), (118, .bool false)]) ⟨rfl, rfl, trivial⟩ ?_
       refine WL.pick (v := .bool false) rfl rfl rfl rfl rfl rfl ?_
       exact WL.nil (N.cut () ⟨rfl, trivial⟩ (Below.refl _ _))
      trivial
     clear hS; intro w25 β hS
     refine WL.sub (σ' := [(0, .slice adl ms.length capl), (1, .int .i64 i0), (2, .int .i64 k0), (7, .bool true), (8, .slice (some ⟨gO, 0, none⟩) ms.length capO), (9, .slice add ds.length capd), (10, .int .i64 ((all9 (items9 ms)).2)), (11, .slice add2 ds2.length capd2), (12, .int .i64 ((all9 (items9 (turn9 ms i0.toNat k0.toNat xi xk))).2)), (13, .int .i64 (n : Int)), (14, .int .i64 (j : Int)), (16, .bool true), (17, .int .i64 i0), (18, .bool false), (19, .bool false), (20, .int .i64 k0), (21, .bool false), (22, .bool false), (23, .bool false), (24, .int .i64 i0), (25, .slice adl ms.length capl), (26, .int .i64 (ms.length : Int)), (27, .bool false), (28, .bool false), (29, .bool false), (30, .int .i64 k0), (31, .slice adl ms.length capl), (32, .int .i64 (ms.length : Int)), (33, .bool (decide ((ms.length : Int) ≤ k0))), (34, .bool (decide ((ms.length : Int) ≤ k0))), (36, .slice (some ⟨b6, 0, none⟩) 0 0), (37, .slice adl ms.length capl), (38, .slice (some ⟨gO, 0, none⟩) ms.length capO), (39, .slice (some ⟨gO, 0, none⟩) ms.length capO), (40, .int .i64 (i0.toNat : Int)), (41, .slice adl ms.length capl), (42, .int .i64 (k0.toNat : Int)), (43, .pointer (some ⟨b10, o10 + k0.toNat * 2, none⟩)), (44, .agg #[.slice adf10 xk.funcs.length capf10, .slice adg10 xk.globs.length capg10]), (45, .pointer (some ⟨gO, 0 + i0.toNat * 2, none⟩)), (46, .slice (some ⟨gO, 0, none⟩) ms.length capO), (47, .int .i64 (k0.toNat : Int)), (48, .slice adl ms.length capl), (49, .int .i64 (i0.toNat : Int)), (50, .pointer (some ⟨b12, o12 + i0.toNat * 2, none⟩)), (51, .agg #[.slice adf12 xi.funcs.length capf12, .slice adg12 xi.globs.length capg12]), (52, .pointer (some ⟨gO, 0 + k0.toNat * 2, none⟩)), (53, .tuple #[.slice add ds.length capd, .int .i64 ((all9 (items9 ms)).2)]), (54, .slice adl ms.length capl), (55, .tuple #[.slice add ds.length capd, .int .i64 ((all9 (items9 ms)).2)]), (56, .slice add ds.length capd), (57, .int .i64 ((all9 (items9 ms)).2)), (58, .tuple #[.slice add2 ds2.length capd2, .int .i64 ((all9 (items9 (turn9 ms i0.toNat k0.toNat xi xk))).2)]), (59, .slice (some ⟨gO, 0, none⟩) ms.length capO), (60, .tuple #[.slice add2 ds2.length capd2, .int .i64 ((all9 (items9 (turn9 ms i0.toNat k0.toNat xi xk))).2)]), (61, .slice add2 ds2.length capd2), (62, .int .i64 ((all9 (items9 (turn9 ms i0.toNat k0.toNat xi xk))).2)), (63, .int .i64 ((all9 (items9 ms)).2)), (64, .int .i64 ((all9 (items9 (turn9 ms i0.toNat k0.toNat xi xk))).2)), (65, .bool false), (66, .int .i64 (n : Int)), (67, .slice add ds.length capd), (68, .int .i64 (ds.length : Int)), (69, .bool (decide ((n : Int) < (ds.length : Int)))), (72, .slice add2 ds2.length capd2), (73, .slice add ds.length capd), (74, .int .i64 (n : Int)), (75, .pointer (some ⟨b22, o22 + n * 5, none⟩)), (76, .pointer (some ⟨b22, o22 + n * 5, none⟩)), (77, .string x22.name), (78, .int .i64 (j : Int)), (79, .int .i64 (j : Int)), (80, .bool false), (81, .bool false), (82, .slice add ds.length capd), (83, .int .i64 (n : Int)), (84, .pointer (some ⟨b22, o22 + n * 5, none⟩)), (85, .pointer (some ⟨b22, o22 + n * 5 + 3, none⟩)), (86, .bool x22.weak), (87, .slice add2 ds2.length capd2), (88, .int .i64 (j : Int)), (89, .pointer (some ⟨b24, o24 + j * 5, none⟩)), (90, .pointer (some ⟨b24, o24 + j * 5 + 3, none⟩)), (91, .bool d'.weak), (92, .bool false), (93, .bool false), (94, .bool false), (95, .slice add ds.length capd), (96, .int .i64 (n : Int)), (97, .pointer (some ⟨b22, o22 + n * 5, none⟩)), (98, .pointer (some ⟨b22, o22 + n * 5 + 4, none⟩)), (99, .bool x22.here), (100, .slice add2 ds2.length capd2), (101, .int .i64 (j : Int)), (102, .pointer (some ⟨b24, o24 + j * 5, none⟩)), (103, .pointer (some ⟨b24, o24 + j * 5 + 4, none⟩)), (104, .bool d'.here), (105, .bool false), (106, .bool false), (107, .bool false), (108, .slice add ds.length capd), (109, .int .i64 (n : Int)), (110, .pointer (some ⟨b22, o22 + n * 5, none⟩)), (111, .pointer (some ⟨b22, o22 + n * 5 + 2, none⟩)), (112, .bool x22.fn), (113, .slice add2 ds2.length capd2), (114, .int .i64 (j : Int)), (115, .pointer (some ⟨b24, o24 + j * 5, none⟩)), (116, .pointer (some ⟨b24, o24 + j * 5 + 2, none⟩)), (117, .bool d'.fn), (118, .bool false), (119, .bool false)]) (Sub.ofEq (by kernel_rfl)) ?_
     refine WL.nil ?_
     refine N.seq ?_
     refine W.condF rfl ?_
     refine W.skip ?_
     refine N.seq ?_
     refine W.seq ?_
     refine W.seq ?_
     refine W.region ?_
     refine WL.move rfl rfl rfl ?_
     refine WL.move rfl rfl rfl ?_
     refine WL.indexAddrE (j := n) Try.underlying24 isz_29 rfl rfl rfl rfl hj22 hE22 ?_
     refine WL.fieldAddr fo_29_3 rfl rfl rfl ?_
     refine WL.load1 (v := .bool x22.weak) one_4 rfl rfl rfl (hS.roCells hr22 hc22 3 _ rfl) ?_
     refine WL.nil ?_
     refine N.seq ?_
     refine W.cond rfl (fun hc26 => ?_) (fun hc26 => ?_)
     ·
      refine W.exit ?_
      refine X.seq ?_
      refine X.blk ?_
      refine N.seq ?_
      refine W.region ?_
      refine WL.move rfl rfl rfl ?_
      refine WL.add (c := (n : Int) + 1) rfl rfl rfl rfl (rfl) (by omega) ?_
      refine WL.assign rfl rfl rfl ?_
      refine WL.nil ?_
      exact N.loop (n + 1) ⟨rfl, rfl, rfl, rfl, rfl, rfl, rfl, rfl, rfl, rfl, rfl, rfl, rfl, rfl, rfl, rfl, rfl, rfl, rfl, rfl, rfl, rfl, rfl, rfl, rfl, rfl, rfl, rfl, rfl, rfl, rfl, rfl, rfl, rfl, rfl, rfl, rfl, rfl, rfl, rfl, rfl, rfl, rfl, rfl, rfl, rfl, rfl, rfl, rfl, rfl, rfl, rfl, rfl, rfl, rfl, rfl, rfl, rfl, rfl, trivial⟩ ⟨hS, by omega⟩ (by first | omega | (simp only; omega))
     refine W.skip ?_
     refine N.seq ?_
     refine W.seq ?_
     have htau := hmod (by simpa using hc26)
     refine W.region ?_
     refine WL.move rfl rfl rfl ?_
     refine WL.move rfl rfl rfl ?_
     refine WL.indexAddrE (j := j) Try.underlying24 isz_29 rfl rfl rfl rfl hj24 hE24 ?_
     refine WL.fieldAddr fo_29_1 rfl rfl rfl ?_
     refine WL.load1 (v := .int .i64 d'.mod) one_3 rfl rfl rfl (hS.roCells hr24 hc24 1 _ rfl) ?_
     refine WL.assign rfl rfl rfl ?_
     refine WL.nil ?_
     refine N.seq ?_
     refine W.seq ?_
     refine W.seq ?_
     refine W.region ?_
     refine WL.move rfl rfl rfl ?_
     refine WL.move rfl rfl rfl ?_
     refine WL.bin rfl rfl rfl rfl rfl ?_
     refine WL.nil ?_
     refine N.seq ?_
     refine W.cond rfl (fun hc27 => ?_) (fun hc27 => ?_)
     ·
      have hc27p : d'.mod = i0 := by simpa using hc27
      refine W.region ?_
      refine WL.move rfl rfl rfl ?_
      refine WL.assign rfl rfl rfl ?_
      refine WL.nil ?_
      refine N.seq ?_
      refine W.seq ?_
      refine W.region ?_
      refine WL.move rfl rfl rfl ?_
      refine WL.move rfl rfl rfl ?_
      refine WL.move rfl rfl rfl ?_
      refine WL.indexAddrE (j := n) Try.underlying24 isz_29 rfl rfl rfl rfl hj22 hE22 ?_
      refine WL.fieldAddr fo_29_1 rfl rfl rfl ?_
      refine WL.load1 (v := .int .i64 x22.mod) one_3 rfl rfl rfl (hS.roCells hr22 hc22 1 _ rfl) ?_
      refine WL.bin rfl rfl rfl rfl rfl ?_
      refine WL.set 144 (v' := .bool false) rfl (by rw [decide_eq_true (by unfold tau at htau; (repeat' split at htau) <;> omega)]; rfl) ?_
      refine WL.nil ?_
      refine N.seq ?_
      refine W.condF rfl ?_
      refine W.skip ?_
      refine N.blk ?_
      refine N.seq ?_
      refine W.region ?_
      refine WL.move rfl rfl rfl ?_
      refine WL.add (c := (n : Int) + 1) rfl rfl rfl rfl (rfl) (by omega) ?_
      refine WL.assign rfl rfl rfl ?_
      refine WL.nil ?_
      exact N.loop (n + 1) ⟨rfl, rfl, rfl, rfl, rfl, rfl, rfl, rfl, rfl, rfl, rfl, rfl, rfl, rfl, rfl, rfl, rfl, rfl, rfl, rfl, rfl, rfl, rfl, rfl, rfl, rfl, rfl, rfl, rfl, rfl, rfl, rfl, rfl, rfl, rfl, rfl, rfl, rfl, rfl, rfl, rfl, rfl, rfl, rfl, rfl, rfl, rfl, rfl, rfl, rfl, rfl, rfl, rfl, rfl, rfl, rfl, rfl, rfl, rfl, trivial⟩ ⟨hS, by omega⟩ (by first | omega | (simp only; omega))
     have hc27p : ¬ (d'.mod = i0) := by simpa using hc27
     refine W.seq ?_
     refine W.region ?_
     refine WL.move rfl rfl rfl ?_
     refine WL.move rfl rfl rfl ?_
     refine WL.bin rfl rfl rfl rfl rfl ?_
     refine WL.nil ?_
     refine N.seq ?_
     refine W.cond rfl (fun hc28 => ?_) (fun hc28 => ?_)
     ·
      have hc28p : d'.mod = k0 := by simpa using hc28
      refine W.region ?_
      refine WL.move rfl rfl rfl ?_
      refine WL.assign rfl rfl rfl ?_
      refine WL.nil ?_
      refine N.seq ?_
      refine W.seq ?_
      refine W.region ?_
      refine WL.move rfl rfl rfl ?_
      refine WL.move rfl rfl rfl ?_
      refine WL.move rfl rfl rfl ?_
      refine WL.indexAddrE (j := n) Try.underlying24 isz_29 rfl rfl rfl rfl hj22 hE22 ?_
      refine WL.fieldAddr fo_29_1 rfl rfl rfl ?_
      refine WL.load1 (v := .int .i64 x22.mod) one_3 rfl rfl rfl (hS.roCells hr22 hc22 1 _ rfl) ?_
      refine WL.bin rfl rfl rfl rfl rfl ?_
      refine WL.set 144 (v' := .bool false) rfl (by rw [decide_eq_true (by unfold tau at htau; (repeat' split at htau) <;> omega)]; rfl) ?_
      refine WL.nil ?_
      refine N.seq ?_
      refine W.condF rfl ?_
      refine W.skip ?_
      refine N.blk ?_
      refine N.seq ?_
      refine W.region ?_
      refine WL.move rfl rfl rfl ?_
      refine WL.add (c := (n : Int) + 1) rfl rfl rfl rfl (rfl) (by omega) ?_
      refine WL.assign rfl rfl rfl ?_
      refine WL.nil ?_
      exact N.loop (n + 1) ⟨rfl, rfl, rfl, rfl, rfl, rfl, rfl, rfl, rfl, rfl, rfl, rfl, rfl, rfl, rfl, rfl, rfl, rfl, rfl, rfl, rfl, rfl, rfl, rfl, rfl, rfl, rfl, rfl, rfl, rfl, rfl, rfl, rfl, rfl, rfl, rfl, rfl, rfl, rfl, rfl, rfl, rfl, rfl, rfl, rfl, rfl, rfl, rfl, rfl, rfl, rfl, rfl, rfl, rfl, rfl, rfl, rfl, rfl, rfl, trivial⟩ ⟨hS, by omega⟩ (by first | omega | (simp only; omega))
     have hc28p : ¬ (d'.mod = k0) := by simpa using hc28
     refine W.skip ?_
     refine N.seq ?_
     refine W.seq ?_
     refine W.region ?_
     refine WL.move rfl rfl rfl ?_
     refine WL.move rfl rfl rfl ?_
     refine WL.move rfl rfl rfl ?_
     refine WL.indexAddrE (j := n) Try.underlying24 isz_29 rfl rfl rfl rfl hj22 hE22 ?_
     refine WL.fieldAddr fo_29_1 rfl rfl rfl ?_
     refine WL.load1 (v := .int .i64 x22.mod) one_3 rfl rfl rfl (hS.roCells hr22 hc22 1 _ rfl) ?_
     refine WL.bin rfl rfl rfl rfl rfl ?_
     refine WL.set 144 (v' := .bool false) rfl (by rw [decide_eq_true (by unfold tau at htau; (repeat' split at htau) <;> omega)]; rfl) ?_
     refine WL.nil ?_
     refine N.seq ?_
     refine W.condF rfl ?_
     refine W.skip ?_
     refine N.blk ?_
     refine N.seq ?_
     refine W.region ?_
     refine WL.move rfl rfl rfl ?_
     refine WL.add (c := (n : Int) + 1) rfl rfl rfl rfl (rfl) (by omega) ?_
     refine WL.assign rfl rfl rfl ?_
     refine WL.nil ?_
     exact N.loop (n + 1) ⟨rfl, rfl, rfl, rfl, rfl, rfl, rfl, rfl, rfl, rfl, rfl, rfl, rfl, rfl, rfl, rfl, rfl, rfl, rfl, rfl, rfl, rfl, rfl, rfl, rfl, rfl, rfl, rfl, rfl, rfl, rfl, rfl, rfl, rfl, rfl, rfl, rfl, rfl, rfl, rfl, rfl, rfl, rfl, rfl, rfl, rfl, rfl, rfl, rfl, rfl, rfl, rfl, rfl, rfl, rfl, rfl, rfl, rfl, rfl, trivial⟩ ⟨hS, by omega⟩ (by first | omega | (simp only; omega))
    have hc21p : ¬ ((n : Int) < (ds.length : Int)) := by simpa using hc21
    refine W.exit ?_
    refine X.seq ?_
    refine X.loop ?_
    refine X.blk ?_
    refine N.seq ?_
    refine W.seq ?_
    refine W.region ?_
    refine WL.move rfl rfl rfl ?_
    refine WL.move rfl rfl rfl ?_
    refine WL.move rfl rfl rfl ?_
    refine WL.lenSlice Try.underlying24 rfl rfl rfl ?_
    refine WL.move rfl rfl rfl ?_
    refine WL.lenSlice Try.underlying24 rfl rfl rfl ?_
    refine WL.bin rfl rfl rfl rfl rfl ?_
    refine WL.set 151 (v' := .bool true) rfl (congrArg Value.bool (show (decide ((ds.length : Int) = (ds2.length : Int))) = true from decide_eq_true (by rw [hds, hds2, turned_len hperm]))) ?_
    refine WL.pick (v := .bool true) rfl rfl rfl rfl rfl rfl ?_
    refine WL.assign rfl rfl rfl ?_
    refine WL.nil ?_
    refine N.seq ?_
    refine Fin.ret1 rfl (v := .bool true) rfl ?_
    exact ⟨rfl, hS.below⟩
   refine WL.set 27 (v' := .bool true) rfl (by rw [hg4]) ?_
   refine WL.set 28 (v' := .bool true) rfl (by rw [hg4]) ?_
   refine WL.set 29 (v' := .bool true) rfl (by rw [hg4]) ?_
   have hg4p : (ms.length : Int) ≤ i0 := by simpa using hg4
   refine WL.skp rfl rfl ?_
   refine WL.skp rfl rfl ?_
   refine WL.skp rfl rfl ?_
   refine WL.skp rfl rfl ?_
   refine WL.pick (v := .bool true) rfl rfl rfl rfl rfl rfl ?_
   refine WL.nil ?_
   refine N.seq ?_
   refine W.condT rfl ?_
   refine W.seq ?_
   refine W.region ?_
   refine WL.move rfl rfl rfl ?_
   refine WL.assign rfl rfl rfl ?_
   refine WL.nil ?_
   refine N.seq ?_
   refine Fin.ret1 rfl (v := .bool true) rfl ?_
   exact ⟨rfl, hS.below⟩
  refine WL.set 21 (v' := .bool true) rfl (by rw [hg3]) ?_
  refine WL.set 22 (v' := .bool true) rfl (by rw [hg3]) ?_
  refine WL.set 23 (v' := .bool true) rfl (by rw [hg3]) ?_
  have hg3p : k0 < 0 := by simpa using hg3
  refine WL.skp rfl rfl ?_
  refine WL.skp rfl rfl ?_
  refine WL.skp rfl rfl ?_
  refine WL.skp rfl rfl ?_
  refine WL.pick (v := .bool true) rfl rfl rfl rfl rfl rfl ?_
  refine WL.move rfl rfl rfl ?_
  refine WL.skp rfl rfl ?_
  refine WL.skp rfl rfl ?_
  refine WL.skp rfl rfl ?_
  refine WL.skp rfl rfl ?_
  refine WL.pick (v := .bool true) rfl rfl rfl rfl rfl rfl ?_
  refine WL.nil ?_
  refine N.seq ?_
  refine W.condT rfl ?_
  refine W.seq ?_
  refine W.region ?_
  refine WL.move rfl rfl rfl ?_
  refine WL.assign rfl rfl rfl ?_
  refine WL.nil ?_
  refine N.seq ?_
  refine Fin.ret1 rfl (v := .bool true) rfl ?_
  exact ⟨rfl, hS.below⟩
 refine WL.set 18 (v' := .bool true) rfl (by rw [hg2]) ?_
 refine WL.set 19 (v' := .bool true) rfl (by rw [hg2]) ?_
 have hg2p : i0 < 0 := by simpa using hg2
 refine WL.skp rfl rfl ?_
 refine WL.skp rfl rfl ?_
 refine WL.pick (v := .bool true) rfl rfl rfl rfl rfl rfl ?_
 refine WL.move rfl rfl rfl ?_
 refine WL.skp rfl rfl ?_
 refine WL.skp rfl rfl ?_
 refine WL.skp rfl rfl ?_
 refine WL.skp rfl rfl ?_
 refine WL.pick (v := .bool true) rfl rfl rfl rfl rfl rfl ?_
 refine WL.move rfl rfl rfl ?_
 refine WL.skp rfl rfl ?_
 refine WL.skp rfl rfl ?_
 refine WL.skp rfl rfl ?_
 refine WL.skp rfl rfl ?_
 refine WL.pick (v := .bool true) rfl rfl rfl rfl rfl rfl ?_
 refine WL.nil ?_
 refine N.seq ?_
 refine W.condT rfl ?_
 refine W.seq ?_
 refine W.region ?_
 refine WL.move rfl rfl rfl ?_
 refine WL.assign rfl rfl rfl ?_
 refine WL.nil ?_
 refine N.seq ?_
 refine Fin.ret1 rfl (v := .bool true) rfl ?_
 exact ⟨rfl, hS.below⟩

end Go.Proofs.Ytenldpbbelhomaa
