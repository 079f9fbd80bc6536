/-
  Contracts of layer 9 (resolve). No condition beyond those that each theorem states.
-/
import Derived.Test.YtenldpbbelhomaaQ11
import Derived.Test.YtenldpbbelhomaaA24
namespace Go.Proofs.Ytenldpbbelhomaa
open Go.RowKit

theorem mItems_none {m : DMod} (h : ¬ 0 < (nms9 (items9 [m])).length) (j : Nat) : mItems j m = [] := by
  have h0 : mItems 0 m = [] := by
    rw [List.eq_nil_iff_forall_not_mem]
    intro x hx
    have h2 : x.name ∈ nms9 (items9 [m]) := (mem_nms9 _ _).2 ⟨x, by unfold items9 itemsFrom; exact List.mem_append_left _ hx, rfl⟩
    exact h (List.length_pos_of_mem h2)
  unfold mItems fItems gItems at *
  rw [List.append_eq_nil_iff, List.filterMap_eq_nil_iff, List.filterMap_eq_nil_iff] at *
  refine ⟨fun f hf => ?_, fun f hf => ?_⟩
  · have := h0.1 f hf
    by_cases hb : f.bind = 1
    · rw [if_pos hb]
    · rw [if_neg hb] at this; cases this
  · have := h0.2 f hf
    by_cases hb : f.bind = 1
    · rw [if_pos hb]
    · rw [if_neg hb] at this; cases this
theorem items9_more {ms : List DMod} {m : DMod} (h : ¬ 0 < (nms9 (items9 [m])).length) : items9 (ms ++ [m]) = items9 ms := by
  rw [items9, itemsFrom_append, itemsFrom, itemsFrom, mItems_none h, List.append_nil, List.append_nil]; rfl
theorem slv_add {α : Type} {ro : Nat → Prop} {w : World} {sz : Nat} {Q : List Value → α → Prop} {v : Value} {xs ys : List α} (h : SlV ro w sz Q v xs) (e : xs = ys) : SlV ro w sz Q v ys := e ▸ h

set_option maxRecDepth 10000 in
set_option maxHeartbeats 4000000 in
theorem resolveMore_ret (ms : List DMod) (m : DMod) (vx : Value) (cy : List Value) {w : World} {ro : Nat → Prop} (hro : ∀ b, ro b → b < w.heap.size) (hx : SlV ro w 2 (ModC ro w) vx ms) (hy : ModC ro w cy m) (hml : ms.length ≤ 1048576) (hmx : (items9 ms).length ≤ 1048576) (hmy : (items9 [m]).length ≤ 1048576) : Ret Try.prog 7 #[vx, .agg cy.toArray] w fun v w' => v = .bool true ∧ Below w.heap.size w w' := by
 have hxo := hx
 obtain ⟨adl, capl, rfl, hla, hlb, hlc, hld⟩ := hxo
 have hlm : ms.length ≤ 9223372036854775807 := slv_len hx
 have hy0 := hy
 obtain ⟨sf, sg, rfl, hfs, hgs⟩ := id hy0
 refine Ret.enter (P := Try.prog) (n := 45) (args := [.slice adl ms.length capl, .agg #[sf, sg]]) (σ := [(0, .slice adl ms.length capl), (1, .agg #[sf, sg])]) Try.func7 rfl rfl rfl rfl ?_
 have hS := St.start (ro := ro) hro
 have hsub : ∀ b, ro b → ro b ∨ w.heap.size ≤ b := fun _ h => .inl h
 have halT : Alike ro w ro w := Alike.refl
 refine W.seq ?_
 refine W.region ?_
 refine WL.box (v := .agg #[sf, sg]) (cs := [sf, sg]) rfl rfl rfl rfl hS ?_
 clear hS; intro w2 b1 hb_b1 hS
 refine WL.assign rfl rfl rfl ?_
 refine WL.nil ?_
 refine N.seq ?_
 refine W.seq ?_
 refine W.region ?_
 refine WL.callF (vs := []) Try.func9 (by kernel_rfl) rfl rfl rfl (shown_ret) ?_
 rintro v w3 ⟨rfl, hbl⟩
 replace hS := hS.grow hbl
 refine WL.assign rfl rfl rfl ?_
 refine WL.nil ?_
 refine N.seq ?_
 refine W.seq ?_
 refine W.seq ?_
 refine W.region ?_
 refine WL.loadN (cs := [sf, sg]) agg_33 rfl rfl rfl rfl (hS.cells 0 (m := 2) rfl rfl) ?_
 refine WL.buildSlice (ps := [(0, .agg #[sf, sg])]) (cs := [sf, sg]) Try.underlying22 (tyZero_spec zer_33) rfl rfl rfl rfl (by kernel_rfl) hS ?_
 clear hS; intro w5 b4 hb_b4 hS
 have hall : Alike ro w (fun z => z < w5.heap.size) w5 := fun z hz => ⟨(hS.snap z hz).1, (hS.snap z hz).2⟩
 have hlb : b4 < w5.heap.size := (hS.keys b4 (by simp [keysOf])).2.1
 have hms : SlV (fun z => z < w5.heap.size) w5 2 (ModC (fun z => z < w5.heap.size) w5) (.slice (some ⟨b4, 0, none⟩) 1 1) [m] := slv_blk (cs := [sf, sg]) (hS.own _ (List.mem_of_getElem? (i := 0) rfl)) rfl (chunk1 (cs := [sf, sg]) rfl ⟨_, _, rfl, FuncsV.keep hfs hall, GlobsV.keep hgs hall⟩) hlb rfl (by simp [maxLen])
 refine WL.callF (vs := [.slice (some ⟨b4, 0, none⟩) 1 1]) Try.func16 (by kernel_rfl) rfl rfl rfl (names_ret [m] _ (ro := fun z => z < w5.heap.size) (fun _ h => h) hms hmy (fun x hx0 => (items_ok hms x hx0).1)) ?_
 rintro vn w6 ⟨hnv, hbl⟩
 replace hS := hS.grow hbl
 obtain ⟨adn, capn, rfl, hna, hnb, _, _⟩ := hnv
 have hnl : (nms9 (items9 [m])).length ≤ 9223372036854775807 := by have h1 := hna; have h2 := hnb; unfold maxLen at h2; omega
 refine WL.lenSlice Try.underlying45 rfl rfl rfl ?_
 refine WL.bin rfl rfl rfl rfl rfl ?_
 refine WL.nil ?_
 refine N.seq ?_
 refine W.cond rfl (fun hc7 => ?_) (fun hc7 => ?_)
 ·
  have hc7p : 0 < ((nms9 (items9 [m])).length : Int) := by simpa using hc7
  refine W.seq ?_
  refine W.region ?_
  refine WL.move rfl rfl rfl ?_
  refine WL.assign rfl rfl rfl ?_
  refine WL.nil ?_
  refine N.seq ?_
  refine Fin.ret1 rfl (v := .bool true) rfl ?_
  exact ⟨rfl, hS.below⟩
 have hc7p : ¬ (0 < ((nms9 (items9 [m])).length : Int)) := by simpa using hc7
 have hno : ¬ 0 < (nms9 (items9 [m])).length := by omega
 have hmore := items9_more (ms := ms) hno
 refine W.skip ?_
 refine N.seq ?_
 refine W.seq ?_
 refine W.region ?_
 refine WL.move rfl rfl rfl ?_
 refine WL.callF (vs := [.slice adl ms.length capl]) Try.func10 (by kernel_rfl) rfl rfl rfl (all_ret ms _ (ro := ro) (fun b hb => (hS.snap b hb).1) (SlV.keep hx hS.alike (fun _ _ q => q.keep hS.alike)) hmx (items_ok hx)) ?_
 rintro v w8 ⟨sv, rfl, hdv, hbl⟩
 have hal9 := hS.alikeTo hbl (ro' := (roFrom ro w6 w8)) (fun b hb => .inl hb)
 replace hsub : ∀ b, (roFrom ro w6 w8) b → ro b ∨ w.heap.size ≤ b := fun b hb => hb.elim (hsub b) (fun h => .inr (Nat.le_trans hS.below.size h.1))
 replace halT := halT.trans hal9
 replace hld : Elems (roFrom ro w6 w8) w8 2 (ModC (roFrom ro w6 w8) w8) adl ms := hld.keep hal9 (fun _ _ h => h.keep hal9)
 replace hx : SlV (roFrom ro w6 w8) w8 2 (ModC (roFrom ro w6 w8) w8) (.slice adl ms.length capl) ms := SlV.keep hx hal9 (fun _ _ h => h.keep hal9)
 replace hy0 := hy0.keep hal9
 replace hfs : SlV (roFrom ro w6 w8) w8 4 (FuncC (roFrom ro w6 w8) w8) (sf) m.funcs := SlV.keep hfs hal9 (fun _ _ h => h.keep hal9)
 replace hgs : SlV (roFrom ro w6 w8) w8 4 GlobC (sg) m.globs := SlV.keep hgs hal9 (fun _ _ h => h)
 replace hS := hS.readNew hbl
 obtain ⟨ds, hds⟩ : ∃ ds, ds = (all9 (items9 ms)).1 := ⟨_, rfl⟩
 rw [← hds] at hdv
 obtain ⟨add, capd, rfl, hda, hdb, hdc, hdd⟩ := id hdv
 have hdm : ds.length ≤ 9223372036854775807 := by have h1 := hda; have h2 := hdb; unfold maxLen at h2; omega
 refine WL.move rfl rfl rfl ?_
 refine WL.extract (v := .slice add ds.length capd) rfl rfl rfl rfl ?_
 refine WL.extract (v := .int .i64 ((all9 (items9 ms)).2)) rfl rfl rfl rfl ?_
 refine WL.assign rfl rfl rfl ?_
 refine WL.assign rfl rfl rfl ?_
 refine WL.nil ?_
 refine N.seq ?_
 refine W.seq ?_
 refine W.drawA0 (S := fun _ => True) (by kernel_rfl) (fun w10 hbd => ?_)
 replace hS := hS.grow hbd
 refine WA.phaseP 5 [(fun v u => ∃ b, v = .slice (some ⟨b, 0, none⟩) 0 0 ∧ u.ownsRow w10.heap.size 33 2 v 0 []), (fun v _ => v = .slice adl ms.length capl), (fun v u => ∃ news, Chunks 2 (ModC (roFrom ro w6 w8) w8) news ms ∧ (∀ x ∈ news, x.oneCell' = true) ∧ u.ownsRow w10.heap.size 33 2 v ms.length news), (fun v _ => v = .agg #[sf, sg]), (fun v u => ∃ b, v = .slice (some ⟨b, 0, none⟩) 1 1 ∧ u.heap[b]? = some (.cells [sf, sg].toArray 33 (0, 0)))] (by kernel_rfl) rfl (by kernel_rfl) [(0, .slice adl ms.length capl), (1, .agg #[sf, sg]), (3, .pointer (some ⟨b1, 0, none⟩)), (4, .bool false), (5, .bool true), (6, .slice add ds.length capd), (7, .int .i64 ((all9 (items9 ms)).2)), (11, .bool true), (12, .agg #[sf, sg]), (13, .slice (some ⟨b4, 0, none⟩) 1 1), (14, .slice adn ((nms9 (items9 [m])).length) capn), (15, .int .i64 ((nms9 (items9 [m])).length : Int)), (16, .bool (decide (0 < ((nms9 (items9 [m])).length : Int)))), (18, .tuple #[.slice add ds.length capd, .int .i64 ((all9 (items9 ms)).2)]), (19, .slice adl ms.length capl), (20, .tuple #[.slice add ds.length capd, .int .i64 ((all9 (items9 ms)).2)]), (21, .slice add ds.length capd), (22, .int .i64 ((all9 (items9 ms)).2))] ⟨rfl, rfl, rfl, rfl, rfl, rfl, rfl, rfl, rfl, rfl, rfl, rfl, rfl, rfl, rfl, rfl, rfl, rfl, trivial⟩ rfl ⟨(fun v u u2 h hb => h.elim fun b h => ⟨b, h.1, stays_row v u u2 h.2 hb⟩), stays_eq, (fun v u u2 h hb => h.elim fun b h => ⟨b, h.1, h.2.1, stays_row v u u2 h.2.2 hb⟩), stays_eq, (fun v u u2 h hb => h.elim fun b h => ⟨b, h.1, (hb.block b (Array.getElem?_eq_some_iff.1 h.2).1).trans h.2⟩), trivial⟩ ?_ ?_
 ·
  refine And.intro (fun β wd hb hD => ?_) ?_
  ·
   refine WL.sub (σ' := []) trivial ?_
   have hS := hS.grow hb
   have hX := St.start (w := wd) (ro := fun z => z < wd.heap.size) (fun _ h => h)
   refine WL.buildSlice0 Try.underlying22 isz_33 rfl rfl hX ?_
   clear hX; intro w12 b11 hX
   exact WL.nil (N.cut (.slice (some ⟨b11, 0, none⟩) 0 0) ⟨rfl, trivial⟩ ⟨hX.below, ⟨_, rfl, ownsRow_base (hX.rows _ List.mem_cons_self) hb.size⟩⟩)
  refine And.intro (fun β wd hb hD => ?_) ?_
  ·
   refine WL.sub (σ' := [(0, .slice adl ms.length capl)]) ⟨rfl, trivial⟩ ?_
   have hS := hS.grow hb
   refine WL.move rfl rfl rfl ?_
   exact WL.nil (N.cut (.slice adl ms.length capl) ⟨rfl, trivial⟩ ⟨(Below.refl _ _), rfl⟩)
  refine And.intro (fun β wd hb hD => ?_) ?_
  ·
   obtain ⟨hp0, hp1, _⟩ := hD
   replace hp0 : (fun v u => ∃ b, v = .slice (some ⟨b, 0, none⟩) 0 0 ∧ u.ownsRow w10.heap.size 33 2 v 0 []) (β 0) wd := hp0
   replace hp1 : β 1 = .slice adl ms.length capl := hp1
   refine WL.sub (σ' := [(24, (β 0)), (25, .slice adl ms.length capl)]) ⟨rfl, congrArg some hp1, trivial⟩ ?_
   have hS := hS.grow hb
   generalize β 0 = z0 at hp0 ⊢
   obtain ⟨bo, rfl, hro0⟩ := hp0
   obtain ⟨news, hchn, hnw, hsp⟩ := elems_news hld
   refine WL.append0 (zs := [.slice none 0 0, .slice none 0 0]) (news := news) (B := w10.heap.size) 48 Try.underlying22 (tyZero_spec zer_33) byt_33 rfl rfl rfl rfl rfl hchn.1 (fun e => ⟨by have := hlc e; omega, hlc e⟩) ?_ hsp (chunks_all hchn (by decide) (fun _ _ q => one_mod q)) hro0 hb.size (by unfold maxLen; omega) (by omega) ?_
   ·
    intro b off e
    by_cases hn0 : news = []
    ·
     subst hn0; intro j v hj; simp at hj
    exact hS.roCells ((hnw b off e).2 hn0) (hnw b off e).1
   intro w13 v14 hbX hrow
   exact WL.nil (N.cut v14 ⟨rfl, trivial⟩ ⟨hbX, ⟨_, hchn, chunks_all hchn (by decide) (fun _ _ q => one_mod q), hrow⟩⟩)
  refine And.intro (fun β wd hb hD => ?_) ?_
  ·
   refine WL.sub (σ' := [(3, .pointer (some ⟨b1, 0, none⟩))]) ⟨rfl, trivial⟩ ?_
   have hS := hS.grow hb
   refine WL.loadN (cs := [sf, sg]) agg_33 rfl rfl rfl rfl (hS.cells 1 (m := 2) rfl rfl) ?_
   exact WL.nil (N.cut (.agg #[sf, sg]) ⟨rfl, trivial⟩ ⟨(Below.refl _ _), rfl⟩)
  refine And.intro (fun β wd hb hD => ?_) ?_
  ·
   obtain ⟨hp3, _⟩ := hD
   replace hp3 : β 3 = .agg #[sf, sg] := hp3
   refine WL.sub (σ' := [(27, .agg #[sf, sg])]) ⟨congrArg some hp3, trivial⟩ ?_
   have hS := hS.grow hb
   have hX := St.start (w := wd) (ro := fun z => z < wd.heap.size) (fun _ h => h)
   refine WL.buildSlice (ps := [(0, .agg #[sf, sg])]) (cs := [sf, sg]) Try.underlying22 (tyZero_spec zer_33) rfl rfl rfl rfl (by kernel_rfl) hX ?_
   clear hX; intro w16 b15 hb_b15 hX
   exact WL.nil (N.cut (.slice (some ⟨b15, 0, none⟩) 1 1) ⟨rfl, trivial⟩ ⟨hX.below, ⟨_, rfl, hX.own _ List.mem_cons_self⟩⟩)
  trivial
 intro β w17 hb hD
 obtain ⟨hp0, hp1, hp2, hp3, hp4, _⟩ := hD
 refine WA.sub (σ' := [(0, .slice adl ms.length capl), (1, .agg #[sf, sg]), (3, .pointer (some ⟨b1, 0, none⟩)), (4, .bool false), (5, .bool true), (6, .slice add ds.length capd), (7, .int .i64 ((all9 (items9 ms)).2)), (11, .bool true), (12, .agg #[sf, sg]), (13, .slice (some ⟨b4, 0, none⟩) 1 1), (14, .slice adn ((nms9 (items9 [m])).length) capn), (15, .int .i64 ((nms9 (items9 [m])).length : Int)), (16, .bool (decide (0 < ((nms9 (items9 [m])).length : Int)))), (18, .tuple #[.slice add ds.length capd, .int .i64 ((all9 (items9 ms)).2)]), (19, .slice adl ms.length capl), (20, .tuple #[.slice add ds.length capd, .int .i64 ((all9 (items9 ms)).2)]), (21, .slice add ds.length capd), (22, .int .i64 ((all9 (items9 ms)).2)), (24, (β 0)), (25, .slice adl ms.length capl), (26, (β 2)), (27, .agg #[sf, sg]), (28, (β 4))]) ⟨rfl, rfl, rfl, rfl, rfl, rfl, rfl, rfl, rfl, rfl, rfl, rfl, rfl, rfl, rfl, rfl, rfl, rfl, rfl, congrArg some (show β 1 = .slice adl ms.length capl from hp1), rfl, congrArg some (show β 3 = .agg #[sf, sg] from hp3), rfl, trivial⟩ ?_
 have hSd := hS
 replace hS := hS.grow hb
 replace hp0 : (fun v u => ∃ b, v = .slice (some ⟨b, 0, none⟩) 0 0 ∧ u.ownsRow w10.heap.size 33 2 v 0 []) (β 0) w17 := hp0
 generalize β 0 = z0 at hp0 ⊢
 replace hp2 : (fun v u => ∃ news, Chunks 2 (ModC (roFrom ro w6 w8) w8) news ms ∧ (∀ x ∈ news, x.oneCell' = true) ∧ u.ownsRow w10.heap.size 33 2 v ms.length news) (β 2) w17 := hp2
 generalize β 2 = z2 at hp2 ⊢
 replace hp4 : (fun v u => ∃ b, v = .slice (some ⟨b, 0, none⟩) 1 1 ∧ u.heap[b]? = some (.cells [sf, sg].toArray 33 (0, 0))) (β 4) w17 := hp4
 generalize β 4 = z4 at hp4 ⊢
 refine WA.step 5 (by kernel_rfl) rfl ?_
 obtain ⟨news, hchn, hone, hrow2⟩ := hp2
 obtain ⟨bq4, rfl, hb4⟩ := hp4
 have hc4 := cellsAt_block hb4
 replace hS := hSd.callRow hb hrow2
 refine WL.appendRo (r := ⟨z2, 33, 2, ms.length, news⟩) (news := [sf, sg]) 48 Try.underlying22 (tyZero_spec zer_33) byt_33 rfl rfl rfl rfl rfl rfl (fun e => by cases e) (fun b off e => by cases e; exact hc4) (fun a e _ => by cases e; rfl) ?_ rfl rfl hS (by simp only; unfold maxLen; omega) (by simp only; omega) ?_
 ·
  exact fun u hu => one_mod hy0 u hu
 clear hS; intro w18 v19 hS hnn
 have hrow : w18.ownsRow w.heap.size 33 2 v19 (ms.length + 1) _ := hS.rows _ List.mem_cons_self
 obtain ⟨adO, capO, rfl, hO1, hO2, hO3⟩ := row_shape hrow
 clear hrow
 have hch1 : Chunks 2 (ModC (roFrom ro w6 w8) w8) (news ++ [sf, sg]) (ms ++ [m]) := hchn.snoc rfl hy0
 refine WL.nil (N.rest ?_)
 refine WA.step 6 (by kernel_rfl) rfl ?_
 have hal20 := hS.giveRowAlike
 replace hsub : ∀ b, (fun x => (roFrom ro w6 w8) x ∨ (.slice adO (ms.length + 1) capO : Value).ownBlock = some x) b → ro b ∨ w.heap.size ≤ b := fun b hb => hb.elim (hsub b) (fun h => .inr (hS.giveRowLe b h))
 replace halT := halT.trans hal20
 replace hld : Elems (fun x => (roFrom ro w6 w8) x ∨ (.slice adO (ms.length + 1) capO : Value).ownBlock = some x) w18 2 (ModC (fun x => (roFrom ro w6 w8) x ∨ (.slice adO (ms.length + 1) capO : Value).ownBlock = some x) w18) adl ms := hld.keep hal20 (fun _ _ h => h.keep hal20)
 replace hx : SlV (fun x => (roFrom ro w6 w8) x ∨ (.slice adO (ms.length + 1) capO : Value).ownBlock = some x) w18 2 (ModC (fun x => (roFrom ro w6 w8) x ∨ (.slice adO (ms.length + 1) capO : Value).ownBlock = some x) w18) (.slice adl ms.length capl) ms := SlV.keep hx hal20 (fun _ _ h => h.keep hal20)
 replace hy0 := hy0.keep hal20
 replace hfs : SlV (fun x => (roFrom ro w6 w8) x ∨ (.slice adO (ms.length + 1) capO : Value).ownBlock = some x) w18 4 (FuncC (fun x => (roFrom ro w6 w8) x ∨ (.slice adO (ms.length + 1) capO : Value).ownBlock = some x) w18) (sf) m.funcs := SlV.keep hfs hal20 (fun _ _ h => h.keep hal20)
 replace hgs : SlV (fun x => (roFrom ro w6 w8) x ∨ (.slice adO (ms.length + 1) capO : Value).ownBlock = some x) w18 4 GlobC (sg) m.globs := SlV.keep hgs hal20 (fun _ _ h => h)
 replace hdd : Elems (fun x => (roFrom ro w6 w8) x ∨ (.slice adO (ms.length + 1) capO : Value).ownBlock = some x) w18 5 DefC add ds := hdd.keep hal20 (fun _ _ h => h)
 replace hdv : SlV (fun x => (roFrom ro w6 w8) x ∨ (.slice adO (ms.length + 1) capO : Value).ownBlock = some x) w18 5 DefC (.slice add ds.length capd) ds := SlV.keep hdv hal20 (fun _ _ h => h)
 replace hchn := hchn.mono fun _ _ h => h.keep hal20
 replace hch1 := hch1.mono fun _ _ h => h.keep hal20
 have hrow21 := hS.rows _ List.mem_cons_self
 replace hS := hS.giveRow
 have hsv : SlV (fun x => (roFrom ro w6 w8) x ∨ (.slice adO (ms.length + 1) capO : Value).ownBlock = some x) w18 2 (ModC (fun x => (roFrom ro w6 w8) x ∨ (.slice adO (ms.length + 1) capO : Value).ownBlock = some x) w18) (.slice adO (ms.length + 1) capO) (ms ++ [m]) := row_slv hrow21 hch1 (by simp) (fun b hb => .inr hb)
 refine WL.callF (vs := [.slice adO (ms.length + 1) capO]) Try.func10 (by kernel_rfl) rfl rfl rfl (all_ret (ms ++ [m]) _ (ro := (fun x => (roFrom ro w6 w8) x ∨ (.slice adO (ms.length + 1) capO : Value).ownBlock = some x)) (fun b hb => (hS.snap b hb).1) (SlV.keep hsv hS.alike (fun _ _ q => q.keep hS.alike)) (by rw [hmore]; exact hmx) (items_ok hsv)) ?_
 rintro v w22 ⟨sv2, rfl, hdv2, hbl⟩
 have hal23 := hS.alikeTo hbl (ro' := (roFrom (fun x => (roFrom ro w6 w8) x ∨ (.slice adO (ms.length + 1) capO : Value).ownBlock = some x) w18 w22)) (fun b hb => .inl hb)
 replace hsub : ∀ b, (roFrom (fun x => (roFrom ro w6 w8) x ∨ (.slice adO (ms.length + 1) capO : Value).ownBlock = some x) w18 w22) b → ro b ∨ w.heap.size ≤ b := fun b hb => hb.elim (hsub b) (fun h => .inr (Nat.le_trans hS.below.size h.1))
 replace halT := halT.trans hal23
 replace hld : Elems (roFrom (fun x => (roFrom ro w6 w8) x ∨ (.slice adO (ms.length + 1) capO : Value).ownBlock = some x) w18 w22) w22 2 (ModC (roFrom (fun x => (roFrom ro w6 w8) x ∨ (.slice adO (ms.length + 1) capO : Value).ownBlock = some x) w18 w22) w22) adl ms := hld.keep hal23 (fun _ _ h => h.keep hal23)
 replace hx : SlV (roFrom (fun x => (roFrom ro w6 w8) x ∨ (.slice adO (ms.length + 1) capO : Value).ownBlock = some x) w18 w22) w22 2 (ModC (roFrom (fun x => (roFrom ro w6 w8) x ∨ (.slice adO (ms.length + 1) capO : Value).ownBlock = some x) w18 w22) w22) (.slice adl ms.length capl) ms := SlV.keep hx hal23 (fun _ _ h => h.keep hal23)
 replace hy0 := hy0.keep hal23
 replace hfs : SlV (roFrom (fun x => (roFrom ro w6 w8) x ∨ (.slice adO (ms.length + 1) capO : Value).ownBlock = some x) w18 w22) w22 4 (FuncC (roFrom (fun x => (roFrom ro w6 w8) x ∨ (.slice adO (ms.length + 1) capO : Value).ownBlock = some x) w18 w22) w22) (sf) m.funcs := SlV.keep hfs hal23 (fun _ _ h => h.keep hal23)
 replace hgs : SlV (roFrom (fun x => (roFrom ro w6 w8) x ∨ (.slice adO (ms.length + 1) capO : Value).ownBlock = some x) w18 w22) w22 4 GlobC (sg) m.globs := SlV.keep hgs hal23 (fun _ _ h => h)
 replace hdd : Elems (roFrom (fun x => (roFrom ro w6 w8) x ∨ (.slice adO (ms.length + 1) capO : Value).ownBlock = some x) w18 w22) w22 5 DefC add ds := hdd.keep hal23 (fun _ _ h => h)
 replace hdv : SlV (roFrom (fun x => (roFrom ro w6 w8) x ∨ (.slice adO (ms.length + 1) capO : Value).ownBlock = some x) w18 w22) w22 5 DefC (.slice add ds.length capd) ds := SlV.keep hdv hal23 (fun _ _ h => h)
 replace hchn := hchn.mono fun _ _ h => h.keep hal23
 replace hch1 := hch1.mono fun _ _ h => h.keep hal23
 replace hsv : SlV (roFrom (fun x => (roFrom ro w6 w8) x ∨ (.slice adO (ms.length + 1) capO : Value).ownBlock = some x) w18 w22) w22 2 (ModC (roFrom (fun x => (roFrom ro w6 w8) x ∨ (.slice adO (ms.length + 1) capO : Value).ownBlock = some x) w18 w22) w22) (.slice adO (ms.length + 1) capO) (ms ++ [m]) := SlV.keep hsv hal23 (fun _ _ h => h.keep hal23)
 replace hS := hS.readNew hbl
 obtain ⟨ds2, hds2⟩ : ∃ ds, ds = (all9 (items9 (ms ++ [m]))).1 := ⟨_, rfl⟩
 rw [← hds2] at hdv2
 obtain ⟨add2, capd2, rfl, hd2a, hd2b, hd2c, hd2d⟩ := id hdv2
 have hd2m : ds2.length ≤ 9223372036854775807 := by have h1 := hd2a; have h2 := hd2b; unfold maxLen at h2; omega
 refine WL.nil (N.rest ?_)
 refine WA.conv (by kernel_rfl) (by kernel_rfl) (WA.pureRest 7 [.tuple #[.slice add2 ds2.length capd2, .int .i64 ((all9 (items9 (ms ++ [m]))).2)], .slice add2 ds2.length capd2, .int .i64 ((all9 (items9 (ms ++ [m]))).2), .slice add2 ds2.length capd2, .int .i64 ((all9 (items9 (ms ++ [m]))).2)] (by kernel_rfl) (by kernel_rfl) (by kernel_rfl) [(0, .slice adl ms.length capl), (1, .agg #[sf, sg]), (3, .pointer (some ⟨b1, 0, none⟩)), (4, .bool false), (5, .bool true), (6, .slice add ds.length capd), (7, .int .i64 ((all9 (items9 ms)).2)), (11, .bool true), (12, .agg #[sf, sg]), (13, .slice (some ⟨b4, 0, none⟩) 1 1), (14, .slice adn ((nms9 (items9 [m])).length) capn), (15, .int .i64 ((nms9 (items9 [m])).length : Int)), (16, .bool (decide (0 < ((nms9 (items9 [m])).length : Int)))), (18, .tuple #[.slice add ds.length capd, .int .i64 ((all9 (items9 ms)).2)]), (19, .slice adl ms.length capl), (20, .tuple #[.slice add ds.length capd, .int .i64 ((all9 (items9 ms)).2)]), (21, .slice add ds.length capd), (22, .int .i64 ((all9 (items9 ms)).2)), (24, z0), (25, .slice adl ms.length capl), (26, z2), (27, .agg #[sf, sg]), (28, .slice (some ⟨bq4, 0, none⟩) 1 1), (29, .slice adO (ms.length + 1) capO), (30, .tuple #[.slice add2 ds2.length capd2, .int .i64 ((all9 (items9 (ms ++ [m]))).2)])] ⟨rfl, rfl, rfl, rfl, rfl, rfl, rfl, rfl, rfl, rfl, rfl, rfl, rfl, rfl, rfl, rfl, rfl, rfl, rfl, rfl, rfl, rfl, rfl, rfl, rfl, trivial⟩ (by kernel_rfl) ⟨⟨rfl, exec_move rfl⟩, ⟨rfl, exec_extract rfl rfl⟩, ⟨rfl, exec_extract rfl rfl⟩, ⟨rfl, exec_assign rfl⟩, ⟨rfl, exec_assign rfl⟩, trivial⟩ ?_)
 refine N.seq ?_
 refine W.seq ?_
 refine W.region ?_
 refine WL.move rfl rfl rfl ?_
 refine WL.move rfl rfl rfl ?_
 refine WL.callF (vs := [.slice add ds.length capd, .slice add2 ds2.length capd2]) Try.func17 (by kernel_rfl) rfl rfl rfl (sameDefs_ret ds ds2 _ _ (ro := (roFrom (fun x => (roFrom ro w6 w8) x ∨ (.slice adO (ms.length + 1) capO : Value).ownBlock = some x) w18 w22)) (fun b hb => (hS.snap b hb).1) (SlV.keep hdv hS.alike (fun _ _ q => q)) (SlV.keep hdv2 hS.alike (fun _ _ q => q))) ?_
 rintro v w24 ⟨rfl, hbl⟩
 replace hS := hS.grow hbl
 refine WL.set 35 (v' := .bool true) rfl (by rw [hds, hds2, hmore, decide_eq_true rfl]) ?_
 refine WL.assign rfl rfl rfl ?_
 refine WL.nil ?_
 refine N.seq ?_
 refine W.seq ?_
 refine W.region ?_
 refine WL.move rfl rfl rfl ?_
 refine WL.move rfl rfl rfl ?_
 refine WL.move rfl rfl rfl ?_
 refine WL.pick (v := .bool true) rfl rfl rfl rfl rfl rfl ?_
 refine WL.move rfl rfl rfl ?_
 refine WL.move rfl rfl rfl ?_
 refine WL.move rfl rfl rfl ?_
 refine WL.bin rfl rfl rfl rfl rfl ?_
 refine WL.set 43 (v' := .bool true) rfl (congrArg Value.bool (show (decide ((all9 (items9 ms)).2 = (all9 (items9 (ms ++ [m]))).2)) = true from decide_eq_true (by rw [hmore]))) ?_
 refine WL.pick (v := .bool true) rfl rfl rfl rfl rfl rfl ?_
 refine WL.assign rfl rfl rfl ?_
 refine WL.nil ?_
 refine N.seq ?_
 refine Fin.ret1 rfl (v := .bool true) rfl ?_
 exact ⟨rfl, hS.below⟩

end Go.Proofs.Ytenldpbbelhomaa
