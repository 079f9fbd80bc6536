/-
  Contracts of layer 16 (slot). No condition beyond those that each theorem states.
-/
import Derived.Test.YtkgmijhcaclpoaaS8
namespace Go.Proofs.Ytkgmijhcaclpoaa
open Go.RowKit

theorem rapart_map {b : DBlock} {l : List Int} {n : Int} (h : RApart b l) (hn : 0 ≤ n) : RApart b (l.map fun x => 2 * x + n) := by
  refine ⟨by rw [List.length_map]; exact h.len, fun v x hx => ?_, fun v w x z hw hv hx hz => ?_⟩
  · rw [List.getElem?_map] at hx
    obtain ⟨y, hy, rfl⟩ := Option.map_eq_some_iff.1 hx
    have := h.nn v y hy; omega
  · rw [List.getElem?_map] at hv hx
    obtain ⟨y, hy, e1⟩ := Option.map_eq_some_iff.1 hv
    obtain ⟨y', hy', e2⟩ := Option.map_eq_some_iff.1 hx
    have : y = y' := by omega
    subst this
    exact h.ap v w y z hw hy hy' hz
theorem rapart_one {b : DBlock} {n : Nat} (h : n = (last16 b).length) : RApart b ((List.range n).map fun x : Nat => (x : Int)) := by
  refine ⟨by simp [h], fun v x hx => ?_, fun v w x z hw hv hx hz => ?_⟩
  · rw [List.getElem?_map] at hx
    obtain ⟨y, hy, rfl⟩ := Option.map_eq_some_iff.1 hx
    omega
  · rw [List.getElem?_map] at hv hx
    obtain ⟨y, hy, e1⟩ := Option.map_eq_some_iff.1 hv
    obtain ⟨y', hy', e2⟩ := Option.map_eq_some_iff.1 hx
    have h1 := (List.getElem?_eq_some_iff.1 hy).2
    have h2 := (List.getElem?_eq_some_iff.1 hy').2
    simp at h1 h2
    omega

set_option maxRecDepth 10000 in
set_option maxHeartbeats 4000000 in
theorem slotTurned_ret (f : DFunc) (cf : List Value) (k n : Int) (hki : inI k) (hni : inI n) {w : World} {ro : Nat → Prop} (hro : ∀ b, ro b → b < w.heap.size) (hx : FuncC ro w cf f) (hok : okFunc f) : Ret Try.prog 5 #[.agg cf.toArray, .int .i64 k, .int .i64 n] w fun v w' => v = .bool true ∧ Below w.heap.size w w' := by
  obtain ⟨sbF, rfl, hblF, hnmF, hbdF, hprF⟩ := id hx
  obtain ⟨adbF, capbF, rfl, hbkFa, hbkFb, hbkFc, hbkFd⟩ := id hblF
  have hbkFm : f.blocks.length ≤ 9223372036854775807 := by have h1 := hbkFa; have h2 := hbkFb; unfold maxLen at h2; omega
  refine Ret.enter (P := Try.prog) (n := 83) (args := [.agg #[.string f.name, .int .i64 f.bind, .int .i64 f.params, .slice adbF f.blocks.length capbF], .int .i64 k, .int .i64 n]) (σ := [(0, .agg #[.string f.name, .int .i64 f.bind, .int .i64 f.params, .slice adbF f.blocks.length capbF]), (1, .int .i64 k), (2, .int .i64 n)]) Try.func5 rfl rfl rfl rfl ?_
  have hS := St.start (ro := ro) hro
  have hsub : ∀ b, ro b → ro b ∨ w.heap.size ≤ b := fun _ h => .inl h
  have halT : Alike ro w ro w := Alike.refl
  refine W.seq ?_
  refine W.region ?_
  refine WL.box (v := .agg #[.string f.name, .int .i64 f.bind, .int .i64 f.params, .slice adbF f.blocks.length capbF]) (cs := [.string f.name, .int .i64 f.bind, .int .i64 f.params, .slice adbF f.blocks.length capbF]) rfl rfl rfl rfl hS ?_
  clear hS; intro w2 b1 hb_b1 hS
  refine WL.assign rfl rfl rfl ?_
  refine WL.nil ?_
  refine N.seq ?_
  refine W.seq ?_
  refine W.region ?_
  refine WL.callF (vs := []) Try.func7 (by kernel_rfl) rfl rfl rfl (shown16_ret (ro := ro) (fun b hb => (hS.snap b hb).1)) ?_
  rintro v w3 ⟨rfl, hbl⟩
  replace hS := hS.grow hbl
  refine WL.assign rfl rfl rfl ?_
  refine WL.nil ?_
  refine N.seq ?_
  refine W.seq ?_
  refine W.region ?_
  refine WL.loadN (cs := [.string f.name, .int .i64 f.bind, .int .i64 f.params, .slice adbF f.blocks.length capbF]) agg_24 rfl rfl rfl rfl (hS.cells 0 (m := 4) rfl rfl) ?_
  refine WL.callF (vs := [.agg #[.string f.name, .int .i64 f.bind, .int .i64 f.params, .slice adbF f.blocks.length capbF]]) Try.func8 (by kernel_rfl) rfl rfl rfl (func5_ret f _ (ro := ro) (fun b hb => (hS.snap b hb).1) (hx.keep hS.alike) hok) ?_
  rintro v w4 ⟨rfl, hbl⟩
  replace hS := hS.grow hbl
  refine WL.assign rfl rfl rfl ?_
  refine WL.nil ?_
  refine N.seq ?_
  refine W.seq ?_
  refine W.seq ?_
  refine W.region ?_
  refine WL.move rfl rfl rfl ?_
  refine WL.not rfl rfl rfl ?_
  refine WL.move rfl rfl rfl ?_
  cases hg5 : (!(func5 f))
  ·
    refine WL.move rfl rfl rfl ?_
    refine WL.bin rfl rfl rfl rfl rfl ?_
    refine WL.pick (v := .bool (decide (k < 0))) rfl rfl rfl rfl rfl rfl ?_
    refine WL.move rfl rfl rfl ?_
    cases hg6 : (decide (k < 0))
    ·
      have hg6p : ¬ (k < 0) := by simpa using hg6
      refine WL.move rfl rfl rfl ?_
      refine WL.fieldAddr fo_24_3 rfl rfl rfl ?_
      refine WL.load1 (v := .slice adbF f.blocks.length capbF) one_22 rfl rfl rfl (hS.cell 0 rfl rfl) ?_
      refine WL.lenSlice Try.underlying22 rfl rfl rfl ?_
      refine WL.bin rfl rfl rfl rfl rfl ?_
      refine WL.pick (v := .bool (decide ((f.blocks.length : Int) ≤ k))) rfl rfl rfl rfl rfl rfl ?_
      refine WL.move rfl rfl rfl ?_
      cases hg7 : (decide ((f.blocks.length : Int) ≤ k))
      ·
        have hg7p : ¬ ((f.blocks.length : Int) ≤ k) := by simpa using hg7
        refine WL.move rfl rfl rfl ?_
        refine WL.bin rfl rfl rfl rfl rfl ?_
        refine WL.pick (v := .bool (decide (n < 0))) rfl rfl rfl rfl rfl rfl ?_
        refine WL.move rfl rfl rfl ?_
        cases hg8 : (decide (n < 0))
        ·
          have hg8p : ¬ (n < 0) := by simpa using hg8
          refine WL.move rfl rfl rfl ?_
          refine WL.bin rfl rfl rfl rfl rfl ?_
          refine WL.pick (v := .bool (decide (1000 < n))) rfl rfl rfl rfl rfl rfl ?_
          refine WL.nil ?_
          refine N.seq ?_
          refine W.cond rfl (fun hc9 => ?_) (fun hc9 => ?_)
          ·
            have hc9p : 1000 < n := by simpa using hc9
            refine W.seq ?_
            refine W.region ?_
            refine WL.move rfl rfl rfl ?_
            refine WL.assign rfl rfl rfl ?_
            refine WL.nil ?_
            refine N.seq ?_
            refine Fin.ret1 rfl (v := .bool true) rfl ?_
            exact ⟨rfl, hS.below⟩
          ·
            have hc9p : ¬ (1000 < n) := by simpa using hc9
            refine W.skip ?_
            refine N.seq ?_
            refine W.seq ?_
            refine W.region ?_
            refine WL.fieldAddr fo_24_3 rfl rfl rfl ?_
            refine WL.load1 (v := .slice adbF f.blocks.length capbF) one_22 rfl rfl rfl (hS.cell 0 rfl rfl) ?_
            refine WL.move rfl rfl rfl ?_
            refine WL.set 40 (v' := .int .i64 (k.toNat : Int)) rfl (by congr 1; omega) ?_
            have hj10 : k.toNat < f.blocks.length := by omega
            obtain ⟨x10, hx10⟩ : ∃ zz, f.blocks[k.toNat]? = some zz := ⟨_, List.getElem?_eq_getElem hj10⟩
            obtain ⟨b10, o10, cs10, hE10, hr10, hl10, hc10, hQ10⟩ := hbkFd k.toNat _ hx10
            obtain ⟨si10, tsx10, rfl, hin10, hfin10, hpar10⟩ := id hQ10
            obtain ⟨adi10, capi10, rfl, hin10a, hin10b, hin10c, hin10d⟩ := id hin10
            have hin10m : x10.ins.length ≤ 9223372036854775807 := by have h1 := hin10a; have h2 := hin10b; unfold maxLen at h2; omega
            obtain ⟨sp10, sq10, rfl, ht110, ht210, htk10, hta10, htt10, hte10⟩ := id hfin10
            obtain ⟨adp10, capp10, rfl, htp10a, htp10b, htp10c, htp10d⟩ := id ht110
            have htp10m : x10.fin.args.length ≤ 9223372036854775807 := by have h1 := htp10a; have h2 := htp10b; unfold maxLen at h2; omega
            obtain ⟨adq10, capq10, rfl, htq10a, htq10b, htq10c, htq10d⟩ := id ht210
            have htq10m : x10.fin.elses.length ≤ 9223372036854775807 := by have h1 := htq10a; have h2 := htq10b; unfold maxLen at h2; omega
            refine WL.indexAddrE (j := k.toNat) Try.underlying22 isz_33 rfl rfl rfl rfl hj10 hE10 ?_
            refine WL.loadN (cs := [.int .i64 x10.params, .slice adi10 x10.ins.length capi10, .int .i64 x10.fin.kind, .int .i64 x10.fin.a, .int .i64 x10.fin.to, .slice adp10 x10.fin.args.length capp10, .int .i64 x10.fin.els, .slice adq10 x10.fin.elses.length capq10]) agg_33 rfl rfl rfl rfl (hS.roCells hr10 hc10) ?_
            have hf5 : func5 f = true := by simpa using hg5
            have hok6 := ok16_of5 hf5 (List.mem_of_getElem? hx10)
            have hokn := hok6.n; have hokp := hok6.p0; have hokq := hok6.p1
            refine WL.callF (vs := [.agg #[.int .i64 x10.params, .slice adi10 x10.ins.length capi10, .int .i64 x10.fin.kind, .int .i64 x10.fin.a, .int .i64 x10.fin.to, .slice adp10 x10.fin.args.length capp10, .int .i64 x10.fin.els, .slice adq10 x10.fin.elses.length capq10]]) Try.func10 (by kernel_rfl) rfl rfl rfl (give16_ret x10 _ (ro := ro) (fun b hb => (hS.snap b hb).1) (hQ10.keep hS.alike) hok6) ?_
            rintro vl w11 ⟨hvl, hbl⟩
            have hal12 := hS.alikeTo hbl (ro' := (roFrom ro w4 w11)) (fun b hb => .inl hb)
            replace hsub : ∀ b, (roFrom ro w4 w11) b → ro b ∨ w.heap.size ≤ b := fun b hb => hb.elim (hsub b) (fun h => .inr (Nat.le_trans hS.below.size h.1))
            replace halT := halT.trans hal12
            replace hx := hx.keep hal12
            replace hbkFd : Elems (roFrom ro w4 w11) w11 8 (BlockC (roFrom ro w4 w11) w11) adbF f.blocks := hbkFd.keep hal12 (fun _ _ h => h.keep hal12)
            replace hblF : SlV (roFrom ro w4 w11) w11 8 (BlockC (roFrom ro w4 w11) w11) (.slice adbF f.blocks.length capbF) f.blocks := SlV.keep hblF hal12 (fun _ _ h => h.keep hal12)
            replace hQ10 := hQ10.keep hal12
            replace hin10d : Elems (roFrom ro w4 w11) w11 6 (InstC (roFrom ro w4 w11) w11) adi10 x10.ins := hin10d.keep hal12 (fun _ _ h => h.keep hal12)
            replace hin10 : SlV (roFrom ro w4 w11) w11 6 (InstC (roFrom ro w4 w11) w11) (.slice adi10 x10.ins.length capi10) x10.ins := SlV.keep hin10 hal12 (fun _ _ h => h.keep hal12)
            replace hfin10 := hfin10.keep hal12
            replace htp10d : Elems (roFrom ro w4 w11) w11 1 IntC adp10 x10.fin.args := htp10d.keep hal12 (fun _ _ h => h)
            replace ht110 : SlV (roFrom ro w4 w11) w11 1 IntC (.slice adp10 x10.fin.args.length capp10) x10.fin.args := SlV.keep ht110 hal12 (fun _ _ h => h)
            replace htq10d : Elems (roFrom ro w4 w11) w11 1 IntC adq10 x10.fin.elses := htq10d.keep hal12 (fun _ _ h => h)
            replace ht210 : SlV (roFrom ro w4 w11) w11 1 IntC (.slice adq10 x10.fin.elses.length capq10) x10.fin.elses := SlV.keep ht210 hal12 (fun _ _ h => h)
            replace hc10 := hc10.keep (hal12 _ hr10).2
            replace hr10 := (hal12 _ hr10).1
            replace hS := hS.readNew hbl
            have hap := give16_apart hok6
            have hgl := give16_length hok6
            have hgr := (given16 hok6 _ (Nat.le_refl _)).out
            obtain ⟨G, hG⟩ : ∃ G, G = give16 x10 := ⟨_, rfl⟩
            rw [show (giveAt16 x10 (last16 x10).length).2 = give16 x10 from rfl] at hgr; rw [← hG] at hvl hap hgl hgr
            replace hvl := SlV.keep hvl (ro' := (roFrom ro w4 w11)) (w' := w11) (Q' := IntC) (fun x hx => ⟨.inr hx, rfl⟩) (fun _ _ h => h)
            obtain ⟨adl, capl, rfl, hvla, hvlb, hvlc, hvld⟩ := id hvl
            have hvlm : G.length ≤ 9223372036854775807 := by have h1 := hvla; have h2 := hvlb; unfold maxLen at h2; omega
            refine WL.assign rfl rfl rfl ?_
            refine WL.nil ?_
            refine N.seq ?_
            refine W.seq ?_
            refine W.region ?_
            refine WL.assign rfl rfl rfl ?_
            refine WL.nil ?_
            refine N.seq ?_
            refine W.seq ?_
            refine W.region ?_
            refine WL.assign rfl rfl rfl ?_
            refine WL.nil ?_
            refine N.seq ?_
            refine W.seq ?_
            refine W.seq ?_
            refine W.region ?_
            refine WL.assign rfl rfl rfl ?_
            refine WL.nil ?_
            refine N.seq ?_
            refine W.block ?_
            replace hS := hS.row0 3 1
            replace hS := hS.row0 3 1
            refine W.loop (α := Nat × Value × List Value × Value × List Value) (fun ⟨i, va, cs, vb, ds⟩ => [(0, .agg #[.string f.name, .int .i64 f.bind, .int .i64 f.params, .slice adbF f.blocks.length capbF]), (1, .int .i64 k), (2, .int .i64 n), (3, .pointer (some ⟨b1, 0, none⟩)), (6, .bool false), (7, .bool true), (8, .bool (func5 f)), (9, .slice adl G.length capl), (10, va), (11, vb), (12, .int .i64 (i : Int)), (13, .bool true), (14, .agg #[.string f.name, .int .i64 f.bind, .int .i64 f.params, .slice adbF f.blocks.length capbF]), (15, .bool (func5 f)), (16, .bool (func5 f)), (17, .bool false), (18, .bool false), (19, .int .i64 k), (20, .bool false), (21, .bool false), (22, .bool false), (23, .int .i64 k), (24, .pointer (some ⟨b1, 3, none⟩)), (25, .slice adbF f.blocks.length capbF), (26, .int .i64 (f.blocks.length : Int)), (27, .bool false), (28, .bool false), (29, .bool false), (30, .int .i64 n), (31, .bool false), (32, .bool false), (33, .bool false), (34, .int .i64 n), (35, .bool (decide (1000 < n))), (36, .bool (decide (1000 < n))), (38, .pointer (some ⟨b1, 3, none⟩)), (39, .slice adbF f.blocks.length capbF), (40, .int .i64 (k.toNat : Int)), (41, .pointer (some ⟨b10, o10 + k.toNat * 8, none⟩)), (42, .agg #[.int .i64 x10.params, .slice adi10 x10.ins.length capi10, .int .i64 x10.fin.kind, .int .i64 x10.fin.a, .int .i64 x10.fin.to, .slice adp10 x10.fin.args.length capp10, .int .i64 x10.fin.els, .slice adq10 x10.fin.elses.length capq10]), (43, .slice adl G.length capl)]) (fun ⟨i, va, cs, vb, ds⟩ u => St w w11 u (roFrom ro w4 w11) [(b1, .cells #[.string f.name, .int .i64 f.bind, .int .i64 f.params, .slice adbF f.blocks.length capbF] 24 (0, 0))] [⟨va, 3, 1, i, cs⟩, ⟨vb, 3, 1, i, ds⟩] ∧ i ≤ G.length ∧ Chunks 1 IntC cs ((G.take i).map fun x => 2 * x + n) ∧ Chunks 1 IntC ds ((List.range i).map fun x : Nat => (x : Int))) (fun ⟨i, va, cs, vb, ds⟩ => G.length - i) (0, (.slice none 0 0), [], (.slice none 0 0), []) ⟨rfl, rfl, rfl, rfl, rfl, rfl, rfl, rfl, rfl, rfl, rfl, rfl, rfl, rfl, rfl, rfl, rfl, rfl, rfl, rfl, rfl, rfl, rfl, rfl, rfl, rfl, rfl, rfl, rfl, rfl, rfl, rfl, rfl, rfl, rfl, rfl, rfl, rfl, rfl, rfl, rfl, trivial⟩ ⟨hS, Nat.zero_le _, Chunks.nil, Chunks.nil⟩ ?_
            clear hS
            rintro ⟨i, va, cs, vb, ds⟩ w13 ⟨hS, hi, hch, hcd⟩
            have hrow : w13.ownsRow w.heap.size 3 1 va (i) _ := hS.rows _ List.mem_cons_self
            obtain ⟨adva, capva, rfl, hr1va, hr2va, hr3va⟩ := row_shape hrow
            clear hrow
            have hrow : w13.ownsRow w.heap.size 3 1 vb (i) _ := hS.rows _ (List.mem_cons_of_mem _ List.mem_cons_self)
            obtain ⟨advb, capvb, rfl, hr1vb, hr2vb, hr3vb⟩ := row_shape hrow
            clear hrow
            refine W.seq ?_
            refine W.seq ?_
            refine W.region ?_
            refine WL.move rfl rfl rfl ?_
            refine WL.move rfl rfl rfl ?_
            refine WL.lenSlice Try.underlying29 rfl rfl rfl ?_
            refine WL.bin rfl rfl rfl rfl rfl ?_
            refine WL.nil ?_
            refine N.seq ?_
            refine W.cond rfl (fun hc14 => ?_) (fun hc14 => ?_)
            ·
              have hc14p : (i : Int) < (G.length : Int) := by simpa using hc14
              refine W.skip ?_
              refine N.seq ?_
              refine W.seq ?_
              refine W.block ?_
              refine W.seq ?_
              refine W.region ?_
              refine WL.move rfl rfl rfl ?_
              refine WL.move rfl rfl rfl ?_
              refine WL.move rfl rfl rfl ?_
              have hj15 : i < G.length := by omega
              obtain ⟨x15, hx15⟩ : ∃ zz, G[i]? = some zz := ⟨_, List.getElem?_eq_getElem hj15⟩
              obtain ⟨b15, o15, cs15, hE15, hr15, hl15, hc15, hQ15⟩ := hvld i _ hx15
              obtain ⟨rfl, hi15⟩ := hQ15
              refine WL.indexAddrE (j := i) Try.underlying29 isz_3 rfl rfl rfl rfl hj15 hE15 ?_
              refine WL.load1 (v := .int .i64 x15) one_3 rfl rfl rfl (hS.roCells hr15 hc15 0 _ rfl) ?_
              have hrq := hgr _ (List.mem_of_getElem? hx15)
              refine WL.mul (c := 2 * x15) rfl rfl rfl rfl rfl (by omega) ?_
              refine WL.move rfl rfl rfl ?_
              refine WL.add (c := (2 * x15) + n) rfl rfl rfl rfl (rfl) (by omega) ?_
              refine WL.buildSlice (ps := [(0, .int .i64 ((2 * x15) + n))]) (cs := [.int .i64 ((2 * x15) + n)]) Try.underlying29 (tyZero_spec zer_3) rfl rfl rfl rfl (by kernel_rfl) hS ?_
              clear hS; intro w17 b16 hb_b16 hS
              refine WL.append (r := ⟨.slice adva i capva, 3, 1, i, cs⟩) (cs := [.int .i64 ((2 * x15) + n)]) 8 Try.underlying29 (tyZero_spec zer_3) byt_3 rfl rfl rfl rfl rfl rfl rfl rfl rfl hS (by unfold maxLen; simp only; omega) (by simp only; omega) ?_
              clear hS; intro w18 v19 hn_v19 hS
              have hrow : w18.ownsRow w.heap.size 3 1 v19 (i + 1) _ := hS.rows _ List.mem_cons_self
              obtain ⟨av19, cv19, rfl, hc1_v19, hc2_v19, hc3_v19⟩ := row_shape hrow
              clear hrow
              refine WL.assign rfl rfl rfl ?_
              refine WL.nil ?_
              refine N.seq ?_
              refine W.region ?_
              refine WL.move rfl rfl rfl ?_
              refine WL.move rfl rfl rfl ?_
              refine WL.buildSlice (ps := [(0, .int .i64 (i : Int))]) (cs := [.int .i64 (i : Int)]) Try.underlying29 (tyZero_spec zer_3) rfl rfl rfl rfl (by kernel_rfl) hS ?_
              clear hS; intro w21 b20 hb_b20 hS
              replace hS := hS.permR (List.Perm.swap _ _ _)
              refine WL.append (r := ⟨.slice advb i capvb, 3, 1, i, ds⟩) (cs := [.int .i64 (i : Int)]) 8 Try.underlying29 (tyZero_spec zer_3) byt_3 rfl rfl rfl rfl rfl rfl rfl rfl rfl hS (by unfold maxLen; simp only; omega) (by simp only; omega) ?_
              clear hS; intro w22 v23 hn_v23 hS
              have hrow : w22.ownsRow w.heap.size 3 1 v23 (i + 1) _ := hS.rows _ List.mem_cons_self
              obtain ⟨av23, cv23, rfl, hc1_v23, hc2_v23, hc3_v23⟩ := row_shape hrow
              clear hrow
              refine WL.assign rfl rfl rfl ?_
              refine WL.nil ?_
              refine N.blk ?_
              refine N.seq ?_
              refine W.region ?_
              refine WL.move rfl rfl rfl ?_
              refine WL.add (c := (i : Int) + 1) rfl rfl rfl rfl (rfl) (by omega) ?_
              refine WL.assign rfl rfl rfl ?_
              refine WL.nil ?_
              replace hS := hS.permR (List.Perm.swap _ _ _)
              have hrx := hgr _ (List.mem_of_getElem? hx15)
              exact N.loop (i + 1, .slice av19 (i + 1) cv19, cs ++ ([.int .i64 ((2 * x15) + n)] : List Value), .slice av23 (i + 1) cv23, ds ++ ([.int .i64 (i : Int)] : List Value)) ⟨rfl, rfl, rfl, rfl, rfl, rfl, rfl, rfl, rfl, rfl, rfl, rfl, rfl, rfl, rfl, rfl, rfl, rfl, rfl, rfl, rfl, rfl, rfl, rfl, rfl, rfl, rfl, rfl, rfl, rfl, rfl, rfl, rfl, rfl, rfl, rfl, rfl, rfl, rfl, rfl, rfl, trivial⟩ ⟨hS, by omega, by rw [take_next hx15, List.map_append]; exact hch.snoc rfl ⟨rfl, by show inI (2 * x15 + n); unfold inI; omega⟩, by rw [List.range_succ, List.map_append]; exact hcd.snoc rfl ⟨rfl, by show inI ((i : Nat) : Int); unfold inI; omega⟩⟩ (by first | omega | (simp only; omega))
            ·
              have hc14p : ¬ ((i : Int) < (G.length : Int)) := by simpa using hc14
              refine W.exit ?_
              refine X.seq ?_
              refine X.loop ?_
              refine X.blk ?_
              refine N.seq ?_
              refine W.seq ?_
              refine W.region ?_
              refine WL.move rfl rfl rfl ?_
              refine WL.move rfl rfl rfl ?_
              refine WL.fieldAddr fo_24_3 rfl rfl rfl ?_
              refine WL.load1 (v := .slice adbF f.blocks.length capbF) one_22 rfl rfl rfl (hS.cell 0 rfl rfl) ?_
              refine WL.move rfl rfl rfl ?_
              refine WL.set 68 (v' := .int .i64 (k.toNat : Int)) rfl (by congr 1; omega) ?_
              refine WL.indexAddrE (j := k.toNat) Try.underlying22 isz_33 rfl rfl rfl rfl hj10 hE10 ?_
              refine WL.loadN (cs := [.int .i64 x10.params, .slice adi10 x10.ins.length capi10, .int .i64 x10.fin.kind, .int .i64 x10.fin.a, .int .i64 x10.fin.to, .slice adp10 x10.fin.args.length capp10, .int .i64 x10.fin.els, .slice adq10 x10.fin.elses.length capq10]) agg_33 rfl rfl rfl rfl (hS.roCells hr10 hc10) ?_
              refine WL.move rfl rfl rfl ?_
              have hie : i = G.length := by omega
              have hch2 := hch; have hcd2 := hcd
              rw [hie, List.take_length] at hch2; rw [hie] at hcd2
              have hal24 := hS.giveRowAlike
              replace hsub : ∀ b, (fun x => (roFrom ro w4 w11) x ∨ (.slice adva i capva : Value).ownBlock = some x) b → ro b ∨ w.heap.size ≤ b := fun b hb => hb.elim (hsub b) (fun h => .inr (hS.giveRowLe b h))
              replace halT := halT.trans hal24
              replace hx := hx.keep hal24
              replace hbkFd : Elems (fun x => (roFrom ro w4 w11) x ∨ (.slice adva i capva : Value).ownBlock = some x) w13 8 (BlockC (fun x => (roFrom ro w4 w11) x ∨ (.slice adva i capva : Value).ownBlock = some x) w13) adbF f.blocks := hbkFd.keep hal24 (fun _ _ h => h.keep hal24)
              replace hblF : SlV (fun x => (roFrom ro w4 w11) x ∨ (.slice adva i capva : Value).ownBlock = some x) w13 8 (BlockC (fun x => (roFrom ro w4 w11) x ∨ (.slice adva i capva : Value).ownBlock = some x) w13) (.slice adbF f.blocks.length capbF) f.blocks := SlV.keep hblF hal24 (fun _ _ h => h.keep hal24)
              replace hQ10 := hQ10.keep hal24
              replace hin10d : Elems (fun x => (roFrom ro w4 w11) x ∨ (.slice adva i capva : Value).ownBlock = some x) w13 6 (InstC (fun x => (roFrom ro w4 w11) x ∨ (.slice adva i capva : Value).ownBlock = some x) w13) adi10 x10.ins := hin10d.keep hal24 (fun _ _ h => h.keep hal24)
              replace hin10 : SlV (fun x => (roFrom ro w4 w11) x ∨ (.slice adva i capva : Value).ownBlock = some x) w13 6 (InstC (fun x => (roFrom ro w4 w11) x ∨ (.slice adva i capva : Value).ownBlock = some x) w13) (.slice adi10 x10.ins.length capi10) x10.ins := SlV.keep hin10 hal24 (fun _ _ h => h.keep hal24)
              replace hfin10 := hfin10.keep hal24
              replace htp10d : Elems (fun x => (roFrom ro w4 w11) x ∨ (.slice adva i capva : Value).ownBlock = some x) w13 1 IntC adp10 x10.fin.args := htp10d.keep hal24 (fun _ _ h => h)
              replace ht110 : SlV (fun x => (roFrom ro w4 w11) x ∨ (.slice adva i capva : Value).ownBlock = some x) w13 1 IntC (.slice adp10 x10.fin.args.length capp10) x10.fin.args := SlV.keep ht110 hal24 (fun _ _ h => h)
              replace htq10d : Elems (fun x => (roFrom ro w4 w11) x ∨ (.slice adva i capva : Value).ownBlock = some x) w13 1 IntC adq10 x10.fin.elses := htq10d.keep hal24 (fun _ _ h => h)
              replace ht210 : SlV (fun x => (roFrom ro w4 w11) x ∨ (.slice adva i capva : Value).ownBlock = some x) w13 1 IntC (.slice adq10 x10.fin.elses.length capq10) x10.fin.elses := SlV.keep ht210 hal24 (fun _ _ h => h)
              replace hvld : Elems (fun x => (roFrom ro w4 w11) x ∨ (.slice adva i capva : Value).ownBlock = some x) w13 1 IntC adl G := hvld.keep hal24 (fun _ _ h => h)
              replace hvl : SlV (fun x => (roFrom ro w4 w11) x ∨ (.slice adva i capva : Value).ownBlock = some x) w13 1 IntC (.slice adl G.length capl) G := SlV.keep hvl hal24 (fun _ _ h => h)
              replace hc10 := hc10.keep (hal24 _ hr10).2
              replace hr10 := (hal24 _ hr10).1
              have hrow25 := hS.rows _ List.mem_cons_self
              replace hS := hS.giveRow
              have hoa : SlV (fun x => (roFrom ro w4 w11) x ∨ (.slice adva i capva : Value).ownBlock = some x) w13 1 IntC (.slice adva i capva) (G.map fun x => 2 * x + n) := row_slv hrow25 hch2 (by simp; exact hie) (fun b hb => .inr hb)
              have hal26 := hS.giveRowAlike
              replace hsub : ∀ b, (fun x => (fun x => (roFrom ro w4 w11) x ∨ (.slice adva i capva : Value).ownBlock = some x) x ∨ (.slice advb i capvb : Value).ownBlock = some x) b → ro b ∨ w.heap.size ≤ b := fun b hb => hb.elim (hsub b) (fun h => .inr (hS.giveRowLe b h))
              replace halT := halT.trans hal26
              replace hx := hx.keep hal26
              replace hbkFd : Elems (fun x => (fun x => (roFrom ro w4 w11) x ∨ (.slice adva i capva : Value).ownBlock = some x) x ∨ (.slice advb i capvb : Value).ownBlock = some x) w13 8 (BlockC (fun x => (fun x => (roFrom ro w4 w11) x ∨ (.slice adva i capva : Value).ownBlock = some x) x ∨ (.slice advb i capvb : Value).ownBlock = some x) w13) adbF f.blocks := hbkFd.keep hal26 (fun _ _ h => h.keep hal26)
              replace hblF : SlV (fun x => (fun x => (roFrom ro w4 w11) x ∨ (.slice adva i capva : Value).ownBlock = some x) x ∨ (.slice advb i capvb : Value).ownBlock = some x) w13 8 (BlockC (fun x => (fun x => (roFrom ro w4 w11) x ∨ (.slice adva i capva : Value).ownBlock = some x) x ∨ (.slice advb i capvb : Value).ownBlock = some x) w13) (.slice adbF f.blocks.length capbF) f.blocks := SlV.keep hblF hal26 (fun _ _ h => h.keep hal26)
              replace hQ10 := hQ10.keep hal26
              replace hin10d : Elems (fun x => (fun x => (roFrom ro w4 w11) x ∨ (.slice adva i capva : Value).ownBlock = some x) x ∨ (.slice advb i capvb : Value).ownBlock = some x) w13 6 (InstC (fun x => (fun x => (roFrom ro w4 w11) x ∨ (.slice adva i capva : Value).ownBlock = some x) x ∨ (.slice advb i capvb : Value).ownBlock = some x) w13) adi10 x10.ins := hin10d.keep hal26 (fun _ _ h => h.keep hal26)
              replace hin10 : SlV (fun x => (fun x => (roFrom ro w4 w11) x ∨ (.slice adva i capva : Value).ownBlock = some x) x ∨ (.slice advb i capvb : Value).ownBlock = some x) w13 6 (InstC (fun x => (fun x => (roFrom ro w4 w11) x ∨ (.slice adva i capva : Value).ownBlock = some x) x ∨ (.slice advb i capvb : Value).ownBlock = some x) w13) (.slice adi10 x10.ins.length capi10) x10.ins := SlV.keep hin10 hal26 (fun _ _ h => h.keep hal26)
              replace hfin10 := hfin10.keep hal26
              replace htp10d : Elems (fun x => (fun x => (roFrom ro w4 w11) x ∨ (.slice adva i capva : Value).ownBlock = some x) x ∨ (.slice advb i capvb : Value).ownBlock = some x) w13 1 IntC adp10 x10.fin.args := htp10d.keep hal26 (fun _ _ h => h)
              replace ht110 : SlV (fun x => (fun x => (roFrom ro w4 w11) x ∨ (.slice adva i capva : Value).ownBlock = some x) x ∨ (.slice advb i capvb : Value).ownBlock = some x) w13 1 IntC (.slice adp10 x10.fin.args.length capp10) x10.fin.args := SlV.keep ht110 hal26 (fun _ _ h => h)
              replace htq10d : Elems (fun x => (fun x => (roFrom ro w4 w11) x ∨ (.slice adva i capva : Value).ownBlock = some x) x ∨ (.slice advb i capvb : Value).ownBlock = some x) w13 1 IntC adq10 x10.fin.elses := htq10d.keep hal26 (fun _ _ h => h)
              replace ht210 : SlV (fun x => (fun x => (roFrom ro w4 w11) x ∨ (.slice adva i capva : Value).ownBlock = some x) x ∨ (.slice advb i capvb : Value).ownBlock = some x) w13 1 IntC (.slice adq10 x10.fin.elses.length capq10) x10.fin.elses := SlV.keep ht210 hal26 (fun _ _ h => h)
              replace hvld : Elems (fun x => (fun x => (roFrom ro w4 w11) x ∨ (.slice adva i capva : Value).ownBlock = some x) x ∨ (.slice advb i capvb : Value).ownBlock = some x) w13 1 IntC adl G := hvld.keep hal26 (fun _ _ h => h)
              replace hvl : SlV (fun x => (fun x => (roFrom ro w4 w11) x ∨ (.slice adva i capva : Value).ownBlock = some x) x ∨ (.slice advb i capvb : Value).ownBlock = some x) w13 1 IntC (.slice adl G.length capl) G := SlV.keep hvl hal26 (fun _ _ h => h)
              replace hoa : SlV (fun x => (fun x => (roFrom ro w4 w11) x ∨ (.slice adva i capva : Value).ownBlock = some x) x ∨ (.slice advb i capvb : Value).ownBlock = some x) w13 1 IntC (.slice adva i capva) (G.map fun x => 2 * x + n) := SlV.keep hoa hal26 (fun _ _ h => h)
              replace hc10 := hc10.keep (hal26 _ hr10).2
              replace hr10 := (hal26 _ hr10).1
              have hrow27 := hS.rows _ List.mem_cons_self
              replace hS := hS.giveRow
              have hob : SlV (fun x => (fun x => (roFrom ro w4 w11) x ∨ (.slice adva i capva : Value).ownBlock = some x) x ∨ (.slice advb i capvb : Value).ownBlock = some x) w13 1 IntC (.slice advb i capvb) ((List.range G.length).map fun x : Nat => (x : Int)) := row_slv hrow27 hcd2 (by simp; exact hie) (fun b hb => .inr hb)
              refine WL.callF (vs := [.agg #[.int .i64 x10.params, .slice adi10 x10.ins.length capi10, .int .i64 x10.fin.kind, .int .i64 x10.fin.a, .int .i64 x10.fin.to, .slice adp10 x10.fin.args.length capp10, .int .i64 x10.fin.els, .slice adq10 x10.fin.elses.length capq10], .slice adva i capva]) Try.func13 (by kernel_rfl) rfl rfl rfl (apart16_ret x10 _ _ _ (ro := (fun x => (fun x => (roFrom ro w4 w11) x ∨ (.slice adva i capva : Value).ownBlock = some x) x ∨ (.slice advb i capvb : Value).ownBlock = some x)) (fun b hb => (hS.snap b hb).1) (hQ10.keep hS.alike) (SlV.keep hoa hS.alike (fun _ _ q => q)) hok6 (rapart_map hap (by omega))) ?_
              rintro v w28 ⟨rfl, hbl⟩
              replace hS := hS.grow hbl
              refine WL.pick (v := .bool true) rfl rfl rfl rfl rfl rfl ?_
              refine WL.move rfl rfl rfl ?_
              refine WL.fieldAddr fo_24_3 rfl rfl rfl ?_
              refine WL.load1 (v := .slice adbF f.blocks.length capbF) one_22 rfl rfl rfl (hS.cell 0 rfl rfl) ?_
              refine WL.move rfl rfl rfl ?_
              refine WL.set 77 (v' := .int .i64 (k.toNat : Int)) rfl (by congr 1; omega) ?_
              refine WL.indexAddrE (j := k.toNat) Try.underlying22 isz_33 rfl rfl rfl rfl hj10 hE10 ?_
              refine WL.loadN (cs := [.int .i64 x10.params, .slice adi10 x10.ins.length capi10, .int .i64 x10.fin.kind, .int .i64 x10.fin.a, .int .i64 x10.fin.to, .slice adp10 x10.fin.args.length capp10, .int .i64 x10.fin.els, .slice adq10 x10.fin.elses.length capq10]) agg_33 rfl rfl rfl rfl (hS.roCells hr10 hc10) ?_
              refine WL.move rfl rfl rfl ?_
              refine WL.callF (vs := [.agg #[.int .i64 x10.params, .slice adi10 x10.ins.length capi10, .int .i64 x10.fin.kind, .int .i64 x10.fin.a, .int .i64 x10.fin.to, .slice adp10 x10.fin.args.length capp10, .int .i64 x10.fin.els, .slice adq10 x10.fin.elses.length capq10], .slice advb i capvb]) Try.func13 (by kernel_rfl) rfl rfl rfl (apart16_ret x10 _ _ _ (ro := (fun x => (fun x => (roFrom ro w4 w11) x ∨ (.slice adva i capva : Value).ownBlock = some x) x ∨ (.slice advb i capvb : Value).ownBlock = some x)) (fun b hb => (hS.snap b hb).1) (hQ10.keep hS.alike) (SlV.keep hob hS.alike (fun _ _ q => q)) hok6 (rapart_one (by rw [hgl, last16_length]))) ?_
              rintro v w29 ⟨rfl, hbl⟩
              replace hS := hS.grow hbl
              refine WL.pick (v := .bool true) rfl rfl rfl rfl rfl rfl ?_
              refine WL.assign rfl rfl rfl ?_
              refine WL.nil ?_
              refine N.seq ?_
              refine Fin.ret1 rfl (v := .bool true) rfl ?_
              exact ⟨rfl, hS.below⟩
        ·
          have hg8p : n < 0 := by simpa using hg8
          refine WL.skp rfl rfl ?_
          refine WL.skp rfl rfl ?_
          refine WL.pick (v := .bool true) rfl rfl rfl rfl rfl rfl ?_
          refine WL.nil ?_
          refine N.seq ?_
          refine W.condT rfl ?_
          refine W.seq ?_
          refine W.region ?_
          refine WL.move rfl rfl rfl ?_
          refine WL.assign rfl rfl rfl ?_
          refine WL.nil ?_
          refine N.seq ?_
          refine Fin.ret1 rfl (v := .bool true) rfl ?_
          exact ⟨rfl, hS.below⟩
      ·
        have hg7p : (f.blocks.length : Int) ≤ k := by simpa using hg7
        refine WL.skp rfl rfl ?_
        refine WL.skp rfl rfl ?_
        refine WL.pick (v := .bool true) rfl rfl rfl rfl rfl rfl ?_
        refine WL.move rfl rfl rfl ?_
        refine WL.skp rfl rfl ?_
        refine WL.skp rfl rfl ?_
        refine WL.pick (v := .bool true) rfl rfl rfl rfl rfl rfl ?_
        refine WL.nil ?_
        refine N.seq ?_
        refine W.condT rfl ?_
        refine W.seq ?_
        refine W.region ?_
        refine WL.move rfl rfl rfl ?_
        refine WL.assign rfl rfl rfl ?_
        refine WL.nil ?_
        refine N.seq ?_
        refine Fin.ret1 rfl (v := .bool true) rfl ?_
        exact ⟨rfl, hS.below⟩
    ·
      have hg6p : k < 0 := by simpa using hg6
      refine WL.skp rfl rfl ?_
      refine WL.skp rfl rfl ?_
      refine WL.skp rfl rfl ?_
      refine WL.skp rfl rfl ?_
      refine WL.skp rfl rfl ?_
      refine WL.pick (v := .bool true) rfl rfl rfl rfl rfl rfl ?_
      refine WL.move rfl rfl rfl ?_
      refine WL.skp rfl rfl ?_
      refine WL.skp rfl rfl ?_
      refine WL.pick (v := .bool true) rfl rfl rfl rfl rfl rfl ?_
      refine WL.move rfl rfl rfl ?_
      refine WL.skp rfl rfl ?_
      refine WL.skp rfl rfl ?_
      refine WL.pick (v := .bool true) rfl rfl rfl rfl rfl rfl ?_
      refine WL.nil ?_
      refine N.seq ?_
      refine W.condT rfl ?_
      refine W.seq ?_
      refine W.region ?_
      refine WL.move rfl rfl rfl ?_
      refine WL.assign rfl rfl rfl ?_
      refine WL.nil ?_
      refine N.seq ?_
      refine Fin.ret1 rfl (v := .bool true) rfl ?_
      exact ⟨rfl, hS.below⟩
  ·
    refine WL.skp rfl rfl ?_
    refine WL.skp rfl rfl ?_
    refine WL.pick (v := .bool true) rfl rfl rfl rfl rfl rfl ?_
    refine WL.move rfl rfl rfl ?_
    refine WL.skp rfl rfl ?_
    refine WL.skp rfl rfl ?_
    refine WL.skp rfl rfl ?_
    refine WL.skp rfl rfl ?_
    refine WL.skp rfl rfl ?_
    refine WL.pick (v := .bool true) rfl rfl rfl rfl rfl rfl ?_
    refine WL.move rfl rfl rfl ?_
    refine WL.skp rfl rfl ?_
    refine WL.skp rfl rfl ?_
    refine WL.pick (v := .bool true) rfl rfl rfl rfl rfl rfl ?_
    refine WL.move rfl rfl rfl ?_
    refine WL.skp rfl rfl ?_
    refine WL.skp rfl rfl ?_
    refine WL.pick (v := .bool true) rfl rfl rfl rfl rfl rfl ?_
    refine WL.nil ?_
    refine N.seq ?_
    refine W.condT rfl ?_
    refine W.seq ?_
    refine W.region ?_
    refine WL.move rfl rfl rfl ?_
    refine WL.assign rfl rfl rfl ?_
    refine WL.nil ?_
    refine N.seq ?_
    refine Fin.ret1 rfl (v := .bool true) rfl ?_
    exact ⟨rfl, hS.below⟩

end Go.Proofs.Ytkgmijhcaclpoaa
