/-
  Contracts of layer 16 (slot). No condition beyond those that each theorem states.
-/
import Derived.Test.YtkgmijhcaclpoaaS5
namespace Go.Proofs.Ytkgmijhcaclpoaa
open Go.RowKit

set_option maxRecDepth 10000 in
set_option maxHeartbeats 2000000 in
theorem slotApart_ret (f : DFunc) (cf : List Value) (k : Int) (hki : inI k) {w : World} {ro : Nat → Prop} (hro : ∀ b, ro b → b < w.heap.size) (hx : FuncC ro w cf f) (hok : okFunc f) : Ret Try.prog 3 #[.agg cf.toArray, .int .i64 k] w fun v w' => v = .bool true ∧ Below w.heap.size w w' := by
  obtain ⟨sbF, rfl, hblF, hnmF, hbdF, hprF⟩ := id hx
  obtain ⟨adbF, capbF, rfl, hbkFa, hbkFb, hbkFc, hbkFd⟩ := id hblF
  have hbkFm : f.blocks.length ≤ 9223372036854775807 := by have h1 := hbkFa; have h2 := hbkFb; unfold maxLen at h2; omega
  refine Ret.enter (P := Try.prog) (n := 39) (args := [.agg #[.string f.name, .int .i64 f.bind, .int .i64 f.params, .slice adbF f.blocks.length capbF], .int .i64 k]) (σ := [(0, .agg #[.string f.name, .int .i64 f.bind, .int .i64 f.params, .slice adbF f.blocks.length capbF]), (1, .int .i64 k)]) Try.func3 rfl rfl rfl rfl ?_
  have hS := St.start (ro := ro) hro
  refine W.seq ?_
  refine W.region ?_
  refine WL.box (v := .agg #[.string f.name, .int .i64 f.bind, .int .i64 f.params, .slice adbF f.blocks.length capbF]) (cs := [.string f.name, .int .i64 f.bind, .int .i64 f.params, .slice adbF f.blocks.length capbF]) rfl rfl rfl rfl hS ?_
  clear hS; intro w2 b1 hb_b1 hS
  refine WL.assign rfl rfl rfl ?_
  refine WL.nil ?_
  refine N.seq ?_
  refine W.seq ?_
  refine W.region ?_
  refine WL.callF (vs := []) Try.func7 (by kernel_rfl) rfl rfl rfl (shown16_ret (ro := ro) (fun b hb => (hS.snap b hb).1)) ?_
  rintro v w3 ⟨rfl, hbl⟩
  replace hS := hS.grow hbl
  refine WL.assign rfl rfl rfl ?_
  refine WL.nil ?_
  refine N.seq ?_
  refine W.seq ?_
  refine W.region ?_
  refine WL.loadN (cs := [.string f.name, .int .i64 f.bind, .int .i64 f.params, .slice adbF f.blocks.length capbF]) agg_24 rfl rfl rfl rfl (hS.cells 0 (m := 4) rfl rfl) ?_
  refine WL.callF (vs := [.agg #[.string f.name, .int .i64 f.bind, .int .i64 f.params, .slice adbF f.blocks.length capbF]]) Try.func8 (by kernel_rfl) rfl rfl rfl (func5_ret f _ (ro := ro) (fun b hb => (hS.snap b hb).1) (hx.keep hS.alike) hok) ?_
  rintro v w4 ⟨rfl, hbl⟩
  replace hS := hS.grow hbl
  refine WL.assign rfl rfl rfl ?_
  refine WL.nil ?_
  refine N.seq ?_
  refine W.seq ?_
  refine W.seq ?_
  refine W.region ?_
  refine WL.move rfl rfl rfl ?_
  refine WL.not rfl rfl rfl ?_
  refine WL.move rfl rfl rfl ?_
  cases hg5 : (!(func5 f))
  ·
    refine WL.move rfl rfl rfl ?_
    refine WL.bin rfl rfl rfl rfl rfl ?_
    refine WL.pick (v := .bool (decide (k < 0))) rfl rfl rfl rfl rfl rfl ?_
    refine WL.move rfl rfl rfl ?_
    cases hg6 : (decide (k < 0))
    ·
      have hg6p : ¬ (k < 0) := by simpa using hg6
      refine WL.move rfl rfl rfl ?_
      refine WL.fieldAddr fo_24_3 rfl rfl rfl ?_
      refine WL.load1 (v := .slice adbF f.blocks.length capbF) one_22 rfl rfl rfl (hS.cell 0 rfl rfl) ?_
      refine WL.lenSlice Try.underlying22 rfl rfl rfl ?_
      refine WL.bin rfl rfl rfl rfl rfl ?_
      refine WL.pick (v := .bool (decide ((f.blocks.length : Int) ≤ k))) rfl rfl rfl rfl rfl rfl ?_
      refine WL.nil ?_
      refine N.seq ?_
      refine W.cond rfl (fun hc7 => ?_) (fun hc7 => ?_)
      ·
        have hc7p : (f.blocks.length : Int) ≤ k := by simpa using hc7
        refine W.seq ?_
        refine W.region ?_
        refine WL.move rfl rfl rfl ?_
        refine WL.assign rfl rfl rfl ?_
        refine WL.nil ?_
        refine N.seq ?_
        refine Fin.ret1 rfl (v := .bool true) rfl ?_
        exact ⟨rfl, hS.below⟩
      ·
        have hc7p : ¬ ((f.blocks.length : Int) ≤ k) := by simpa using hc7
        refine W.skip ?_
        refine N.seq ?_
        refine W.seq ?_
        have hf5 : func5 f = true := by simpa using hg5
        have hj8 : k.toNat < f.blocks.length := by omega
        obtain ⟨x8, hx8⟩ : ∃ zz, f.blocks[k.toNat]? = some zz := ⟨_, List.getElem?_eq_getElem hj8⟩
        obtain ⟨b8, o8, cs8, hE8, hr8, hl8, hc8, hQ8⟩ := hbkFd k.toNat _ hx8
        obtain ⟨si8, tsx8, rfl, hin8, hfin8, hpar8⟩ := id hQ8
        obtain ⟨adi8, capi8, rfl, hin8a, hin8b, hin8c, hin8d⟩ := id hin8
        have hin8m : x8.ins.length ≤ 9223372036854775807 := by have h1 := hin8a; have h2 := hin8b; unfold maxLen at h2; omega
        obtain ⟨sp8, sq8, rfl, ht18, ht28, htk8, hta8, htt8, hte8⟩ := id hfin8
        obtain ⟨adp8, capp8, rfl, htp8a, htp8b, htp8c, htp8d⟩ := id ht18
        have htp8m : x8.fin.args.length ≤ 9223372036854775807 := by have h1 := htp8a; have h2 := htp8b; unfold maxLen at h2; omega
        obtain ⟨adq8, capq8, rfl, htq8a, htq8b, htq8c, htq8d⟩ := id ht28
        have htq8m : x8.fin.elses.length ≤ 9223372036854775807 := by have h1 := htq8a; have h2 := htq8b; unfold maxLen at h2; omega
        have hok6 := ok16_of5 hf5 (List.mem_of_getElem? hx8)
        refine W.drawP (by kernel_rfl) 15 [(fun v _ => v = .bool true), (fun v _ => v = .bool true), (fun v _ => v = .pointer (some ⟨b1, 3, none⟩)), (fun v _ => v = .slice adbF f.blocks.length capbF), (fun v _ => v = .int .i64 k), (fun v _ => v = .pointer (some ⟨b8, o8 + k.toNat * 8, none⟩)), (fun v _ => v = .agg #[.int .i64 x8.params, .slice adi8 x8.ins.length capi8, .int .i64 x8.fin.kind, .int .i64 x8.fin.a, .int .i64 x8.fin.to, .slice adp8 x8.fin.args.length capp8, .int .i64 x8.fin.els, .slice adq8 x8.fin.elses.length capq8]), (fun v _ => v = .pointer (some ⟨b1, 3, none⟩)), (fun v _ => v = .slice adbF f.blocks.length capbF), (fun v _ => v = .int .i64 k), (fun v _ => v = .pointer (some ⟨b8, o8 + k.toNat * 8, none⟩)), (fun v _ => v = .agg #[.int .i64 x8.params, .slice adi8 x8.ins.length capi8, .int .i64 x8.fin.kind, .int .i64 x8.fin.a, .int .i64 x8.fin.to, .slice adp8 x8.fin.args.length capp8, .int .i64 x8.fin.els, .slice adq8 x8.fin.elses.length capq8]), (fun v u => SlV (fun b => w4.heap.size ≤ b ∧ b < u.heap.size) u 1 IntC v (give16 x8)), (fun v _ => v = .bool true), (fun v _ => v = .bool true)] (by kernel_rfl) rfl (by kernel_rfl) [(0, .agg #[.string f.name, .int .i64 f.bind, .int .i64 f.params, .slice adbF f.blocks.length capbF]), (1, .int .i64 k), (2, .pointer (some ⟨b1, 0, none⟩)), (4, .bool false), (5, .bool true), (6, .bool (func5 f)), (7, .bool true), (8, .agg #[.string f.name, .int .i64 f.bind, .int .i64 f.params, .slice adbF f.blocks.length capbF]), (9, .bool (func5 f)), (10, .bool (func5 f)), (11, .bool false), (12, .bool false), (13, .int .i64 k), (14, .bool false), (15, .bool false), (16, .bool false), (17, .int .i64 k), (18, .pointer (some ⟨b1, 3, none⟩)), (19, .slice adbF f.blocks.length capbF), (20, .int .i64 (f.blocks.length : Int)), (21, .bool (decide ((f.blocks.length : Int) ≤ k))), (22, .bool (decide ((f.blocks.length : Int) ≤ k)))] ⟨rfl, rfl, rfl, rfl, rfl, rfl, rfl, rfl, rfl, rfl, rfl, rfl, rfl, rfl, rfl, rfl, rfl, rfl, rfl, rfl, rfl, rfl, trivial⟩ rfl ⟨stays_eq, stays_eq, stays_eq, stays_eq, stays_eq, stays_eq, stays_eq, stays_eq, stays_eq, stays_eq, stays_eq, stays_eq, stays_new, stays_eq, stays_eq, trivial⟩ ?_ ?_
        ·
          refine And.intro (fun β wd hb hD => ?_) ?_
          ·
            refine WL.sub (σ' := [(5, .bool true)]) ⟨rfl, trivial⟩ ?_
            have hS := hS.grow hb
            refine WL.move rfl rfl rfl ?_
            exact WL.nil (N.cut (.bool true) ⟨rfl, trivial⟩ ⟨(Below.refl _ _), rfl⟩)
          refine And.intro (fun β wd hb hD => ?_) ?_
          ·
            obtain ⟨hp0, _⟩ := hD
            replace hp0 : β 0 = .bool true := hp0
            refine WL.sub (σ' := [(24, .bool true)]) ⟨congrArg some hp0, trivial⟩ ?_
            have hS := hS.grow hb
            refine WL.move rfl rfl rfl ?_
            exact WL.nil (N.cut (.bool true) ⟨rfl, trivial⟩ ⟨(Below.refl _ _), rfl⟩)
          refine And.intro (fun β wd hb hD => ?_) ?_
          ·
            obtain ⟨hp1, _⟩ := hD
            replace hp1 : β 1 = .bool true := hp1
            refine WL.sub (σ' := [(2, .pointer (some ⟨b1, 0, none⟩)), (25, .bool true)]) ⟨rfl, congrArg some hp1, trivial⟩ ?_
            have hS := hS.grow hb
            refine WL.fieldAddr fo_24_3 rfl rfl rfl ?_
            exact WL.nil (N.cut (.pointer (some ⟨b1, 3, none⟩)) ⟨rfl, trivial⟩ ⟨(Below.refl _ _), rfl⟩)
          refine And.intro (fun β wd hb hD => ?_) ?_
          ·
            obtain ⟨hp2, hp1, _⟩ := hD
            replace hp2 : β 2 = .pointer (some ⟨b1, 3, none⟩) := hp2
            replace hp1 : β 1 = .bool true := hp1
            refine WL.sub (σ' := [(25, .bool true), (26, .pointer (some ⟨b1, 3, none⟩))]) ⟨congrArg some hp1, congrArg some hp2, trivial⟩ ?_
            have hS := hS.grow hb
            refine WL.load1 (v := .slice adbF f.blocks.length capbF) one_22 rfl rfl rfl (hS.cell 0 rfl rfl) ?_
            exact WL.nil (N.cut (.slice adbF f.blocks.length capbF) ⟨rfl, trivial⟩ ⟨(Below.refl _ _), rfl⟩)
          refine And.intro (fun β wd hb hD => ?_) ?_
          ·
            obtain ⟨hp1, _⟩ := hD
            replace hp1 : β 1 = .bool true := hp1
            refine WL.sub (σ' := [(1, .int .i64 k), (25, .bool true)]) ⟨rfl, congrArg some hp1, trivial⟩ ?_
            have hS := hS.grow hb
            refine WL.move rfl rfl rfl ?_
            exact WL.nil (N.cut (.int .i64 k) ⟨rfl, trivial⟩ ⟨(Below.refl _ _), rfl⟩)
          refine And.intro (fun β wd hb hD => ?_) ?_
          ·
            obtain ⟨hp3, hp4, hp1, _⟩ := hD
            replace hp3 : β 3 = .slice adbF f.blocks.length capbF := hp3
            replace hp4 : β 4 = .int .i64 k := hp4
            replace hp1 : β 1 = .bool true := hp1
            refine WL.sub (σ' := [(25, .bool true), (27, .slice adbF f.blocks.length capbF), (28, .int .i64 k)]) ⟨congrArg some hp1, congrArg some hp3, congrArg some hp4, trivial⟩ ?_
            have hS := hS.grow hb
            refine WL.set 28 (v' := .int .i64 (k.toNat : Int)) rfl (by congr 1; omega) ?_
            refine WL.indexAddrE (j := k.toNat) Try.underlying22 isz_33 rfl rfl rfl rfl hj8 hE8 ?_
            exact WL.nil (N.cut (.pointer (some ⟨b8, o8 + k.toNat * 8, none⟩)) ⟨rfl, trivial⟩ ⟨(Below.refl _ _), rfl⟩)
          refine And.intro (fun β wd hb hD => ?_) ?_
          ·
            obtain ⟨hp5, hp1, _⟩ := hD
            replace hp5 : β 5 = .pointer (some ⟨b8, o8 + k.toNat * 8, none⟩) := hp5
            replace hp1 : β 1 = .bool true := hp1
            refine WL.sub (σ' := [(25, .bool true), (29, .pointer (some ⟨b8, o8 + k.toNat * 8, none⟩))]) ⟨congrArg some hp1, congrArg some hp5, trivial⟩ ?_
            have hS := hS.grow hb
            refine WL.loadN (cs := [.int .i64 x8.params, .slice adi8 x8.ins.length capi8, .int .i64 x8.fin.kind, .int .i64 x8.fin.a, .int .i64 x8.fin.to, .slice adp8 x8.fin.args.length capp8, .int .i64 x8.fin.els, .slice adq8 x8.fin.elses.length capq8]) agg_33 rfl rfl rfl rfl (hS.roCells hr8 hc8) ?_
            exact WL.nil (N.cut (.agg #[.int .i64 x8.params, .slice adi8 x8.ins.length capi8, .int .i64 x8.fin.kind, .int .i64 x8.fin.a, .int .i64 x8.fin.to, .slice adp8 x8.fin.args.length capp8, .int .i64 x8.fin.els, .slice adq8 x8.fin.elses.length capq8]) ⟨rfl, trivial⟩ ⟨(Below.refl _ _), rfl⟩)
          refine And.intro (fun β wd hb hD => ?_) ?_
          ·
            obtain ⟨hp1, _⟩ := hD
            replace hp1 : β 1 = .bool true := hp1
            refine WL.sub (σ' := [(2, .pointer (some ⟨b1, 0, none⟩)), (25, .bool true)]) ⟨rfl, congrArg some hp1, trivial⟩ ?_
            have hS := hS.grow hb
            refine WL.fieldAddr fo_24_3 rfl rfl rfl ?_
            exact WL.nil (N.cut (.pointer (some ⟨b1, 3, none⟩)) ⟨rfl, trivial⟩ ⟨(Below.refl _ _), rfl⟩)
          refine And.intro (fun β wd hb hD => ?_) ?_
          ·
            obtain ⟨hp7, hp1, _⟩ := hD
            replace hp7 : β 7 = .pointer (some ⟨b1, 3, none⟩) := hp7
            replace hp1 : β 1 = .bool true := hp1
            refine WL.sub (σ' := [(25, .bool true), (31, .pointer (some ⟨b1, 3, none⟩))]) ⟨congrArg some hp1, congrArg some hp7, trivial⟩ ?_
            have hS := hS.grow hb
            refine WL.load1 (v := .slice adbF f.blocks.length capbF) one_22 rfl rfl rfl (hS.cell 0 rfl rfl) ?_
            exact WL.nil (N.cut (.slice adbF f.blocks.length capbF) ⟨rfl, trivial⟩ ⟨(Below.refl _ _), rfl⟩)
          refine And.intro (fun β wd hb hD => ?_) ?_
          ·
            obtain ⟨hp1, _⟩ := hD
            replace hp1 : β 1 = .bool true := hp1
            refine WL.sub (σ' := [(1, .int .i64 k), (25, .bool true)]) ⟨rfl, congrArg some hp1, trivial⟩ ?_
            have hS := hS.grow hb
            refine WL.move rfl rfl rfl ?_
            exact WL.nil (N.cut (.int .i64 k) ⟨rfl, trivial⟩ ⟨(Below.refl _ _), rfl⟩)
          refine And.intro (fun β wd hb hD => ?_) ?_
          ·
            obtain ⟨hp8, hp9, hp1, _⟩ := hD
            replace hp8 : β 8 = .slice adbF f.blocks.length capbF := hp8
            replace hp9 : β 9 = .int .i64 k := hp9
            replace hp1 : β 1 = .bool true := hp1
            refine WL.sub (σ' := [(25, .bool true), (32, .slice adbF f.blocks.length capbF), (33, .int .i64 k)]) ⟨congrArg some hp1, congrArg some hp8, congrArg some hp9, trivial⟩ ?_
            have hS := hS.grow hb
            refine WL.set 33 (v' := .int .i64 (k.toNat : Int)) rfl (by congr 1; omega) ?_
            refine WL.indexAddrE (j := k.toNat) Try.underlying22 isz_33 rfl rfl rfl rfl hj8 hE8 ?_
            exact WL.nil (N.cut (.pointer (some ⟨b8, o8 + k.toNat * 8, none⟩)) ⟨rfl, trivial⟩ ⟨(Below.refl _ _), rfl⟩)
          refine And.intro (fun β wd hb hD => ?_) ?_
          ·
            obtain ⟨hp10, hp1, _⟩ := hD
            replace hp10 : β 10 = .pointer (some ⟨b8, o8 + k.toNat * 8, none⟩) := hp10
            replace hp1 : β 1 = .bool true := hp1
            refine WL.sub (σ' := [(25, .bool true), (34, .pointer (some ⟨b8, o8 + k.toNat * 8, none⟩))]) ⟨congrArg some hp1, congrArg some hp10, trivial⟩ ?_
            have hS := hS.grow hb
            refine WL.loadN (cs := [.int .i64 x8.params, .slice adi8 x8.ins.length capi8, .int .i64 x8.fin.kind, .int .i64 x8.fin.a, .int .i64 x8.fin.to, .slice adp8 x8.fin.args.length capp8, .int .i64 x8.fin.els, .slice adq8 x8.fin.elses.length capq8]) agg_33 rfl rfl rfl rfl (hS.roCells hr8 hc8) ?_
            exact WL.nil (N.cut (.agg #[.int .i64 x8.params, .slice adi8 x8.ins.length capi8, .int .i64 x8.fin.kind, .int .i64 x8.fin.a, .int .i64 x8.fin.to, .slice adp8 x8.fin.args.length capp8, .int .i64 x8.fin.els, .slice adq8 x8.fin.elses.length capq8]) ⟨rfl, trivial⟩ ⟨(Below.refl _ _), rfl⟩)
          refine And.intro (fun β wd hb hD => ?_) ?_
          ·
            obtain ⟨hp11, hp1, _, _⟩ := hD
            replace hp11 : β 11 = .agg #[.int .i64 x8.params, .slice adi8 x8.ins.length capi8, .int .i64 x8.fin.kind, .int .i64 x8.fin.a, .int .i64 x8.fin.to, .slice adp8 x8.fin.args.length capp8, .int .i64 x8.fin.els, .slice adq8 x8.fin.elses.length capq8] := hp11
            replace hp1 : β 1 = .bool true := hp1
            refine WL.sub (σ' := [(25, .bool true), (35, .agg #[.int .i64 x8.params, .slice adi8 x8.ins.length capi8, .int .i64 x8.fin.kind, .int .i64 x8.fin.a, .int .i64 x8.fin.to, .slice adp8 x8.fin.args.length capp8, .int .i64 x8.fin.els, .slice adq8 x8.fin.elses.length capq8])]) ⟨congrArg some hp1, congrArg some hp11, trivial⟩ ?_
            have hS := hS.grow hb
            refine WL.callF (vs := [.agg #[.int .i64 x8.params, .slice adi8 x8.ins.length capi8, .int .i64 x8.fin.kind, .int .i64 x8.fin.a, .int .i64 x8.fin.to, .slice adp8 x8.fin.args.length capp8, .int .i64 x8.fin.els, .slice adq8 x8.fin.elses.length capq8]]) Try.func10 (by kernel_rfl) rfl rfl rfl (give16_ret x8 _ (ro := ro) (fun b hb => (hS.snap b hb).1) (hQ8.keep hS.alike) hok6) ?_
            rintro v w9 ⟨hv, hbl⟩
            replace hS := hS.grow hbl
            exact WL.nil (N.cut v ⟨rfl, trivial⟩ ⟨hbl, newUp hv hb.size⟩)
          refine And.intro (fun β wd hb hD => ?_) ?_
          ·
            obtain ⟨hp6, hp12, _, hp1, _⟩ := hD
            replace hp6 : β 6 = .agg #[.int .i64 x8.params, .slice adi8 x8.ins.length capi8, .int .i64 x8.fin.kind, .int .i64 x8.fin.a, .int .i64 x8.fin.to, .slice adp8 x8.fin.args.length capp8, .int .i64 x8.fin.els, .slice adq8 x8.fin.elses.length capq8] := hp6
            replace hp12 : (fun v u => SlV (fun b => w4.heap.size ≤ b ∧ b < u.heap.size) u 1 IntC v (give16 x8)) (β 12) wd := hp12
            replace hp1 : β 1 = .bool true := hp1
            refine WL.sub (σ' := [(25, .bool true), (30, .agg #[.int .i64 x8.params, .slice adi8 x8.ins.length capi8, .int .i64 x8.fin.kind, .int .i64 x8.fin.a, .int .i64 x8.fin.to, .slice adp8 x8.fin.args.length capp8, .int .i64 x8.fin.els, .slice adq8 x8.fin.elses.length capq8]), (36, (β 12))]) ⟨congrArg some hp1, congrArg some hp6, rfl, trivial⟩ ?_
            have hS := hS.grow hb
            generalize β 12 = z12 at hp12 ⊢
            refine WL.callF (vs := [.agg #[.int .i64 x8.params, .slice adi8 x8.ins.length capi8, .int .i64 x8.fin.kind, .int .i64 x8.fin.a, .int .i64 x8.fin.to, .slice adp8 x8.fin.args.length capp8, .int .i64 x8.fin.els, .slice adq8 x8.fin.elses.length capq8], z12]) Try.func9 (by kernel_rfl) rfl rfl rfl (rapart16_ret x8 _ (give16 x8) _ (ro := fun x => x < wd.heap.size) (fun _ h => h) (hQ8.keep (fun b hb => hS.snap b hb)) (SlV.keep hp12 (fun b hb => ⟨hb.2, rfl⟩) (fun _ _ q => q)) hok6 (give16_apart hok6)) ?_
            rintro v w10 ⟨rfl, hbl⟩
            replace hS := hS.grow hbl
            exact WL.nil (N.cut (.bool true) ⟨rfl, trivial⟩ ⟨hbl, rfl⟩)
          refine And.intro (fun β wd hb hD => ?_) ?_
          ·
            obtain ⟨hp1, hp13, _⟩ := hD
            replace hp1 : β 1 = .bool true := hp1
            replace hp13 : β 13 = .bool true := hp13
            refine WL.sub (σ' := [(25, .bool true), (37, .bool true)]) ⟨congrArg some hp1, congrArg some hp13, trivial⟩ ?_
            have hS := hS.grow hb
            refine WL.pick (v := .bool true) rfl rfl rfl rfl rfl rfl ?_
            exact WL.nil (N.cut (.bool true) ⟨rfl, trivial⟩ ⟨(Below.refl _ _), rfl⟩)
          trivial
        ·
          intro β w11 hb hD
          obtain ⟨hp0, hp1, hp2, hp3, hp4, hp5, hp6, hp7, hp8, hp9, hp10, hp11, hp12, hp13, hp14, _⟩ := hD
          refine WL.sub (σ' := [(0, .agg #[.string f.name, .int .i64 f.bind, .int .i64 f.params, .slice adbF f.blocks.length capbF]), (1, .int .i64 k), (2, .pointer (some ⟨b1, 0, none⟩)), (4, .bool false), (5, .bool true), (6, .bool (func5 f)), (7, .bool true), (8, .agg #[.string f.name, .int .i64 f.bind, .int .i64 f.params, .slice adbF f.blocks.length capbF]), (9, .bool (func5 f)), (10, .bool (func5 f)), (11, .bool false), (12, .bool false), (13, .int .i64 k), (14, .bool false), (15, .bool false), (16, .bool false), (17, .int .i64 k), (18, .pointer (some ⟨b1, 3, none⟩)), (19, .slice adbF f.blocks.length capbF), (20, .int .i64 (f.blocks.length : Int)), (21, .bool (decide ((f.blocks.length : Int) ≤ k))), (22, .bool (decide ((f.blocks.length : Int) ≤ k))), (24, .bool true), (25, .bool true), (26, .pointer (some ⟨b1, 3, none⟩)), (27, .slice adbF f.blocks.length capbF), (28, .int .i64 k), (29, .pointer (some ⟨b8, o8 + k.toNat * 8, none⟩)), (30, .agg #[.int .i64 x8.params, .slice adi8 x8.ins.length capi8, .int .i64 x8.fin.kind, .int .i64 x8.fin.a, .int .i64 x8.fin.to, .slice adp8 x8.fin.args.length capp8, .int .i64 x8.fin.els, .slice adq8 x8.fin.elses.length capq8]), (31, .pointer (some ⟨b1, 3, none⟩)), (32, .slice adbF f.blocks.length capbF), (33, .int .i64 k), (34, .pointer (some ⟨b8, o8 + k.toNat * 8, none⟩)), (35, .agg #[.int .i64 x8.params, .slice adi8 x8.ins.length capi8, .int .i64 x8.fin.kind, .int .i64 x8.fin.a, .int .i64 x8.fin.to, .slice adp8 x8.fin.args.length capp8, .int .i64 x8.fin.els, .slice adq8 x8.fin.elses.length capq8]), (36, (β 12)), (37, .bool true), (38, .bool true)]) ⟨rfl, rfl, rfl, rfl, rfl, rfl, rfl, rfl, rfl, rfl, rfl, rfl, rfl, rfl, rfl, rfl, rfl, rfl, rfl, rfl, rfl, rfl, congrArg some (show β 0 = .bool true from hp0), congrArg some (show β 1 = .bool true from hp1), congrArg some (show β 2 = .pointer (some ⟨b1, 3, none⟩) from hp2), congrArg some (show β 3 = .slice adbF f.blocks.length capbF from hp3), congrArg some (show β 4 = .int .i64 k from hp4), congrArg some (show β 5 = .pointer (some ⟨b8, o8 + k.toNat * 8, none⟩) from hp5), congrArg some (show β 6 = .agg #[.int .i64 x8.params, .slice adi8 x8.ins.length capi8, .int .i64 x8.fin.kind, .int .i64 x8.fin.a, .int .i64 x8.fin.to, .slice adp8 x8.fin.args.length capp8, .int .i64 x8.fin.els, .slice adq8 x8.fin.elses.length capq8] from hp6), congrArg some (show β 7 = .pointer (some ⟨b1, 3, none⟩) from hp7), congrArg some (show β 8 = .slice adbF f.blocks.length capbF from hp8), congrArg some (show β 9 = .int .i64 k from hp9), congrArg some (show β 10 = .pointer (some ⟨b8, o8 + k.toNat * 8, none⟩) from hp10), congrArg some (show β 11 = .agg #[.int .i64 x8.params, .slice adi8 x8.ins.length capi8, .int .i64 x8.fin.kind, .int .i64 x8.fin.a, .int .i64 x8.fin.to, .slice adp8 x8.fin.args.length capp8, .int .i64 x8.fin.els, .slice adq8 x8.fin.elses.length capq8] from hp11), rfl, congrArg some (show β 13 = .bool true from hp13), congrArg some (show β 14 = .bool true from hp14), trivial⟩ ?_
          have hSd := hS
          replace hS := hS.grow hb
          replace hp12 : (fun v u => SlV (fun b => w4.heap.size ≤ b ∧ b < u.heap.size) u 1 IntC v (give16 x8)) (β 12) w11 := hp12
          generalize β 12 = z12 at hp12 ⊢
          refine WL.assign rfl rfl rfl ?_
          refine WL.nil ?_
          refine N.seq ?_
          refine Fin.ret1 rfl (v := .bool true) rfl ?_
          exact ⟨rfl, hS.below⟩
    ·
      have hg6p : k < 0 := by simpa using hg6
      refine WL.skp rfl rfl ?_
      refine WL.skp rfl rfl ?_
      refine WL.skp rfl rfl ?_
      refine WL.skp rfl rfl ?_
      refine WL.skp rfl rfl ?_
      refine WL.pick (v := .bool true) rfl rfl rfl rfl rfl rfl ?_
      refine WL.nil ?_
      refine N.seq ?_
      refine W.condT rfl ?_
      refine W.seq ?_
      refine W.region ?_
      refine WL.move rfl rfl rfl ?_
      refine WL.assign rfl rfl rfl ?_
      refine WL.nil ?_
      refine N.seq ?_
      refine Fin.ret1 rfl (v := .bool true) rfl ?_
      exact ⟨rfl, hS.below⟩
  ·
    refine WL.skp rfl rfl ?_
    refine WL.skp rfl rfl ?_
    refine WL.pick (v := .bool true) rfl rfl rfl rfl rfl rfl ?_
    refine WL.move rfl rfl rfl ?_
    refine WL.skp rfl rfl ?_
    refine WL.skp rfl rfl ?_
    refine WL.skp rfl rfl ?_
    refine WL.skp rfl rfl ?_
    refine WL.skp rfl rfl ?_
    refine WL.pick (v := .bool true) rfl rfl rfl rfl rfl rfl ?_
    refine WL.nil ?_
    refine N.seq ?_
    refine W.condT rfl ?_
    refine W.seq ?_
    refine W.region ?_
    refine WL.move rfl rfl rfl ?_
    refine WL.assign rfl rfl rfl ?_
    refine WL.nil ?_
    refine N.seq ?_
    refine Fin.ret1 rfl (v := .bool true) rfl ?_
    exact ⟨rfl, hS.below⟩

end Go.Proofs.Ytkgmijhcaclpoaa
