/-
  Contracts of layer 16 (slot). No condition beyond those that each theorem states.
-/
import Derived.Test.YtkgmijhcaclpoaaS11
namespace Go.Proofs.Ytkgmijhcaclpoaa
open Go.RowKit

set_option maxRecDepth 10000 in
set_option maxHeartbeats 4000000 in
theorem slotFew_ret (f : DFunc) (cf : List Value) {w : World} {ro : Nat → Prop} (hro : ∀ b, ro b → b < w.heap.size) (hx : FuncC ro w cf f) (hok : okFunc f) : Ret Try.prog 6 #[.agg cf.toArray] w fun v w' => v = .bool true ∧ Below w.heap.size w w' := by
  obtain ⟨sbF, rfl, hblF, hnmF, hbdF, hprF⟩ := id hx
  obtain ⟨adbF, capbF, rfl, hbkFa, hbkFb, hbkFc, hbkFd⟩ := id hblF
  have hbkFm : f.blocks.length ≤ 9223372036854775807 := by have h1 := hbkFa; have h2 := hbkFb; unfold maxLen at h2; omega
  refine Ret.enter (P := Try.prog) (n := 127) (args := [.agg #[.string f.name, .int .i64 f.bind, .int .i64 f.params, .slice adbF f.blocks.length capbF]]) (σ := [(0, .agg #[.string f.name, .int .i64 f.bind, .int .i64 f.params, .slice adbF f.blocks.length capbF])]) Try.func6 rfl rfl rfl rfl ?_
  have hS := St.start (ro := ro) hro
  have hsub : ∀ b, ro b → ro b ∨ w.heap.size ≤ b := fun _ h => .inl h
  have halT : Alike ro w ro w := Alike.refl
  refine W.seq ?_
  refine W.region ?_
  refine WL.box (v := .agg #[.string f.name, .int .i64 f.bind, .int .i64 f.params, .slice adbF f.blocks.length capbF]) (cs := [.string f.name, .int .i64 f.bind, .int .i64 f.params, .slice adbF f.blocks.length capbF]) rfl rfl rfl rfl hS ?_
  clear hS; intro w2 b1 hb_b1 hS
  refine WL.assign rfl rfl rfl ?_
  refine WL.nil ?_
  refine N.seq ?_
  refine W.seq ?_
  refine W.region ?_
  refine WL.callF (vs := []) Try.func7 (by kernel_rfl) rfl rfl rfl (shown16_ret (ro := ro) (fun b hb => (hS.snap b hb).1)) ?_
  rintro v w3 ⟨rfl, hbl⟩
  replace hS := hS.grow hbl
  refine WL.assign rfl rfl rfl ?_
  refine WL.nil ?_
  refine N.seq ?_
  refine W.seq ?_
  refine W.region ?_
  refine WL.loadN (cs := [.string f.name, .int .i64 f.bind, .int .i64 f.params, .slice adbF f.blocks.length capbF]) agg_24 rfl rfl rfl rfl (hS.cells 0 (m := 4) rfl rfl) ?_
  refine WL.callF (vs := [.agg #[.string f.name, .int .i64 f.bind, .int .i64 f.params, .slice adbF f.blocks.length capbF]]) Try.func8 (by kernel_rfl) rfl rfl rfl (func5_ret f _ (ro := ro) (fun b hb => (hS.snap b hb).1) (hx.keep hS.alike) hok) ?_
  rintro v w4 ⟨rfl, hbl⟩
  replace hS := hS.grow hbl
  refine WL.assign rfl rfl rfl ?_
  refine WL.nil ?_
  refine N.seq ?_
  refine W.seq ?_
  refine W.seq ?_
  refine W.region ?_
  refine WL.move rfl rfl rfl ?_
  refine WL.not rfl rfl rfl ?_
  refine WL.nil ?_
  refine N.seq ?_
  refine W.cond rfl (fun hc5 => ?_) (fun hc5 => ?_)
  ·
    refine W.seq ?_
    refine W.region ?_
    refine WL.move rfl rfl rfl ?_
    refine WL.assign rfl rfl rfl ?_
    refine WL.nil ?_
    refine N.seq ?_
    refine Fin.ret1 rfl (v := .bool true) rfl ?_
    exact ⟨rfl, hS.below⟩
  ·
    refine W.skip ?_
    refine N.seq ?_
    refine W.seq ?_
    refine W.region ?_
    refine WL.loadN (cs := [.string f.name, .int .i64 f.bind, .int .i64 f.params, .slice adbF f.blocks.length capbF]) agg_24 rfl rfl rfl rfl (hS.cells 0 (m := 4) rfl rfl) ?_
    have hf5 : func5 f = true := by simpa using hc5
    have hokb : ∀ b ∈ f.blocks, Ok16 b := fun b hb => ok16_of5 hf5 hb
    refine WL.callF (vs := [.agg #[.string f.name, .int .i64 f.bind, .int .i64 f.params, .slice adbF f.blocks.length capbF]]) Try.func14 (by kernel_rfl) rfl rfl rfl (many16_ret f _ (ro := ro) (fun b hb => (hS.snap b hb).1) (hx.keep hS.alike) hokb) ?_
    rintro v w6 ⟨rfl, hbl⟩
    replace hS := hS.grow hbl
    refine WL.assign rfl rfl rfl ?_
    refine WL.nil ?_
    refine N.seq ?_
    refine W.seq ?_
    refine W.region ?_
    refine WL.assign rfl rfl rfl ?_
    refine WL.nil ?_
    refine N.seq ?_
    refine W.seq ?_
    refine W.seq ?_
    refine W.region ?_
    refine WL.assign rfl rfl rfl ?_
    refine WL.nil ?_
    refine N.seq ?_
    refine W.block ?_
    refine W.loop (α := Nat × Int × (Nat → Prop) × World) (fun ⟨k, ms, R2, ws2⟩ => [(0, .agg #[.string f.name, .int .i64 f.bind, .int .i64 f.params, .slice adbF f.blocks.length capbF]), (1, .pointer (some ⟨b1, 0, none⟩)), (3, .bool true), (4, .bool (func5 f)), (5, .int .i64 (many16 f)), (6, .int .i64 ms), (7, .int .i64 (k : Int)), (12, .bool true), (13, .agg #[.string f.name, .int .i64 f.bind, .int .i64 f.params, .slice adbF f.blocks.length capbF]), (14, .bool (func5 f)), (15, .bool (func5 f)), (16, .bool (!(func5 f))), (18, .agg #[.string f.name, .int .i64 f.bind, .int .i64 f.params, .slice adbF f.blocks.length capbF]), (19, .int .i64 (many16 f))]) (fun ⟨k, ms, R2, ws2⟩ u => St w ws2 u R2 [(b1, .cells #[.string f.name, .int .i64 f.bind, .int .i64 f.params, .slice adbF f.blocks.length capbF] 24 (0, 0))] [] ∧ k ≤ f.blocks.length ∧ (∀ b ∈ f.blocks.take k, b.params + (b.ins.length : Int) ≤ ms) ∧ 0 ≤ ms ∧ Alike ro w R2 ws2 ∧ (∀ b, R2 b → ro b ∨ w.heap.size ≤ b)) (fun ⟨k, ms, R2, ws2⟩ => f.blocks.length - k) (0, 0, ro, w) ⟨rfl, rfl, rfl, rfl, rfl, rfl, rfl, rfl, rfl, rfl, rfl, rfl, rfl, rfl, trivial⟩ ⟨hS, Nat.zero_le _, (fun b hb => by simp at hb), Int.le_refl _, Alike.refl, hsub⟩ ?_
    clear hS
    rintro ⟨k, ms, R2, ws2⟩ w7 ⟨hS, hk, hms, hms0, halL0, hsub⟩
    replace halT := halT.trans halL0
    replace hx := hx.keep halL0
    replace hbkFd : Elems R2 ws2 8 (BlockC R2 ws2) adbF f.blocks := hbkFd.keep halL0 (fun _ _ h => h.keep halL0)
    replace hblF : SlV R2 ws2 8 (BlockC R2 ws2) (.slice adbF f.blocks.length capbF) f.blocks := SlV.keep hblF halL0 (fun _ _ h => h.keep halL0)
    refine W.seq ?_
    refine W.seq ?_
    refine W.region ?_
    refine WL.move rfl rfl rfl ?_
    refine WL.fieldAddr fo_24_3 rfl rfl rfl ?_
    refine WL.load1 (v := .slice adbF f.blocks.length capbF) one_22 rfl rfl rfl (hS.cell 0 rfl rfl) ?_
    refine WL.lenSlice Try.underlying22 rfl rfl rfl ?_
    refine WL.bin rfl rfl rfl rfl rfl ?_
    refine WL.nil ?_
    refine N.seq ?_
    refine W.cond rfl (fun hc8 => ?_) (fun hc8 => ?_)
    ·
      have hc8p : (k : Int) < (f.blocks.length : Int) := by simpa using hc8
      refine W.skip ?_
      refine N.seq ?_
      refine W.seq ?_
      refine W.block ?_
      refine W.seq ?_
      refine W.region ?_
      refine WL.fieldAddr fo_24_3 rfl rfl rfl ?_
      refine WL.load1 (v := .slice adbF f.blocks.length capbF) one_22 rfl rfl rfl (hS.cell 0 rfl rfl) ?_
      refine WL.move rfl rfl rfl ?_
      have hj9 : k < f.blocks.length := by omega
      obtain ⟨x9, hx9⟩ : ∃ zz, f.blocks[k]? = some zz := ⟨_, List.getElem?_eq_getElem hj9⟩
      obtain ⟨b9, o9, cs9, hE9, hr9, hl9, hc9, hQ9⟩ := hbkFd k _ hx9
      obtain ⟨si9, tsx9, rfl, hin9, hfin9, hpar9⟩ := id hQ9
      obtain ⟨adi9, capi9, rfl, hin9a, hin9b, hin9c, hin9d⟩ := id hin9
      have hin9m : x9.ins.length ≤ 9223372036854775807 := by have h1 := hin9a; have h2 := hin9b; unfold maxLen at h2; omega
      obtain ⟨sp9, sq9, rfl, ht19, ht29, htk9, hta9, htt9, hte9⟩ := id hfin9
      obtain ⟨adp9, capp9, rfl, htp9a, htp9b, htp9c, htp9d⟩ := id ht19
      have htp9m : x9.fin.args.length ≤ 9223372036854775807 := by have h1 := htp9a; have h2 := htp9b; unfold maxLen at h2; omega
      obtain ⟨adq9, capq9, rfl, htq9a, htq9b, htq9c, htq9d⟩ := id ht29
      have htq9m : x9.fin.elses.length ≤ 9223372036854775807 := by have h1 := htq9a; have h2 := htq9b; unfold maxLen at h2; omega
      refine WL.indexAddrE (j := k) Try.underlying22 isz_33 rfl rfl rfl rfl hj9 hE9 ?_
      refine WL.loadN (cs := [.int .i64 x9.params, .slice adi9 x9.ins.length capi9, .int .i64 x9.fin.kind, .int .i64 x9.fin.a, .int .i64 x9.fin.to, .slice adp9 x9.fin.args.length capp9, .int .i64 x9.fin.els, .slice adq9 x9.fin.elses.length capq9]) agg_33 rfl rfl rfl rfl (hS.roCells hr9 hc9) ?_
      have hokx := hokb _ (List.mem_of_getElem? hx9)
      refine WL.callF (vs := [.agg #[.int .i64 x9.params, .slice adi9 x9.ins.length capi9, .int .i64 x9.fin.kind, .int .i64 x9.fin.a, .int .i64 x9.fin.to, .slice adp9 x9.fin.args.length capp9, .int .i64 x9.fin.els, .slice adq9 x9.fin.elses.length capq9]]) Try.func10 (by kernel_rfl) rfl rfl rfl (give16_ret x9 _ (ro := R2) (fun b hb => (hS.snap b hb).1) (hQ9.keep hS.alike) hokx) ?_
      rintro vl w10 ⟨hvl, hbl⟩
      have hal11 := hS.alikeTo hbl (ro' := (roFrom R2 w7 w10)) (fun b hb => .inl hb)
      replace hsub : ∀ b, (roFrom R2 w7 w10) b → ro b ∨ w.heap.size ≤ b := fun b hb => hb.elim (hsub b) (fun h => .inr (Nat.le_trans hS.below.size h.1))
      replace halT := halT.trans hal11
      replace halL0 := halL0.trans hal11
      replace hx := hx.keep hal11
      replace hbkFd : Elems (roFrom R2 w7 w10) w10 8 (BlockC (roFrom R2 w7 w10) w10) adbF f.blocks := hbkFd.keep hal11 (fun _ _ h => h.keep hal11)
      replace hblF : SlV (roFrom R2 w7 w10) w10 8 (BlockC (roFrom R2 w7 w10) w10) (.slice adbF f.blocks.length capbF) f.blocks := SlV.keep hblF hal11 (fun _ _ h => h.keep hal11)
      replace hQ9 := hQ9.keep hal11
      replace hin9d : Elems (roFrom R2 w7 w10) w10 6 (InstC (roFrom R2 w7 w10) w10) adi9 x9.ins := hin9d.keep hal11 (fun _ _ h => h.keep hal11)
      replace hin9 : SlV (roFrom R2 w7 w10) w10 6 (InstC (roFrom R2 w7 w10) w10) (.slice adi9 x9.ins.length capi9) x9.ins := SlV.keep hin9 hal11 (fun _ _ h => h.keep hal11)
      replace hfin9 := hfin9.keep hal11
      replace htp9d : Elems (roFrom R2 w7 w10) w10 1 IntC adp9 x9.fin.args := htp9d.keep hal11 (fun _ _ h => h)
      replace ht19 : SlV (roFrom R2 w7 w10) w10 1 IntC (.slice adp9 x9.fin.args.length capp9) x9.fin.args := SlV.keep ht19 hal11 (fun _ _ h => h)
      replace htq9d : Elems (roFrom R2 w7 w10) w10 1 IntC adq9 x9.fin.elses := htq9d.keep hal11 (fun _ _ h => h)
      replace ht29 : SlV (roFrom R2 w7 w10) w10 1 IntC (.slice adq9 x9.fin.elses.length capq9) x9.fin.elses := SlV.keep ht29 hal11 (fun _ _ h => h)
      replace hc9 := hc9.keep (hal11 _ hr9).2
      replace hr9 := (hal11 _ hr9).1
      replace hS := hS.readNew hbl
      replace hvl := SlV.keep hvl (ro' := (roFrom R2 w7 w10)) (w' := w10) (Q' := IntC) (fun x hx => ⟨.inr hx, rfl⟩) (fun _ _ h => h)
      obtain ⟨adl, capl, rfl, hvla, hvlb, hvlc, hvld⟩ := id hvl
      have hvlm : (give16 x9).length ≤ 9223372036854775807 := by have h1 := hvla; have h2 := hvlb; unfold maxLen at h2; omega
      have hfew := few16 hokx
      have hgl := give16_length hokx
      have hp1 := hokx.p1; have hp0 := hokx.p0; have hpn := hokx.n
      refine WL.assign rfl rfl rfl ?_
      refine WL.nil ?_
      refine N.seq ?_
      refine W.seq ?_
      refine W.drawL (by kernel_rfl) 14 [.q (.pointer (some ⟨b1, 3, none⟩)), .q (.slice adbF f.blocks.length capbF), .q (.int .i64 (k : Int)), .q (.pointer (some ⟨b9, o9 + k * 8, none⟩)), .q (.pointer (some ⟨b9, o9 + k * 8, none⟩)), .q (.int .i64 x9.params), .q (.pointer (some ⟨b1, 3, none⟩)), .q (.slice adbF f.blocks.length capbF), .q (.int .i64 (k : Int)), .q (.pointer (some ⟨b9, o9 + k * 8, none⟩)), .q (.pointer (some ⟨b9, o9 + k * 8 + 1, none⟩)), .q (.slice adi9 x9.ins.length capi9), .q (.int .i64 (x9.ins.length : Int)), .q (.int .i64 (x9.params + (x9.ins.length : Int)))] (by kernel_rfl) rfl [(0, .agg #[.string f.name, .int .i64 f.bind, .int .i64 f.params, .slice adbF f.blocks.length capbF]), (1, .pointer (some ⟨b1, 0, none⟩)), (3, .bool true), (4, .bool (func5 f)), (5, .int .i64 (many16 f)), (6, .int .i64 ms), (7, .int .i64 (k : Int)), (8, .slice adl ((give16 x9).length) capl), (12, .bool true), (13, .agg #[.string f.name, .int .i64 f.bind, .int .i64 f.params, .slice adbF f.blocks.length capbF]), (14, .bool (func5 f)), (15, .bool (func5 f)), (16, .bool (!(func5 f))), (18, .agg #[.string f.name, .int .i64 f.bind, .int .i64 f.params, .slice adbF f.blocks.length capbF]), (19, .int .i64 (many16 f)), (20, .int .i64 (k : Int)), (21, .pointer (some ⟨b1, 3, none⟩)), (22, .slice adbF f.blocks.length capbF), (23, .int .i64 (f.blocks.length : Int)), (24, .bool (decide ((k : Int) < (f.blocks.length : Int)))), (27, .pointer (some ⟨b1, 3, none⟩)), (28, .slice adbF f.blocks.length capbF), (29, .int .i64 (k : Int)), (30, .pointer (some ⟨b9, o9 + k * 8, none⟩)), (31, .agg #[.int .i64 x9.params, .slice adi9 x9.ins.length capi9, .int .i64 x9.fin.kind, .int .i64 x9.fin.a, .int .i64 x9.fin.to, .slice adp9 x9.fin.args.length capp9, .int .i64 x9.fin.els, .slice adq9 x9.fin.elses.length capq9]), (32, .slice adl ((give16 x9).length) capl)] ⟨rfl, rfl, rfl, rfl, rfl, rfl, rfl, rfl, rfl, rfl, rfl, rfl, rfl, rfl, rfl, rfl, rfl, rfl, rfl, rfl, rfl, rfl, rfl, rfl, rfl, rfl, trivial⟩ rfl hS ?_ ?_
      ·
        refine And.intro (fun β w hS => ?_) ?_
        ·
          refine WL.sub (σ' := [(1, .pointer (some ⟨b1, 0, none⟩))]) ⟨rfl, trivial⟩ ?_
          refine WL.fieldAddr fo_24_3 rfl rfl rfl ?_
          exact WL.nil (N.cut () ⟨rfl, trivial⟩ (Below.refl _ _))
        refine And.intro (fun β w hS => ?_) ?_
        ·
          refine WL.sub (σ' := [(33, .pointer (some ⟨b1, 3, none⟩))]) ⟨rfl, trivial⟩ ?_
          refine WL.load1 (v := .slice adbF f.blocks.length capbF) one_22 rfl rfl rfl (hS.cell 0 rfl rfl) ?_
          exact WL.nil (N.cut () ⟨rfl, trivial⟩ (Below.refl _ _))
        refine And.intro (fun β w hS => ?_) ?_
        ·
          refine WL.sub (σ' := [(7, .int .i64 (k : Int))]) ⟨rfl, trivial⟩ ?_
          refine WL.move rfl rfl rfl ?_
          exact WL.nil (N.cut () ⟨rfl, trivial⟩ (Below.refl _ _))
        refine And.intro (fun β w hS => ?_) ?_
        ·
          refine WL.sub (σ' := [(34, .slice adbF f.blocks.length capbF), (35, .int .i64 (k : Int))]) ⟨rfl, rfl, trivial⟩ ?_
          refine WL.indexAddrE (j := k) Try.underlying22 isz_33 rfl rfl rfl rfl hj9 hE9 ?_
          exact WL.nil (N.cut () ⟨rfl, trivial⟩ (Below.refl _ _))
        refine And.intro (fun β w hS => ?_) ?_
        ·
          refine WL.sub (σ' := [(36, .pointer (some ⟨b9, o9 + k * 8, none⟩))]) ⟨rfl, trivial⟩ ?_
          refine WL.fieldAddr fo_33_0 rfl rfl rfl ?_
          exact WL.nil (N.cut () ⟨rfl, trivial⟩ (Below.refl _ _))
        refine And.intro (fun β w hS => ?_) ?_
        ·
          refine WL.sub (σ' := [(37, .pointer (some ⟨b9, o9 + k * 8, none⟩))]) ⟨rfl, trivial⟩ ?_
          refine WL.load1 (v := .int .i64 x9.params) one_3 rfl rfl rfl (hS.roCells hr9 hc9 0 _ rfl) ?_
          exact WL.nil (N.cut () ⟨rfl, trivial⟩ (Below.refl _ _))
        refine And.intro (fun β w hS => ?_) ?_
        ·
          refine WL.sub (σ' := [(1, .pointer (some ⟨b1, 0, none⟩))]) ⟨rfl, trivial⟩ ?_
          refine WL.fieldAddr fo_24_3 rfl rfl rfl ?_
          exact WL.nil (N.cut () ⟨rfl, trivial⟩ (Below.refl _ _))
        refine And.intro (fun β w hS => ?_) ?_
        ·
          refine WL.sub (σ' := [(39, .pointer (some ⟨b1, 3, none⟩))]) ⟨rfl, trivial⟩ ?_
          refine WL.load1 (v := .slice adbF f.blocks.length capbF) one_22 rfl rfl rfl (hS.cell 0 rfl rfl) ?_
          exact WL.nil (N.cut () ⟨rfl, trivial⟩ (Below.refl _ _))
        refine And.intro (fun β w hS => ?_) ?_
        ·
          refine WL.sub (σ' := [(7, .int .i64 (k : Int))]) ⟨rfl, trivial⟩ ?_
          refine WL.move rfl rfl rfl ?_
          exact WL.nil (N.cut () ⟨rfl, trivial⟩ (Below.refl _ _))
        refine And.intro (fun β w hS => ?_) ?_
        ·
          refine WL.sub (σ' := [(40, .slice adbF f.blocks.length capbF), (41, .int .i64 (k : Int))]) ⟨rfl, rfl, trivial⟩ ?_
          refine WL.indexAddrE (j := k) Try.underlying22 isz_33 rfl rfl rfl rfl hj9 hE9 ?_
          exact WL.nil (N.cut () ⟨rfl, trivial⟩ (Below.refl _ _))
        refine And.intro (fun β w hS => ?_) ?_
        ·
          refine WL.sub (σ' := [(42, .pointer (some ⟨b9, o9 + k * 8, none⟩))]) ⟨rfl, trivial⟩ ?_
          refine WL.fieldAddr fo_33_1 rfl rfl rfl ?_
          exact WL.nil (N.cut () ⟨rfl, trivial⟩ (Below.refl _ _))
        refine And.intro (fun β w hS => ?_) ?_
        ·
          refine WL.sub (σ' := [(43, .pointer (some ⟨b9, o9 + k * 8 + 1, none⟩))]) ⟨rfl, trivial⟩ ?_
          refine WL.load1 (v := .slice adi9 x9.ins.length capi9) one_28 rfl rfl rfl (hS.roCells hr9 hc9 1 _ rfl) ?_
          exact WL.nil (N.cut () ⟨rfl, trivial⟩ (Below.refl _ _))
        refine And.intro (fun β w hS => ?_) ?_
        ·
          refine WL.sub (σ' := [(44, .slice adi9 x9.ins.length capi9)]) ⟨rfl, trivial⟩ ?_
          refine WL.lenSlice Try.underlying28 rfl rfl rfl ?_
          exact WL.nil (N.cut () ⟨rfl, trivial⟩ (Below.refl _ _))
        refine And.intro (fun β w hS => ?_) ?_
        ·
          refine WL.sub (σ' := [(38, .int .i64 x9.params), (45, .int .i64 (x9.ins.length : Int))]) ⟨rfl, rfl, trivial⟩ ?_
          refine WL.add (c := x9.params + (x9.ins.length : Int)) rfl rfl rfl rfl (rfl) (by omega) ?_
          exact WL.nil (N.cut () ⟨rfl, trivial⟩ (Below.refl _ _))
        trivial
      ·
        clear hS; intro w12 β hS
        refine WL.sub (σ' := [(0, .agg #[.string f.name, .int .i64 f.bind, .int .i64 f.params, .slice adbF f.blocks.length capbF]), (1, .pointer (some ⟨b1, 0, none⟩)), (3, .bool true), (4, .bool (func5 f)), (5, .int .i64 (many16 f)), (6, .int .i64 ms), (7, .int .i64 (k : Int)), (8, .slice adl ((give16 x9).length) capl), (12, .bool true), (13, .agg #[.string f.name, .int .i64 f.bind, .int .i64 f.params, .slice adbF f.blocks.length capbF]), (14, .bool (func5 f)), (15, .bool (func5 f)), (16, .bool (!(func5 f))), (18, .agg #[.string f.name, .int .i64 f.bind, .int .i64 f.params, .slice adbF f.blocks.length capbF]), (19, .int .i64 (many16 f)), (20, .int .i64 (k : Int)), (21, .pointer (some ⟨b1, 3, none⟩)), (22, .slice adbF f.blocks.length capbF), (23, .int .i64 (f.blocks.length : Int)), (24, .bool (decide ((k : Int) < (f.blocks.length : Int)))), (27, .pointer (some ⟨b1, 3, none⟩)), (28, .slice adbF f.blocks.length capbF), (29, .int .i64 (k : Int)), (30, .pointer (some ⟨b9, o9 + k * 8, none⟩)), (31, .agg #[.int .i64 x9.params, .slice adi9 x9.ins.length capi9, .int .i64 x9.fin.kind, .int .i64 x9.fin.a, .int .i64 x9.fin.to, .slice adp9 x9.fin.args.length capp9, .int .i64 x9.fin.els, .slice adq9 x9.fin.elses.length capq9]), (32, .slice adl ((give16 x9).length) capl), (33, .pointer (some ⟨b1, 3, none⟩)), (34, .slice adbF f.blocks.length capbF), (35, .int .i64 (k : Int)), (36, .pointer (some ⟨b9, o9 + k * 8, none⟩)), (37, .pointer (some ⟨b9, o9 + k * 8, none⟩)), (38, .int .i64 x9.params), (39, .pointer (some ⟨b1, 3, none⟩)), (40, .slice adbF f.blocks.length capbF), (41, .int .i64 (k : Int)), (42, .pointer (some ⟨b9, o9 + k * 8, none⟩)), (43, .pointer (some ⟨b9, o9 + k * 8 + 1, none⟩)), (44, .slice adi9 x9.ins.length capi9), (45, .int .i64 (x9.ins.length : Int)), (46, .int .i64 (x9.params + (x9.ins.length : Int)))]) ⟨rfl, rfl, rfl, rfl, rfl, rfl, rfl, rfl, rfl, rfl, rfl, rfl, rfl, rfl, rfl, rfl, rfl, rfl, rfl, rfl, rfl, rfl, rfl, rfl, rfl, rfl, rfl, rfl, rfl, rfl, rfl, rfl, rfl, rfl, rfl, rfl, rfl, rfl, rfl, rfl, trivial⟩ ?_
        refine WL.assign rfl rfl rfl ?_
        refine WL.nil ?_
        refine N.seq ?_
        refine W.seq ?_
        refine W.seq ?_
        refine W.region ?_
        refine WL.move rfl rfl rfl ?_
        refine WL.lenSlice Try.underlying29 rfl rfl rfl ?_
        refine WL.move rfl rfl rfl ?_
        refine WL.bin rfl rfl rfl rfl rfl ?_
        refine WL.set 50 (v' := .bool false) rfl (by rw [decide_eq_true (by omega)]; rfl) ?_
        refine WL.move rfl rfl rfl ?_
        refine WL.move rfl rfl rfl ?_
        refine WL.move rfl rfl rfl ?_
        refine WL.bin rfl rfl rfl rfl rfl ?_
        refine WL.pick (v := .bool (decide (ms < x9.params + (x9.ins.length : Int)))) rfl rfl rfl rfl rfl rfl ?_
        refine WL.nil ?_
        refine N.seq ?_
        refine W.cond rfl (fun hc13 => ?_) (fun hc13 => ?_)
        ·
          have hc13p : ms < x9.params + (x9.ins.length : Int) := by simpa using hc13
          refine W.region ?_
          refine WL.move rfl rfl rfl ?_
          refine WL.assign rfl rfl rfl ?_
          refine WL.nil ?_
          refine N.seq ?_
          refine W.seq ?_
          refine W.seq ?_
          refine W.region ?_
          refine WL.move rfl rfl rfl ?_
          refine WL.lenSlice Try.underlying29 rfl rfl rfl ?_
          refine WL.move rfl rfl rfl ?_
          refine WL.bin rfl rfl rfl rfl rfl ?_
          refine WL.set 60 (v' := .bool false) rfl (by rw [decide_eq_true (by omega)]; rfl) ?_
          refine WL.nil ?_
          refine N.seq ?_
          refine W.condF rfl ?_
          refine W.skip ?_
          refine N.seq ?_
          refine W.seq ?_
          refine W.region ?_
          refine WL.assign rfl rfl rfl ?_
          refine WL.nil ?_
          refine N.seq ?_
          refine W.seq ?_
          refine W.region ?_
          refine WL.assign rfl rfl rfl ?_
          refine WL.nil ?_
          refine N.seq ?_
          refine W.block ?_
          refine W.loop (α := Nat × Int) (fun ⟨i, tp⟩ => [(0, .agg #[.string f.name, .int .i64 f.bind, .int .i64 f.params, .slice adbF f.blocks.length capbF]), (1, .pointer (some ⟨b1, 0, none⟩)), (3, .bool true), (4, .bool (func5 f)), (5, .int .i64 (many16 f)), (6, .int .i64 (x9.params + (x9.ins.length : Int))), (7, .int .i64 (k : Int)), (8, .slice adl ((give16 x9).length) capl), (9, .int .i64 (x9.params + (x9.ins.length : Int))), (10, .int .i64 tp), (11, .int .i64 (i : Int)), (12, .bool true), (13, .agg #[.string f.name, .int .i64 f.bind, .int .i64 f.params, .slice adbF f.blocks.length capbF]), (14, .bool (func5 f)), (15, .bool (func5 f)), (16, .bool (!(func5 f))), (18, .agg #[.string f.name, .int .i64 f.bind, .int .i64 f.params, .slice adbF f.blocks.length capbF]), (19, .int .i64 (many16 f)), (20, .int .i64 (k : Int)), (21, .pointer (some ⟨b1, 3, none⟩)), (22, .slice adbF f.blocks.length capbF), (23, .int .i64 (f.blocks.length : Int)), (24, .bool (decide ((k : Int) < (f.blocks.length : Int)))), (27, .pointer (some ⟨b1, 3, none⟩)), (28, .slice adbF f.blocks.length capbF), (29, .int .i64 (k : Int)), (30, .pointer (some ⟨b9, o9 + k * 8, none⟩)), (31, .agg #[.int .i64 x9.params, .slice adi9 x9.ins.length capi9, .int .i64 x9.fin.kind, .int .i64 x9.fin.a, .int .i64 x9.fin.to, .slice adp9 x9.fin.args.length capp9, .int .i64 x9.fin.els, .slice adq9 x9.fin.elses.length capq9]), (32, .slice adl ((give16 x9).length) capl), (33, .pointer (some ⟨b1, 3, none⟩)), (34, .slice adbF f.blocks.length capbF), (35, .int .i64 (k : Int)), (36, .pointer (some ⟨b9, o9 + k * 8, none⟩)), (37, .pointer (some ⟨b9, o9 + k * 8, none⟩)), (38, .int .i64 x9.params), (39, .pointer (some ⟨b1, 3, none⟩)), (40, .slice adbF f.blocks.length capbF), (41, .int .i64 (k : Int)), (42, .pointer (some ⟨b9, o9 + k * 8, none⟩)), (43, .pointer (some ⟨b9, o9 + k * 8 + 1, none⟩)), (44, .slice adi9 x9.ins.length capi9), (45, .int .i64 (x9.ins.length : Int)), (46, .int .i64 (x9.params + (x9.ins.length : Int))), (47, .slice adl ((give16 x9).length) capl), (48, .int .i64 ((give16 x9).length : Int)), (49, .int .i64 (x9.params + (x9.ins.length : Int))), (50, .bool false), (51, .bool false), (52, .int .i64 (x9.params + (x9.ins.length : Int))), (53, .int .i64 ms), (54, .bool (decide (ms < x9.params + (x9.ins.length : Int)))), (55, .bool (decide (ms < x9.params + (x9.ins.length : Int)))), (56, .int .i64 (x9.params + (x9.ins.length : Int))), (57, .slice adl ((give16 x9).length) capl), (58, .int .i64 ((give16 x9).length : Int)), (59, .int .i64 (x9.params + (x9.ins.length : Int))), (60, .bool false)]) (fun ⟨i, tp⟩ u => St w w10 u (roFrom R2 w7 w10) [(b1, .cells #[.string f.name, .int .i64 f.bind, .int .i64 f.params, .slice adbF f.blocks.length capbF] 24 (0, 0))] [] ∧ i ≤ (give16 x9).length ∧ (∀ y ∈ (give16 x9).take i, y ≤ tp) ∧ (-1 ≤ tp ∧ tp ≤ 3000)) (fun ⟨i, tp⟩ => (give16 x9).length - i) (0, -1) ⟨rfl, rfl, rfl, rfl, rfl, rfl, rfl, rfl, rfl, rfl, rfl, rfl, rfl, rfl, rfl, rfl, rfl, rfl, rfl, rfl, rfl, rfl, rfl, rfl, rfl, rfl, rfl, rfl, rfl, rfl, rfl, rfl, rfl, rfl, rfl, rfl, rfl, rfl, rfl, rfl, rfl, rfl, rfl, rfl, rfl, rfl, rfl, rfl, rfl, rfl, rfl, rfl, rfl, rfl, rfl, rfl, rfl, trivial⟩ ⟨hS, Nat.zero_le _, (fun y hy => by simp at hy), by omega⟩ ?_
          clear hS
          rintro ⟨i, tp⟩ w14 ⟨hS, hi, htp, htb⟩
          refine W.seq ?_
          refine W.seq ?_
          refine W.region ?_
          refine WL.move rfl rfl rfl ?_
          refine WL.move rfl rfl rfl ?_
          refine WL.lenSlice Try.underlying29 rfl rfl rfl ?_
          refine WL.bin rfl rfl rfl rfl rfl ?_
          refine WL.nil ?_
          refine N.seq ?_
          refine W.cond rfl (fun hc15 => ?_) (fun hc15 => ?_)
          ·
            have hc15p : (i : Int) < ((give16 x9).length : Int) := by simpa using hc15
            refine W.skip ?_
            refine N.seq ?_
            refine W.seq ?_
            refine W.block ?_
            refine W.seq ?_
            refine W.seq ?_
            refine W.region ?_
            refine WL.move rfl rfl rfl ?_
            refine WL.move rfl rfl rfl ?_
            have hj16 : i < (give16 x9).length := by omega
            obtain ⟨x16, hx16⟩ : ∃ zz, (give16 x9)[i]? = some zz := ⟨_, List.getElem?_eq_getElem hj16⟩
            obtain ⟨b16, o16, cs16, hE16, hr16, hl16, hc16, hQ16⟩ := hvld i _ hx16
            obtain ⟨rfl, hi16⟩ := hQ16
            refine WL.indexAddrE (j := i) Try.underlying29 isz_3 rfl rfl rfl rfl hj16 hE16 ?_
            refine WL.load1 (v := .int .i64 x16) one_3 rfl rfl rfl (hS.roCells hr16 hc16 0 _ rfl) ?_
            refine WL.bin rfl rfl rfl rfl rfl ?_
            obtain ⟨hfx1, hfx2, hfx3⟩ := hfew.step i _ hx16
            have hfx4 := many16_ge (List.mem_of_getElem? hx9) (List.mem_of_getElem? hx16)
            have hfx5 : x16 ≤ tp + 1 := by rcases hfx3 with h | h; omega; have := htp _ h; omega
            have hfx6 := hfew.low i _ hx16
            refine WL.set 71 (v' := .bool false) rfl (congrArg Value.bool (show (decide (x16 < 0)) = false from decide_eq_false (by omega))) ?_
            refine WL.move rfl rfl rfl ?_
            refine WL.move rfl rfl rfl ?_
            refine WL.move rfl rfl rfl ?_
            refine WL.indexAddrE (j := i) Try.underlying29 isz_3 rfl rfl rfl rfl hj16 hE16 ?_
            refine WL.load1 (v := .int .i64 x16) one_3 rfl rfl rfl (hS.roCells hr16 hc16 0 _ rfl) ?_
            refine WL.move rfl rfl rfl ?_
            refine WL.add (c := tp + 1) rfl rfl rfl rfl (rfl) (by omega) ?_
            refine WL.bin rfl rfl rfl rfl rfl ?_
            refine WL.set 79 (v' := .bool false) rfl (congrArg Value.bool (show (decide (tp + 1 < x16)) = false from decide_eq_false (by omega))) ?_
            refine WL.pick (v := .bool false) rfl rfl rfl rfl rfl rfl ?_
            refine WL.move rfl rfl rfl ?_
            refine WL.move rfl rfl rfl ?_
            refine WL.fieldAddr fo_24_3 rfl rfl rfl ?_
            refine WL.load1 (v := .slice adbF f.blocks.length capbF) one_22 rfl rfl rfl (hS.cell 0 rfl rfl) ?_
            refine WL.move rfl rfl rfl ?_
            refine WL.indexAddrE (j := k) Try.underlying22 isz_33 rfl rfl rfl rfl hj9 hE9 ?_
            refine WL.fieldAddr fo_33_0 rfl rfl rfl ?_
            refine WL.load1 (v := .int .i64 x9.params) one_3 rfl rfl rfl (hS.roCells hr9 hc9 0 _ rfl) ?_
            refine WL.bin rfl rfl rfl rfl rfl ?_
            refine WL.move rfl rfl rfl ?_
            cases hg17 : (decide ((i : Int) < x9.params))
            ·
              have hg17p : ¬ ((i : Int) < x9.params) := by simpa using hg17
              refine WL.skp rfl rfl ?_
              refine WL.skp rfl rfl ?_
              refine WL.skp rfl rfl ?_
              refine WL.skp rfl rfl ?_
              refine WL.skp rfl rfl ?_
              refine WL.skp rfl rfl ?_
              refine WL.pick (v := .bool false) rfl rfl rfl rfl rfl rfl ?_
              refine WL.pick (v := .bool false) rfl rfl rfl rfl rfl rfl ?_
              refine WL.move rfl rfl rfl ?_
              refine WL.move rfl rfl rfl ?_
              refine WL.move rfl rfl rfl ?_
              refine WL.indexAddrE (j := i) Try.underlying29 isz_3 rfl rfl rfl rfl hj16 hE16 ?_
              refine WL.load1 (v := .int .i64 x16) one_3 rfl rfl rfl (hS.roCells hr16 hc16 0 _ rfl) ?_
              refine WL.move rfl rfl rfl ?_
              refine WL.bin rfl rfl rfl rfl rfl ?_
              refine WL.set 105 (v' := .bool false) rfl (congrArg Value.bool (show (decide (many16 f ≤ x16)) = false from decide_eq_false (by omega))) ?_
              refine WL.pick (v := .bool false) rfl rfl rfl rfl rfl rfl ?_
              refine WL.nil ?_
              refine N.seq ?_
              refine W.condF rfl ?_
              refine W.skip ?_
              refine N.seq ?_
              refine W.seq ?_
              refine W.region ?_
              refine WL.move rfl rfl rfl ?_
              refine WL.move rfl rfl rfl ?_
              refine WL.indexAddrE (j := i) Try.underlying29 isz_3 rfl rfl rfl rfl hj16 hE16 ?_
              refine WL.load1 (v := .int .i64 x16) one_3 rfl rfl rfl (hS.roCells hr16 hc16 0 _ rfl) ?_
              refine WL.move rfl rfl rfl ?_
              refine WL.bin rfl rfl rfl rfl rfl ?_
              refine WL.nil ?_
              refine N.seq ?_
              refine W.cond rfl (fun hc18 => ?_) (fun hc18 => ?_)
              ·
                have hc18p : tp < x16 := by simpa using hc18
                refine W.region ?_
                refine WL.move rfl rfl rfl ?_
                refine WL.move rfl rfl rfl ?_
                refine WL.indexAddrE (j := i) Try.underlying29 isz_3 rfl rfl rfl rfl hj16 hE16 ?_
                refine WL.load1 (v := .int .i64 x16) one_3 rfl rfl rfl (hS.roCells hr16 hc16 0 _ rfl) ?_
                refine WL.assign rfl rfl rfl ?_
                refine WL.nil ?_
                refine N.blk ?_
                refine N.seq ?_
                refine W.region ?_
                refine WL.move rfl rfl rfl ?_
                refine WL.add (c := (i : Int) + 1) rfl rfl rfl rfl (rfl) (by omega) ?_
                refine WL.assign rfl rfl rfl ?_
                refine WL.nil ?_
                have htn : ∀ y ∈ (give16 x9).take (i + 1), y ≤ x16 := fun y hy => by rw [take_next hx16] at hy; simp only [List.mem_append, List.mem_cons, List.not_mem_nil, or_false] at hy; rcases hy with hy | hy; have := htp y hy; omega; omega
                exact N.loop (i + 1, x16) ⟨rfl, rfl, rfl, rfl, rfl, rfl, rfl, rfl, rfl, rfl, rfl, rfl, rfl, rfl, rfl, rfl, rfl, rfl, rfl, rfl, rfl, rfl, rfl, rfl, rfl, rfl, rfl, rfl, rfl, rfl, rfl, rfl, rfl, rfl, rfl, rfl, rfl, rfl, rfl, rfl, rfl, rfl, rfl, rfl, rfl, rfl, rfl, rfl, rfl, rfl, rfl, rfl, rfl, rfl, rfl, rfl, rfl, trivial⟩ ⟨hS, by omega, htn, by omega⟩ (by first | omega | (simp only; omega))
              ·
                have hc18p : ¬ (tp < x16) := by simpa using hc18
                refine W.skip ?_
                refine N.blk ?_
                refine N.seq ?_
                refine W.region ?_
                refine WL.move rfl rfl rfl ?_
                refine WL.add (c := (i : Int) + 1) rfl rfl rfl rfl (rfl) (by omega) ?_
                refine WL.assign rfl rfl rfl ?_
                refine WL.nil ?_
                have htn : ∀ y ∈ (give16 x9).take (i + 1), y ≤ tp := fun y hy => by rw [take_next hx16] at hy; simp only [List.mem_append, List.mem_cons, List.not_mem_nil, or_false] at hy; rcases hy with hy | hy; have := htp y hy; omega; omega
                exact N.loop (i + 1, tp) ⟨rfl, rfl, rfl, rfl, rfl, rfl, rfl, rfl, rfl, rfl, rfl, rfl, rfl, rfl, rfl, rfl, rfl, rfl, rfl, rfl, rfl, rfl, rfl, rfl, rfl, rfl, rfl, rfl, rfl, rfl, rfl, rfl, rfl, rfl, rfl, rfl, rfl, rfl, rfl, rfl, rfl, rfl, rfl, rfl, rfl, rfl, rfl, rfl, rfl, rfl, rfl, rfl, rfl, rfl, rfl, rfl, rfl, trivial⟩ ⟨hS, by omega, htn, by omega⟩ (by first | omega | (simp only; omega))
            ·
              have hg17p : (i : Int) < x9.params := by simpa using hg17
              refine WL.move rfl rfl rfl ?_
              refine WL.move rfl rfl rfl ?_
              refine WL.indexAddrE (j := i) Try.underlying29 isz_3 rfl rfl rfl rfl hj16 hE16 ?_
              refine WL.load1 (v := .int .i64 x16) one_3 rfl rfl rfl (hS.roCells hr16 hc16 0 _ rfl) ?_
              refine WL.move rfl rfl rfl ?_
              refine WL.bin rfl rfl rfl rfl rfl ?_
              refine WL.set 96 (v' := .bool false) rfl (by rw [decide_eq_true (hfx6 (by omega))]; rfl) ?_
              refine WL.pick (v := .bool false) rfl rfl rfl rfl rfl rfl ?_
              refine WL.pick (v := .bool false) rfl rfl rfl rfl rfl rfl ?_
              refine WL.move rfl rfl rfl ?_
              refine WL.move rfl rfl rfl ?_
              refine WL.move rfl rfl rfl ?_
              refine WL.indexAddrE (j := i) Try.underlying29 isz_3 rfl rfl rfl rfl hj16 hE16 ?_
              refine WL.load1 (v := .int .i64 x16) one_3 rfl rfl rfl (hS.roCells hr16 hc16 0 _ rfl) ?_
              refine WL.move rfl rfl rfl ?_
              refine WL.bin rfl rfl rfl rfl rfl ?_
              refine WL.set 105 (v' := .bool false) rfl (congrArg Value.bool (show (decide (many16 f ≤ x16)) = false from decide_eq_false (by omega))) ?_
              refine WL.pick (v := .bool false) rfl rfl rfl rfl rfl rfl ?_
              refine WL.nil ?_
              refine N.seq ?_
              refine W.condF rfl ?_
              refine W.skip ?_
              refine N.seq ?_
              refine W.seq ?_
              refine W.region ?_
              refine WL.move rfl rfl rfl ?_
              refine WL.move rfl rfl rfl ?_
              refine WL.indexAddrE (j := i) Try.underlying29 isz_3 rfl rfl rfl rfl hj16 hE16 ?_
              refine WL.load1 (v := .int .i64 x16) one_3 rfl rfl rfl (hS.roCells hr16 hc16 0 _ rfl) ?_
              refine WL.move rfl rfl rfl ?_
              refine WL.bin rfl rfl rfl rfl rfl ?_
              refine WL.nil ?_
              refine N.seq ?_
              refine W.cond rfl (fun hc19 => ?_) (fun hc19 => ?_)
              ·
                have hc19p : tp < x16 := by simpa using hc19
                refine W.region ?_
                refine WL.move rfl rfl rfl ?_
                refine WL.move rfl rfl rfl ?_
                refine WL.indexAddrE (j := i) Try.underlying29 isz_3 rfl rfl rfl rfl hj16 hE16 ?_
                refine WL.load1 (v := .int .i64 x16) one_3 rfl rfl rfl (hS.roCells hr16 hc16 0 _ rfl) ?_
                refine WL.assign rfl rfl rfl ?_
                refine WL.nil ?_
                refine N.blk ?_
                refine N.seq ?_
                refine W.region ?_
                refine WL.move rfl rfl rfl ?_
                refine WL.add (c := (i : Int) + 1) rfl rfl rfl rfl (rfl) (by omega) ?_
                refine WL.assign rfl rfl rfl ?_
                refine WL.nil ?_
                have htn : ∀ y ∈ (give16 x9).take (i + 1), y ≤ x16 := fun y hy => by rw [take_next hx16] at hy; simp only [List.mem_append, List.mem_cons, List.not_mem_nil, or_false] at hy; rcases hy with hy | hy; have := htp y hy; omega; omega
                exact N.loop (i + 1, x16) ⟨rfl, rfl, rfl, rfl, rfl, rfl, rfl, rfl, rfl, rfl, rfl, rfl, rfl, rfl, rfl, rfl, rfl, rfl, rfl, rfl, rfl, rfl, rfl, rfl, rfl, rfl, rfl, rfl, rfl, rfl, rfl, rfl, rfl, rfl, rfl, rfl, rfl, rfl, rfl, rfl, rfl, rfl, rfl, rfl, rfl, rfl, rfl, rfl, rfl, rfl, rfl, rfl, rfl, rfl, rfl, rfl, rfl, trivial⟩ ⟨hS, by omega, htn, by omega⟩ (by first | omega | (simp only; omega))
              ·
                have hc19p : ¬ (tp < x16) := by simpa using hc19
                refine W.skip ?_
                refine N.blk ?_
                refine N.seq ?_
                refine W.region ?_
                refine WL.move rfl rfl rfl ?_
                refine WL.add (c := (i : Int) + 1) rfl rfl rfl rfl (rfl) (by omega) ?_
                refine WL.assign rfl rfl rfl ?_
                refine WL.nil ?_
                have htn : ∀ y ∈ (give16 x9).take (i + 1), y ≤ tp := fun y hy => by rw [take_next hx16] at hy; simp only [List.mem_append, List.mem_cons, List.not_mem_nil, or_false] at hy; rcases hy with hy | hy; have := htp y hy; omega; omega
                exact N.loop (i + 1, tp) ⟨rfl, rfl, rfl, rfl, rfl, rfl, rfl, rfl, rfl, rfl, rfl, rfl, rfl, rfl, rfl, rfl, rfl, rfl, rfl, rfl, rfl, rfl, rfl, rfl, rfl, rfl, rfl, rfl, rfl, rfl, rfl, rfl, rfl, rfl, rfl, rfl, rfl, rfl, rfl, rfl, rfl, rfl, rfl, rfl, rfl, rfl, rfl, rfl, rfl, rfl, rfl, rfl, rfl, rfl, rfl, rfl, rfl, trivial⟩ ⟨hS, by omega, htn, by omega⟩ (by first | omega | (simp only; omega))
          ·
            have hc15p : ¬ ((i : Int) < ((give16 x9).length : Int)) := by simpa using hc15
            refine W.exit ?_
            refine X.seq ?_
            refine X.loop ?_
            refine X.blk ?_
            refine N.blk ?_
            refine N.seq ?_
            refine W.region ?_
            refine WL.move rfl rfl rfl ?_
            refine WL.add (c := (k : Int) + 1) rfl rfl rfl rfl (rfl) (by omega) ?_
            refine WL.assign rfl rfl rfl ?_
            refine WL.nil ?_
            have hmx : ∀ b ∈ f.blocks.take (k + 1), b.params + (b.ins.length : Int) ≤ x9.params + (x9.ins.length : Int) := fun b hb => by rw [take_next hx9] at hb; simp only [List.mem_append, List.mem_cons, List.not_mem_nil, or_false] at hb; rcases hb with hb | hb; have := hms b hb; omega; subst hb; omega
            exact N.loop (k + 1, x9.params + (x9.ins.length : Int), (roFrom R2 w7 w10), w10) ⟨rfl, rfl, rfl, rfl, rfl, rfl, rfl, rfl, rfl, rfl, rfl, rfl, rfl, rfl, trivial⟩ ⟨hS, by omega, hmx, by omega, halL0, hsub⟩ (by first | omega | (simp only; omega))
        ·
          have hc13p : ¬ (ms < x9.params + (x9.ins.length : Int)) := by simpa using hc13
          refine W.skip ?_
          refine N.seq ?_
          refine W.seq ?_
          refine W.seq ?_
          refine W.region ?_
          refine WL.move rfl rfl rfl ?_
          refine WL.lenSlice Try.underlying29 rfl rfl rfl ?_
          refine WL.move rfl rfl rfl ?_
          refine WL.bin rfl rfl rfl rfl rfl ?_
          refine WL.set 60 (v' := .bool false) rfl (by rw [decide_eq_true (by omega)]; rfl) ?_
          refine WL.nil ?_
          refine N.seq ?_
          refine W.condF rfl ?_
          refine W.skip ?_
          refine N.seq ?_
          refine W.seq ?_
          refine W.region ?_
          refine WL.assign rfl rfl rfl ?_
          refine WL.nil ?_
          refine N.seq ?_
          refine W.seq ?_
          refine W.region ?_
          refine WL.assign rfl rfl rfl ?_
          refine WL.nil ?_
          refine N.seq ?_
          refine W.block ?_
          refine W.loop (α := Nat × Int) (fun ⟨i, tp⟩ => [(0, .agg #[.string f.name, .int .i64 f.bind, .int .i64 f.params, .slice adbF f.blocks.length capbF]), (1, .pointer (some ⟨b1, 0, none⟩)), (3, .bool true), (4, .bool (func5 f)), (5, .int .i64 (many16 f)), (6, .int .i64 ms), (7, .int .i64 (k : Int)), (8, .slice adl ((give16 x9).length) capl), (9, .int .i64 (x9.params + (x9.ins.length : Int))), (10, .int .i64 tp), (11, .int .i64 (i : Int)), (12, .bool true), (13, .agg #[.string f.name, .int .i64 f.bind, .int .i64 f.params, .slice adbF f.blocks.length capbF]), (14, .bool (func5 f)), (15, .bool (func5 f)), (16, .bool (!(func5 f))), (18, .agg #[.string f.name, .int .i64 f.bind, .int .i64 f.params, .slice adbF f.blocks.length capbF]), (19, .int .i64 (many16 f)), (20, .int .i64 (k : Int)), (21, .pointer (some ⟨b1, 3, none⟩)), (22, .slice adbF f.blocks.length capbF), (23, .int .i64 (f.blocks.length : Int)), (24, .bool (decide ((k : Int) < (f.blocks.length : Int)))), (27, .pointer (some ⟨b1, 3, none⟩)), (28, .slice adbF f.blocks.length capbF), (29, .int .i64 (k : Int)), (30, .pointer (some ⟨b9, o9 + k * 8, none⟩)), (31, .agg #[.int .i64 x9.params, .slice adi9 x9.ins.length capi9, .int .i64 x9.fin.kind, .int .i64 x9.fin.a, .int .i64 x9.fin.to, .slice adp9 x9.fin.args.length capp9, .int .i64 x9.fin.els, .slice adq9 x9.fin.elses.length capq9]), (32, .slice adl ((give16 x9).length) capl), (33, .pointer (some ⟨b1, 3, none⟩)), (34, .slice adbF f.blocks.length capbF), (35, .int .i64 (k : Int)), (36, .pointer (some ⟨b9, o9 + k * 8, none⟩)), (37, .pointer (some ⟨b9, o9 + k * 8, none⟩)), (38, .int .i64 x9.params), (39, .pointer (some ⟨b1, 3, none⟩)), (40, .slice adbF f.blocks.length capbF), (41, .int .i64 (k : Int)), (42, .pointer (some ⟨b9, o9 + k * 8, none⟩)), (43, .pointer (some ⟨b9, o9 + k * 8 + 1, none⟩)), (44, .slice adi9 x9.ins.length capi9), (45, .int .i64 (x9.ins.length : Int)), (46, .int .i64 (x9.params + (x9.ins.length : Int))), (47, .slice adl ((give16 x9).length) capl), (48, .int .i64 ((give16 x9).length : Int)), (49, .int .i64 (x9.params + (x9.ins.length : Int))), (50, .bool false), (51, .bool false), (52, .int .i64 (x9.params + (x9.ins.length : Int))), (53, .int .i64 ms), (54, .bool (decide (ms < x9.params + (x9.ins.length : Int)))), (55, .bool (decide (ms < x9.params + (x9.ins.length : Int)))), (57, .slice adl ((give16 x9).length) capl), (58, .int .i64 ((give16 x9).length : Int)), (59, .int .i64 (x9.params + (x9.ins.length : Int))), (60, .bool false)]) (fun ⟨i, tp⟩ u => St w w10 u (roFrom R2 w7 w10) [(b1, .cells #[.string f.name, .int .i64 f.bind, .int .i64 f.params, .slice adbF f.blocks.length capbF] 24 (0, 0))] [] ∧ i ≤ (give16 x9).length ∧ (∀ y ∈ (give16 x9).take i, y ≤ tp) ∧ (-1 ≤ tp ∧ tp ≤ 3000)) (fun ⟨i, tp⟩ => (give16 x9).length - i) (0, -1) ⟨rfl, rfl, rfl, rfl, rfl, rfl, rfl, rfl, rfl, rfl, rfl, rfl, rfl, rfl, rfl, rfl, rfl, rfl, rfl, rfl, rfl, rfl, rfl, rfl, rfl, rfl, rfl, rfl, rfl, rfl, rfl, rfl, rfl, rfl, rfl, rfl, rfl, rfl, rfl, rfl, rfl, rfl, rfl, rfl, rfl, rfl, rfl, rfl, rfl, rfl, rfl, rfl, rfl, rfl, rfl, rfl, trivial⟩ ⟨hS, Nat.zero_le _, (fun y hy => by simp at hy), by omega⟩ ?_
          clear hS
          rintro ⟨i, tp⟩ w20 ⟨hS, hi, htp, htb⟩
          refine W.seq ?_
          refine W.seq ?_
          refine W.region ?_
          refine WL.move rfl rfl rfl ?_
          refine WL.move rfl rfl rfl ?_
          refine WL.lenSlice Try.underlying29 rfl rfl rfl ?_
          refine WL.bin rfl rfl rfl rfl rfl ?_
          refine WL.nil ?_
          refine N.seq ?_
          refine W.cond rfl (fun hc21 => ?_) (fun hc21 => ?_)
          ·
            have hc21p : (i : Int) < ((give16 x9).length : Int) := by simpa using hc21
            refine W.skip ?_
            refine N.seq ?_
            refine W.seq ?_
            refine W.block ?_
            refine W.seq ?_
            refine W.seq ?_
            refine W.region ?_
            refine WL.move rfl rfl rfl ?_
            refine WL.move rfl rfl rfl ?_
            have hj22 : i < (give16 x9).length := by omega
            obtain ⟨x22, hx22⟩ : ∃ zz, (give16 x9)[i]? = some zz := ⟨_, List.getElem?_eq_getElem hj22⟩
            obtain ⟨b22, o22, cs22, hE22, hr22, hl22, hc22, hQ22⟩ := hvld i _ hx22
            obtain ⟨rfl, hi22⟩ := hQ22
            refine WL.indexAddrE (j := i) Try.underlying29 isz_3 rfl rfl rfl rfl hj22 hE22 ?_
            refine WL.load1 (v := .int .i64 x22) one_3 rfl rfl rfl (hS.roCells hr22 hc22 0 _ rfl) ?_
            refine WL.bin rfl rfl rfl rfl rfl ?_
            obtain ⟨hfx1, hfx2, hfx3⟩ := hfew.step i _ hx22
            have hfx4 := many16_ge (List.mem_of_getElem? hx9) (List.mem_of_getElem? hx22)
            have hfx5 : x22 ≤ tp + 1 := by rcases hfx3 with h | h; omega; have := htp _ h; omega
            have hfx6 := hfew.low i _ hx22
            refine WL.set 71 (v' := .bool false) rfl (congrArg Value.bool (show (decide (x22 < 0)) = false from decide_eq_false (by omega))) ?_
            refine WL.move rfl rfl rfl ?_
            refine WL.move rfl rfl rfl ?_
            refine WL.move rfl rfl rfl ?_
            refine WL.indexAddrE (j := i) Try.underlying29 isz_3 rfl rfl rfl rfl hj22 hE22 ?_
            refine WL.load1 (v := .int .i64 x22) one_3 rfl rfl rfl (hS.roCells hr22 hc22 0 _ rfl) ?_
            refine WL.move rfl rfl rfl ?_
            refine WL.add (c := tp + 1) rfl rfl rfl rfl (rfl) (by omega) ?_
            refine WL.bin rfl rfl rfl rfl rfl ?_
            refine WL.set 79 (v' := .bool false) rfl (congrArg Value.bool (show (decide (tp + 1 < x22)) = false from decide_eq_false (by omega))) ?_
            refine WL.pick (v := .bool false) rfl rfl rfl rfl rfl rfl ?_
            refine WL.move rfl rfl rfl ?_
            refine WL.move rfl rfl rfl ?_
            refine WL.fieldAddr fo_24_3 rfl rfl rfl ?_
            refine WL.load1 (v := .slice adbF f.blocks.length capbF) one_22 rfl rfl rfl (hS.cell 0 rfl rfl) ?_
            refine WL.move rfl rfl rfl ?_
            refine WL.indexAddrE (j := k) Try.underlying22 isz_33 rfl rfl rfl rfl hj9 hE9 ?_
            refine WL.fieldAddr fo_33_0 rfl rfl rfl ?_
            refine WL.load1 (v := .int .i64 x9.params) one_3 rfl rfl rfl (hS.roCells hr9 hc9 0 _ rfl) ?_
            refine WL.bin rfl rfl rfl rfl rfl ?_
            refine WL.move rfl rfl rfl ?_
            cases hg23 : (decide ((i : Int) < x9.params))
            ·
              have hg23p : ¬ ((i : Int) < x9.params) := by simpa using hg23
              refine WL.skp rfl rfl ?_
              refine WL.skp rfl rfl ?_
              refine WL.skp rfl rfl ?_
              refine WL.skp rfl rfl ?_
              refine WL.skp rfl rfl ?_
              refine WL.skp rfl rfl ?_
              refine WL.pick (v := .bool false) rfl rfl rfl rfl rfl rfl ?_
              refine WL.pick (v := .bool false) rfl rfl rfl rfl rfl rfl ?_
              refine WL.move rfl rfl rfl ?_
              refine WL.move rfl rfl rfl ?_
              refine WL.move rfl rfl rfl ?_
              refine WL.indexAddrE (j := i) Try.underlying29 isz_3 rfl rfl rfl rfl hj22 hE22 ?_
              refine WL.load1 (v := .int .i64 x22) one_3 rfl rfl rfl (hS.roCells hr22 hc22 0 _ rfl) ?_
              refine WL.move rfl rfl rfl ?_
              refine WL.bin rfl rfl rfl rfl rfl ?_
              refine WL.set 105 (v' := .bool false) rfl (congrArg Value.bool (show (decide (many16 f ≤ x22)) = false from decide_eq_false (by omega))) ?_
              refine WL.pick (v := .bool false) rfl rfl rfl rfl rfl rfl ?_
              refine WL.nil ?_
              refine N.seq ?_
              refine W.condF rfl ?_
              refine W.skip ?_
              refine N.seq ?_
              refine W.seq ?_
              refine W.region ?_
              refine WL.move rfl rfl rfl ?_
              refine WL.move rfl rfl rfl ?_
              refine WL.indexAddrE (j := i) Try.underlying29 isz_3 rfl rfl rfl rfl hj22 hE22 ?_
              refine WL.load1 (v := .int .i64 x22) one_3 rfl rfl rfl (hS.roCells hr22 hc22 0 _ rfl) ?_
              refine WL.move rfl rfl rfl ?_
              refine WL.bin rfl rfl rfl rfl rfl ?_
              refine WL.nil ?_
              refine N.seq ?_
              refine W.cond rfl (fun hc24 => ?_) (fun hc24 => ?_)
              ·
                have hc24p : tp < x22 := by simpa using hc24
                refine W.region ?_
                refine WL.move rfl rfl rfl ?_
                refine WL.move rfl rfl rfl ?_
                refine WL.indexAddrE (j := i) Try.underlying29 isz_3 rfl rfl rfl rfl hj22 hE22 ?_
                refine WL.load1 (v := .int .i64 x22) one_3 rfl rfl rfl (hS.roCells hr22 hc22 0 _ rfl) ?_
                refine WL.assign rfl rfl rfl ?_
                refine WL.nil ?_
                refine N.blk ?_
                refine N.seq ?_
                refine W.region ?_
                refine WL.move rfl rfl rfl ?_
                refine WL.add (c := (i : Int) + 1) rfl rfl rfl rfl (rfl) (by omega) ?_
                refine WL.assign rfl rfl rfl ?_
                refine WL.nil ?_
                have htn : ∀ y ∈ (give16 x9).take (i + 1), y ≤ x22 := fun y hy => by rw [take_next hx22] at hy; simp only [List.mem_append, List.mem_cons, List.not_mem_nil, or_false] at hy; rcases hy with hy | hy; have := htp y hy; omega; omega
                exact N.loop (i + 1, x22) ⟨rfl, rfl, rfl, rfl, rfl, rfl, rfl, rfl, rfl, rfl, rfl, rfl, rfl, rfl, rfl, rfl, rfl, rfl, rfl, rfl, rfl, rfl, rfl, rfl, rfl, rfl, rfl, rfl, rfl, rfl, rfl, rfl, rfl, rfl, rfl, rfl, rfl, rfl, rfl, rfl, rfl, rfl, rfl, rfl, rfl, rfl, rfl, rfl, rfl, rfl, rfl, rfl, rfl, rfl, rfl, rfl, trivial⟩ ⟨hS, by omega, htn, by omega⟩ (by first | omega | (simp only; omega))
              ·
                have hc24p : ¬ (tp < x22) := by simpa using hc24
                refine W.skip ?_
                refine N.blk ?_
                refine N.seq ?_
                refine W.region ?_
                refine WL.move rfl rfl rfl ?_
                refine WL.add (c := (i : Int) + 1) rfl rfl rfl rfl (rfl) (by omega) ?_
                refine WL.assign rfl rfl rfl ?_
                refine WL.nil ?_
                have htn : ∀ y ∈ (give16 x9).take (i + 1), y ≤ tp := fun y hy => by rw [take_next hx22] at hy; simp only [List.mem_append, List.mem_cons, List.not_mem_nil, or_false] at hy; rcases hy with hy | hy; have := htp y hy; omega; omega
                exact N.loop (i + 1, tp) ⟨rfl, rfl, rfl, rfl, rfl, rfl, rfl, rfl, rfl, rfl, rfl, rfl, rfl, rfl, rfl, rfl, rfl, rfl, rfl, rfl, rfl, rfl, rfl, rfl, rfl, rfl, rfl, rfl, rfl, rfl, rfl, rfl, rfl, rfl, rfl, rfl, rfl, rfl, rfl, rfl, rfl, rfl, rfl, rfl, rfl, rfl, rfl, rfl, rfl, rfl, rfl, rfl, rfl, rfl, rfl, rfl, trivial⟩ ⟨hS, by omega, htn, by omega⟩ (by first | omega | (simp only; omega))
            ·
              have hg23p : (i : Int) < x9.params := by simpa using hg23
              refine WL.move rfl rfl rfl ?_
              refine WL.move rfl rfl rfl ?_
              refine WL.indexAddrE (j := i) Try.underlying29 isz_3 rfl rfl rfl rfl hj22 hE22 ?_
              refine WL.load1 (v := .int .i64 x22) one_3 rfl rfl rfl (hS.roCells hr22 hc22 0 _ rfl) ?_
              refine WL.move rfl rfl rfl ?_
              refine WL.bin rfl rfl rfl rfl rfl ?_
              refine WL.set 96 (v' := .bool false) rfl (by rw [decide_eq_true (hfx6 (by omega))]; rfl) ?_
              refine WL.pick (v := .bool false) rfl rfl rfl rfl rfl rfl ?_
              refine WL.pick (v := .bool false) rfl rfl rfl rfl rfl rfl ?_
              refine WL.move rfl rfl rfl ?_
              refine WL.move rfl rfl rfl ?_
              refine WL.move rfl rfl rfl ?_
              refine WL.indexAddrE (j := i) Try.underlying29 isz_3 rfl rfl rfl rfl hj22 hE22 ?_
              refine WL.load1 (v := .int .i64 x22) one_3 rfl rfl rfl (hS.roCells hr22 hc22 0 _ rfl) ?_
              refine WL.move rfl rfl rfl ?_
              refine WL.bin rfl rfl rfl rfl rfl ?_
              refine WL.set 105 (v' := .bool false) rfl (congrArg Value.bool (show (decide (many16 f ≤ x22)) = false from decide_eq_false (by omega))) ?_
              refine WL.pick (v := .bool false) rfl rfl rfl rfl rfl rfl ?_
              refine WL.nil ?_
              refine N.seq ?_
              refine W.condF rfl ?_
              refine W.skip ?_
              refine N.seq ?_
              refine W.seq ?_
              refine W.region ?_
              refine WL.move rfl rfl rfl ?_
              refine WL.move rfl rfl rfl ?_
              refine WL.indexAddrE (j := i) Try.underlying29 isz_3 rfl rfl rfl rfl hj22 hE22 ?_
              refine WL.load1 (v := .int .i64 x22) one_3 rfl rfl rfl (hS.roCells hr22 hc22 0 _ rfl) ?_
              refine WL.move rfl rfl rfl ?_
              refine WL.bin rfl rfl rfl rfl rfl ?_
              refine WL.nil ?_
              refine N.seq ?_
              refine W.cond rfl (fun hc25 => ?_) (fun hc25 => ?_)
              ·
                have hc25p : tp < x22 := by simpa using hc25
                refine W.region ?_
                refine WL.move rfl rfl rfl ?_
                refine WL.move rfl rfl rfl ?_
                refine WL.indexAddrE (j := i) Try.underlying29 isz_3 rfl rfl rfl rfl hj22 hE22 ?_
                refine WL.load1 (v := .int .i64 x22) one_3 rfl rfl rfl (hS.roCells hr22 hc22 0 _ rfl) ?_
                refine WL.assign rfl rfl rfl ?_
                refine WL.nil ?_
                refine N.blk ?_
                refine N.seq ?_
                refine W.region ?_
                refine WL.move rfl rfl rfl ?_
                refine WL.add (c := (i : Int) + 1) rfl rfl rfl rfl (rfl) (by omega) ?_
                refine WL.assign rfl rfl rfl ?_
                refine WL.nil ?_
                have htn : ∀ y ∈ (give16 x9).take (i + 1), y ≤ x22 := fun y hy => by rw [take_next hx22] at hy; simp only [List.mem_append, List.mem_cons, List.not_mem_nil, or_false] at hy; rcases hy with hy | hy; have := htp y hy; omega; omega
                exact N.loop (i + 1, x22) ⟨rfl, rfl, rfl, rfl, rfl, rfl, rfl, rfl, rfl, rfl, rfl, rfl, rfl, rfl, rfl, rfl, rfl, rfl, rfl, rfl, rfl, rfl, rfl, rfl, rfl, rfl, rfl, rfl, rfl, rfl, rfl, rfl, rfl, rfl, rfl, rfl, rfl, rfl, rfl, rfl, rfl, rfl, rfl, rfl, rfl, rfl, rfl, rfl, rfl, rfl, rfl, rfl, rfl, rfl, rfl, rfl, trivial⟩ ⟨hS, by omega, htn, by omega⟩ (by first | omega | (simp only; omega))
              ·
                have hc25p : ¬ (tp < x22) := by simpa using hc25
                refine W.skip ?_
                refine N.blk ?_
                refine N.seq ?_
                refine W.region ?_
                refine WL.move rfl rfl rfl ?_
                refine WL.add (c := (i : Int) + 1) rfl rfl rfl rfl (rfl) (by omega) ?_
                refine WL.assign rfl rfl rfl ?_
                refine WL.nil ?_
                have htn : ∀ y ∈ (give16 x9).take (i + 1), y ≤ tp := fun y hy => by rw [take_next hx22] at hy; simp only [List.mem_append, List.mem_cons, List.not_mem_nil, or_false] at hy; rcases hy with hy | hy; have := htp y hy; omega; omega
                exact N.loop (i + 1, tp) ⟨rfl, rfl, rfl, rfl, rfl, rfl, rfl, rfl, rfl, rfl, rfl, rfl, rfl, rfl, rfl, rfl, rfl, rfl, rfl, rfl, rfl, rfl, rfl, rfl, rfl, rfl, rfl, rfl, rfl, rfl, rfl, rfl, rfl, rfl, rfl, rfl, rfl, rfl, rfl, rfl, rfl, rfl, rfl, rfl, rfl, rfl, rfl, rfl, rfl, rfl, rfl, rfl, rfl, rfl, rfl, rfl, trivial⟩ ⟨hS, by omega, htn, by omega⟩ (by first | omega | (simp only; omega))
          ·
            have hc21p : ¬ ((i : Int) < ((give16 x9).length : Int)) := by simpa using hc21
            refine W.exit ?_
            refine X.seq ?_
            refine X.loop ?_
            refine X.blk ?_
            refine N.blk ?_
            refine N.seq ?_
            refine W.region ?_
            refine WL.move rfl rfl rfl ?_
            refine WL.add (c := (k : Int) + 1) rfl rfl rfl rfl (rfl) (by omega) ?_
            refine WL.assign rfl rfl rfl ?_
            refine WL.nil ?_
            have hmx : ∀ b ∈ f.blocks.take (k + 1), b.params + (b.ins.length : Int) ≤ ms := fun b hb => by rw [take_next hx9] at hb; simp only [List.mem_append, List.mem_cons, List.not_mem_nil, or_false] at hb; rcases hb with hb | hb; have := hms b hb; omega; subst hb; omega
            exact N.loop (k + 1, ms, (roFrom R2 w7 w10), w10) ⟨rfl, rfl, rfl, rfl, rfl, rfl, rfl, rfl, rfl, rfl, rfl, rfl, rfl, rfl, trivial⟩ ⟨hS, by omega, hmx, by omega, halL0, hsub⟩ (by first | omega | (simp only; omega))
    ·
      have hc8p : ¬ ((k : Int) < (f.blocks.length : Int)) := by simpa using hc8
      refine W.exit ?_
      refine X.seq ?_
      refine X.loop ?_
      refine X.blk ?_
      refine N.seq ?_
      refine W.seq ?_
      refine W.region ?_
      refine WL.move rfl rfl rfl ?_
      refine WL.move rfl rfl rfl ?_
      refine WL.move rfl rfl rfl ?_
      refine WL.move rfl rfl rfl ?_
      refine WL.bin rfl rfl rfl rfl rfl ?_
      have hmm : many16 f ≤ ms := by rw [← manyAt_full]; exact manyAt_le hms0 _ (fun b hb x hx => by have h1 := hms b (by rw [show k = f.blocks.length by omega]; exact hb); have hb2 := List.mem_of_mem_take hb; obtain ⟨j, hj⟩ := List.mem_iff_getElem?.1 hx; have h2 := (few16 (hokb b hb2)).step j x hj; have h3 := give16_length (hokb b hb2); have h4 := (List.getElem?_eq_some_iff.1 hj).1; have h5 := (hokb b hb2).p0; omega)
      refine WL.set 121 (v' := .bool true) rfl (congrArg Value.bool (show (decide (many16 f ≤ ms)) = true from decide_eq_true hmm)) ?_
      refine WL.pick (v := .bool true) rfl rfl rfl rfl rfl rfl ?_
      refine WL.move rfl rfl rfl ?_
      refine WL.loadN (cs := [.string f.name, .int .i64 f.bind, .int .i64 f.params, .slice adbF f.blocks.length capbF]) agg_24 rfl rfl rfl rfl (hS.cells 0 (m := 4) rfl rfl) ?_
      refine WL.callF (vs := [.agg #[.string f.name, .int .i64 f.bind, .int .i64 f.params, .slice adbF f.blocks.length capbF]]) Try.func15 (by kernel_rfl) rfl rfl rfl (irFunc_ret f _ (ro := R2) (fun b hb => (hS.snap b hb).1) (hx.keep hS.alike) hf5) ?_
      rintro v w26 ⟨rfl, hbl⟩
      replace hS := hS.grow hbl
      refine WL.pick (v := .bool true) rfl rfl rfl rfl rfl rfl ?_
      refine WL.assign rfl rfl rfl ?_
      refine WL.nil ?_
      refine N.seq ?_
      refine Fin.ret1 rfl (v := .bool true) rfl ?_
      exact ⟨rfl, hS.below⟩

end Go.Proofs.Ytkgmijhcaclpoaa
