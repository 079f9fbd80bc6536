/-
  Contracts of layer 16 (slot). No condition beyond those that each theorem states.
-/
import Derived.Test.YtkgmijhcaclpoaaS6
namespace Go.Proofs.Ytkgmijhcaclpoaa
open Go.RowKit

theorem rlIns_ge {v : Int} : ∀ (l : List DInst) (i : Nat) (acc : Int) (j : Nat) (x : DInst), l[j]? = some x → v ∈ uses5 x → ((i + j : Nat) : Int) ≤ rlIns i v acc l
  | [], _, _, _, _, h, _ => by simp at h
  | y :: r, i, acc, 0, x, h, hv => by
    simp only [List.getElem?_cons_zero, Option.some.injEq] at h
    subst h
    rw [rlIns, if_pos hv]
    have : ∀ (l : List DInst) (i : Nat) (acc : Int), acc < i → acc ≤ rlIns i v acc l := fun l => by
      induction l with
      | nil => intro i acc _; exact Int.le_refl _
      | cons z l ih =>
        intro i acc h
        rw [rlIns]
        split
        · have := ih (i + 1) i (by omega); omega
        · exact ih (i + 1) acc (by omega)
    have := this r (i + 1) (i : Int) (by omega)
    simpa using this
  | y :: r, i, acc, j + 1, x, h, hv => by
    rw [rlIns]
    have := rlIns_ge r (i + 1) (if v ∈ uses5 y then (i : Int) else acc) j x (by simpa using h) hv
    rw [show i + (j + 1) = i + 1 + j by omega]; exact this
theorem rlIns_is {v : Int} : ∀ (l : List DInst) (i : Nat) (acc z : Int), rlIns i v acc l = z → z = acc ∨ ∃ (j : Nat) (x : DInst), l[j]? = some x ∧ v ∈ uses5 x ∧ z = ((i + j : Nat) : Int)
  | [], _, _, _, h => .inl h.symm
  | y :: r, i, acc, z, h => by
    rw [rlIns] at h
    rcases rlIns_is r (i + 1) _ z h with h1 | ⟨j, x, h1, h2, h3⟩
    · by_cases hv : v ∈ uses5 y
      · rw [if_pos hv] at h1
        exact .inr ⟨0, y, rfl, hv, by simpa using h1⟩
      · rw [if_neg hv] at h1; exact .inl h1
    · exact .inr ⟨j + 1, x, by simpa using h1, h2, by rw [h3]; congr 1; omega⟩
theorem last16_ge {b : DBlock} (hok : Ok16 b) {v i : Nat} {z : Int} {x : DInst} (hz : (last16 b)[v]? = some z) (hx : b.ins[i]? = some x) (hv : (v : Int) ∈ uses5 x) : (i : Int) ≤ z := by
  have hlt : v < b.params.toNat + b.ins.length := by have := (List.getElem?_eq_some_iff.1 hz).1; rwa [last16_length] at this
  rw [last16_get hok hlt] at hz
  cases hz
  have hi := (List.getElem?_eq_some_iff.1 hx).1
  unfold rl16
  split
  · omega
  · have := rlIns_ge (v := v) b.ins 0 (given16i b v) i x hx hv; simpa using this
theorem last16_at {b : DBlock} (hok : Ok16 b) {v i : Nat} {z : Int} {x : DInst} (hz : (last16 b)[v]? = some z) (hx : b.ins[i]? = some x) (hi : (i : Int) = z) : (v : Int) ∈ uses5 x ∨ (i : Int) = (v : Int) - b.params := by
  have hlt : v < b.params.toNat + b.ins.length := by have := (List.getElem?_eq_some_iff.1 hz).1; rwa [last16_length] at this
  rw [last16_get hok hlt] at hz
  cases hz
  have hil := (List.getElem?_eq_some_iff.1 hx).1
  unfold rl16 at hi
  split at hi
  · omega
  · rcases rlIns_is _ _ _ _ hi.symm with h | ⟨j, y, h1, h2, h3⟩
    · unfold given16i at h
      split at h
      · omega
      · exact .inr h
    · have : j = i := by omega
      subst this
      rw [hx] at h1; cases h1
      exact .inl h2

set_option maxRecDepth 10000 in
set_option maxHeartbeats 4000000 in
theorem slotLast_ret (f : DFunc) (cf : List Value) (k v : Int) (hki : inI k) (hvi : inI v) {w : World} {ro : Nat → Prop} (hro : ∀ b, ro b → b < w.heap.size) (hx : FuncC ro w cf f) (hok : okFunc f) : Ret Try.prog 4 #[.agg cf.toArray, .int .i64 k, .int .i64 v] w fun v w' => v = .bool true ∧ Below w.heap.size w w' := by
  obtain ⟨sbF, rfl, hblF, hnmF, hbdF, hprF⟩ := id hx
  obtain ⟨adbF, capbF, rfl, hbkFa, hbkFb, hbkFc, hbkFd⟩ := id hblF
  have hbkFm : f.blocks.length ≤ 9223372036854775807 := by have h1 := hbkFa; have h2 := hbkFb; unfold maxLen at h2; omega
  refine Ret.enter (P := Try.prog) (n := 134) (args := [.agg #[.string f.name, .int .i64 f.bind, .int .i64 f.params, .slice adbF f.blocks.length capbF], .int .i64 k, .int .i64 v]) (σ := [(0, .agg #[.string f.name, .int .i64 f.bind, .int .i64 f.params, .slice adbF f.blocks.length capbF]), (1, .int .i64 k), (2, .int .i64 v)]) Try.func4 rfl rfl rfl rfl ?_
  have hS := St.start (ro := ro) hro
  have hsub : ∀ b, ro b → ro b ∨ w.heap.size ≤ b := fun _ h => .inl h
  have halT : Alike ro w ro w := Alike.refl
  refine W.seq ?_
  refine W.region ?_
  refine WL.box (v := .agg #[.string f.name, .int .i64 f.bind, .int .i64 f.params, .slice adbF f.blocks.length capbF]) (cs := [.string f.name, .int .i64 f.bind, .int .i64 f.params, .slice adbF f.blocks.length capbF]) rfl rfl rfl rfl hS ?_
  clear hS; intro w2 b1 hb_b1 hS
  refine WL.assign rfl rfl rfl ?_
  refine WL.nil ?_
  refine N.seq ?_
  refine W.seq ?_
  refine W.region ?_
  refine WL.callF (vs := []) Try.func7 (by kernel_rfl) rfl rfl rfl (shown16_ret (ro := ro) (fun b hb => (hS.snap b hb).1)) ?_
  rintro v w3 ⟨rfl, hbl⟩
  replace hS := hS.grow hbl
  refine WL.assign rfl rfl rfl ?_
  refine WL.nil ?_
  refine N.seq ?_
  refine W.seq ?_
  refine W.region ?_
  refine WL.loadN (cs := [.string f.name, .int .i64 f.bind, .int .i64 f.params, .slice adbF f.blocks.length capbF]) agg_24 rfl rfl rfl rfl (hS.cells 0 (m := 4) rfl rfl) ?_
  refine WL.callF (vs := [.agg #[.string f.name, .int .i64 f.bind, .int .i64 f.params, .slice adbF f.blocks.length capbF]]) Try.func8 (by kernel_rfl) rfl rfl rfl (func5_ret f _ (ro := ro) (fun b hb => (hS.snap b hb).1) (hx.keep hS.alike) hok) ?_
  rintro v w4 ⟨rfl, hbl⟩
  replace hS := hS.grow hbl
  refine WL.assign rfl rfl rfl ?_
  refine WL.nil ?_
  refine N.seq ?_
  refine W.seq ?_
  refine W.seq ?_
  refine W.region ?_
  refine WL.move rfl rfl rfl ?_
  refine WL.not rfl rfl rfl ?_
  refine WL.move rfl rfl rfl ?_
  cases hg5 : (!(func5 f))
  ·
    refine WL.move rfl rfl rfl ?_
    refine WL.bin rfl rfl rfl rfl rfl ?_
    refine WL.pick (v := .bool (decide (k < 0))) rfl rfl rfl rfl rfl rfl ?_
    refine WL.move rfl rfl rfl ?_
    cases hg6 : (decide (k < 0))
    ·
      have hg6p : ¬ (k < 0) := by simpa using hg6
      refine WL.move rfl rfl rfl ?_
      refine WL.fieldAddr fo_24_3 rfl rfl rfl ?_
      refine WL.load1 (v := .slice adbF f.blocks.length capbF) one_22 rfl rfl rfl (hS.cell 0 rfl rfl) ?_
      refine WL.lenSlice Try.underlying22 rfl rfl rfl ?_
      refine WL.bin rfl rfl rfl rfl rfl ?_
      refine WL.pick (v := .bool (decide ((f.blocks.length : Int) ≤ k))) rfl rfl rfl rfl rfl rfl ?_
      refine WL.nil ?_
      refine N.seq ?_
      refine W.cond rfl (fun hc7 => ?_) (fun hc7 => ?_)
      ·
        have hc7p : (f.blocks.length : Int) ≤ k := by simpa using hc7
        refine W.seq ?_
        refine W.region ?_
        refine WL.move rfl rfl rfl ?_
        refine WL.assign rfl rfl rfl ?_
        refine WL.nil ?_
        refine N.seq ?_
        refine Fin.ret1 rfl (v := .bool true) rfl ?_
        exact ⟨rfl, hS.below⟩
      ·
        have hc7p : ¬ ((f.blocks.length : Int) ≤ k) := by simpa using hc7
        refine W.skip ?_
        refine N.seq ?_
        refine W.seq ?_
        refine W.region ?_
        refine WL.fieldAddr fo_24_3 rfl rfl rfl ?_
        refine WL.load1 (v := .slice adbF f.blocks.length capbF) one_22 rfl rfl rfl (hS.cell 0 rfl rfl) ?_
        refine WL.move rfl rfl rfl ?_
        refine WL.set 35 (v' := .int .i64 (k.toNat : Int)) rfl (by congr 1; omega) ?_
        have hj8 : k.toNat < f.blocks.length := by omega
        obtain ⟨x8, hx8⟩ : ∃ zz, f.blocks[k.toNat]? = some zz := ⟨_, List.getElem?_eq_getElem hj8⟩
        obtain ⟨b8, o8, cs8, hE8, hr8, hl8, hc8, hQ8⟩ := hbkFd k.toNat _ hx8
        obtain ⟨si8, tsx8, rfl, hin8, hfin8, hpar8⟩ := id hQ8
        obtain ⟨adi8, capi8, rfl, hin8a, hin8b, hin8c, hin8d⟩ := id hin8
        have hin8m : x8.ins.length ≤ 9223372036854775807 := by have h1 := hin8a; have h2 := hin8b; unfold maxLen at h2; omega
        obtain ⟨sp8, sq8, rfl, ht18, ht28, htk8, hta8, htt8, hte8⟩ := id hfin8
        obtain ⟨adp8, capp8, rfl, htp8a, htp8b, htp8c, htp8d⟩ := id ht18
        have htp8m : x8.fin.args.length ≤ 9223372036854775807 := by have h1 := htp8a; have h2 := htp8b; unfold maxLen at h2; omega
        obtain ⟨adq8, capq8, rfl, htq8a, htq8b, htq8c, htq8d⟩ := id ht28
        have htq8m : x8.fin.elses.length ≤ 9223372036854775807 := by have h1 := htq8a; have h2 := htq8b; unfold maxLen at h2; omega
        refine WL.indexAddrE (j := k.toNat) Try.underlying22 isz_33 rfl rfl rfl rfl hj8 hE8 ?_
        refine WL.loadN (cs := [.int .i64 x8.params, .slice adi8 x8.ins.length capi8, .int .i64 x8.fin.kind, .int .i64 x8.fin.a, .int .i64 x8.fin.to, .slice adp8 x8.fin.args.length capp8, .int .i64 x8.fin.els, .slice adq8 x8.fin.elses.length capq8]) agg_33 rfl rfl rfl rfl (hS.roCells hr8 hc8) ?_
        refine WL.alloc (tyZero_spec zer_33) rfl rfl hS ?_
        clear hS; intro w10 b9 hb_b9 hS
        refine WL.store (cs := [.int .i64 x8.params, .slice adi8 x8.ins.length capi8, .int .i64 x8.fin.kind, .int .i64 x8.fin.a, .int .i64 x8.fin.to, .slice adp8 x8.fin.args.length capp8, .int .i64 x8.fin.els, .slice adq8 x8.fin.elses.length capq8]) (c' := #[.int .i64 x8.params, .slice adi8 x8.ins.length capi8, .int .i64 x8.fin.kind, .int .i64 x8.fin.a, .int .i64 x8.fin.to, .slice adp8 x8.fin.args.length capp8, .int .i64 x8.fin.els, .slice adq8 x8.fin.elses.length capq8]) (L' := [(b9, .cells #[.int .i64 x8.params, .slice adi8 x8.ins.length capi8, .int .i64 x8.fin.kind, .int .i64 x8.fin.a, .int .i64 x8.fin.to, .slice adp8 x8.fin.args.length capp8, .int .i64 x8.fin.els, .slice adq8 x8.fin.elses.length capq8] 33 (0, 0)), (b1, .cells #[.string f.name, .int .i64 f.bind, .int .i64 f.params, .slice adbF f.blocks.length capbF] 24 (0, 0))]) 0 rfl rfl rfl rfl siz_33 rfl rfl rfl rfl rfl hS ?_
        clear hS; intro w11 hS
        refine WL.nil ?_
        refine N.seq ?_
        refine W.seq ?_
        refine W.region ?_
        refine WL.loadN (cs := [.int .i64 x8.params, .slice adi8 x8.ins.length capi8, .int .i64 x8.fin.kind, .int .i64 x8.fin.a, .int .i64 x8.fin.to, .slice adp8 x8.fin.args.length capp8, .int .i64 x8.fin.els, .slice adq8 x8.fin.elses.length capq8]) agg_33 rfl rfl rfl rfl (hS.cells 0 (m := 8) rfl rfl) ?_
        have hf5 : func5 f = true := by simpa using hg5
        have hok6 := ok16_of5 hf5 (List.mem_of_getElem? hx8)
        have hokn := hok6.n; have hokp := hok6.p0; have hokq := hok6.p1
        refine WL.callF (vs := [.agg #[.int .i64 x8.params, .slice adi8 x8.ins.length capi8, .int .i64 x8.fin.kind, .int .i64 x8.fin.a, .int .i64 x8.fin.to, .slice adp8 x8.fin.args.length capp8, .int .i64 x8.fin.els, .slice adq8 x8.fin.elses.length capq8]]) Try.func11 (by kernel_rfl) rfl rfl rfl (last16_ret x8 _ (ro := ro) (fun b hb => (hS.snap b hb).1) (hQ8.keep hS.alike) hok6) ?_
        rintro vl w12 ⟨hvl, hbl⟩
        have hal13 := hS.alikeTo hbl (ro' := (roFrom ro w11 w12)) (fun b hb => .inl hb)
        replace hsub : ∀ b, (roFrom ro w11 w12) b → ro b ∨ w.heap.size ≤ b := fun b hb => hb.elim (hsub b) (fun h => .inr (Nat.le_trans hS.below.size h.1))
        replace halT := halT.trans hal13
        replace hx := hx.keep hal13
        replace hbkFd : Elems (roFrom ro w11 w12) w12 8 (BlockC (roFrom ro w11 w12) w12) adbF f.blocks := hbkFd.keep hal13 (fun _ _ h => h.keep hal13)
        replace hblF : SlV (roFrom ro w11 w12) w12 8 (BlockC (roFrom ro w11 w12) w12) (.slice adbF f.blocks.length capbF) f.blocks := SlV.keep hblF hal13 (fun _ _ h => h.keep hal13)
        replace hQ8 := hQ8.keep hal13
        replace hin8d : Elems (roFrom ro w11 w12) w12 6 (InstC (roFrom ro w11 w12) w12) adi8 x8.ins := hin8d.keep hal13 (fun _ _ h => h.keep hal13)
        replace hin8 : SlV (roFrom ro w11 w12) w12 6 (InstC (roFrom ro w11 w12) w12) (.slice adi8 x8.ins.length capi8) x8.ins := SlV.keep hin8 hal13 (fun _ _ h => h.keep hal13)
        replace hfin8 := hfin8.keep hal13
        replace htp8d : Elems (roFrom ro w11 w12) w12 1 IntC adp8 x8.fin.args := htp8d.keep hal13 (fun _ _ h => h)
        replace ht18 : SlV (roFrom ro w11 w12) w12 1 IntC (.slice adp8 x8.fin.args.length capp8) x8.fin.args := SlV.keep ht18 hal13 (fun _ _ h => h)
        replace htq8d : Elems (roFrom ro w11 w12) w12 1 IntC adq8 x8.fin.elses := htq8d.keep hal13 (fun _ _ h => h)
        replace ht28 : SlV (roFrom ro w11 w12) w12 1 IntC (.slice adq8 x8.fin.elses.length capq8) x8.fin.elses := SlV.keep ht28 hal13 (fun _ _ h => h)
        replace hc8 := hc8.keep (hal13 _ hr8).2
        replace hr8 := (hal13 _ hr8).1
        replace hS := hS.readNew hbl
        replace hvl := SlV.keep hvl (ro' := (roFrom ro w11 w12)) (w' := w12) (Q' := IntC) (fun x hx => ⟨.inr hx, rfl⟩) (fun _ _ h => h)
        obtain ⟨adl, capl, rfl, hvla, hvlb, hvlc, hvld⟩ := id hvl
        have hvlm : (last16 x8).length ≤ 9223372036854775807 := by have h1 := hvla; have h2 := hvlb; unfold maxLen at h2; omega
        have hll := last16_length x8
        refine WL.assign rfl rfl rfl ?_
        refine WL.nil ?_
        refine N.seq ?_
        refine W.seq ?_
        refine W.seq ?_
        refine W.region ?_
        refine WL.move rfl rfl rfl ?_
        refine WL.lenSlice Try.underlying29 rfl rfl rfl ?_
        refine WL.fieldAddr fo_33_0 rfl rfl rfl ?_
        refine WL.load1 (v := .int .i64 x8.params) one_3 rfl rfl rfl (hS.cell 0 rfl rfl) ?_
        refine WL.fieldAddr fo_33_1 rfl rfl rfl ?_
        refine WL.load1 (v := .slice adi8 x8.ins.length capi8) one_28 rfl rfl rfl (hS.cell 0 rfl rfl) ?_
        refine WL.lenSlice Try.underlying28 rfl rfl rfl ?_
        refine WL.add (c := x8.params + (x8.ins.length : Int)) rfl rfl rfl rfl (rfl) (by omega) ?_
        refine WL.bin rfl rfl rfl rfl rfl ?_
        refine WL.nil ?_
        refine N.seq ?_
        refine W.cond rfl (fun hc14 => ?_) (fun hc14 => ?_)
        ·
          have hc14p : ¬ (((last16 x8).length : Int) = x8.params + (x8.ins.length : Int)) := by simpa using hc14
          refine W.seq ?_
          refine W.region ?_
          refine WL.assign rfl rfl rfl ?_
          refine WL.nil ?_
          refine N.seq ?_
          refine Fin.ret1 rfl (v := .bool false) rfl ?_
          exact absurd hll (by omega)
        ·
          have hc14p : ((last16 x8).length : Int) = x8.params + (x8.ins.length : Int) := by simpa using hc14
          refine W.skip ?_
          refine N.seq ?_
          refine W.seq ?_
          refine W.seq ?_
          refine W.region ?_
          refine WL.move rfl rfl rfl ?_
          refine WL.bin rfl rfl rfl rfl rfl ?_
          refine WL.move rfl rfl rfl ?_
          cases hg15 : (decide (v < 0))
          ·
            have hg15p : ¬ (v < 0) := by simpa using hg15
            refine WL.move rfl rfl rfl ?_
            refine WL.move rfl rfl rfl ?_
            refine WL.lenSlice Try.underlying29 rfl rfl rfl ?_
            refine WL.bin rfl rfl rfl rfl rfl ?_
            refine WL.pick (v := .bool (decide (((last16 x8).length : Int) ≤ v))) rfl rfl rfl rfl rfl rfl ?_
            refine WL.nil ?_
            refine N.seq ?_
            refine W.cond rfl (fun hc16 => ?_) (fun hc16 => ?_)
            ·
              have hc16p : ((last16 x8).length : Int) ≤ v := by simpa using hc16
              refine W.seq ?_
              refine W.region ?_
              refine WL.move rfl rfl rfl ?_
              refine WL.assign rfl rfl rfl ?_
              refine WL.nil ?_
              refine N.seq ?_
              refine Fin.ret1 rfl (v := .bool true) rfl ?_
              exact ⟨rfl, hS.below⟩
            ·
              have hc16p : ¬ (((last16 x8).length : Int) ≤ v) := by simpa using hc16
              refine W.skip ?_
              refine N.seq ?_
              refine W.seq ?_
              refine W.region ?_
              refine WL.assign rfl rfl rfl ?_
              refine WL.nil ?_
              refine N.seq ?_
              refine W.seq ?_
              refine W.seq ?_
              refine W.region ?_
              refine WL.assign rfl rfl rfl ?_
              refine WL.nil ?_
              refine N.seq ?_
              refine W.block ?_
              obtain ⟨z, hz⟩ : ∃ z, (last16 x8)[v.toNat]? = some z := ⟨_, List.getElem?_eq_getElem (by omega)⟩
              have hzr := last16_range hok6.p0 (List.mem_of_getElem? hz)
              have hvt : ((v.toNat : Nat) : Int) = v := by omega
              refine W.loop (α := Nat × Nat × (Nat → Prop) × World) (fun ⟨i, c, R2, ws2⟩ => [(0, .agg #[.string f.name, .int .i64 f.bind, .int .i64 f.params, .slice adbF f.blocks.length capbF]), (1, .int .i64 k), (2, .int .i64 v), (3, .pointer (some ⟨b1, 0, none⟩)), (7, .bool true), (8, .bool (func5 f)), (9, .pointer (some ⟨b9, 0, none⟩)), (10, .slice adl ((last16 x8).length) capl), (11, .int .i64 (c : Int)), (12, .int .i64 (i : Int)), (16, .bool true), (17, .agg #[.string f.name, .int .i64 f.bind, .int .i64 f.params, .slice adbF f.blocks.length capbF]), (18, .bool (func5 f)), (19, .bool (func5 f)), (20, .bool false), (21, .bool false), (22, .int .i64 k), (23, .bool false), (24, .bool false), (25, .bool false), (26, .int .i64 k), (27, .pointer (some ⟨b1, 3, none⟩)), (28, .slice adbF f.blocks.length capbF), (29, .int .i64 (f.blocks.length : Int)), (30, .bool (decide ((f.blocks.length : Int) ≤ k))), (31, .bool (decide ((f.blocks.length : Int) ≤ k))), (33, .pointer (some ⟨b1, 3, none⟩)), (34, .slice adbF f.blocks.length capbF), (35, .int .i64 (k.toNat : Int)), (36, .pointer (some ⟨b8, o8 + k.toNat * 8, none⟩)), (37, .agg #[.int .i64 x8.params, .slice adi8 x8.ins.length capi8, .int .i64 x8.fin.kind, .int .i64 x8.fin.a, .int .i64 x8.fin.to, .slice adp8 x8.fin.args.length capp8, .int .i64 x8.fin.els, .slice adq8 x8.fin.elses.length capq8]), (38, .agg #[.int .i64 x8.params, .slice adi8 x8.ins.length capi8, .int .i64 x8.fin.kind, .int .i64 x8.fin.a, .int .i64 x8.fin.to, .slice adp8 x8.fin.args.length capp8, .int .i64 x8.fin.els, .slice adq8 x8.fin.elses.length capq8]), (39, .slice adl ((last16 x8).length) capl), (40, .slice adl ((last16 x8).length) capl), (41, .int .i64 ((last16 x8).length : Int)), (42, .pointer (some ⟨b9, 0, none⟩)), (43, .int .i64 x8.params), (44, .pointer (some ⟨b9, 1, none⟩)), (45, .slice adi8 x8.ins.length capi8), (46, .int .i64 (x8.ins.length : Int)), (47, .int .i64 (x8.params + (x8.ins.length : Int))), (48, .bool (!decide (((last16 x8).length : Int) = x8.params + (x8.ins.length : Int)))), (49, .int .i64 v), (50, .bool false), (51, .bool false), (52, .int .i64 v), (53, .slice adl ((last16 x8).length) capl), (54, .int .i64 ((last16 x8).length : Int)), (55, .bool (decide (((last16 x8).length : Int) ≤ v))), (56, .bool (decide (((last16 x8).length : Int) ≤ v)))]) (fun ⟨i, c, R2, ws2⟩ u => St w ws2 u R2 [(b9, .cells #[.int .i64 x8.params, .slice adi8 x8.ins.length capi8, .int .i64 x8.fin.kind, .int .i64 x8.fin.a, .int .i64 x8.fin.to, .slice adp8 x8.fin.args.length capp8, .int .i64 x8.fin.els, .slice adq8 x8.fin.elses.length capq8] 33 (0, 0)), (b1, .cells #[.string f.name, .int .i64 f.bind, .int .i64 f.params, .slice adbF f.blocks.length capbF] 24 (0, 0))] [] ∧ i ≤ x8.ins.length ∧ c ≤ i ∧ Alike (roFrom ro w11 w12) w12 R2 ws2 ∧ (∀ b, R2 b → ro b ∨ w.heap.size ≤ b)) (fun ⟨i, c, R2, ws2⟩ => x8.ins.length - i) (0, 0, (roFrom ro w11 w12), w12) ⟨rfl, rfl, rfl, rfl, rfl, rfl, rfl, rfl, rfl, rfl, rfl, rfl, rfl, rfl, rfl, rfl, rfl, rfl, rfl, rfl, rfl, rfl, rfl, rfl, rfl, rfl, rfl, rfl, rfl, rfl, rfl, rfl, rfl, rfl, rfl, rfl, rfl, rfl, rfl, rfl, rfl, rfl, rfl, rfl, rfl, rfl, rfl, rfl, rfl, rfl, trivial⟩ ⟨hS, Nat.zero_le _, Nat.le_refl _, Alike.refl, hsub⟩ ?_
              clear hS
              rintro ⟨i, c, R2, ws2⟩ w17 ⟨hS, hi, hci, halL0, hsub⟩
              replace halT := halT.trans halL0
              replace hx := hx.keep halL0
              replace hbkFd : Elems R2 ws2 8 (BlockC R2 ws2) adbF f.blocks := hbkFd.keep halL0 (fun _ _ h => h.keep halL0)
              replace hblF : SlV R2 ws2 8 (BlockC R2 ws2) (.slice adbF f.blocks.length capbF) f.blocks := SlV.keep hblF halL0 (fun _ _ h => h.keep halL0)
              replace hQ8 := hQ8.keep halL0
              replace hin8d : Elems R2 ws2 6 (InstC R2 ws2) adi8 x8.ins := hin8d.keep halL0 (fun _ _ h => h.keep halL0)
              replace hin8 : SlV R2 ws2 6 (InstC R2 ws2) (.slice adi8 x8.ins.length capi8) x8.ins := SlV.keep hin8 halL0 (fun _ _ h => h.keep halL0)
              replace hfin8 := hfin8.keep halL0
              replace htp8d : Elems R2 ws2 1 IntC adp8 x8.fin.args := htp8d.keep halL0 (fun _ _ h => h)
              replace ht18 : SlV R2 ws2 1 IntC (.slice adp8 x8.fin.args.length capp8) x8.fin.args := SlV.keep ht18 halL0 (fun _ _ h => h)
              replace htq8d : Elems R2 ws2 1 IntC adq8 x8.fin.elses := htq8d.keep halL0 (fun _ _ h => h)
              replace ht28 : SlV R2 ws2 1 IntC (.slice adq8 x8.fin.elses.length capq8) x8.fin.elses := SlV.keep ht28 halL0 (fun _ _ h => h)
              replace hvld : Elems R2 ws2 1 IntC adl (last16 x8) := hvld.keep halL0 (fun _ _ h => h)
              replace hvl : SlV R2 ws2 1 IntC (.slice adl ((last16 x8).length) capl) (last16 x8) := SlV.keep hvl halL0 (fun _ _ h => h)
              replace hc8 := hc8.keep (halL0 _ hr8).2
              replace hr8 := (halL0 _ hr8).1
              refine W.seq ?_
              refine W.seq ?_
              refine W.region ?_
              refine WL.move rfl rfl rfl ?_
              refine WL.fieldAddr fo_33_1 rfl rfl rfl ?_
              refine WL.load1 (v := .slice adi8 x8.ins.length capi8) one_28 rfl rfl rfl (hS.cell 0 rfl rfl) ?_
              refine WL.lenSlice Try.underlying28 rfl rfl rfl ?_
              refine WL.bin rfl rfl rfl rfl rfl ?_
              refine WL.nil ?_
              refine N.seq ?_
              refine W.cond rfl (fun hc18 => ?_) (fun hc18 => ?_)
              ·
                have hc18p : (i : Int) < (x8.ins.length : Int) := by simpa using hc18
                refine W.skip ?_
                refine N.seq ?_
                refine W.seq ?_
                refine W.block ?_
                refine W.seq ?_
                refine W.region ?_
                refine WL.fieldAddr fo_33_1 rfl rfl rfl ?_
                refine WL.load1 (v := .slice adi8 x8.ins.length capi8) one_28 rfl rfl rfl (hS.cell 0 rfl rfl) ?_
                refine WL.move rfl rfl rfl ?_
                have hj19 : i < x8.ins.length := by omega
                obtain ⟨x19, hx19⟩ : ∃ zz, x8.ins[i]? = some zz := ⟨_, List.getElem?_eq_getElem hj19⟩
                obtain ⟨b19, o19, cs19, hE19, hr19, hl19, hc19, hQ19⟩ := hin8d i _ hx19
                have hQk19 := hQ19
                obtain ⟨sv19, rfl, hs19, ho19, ha19, hb19, hk19, hn19⟩ := hQ19
                obtain ⟨ad19, cap19, rfl, hs19a, hs19b, hs19c, hs19d⟩ := id hs19
                have hs19m : x19.args.length ≤ 9223372036854775807 := by have h1 := hs19a; have h2 := hs19b; unfold maxLen at h2; omega
                refine WL.indexAddrE (j := i) Try.underlying28 isz_39 rfl rfl rfl rfl hj19 hE19 ?_
                refine WL.loadN (cs := [.int .i64 x19.op, .int .i64 x19.a, .int .i64 x19.b, .int .u64 x19.k, .string x19.name, .slice ad19 x19.args.length cap19]) agg_39 rfl rfl rfl rfl (hS.roCells hr19 hc19) ?_
                refine WL.callF (vs := [.agg #[.int .i64 x19.op, .int .i64 x19.a, .int .i64 x19.b, .int .u64 x19.k, .string x19.name, .slice ad19 x19.args.length cap19]]) Try.func12 (by kernel_rfl) rfl rfl rfl (uses5_ret x19 _ (ro := R2) (fun b hb => (hS.snap b hb).1) (hQk19.keep hS.alike) (by have := hok6.args _ (List.mem_of_getElem? hx19); omega)) ?_
                rintro vu w20 ⟨hvu, hbl⟩
                have hal21 := hS.alikeTo hbl (ro' := (roFrom R2 w17 w20)) (fun b hb => .inl hb)
                replace hsub : ∀ b, (roFrom R2 w17 w20) b → ro b ∨ w.heap.size ≤ b := fun b hb => hb.elim (hsub b) (fun h => .inr (Nat.le_trans hS.below.size h.1))
                replace halT := halT.trans hal21
                replace halL0 := halL0.trans hal21
                replace hx := hx.keep hal21
                replace hbkFd : Elems (roFrom R2 w17 w20) w20 8 (BlockC (roFrom R2 w17 w20) w20) adbF f.blocks := hbkFd.keep hal21 (fun _ _ h => h.keep hal21)
                replace hblF : SlV (roFrom R2 w17 w20) w20 8 (BlockC (roFrom R2 w17 w20) w20) (.slice adbF f.blocks.length capbF) f.blocks := SlV.keep hblF hal21 (fun _ _ h => h.keep hal21)
                replace hQ8 := hQ8.keep hal21
                replace hin8d : Elems (roFrom R2 w17 w20) w20 6 (InstC (roFrom R2 w17 w20) w20) adi8 x8.ins := hin8d.keep hal21 (fun _ _ h => h.keep hal21)
                replace hin8 : SlV (roFrom R2 w17 w20) w20 6 (InstC (roFrom R2 w17 w20) w20) (.slice adi8 x8.ins.length capi8) x8.ins := SlV.keep hin8 hal21 (fun _ _ h => h.keep hal21)
                replace hfin8 := hfin8.keep hal21
                replace htp8d : Elems (roFrom R2 w17 w20) w20 1 IntC adp8 x8.fin.args := htp8d.keep hal21 (fun _ _ h => h)
                replace ht18 : SlV (roFrom R2 w17 w20) w20 1 IntC (.slice adp8 x8.fin.args.length capp8) x8.fin.args := SlV.keep ht18 hal21 (fun _ _ h => h)
                replace htq8d : Elems (roFrom R2 w17 w20) w20 1 IntC adq8 x8.fin.elses := htq8d.keep hal21 (fun _ _ h => h)
                replace ht28 : SlV (roFrom R2 w17 w20) w20 1 IntC (.slice adq8 x8.fin.elses.length capq8) x8.fin.elses := SlV.keep ht28 hal21 (fun _ _ h => h)
                replace hvld : Elems (roFrom R2 w17 w20) w20 1 IntC adl (last16 x8) := hvld.keep hal21 (fun _ _ h => h)
                replace hvl : SlV (roFrom R2 w17 w20) w20 1 IntC (.slice adl ((last16 x8).length) capl) (last16 x8) := SlV.keep hvl hal21 (fun _ _ h => h)
                replace hQk19 := hQk19.keep hal21
                replace hs19d : Elems (roFrom R2 w17 w20) w20 1 IntC ad19 x19.args := hs19d.keep hal21 (fun _ _ h => h)
                replace hs19 : SlV (roFrom R2 w17 w20) w20 1 IntC (.slice ad19 x19.args.length cap19) x19.args := SlV.keep hs19 hal21 (fun _ _ h => h)
                replace hc8 := hc8.keep (hal21 _ hr8).2
                replace hr8 := (hal21 _ hr8).1
                replace hc19 := hc19.keep (hal21 _ hr19).2
                replace hr19 := (hal21 _ hr19).1
                replace hS := hS.readNew hbl
                replace hvu := SlV.keep hvu (ro' := (roFrom R2 w17 w20)) (w' := w20) (Q' := IntC) (fun x hx => ⟨.inr hx, rfl⟩) (fun _ _ h => h)
                obtain ⟨adu, capu, rfl, hvua, hvub, hvuc, hvud⟩ := id hvu
                have hvum : (uses5 x19).length ≤ 9223372036854775807 := by have h1 := hvua; have h2 := hvub; unfold maxLen at h2; omega
                refine WL.assign rfl rfl rfl ?_
                refine WL.nil ?_
                refine N.seq ?_
                refine W.seq ?_
                refine W.region ?_
                refine WL.assign rfl rfl rfl ?_
                refine WL.nil ?_
                refine N.seq ?_
                refine W.seq ?_
                refine W.seq ?_
                refine W.region ?_
                refine WL.assign rfl rfl rfl ?_
                refine WL.nil ?_
                refine N.seq ?_
                refine W.block ?_
                refine W.loop (α := Nat × Bool) (fun ⟨n, inb⟩ => [(0, .agg #[.string f.name, .int .i64 f.bind, .int .i64 f.params, .slice adbF f.blocks.length capbF]), (1, .int .i64 k), (2, .int .i64 v), (3, .pointer (some ⟨b1, 0, none⟩)), (7, .bool true), (8, .bool (func5 f)), (9, .pointer (some ⟨b9, 0, none⟩)), (10, .slice adl ((last16 x8).length) capl), (11, .int .i64 (c : Int)), (12, .int .i64 (i : Int)), (13, .slice adu ((uses5 x19).length) capu), (14, .bool inb), (15, .int .i64 (n : Int)), (16, .bool true), (17, .agg #[.string f.name, .int .i64 f.bind, .int .i64 f.params, .slice adbF f.blocks.length capbF]), (18, .bool (func5 f)), (19, .bool (func5 f)), (20, .bool false), (21, .bool false), (22, .int .i64 k), (23, .bool false), (24, .bool false), (25, .bool false), (26, .int .i64 k), (27, .pointer (some ⟨b1, 3, none⟩)), (28, .slice adbF f.blocks.length capbF), (29, .int .i64 (f.blocks.length : Int)), (30, .bool (decide ((f.blocks.length : Int) ≤ k))), (31, .bool (decide ((f.blocks.length : Int) ≤ k))), (33, .pointer (some ⟨b1, 3, none⟩)), (34, .slice adbF f.blocks.length capbF), (35, .int .i64 (k.toNat : Int)), (36, .pointer (some ⟨b8, o8 + k.toNat * 8, none⟩)), (37, .agg #[.int .i64 x8.params, .slice adi8 x8.ins.length capi8, .int .i64 x8.fin.kind, .int .i64 x8.fin.a, .int .i64 x8.fin.to, .slice adp8 x8.fin.args.length capp8, .int .i64 x8.fin.els, .slice adq8 x8.fin.elses.length capq8]), (38, .agg #[.int .i64 x8.params, .slice adi8 x8.ins.length capi8, .int .i64 x8.fin.kind, .int .i64 x8.fin.a, .int .i64 x8.fin.to, .slice adp8 x8.fin.args.length capp8, .int .i64 x8.fin.els, .slice adq8 x8.fin.elses.length capq8]), (39, .slice adl ((last16 x8).length) capl), (40, .slice adl ((last16 x8).length) capl), (41, .int .i64 ((last16 x8).length : Int)), (42, .pointer (some ⟨b9, 0, none⟩)), (43, .int .i64 x8.params), (44, .pointer (some ⟨b9, 1, none⟩)), (45, .slice adi8 x8.ins.length capi8), (46, .int .i64 (x8.ins.length : Int)), (47, .int .i64 (x8.params + (x8.ins.length : Int))), (48, .bool (!decide (((last16 x8).length : Int) = x8.params + (x8.ins.length : Int)))), (49, .int .i64 v), (50, .bool false), (51, .bool false), (52, .int .i64 v), (53, .slice adl ((last16 x8).length) capl), (54, .int .i64 ((last16 x8).length : Int)), (55, .bool (decide (((last16 x8).length : Int) ≤ v))), (56, .bool (decide (((last16 x8).length : Int) ≤ v))), (58, .int .i64 (i : Int)), (59, .pointer (some ⟨b9, 1, none⟩)), (60, .slice adi8 x8.ins.length capi8), (61, .int .i64 (x8.ins.length : Int)), (62, .bool (decide ((i : Int) < (x8.ins.length : Int)))), (65, .pointer (some ⟨b9, 1, none⟩)), (66, .slice adi8 x8.ins.length capi8), (67, .int .i64 (i : Int)), (68, .pointer (some ⟨b19, o19 + i * 6, none⟩)), (69, .agg #[.int .i64 x19.op, .int .i64 x19.a, .int .i64 x19.b, .int .u64 x19.k, .string x19.name, .slice ad19 x19.args.length cap19]), (70, .slice adu ((uses5 x19).length) capu)]) (fun ⟨n, inb⟩ u => St w w20 u (roFrom R2 w17 w20) [(b9, .cells #[.int .i64 x8.params, .slice adi8 x8.ins.length capi8, .int .i64 x8.fin.kind, .int .i64 x8.fin.a, .int .i64 x8.fin.to, .slice adp8 x8.fin.args.length capp8, .int .i64 x8.fin.els, .slice adq8 x8.fin.elses.length capq8] 33 (0, 0)), (b1, .cells #[.string f.name, .int .i64 f.bind, .int .i64 f.params, .slice adbF f.blocks.length capbF] 24 (0, 0))] [] ∧ n ≤ (uses5 x19).length ∧ inb = decide (v ∈ (uses5 x19).take n)) (fun ⟨n, inb⟩ => (uses5 x19).length - n) (0, false) ⟨rfl, rfl, rfl, rfl, rfl, rfl, rfl, rfl, rfl, rfl, rfl, rfl, rfl, rfl, rfl, rfl, rfl, rfl, rfl, rfl, rfl, rfl, rfl, rfl, rfl, rfl, rfl, rfl, rfl, rfl, rfl, rfl, rfl, rfl, rfl, rfl, rfl, rfl, rfl, rfl, rfl, rfl, rfl, rfl, rfl, rfl, rfl, rfl, rfl, rfl, rfl, rfl, rfl, rfl, rfl, rfl, rfl, rfl, rfl, rfl, rfl, rfl, rfl, rfl, trivial⟩ ⟨hS, Nat.zero_le _, by simp⟩ ?_
                clear hS
                rintro ⟨n, inb⟩ w22 ⟨hS, hn, hin⟩
                refine W.seq ?_
                refine W.seq ?_
                refine W.region ?_
                refine WL.move rfl rfl rfl ?_
                refine WL.move rfl rfl rfl ?_
                refine WL.lenSlice Try.underlying29 rfl rfl rfl ?_
                refine WL.bin rfl rfl rfl rfl rfl ?_
                refine WL.nil ?_
                refine N.seq ?_
                refine W.cond rfl (fun hc23 => ?_) (fun hc23 => ?_)
                ·
                  have hc23p : (n : Int) < ((uses5 x19).length : Int) := by simpa using hc23
                  refine W.skip ?_
                  refine N.seq ?_
                  refine W.seq ?_
                  refine W.block ?_
                  refine W.region ?_
                  refine WL.move rfl rfl rfl ?_
                  refine WL.move rfl rfl rfl ?_
                  cases hg24 : inb
                  ·
                    refine WL.move rfl rfl rfl ?_
                    refine WL.move rfl rfl rfl ?_
                    have hj25 : n < (uses5 x19).length := by omega
                    obtain ⟨x25, hx25⟩ : ∃ zz, (uses5 x19)[n]? = some zz := ⟨_, List.getElem?_eq_getElem hj25⟩
                    obtain ⟨b25, o25, cs25, hE25, hr25, hl25, hc25, hQ25⟩ := hvud n _ hx25
                    obtain ⟨rfl, hi25⟩ := hQ25
                    refine WL.indexAddrE (j := n) Try.underlying29 isz_3 rfl rfl rfl rfl hj25 hE25 ?_
                    refine WL.load1 (v := .int .i64 x25) one_3 rfl rfl rfl (hS.roCells hr25 hc25 0 _ rfl) ?_
                    refine WL.move rfl rfl rfl ?_
                    refine WL.bin rfl rfl rfl rfl rfl ?_
                    refine WL.pick (v := .bool (decide (x25 = v))) rfl rfl rfl rfl rfl rfl ?_
                    refine WL.assign rfl rfl rfl ?_
                    refine WL.nil ?_
                    refine N.blk ?_
                    refine N.seq ?_
                    refine W.region ?_
                    refine WL.move rfl rfl rfl ?_
                    refine WL.add (c := (n : Int) + 1) rfl rfl rfl rfl (rfl) (by omega) ?_
                    refine WL.assign rfl rfl rfl ?_
                    refine WL.nil ?_
                    have hnl : n < (uses5 x19).length := by omega
                    have htk2 : decide (x25 = v) = decide (v ∈ (uses5 x19).take (n + 1)) := by
                      rw [take_next (List.getElem?_eq_getElem hnl)]; rw [Bool.eq_iff_iff]
                      have hq := hx25; rw [List.getElem?_eq_getElem hnl] at hq; rw [Option.some.inj hq]
                      simp only [decide_eq_true_eq, List.mem_append, List.mem_cons, List.not_mem_nil, or_false, true_iff, false_iff, iff_true, iff_false]
                      rw [hg24] at hin; have hin2 : v ∉ (uses5 x19).take n := by simpa using hin.symm
                      exact ⟨fun e => .inr e.symm, fun h => h.elim (fun h => absurd h hin2) (fun e => e.symm)⟩
                    exact N.loop (n + 1, decide (x25 = v)) ⟨rfl, rfl, rfl, rfl, rfl, rfl, rfl, rfl, rfl, rfl, rfl, rfl, rfl, rfl, rfl, rfl, rfl, rfl, rfl, rfl, rfl, rfl, rfl, rfl, rfl, rfl, rfl, rfl, rfl, rfl, rfl, rfl, rfl, rfl, rfl, rfl, rfl, rfl, rfl, rfl, rfl, rfl, rfl, rfl, rfl, rfl, rfl, rfl, rfl, rfl, rfl, rfl, rfl, rfl, rfl, rfl, rfl, rfl, rfl, rfl, rfl, rfl, rfl, rfl, trivial⟩ ⟨hS, by omega, htk2⟩ (by first | omega | (simp only; omega))
                  ·
                    refine WL.skp rfl rfl ?_
                    refine WL.skp rfl rfl ?_
                    refine WL.skp rfl rfl ?_
                    refine WL.skp rfl rfl ?_
                    refine WL.skp rfl rfl ?_
                    refine WL.skp rfl rfl ?_
                    refine WL.pick (v := .bool true) rfl rfl rfl rfl rfl rfl ?_
                    refine WL.assign rfl rfl rfl ?_
                    refine WL.nil ?_
                    refine N.blk ?_
                    refine N.seq ?_
                    refine W.region ?_
                    refine WL.move rfl rfl rfl ?_
                    refine WL.add (c := (n : Int) + 1) rfl rfl rfl rfl (rfl) (by omega) ?_
                    refine WL.assign rfl rfl rfl ?_
                    refine WL.nil ?_
                    have hnl : n < (uses5 x19).length := by omega
                    have htk2 : true = decide (v ∈ (uses5 x19).take (n + 1)) := by
                      rw [take_next (List.getElem?_eq_getElem hnl)]; rw [Bool.eq_iff_iff]
                      simp only [decide_eq_true_eq, List.mem_append, List.mem_cons, List.not_mem_nil, or_false, true_iff, false_iff, iff_true, iff_false]
                      exact .inl (by rw [hg24] at hin; simpa using hin.symm)
                    exact N.loop (n + 1, true) ⟨rfl, rfl, rfl, rfl, rfl, rfl, rfl, rfl, rfl, rfl, rfl, rfl, rfl, rfl, rfl, rfl, rfl, rfl, rfl, rfl, rfl, rfl, rfl, rfl, rfl, rfl, rfl, rfl, rfl, rfl, rfl, rfl, rfl, rfl, rfl, rfl, rfl, rfl, rfl, rfl, rfl, rfl, rfl, rfl, rfl, rfl, rfl, rfl, rfl, rfl, rfl, rfl, rfl, rfl, rfl, rfl, rfl, rfl, rfl, rfl, rfl, rfl, rfl, rfl, trivial⟩ ⟨hS, by omega, htk2⟩ (by first | omega | (simp only; omega))
                ·
                  have hc23p : ¬ ((n : Int) < ((uses5 x19).length : Int)) := by simpa using hc23
                  refine W.exit ?_
                  refine X.seq ?_
                  refine X.loop ?_
                  refine X.blk ?_
                  refine N.seq ?_
                  refine W.seq ?_
                  refine W.seq ?_
                  refine W.region ?_
                  have hne : n = (uses5 x19).length := by omega
                  refine WL.set 14 (v' := .bool (decide (v ∈ uses5 x19))) rfl (by rw [hin, hne, List.take_length]) ?_
                  refine WL.move rfl rfl rfl ?_
                  refine WL.move rfl rfl rfl ?_
                  cases hg26 : (decide (v ∈ uses5 x19))
                  ·
                    have hg26p : ¬ (v ∈ uses5 x19) := by simpa using hg26
                    refine WL.skp rfl rfl ?_
                    refine WL.skp rfl rfl ?_
                    refine WL.skp rfl rfl ?_
                    refine WL.skp rfl rfl ?_
                    refine WL.skp rfl rfl ?_
                    refine WL.skp rfl rfl ?_
                    refine WL.pick (v := .bool false) rfl rfl rfl rfl rfl rfl ?_
                    refine WL.nil ?_
                    refine N.seq ?_
                    refine W.condF rfl ?_
                    refine W.skip ?_
                    refine N.seq ?_
                    refine W.seq ?_
                    refine W.seq ?_
                    refine W.region ?_
                    refine WL.move rfl rfl rfl ?_
                    refine WL.nil ?_
                    refine N.seq ?_
                    refine W.condF rfl ?_
                    refine W.skip ?_
                    refine N.seq ?_
                    refine W.seq ?_
                    refine W.region ?_
                    refine WL.move rfl rfl rfl ?_
                    refine WL.move rfl rfl rfl ?_
                    refine WL.move rfl rfl rfl ?_
                    refine WL.set 100 (v' := .int .i64 (v.toNat : Int)) rfl (by congr 1; omega) ?_
                    have hj27 : v.toNat < (last16 x8).length := by omega
                    obtain ⟨x27, hx27⟩ : ∃ zz, (last16 x8)[v.toNat]? = some zz := ⟨_, List.getElem?_eq_getElem hj27⟩
                    obtain ⟨b27, o27, cs27, hE27, hr27, hl27, hc27, hQ27⟩ := hvld v.toNat _ hx27
                    obtain ⟨rfl, hi27⟩ := hQ27
                    refine WL.indexAddrE (j := v.toNat) Try.underlying29 isz_3 rfl rfl rfl rfl hj27 hE27 ?_
                    refine WL.load1 (v := .int .i64 x27) one_3 rfl rfl rfl (hS.roCells hr27 hc27 0 _ rfl) ?_
                    refine WL.bin rfl rfl rfl rfl rfl ?_
                    refine WL.move rfl rfl rfl ?_
                    cases hg28 : (decide ((i : Int) = x27))
                    ·
                      have hg28p : ¬ ((i : Int) = x27) := by simpa using hg28
                      refine WL.skp rfl rfl ?_
                      refine WL.skp rfl rfl ?_
                      refine WL.pick (v := .bool false) rfl rfl rfl rfl rfl rfl ?_
                      refine WL.move rfl rfl rfl ?_
                      refine WL.skp rfl rfl ?_
                      refine WL.skp rfl rfl ?_
                      refine WL.skp rfl rfl ?_
                      refine WL.skp rfl rfl ?_
                      refine WL.skp rfl rfl ?_
                      refine WL.skp rfl rfl ?_
                      refine WL.pick (v := .bool false) rfl rfl rfl rfl rfl rfl ?_
                      refine WL.nil ?_
                      refine N.seq ?_
                      refine W.condF rfl ?_
                      refine W.skip ?_
                      refine N.blk ?_
                      refine N.seq ?_
                      refine W.region ?_
                      refine WL.move rfl rfl rfl ?_
                      refine WL.add (c := (i : Int) + 1) rfl rfl rfl rfl (rfl) (by omega) ?_
                      refine WL.assign rfl rfl rfl ?_
                      refine WL.nil ?_
                      exact N.loop (i + 1, c, (roFrom R2 w17 w20), w20) ⟨rfl, rfl, rfl, rfl, rfl, rfl, rfl, rfl, rfl, rfl, rfl, rfl, rfl, rfl, rfl, rfl, rfl, rfl, rfl, rfl, rfl, rfl, rfl, rfl, rfl, rfl, rfl, rfl, rfl, rfl, rfl, rfl, rfl, rfl, rfl, rfl, rfl, rfl, rfl, rfl, rfl, rfl, rfl, rfl, rfl, rfl, rfl, rfl, rfl, rfl, trivial⟩ ⟨hS, by omega, by omega, halL0, hsub⟩ (by first | omega | (simp only; omega))
                    ·
                      have hg28p : (i : Int) = x27 := by simpa using hg28
                      refine WL.move rfl rfl rfl ?_
                      refine WL.not rfl rfl rfl ?_
                      refine WL.set 106 (v' := .bool true) rfl rfl ?_
                      refine WL.pick (v := .bool true) rfl rfl rfl rfl rfl rfl ?_
                      refine WL.move rfl rfl rfl ?_
                      refine WL.move rfl rfl rfl ?_
                      refine WL.move rfl rfl rfl ?_
                      refine WL.fieldAddr fo_33_0 rfl rfl rfl ?_
                      refine WL.load1 (v := .int .i64 x8.params) one_3 rfl rfl rfl (hS.cell 0 rfl rfl) ?_
                      refine WL.sub_ (c := v - x8.params) rfl rfl rfl rfl (rfl) (by omega) ?_
                      refine WL.bin rfl rfl rfl rfl rfl ?_
                      refine WL.pick (v := .bool (!decide ((i : Int) = v - x8.params))) rfl rfl rfl rfl rfl rfl ?_
                      refine WL.nil ?_
                      refine N.seq ?_
                      refine W.cond rfl (fun hc29 => ?_) (fun hc29 => ?_)
                      ·
                        have hc29p : ¬ ((i : Int) = v - x8.params) := by simpa using hc29
                        exact absurd (last16_at hok6 hx27 hx19 hg28p) (fun h => h.elim (fun h => hg26p (by rw [← hvt]; exact h)) (fun h => hc29p (by omega)))
                      ·
                        have hc29p : (i : Int) = v - x8.params := by simpa using hc29
                        refine W.skip ?_
                        refine N.blk ?_
                        refine N.seq ?_
                        refine W.region ?_
                        refine WL.move rfl rfl rfl ?_
                        refine WL.add (c := (i : Int) + 1) rfl rfl rfl rfl (rfl) (by omega) ?_
                        refine WL.assign rfl rfl rfl ?_
                        refine WL.nil ?_
                        exact N.loop (i + 1, c, (roFrom R2 w17 w20), w20) ⟨rfl, rfl, rfl, rfl, rfl, rfl, rfl, rfl, rfl, rfl, rfl, rfl, rfl, rfl, rfl, rfl, rfl, rfl, rfl, rfl, rfl, rfl, rfl, rfl, rfl, rfl, rfl, rfl, rfl, rfl, rfl, rfl, rfl, rfl, rfl, rfl, rfl, rfl, rfl, rfl, rfl, rfl, rfl, rfl, rfl, rfl, rfl, rfl, rfl, rfl, trivial⟩ ⟨hS, by omega, by omega, halL0, hsub⟩ (by first | omega | (simp only; omega))
                  ·
                    have hg26p : v ∈ uses5 x19 := by simpa using hg26
                    refine WL.move rfl rfl rfl ?_
                    refine WL.move rfl rfl rfl ?_
                    refine WL.move rfl rfl rfl ?_
                    refine WL.set 90 (v' := .int .i64 (v.toNat : Int)) rfl (by congr 1; omega) ?_
                    have hj30 : v.toNat < (last16 x8).length := by omega
                    obtain ⟨x30, hx30⟩ : ∃ zz, (last16 x8)[v.toNat]? = some zz := ⟨_, List.getElem?_eq_getElem hj30⟩
                    obtain ⟨b30, o30, cs30, hE30, hr30, hl30, hc30, hQ30⟩ := hvld v.toNat _ hx30
                    obtain ⟨rfl, hi30⟩ := hQ30
                    refine WL.indexAddrE (j := v.toNat) Try.underlying29 isz_3 rfl rfl rfl rfl hj30 hE30 ?_
                    refine WL.load1 (v := .int .i64 x30) one_3 rfl rfl rfl (hS.roCells hr30 hc30 0 _ rfl) ?_
                    refine WL.bin rfl rfl rfl rfl rfl ?_
                    refine WL.pick (v := .bool (decide (x30 < (i : Int)))) rfl rfl rfl rfl rfl rfl ?_
                    refine WL.nil ?_
                    refine N.seq ?_
                    refine W.cond rfl (fun hc31 => ?_) (fun hc31 => ?_)
                    ·
                      have hc31p : x30 < (i : Int) := by simpa using hc31
                      exact absurd (last16_ge hok6 hx30 hx19 (by rw [hvt]; exact hg26p)) (by omega)
                    ·
                      have hc31p : ¬ (x30 < (i : Int)) := by simpa using hc31
                      refine W.skip ?_
                      refine N.seq ?_
                      refine W.seq ?_
                      refine W.seq ?_
                      refine W.region ?_
                      refine WL.move rfl rfl rfl ?_
                      refine WL.nil ?_
                      refine N.seq ?_
                      refine W.condT rfl ?_
                      refine W.region ?_
                      refine WL.move rfl rfl rfl ?_
                      refine WL.add (c := (c : Int) + 1) rfl rfl rfl rfl (rfl) (by omega) ?_
                      refine WL.assign rfl rfl rfl ?_
                      refine WL.nil ?_
                      refine N.seq ?_
                      refine W.seq ?_
                      refine W.region ?_
                      refine WL.move rfl rfl rfl ?_
                      refine WL.move rfl rfl rfl ?_
                      refine WL.move rfl rfl rfl ?_
                      refine WL.set 100 (v' := .int .i64 (v.toNat : Int)) rfl (by congr 1; omega) ?_
                      refine WL.indexAddrE (j := v.toNat) Try.underlying29 isz_3 rfl rfl rfl rfl hj30 hE30 ?_
                      refine WL.load1 (v := .int .i64 x30) one_3 rfl rfl rfl (hS.roCells hr30 hc30 0 _ rfl) ?_
                      refine WL.bin rfl rfl rfl rfl rfl ?_
                      refine WL.move rfl rfl rfl ?_
                      cases hg32 : (decide ((i : Int) = x30))
                      ·
                        have hg32p : ¬ ((i : Int) = x30) := by simpa using hg32
                        refine WL.skp rfl rfl ?_
                        refine WL.skp rfl rfl ?_
                        refine WL.pick (v := .bool false) rfl rfl rfl rfl rfl rfl ?_
                        refine WL.move rfl rfl rfl ?_
                        refine WL.skp rfl rfl ?_
                        refine WL.skp rfl rfl ?_
                        refine WL.skp rfl rfl ?_
                        refine WL.skp rfl rfl ?_
                        refine WL.skp rfl rfl ?_
                        refine WL.skp rfl rfl ?_
                        refine WL.pick (v := .bool false) rfl rfl rfl rfl rfl rfl ?_
                        refine WL.nil ?_
                        refine N.seq ?_
                        refine W.condF rfl ?_
                        refine W.skip ?_
                        refine N.blk ?_
                        refine N.seq ?_
                        refine W.region ?_
                        refine WL.move rfl rfl rfl ?_
                        refine WL.add (c := (i : Int) + 1) rfl rfl rfl rfl (rfl) (by omega) ?_
                        refine WL.assign rfl rfl rfl ?_
                        refine WL.nil ?_
                        exact N.loop (i + 1, c + 1, (roFrom R2 w17 w20), w20) ⟨rfl, rfl, rfl, rfl, rfl, rfl, rfl, rfl, rfl, rfl, rfl, rfl, rfl, rfl, rfl, rfl, rfl, rfl, rfl, rfl, rfl, rfl, rfl, rfl, rfl, rfl, rfl, rfl, rfl, rfl, rfl, rfl, rfl, rfl, rfl, rfl, rfl, rfl, rfl, rfl, rfl, rfl, rfl, rfl, rfl, rfl, rfl, rfl, rfl, rfl, trivial⟩ ⟨hS, by omega, by omega, halL0, hsub⟩ (by first | omega | (simp only; omega))
                      ·
                        have hg32p : (i : Int) = x30 := by simpa using hg32
                        refine WL.move rfl rfl rfl ?_
                        refine WL.not rfl rfl rfl ?_
                        refine WL.set 106 (v' := .bool false) rfl rfl ?_
                        refine WL.pick (v := .bool false) rfl rfl rfl rfl rfl rfl ?_
                        refine WL.move rfl rfl rfl ?_
                        refine WL.skp rfl rfl ?_
                        refine WL.skp rfl rfl ?_
                        refine WL.skp rfl rfl ?_
                        refine WL.skp rfl rfl ?_
                        refine WL.skp rfl rfl ?_
                        refine WL.skp rfl rfl ?_
                        refine WL.pick (v := .bool false) rfl rfl rfl rfl rfl rfl ?_
                        refine WL.nil ?_
                        refine N.seq ?_
                        refine W.condF rfl ?_
                        refine W.skip ?_
                        refine N.blk ?_
                        refine N.seq ?_
                        refine W.region ?_
                        refine WL.move rfl rfl rfl ?_
                        refine WL.add (c := (i : Int) + 1) rfl rfl rfl rfl (rfl) (by omega) ?_
                        refine WL.assign rfl rfl rfl ?_
                        refine WL.nil ?_
                        exact N.loop (i + 1, c + 1, (roFrom R2 w17 w20), w20) ⟨rfl, rfl, rfl, rfl, rfl, rfl, rfl, rfl, rfl, rfl, rfl, rfl, rfl, rfl, rfl, rfl, rfl, rfl, rfl, rfl, rfl, rfl, rfl, rfl, rfl, rfl, rfl, rfl, rfl, rfl, rfl, rfl, rfl, rfl, rfl, rfl, rfl, rfl, rfl, rfl, rfl, rfl, rfl, rfl, rfl, rfl, rfl, rfl, rfl, rfl, trivial⟩ ⟨hS, by omega, by omega, halL0, hsub⟩ (by first | omega | (simp only; omega))
              ·
                have hc18p : ¬ ((i : Int) < (x8.ins.length : Int)) := by simpa using hc18
                refine W.exit ?_
                refine X.seq ?_
                refine X.loop ?_
                refine X.blk ?_
                refine N.seq ?_
                refine W.seq ?_
                have hj33 : v.toNat < (last16 x8).length := by omega
                obtain ⟨x33, hx33⟩ : ∃ zz, (last16 x8)[v.toNat]? = some zz := ⟨_, List.getElem?_eq_getElem hj33⟩
                obtain ⟨b33, o33, cs33, hE33, hr33, hl33, hc33, hQ33⟩ := hvld v.toNat _ hx33
                obtain ⟨rfl, hi33⟩ := hQ33
                refine W.drawL (by kernel_rfl) 18 [.q (.bool true), .q (.bool true), .q (.slice adl ((last16 x8).length) capl), .q (.int .i64 v), .q (.pointer (some ⟨b33, o33 + v.toNat * 1, none⟩)), .q (.int .i64 x33), .q (.bool true), .q (.bool true), .q (.bool true), .q (.slice adl ((last16 x8).length) capl), .q (.int .i64 v), .q (.pointer (some ⟨b33, o33 + v.toNat * 1, none⟩)), .q (.int .i64 x33), .q (.pointer (some ⟨b9, 1, none⟩)), .q (.slice adi8 x8.ins.length capi8), .q (.int .i64 (x8.ins.length : Int)), .q (.bool true), .q (.bool true)] (by kernel_rfl) rfl [(0, .agg #[.string f.name, .int .i64 f.bind, .int .i64 f.params, .slice adbF f.blocks.length capbF]), (1, .int .i64 k), (2, .int .i64 v), (3, .pointer (some ⟨b1, 0, none⟩)), (7, .bool true), (8, .bool (func5 f)), (9, .pointer (some ⟨b9, 0, none⟩)), (10, .slice adl ((last16 x8).length) capl), (11, .int .i64 (c : Int)), (12, .int .i64 (i : Int)), (16, .bool true), (17, .agg #[.string f.name, .int .i64 f.bind, .int .i64 f.params, .slice adbF f.blocks.length capbF]), (18, .bool (func5 f)), (19, .bool (func5 f)), (20, .bool false), (21, .bool false), (22, .int .i64 k), (23, .bool false), (24, .bool false), (25, .bool false), (26, .int .i64 k), (27, .pointer (some ⟨b1, 3, none⟩)), (28, .slice adbF f.blocks.length capbF), (29, .int .i64 (f.blocks.length : Int)), (30, .bool (decide ((f.blocks.length : Int) ≤ k))), (31, .bool (decide ((f.blocks.length : Int) ≤ k))), (33, .pointer (some ⟨b1, 3, none⟩)), (34, .slice adbF f.blocks.length capbF), (35, .int .i64 (k.toNat : Int)), (36, .pointer (some ⟨b8, o8 + k.toNat * 8, none⟩)), (37, .agg #[.int .i64 x8.params, .slice adi8 x8.ins.length capi8, .int .i64 x8.fin.kind, .int .i64 x8.fin.a, .int .i64 x8.fin.to, .slice adp8 x8.fin.args.length capp8, .int .i64 x8.fin.els, .slice adq8 x8.fin.elses.length capq8]), (38, .agg #[.int .i64 x8.params, .slice adi8 x8.ins.length capi8, .int .i64 x8.fin.kind, .int .i64 x8.fin.a, .int .i64 x8.fin.to, .slice adp8 x8.fin.args.length capp8, .int .i64 x8.fin.els, .slice adq8 x8.fin.elses.length capq8]), (39, .slice adl ((last16 x8).length) capl), (40, .slice adl ((last16 x8).length) capl), (41, .int .i64 ((last16 x8).length : Int)), (42, .pointer (some ⟨b9, 0, none⟩)), (43, .int .i64 x8.params), (44, .pointer (some ⟨b9, 1, none⟩)), (45, .slice adi8 x8.ins.length capi8), (46, .int .i64 (x8.ins.length : Int)), (47, .int .i64 (x8.params + (x8.ins.length : Int))), (48, .bool (!decide (((last16 x8).length : Int) = x8.params + (x8.ins.length : Int)))), (49, .int .i64 v), (50, .bool false), (51, .bool false), (52, .int .i64 v), (53, .slice adl ((last16 x8).length) capl), (54, .int .i64 ((last16 x8).length : Int)), (55, .bool (decide (((last16 x8).length : Int) ≤ v))), (56, .bool (decide (((last16 x8).length : Int) ≤ v))), (58, .int .i64 (i : Int)), (59, .pointer (some ⟨b9, 1, none⟩)), (60, .slice adi8 x8.ins.length capi8), (61, .int .i64 (x8.ins.length : Int)), (62, .bool (decide ((i : Int) < (x8.ins.length : Int))))] ⟨rfl, rfl, rfl, rfl, rfl, rfl, rfl, rfl, rfl, rfl, rfl, rfl, rfl, rfl, rfl, rfl, rfl, rfl, rfl, rfl, rfl, rfl, rfl, rfl, rfl, rfl, rfl, rfl, rfl, rfl, rfl, rfl, rfl, rfl, rfl, rfl, rfl, rfl, rfl, rfl, rfl, rfl, rfl, rfl, rfl, rfl, rfl, rfl, rfl, rfl, rfl, rfl, rfl, rfl, rfl, trivial⟩ rfl hS ?_ ?_
                ·
                  refine And.intro (fun β w hS => ?_) ?_
                  ·
                    refine WL.sub (σ' := [(7, .bool true)]) ⟨rfl, trivial⟩ ?_
                    refine WL.move rfl rfl rfl ?_
                    exact WL.nil (N.cut () ⟨rfl, trivial⟩ (Below.refl _ _))
                  refine And.intro (fun β w hS => ?_) ?_
                  ·
                    refine WL.sub (σ' := [(116, .bool true)]) ⟨rfl, trivial⟩ ?_
                    refine WL.move rfl rfl rfl ?_
                    exact WL.nil (N.cut () ⟨rfl, trivial⟩ (Below.refl _ _))
                  refine And.intro (fun β w hS => ?_) ?_
                  ·
                    refine WL.sub (σ' := [(10, .slice adl ((last16 x8).length) capl), (117, .bool true)]) ⟨rfl, rfl, trivial⟩ ?_
                    refine WL.move rfl rfl rfl ?_
                    exact WL.nil (N.cut () ⟨rfl, trivial⟩ (Below.refl _ _))
                  refine And.intro (fun β w hS => ?_) ?_
                  ·
                    refine WL.sub (σ' := [(2, .int .i64 v), (117, .bool true)]) ⟨rfl, rfl, trivial⟩ ?_
                    refine WL.move rfl rfl rfl ?_
                    exact WL.nil (N.cut () ⟨rfl, trivial⟩ (Below.refl _ _))
                  refine And.intro (fun β w hS => ?_) ?_
                  ·
                    refine WL.sub (σ' := [(117, .bool true), (118, .slice adl ((last16 x8).length) capl), (119, .int .i64 v)]) ⟨rfl, rfl, rfl, trivial⟩ ?_
                    refine WL.set 119 (v' := .int .i64 (v.toNat : Int)) rfl (by congr 1; omega) ?_
                    refine WL.indexAddrE (j := v.toNat) Try.underlying29 isz_3 rfl rfl rfl rfl hj33 hE33 ?_
                    exact WL.nil (N.cut () ⟨rfl, trivial⟩ (Below.refl _ _))
                  refine And.intro (fun β w hS => ?_) ?_
                  ·
                    refine WL.sub (σ' := [(117, .bool true), (120, .pointer (some ⟨b33, o33 + v.toNat * 1, none⟩))]) ⟨rfl, rfl, trivial⟩ ?_
                    refine WL.load1 (v := .int .i64 x33) one_3 rfl rfl rfl (hS.roCells hr33 hc33 0 _ rfl) ?_
                    exact WL.nil (N.cut () ⟨rfl, trivial⟩ (Below.refl _ _))
                  refine And.intro (fun β w hS => ?_) ?_
                  ·
                    refine WL.sub (σ' := [(117, .bool true), (121, .int .i64 x33)]) ⟨rfl, rfl, trivial⟩ ?_
                    refine WL.bin rfl rfl rfl rfl rfl ?_
                    refine WL.set 122 (v' := .bool true) rfl (congrArg Value.bool (show (decide (-1 ≤ x33)) = true from decide_eq_true (by have := last16_range hok6.p0 (List.mem_of_getElem? hx33); omega))) ?_
                    exact WL.nil (N.cut () ⟨rfl, trivial⟩ (Below.refl _ _))
                  refine And.intro (fun β w hS => ?_) ?_
                  ·
                    refine WL.sub (σ' := [(117, .bool true), (122, .bool true)]) ⟨rfl, rfl, trivial⟩ ?_
                    refine WL.pick (v := .bool true) rfl rfl rfl rfl rfl rfl ?_
                    exact WL.nil (N.cut () ⟨rfl, trivial⟩ (Below.refl _ _))
                  refine And.intro (fun β w hS => ?_) ?_
                  ·
                    refine WL.sub (σ' := [(123, .bool true)]) ⟨rfl, trivial⟩ ?_
                    refine WL.move rfl rfl rfl ?_
                    exact WL.nil (N.cut () ⟨rfl, trivial⟩ (Below.refl _ _))
                  refine And.intro (fun β w hS => ?_) ?_
                  ·
                    refine WL.sub (σ' := [(10, .slice adl ((last16 x8).length) capl), (124, .bool true)]) ⟨rfl, rfl, trivial⟩ ?_
                    refine WL.move rfl rfl rfl ?_
                    exact WL.nil (N.cut () ⟨rfl, trivial⟩ (Below.refl _ _))
                  refine And.intro (fun β w hS => ?_) ?_
                  ·
                    refine WL.sub (σ' := [(2, .int .i64 v), (124, .bool true)]) ⟨rfl, rfl, trivial⟩ ?_
                    refine WL.move rfl rfl rfl ?_
                    exact WL.nil (N.cut () ⟨rfl, trivial⟩ (Below.refl _ _))
                  refine And.intro (fun β w hS => ?_) ?_
                  ·
                    refine WL.sub (σ' := [(124, .bool true), (125, .slice adl ((last16 x8).length) capl), (126, .int .i64 v)]) ⟨rfl, rfl, rfl, trivial⟩ ?_
                    refine WL.set 126 (v' := .int .i64 (v.toNat : Int)) rfl (by congr 1; omega) ?_
                    refine WL.indexAddrE (j := v.toNat) Try.underlying29 isz_3 rfl rfl rfl rfl hj33 hE33 ?_
                    exact WL.nil (N.cut () ⟨rfl, trivial⟩ (Below.refl _ _))
                  refine And.intro (fun β w hS => ?_) ?_
                  ·
                    refine WL.sub (σ' := [(124, .bool true), (127, .pointer (some ⟨b33, o33 + v.toNat * 1, none⟩))]) ⟨rfl, rfl, trivial⟩ ?_
                    refine WL.load1 (v := .int .i64 x33) one_3 rfl rfl rfl (hS.roCells hr33 hc33 0 _ rfl) ?_
                    exact WL.nil (N.cut () ⟨rfl, trivial⟩ (Below.refl _ _))
                  refine And.intro (fun β w hS => ?_) ?_
                  ·
                    refine WL.sub (σ' := [(9, .pointer (some ⟨b9, 0, none⟩)), (124, .bool true)]) ⟨rfl, rfl, trivial⟩ ?_
                    refine WL.fieldAddr fo_33_1 rfl rfl rfl ?_
                    exact WL.nil (N.cut () ⟨rfl, trivial⟩ (Below.refl _ _))
                  refine And.intro (fun β w hS => ?_) ?_
                  ·
                    refine WL.sub (σ' := [(124, .bool true), (129, .pointer (some ⟨b9, 1, none⟩))]) ⟨rfl, rfl, trivial⟩ ?_
                    refine WL.load1 (v := .slice adi8 x8.ins.length capi8) one_28 rfl rfl rfl (hS.cell 0 rfl rfl) ?_
                    exact WL.nil (N.cut () ⟨rfl, trivial⟩ (Below.refl _ _))
                  refine And.intro (fun β w hS => ?_) ?_
                  ·
                    refine WL.sub (σ' := [(124, .bool true), (130, .slice adi8 x8.ins.length capi8)]) ⟨rfl, rfl, trivial⟩ ?_
                    refine WL.lenSlice Try.underlying28 rfl rfl rfl ?_
                    exact WL.nil (N.cut () ⟨rfl, trivial⟩ (Below.refl _ _))
                  refine And.intro (fun β w hS => ?_) ?_
                  ·
                    refine WL.sub (σ' := [(124, .bool true), (128, .int .i64 x33), (131, .int .i64 (x8.ins.length : Int))]) ⟨rfl, rfl, rfl, trivial⟩ ?_
                    refine WL.bin rfl rfl rfl rfl rfl ?_
                    refine WL.set 132 (v' := .bool true) rfl (congrArg Value.bool (show (decide (x33 ≤ (x8.ins.length : Int))) = true from decide_eq_true (by have := last16_range hok6.p0 (List.mem_of_getElem? hx33); omega))) ?_
                    exact WL.nil (N.cut () ⟨rfl, trivial⟩ (Below.refl _ _))
                  refine And.intro (fun β w hS => ?_) ?_
                  ·
                    refine WL.sub (σ' := [(124, .bool true), (132, .bool true)]) ⟨rfl, rfl, trivial⟩ ?_
                    refine WL.pick (v := .bool true) rfl rfl rfl rfl rfl rfl ?_
                    exact WL.nil (N.cut () ⟨rfl, trivial⟩ (Below.refl _ _))
                  trivial
                ·
                  clear hS; intro w34 β hS
                  refine WL.sub (σ' := [(0, .agg #[.string f.name, .int .i64 f.bind, .int .i64 f.params, .slice adbF f.blocks.length capbF]), (1, .int .i64 k), (2, .int .i64 v), (3, .pointer (some ⟨b1, 0, none⟩)), (7, .bool true), (8, .bool (func5 f)), (9, .pointer (some ⟨b9, 0, none⟩)), (10, .slice adl ((last16 x8).length) capl), (11, .int .i64 (c : Int)), (12, .int .i64 (i : Int)), (16, .bool true), (17, .agg #[.string f.name, .int .i64 f.bind, .int .i64 f.params, .slice adbF f.blocks.length capbF]), (18, .bool (func5 f)), (19, .bool (func5 f)), (20, .bool false), (21, .bool false), (22, .int .i64 k), (23, .bool false), (24, .bool false), (25, .bool false), (26, .int .i64 k), (27, .pointer (some ⟨b1, 3, none⟩)), (28, .slice adbF f.blocks.length capbF), (29, .int .i64 (f.blocks.length : Int)), (30, .bool (decide ((f.blocks.length : Int) ≤ k))), (31, .bool (decide ((f.blocks.length : Int) ≤ k))), (33, .pointer (some ⟨b1, 3, none⟩)), (34, .slice adbF f.blocks.length capbF), (35, .int .i64 (k.toNat : Int)), (36, .pointer (some ⟨b8, o8 + k.toNat * 8, none⟩)), (37, .agg #[.int .i64 x8.params, .slice adi8 x8.ins.length capi8, .int .i64 x8.fin.kind, .int .i64 x8.fin.a, .int .i64 x8.fin.to, .slice adp8 x8.fin.args.length capp8, .int .i64 x8.fin.els, .slice adq8 x8.fin.elses.length capq8]), (38, .agg #[.int .i64 x8.params, .slice adi8 x8.ins.length capi8, .int .i64 x8.fin.kind, .int .i64 x8.fin.a, .int .i64 x8.fin.to, .slice adp8 x8.fin.args.length capp8, .int .i64 x8.fin.els, .slice adq8 x8.fin.elses.length capq8]), (39, .slice adl ((last16 x8).length) capl), (40, .slice adl ((last16 x8).length) capl), (41, .int .i64 ((last16 x8).length : Int)), (42, .pointer (some ⟨b9, 0, none⟩)), (43, .int .i64 x8.params), (44, .pointer (some ⟨b9, 1, none⟩)), (45, .slice adi8 x8.ins.length capi8), (46, .int .i64 (x8.ins.length : Int)), (47, .int .i64 (x8.params + (x8.ins.length : Int))), (48, .bool (!decide (((last16 x8).length : Int) = x8.params + (x8.ins.length : Int)))), (49, .int .i64 v), (50, .bool false), (51, .bool false), (52, .int .i64 v), (53, .slice adl ((last16 x8).length) capl), (54, .int .i64 ((last16 x8).length : Int)), (55, .bool (decide (((last16 x8).length : Int) ≤ v))), (56, .bool (decide (((last16 x8).length : Int) ≤ v))), (58, .int .i64 (i : Int)), (59, .pointer (some ⟨b9, 1, none⟩)), (60, .slice adi8 x8.ins.length capi8), (61, .int .i64 (x8.ins.length : Int)), (62, .bool (decide ((i : Int) < (x8.ins.length : Int)))), (116, .bool true), (117, .bool true), (118, .slice adl ((last16 x8).length) capl), (119, .int .i64 v), (120, .pointer (some ⟨b33, o33 + v.toNat * 1, none⟩)), (121, .int .i64 x33), (122, .bool true), (123, .bool true), (124, .bool true), (125, .slice adl ((last16 x8).length) capl), (126, .int .i64 v), (127, .pointer (some ⟨b33, o33 + v.toNat * 1, none⟩)), (128, .int .i64 x33), (129, .pointer (some ⟨b9, 1, none⟩)), (130, .slice adi8 x8.ins.length capi8), (131, .int .i64 (x8.ins.length : Int)), (132, .bool true), (133, .bool true)]) ⟨rfl, rfl, rfl, rfl, rfl, rfl, rfl, rfl, rfl, rfl, rfl, rfl, rfl, rfl, rfl, rfl, rfl, rfl, rfl, rfl, rfl, rfl, rfl, rfl, rfl, rfl, rfl, rfl, rfl, rfl, rfl, rfl, rfl, rfl, rfl, rfl, rfl, rfl, rfl, rfl, rfl, rfl, rfl, rfl, rfl, rfl, rfl, rfl, rfl, rfl, rfl, rfl, rfl, rfl, rfl, rfl, rfl, rfl, rfl, rfl, rfl, rfl, rfl, rfl, rfl, rfl, rfl, rfl, rfl, rfl, rfl, rfl, rfl, trivial⟩ ?_
                  refine WL.assign rfl rfl rfl ?_
                  refine WL.nil ?_
                  refine N.seq ?_
                  refine Fin.ret1 rfl (v := .bool true) rfl ?_
                  exact ⟨rfl, hS.below⟩
          ·
            have hg15p : v < 0 := by simpa using hg15
            refine WL.skp rfl rfl ?_
            refine WL.skp rfl rfl ?_
            refine WL.skp rfl rfl ?_
            refine WL.skp rfl rfl ?_
            refine WL.pick (v := .bool true) rfl rfl rfl rfl rfl rfl ?_
            refine WL.nil ?_
            refine N.seq ?_
            refine W.condT rfl ?_
            refine W.seq ?_
            refine W.region ?_
            refine WL.move rfl rfl rfl ?_
            refine WL.assign rfl rfl rfl ?_
            refine WL.nil ?_
            refine N.seq ?_
            refine Fin.ret1 rfl (v := .bool true) rfl ?_
            exact ⟨rfl, hS.below⟩
    ·
      have hg6p : k < 0 := by simpa using hg6
      refine WL.skp rfl rfl ?_
      refine WL.skp rfl rfl ?_
      refine WL.skp rfl rfl ?_
      refine WL.skp rfl rfl ?_
      refine WL.skp rfl rfl ?_
      refine WL.pick (v := .bool true) rfl rfl rfl rfl rfl rfl ?_
      refine WL.nil ?_
      refine N.seq ?_
      refine W.condT rfl ?_
      refine W.seq ?_
      refine W.region ?_
      refine WL.move rfl rfl rfl ?_
      refine WL.assign rfl rfl rfl ?_
      refine WL.nil ?_
      refine N.seq ?_
      refine Fin.ret1 rfl (v := .bool true) rfl ?_
      exact ⟨rfl, hS.below⟩
  ·
    refine WL.skp rfl rfl ?_
    refine WL.skp rfl rfl ?_
    refine WL.pick (v := .bool true) rfl rfl rfl rfl rfl rfl ?_
    refine WL.move rfl rfl rfl ?_
    refine WL.skp rfl rfl ?_
    refine WL.skp rfl rfl ?_
    refine WL.skp rfl rfl ?_
    refine WL.skp rfl rfl ?_
    refine WL.skp rfl rfl ?_
    refine WL.pick (v := .bool true) rfl rfl rfl rfl rfl rfl ?_
    refine WL.nil ?_
    refine N.seq ?_
    refine W.condT rfl ?_
    refine W.seq ?_
    refine W.region ?_
    refine WL.move rfl rfl rfl ?_
    refine WL.assign rfl rfl rfl ?_
    refine WL.nil ?_
    refine N.seq ?_
    refine Fin.ret1 rfl (v := .bool true) rfl ?_
    exact ⟨rfl, hS.below⟩

end Go.Proofs.Ytkgmijhcaclpoaa
