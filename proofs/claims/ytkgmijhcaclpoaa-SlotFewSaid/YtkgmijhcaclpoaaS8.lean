/-
  Contracts of layer 16 (slot). No condition beyond those that each theorem states.
-/
import Derived.Test.YtkgmijhcaclpoaaS7
namespace Go.Proofs.Ytkgmijhcaclpoaa
open Go.RowKit

theorem neg16_ret (x : Int) {w : World} {ro : Nat → Prop} (hro : ∀ b, ro b → b < w.heap.size) : Ret Try.prog 27 #[.int .i64 x] w fun v w' => v = .bool (decide (x < 0)) ∧ Below w.heap.size w w' := by
  refine Ret.enter (P := Try.prog) (n := 5) (args := [.int .i64 x]) (σ := [(0, .int .i64 x)]) Try.func27 rfl rfl rfl rfl ?_
  have hS := St.start (ro := ro) hro
  refine W.seq ?_
  refine W.region ?_
  refine WL.assign rfl rfl rfl ?_
  refine WL.nil ?_
  refine N.seq ?_
  refine W.seq ?_
  refine W.region ?_
  refine WL.move rfl rfl rfl ?_
  refine WL.bin rfl rfl rfl rfl rfl ?_
  refine WL.assign rfl rfl rfl ?_
  refine WL.nil ?_
  refine N.seq ?_
  refine Fin.ret1 rfl (v := .bool (decide (x < 0))) rfl ?_
  exact ⟨rfl, hS.below⟩

theorem indexNeg_ret (xs : List Int) (vx : Value) {w : World} {ro : Nat → Prop} (hro : ∀ b, ro b → b < w.heap.size) (hx : SlV ro w 1 IntC vx xs) (hnn : ∀ x ∈ xs, 0 ≤ x) : Ret Try.prog 38 #[vx, .func (.func 27) #[] #[]] w fun v w' => v = .int .i64 (-1) ∧ Below w.heap.size w w' := by
  obtain ⟨ad, cap, rfl, haa, hab, hac, had⟩ := id hx
  have ham : xs.length ≤ 9223372036854775807 := by have h1 := haa; have h2 := hab; unfold maxLen at h2; omega
  refine Ret.enter (P := Try.prog) (n := 19) (args := [.slice ad xs.length cap, .func (.func 27) #[] #[]]) (σ := [(0, .slice ad xs.length cap), (1, .func (.func 27) #[] #[])]) Try.func38 rfl rfl rfl rfl ?_
  have hS := St.start (ro := ro) hro
  refine W.seq ?_
  refine W.region ?_
  refine WL.assign rfl rfl rfl ?_
  refine WL.nil ?_
  refine N.seq ?_
  refine W.seq ?_
  refine W.seq ?_
  refine W.region ?_
  refine WL.move rfl rfl rfl ?_
  refine WL.lenSlice Try.underlying29 rfl rfl rfl ?_
  refine WL.move rfl rfl rfl ?_
  refine WL.nil ?_
  refine N.seq ?_
  refine W.block ?_
  refine W.loop (α := Nat) (fun (k : Nat) => [(0, .slice ad xs.length cap), (1, .func (.func 27) #[] #[]), (6, .slice ad xs.length cap), (7, .int .i64 (xs.length : Int)), (8, .int .i64 (k : Int))]) (fun (k : Nat) u => St w w u ro [] [] ∧ k ≤ xs.length) (fun (k : Nat) => xs.length - k) 0 ⟨rfl, rfl, rfl, rfl, rfl, trivial⟩ ⟨hS, Nat.zero_le _⟩ ?_
  clear hS
  rintro k w1 ⟨hS, hk⟩
  refine W.seq ?_
  refine W.region ?_
  refine WL.bin rfl rfl rfl rfl rfl ?_
  refine WL.nil ?_
  refine N.seq ?_
  refine W.seq ?_
  refine W.cond rfl (fun hc2 => ?_) (fun hc2 => ?_)
  ·
    have hc2p : (k : Int) < (xs.length : Int) := by simpa using hc2
    refine W.skip ?_
    refine N.seq ?_
    refine W.seq ?_
    refine W.block ?_
    refine W.seq ?_
    refine W.region ?_
    refine WL.move rfl rfl rfl ?_
    refine WL.assign rfl rfl rfl ?_
    refine WL.nil ?_
    refine N.seq ?_
    refine W.seq ?_
    refine W.region ?_
    refine WL.move rfl rfl rfl ?_
    refine WL.move rfl rfl rfl ?_
    refine WL.move rfl rfl rfl ?_
    have hj3 : k < xs.length := by omega
    obtain ⟨x3, hx3⟩ : ∃ zz, xs[k]? = some zz := ⟨_, List.getElem?_eq_getElem hj3⟩
    obtain ⟨b3, o3, cs3, hE3, hr3, hl3, hc3, hQ3⟩ := had k _ hx3
    obtain ⟨rfl, hi3⟩ := hQ3
    refine WL.indexAddrE (j := k) Try.underlying29 isz_3 rfl rfl rfl rfl hj3 hE3 ?_
    refine WL.load1 (v := .int .i64 x3) one_3 rfl rfl rfl (hS.roCells hr3 hc3 0 _ rfl) ?_
    refine WL.callV (vs := [.int .i64 x3]) (cs := #[]) Try.func27 (by kernel_rfl) rfl rfl rfl rfl (neg16_ret x3 (ro := ro) (fun b hb => (hS.snap b hb).1)) ?_
    rintro v w4 ⟨rfl, hbl⟩
    replace hS := hS.grow hbl
    refine WL.set 16 (v' := .bool false) rfl (by have := hnn _ (List.mem_of_getElem? hx3); rw [decide_eq_false (by omega)]) ?_
    refine WL.nil ?_
    refine N.seq ?_
    refine W.condF rfl ?_
    refine W.skip ?_
    refine N.blk ?_
    refine N.seq ?_
    refine W.region ?_
    refine WL.add (c := (k : Int) + 1) rfl rfl rfl rfl (rfl) (by omega) ?_
    refine WL.move rfl rfl rfl ?_
    refine WL.nil ?_
    exact N.loop (k + 1) ⟨rfl, rfl, rfl, rfl, rfl, trivial⟩ ⟨hS, by omega⟩ (by first | omega | (simp only; omega))
  ·
    have hc2p : ¬ ((k : Int) < (xs.length : Int)) := by simpa using hc2
    refine W.exit ?_
    refine X.seq ?_
    refine X.loop ?_
    refine X.blk ?_
    refine N.seq ?_
    refine W.seq ?_
    refine W.region ?_
    refine WL.assign rfl rfl rfl ?_
    refine WL.nil ?_
    refine N.seq ?_
    refine Fin.ret1 rfl (v := .int .i64 (-1)) rfl ?_
    exact ⟨rfl, hS.below⟩

theorem containsNeg_ret (xs : List Int) (vx : Value) {w : World} {ro : Nat → Prop} (hro : ∀ b, ro b → b < w.heap.size) (hx : SlV ro w 1 IntC vx xs) (hnn : ∀ x ∈ xs, 0 ≤ x) : Ret Try.prog 26 #[vx, .func (.func 27) #[] #[]] w fun v w' => v = .bool false ∧ Below w.heap.size w w' := by
  obtain ⟨ad, cap, rfl, haa, hab, hac, had⟩ := id hx
  have ham : xs.length ≤ 9223372036854775807 := by have h1 := haa; have h2 := hab; unfold maxLen at h2; omega
  refine Ret.enter (P := Try.prog) (n := 9) (args := [.slice ad xs.length cap, .func (.func 27) #[] #[]]) (σ := [(0, .slice ad xs.length cap), (1, .func (.func 27) #[] #[])]) Try.func26 rfl rfl rfl rfl ?_
  have hS := St.start (ro := ro) hro
  refine W.seq ?_
  refine W.region ?_
  refine WL.assign rfl rfl rfl ?_
  refine WL.nil ?_
  refine N.seq ?_
  refine W.seq ?_
  refine W.region ?_
  refine WL.move rfl rfl rfl ?_
  refine WL.move rfl rfl rfl ?_
  refine WL.callF (vs := [.slice ad xs.length cap, .func (.func 27) #[] #[]]) Try.func38 (by kernel_rfl) rfl rfl rfl (indexNeg_ret xs _ (ro := ro) (fun b hb => (hS.snap b hb).1) (SlV.keep hx hS.alike (fun _ _ q => q)) hnn) ?_
  rintro v w1 ⟨rfl, hbl⟩
  replace hS := hS.grow hbl
  refine WL.bin rfl rfl rfl rfl rfl ?_
  refine WL.set 8 (v' := .bool false) rfl rfl ?_
  refine WL.assign rfl rfl rfl ?_
  refine WL.nil ?_
  refine N.seq ?_
  refine Fin.ret1 rfl (v := .bool false) rfl ?_
  exact ⟨rfl, hS.below⟩

set_option maxRecDepth 10000 in
set_option maxHeartbeats 4000000 in
theorem apart16_ret (b : DBlock) (cs : List Value) (l : List Int) (va : Value) {w : World} {ro : Nat → Prop} (hro : ∀ b, ro b → b < w.heap.size) (hb : BlockC ro w cs b) (hy : SlV ro w 1 IntC va l) (hok : Ok16 b) (hA : RApart b l) : Ret Try.prog 13 #[.agg cs.toArray, va] w fun v w' => v = .bool true ∧ Below w.heap.size w w' := by
  obtain ⟨si, tsx, rfl, hin, hfin, hpar⟩ := id hb
  obtain ⟨adi, capi, rfl, hina, hinb, hinc, hind⟩ := id hin
  have hinm : b.ins.length ≤ 9223372036854775807 := by have h1 := hina; have h2 := hinb; unfold maxLen at h2; omega
  obtain ⟨sp, sq, rfl, ht1, ht2, htk, hta, htt, hte⟩ := id hfin
  obtain ⟨adp, capp, rfl, htpa, htpb, htpc, htpd⟩ := id ht1
  have htpm : b.fin.args.length ≤ 9223372036854775807 := by have h1 := htpa; have h2 := htpb; unfold maxLen at h2; omega
  obtain ⟨adq, capq, rfl, htqa, htqb, htqc, htqd⟩ := id ht2
  have htqm : b.fin.elses.length ≤ 9223372036854775807 := by have h1 := htqa; have h2 := htqb; unfold maxLen at h2; omega
  obtain ⟨ada, capa, rfl, hya, hyb, hyc, hyd⟩ := id hy
  have hym : l.length ≤ 9223372036854775807 := by have h1 := hya; have h2 := hyb; unfold maxLen at h2; omega
  refine Ret.enter (P := Try.prog) (n := 58) (args := [.agg #[.int .i64 b.params, .slice adi b.ins.length capi, .int .i64 b.fin.kind, .int .i64 b.fin.a, .int .i64 b.fin.to, .slice adp b.fin.args.length capp, .int .i64 b.fin.els, .slice adq b.fin.elses.length capq], .slice ada l.length capa]) (σ := [(0, .agg #[.int .i64 b.params, .slice adi b.ins.length capi, .int .i64 b.fin.kind, .int .i64 b.fin.a, .int .i64 b.fin.to, .slice adp b.fin.args.length capp, .int .i64 b.fin.els, .slice adq b.fin.elses.length capq]), (1, .slice ada l.length capa)]) Try.func13 rfl rfl rfl rfl ?_
  have hS := St.start (ro := ro) hro
  have hokn := hok.n; have hokp := hok.p0; have hokq := hok.p1
  have hsub : ∀ b, ro b → ro b ∨ w.heap.size ≤ b := fun _ h => .inl h
  have halT : Alike ro w ro w := Alike.refl
  refine W.seq ?_
  refine W.region ?_
  refine WL.box (v := .agg #[.int .i64 b.params, .slice adi b.ins.length capi, .int .i64 b.fin.kind, .int .i64 b.fin.a, .int .i64 b.fin.to, .slice adp b.fin.args.length capp, .int .i64 b.fin.els, .slice adq b.fin.elses.length capq]) (cs := [.int .i64 b.params, .slice adi b.ins.length capi, .int .i64 b.fin.kind, .int .i64 b.fin.a, .int .i64 b.fin.to, .slice adp b.fin.args.length capp, .int .i64 b.fin.els, .slice adq b.fin.elses.length capq]) rfl rfl rfl rfl hS ?_
  clear hS; intro w2 b1 hb_b1 hS
  refine WL.assign rfl rfl rfl ?_
  refine WL.nil ?_
  refine N.seq ?_
  refine W.seq ?_
  refine W.region ?_
  refine WL.loadN (cs := [.int .i64 b.params, .slice adi b.ins.length capi, .int .i64 b.fin.kind, .int .i64 b.fin.a, .int .i64 b.fin.to, .slice adp b.fin.args.length capp, .int .i64 b.fin.els, .slice adq b.fin.elses.length capq]) agg_33 rfl rfl rfl rfl (hS.cells 0 (m := 8) rfl rfl) ?_
  refine WL.callF (vs := [.agg #[.int .i64 b.params, .slice adi b.ins.length capi, .int .i64 b.fin.kind, .int .i64 b.fin.a, .int .i64 b.fin.to, .slice adp b.fin.args.length capp, .int .i64 b.fin.els, .slice adq b.fin.elses.length capq]]) Try.func11 (by kernel_rfl) rfl rfl rfl (last16_ret b _ (ro := ro) (fun b hb => (hS.snap b hb).1) (hb.keep hS.alike) hok) ?_
  rintro vl w3 ⟨hvl, hbl⟩
  have hal4 := hS.alikeTo hbl (ro' := (roFrom ro w2 w3)) (fun b hb => .inl hb)
  replace hsub : ∀ b, (roFrom ro w2 w3) b → ro b ∨ w.heap.size ≤ b := fun b hb => hb.elim (hsub b) (fun h => .inr (Nat.le_trans hS.below.size h.1))
  replace halT := halT.trans hal4
  replace hb := hb.keep hal4
  replace hind : Elems (roFrom ro w2 w3) w3 6 (InstC (roFrom ro w2 w3) w3) adi b.ins := hind.keep hal4 (fun _ _ h => h.keep hal4)
  replace hin : SlV (roFrom ro w2 w3) w3 6 (InstC (roFrom ro w2 w3) w3) (.slice adi b.ins.length capi) b.ins := SlV.keep hin hal4 (fun _ _ h => h.keep hal4)
  replace hfin := hfin.keep hal4
  replace htpd : Elems (roFrom ro w2 w3) w3 1 IntC adp b.fin.args := htpd.keep hal4 (fun _ _ h => h)
  replace ht1 : SlV (roFrom ro w2 w3) w3 1 IntC (.slice adp b.fin.args.length capp) b.fin.args := SlV.keep ht1 hal4 (fun _ _ h => h)
  replace htqd : Elems (roFrom ro w2 w3) w3 1 IntC adq b.fin.elses := htqd.keep hal4 (fun _ _ h => h)
  replace ht2 : SlV (roFrom ro w2 w3) w3 1 IntC (.slice adq b.fin.elses.length capq) b.fin.elses := SlV.keep ht2 hal4 (fun _ _ h => h)
  replace hyd : Elems (roFrom ro w2 w3) w3 1 IntC ada l := hyd.keep hal4 (fun _ _ h => h)
  replace hy : SlV (roFrom ro w2 w3) w3 1 IntC (.slice ada l.length capa) l := SlV.keep hy hal4 (fun _ _ h => h)
  replace hS := hS.readNew hbl
  replace hvl := SlV.keep hvl (ro' := (roFrom ro w2 w3)) (w' := w3) (Q' := IntC) (fun x hx => ⟨.inr hx, rfl⟩) (fun _ _ h => h)
  obtain ⟨adl, capl, rfl, hvla, hvlb, hvlc, hvld⟩ := id hvl
  have hvlm : (last16 b).length ≤ 9223372036854775807 := by have h1 := hvla; have h2 := hvlb; unfold maxLen at h2; omega
  have hll := last16_length b
  have hlen := hA.len
  refine WL.assign rfl rfl rfl ?_
  refine WL.nil ?_
  refine N.seq ?_
  refine W.seq ?_
  refine W.seq ?_
  refine W.region ?_
  refine WL.move rfl rfl rfl ?_
  refine WL.lenSlice Try.underlying29 rfl rfl rfl ?_
  refine WL.move rfl rfl rfl ?_
  refine WL.lenSlice Try.underlying29 rfl rfl rfl ?_
  refine WL.bin rfl rfl rfl rfl rfl ?_
  refine WL.move rfl rfl rfl ?_
  cases hg5 : (!decide ((l.length : Int) = ((last16 b).length : Int)))
  ·
    have hg5p : (l.length : Int) = ((last16 b).length : Int) := by simpa using hg5
    refine WL.move rfl rfl rfl ?_
    refine WL.callF (vs := [.slice ada l.length capa, .func (.func 27) #[] #[]]) Try.func26 (by kernel_rfl) rfl rfl rfl (containsNeg_ret l _ (ro := (roFrom ro w2 w3)) (fun b hb => (hS.snap b hb).1) (SlV.keep hy hS.alike (fun _ _ q => q)) (fun x hx => by obtain ⟨i, hi⟩ := List.mem_iff_getElem?.1 hx; exact hA.nn i x hi)) ?_
    rintro v w6 ⟨rfl, hbl⟩
    replace hS := hS.grow hbl
    refine WL.pick (v := .bool false) rfl rfl rfl rfl rfl rfl ?_
    refine WL.nil ?_
    refine N.seq ?_
    refine W.condF rfl ?_
    refine W.skip ?_
    refine N.seq ?_
    refine W.seq ?_
    refine W.seq ?_
    refine W.region ?_
    refine WL.move rfl rfl rfl ?_
    refine WL.lenSlice Try.underlying29 rfl rfl rfl ?_
    refine WL.move rfl rfl rfl ?_
    refine WL.nil ?_
    refine N.seq ?_
    refine W.block ?_
    refine W.loop (α := Nat) (fun (v : Nat) => [(0, .agg #[.int .i64 b.params, .slice adi b.ins.length capi, .int .i64 b.fin.kind, .int .i64 b.fin.a, .int .i64 b.fin.to, .slice adp b.fin.args.length capp, .int .i64 b.fin.els, .slice adq b.fin.elses.length capq]), (1, .slice ada l.length capa), (2, .pointer (some ⟨b1, 0, none⟩)), (5, .slice adl ((last16 b).length) capl), (9, .agg #[.int .i64 b.params, .slice adi b.ins.length capi, .int .i64 b.fin.kind, .int .i64 b.fin.a, .int .i64 b.fin.to, .slice adp b.fin.args.length capp, .int .i64 b.fin.els, .slice adq b.fin.elses.length capq]), (10, .slice adl ((last16 b).length) capl), (11, .slice ada l.length capa), (12, .int .i64 (l.length : Int)), (13, .slice adl ((last16 b).length) capl), (14, .int .i64 ((last16 b).length : Int)), (15, .bool false), (16, .bool false), (17, .slice ada l.length capa), (18, .bool false), (19, .bool false), (20, .slice ada l.length capa), (21, .int .i64 (l.length : Int)), (22, .int .i64 (v : Int))]) (fun (v : Nat) u => St w w3 u (roFrom ro w2 w3) [(b1, .cells #[.int .i64 b.params, .slice adi b.ins.length capi, .int .i64 b.fin.kind, .int .i64 b.fin.a, .int .i64 b.fin.to, .slice adp b.fin.args.length capp, .int .i64 b.fin.els, .slice adq b.fin.elses.length capq] 33 (0, 0))] [] ∧ v ≤ l.length) (fun (v : Nat) => l.length - v) 0 ⟨rfl, rfl, rfl, rfl, rfl, rfl, rfl, rfl, rfl, rfl, rfl, rfl, rfl, rfl, rfl, rfl, rfl, rfl, trivial⟩ ⟨hS, Nat.zero_le _⟩ ?_
    clear hS
    rintro v w7 ⟨hS, hv⟩
    refine W.seq ?_
    refine W.region ?_
    refine WL.bin rfl rfl rfl rfl rfl ?_
    refine WL.nil ?_
    refine N.seq ?_
    refine W.seq ?_
    refine W.cond rfl (fun hc8 => ?_) (fun hc8 => ?_)
    ·
      have hc8p : (v : Int) < (l.length : Int) := by simpa using hc8
      refine W.skip ?_
      refine N.seq ?_
      refine W.seq ?_
      refine W.block ?_
      refine W.seq ?_
      refine W.region ?_
      refine WL.move rfl rfl rfl ?_
      refine WL.assign rfl rfl rfl ?_
      refine WL.nil ?_
      refine N.seq ?_
      refine W.seq ?_
      refine W.region ?_
      refine WL.move rfl rfl rfl ?_
      refine WL.move rfl rfl rfl ?_
      refine WL.nil ?_
      refine N.seq ?_
      refine W.block ?_
      refine W.loop (α := Nat) (fun (q : Nat) => [(0, .agg #[.int .i64 b.params, .slice adi b.ins.length capi, .int .i64 b.fin.kind, .int .i64 b.fin.a, .int .i64 b.fin.to, .slice adp b.fin.args.length capp, .int .i64 b.fin.els, .slice adq b.fin.elses.length capq]), (1, .slice ada l.length capa), (2, .pointer (some ⟨b1, 0, none⟩)), (5, .slice adl ((last16 b).length) capl), (6, .int .i64 (v : Int)), (9, .agg #[.int .i64 b.params, .slice adi b.ins.length capi, .int .i64 b.fin.kind, .int .i64 b.fin.a, .int .i64 b.fin.to, .slice adp b.fin.args.length capp, .int .i64 b.fin.els, .slice adq b.fin.elses.length capq]), (10, .slice adl ((last16 b).length) capl), (11, .slice ada l.length capa), (12, .int .i64 (l.length : Int)), (13, .slice adl ((last16 b).length) capl), (14, .int .i64 ((last16 b).length : Int)), (15, .bool false), (16, .bool false), (17, .slice ada l.length capa), (18, .bool false), (19, .bool false), (20, .slice ada l.length capa), (21, .int .i64 (l.length : Int)), (22, .int .i64 (v : Int)), (23, .bool (decide ((v : Int) < (l.length : Int)))), (24, .int .i64 (v : Int)), (25, .int .i64 (v : Int)), (26, .int .i64 (q : Int))]) (fun (q : Nat) u => St w w3 u (roFrom ro w2 w3) [(b1, .cells #[.int .i64 b.params, .slice adi b.ins.length capi, .int .i64 b.fin.kind, .int .i64 b.fin.a, .int .i64 b.fin.to, .slice adp b.fin.args.length capp, .int .i64 b.fin.els, .slice adq b.fin.elses.length capq] 33 (0, 0))] [] ∧ q ≤ v) (fun (q : Nat) => v - q) 0 ⟨rfl, rfl, rfl, rfl, rfl, rfl, rfl, rfl, rfl, rfl, rfl, rfl, rfl, rfl, rfl, rfl, rfl, rfl, rfl, rfl, rfl, rfl, rfl, trivial⟩ ⟨hS, Nat.zero_le _⟩ ?_
      clear hS
      rintro q w9 ⟨hS, hq⟩
      refine W.seq ?_
      refine W.region ?_
      refine WL.bin rfl rfl rfl rfl rfl ?_
      refine WL.nil ?_
      refine N.seq ?_
      refine W.seq ?_
      refine W.cond rfl (fun hc10 => ?_) (fun hc10 => ?_)
      ·
        have hc10p : (q : Int) < (v : Int) := by simpa using hc10
        refine W.skip ?_
        refine N.seq ?_
        refine W.seq ?_
        refine W.block ?_
        refine W.seq ?_
        refine W.region ?_
        refine WL.move rfl rfl rfl ?_
        refine WL.assign rfl rfl rfl ?_
        refine WL.nil ?_
        refine N.seq ?_
        refine W.seq ?_
        have hj11 : q < (last16 b).length := by omega
        obtain ⟨x11, hx11⟩ : ∃ zz, (last16 b)[q]? = some zz := ⟨_, List.getElem?_eq_getElem hj11⟩
        obtain ⟨b11, o11, cs11, hE11, hr11, hl11, hc11, hQ11⟩ := hvld q _ hx11
        obtain ⟨rfl, hi11⟩ := hQ11
        cases hg12 : (decide ((v : Int) - b.params < x11))
        ·
          have hg12p : ¬ ((v : Int) - b.params < x11) := by simpa using hg12
          refine W.drawL (by kernel_rfl) 15 [.q (.slice adl ((last16 b).length) capl), .q (.int .i64 (q : Int)), .q (.pointer (some ⟨b11, o11 + q * 1, none⟩)), .q (.int .i64 x11), .q (.int .i64 (v : Int)), .q (.pointer (some ⟨b1, 0, none⟩)), .q (.int .i64 b.params), .q (.int .i64 ((v : Int) - b.params)), .q (.bool false), .q (.bool false), .q (.int .i64 (v : Int)), .q (.pointer (some ⟨b1, 0, none⟩)), .q (.int .i64 b.params), .q (.bool (decide ((v : Int) < b.params))), .q (.bool (decide ((v : Int) < b.params)))] (by kernel_rfl) rfl [(0, .agg #[.int .i64 b.params, .slice adi b.ins.length capi, .int .i64 b.fin.kind, .int .i64 b.fin.a, .int .i64 b.fin.to, .slice adp b.fin.args.length capp, .int .i64 b.fin.els, .slice adq b.fin.elses.length capq]), (1, .slice ada l.length capa), (2, .pointer (some ⟨b1, 0, none⟩)), (5, .slice adl ((last16 b).length) capl), (6, .int .i64 (v : Int)), (7, .int .i64 (q : Int)), (9, .agg #[.int .i64 b.params, .slice adi b.ins.length capi, .int .i64 b.fin.kind, .int .i64 b.fin.a, .int .i64 b.fin.to, .slice adp b.fin.args.length capp, .int .i64 b.fin.els, .slice adq b.fin.elses.length capq]), (10, .slice adl ((last16 b).length) capl), (11, .slice ada l.length capa), (12, .int .i64 (l.length : Int)), (13, .slice adl ((last16 b).length) capl), (14, .int .i64 ((last16 b).length : Int)), (15, .bool false), (16, .bool false), (17, .slice ada l.length capa), (18, .bool false), (19, .bool false), (20, .slice ada l.length capa), (21, .int .i64 (l.length : Int)), (22, .int .i64 (v : Int)), (23, .bool (decide ((v : Int) < (l.length : Int)))), (24, .int .i64 (v : Int)), (25, .int .i64 (v : Int)), (26, .int .i64 (q : Int)), (27, .bool (decide ((q : Int) < (v : Int)))), (28, .int .i64 (q : Int))] ⟨rfl, rfl, rfl, rfl, rfl, rfl, rfl, rfl, rfl, rfl, rfl, rfl, rfl, rfl, rfl, rfl, rfl, rfl, rfl, rfl, rfl, rfl, rfl, rfl, rfl, rfl, trivial⟩ rfl hS ?_ ?_
          ·
            refine And.intro (fun β w hS => ?_) ?_
            ·
              refine WL.sub (σ' := [(5, .slice adl ((last16 b).length) capl)]) ⟨rfl, trivial⟩ ?_
              refine WL.move rfl rfl rfl ?_
              exact WL.nil (N.cut () ⟨rfl, trivial⟩ (Below.refl _ _))
            refine And.intro (fun β w hS => ?_) ?_
            ·
              refine WL.sub (σ' := [(7, .int .i64 (q : Int))]) ⟨rfl, trivial⟩ ?_
              refine WL.move rfl rfl rfl ?_
              exact WL.nil (N.cut () ⟨rfl, trivial⟩ (Below.refl _ _))
            refine And.intro (fun β w hS => ?_) ?_
            ·
              refine WL.sub (σ' := [(29, .slice adl ((last16 b).length) capl), (30, .int .i64 (q : Int))]) ⟨rfl, rfl, trivial⟩ ?_
              refine WL.indexAddrE (j := q) Try.underlying29 isz_3 rfl rfl rfl rfl hj11 hE11 ?_
              exact WL.nil (N.cut () ⟨rfl, trivial⟩ (Below.refl _ _))
            refine And.intro (fun β w hS => ?_) ?_
            ·
              refine WL.sub (σ' := [(31, .pointer (some ⟨b11, o11 + q * 1, none⟩))]) ⟨rfl, trivial⟩ ?_
              refine WL.load1 (v := .int .i64 x11) one_3 rfl rfl rfl (hS.roCells hr11 hc11 0 _ rfl) ?_
              exact WL.nil (N.cut () ⟨rfl, trivial⟩ (Below.refl _ _))
            refine And.intro (fun β w hS => ?_) ?_
            ·
              refine WL.sub (σ' := [(6, .int .i64 (v : Int))]) ⟨rfl, trivial⟩ ?_
              refine WL.move rfl rfl rfl ?_
              exact WL.nil (N.cut () ⟨rfl, trivial⟩ (Below.refl _ _))
            refine And.intro (fun β w hS => ?_) ?_
            ·
              refine WL.sub (σ' := [(2, .pointer (some ⟨b1, 0, none⟩))]) ⟨rfl, trivial⟩ ?_
              refine WL.fieldAddr fo_33_0 rfl rfl rfl ?_
              exact WL.nil (N.cut () ⟨rfl, trivial⟩ (Below.refl _ _))
            refine And.intro (fun β w hS => ?_) ?_
            ·
              refine WL.sub (σ' := [(34, .pointer (some ⟨b1, 0, none⟩))]) ⟨rfl, trivial⟩ ?_
              refine WL.load1 (v := .int .i64 b.params) one_3 rfl rfl rfl (hS.cell 0 rfl rfl) ?_
              exact WL.nil (N.cut () ⟨rfl, trivial⟩ (Below.refl _ _))
            refine And.intro (fun β w hS => ?_) ?_
            ·
              refine WL.sub (σ' := [(33, .int .i64 (v : Int)), (35, .int .i64 b.params)]) ⟨rfl, rfl, trivial⟩ ?_
              refine WL.sub_ (c := (v : Int) - b.params) rfl rfl rfl rfl (rfl) (by omega) ?_
              exact WL.nil (N.cut () ⟨rfl, trivial⟩ (Below.refl _ _))
            refine And.intro (fun β w hS => ?_) ?_
            ·
              refine WL.sub (σ' := [(32, .int .i64 x11), (36, .int .i64 ((v : Int) - b.params))]) ⟨rfl, rfl, trivial⟩ ?_
              refine WL.bin rfl rfl rfl rfl rfl ?_
              refine WL.set 37 (v' := .bool false) rfl (by rw [hg12]) ?_
              exact WL.nil (N.cut () ⟨rfl, trivial⟩ (Below.refl _ _))
            refine And.intro (fun β w hS => ?_) ?_
            ·
              refine WL.sub (σ' := [(37, .bool false)]) ⟨rfl, trivial⟩ ?_
              refine WL.move rfl rfl rfl ?_
              exact WL.nil (N.cut () ⟨rfl, trivial⟩ (Below.refl _ _))
            refine And.intro (fun β w hS => ?_) ?_
            ·
              refine WL.sub (σ' := [(6, .int .i64 (v : Int)), (38, .bool false)]) ⟨rfl, rfl, trivial⟩ ?_
              refine WL.move rfl rfl rfl ?_
              exact WL.nil (N.cut () ⟨rfl, trivial⟩ (Below.refl _ _))
            refine And.intro (fun β w hS => ?_) ?_
            ·
              refine WL.sub (σ' := [(2, .pointer (some ⟨b1, 0, none⟩)), (38, .bool false)]) ⟨rfl, rfl, trivial⟩ ?_
              refine WL.fieldAddr fo_33_0 rfl rfl rfl ?_
              exact WL.nil (N.cut () ⟨rfl, trivial⟩ (Below.refl _ _))
            refine And.intro (fun β w hS => ?_) ?_
            ·
              refine WL.sub (σ' := [(38, .bool false), (40, .pointer (some ⟨b1, 0, none⟩))]) ⟨rfl, rfl, trivial⟩ ?_
              refine WL.load1 (v := .int .i64 b.params) one_3 rfl rfl rfl (hS.cell 0 rfl rfl) ?_
              exact WL.nil (N.cut () ⟨rfl, trivial⟩ (Below.refl _ _))
            refine And.intro (fun β w hS => ?_) ?_
            ·
              refine WL.sub (σ' := [(38, .bool false), (39, .int .i64 (v : Int)), (41, .int .i64 b.params)]) ⟨rfl, rfl, rfl, trivial⟩ ?_
              refine WL.bin rfl rfl rfl rfl rfl ?_
              exact WL.nil (N.cut () ⟨rfl, trivial⟩ (Below.refl _ _))
            refine And.intro (fun β w hS => ?_) ?_
            ·
              refine WL.sub (σ' := [(38, .bool false), (42, .bool (decide ((v : Int) < b.params)))]) ⟨rfl, rfl, trivial⟩ ?_
              refine WL.pick (v := .bool (decide ((v : Int) < b.params))) rfl rfl rfl rfl rfl rfl ?_
              exact WL.nil (N.cut () ⟨rfl, trivial⟩ (Below.refl _ _))
            trivial
          ·
            clear hS; intro w13 β hS
            refine WL.sub (σ' := [(0, .agg #[.int .i64 b.params, .slice adi b.ins.length capi, .int .i64 b.fin.kind, .int .i64 b.fin.a, .int .i64 b.fin.to, .slice adp b.fin.args.length capp, .int .i64 b.fin.els, .slice adq b.fin.elses.length capq]), (1, .slice ada l.length capa), (2, .pointer (some ⟨b1, 0, none⟩)), (5, .slice adl ((last16 b).length) capl), (6, .int .i64 (v : Int)), (7, .int .i64 (q : Int)), (9, .agg #[.int .i64 b.params, .slice adi b.ins.length capi, .int .i64 b.fin.kind, .int .i64 b.fin.a, .int .i64 b.fin.to, .slice adp b.fin.args.length capp, .int .i64 b.fin.els, .slice adq b.fin.elses.length capq]), (10, .slice adl ((last16 b).length) capl), (11, .slice ada l.length capa), (12, .int .i64 (l.length : Int)), (13, .slice adl ((last16 b).length) capl), (14, .int .i64 ((last16 b).length : Int)), (15, .bool false), (16, .bool false), (17, .slice ada l.length capa), (18, .bool false), (19, .bool false), (20, .slice ada l.length capa), (21, .int .i64 (l.length : Int)), (22, .int .i64 (v : Int)), (23, .bool (decide ((v : Int) < (l.length : Int)))), (24, .int .i64 (v : Int)), (25, .int .i64 (v : Int)), (26, .int .i64 (q : Int)), (27, .bool (decide ((q : Int) < (v : Int)))), (28, .int .i64 (q : Int)), (29, .slice adl ((last16 b).length) capl), (30, .int .i64 (q : Int)), (31, .pointer (some ⟨b11, o11 + q * 1, none⟩)), (32, .int .i64 x11), (33, .int .i64 (v : Int)), (34, .pointer (some ⟨b1, 0, none⟩)), (35, .int .i64 b.params), (36, .int .i64 ((v : Int) - b.params)), (37, .bool false), (38, .bool false), (39, .int .i64 (v : Int)), (40, .pointer (some ⟨b1, 0, none⟩)), (41, .int .i64 b.params), (42, .bool (decide ((v : Int) < b.params))), (43, .bool (decide ((v : Int) < b.params)))]) ⟨rfl, rfl, rfl, rfl, rfl, rfl, rfl, rfl, rfl, rfl, rfl, rfl, rfl, rfl, rfl, rfl, rfl, rfl, rfl, rfl, rfl, rfl, rfl, rfl, rfl, rfl, rfl, rfl, rfl, rfl, rfl, rfl, rfl, rfl, rfl, rfl, rfl, rfl, rfl, rfl, rfl, trivial⟩ ?_
            refine WL.assign rfl rfl rfl ?_
            refine WL.nil ?_
            refine N.seq ?_
            refine W.seq ?_
            have hj14 : v < l.length := by omega
            obtain ⟨x14, hx14⟩ : ∃ zz, l[v]? = some zz := ⟨_, List.getElem?_eq_getElem hj14⟩
            obtain ⟨b14, o14, cs14, hE14, hr14, hl14, hc14, hQ14⟩ := hyd v _ hx14
            obtain ⟨rfl, hi14⟩ := hQ14
            have hj15 : q < l.length := by omega
            obtain ⟨x15, hx15⟩ : ∃ zz, l[q]? = some zz := ⟨_, List.getElem?_eq_getElem hj15⟩
            obtain ⟨b15, o15, cs15, hE15, hr15, hl15, hc15, hQ15⟩ := hyd q _ hx15
            obtain ⟨rfl, hi15⟩ := hQ15
            cases hg16 : (decide (x14 = x15))
            ·
              have hg16p : ¬ (x14 = x15) := by simpa using hg16
              refine W.drawL (by kernel_rfl) 12 [.q (.slice ada l.length capa), .q (.int .i64 (v : Int)), .q (.pointer (some ⟨b14, o14 + v * 1, none⟩)), .q (.int .i64 x14), .q (.slice ada l.length capa), .q (.int .i64 (q : Int)), .q (.pointer (some ⟨b15, o15 + q * 1, none⟩)), .q (.int .i64 x15), .q (.bool false), .q (.bool false), .q undef, .q (.bool false)] (by kernel_rfl) rfl [(0, .agg #[.int .i64 b.params, .slice adi b.ins.length capi, .int .i64 b.fin.kind, .int .i64 b.fin.a, .int .i64 b.fin.to, .slice adp b.fin.args.length capp, .int .i64 b.fin.els, .slice adq b.fin.elses.length capq]), (1, .slice ada l.length capa), (2, .pointer (some ⟨b1, 0, none⟩)), (5, .slice adl ((last16 b).length) capl), (6, .int .i64 (v : Int)), (7, .int .i64 (q : Int)), (8, .bool (decide ((v : Int) < b.params))), (9, .agg #[.int .i64 b.params, .slice adi b.ins.length capi, .int .i64 b.fin.kind, .int .i64 b.fin.a, .int .i64 b.fin.to, .slice adp b.fin.args.length capp, .int .i64 b.fin.els, .slice adq b.fin.elses.length capq]), (10, .slice adl ((last16 b).length) capl), (11, .slice ada l.length capa), (12, .int .i64 (l.length : Int)), (13, .slice adl ((last16 b).length) capl), (14, .int .i64 ((last16 b).length : Int)), (15, .bool false), (16, .bool false), (17, .slice ada l.length capa), (18, .bool false), (19, .bool false), (20, .slice ada l.length capa), (21, .int .i64 (l.length : Int)), (22, .int .i64 (v : Int)), (23, .bool (decide ((v : Int) < (l.length : Int)))), (24, .int .i64 (v : Int)), (25, .int .i64 (v : Int)), (26, .int .i64 (q : Int)), (27, .bool (decide ((q : Int) < (v : Int)))), (28, .int .i64 (q : Int)), (29, .slice adl ((last16 b).length) capl), (30, .int .i64 (q : Int)), (31, .pointer (some ⟨b11, o11 + q * 1, none⟩)), (32, .int .i64 x11), (33, .int .i64 (v : Int)), (34, .pointer (some ⟨b1, 0, none⟩)), (35, .int .i64 b.params), (36, .int .i64 ((v : Int) - b.params)), (37, .bool false), (38, .bool false), (39, .int .i64 (v : Int)), (40, .pointer (some ⟨b1, 0, none⟩)), (41, .int .i64 b.params), (42, .bool (decide ((v : Int) < b.params))), (43, .bool (decide ((v : Int) < b.params)))] ⟨rfl, rfl, rfl, rfl, rfl, rfl, rfl, rfl, rfl, rfl, rfl, rfl, rfl, rfl, rfl, rfl, rfl, rfl, rfl, rfl, rfl, rfl, rfl, rfl, rfl, rfl, rfl, rfl, rfl, rfl, rfl, rfl, rfl, rfl, rfl, rfl, rfl, rfl, rfl, rfl, rfl, rfl, trivial⟩ rfl hS ?_ ?_
              ·
                refine And.intro (fun β w hS => ?_) ?_
                ·
                  refine WL.sub (σ' := [(1, .slice ada l.length capa)]) ⟨rfl, trivial⟩ ?_
                  refine WL.move rfl rfl rfl ?_
                  exact WL.nil (N.cut () ⟨rfl, trivial⟩ (Below.refl _ _))
                refine And.intro (fun β w hS => ?_) ?_
                ·
                  refine WL.sub (σ' := [(6, .int .i64 (v : Int))]) ⟨rfl, trivial⟩ ?_
                  refine WL.move rfl rfl rfl ?_
                  exact WL.nil (N.cut () ⟨rfl, trivial⟩ (Below.refl _ _))
                refine And.intro (fun β w hS => ?_) ?_
                ·
                  refine WL.sub (σ' := [(44, .slice ada l.length capa), (45, .int .i64 (v : Int))]) ⟨rfl, rfl, trivial⟩ ?_
                  refine WL.indexAddrE (j := v) Try.underlying29 isz_3 rfl rfl rfl rfl hj14 hE14 ?_
                  exact WL.nil (N.cut () ⟨rfl, trivial⟩ (Below.refl _ _))
                refine And.intro (fun β w hS => ?_) ?_
                ·
                  refine WL.sub (σ' := [(46, .pointer (some ⟨b14, o14 + v * 1, none⟩))]) ⟨rfl, trivial⟩ ?_
                  refine WL.load1 (v := .int .i64 x14) one_3 rfl rfl rfl (hS.roCells hr14 hc14 0 _ rfl) ?_
                  exact WL.nil (N.cut () ⟨rfl, trivial⟩ (Below.refl _ _))
                refine And.intro (fun β w hS => ?_) ?_
                ·
                  refine WL.sub (σ' := [(1, .slice ada l.length capa)]) ⟨rfl, trivial⟩ ?_
                  refine WL.move rfl rfl rfl ?_
                  exact WL.nil (N.cut () ⟨rfl, trivial⟩ (Below.refl _ _))
                refine And.intro (fun β w hS => ?_) ?_
                ·
                  refine WL.sub (σ' := [(7, .int .i64 (q : Int))]) ⟨rfl, trivial⟩ ?_
                  refine WL.move rfl rfl rfl ?_
                  exact WL.nil (N.cut () ⟨rfl, trivial⟩ (Below.refl _ _))
                refine And.intro (fun β w hS => ?_) ?_
                ·
                  refine WL.sub (σ' := [(48, .slice ada l.length capa), (49, .int .i64 (q : Int))]) ⟨rfl, rfl, trivial⟩ ?_
                  refine WL.indexAddrE (j := q) Try.underlying29 isz_3 rfl rfl rfl rfl hj15 hE15 ?_
                  exact WL.nil (N.cut () ⟨rfl, trivial⟩ (Below.refl _ _))
                refine And.intro (fun β w hS => ?_) ?_
                ·
                  refine WL.sub (σ' := [(50, .pointer (some ⟨b15, o15 + q * 1, none⟩))]) ⟨rfl, trivial⟩ ?_
                  refine WL.load1 (v := .int .i64 x15) one_3 rfl rfl rfl (hS.roCells hr15 hc15 0 _ rfl) ?_
                  exact WL.nil (N.cut () ⟨rfl, trivial⟩ (Below.refl _ _))
                refine And.intro (fun β w hS => ?_) ?_
                ·
                  refine WL.sub (σ' := [(47, .int .i64 x14), (51, .int .i64 x15)]) ⟨rfl, rfl, trivial⟩ ?_
                  refine WL.bin rfl rfl rfl rfl rfl ?_
                  refine WL.set 52 (v' := .bool false) rfl (by rw [hg16]) ?_
                  exact WL.nil (N.cut () ⟨rfl, trivial⟩ (Below.refl _ _))
                refine And.intro (fun β w hS => ?_) ?_
                ·
                  refine WL.sub (σ' := [(52, .bool false)]) ⟨rfl, trivial⟩ ?_
                  refine WL.move rfl rfl rfl ?_
                  exact WL.nil (N.cut () ⟨rfl, trivial⟩ (Below.refl _ _))
                refine And.intro (fun β w hS => ?_) ?_
                ·
                  refine WL.sub (σ' := [(8, .bool (decide ((v : Int) < b.params))), (53, .bool false)]) ⟨rfl, rfl, trivial⟩ ?_
                  refine WL.skp rfl rfl ?_
                  exact WL.nil (N.cut () ⟨rfl, trivial⟩ (Below.refl _ _))
                refine And.intro (fun β w hS => ?_) ?_
                ·
                  refine WL.sub (σ' := [(53, .bool false), (54, undef)]) ⟨rfl, rfl, trivial⟩ ?_
                  refine WL.pick (v := .bool false) rfl rfl rfl rfl rfl rfl ?_
                  exact WL.nil (N.cut () ⟨rfl, trivial⟩ (Below.refl _ _))
                trivial
              ·
                clear hS; intro w17 β hS
                refine WL.sub (σ' := [(0, .agg #[.int .i64 b.params, .slice adi b.ins.length capi, .int .i64 b.fin.kind, .int .i64 b.fin.a, .int .i64 b.fin.to, .slice adp b.fin.args.length capp, .int .i64 b.fin.els, .slice adq b.fin.elses.length capq]), (1, .slice ada l.length capa), (2, .pointer (some ⟨b1, 0, none⟩)), (5, .slice adl ((last16 b).length) capl), (6, .int .i64 (v : Int)), (7, .int .i64 (q : Int)), (8, .bool (decide ((v : Int) < b.params))), (9, .agg #[.int .i64 b.params, .slice adi b.ins.length capi, .int .i64 b.fin.kind, .int .i64 b.fin.a, .int .i64 b.fin.to, .slice adp b.fin.args.length capp, .int .i64 b.fin.els, .slice adq b.fin.elses.length capq]), (10, .slice adl ((last16 b).length) capl), (11, .slice ada l.length capa), (12, .int .i64 (l.length : Int)), (13, .slice adl ((last16 b).length) capl), (14, .int .i64 ((last16 b).length : Int)), (15, .bool false), (16, .bool false), (17, .slice ada l.length capa), (18, .bool false), (19, .bool false), (20, .slice ada l.length capa), (21, .int .i64 (l.length : Int)), (22, .int .i64 (v : Int)), (23, .bool (decide ((v : Int) < (l.length : Int)))), (24, .int .i64 (v : Int)), (25, .int .i64 (v : Int)), (26, .int .i64 (q : Int)), (27, .bool (decide ((q : Int) < (v : Int)))), (28, .int .i64 (q : Int)), (29, .slice adl ((last16 b).length) capl), (30, .int .i64 (q : Int)), (31, .pointer (some ⟨b11, o11 + q * 1, none⟩)), (32, .int .i64 x11), (33, .int .i64 (v : Int)), (34, .pointer (some ⟨b1, 0, none⟩)), (35, .int .i64 b.params), (36, .int .i64 ((v : Int) - b.params)), (37, .bool false), (38, .bool false), (39, .int .i64 (v : Int)), (40, .pointer (some ⟨b1, 0, none⟩)), (41, .int .i64 b.params), (42, .bool (decide ((v : Int) < b.params))), (43, .bool (decide ((v : Int) < b.params))), (44, .slice ada l.length capa), (45, .int .i64 (v : Int)), (46, .pointer (some ⟨b14, o14 + v * 1, none⟩)), (47, .int .i64 x14), (48, .slice ada l.length capa), (49, .int .i64 (q : Int)), (50, .pointer (some ⟨b15, o15 + q * 1, none⟩)), (51, .int .i64 x15), (52, .bool false), (53, .bool false), (54, undef), (55, .bool false)]) ⟨rfl, rfl, rfl, rfl, rfl, rfl, rfl, rfl, rfl, rfl, rfl, rfl, rfl, rfl, rfl, rfl, rfl, rfl, rfl, rfl, rfl, rfl, rfl, rfl, rfl, rfl, rfl, rfl, rfl, rfl, rfl, rfl, rfl, rfl, rfl, rfl, rfl, rfl, rfl, rfl, rfl, rfl, rfl, rfl, rfl, rfl, rfl, rfl, rfl, rfl, rfl, rfl, rfl, rfl, trivial⟩ ?_
                refine WL.nil ?_
                refine N.seq ?_
                refine W.condF rfl ?_
                refine W.skip ?_
                refine N.blk ?_
                refine N.seq ?_
                refine W.region ?_
                refine WL.add (c := (q : Int) + 1) rfl rfl rfl rfl (rfl) (by omega) ?_
                refine WL.move rfl rfl rfl ?_
                refine WL.nil ?_
                exact N.loop (q + 1) ⟨rfl, rfl, rfl, rfl, rfl, rfl, rfl, rfl, rfl, rfl, rfl, rfl, rfl, rfl, rfl, rfl, rfl, rfl, rfl, rfl, rfl, rfl, rfl, trivial⟩ ⟨hS, by omega⟩ (by first | omega | (simp only; omega))
            ·
              have hg16p : x14 = x15 := by simpa using hg16
              refine W.drawL (by kernel_rfl) 12 [.q (.slice ada l.length capa), .q (.int .i64 (v : Int)), .q (.pointer (some ⟨b14, o14 + v * 1, none⟩)), .q (.int .i64 x14), .q (.slice ada l.length capa), .q (.int .i64 (q : Int)), .q (.pointer (some ⟨b15, o15 + q * 1, none⟩)), .q (.int .i64 x15), .q (.bool true), .q (.bool true), .q (.bool (decide ((v : Int) < b.params))), .q (.bool (decide ((v : Int) < b.params)))] (by kernel_rfl) rfl [(0, .agg #[.int .i64 b.params, .slice adi b.ins.length capi, .int .i64 b.fin.kind, .int .i64 b.fin.a, .int .i64 b.fin.to, .slice adp b.fin.args.length capp, .int .i64 b.fin.els, .slice adq b.fin.elses.length capq]), (1, .slice ada l.length capa), (2, .pointer (some ⟨b1, 0, none⟩)), (5, .slice adl ((last16 b).length) capl), (6, .int .i64 (v : Int)), (7, .int .i64 (q : Int)), (8, .bool (decide ((v : Int) < b.params))), (9, .agg #[.int .i64 b.params, .slice adi b.ins.length capi, .int .i64 b.fin.kind, .int .i64 b.fin.a, .int .i64 b.fin.to, .slice adp b.fin.args.length capp, .int .i64 b.fin.els, .slice adq b.fin.elses.length capq]), (10, .slice adl ((last16 b).length) capl), (11, .slice ada l.length capa), (12, .int .i64 (l.length : Int)), (13, .slice adl ((last16 b).length) capl), (14, .int .i64 ((last16 b).length : Int)), (15, .bool false), (16, .bool false), (17, .slice ada l.length capa), (18, .bool false), (19, .bool false), (20, .slice ada l.length capa), (21, .int .i64 (l.length : Int)), (22, .int .i64 (v : Int)), (23, .bool (decide ((v : Int) < (l.length : Int)))), (24, .int .i64 (v : Int)), (25, .int .i64 (v : Int)), (26, .int .i64 (q : Int)), (27, .bool (decide ((q : Int) < (v : Int)))), (28, .int .i64 (q : Int)), (29, .slice adl ((last16 b).length) capl), (30, .int .i64 (q : Int)), (31, .pointer (some ⟨b11, o11 + q * 1, none⟩)), (32, .int .i64 x11), (33, .int .i64 (v : Int)), (34, .pointer (some ⟨b1, 0, none⟩)), (35, .int .i64 b.params), (36, .int .i64 ((v : Int) - b.params)), (37, .bool false), (38, .bool false), (39, .int .i64 (v : Int)), (40, .pointer (some ⟨b1, 0, none⟩)), (41, .int .i64 b.params), (42, .bool (decide ((v : Int) < b.params))), (43, .bool (decide ((v : Int) < b.params)))] ⟨rfl, rfl, rfl, rfl, rfl, rfl, rfl, rfl, rfl, rfl, rfl, rfl, rfl, rfl, rfl, rfl, rfl, rfl, rfl, rfl, rfl, rfl, rfl, rfl, rfl, rfl, rfl, rfl, rfl, rfl, rfl, rfl, rfl, rfl, rfl, rfl, rfl, rfl, rfl, rfl, rfl, rfl, trivial⟩ rfl hS ?_ ?_
              ·
                refine And.intro (fun β w hS => ?_) ?_
                ·
                  refine WL.sub (σ' := [(1, .slice ada l.length capa)]) ⟨rfl, trivial⟩ ?_
                  refine WL.move rfl rfl rfl ?_
                  exact WL.nil (N.cut () ⟨rfl, trivial⟩ (Below.refl _ _))
                refine And.intro (fun β w hS => ?_) ?_
                ·
                  refine WL.sub (σ' := [(6, .int .i64 (v : Int))]) ⟨rfl, trivial⟩ ?_
                  refine WL.move rfl rfl rfl ?_
                  exact WL.nil (N.cut () ⟨rfl, trivial⟩ (Below.refl _ _))
                refine And.intro (fun β w hS => ?_) ?_
                ·
                  refine WL.sub (σ' := [(44, .slice ada l.length capa), (45, .int .i64 (v : Int))]) ⟨rfl, rfl, trivial⟩ ?_
                  refine WL.indexAddrE (j := v) Try.underlying29 isz_3 rfl rfl rfl rfl hj14 hE14 ?_
                  exact WL.nil (N.cut () ⟨rfl, trivial⟩ (Below.refl _ _))
                refine And.intro (fun β w hS => ?_) ?_
                ·
                  refine WL.sub (σ' := [(46, .pointer (some ⟨b14, o14 + v * 1, none⟩))]) ⟨rfl, trivial⟩ ?_
                  refine WL.load1 (v := .int .i64 x14) one_3 rfl rfl rfl (hS.roCells hr14 hc14 0 _ rfl) ?_
                  exact WL.nil (N.cut () ⟨rfl, trivial⟩ (Below.refl _ _))
                refine And.intro (fun β w hS => ?_) ?_
                ·
                  refine WL.sub (σ' := [(1, .slice ada l.length capa)]) ⟨rfl, trivial⟩ ?_
                  refine WL.move rfl rfl rfl ?_
                  exact WL.nil (N.cut () ⟨rfl, trivial⟩ (Below.refl _ _))
                refine And.intro (fun β w hS => ?_) ?_
                ·
                  refine WL.sub (σ' := [(7, .int .i64 (q : Int))]) ⟨rfl, trivial⟩ ?_
                  refine WL.move rfl rfl rfl ?_
                  exact WL.nil (N.cut () ⟨rfl, trivial⟩ (Below.refl _ _))
                refine And.intro (fun β w hS => ?_) ?_
                ·
                  refine WL.sub (σ' := [(48, .slice ada l.length capa), (49, .int .i64 (q : Int))]) ⟨rfl, rfl, trivial⟩ ?_
                  refine WL.indexAddrE (j := q) Try.underlying29 isz_3 rfl rfl rfl rfl hj15 hE15 ?_
                  exact WL.nil (N.cut () ⟨rfl, trivial⟩ (Below.refl _ _))
                refine And.intro (fun β w hS => ?_) ?_
                ·
                  refine WL.sub (σ' := [(50, .pointer (some ⟨b15, o15 + q * 1, none⟩))]) ⟨rfl, trivial⟩ ?_
                  refine WL.load1 (v := .int .i64 x15) one_3 rfl rfl rfl (hS.roCells hr15 hc15 0 _ rfl) ?_
                  exact WL.nil (N.cut () ⟨rfl, trivial⟩ (Below.refl _ _))
                refine And.intro (fun β w hS => ?_) ?_
                ·
                  refine WL.sub (σ' := [(47, .int .i64 x14), (51, .int .i64 x15)]) ⟨rfl, rfl, trivial⟩ ?_
                  refine WL.bin rfl rfl rfl rfl rfl ?_
                  refine WL.set 52 (v' := .bool true) rfl (by rw [hg16]) ?_
                  exact WL.nil (N.cut () ⟨rfl, trivial⟩ (Below.refl _ _))
                refine And.intro (fun β w hS => ?_) ?_
                ·
                  refine WL.sub (σ' := [(52, .bool true)]) ⟨rfl, trivial⟩ ?_
                  refine WL.move rfl rfl rfl ?_
                  exact WL.nil (N.cut () ⟨rfl, trivial⟩ (Below.refl _ _))
                refine And.intro (fun β w hS => ?_) ?_
                ·
                  refine WL.sub (σ' := [(8, .bool (decide ((v : Int) < b.params))), (53, .bool true)]) ⟨rfl, rfl, trivial⟩ ?_
                  refine WL.move rfl rfl rfl ?_
                  exact WL.nil (N.cut () ⟨rfl, trivial⟩ (Below.refl _ _))
                refine And.intro (fun β w hS => ?_) ?_
                ·
                  refine WL.sub (σ' := [(53, .bool true), (54, .bool (decide ((v : Int) < b.params)))]) ⟨rfl, rfl, trivial⟩ ?_
                  refine WL.pick (v := .bool (decide ((v : Int) < b.params))) rfl rfl rfl rfl rfl rfl ?_
                  exact WL.nil (N.cut () ⟨rfl, trivial⟩ (Below.refl _ _))
                trivial
              ·
                clear hS; intro w18 β hS
                refine WL.sub (σ' := [(0, .agg #[.int .i64 b.params, .slice adi b.ins.length capi, .int .i64 b.fin.kind, .int .i64 b.fin.a, .int .i64 b.fin.to, .slice adp b.fin.args.length capp, .int .i64 b.fin.els, .slice adq b.fin.elses.length capq]), (1, .slice ada l.length capa), (2, .pointer (some ⟨b1, 0, none⟩)), (5, .slice adl ((last16 b).length) capl), (6, .int .i64 (v : Int)), (7, .int .i64 (q : Int)), (8, .bool (decide ((v : Int) < b.params))), (9, .agg #[.int .i64 b.params, .slice adi b.ins.length capi, .int .i64 b.fin.kind, .int .i64 b.fin.a, .int .i64 b.fin.to, .slice adp b.fin.args.length capp, .int .i64 b.fin.els, .slice adq b.fin.elses.length capq]), (10, .slice adl ((last16 b).length) capl), (11, .slice ada l.length capa), (12, .int .i64 (l.length : Int)), (13, .slice adl ((last16 b).length) capl), (14, .int .i64 ((last16 b).length : Int)), (15, .bool false), (16, .bool false), (17, .slice ada l.length capa), (18, .bool false), (19, .bool false), (20, .slice ada l.length capa), (21, .int .i64 (l.length : Int)), (22, .int .i64 (v : Int)), (23, .bool (decide ((v : Int) < (l.length : Int)))), (24, .int .i64 (v : Int)), (25, .int .i64 (v : Int)), (26, .int .i64 (q : Int)), (27, .bool (decide ((q : Int) < (v : Int)))), (28, .int .i64 (q : Int)), (29, .slice adl ((last16 b).length) capl), (30, .int .i64 (q : Int)), (31, .pointer (some ⟨b11, o11 + q * 1, none⟩)), (32, .int .i64 x11), (33, .int .i64 (v : Int)), (34, .pointer (some ⟨b1, 0, none⟩)), (35, .int .i64 b.params), (36, .int .i64 ((v : Int) - b.params)), (37, .bool false), (38, .bool false), (39, .int .i64 (v : Int)), (40, .pointer (some ⟨b1, 0, none⟩)), (41, .int .i64 b.params), (42, .bool (decide ((v : Int) < b.params))), (43, .bool (decide ((v : Int) < b.params))), (44, .slice ada l.length capa), (45, .int .i64 (v : Int)), (46, .pointer (some ⟨b14, o14 + v * 1, none⟩)), (47, .int .i64 x14), (48, .slice ada l.length capa), (49, .int .i64 (q : Int)), (50, .pointer (some ⟨b15, o15 + q * 1, none⟩)), (51, .int .i64 x15), (52, .bool true), (53, .bool true), (54, .bool (decide ((v : Int) < b.params))), (55, .bool (decide ((v : Int) < b.params)))]) ⟨rfl, rfl, rfl, rfl, rfl, rfl, rfl, rfl, rfl, rfl, rfl, rfl, rfl, rfl, rfl, rfl, rfl, rfl, rfl, rfl, rfl, rfl, rfl, rfl, rfl, rfl, rfl, rfl, rfl, rfl, rfl, rfl, rfl, rfl, rfl, rfl, rfl, rfl, rfl, rfl, rfl, rfl, rfl, rfl, rfl, rfl, rfl, rfl, rfl, rfl, rfl, rfl, rfl, rfl, trivial⟩ ?_
                refine WL.nil ?_
                refine N.seq ?_
                refine W.cond rfl (fun hc19 => ?_) (fun hc19 => ?_)
                ·
                  have hc19p : (v : Int) < b.params := by simpa using hc19
                  refine W.seq ?_
                  refine W.region ?_
                  refine WL.assign rfl rfl rfl ?_
                  refine WL.nil ?_
                  refine N.seq ?_
                  refine Fin.ret1 rfl (v := .bool false) rfl ?_
                  have hap := hA.ap v q _ _ (by omega) hx14 (by rw [hg16p]; exact hx15) hx11
                  exact (by omega : False).elim
                ·
                  have hc19p : ¬ ((v : Int) < b.params) := by simpa using hc19
                  refine W.skip ?_
                  refine N.blk ?_
                  refine N.seq ?_
                  refine W.region ?_
                  refine WL.add (c := (q : Int) + 1) rfl rfl rfl rfl (rfl) (by omega) ?_
                  refine WL.move rfl rfl rfl ?_
                  refine WL.nil ?_
                  exact N.loop (q + 1) ⟨rfl, rfl, rfl, rfl, rfl, rfl, rfl, rfl, rfl, rfl, rfl, rfl, rfl, rfl, rfl, rfl, rfl, rfl, rfl, rfl, rfl, rfl, rfl, trivial⟩ ⟨hS, by omega⟩ (by first | omega | (simp only; omega))
        ·
          have hg12p : (v : Int) - b.params < x11 := by simpa using hg12
          refine W.drawL (by kernel_rfl) 15 [.q (.slice adl ((last16 b).length) capl), .q (.int .i64 (q : Int)), .q (.pointer (some ⟨b11, o11 + q * 1, none⟩)), .q (.int .i64 x11), .q (.int .i64 (v : Int)), .q (.pointer (some ⟨b1, 0, none⟩)), .q (.int .i64 b.params), .q (.int .i64 ((v : Int) - b.params)), .q (.bool true), .q (.bool true), .q undef, .q undef, .q undef, .q undef, .q (.bool true)] (by kernel_rfl) rfl [(0, .agg #[.int .i64 b.params, .slice adi b.ins.length capi, .int .i64 b.fin.kind, .int .i64 b.fin.a, .int .i64 b.fin.to, .slice adp b.fin.args.length capp, .int .i64 b.fin.els, .slice adq b.fin.elses.length capq]), (1, .slice ada l.length capa), (2, .pointer (some ⟨b1, 0, none⟩)), (5, .slice adl ((last16 b).length) capl), (6, .int .i64 (v : Int)), (7, .int .i64 (q : Int)), (9, .agg #[.int .i64 b.params, .slice adi b.ins.length capi, .int .i64 b.fin.kind, .int .i64 b.fin.a, .int .i64 b.fin.to, .slice adp b.fin.args.length capp, .int .i64 b.fin.els, .slice adq b.fin.elses.length capq]), (10, .slice adl ((last16 b).length) capl), (11, .slice ada l.length capa), (12, .int .i64 (l.length : Int)), (13, .slice adl ((last16 b).length) capl), (14, .int .i64 ((last16 b).length : Int)), (15, .bool false), (16, .bool false), (17, .slice ada l.length capa), (18, .bool false), (19, .bool false), (20, .slice ada l.length capa), (21, .int .i64 (l.length : Int)), (22, .int .i64 (v : Int)), (23, .bool (decide ((v : Int) < (l.length : Int)))), (24, .int .i64 (v : Int)), (25, .int .i64 (v : Int)), (26, .int .i64 (q : Int)), (27, .bool (decide ((q : Int) < (v : Int)))), (28, .int .i64 (q : Int))] ⟨rfl, rfl, rfl, rfl, rfl, rfl, rfl, rfl, rfl, rfl, rfl, rfl, rfl, rfl, rfl, rfl, rfl, rfl, rfl, rfl, rfl, rfl, rfl, rfl, rfl, rfl, trivial⟩ rfl hS ?_ ?_
          ·
            refine And.intro (fun β w hS => ?_) ?_
            ·
              refine WL.sub (σ' := [(5, .slice adl ((last16 b).length) capl)]) ⟨rfl, trivial⟩ ?_
              refine WL.move rfl rfl rfl ?_
              exact WL.nil (N.cut () ⟨rfl, trivial⟩ (Below.refl _ _))
            refine And.intro (fun β w hS => ?_) ?_
            ·
              refine WL.sub (σ' := [(7, .int .i64 (q : Int))]) ⟨rfl, trivial⟩ ?_
              refine WL.move rfl rfl rfl ?_
              exact WL.nil (N.cut () ⟨rfl, trivial⟩ (Below.refl _ _))
            refine And.intro (fun β w hS => ?_) ?_
            ·
              refine WL.sub (σ' := [(29, .slice adl ((last16 b).length) capl), (30, .int .i64 (q : Int))]) ⟨rfl, rfl, trivial⟩ ?_
              refine WL.indexAddrE (j := q) Try.underlying29 isz_3 rfl rfl rfl rfl hj11 hE11 ?_
              exact WL.nil (N.cut () ⟨rfl, trivial⟩ (Below.refl _ _))
            refine And.intro (fun β w hS => ?_) ?_
            ·
              refine WL.sub (σ' := [(31, .pointer (some ⟨b11, o11 + q * 1, none⟩))]) ⟨rfl, trivial⟩ ?_
              refine WL.load1 (v := .int .i64 x11) one_3 rfl rfl rfl (hS.roCells hr11 hc11 0 _ rfl) ?_
              exact WL.nil (N.cut () ⟨rfl, trivial⟩ (Below.refl _ _))
            refine And.intro (fun β w hS => ?_) ?_
            ·
              refine WL.sub (σ' := [(6, .int .i64 (v : Int))]) ⟨rfl, trivial⟩ ?_
              refine WL.move rfl rfl rfl ?_
              exact WL.nil (N.cut () ⟨rfl, trivial⟩ (Below.refl _ _))
            refine And.intro (fun β w hS => ?_) ?_
            ·
              refine WL.sub (σ' := [(2, .pointer (some ⟨b1, 0, none⟩))]) ⟨rfl, trivial⟩ ?_
              refine WL.fieldAddr fo_33_0 rfl rfl rfl ?_
              exact WL.nil (N.cut () ⟨rfl, trivial⟩ (Below.refl _ _))
            refine And.intro (fun β w hS => ?_) ?_
            ·
              refine WL.sub (σ' := [(34, .pointer (some ⟨b1, 0, none⟩))]) ⟨rfl, trivial⟩ ?_
              refine WL.load1 (v := .int .i64 b.params) one_3 rfl rfl rfl (hS.cell 0 rfl rfl) ?_
              exact WL.nil (N.cut () ⟨rfl, trivial⟩ (Below.refl _ _))
            refine And.intro (fun β w hS => ?_) ?_
            ·
              refine WL.sub (σ' := [(33, .int .i64 (v : Int)), (35, .int .i64 b.params)]) ⟨rfl, rfl, trivial⟩ ?_
              refine WL.sub_ (c := (v : Int) - b.params) rfl rfl rfl rfl (rfl) (by omega) ?_
              exact WL.nil (N.cut () ⟨rfl, trivial⟩ (Below.refl _ _))
            refine And.intro (fun β w hS => ?_) ?_
            ·
              refine WL.sub (σ' := [(32, .int .i64 x11), (36, .int .i64 ((v : Int) - b.params))]) ⟨rfl, rfl, trivial⟩ ?_
              refine WL.bin rfl rfl rfl rfl rfl ?_
              refine WL.set 37 (v' := .bool true) rfl (by rw [hg12]) ?_
              exact WL.nil (N.cut () ⟨rfl, trivial⟩ (Below.refl _ _))
            refine And.intro (fun β w hS => ?_) ?_
            ·
              refine WL.sub (σ' := [(37, .bool true)]) ⟨rfl, trivial⟩ ?_
              refine WL.move rfl rfl rfl ?_
              exact WL.nil (N.cut () ⟨rfl, trivial⟩ (Below.refl _ _))
            refine And.intro (fun β w hS => ?_) ?_
            ·
              refine WL.sub (σ' := [(6, .int .i64 (v : Int)), (38, .bool true)]) ⟨rfl, rfl, trivial⟩ ?_
              refine WL.skp rfl rfl ?_
              exact WL.nil (N.cut () ⟨rfl, trivial⟩ (Below.refl _ _))
            refine And.intro (fun β w hS => ?_) ?_
            ·
              refine WL.sub (σ' := [(2, .pointer (some ⟨b1, 0, none⟩)), (38, .bool true)]) ⟨rfl, rfl, trivial⟩ ?_
              refine WL.skp rfl rfl ?_
              exact WL.nil (N.cut () ⟨rfl, trivial⟩ (Below.refl _ _))
            refine And.intro (fun β w hS => ?_) ?_
            ·
              refine WL.sub (σ' := [(38, .bool true), (40, undef)]) ⟨rfl, rfl, trivial⟩ ?_
              refine WL.skp rfl rfl ?_
              exact WL.nil (N.cut () ⟨rfl, trivial⟩ (Below.refl _ _))
            refine And.intro (fun β w hS => ?_) ?_
            ·
              refine WL.sub (σ' := [(38, .bool true), (39, undef), (41, undef)]) ⟨rfl, rfl, rfl, trivial⟩ ?_
              refine WL.skp rfl rfl ?_
              exact WL.nil (N.cut () ⟨rfl, trivial⟩ (Below.refl _ _))
            refine And.intro (fun β w hS => ?_) ?_
            ·
              refine WL.sub (σ' := [(38, .bool true), (42, undef)]) ⟨rfl, rfl, trivial⟩ ?_
              refine WL.pick (v := .bool true) rfl rfl rfl rfl rfl rfl ?_
              exact WL.nil (N.cut () ⟨rfl, trivial⟩ (Below.refl _ _))
            trivial
          ·
            clear hS; intro w20 β hS
            refine WL.sub (σ' := [(0, .agg #[.int .i64 b.params, .slice adi b.ins.length capi, .int .i64 b.fin.kind, .int .i64 b.fin.a, .int .i64 b.fin.to, .slice adp b.fin.args.length capp, .int .i64 b.fin.els, .slice adq b.fin.elses.length capq]), (1, .slice ada l.length capa), (2, .pointer (some ⟨b1, 0, none⟩)), (5, .slice adl ((last16 b).length) capl), (6, .int .i64 (v : Int)), (7, .int .i64 (q : Int)), (9, .agg #[.int .i64 b.params, .slice adi b.ins.length capi, .int .i64 b.fin.kind, .int .i64 b.fin.a, .int .i64 b.fin.to, .slice adp b.fin.args.length capp, .int .i64 b.fin.els, .slice adq b.fin.elses.length capq]), (10, .slice adl ((last16 b).length) capl), (11, .slice ada l.length capa), (12, .int .i64 (l.length : Int)), (13, .slice adl ((last16 b).length) capl), (14, .int .i64 ((last16 b).length : Int)), (15, .bool false), (16, .bool false), (17, .slice ada l.length capa), (18, .bool false), (19, .bool false), (20, .slice ada l.length capa), (21, .int .i64 (l.length : Int)), (22, .int .i64 (v : Int)), (23, .bool (decide ((v : Int) < (l.length : Int)))), (24, .int .i64 (v : Int)), (25, .int .i64 (v : Int)), (26, .int .i64 (q : Int)), (27, .bool (decide ((q : Int) < (v : Int)))), (28, .int .i64 (q : Int)), (29, .slice adl ((last16 b).length) capl), (30, .int .i64 (q : Int)), (31, .pointer (some ⟨b11, o11 + q * 1, none⟩)), (32, .int .i64 x11), (33, .int .i64 (v : Int)), (34, .pointer (some ⟨b1, 0, none⟩)), (35, .int .i64 b.params), (36, .int .i64 ((v : Int) - b.params)), (37, .bool true), (38, .bool true), (39, undef), (40, undef), (41, undef), (42, undef), (43, .bool true)]) ⟨rfl, rfl, rfl, rfl, rfl, rfl, rfl, rfl, rfl, rfl, rfl, rfl, rfl, rfl, rfl, rfl, rfl, rfl, rfl, rfl, rfl, rfl, rfl, rfl, rfl, rfl, rfl, rfl, rfl, rfl, rfl, rfl, rfl, rfl, rfl, rfl, rfl, rfl, rfl, rfl, rfl, trivial⟩ ?_
            refine WL.assign rfl rfl rfl ?_
            refine WL.nil ?_
            refine N.seq ?_
            refine W.seq ?_
            have hj21 : v < l.length := by omega
            obtain ⟨x21, hx21⟩ : ∃ zz, l[v]? = some zz := ⟨_, List.getElem?_eq_getElem hj21⟩
            obtain ⟨b21, o21, cs21, hE21, hr21, hl21, hc21, hQ21⟩ := hyd v _ hx21
            obtain ⟨rfl, hi21⟩ := hQ21
            have hj22 : q < l.length := by omega
            obtain ⟨x22, hx22⟩ : ∃ zz, l[q]? = some zz := ⟨_, List.getElem?_eq_getElem hj22⟩
            obtain ⟨b22, o22, cs22, hE22, hr22, hl22, hc22, hQ22⟩ := hyd q _ hx22
            obtain ⟨rfl, hi22⟩ := hQ22
            cases hg23 : (decide (x21 = x22))
            ·
              have hg23p : ¬ (x21 = x22) := by simpa using hg23
              refine W.drawL (by kernel_rfl) 12 [.q (.slice ada l.length capa), .q (.int .i64 (v : Int)), .q (.pointer (some ⟨b21, o21 + v * 1, none⟩)), .q (.int .i64 x21), .q (.slice ada l.length capa), .q (.int .i64 (q : Int)), .q (.pointer (some ⟨b22, o22 + q * 1, none⟩)), .q (.int .i64 x22), .q (.bool false), .q (.bool false), .q undef, .q (.bool false)] (by kernel_rfl) rfl [(0, .agg #[.int .i64 b.params, .slice adi b.ins.length capi, .int .i64 b.fin.kind, .int .i64 b.fin.a, .int .i64 b.fin.to, .slice adp b.fin.args.length capp, .int .i64 b.fin.els, .slice adq b.fin.elses.length capq]), (1, .slice ada l.length capa), (2, .pointer (some ⟨b1, 0, none⟩)), (5, .slice adl ((last16 b).length) capl), (6, .int .i64 (v : Int)), (7, .int .i64 (q : Int)), (8, .bool true), (9, .agg #[.int .i64 b.params, .slice adi b.ins.length capi, .int .i64 b.fin.kind, .int .i64 b.fin.a, .int .i64 b.fin.to, .slice adp b.fin.args.length capp, .int .i64 b.fin.els, .slice adq b.fin.elses.length capq]), (10, .slice adl ((last16 b).length) capl), (11, .slice ada l.length capa), (12, .int .i64 (l.length : Int)), (13, .slice adl ((last16 b).length) capl), (14, .int .i64 ((last16 b).length : Int)), (15, .bool false), (16, .bool false), (17, .slice ada l.length capa), (18, .bool false), (19, .bool false), (20, .slice ada l.length capa), (21, .int .i64 (l.length : Int)), (22, .int .i64 (v : Int)), (23, .bool (decide ((v : Int) < (l.length : Int)))), (24, .int .i64 (v : Int)), (25, .int .i64 (v : Int)), (26, .int .i64 (q : Int)), (27, .bool (decide ((q : Int) < (v : Int)))), (28, .int .i64 (q : Int)), (29, .slice adl ((last16 b).length) capl), (30, .int .i64 (q : Int)), (31, .pointer (some ⟨b11, o11 + q * 1, none⟩)), (32, .int .i64 x11), (33, .int .i64 (v : Int)), (34, .pointer (some ⟨b1, 0, none⟩)), (35, .int .i64 b.params), (36, .int .i64 ((v : Int) - b.params)), (37, .bool true), (38, .bool true), (39, undef), (40, undef), (41, undef), (42, undef), (43, .bool true)] ⟨rfl, rfl, rfl, rfl, rfl, rfl, rfl, rfl, rfl, rfl, rfl, rfl, rfl, rfl, rfl, rfl, rfl, rfl, rfl, rfl, rfl, rfl, rfl, rfl, rfl, rfl, rfl, rfl, rfl, rfl, rfl, rfl, rfl, rfl, rfl, rfl, rfl, rfl, rfl, rfl, rfl, rfl, trivial⟩ rfl hS ?_ ?_
              ·
                refine And.intro (fun β w hS => ?_) ?_
                ·
                  refine WL.sub (σ' := [(1, .slice ada l.length capa)]) ⟨rfl, trivial⟩ ?_
                  refine WL.move rfl rfl rfl ?_
                  exact WL.nil (N.cut () ⟨rfl, trivial⟩ (Below.refl _ _))
                refine And.intro (fun β w hS => ?_) ?_
                ·
                  refine WL.sub (σ' := [(6, .int .i64 (v : Int))]) ⟨rfl, trivial⟩ ?_
                  refine WL.move rfl rfl rfl ?_
                  exact WL.nil (N.cut () ⟨rfl, trivial⟩ (Below.refl _ _))
                refine And.intro (fun β w hS => ?_) ?_
                ·
                  refine WL.sub (σ' := [(44, .slice ada l.length capa), (45, .int .i64 (v : Int))]) ⟨rfl, rfl, trivial⟩ ?_
                  refine WL.indexAddrE (j := v) Try.underlying29 isz_3 rfl rfl rfl rfl hj21 hE21 ?_
                  exact WL.nil (N.cut () ⟨rfl, trivial⟩ (Below.refl _ _))
                refine And.intro (fun β w hS => ?_) ?_
                ·
                  refine WL.sub (σ' := [(46, .pointer (some ⟨b21, o21 + v * 1, none⟩))]) ⟨rfl, trivial⟩ ?_
                  refine WL.load1 (v := .int .i64 x21) one_3 rfl rfl rfl (hS.roCells hr21 hc21 0 _ rfl) ?_
                  exact WL.nil (N.cut () ⟨rfl, trivial⟩ (Below.refl _ _))
                refine And.intro (fun β w hS => ?_) ?_
                ·
                  refine WL.sub (σ' := [(1, .slice ada l.length capa)]) ⟨rfl, trivial⟩ ?_
                  refine WL.move rfl rfl rfl ?_
                  exact WL.nil (N.cut () ⟨rfl, trivial⟩ (Below.refl _ _))
                refine And.intro (fun β w hS => ?_) ?_
                ·
                  refine WL.sub (σ' := [(7, .int .i64 (q : Int))]) ⟨rfl, trivial⟩ ?_
                  refine WL.move rfl rfl rfl ?_
                  exact WL.nil (N.cut () ⟨rfl, trivial⟩ (Below.refl _ _))
                refine And.intro (fun β w hS => ?_) ?_
                ·
                  refine WL.sub (σ' := [(48, .slice ada l.length capa), (49, .int .i64 (q : Int))]) ⟨rfl, rfl, trivial⟩ ?_
                  refine WL.indexAddrE (j := q) Try.underlying29 isz_3 rfl rfl rfl rfl hj22 hE22 ?_
                  exact WL.nil (N.cut () ⟨rfl, trivial⟩ (Below.refl _ _))
                refine And.intro (fun β w hS => ?_) ?_
                ·
                  refine WL.sub (σ' := [(50, .pointer (some ⟨b22, o22 + q * 1, none⟩))]) ⟨rfl, trivial⟩ ?_
                  refine WL.load1 (v := .int .i64 x22) one_3 rfl rfl rfl (hS.roCells hr22 hc22 0 _ rfl) ?_
                  exact WL.nil (N.cut () ⟨rfl, trivial⟩ (Below.refl _ _))
                refine And.intro (fun β w hS => ?_) ?_
                ·
                  refine WL.sub (σ' := [(47, .int .i64 x21), (51, .int .i64 x22)]) ⟨rfl, rfl, trivial⟩ ?_
                  refine WL.bin rfl rfl rfl rfl rfl ?_
                  refine WL.set 52 (v' := .bool false) rfl (by rw [hg23]) ?_
                  exact WL.nil (N.cut () ⟨rfl, trivial⟩ (Below.refl _ _))
                refine And.intro (fun β w hS => ?_) ?_
                ·
                  refine WL.sub (σ' := [(52, .bool false)]) ⟨rfl, trivial⟩ ?_
                  refine WL.move rfl rfl rfl ?_
                  exact WL.nil (N.cut () ⟨rfl, trivial⟩ (Below.refl _ _))
                refine And.intro (fun β w hS => ?_) ?_
                ·
                  refine WL.sub (σ' := [(8, .bool true), (53, .bool false)]) ⟨rfl, rfl, trivial⟩ ?_
                  refine WL.skp rfl rfl ?_
                  exact WL.nil (N.cut () ⟨rfl, trivial⟩ (Below.refl _ _))
                refine And.intro (fun β w hS => ?_) ?_
                ·
                  refine WL.sub (σ' := [(53, .bool false), (54, undef)]) ⟨rfl, rfl, trivial⟩ ?_
                  refine WL.pick (v := .bool false) rfl rfl rfl rfl rfl rfl ?_
                  exact WL.nil (N.cut () ⟨rfl, trivial⟩ (Below.refl _ _))
                trivial
              ·
                clear hS; intro w24 β hS
                refine WL.sub (σ' := [(0, .agg #[.int .i64 b.params, .slice adi b.ins.length capi, .int .i64 b.fin.kind, .int .i64 b.fin.a, .int .i64 b.fin.to, .slice adp b.fin.args.length capp, .int .i64 b.fin.els, .slice adq b.fin.elses.length capq]), (1, .slice ada l.length capa), (2, .pointer (some ⟨b1, 0, none⟩)), (5, .slice adl ((last16 b).length) capl), (6, .int .i64 (v : Int)), (7, .int .i64 (q : Int)), (8, .bool true), (9, .agg #[.int .i64 b.params, .slice adi b.ins.length capi, .int .i64 b.fin.kind, .int .i64 b.fin.a, .int .i64 b.fin.to, .slice adp b.fin.args.length capp, .int .i64 b.fin.els, .slice adq b.fin.elses.length capq]), (10, .slice adl ((last16 b).length) capl), (11, .slice ada l.length capa), (12, .int .i64 (l.length : Int)), (13, .slice adl ((last16 b).length) capl), (14, .int .i64 ((last16 b).length : Int)), (15, .bool false), (16, .bool false), (17, .slice ada l.length capa), (18, .bool false), (19, .bool false), (20, .slice ada l.length capa), (21, .int .i64 (l.length : Int)), (22, .int .i64 (v : Int)), (23, .bool (decide ((v : Int) < (l.length : Int)))), (24, .int .i64 (v : Int)), (25, .int .i64 (v : Int)), (26, .int .i64 (q : Int)), (27, .bool (decide ((q : Int) < (v : Int)))), (28, .int .i64 (q : Int)), (29, .slice adl ((last16 b).length) capl), (30, .int .i64 (q : Int)), (31, .pointer (some ⟨b11, o11 + q * 1, none⟩)), (32, .int .i64 x11), (33, .int .i64 (v : Int)), (34, .pointer (some ⟨b1, 0, none⟩)), (35, .int .i64 b.params), (36, .int .i64 ((v : Int) - b.params)), (37, .bool true), (38, .bool true), (39, undef), (40, undef), (41, undef), (42, undef), (43, .bool true), (44, .slice ada l.length capa), (45, .int .i64 (v : Int)), (46, .pointer (some ⟨b21, o21 + v * 1, none⟩)), (47, .int .i64 x21), (48, .slice ada l.length capa), (49, .int .i64 (q : Int)), (50, .pointer (some ⟨b22, o22 + q * 1, none⟩)), (51, .int .i64 x22), (52, .bool false), (53, .bool false), (54, undef), (55, .bool false)]) ⟨rfl, rfl, rfl, rfl, rfl, rfl, rfl, rfl, rfl, rfl, rfl, rfl, rfl, rfl, rfl, rfl, rfl, rfl, rfl, rfl, rfl, rfl, rfl, rfl, rfl, rfl, rfl, rfl, rfl, rfl, rfl, rfl, rfl, rfl, rfl, rfl, rfl, rfl, rfl, rfl, rfl, rfl, rfl, rfl, rfl, rfl, rfl, rfl, rfl, rfl, rfl, rfl, rfl, rfl, trivial⟩ ?_
                refine WL.nil ?_
                refine N.seq ?_
                refine W.condF rfl ?_
                refine W.skip ?_
                refine N.blk ?_
                refine N.seq ?_
                refine W.region ?_
                refine WL.add (c := (q : Int) + 1) rfl rfl rfl rfl (rfl) (by omega) ?_
                refine WL.move rfl rfl rfl ?_
                refine WL.nil ?_
                exact N.loop (q + 1) ⟨rfl, rfl, rfl, rfl, rfl, rfl, rfl, rfl, rfl, rfl, rfl, rfl, rfl, rfl, rfl, rfl, rfl, rfl, rfl, rfl, rfl, rfl, rfl, trivial⟩ ⟨hS, by omega⟩ (by first | omega | (simp only; omega))
            ·
              have hg23p : x21 = x22 := by simpa using hg23
              refine W.drawL (by kernel_rfl) 12 [.q (.slice ada l.length capa), .q (.int .i64 (v : Int)), .q (.pointer (some ⟨b21, o21 + v * 1, none⟩)), .q (.int .i64 x21), .q (.slice ada l.length capa), .q (.int .i64 (q : Int)), .q (.pointer (some ⟨b22, o22 + q * 1, none⟩)), .q (.int .i64 x22), .q (.bool true), .q (.bool true), .q (.bool true), .q (.bool true)] (by kernel_rfl) rfl [(0, .agg #[.int .i64 b.params, .slice adi b.ins.length capi, .int .i64 b.fin.kind, .int .i64 b.fin.a, .int .i64 b.fin.to, .slice adp b.fin.args.length capp, .int .i64 b.fin.els, .slice adq b.fin.elses.length capq]), (1, .slice ada l.length capa), (2, .pointer (some ⟨b1, 0, none⟩)), (5, .slice adl ((last16 b).length) capl), (6, .int .i64 (v : Int)), (7, .int .i64 (q : Int)), (8, .bool true), (9, .agg #[.int .i64 b.params, .slice adi b.ins.length capi, .int .i64 b.fin.kind, .int .i64 b.fin.a, .int .i64 b.fin.to, .slice adp b.fin.args.length capp, .int .i64 b.fin.els, .slice adq b.fin.elses.length capq]), (10, .slice adl ((last16 b).length) capl), (11, .slice ada l.length capa), (12, .int .i64 (l.length : Int)), (13, .slice adl ((last16 b).length) capl), (14, .int .i64 ((last16 b).length : Int)), (15, .bool false), (16, .bool false), (17, .slice ada l.length capa), (18, .bool false), (19, .bool false), (20, .slice ada l.length capa), (21, .int .i64 (l.length : Int)), (22, .int .i64 (v : Int)), (23, .bool (decide ((v : Int) < (l.length : Int)))), (24, .int .i64 (v : Int)), (25, .int .i64 (v : Int)), (26, .int .i64 (q : Int)), (27, .bool (decide ((q : Int) < (v : Int)))), (28, .int .i64 (q : Int)), (29, .slice adl ((last16 b).length) capl), (30, .int .i64 (q : Int)), (31, .pointer (some ⟨b11, o11 + q * 1, none⟩)), (32, .int .i64 x11), (33, .int .i64 (v : Int)), (34, .pointer (some ⟨b1, 0, none⟩)), (35, .int .i64 b.params), (36, .int .i64 ((v : Int) - b.params)), (37, .bool true), (38, .bool true), (39, undef), (40, undef), (41, undef), (42, undef), (43, .bool true)] ⟨rfl, rfl, rfl, rfl, rfl, rfl, rfl, rfl, rfl, rfl, rfl, rfl, rfl, rfl, rfl, rfl, rfl, rfl, rfl, rfl, rfl, rfl, rfl, rfl, rfl, rfl, rfl, rfl, rfl, rfl, rfl, rfl, rfl, rfl, rfl, rfl, rfl, rfl, rfl, rfl, rfl, rfl, trivial⟩ rfl hS ?_ ?_
              ·
                refine And.intro (fun β w hS => ?_) ?_
                ·
                  refine WL.sub (σ' := [(1, .slice ada l.length capa)]) ⟨rfl, trivial⟩ ?_
                  refine WL.move rfl rfl rfl ?_
                  exact WL.nil (N.cut () ⟨rfl, trivial⟩ (Below.refl _ _))
                refine And.intro (fun β w hS => ?_) ?_
                ·
                  refine WL.sub (σ' := [(6, .int .i64 (v : Int))]) ⟨rfl, trivial⟩ ?_
                  refine WL.move rfl rfl rfl ?_
                  exact WL.nil (N.cut () ⟨rfl, trivial⟩ (Below.refl _ _))
                refine And.intro (fun β w hS => ?_) ?_
                ·
                  refine WL.sub (σ' := [(44, .slice ada l.length capa), (45, .int .i64 (v : Int))]) ⟨rfl, rfl, trivial⟩ ?_
                  refine WL.indexAddrE (j := v) Try.underlying29 isz_3 rfl rfl rfl rfl hj21 hE21 ?_
                  exact WL.nil (N.cut () ⟨rfl, trivial⟩ (Below.refl _ _))
                refine And.intro (fun β w hS => ?_) ?_
                ·
                  refine WL.sub (σ' := [(46, .pointer (some ⟨b21, o21 + v * 1, none⟩))]) ⟨rfl, trivial⟩ ?_
                  refine WL.load1 (v := .int .i64 x21) one_3 rfl rfl rfl (hS.roCells hr21 hc21 0 _ rfl) ?_
                  exact WL.nil (N.cut () ⟨rfl, trivial⟩ (Below.refl _ _))
                refine And.intro (fun β w hS => ?_) ?_
                ·
                  refine WL.sub (σ' := [(1, .slice ada l.length capa)]) ⟨rfl, trivial⟩ ?_
                  refine WL.move rfl rfl rfl ?_
                  exact WL.nil (N.cut () ⟨rfl, trivial⟩ (Below.refl _ _))
                refine And.intro (fun β w hS => ?_) ?_
                ·
                  refine WL.sub (σ' := [(7, .int .i64 (q : Int))]) ⟨rfl, trivial⟩ ?_
                  refine WL.move rfl rfl rfl ?_
                  exact WL.nil (N.cut () ⟨rfl, trivial⟩ (Below.refl _ _))
                refine And.intro (fun β w hS => ?_) ?_
                ·
                  refine WL.sub (σ' := [(48, .slice ada l.length capa), (49, .int .i64 (q : Int))]) ⟨rfl, rfl, trivial⟩ ?_
                  refine WL.indexAddrE (j := q) Try.underlying29 isz_3 rfl rfl rfl rfl hj22 hE22 ?_
                  exact WL.nil (N.cut () ⟨rfl, trivial⟩ (Below.refl _ _))
                refine And.intro (fun β w hS => ?_) ?_
                ·
                  refine WL.sub (σ' := [(50, .pointer (some ⟨b22, o22 + q * 1, none⟩))]) ⟨rfl, trivial⟩ ?_
                  refine WL.load1 (v := .int .i64 x22) one_3 rfl rfl rfl (hS.roCells hr22 hc22 0 _ rfl) ?_
                  exact WL.nil (N.cut () ⟨rfl, trivial⟩ (Below.refl _ _))
                refine And.intro (fun β w hS => ?_) ?_
                ·
                  refine WL.sub (σ' := [(47, .int .i64 x21), (51, .int .i64 x22)]) ⟨rfl, rfl, trivial⟩ ?_
                  refine WL.bin rfl rfl rfl rfl rfl ?_
                  refine WL.set 52 (v' := .bool true) rfl (by rw [hg23]) ?_
                  exact WL.nil (N.cut () ⟨rfl, trivial⟩ (Below.refl _ _))
                refine And.intro (fun β w hS => ?_) ?_
                ·
                  refine WL.sub (σ' := [(52, .bool true)]) ⟨rfl, trivial⟩ ?_
                  refine WL.move rfl rfl rfl ?_
                  exact WL.nil (N.cut () ⟨rfl, trivial⟩ (Below.refl _ _))
                refine And.intro (fun β w hS => ?_) ?_
                ·
                  refine WL.sub (σ' := [(8, .bool true), (53, .bool true)]) ⟨rfl, rfl, trivial⟩ ?_
                  refine WL.move rfl rfl rfl ?_
                  exact WL.nil (N.cut () ⟨rfl, trivial⟩ (Below.refl _ _))
                refine And.intro (fun β w hS => ?_) ?_
                ·
                  refine WL.sub (σ' := [(53, .bool true), (54, .bool true)]) ⟨rfl, rfl, trivial⟩ ?_
                  refine WL.pick (v := .bool true) rfl rfl rfl rfl rfl rfl ?_
                  exact WL.nil (N.cut () ⟨rfl, trivial⟩ (Below.refl _ _))
                trivial
              ·
                clear hS; intro w25 β hS
                refine WL.sub (σ' := [(0, .agg #[.int .i64 b.params, .slice adi b.ins.length capi, .int .i64 b.fin.kind, .int .i64 b.fin.a, .int .i64 b.fin.to, .slice adp b.fin.args.length capp, .int .i64 b.fin.els, .slice adq b.fin.elses.length capq]), (1, .slice ada l.length capa), (2, .pointer (some ⟨b1, 0, none⟩)), (5, .slice adl ((last16 b).length) capl), (6, .int .i64 (v : Int)), (7, .int .i64 (q : Int)), (8, .bool true), (9, .agg #[.int .i64 b.params, .slice adi b.ins.length capi, .int .i64 b.fin.kind, .int .i64 b.fin.a, .int .i64 b.fin.to, .slice adp b.fin.args.length capp, .int .i64 b.fin.els, .slice adq b.fin.elses.length capq]), (10, .slice adl ((last16 b).length) capl), (11, .slice ada l.length capa), (12, .int .i64 (l.length : Int)), (13, .slice adl ((last16 b).length) capl), (14, .int .i64 ((last16 b).length : Int)), (15, .bool false), (16, .bool false), (17, .slice ada l.length capa), (18, .bool false), (19, .bool false), (20, .slice ada l.length capa), (21, .int .i64 (l.length : Int)), (22, .int .i64 (v : Int)), (23, .bool (decide ((v : Int) < (l.length : Int)))), (24, .int .i64 (v : Int)), (25, .int .i64 (v : Int)), (26, .int .i64 (q : Int)), (27, .bool (decide ((q : Int) < (v : Int)))), (28, .int .i64 (q : Int)), (29, .slice adl ((last16 b).length) capl), (30, .int .i64 (q : Int)), (31, .pointer (some ⟨b11, o11 + q * 1, none⟩)), (32, .int .i64 x11), (33, .int .i64 (v : Int)), (34, .pointer (some ⟨b1, 0, none⟩)), (35, .int .i64 b.params), (36, .int .i64 ((v : Int) - b.params)), (37, .bool true), (38, .bool true), (39, undef), (40, undef), (41, undef), (42, undef), (43, .bool true), (44, .slice ada l.length capa), (45, .int .i64 (v : Int)), (46, .pointer (some ⟨b21, o21 + v * 1, none⟩)), (47, .int .i64 x21), (48, .slice ada l.length capa), (49, .int .i64 (q : Int)), (50, .pointer (some ⟨b22, o22 + q * 1, none⟩)), (51, .int .i64 x22), (52, .bool true), (53, .bool true), (54, .bool true), (55, .bool true)]) ⟨rfl, rfl, rfl, rfl, rfl, rfl, rfl, rfl, rfl, rfl, rfl, rfl, rfl, rfl, rfl, rfl, rfl, rfl, rfl, rfl, rfl, rfl, rfl, rfl, rfl, rfl, rfl, rfl, rfl, rfl, rfl, rfl, rfl, rfl, rfl, rfl, rfl, rfl, rfl, rfl, rfl, rfl, rfl, rfl, rfl, rfl, rfl, rfl, rfl, rfl, rfl, rfl, rfl, rfl, trivial⟩ ?_
                refine WL.nil ?_
                refine N.seq ?_
                refine W.condT rfl ?_
                refine W.seq ?_
                refine W.region ?_
                refine WL.assign rfl rfl rfl ?_
                refine WL.nil ?_
                refine N.seq ?_
                refine Fin.ret1 rfl (v := .bool false) rfl ?_
                have hap := hA.ap v q _ _ (by omega) hx21 (by rw [hg23p]; exact hx22) hx11
                exact (by omega : False).elim
      ·
        have hc10p : ¬ ((q : Int) < (v : Int)) := by simpa using hc10
        refine W.exit ?_
        refine X.seq ?_
        refine X.loop ?_
        refine X.blk ?_
        refine N.blk ?_
        refine N.seq ?_
        refine W.region ?_
        refine WL.add (c := (v : Int) + 1) rfl rfl rfl rfl (rfl) (by omega) ?_
        refine WL.move rfl rfl rfl ?_
        refine WL.nil ?_
        exact N.loop (v + 1) ⟨rfl, rfl, rfl, rfl, rfl, rfl, rfl, rfl, rfl, rfl, rfl, rfl, rfl, rfl, rfl, rfl, rfl, rfl, trivial⟩ ⟨hS, by omega⟩ (by first | omega | (simp only; omega))
    ·
      have hc8p : ¬ ((v : Int) < (l.length : Int)) := by simpa using hc8
      refine W.exit ?_
      refine X.seq ?_
      refine X.loop ?_
      refine X.blk ?_
      refine N.seq ?_
      refine W.seq ?_
      refine W.region ?_
      refine WL.assign rfl rfl rfl ?_
      refine WL.nil ?_
      refine N.seq ?_
      refine Fin.ret1 rfl (v := .bool true) rfl ?_
      exact ⟨rfl, hS.below⟩
  ·
    have hg5p : ¬ ((l.length : Int) = ((last16 b).length : Int)) := by simpa using hg5
    refine WL.skp rfl rfl ?_
    refine WL.skp rfl rfl ?_
    refine WL.pick (v := .bool true) rfl rfl rfl rfl rfl rfl ?_
    refine WL.nil ?_
    refine N.seq ?_
    refine W.condT rfl ?_
    refine W.seq ?_
    refine W.region ?_
    refine WL.assign rfl rfl rfl ?_
    refine WL.nil ?_
    refine N.seq ?_
    refine Fin.ret1 rfl (v := .bool false) rfl ?_
    exact absurd hlen (by omega)

end Go.Proofs.Ytkgmijhcaclpoaa
