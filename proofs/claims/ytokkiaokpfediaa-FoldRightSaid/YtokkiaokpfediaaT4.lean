/-
  FoldTwice: the walk and the plain law. No condition beyond those that each theorem states.
-/
import Derived.Test.YtokkiaokpfediaaT3
import Derived.Test.YtokkiaokpfediaaA11
namespace Go.Proofs.Ytokkiaokpfediaa
open Go.RowKit

theorem valsF_drop {l : List (Int × Bool)} {k : Int × Bool} {r : List DInst} : (valsF (l ++ [k]) r).drop l.length = k :: (valsF (l ++ [k]) r).drop (l ++ [k]).length := by
  have hlt : l.length < (valsF (l ++ [k]) r).length := by rw [valsF_length]; simp; omega
  rw [List.drop_eq_getElem_cons hlt]
  congr 1
  · have h1 := valsF_pre r (l ++ [k]) l.length (by simp)
    rw [List.getElem?_eq_getElem hlt, List.getElem?_append_right (Nat.le_refl _)] at h1
    simpa using h1
  · simp
theorem stepK_c {l : List (Int × Bool)} {x : DInst} : stepK l (if (stepK l x).2 = true then cInst (stepK l x).1 else x) = stepK l x := by
  by_cases h : (stepK l x).2 = true
  · rw [if_pos h]
    have : stepK l (cInst (stepK l x).1) = ((stepK l x).1, true) := by simp [stepK, cInst]
    rw [this, ← h]
  · rw [if_neg h]
theorem valsF_fold : ∀ (ins : List DInst) (l : List (Int × Bool)), valsF l (foldIns ins ((valsF l ins).drop l.length)) = valsF l ins
  | [], l => by simp [foldIns]
  | x :: r, l => by
    rw [valsF, valsF_drop]
    simp only [foldIns, List.zipWith_cons_cons]
    rw [valsF, stepK_c]
    exact valsF_fold r (l ++ [stepK l x])
/-- What was known is known still. -/
theorem vals_fold (b : DBlock) : vals (foldBlock b) = vals b := by
  have h := valsF_fold b.ins (vals0 b)
  rw [show (vals0 b).length = b.params.toNat by simp [vals0]] at h
  exact h
theorem foldIns_twice : ∀ (ins : List DInst) (ks : List (Int × Bool)), foldIns (foldIns ins ks) ks = foldIns ins ks
  | [], _ => by simp [foldIns]
  | _ :: _, [] => by simp [foldIns]
  | x :: r, k :: ks => by
    have h := foldIns_twice r ks
    simp only [foldIns, List.zipWith_cons_cons] at h ⊢
    rw [h]
    congr 1
    split <;> simp_all
theorem foldTerm_twice (ks : List (Int × Bool)) (t : DTerm) : foldTerm ks (foldTerm ks t) = foldTerm ks t := by
  by_cases h : t.kind = 2 ∧ (katG ks t.a).2 = true
  · have h1 : (foldTerm ks t).kind = 1 := by unfold foldTerm; rw [if_pos h]; split <;> rfl
    generalize foldTerm ks t = u at h1 ⊢
    unfold foldTerm
    rw [if_neg (by rw [h1]; omega)]
  · have h1 : foldTerm ks t = t := by unfold foldTerm; rw [if_neg h]
    rw [h1, h1]
/-- A second time nothing changes. -/
theorem fold_twice (b : DBlock) : foldBlock (foldBlock b) = foldBlock b := by
  have e : vals (foldBlock b) = vals b := vals_fold b
  show DBlock.mk _ (foldIns (foldBlock b).ins _) (foldTerm (vals (foldBlock b)) (foldBlock b).fin) = _
  rw [e]
  show DBlock.mk b.params (foldIns (foldIns b.ins ((vals b).drop b.params.toNat)) ((vals b).drop b.params.toNat)) (foldTerm (vals b) (foldTerm (vals b) b.fin)) = _
  rw [foldIns_twice, foldTerm_twice]
  rfl
theorem alikeRoW {w w' : World} (hb : Below w.heap.size w w') : Alike (roW w) w (roW w') w' := fun b h => ⟨Nat.lt_of_lt_of_le h hb.size, hb.block b h⟩
theorem stays_bools {ks : List Bool} : Stays fun v u => SlV (roW u) u 1 BoolC v ks := fun _ _ _ h hb => h.keep (alikeRoW hb) fun _ _ q => q
theorem stays_block {b : DBlock} : Stays fun v u => ∃ cs, v = .agg cs.toArray ∧ BlockC (roW u) u cs b := fun _ _ _ ⟨cs, e, h⟩ hb => ⟨cs, e, h.keep (alikeRoW hb)⟩
theorem toRoW {w0 ws w : World} {ro : Nat → Prop} {L : List (Nat × Obj)} {Rs : List Row} (h : St w0 ws w ro L Rs) : Alike ro ws (roW w) w := fun b hb => h.snap b hb

theorem foldTwice_ret (b : DBlock) (cs : List Value) {w : World} {ro : Nat → Prop} (hro : ∀ b, ro b → b < w.heap.size) (hb : BlockC ro w cs b) (hl : b.ins.length ≤ 1954687338211) : Ret Try.prog 4 #[.agg cs.toArray] w fun v w' => v = .bool true ∧ Below w.heap.size w w' := by
  obtain ⟨si, tsx, rfl, hin, hfin, hpar⟩ := id hb
  obtain ⟨adi, capi, rfl, hina, hinb, hinc, hind⟩ := id hin
  have hinm : b.ins.length ≤ 9223372036854775807 := by have h1 := hina; have h2 := hinb; unfold maxLen at h2; omega
  obtain ⟨sp, sq, rfl, ht1, ht2, htk, hta, htt, hte⟩ := id hfin
  obtain ⟨adp, capp, rfl, htpa, htpb, htpc, htpd⟩ := id ht1
  have htpm : b.fin.args.length ≤ 9223372036854775807 := by have h1 := htpa; have h2 := htpb; unfold maxLen at h2; omega
  obtain ⟨adq, capq, rfl, htqa, htqb, htqc, htqd⟩ := id ht2
  have htqm : b.fin.elses.length ≤ 9223372036854775807 := by have h1 := htqa; have h2 := htqb; unfold maxLen at h2; omega
  refine Ret.enter (P := Try.prog) (n := 49) (args := [.agg #[.int .i64 b.params, .slice adi b.ins.length capi, .int .i64 b.fin.kind, .int .i64 b.fin.a, .int .i64 b.fin.to, .slice adp b.fin.args.length capp, .int .i64 b.fin.els, .slice adq b.fin.elses.length capq]]) (σ := [(0, .agg #[.int .i64 b.params, .slice adi b.ins.length capi, .int .i64 b.fin.kind, .int .i64 b.fin.a, .int .i64 b.fin.to, .slice adp b.fin.args.length capp, .int .i64 b.fin.els, .slice adq b.fin.elses.length capq])]) Try.func4 rfl rfl rfl rfl ?_
  have hS := St.start (ro := ro) hro
  refine W.seq ?_
  refine W.region ?_
  refine WL.box (v := .agg #[.int .i64 b.params, .slice adi b.ins.length capi, .int .i64 b.fin.kind, .int .i64 b.fin.a, .int .i64 b.fin.to, .slice adp b.fin.args.length capp, .int .i64 b.fin.els, .slice adq b.fin.elses.length capq]) (cs := [.int .i64 b.params, .slice adi b.ins.length capi, .int .i64 b.fin.kind, .int .i64 b.fin.a, .int .i64 b.fin.to, .slice adp b.fin.args.length capp, .int .i64 b.fin.els, .slice adq b.fin.elses.length capq]) rfl rfl rfl rfl hS ?_
  clear hS; intro w2 b1 hb_b1 hS
  refine WL.assign rfl rfl rfl ?_
  refine WL.nil ?_
  refine N.seq ?_
  refine W.seq ?_
  refine W.region ?_
  refine WL.callF (vs := []) Try.func8 (by kernel_rfl) rfl rfl rfl (shown_ret (ro := ro) (fun b hb => (hS.snap b hb).1)) ?_
  rintro v w3 ⟨rfl, hbl⟩
  replace hS := hS.grow hbl
  refine WL.assign rfl rfl rfl ?_
  refine WL.nil ?_
  refine N.seq ?_
  refine W.seq ?_
  refine W.seq ?_
  refine W.region ?_
  refine WL.fieldAddr fo_29_0 rfl rfl rfl ?_
  refine WL.load1 (v := .int .i64 b.params) one_3 rfl rfl rfl (hS.cell 0 rfl rfl) ?_
  refine WL.bin rfl rfl rfl rfl rfl ?_
  refine WL.move rfl rfl rfl ?_
  cases hg4 : (decide (b.params < 0))
  ·
    have hg4p : ¬ (b.params < 0) := by simpa using hg4
    refine WL.fieldAddr fo_29_0 rfl rfl rfl ?_
    refine WL.load1 (v := .int .i64 b.params) one_3 rfl rfl rfl (hS.cell 0 rfl rfl) ?_
    refine WL.bin rfl rfl rfl rfl rfl ?_
    refine WL.pick (v := .bool (decide (1000 < b.params))) rfl rfl rfl rfl rfl rfl ?_
    refine WL.nil ?_
    refine N.seq ?_
    refine W.cond rfl (fun hc5 => ?_) (fun hc5 => ?_)
    ·
      have hc5p : 1000 < b.params := by simpa using hc5
      refine W.seq ?_
      refine W.region ?_
      refine WL.move rfl rfl rfl ?_
      refine WL.assign rfl rfl rfl ?_
      refine WL.nil ?_
      refine N.seq ?_
      refine Fin.ret1 rfl (v := .bool true) rfl ?_
      exact ⟨rfl, hS.below⟩
    ·
      have hc5p : ¬ (1000 < b.params) := by simpa using hc5
      refine W.skip ?_
      refine N.seq ?_
      refine W.seq ?_
      refine W.region ?_
      refine WL.loadN (cs := [.int .i64 b.params, .slice adi b.ins.length capi, .int .i64 b.fin.kind, .int .i64 b.fin.a, .int .i64 b.fin.to, .slice adp b.fin.args.length capp, .int .i64 b.fin.els, .slice adq b.fin.elses.length capq]) agg_29 rfl rfl rfl rfl (hS.cells 0 (m := 8) rfl rfl) ?_
      refine WL.callF (vs := [.agg #[.int .i64 b.params, .slice adi b.ins.length capi, .int .i64 b.fin.kind, .int .i64 b.fin.a, .int .i64 b.fin.to, .slice adp b.fin.args.length capp, .int .i64 b.fin.els, .slice adq b.fin.elses.length capq]]) Try.func9 (by kernel_rfl) rfl rfl rfl (block_ret b _ (ro := ro) (fun b hb => (hS.snap b hb).1) (hb.keep hS.alike) (by omega) (by omega)) ?_
      rintro v w6 ⟨csr, rfl, hB, hbl⟩
      have hal := hS.alikeTo hbl (ro' := roFrom ro w3 w6) (fun b hb => .inl hb)
      replace hS := hS.readNew hbl
      have hb2 := hb.keep hal
      obtain ⟨B, hBe⟩ : ∃ z, z = foldBlock b := ⟨_, rfl⟩
      rw [← hBe] at hB
      have hBl : B.ins.length = b.ins.length := by rw [hBe]; exact fold_length
      have hBp : B.params = b.params := by rw [hBe]; rfl
      have hB2 : vals B = vals b := by rw [hBe]; exact vals_fold b
      have hB3 : foldBlock B = B := by rw [hBe]; exact fold_twice b
      obtain ⟨sir, tsxr, rfl, hinr, hfinr, hparr⟩ := id hB
      obtain ⟨adir, capir, rfl, hinra, hinrb, hinrc, hinrd⟩ := id hinr
      have hinrm : B.ins.length ≤ 9223372036854775807 := by have h1 := hinra; have h2 := hinrb; unfold maxLen at h2; omega
      obtain ⟨spr, sqr, rfl, ht1r, ht2r, htkr, htar, httr, hter⟩ := id hfinr
      obtain ⟨adpr, cappr, rfl, htpra, htprb, htprc, htprd⟩ := id ht1r
      have htprm : B.fin.args.length ≤ 9223372036854775807 := by have h1 := htpra; have h2 := htprb; unfold maxLen at h2; omega
      obtain ⟨adqr, capqr, rfl, htqra, htqrb, htqrc, htqrd⟩ := id ht2r
      have htqrm : B.fin.elses.length ≤ 9223372036854775807 := by have h1 := htqra; have h2 := htqrb; unfold maxLen at h2; omega
      refine WL.alloc (tyZero_spec zer_29) rfl rfl hS ?_
      clear hS; intro w8 b7 hb_b7 hS
      refine WL.store (cs := [.int .i64 B.params, .slice adir B.ins.length capir, .int .i64 B.fin.kind, .int .i64 B.fin.a, .int .i64 B.fin.to, .slice adpr B.fin.args.length cappr, .int .i64 B.fin.els, .slice adqr B.fin.elses.length capqr]) (c' := #[.int .i64 B.params, .slice adir B.ins.length capir, .int .i64 B.fin.kind, .int .i64 B.fin.a, .int .i64 B.fin.to, .slice adpr B.fin.args.length cappr, .int .i64 B.fin.els, .slice adqr B.fin.elses.length capqr]) (L' := [(b7, .cells #[.int .i64 B.params, .slice adir B.ins.length capir, .int .i64 B.fin.kind, .int .i64 B.fin.a, .int .i64 B.fin.to, .slice adpr B.fin.args.length cappr, .int .i64 B.fin.els, .slice adqr B.fin.elses.length capqr] 29 (0, 0)), (b1, .cells #[.int .i64 b.params, .slice adi b.ins.length capi, .int .i64 b.fin.kind, .int .i64 b.fin.a, .int .i64 b.fin.to, .slice adp b.fin.args.length capp, .int .i64 b.fin.els, .slice adq b.fin.elses.length capq] 29 (0, 0))]) 0 rfl rfl rfl rfl siz_29 rfl rfl rfl rfl rfl hS ?_
      clear hS; intro w9 hS
      refine WL.nil ?_
      refine N.seq ?_
      refine W.seq ?_
      refine W.drawP (by kernel_rfl) 5 [(fun v _ => v = .agg #[.int .i64 B.params, .slice adir B.ins.length capir, .int .i64 B.fin.kind, .int .i64 B.fin.a, .int .i64 B.fin.to, .slice adpr B.fin.args.length cappr, .int .i64 B.fin.els, .slice adqr B.fin.elses.length capqr]), (fun v u => SlV (roW u) u 1 BoolC v ((vals B).map (·.2))), (fun v _ => v = .agg #[.int .i64 b.params, .slice adi b.ins.length capi, .int .i64 b.fin.kind, .int .i64 b.fin.a, .int .i64 b.fin.to, .slice adp b.fin.args.length capp, .int .i64 b.fin.els, .slice adq b.fin.elses.length capq]), (fun v u => SlV (roW u) u 1 BoolC v ((vals b).map (·.2))), (fun v _ => v = .bool true)] (by kernel_rfl) rfl (by kernel_rfl) [(0, .agg #[.int .i64 b.params, .slice adi b.ins.length capi, .int .i64 b.fin.kind, .int .i64 b.fin.a, .int .i64 b.fin.to, .slice adp b.fin.args.length capp, .int .i64 b.fin.els, .slice adq b.fin.elses.length capq]), (1, .pointer (some ⟨b1, 0, none⟩)), (2, .bool false), (3, .bool true), (4, .pointer (some ⟨b7, 0, none⟩)), (6, .bool true), (7, .pointer (some ⟨b1, 0, none⟩)), (8, .int .i64 b.params), (9, .bool false), (10, .bool false), (11, .pointer (some ⟨b1, 0, none⟩)), (12, .int .i64 b.params), (13, .bool (decide (1000 < b.params))), (14, .bool (decide (1000 < b.params))), (16, .agg #[.int .i64 b.params, .slice adi b.ins.length capi, .int .i64 b.fin.kind, .int .i64 b.fin.a, .int .i64 b.fin.to, .slice adp b.fin.args.length capp, .int .i64 b.fin.els, .slice adq b.fin.elses.length capq]), (17, .agg #[.int .i64 B.params, .slice adir B.ins.length capir, .int .i64 B.fin.kind, .int .i64 B.fin.a, .int .i64 B.fin.to, .slice adpr B.fin.args.length cappr, .int .i64 B.fin.els, .slice adqr B.fin.elses.length capqr])] ⟨rfl, rfl, rfl, rfl, rfl, rfl, rfl, rfl, rfl, rfl, rfl, rfl, rfl, rfl, rfl, rfl, trivial⟩ rfl ⟨stays_eq, stays_bools, stays_eq, stays_bools, stays_eq, trivial⟩ ?_ ?_
      ·
        refine And.intro (fun β wd hb hD => ?_) ?_
        ·
          refine WL.sub (σ' := [(4, .pointer (some ⟨b7, 0, none⟩))]) ⟨rfl, trivial⟩ ?_
          have hS := hS.grow hb
          refine WL.loadN (cs := [.int .i64 B.params, .slice adir B.ins.length capir, .int .i64 B.fin.kind, .int .i64 B.fin.a, .int .i64 B.fin.to, .slice adpr B.fin.args.length cappr, .int .i64 B.fin.els, .slice adqr B.fin.elses.length capqr]) agg_29 rfl rfl rfl rfl (hS.cells 0 (m := 8) rfl rfl) ?_
          exact WL.nil (N.cut (.agg #[.int .i64 B.params, .slice adir B.ins.length capir, .int .i64 B.fin.kind, .int .i64 B.fin.a, .int .i64 B.fin.to, .slice adpr B.fin.args.length cappr, .int .i64 B.fin.els, .slice adqr B.fin.elses.length capqr]) ⟨rfl, trivial⟩ ⟨(Below.refl _ _), rfl⟩)
        refine And.intro (fun β wd hb hD => ?_) ?_
        ·
          obtain ⟨hp0, _⟩ := hD
          replace hp0 : β 0 = .agg #[.int .i64 B.params, .slice adir B.ins.length capir, .int .i64 B.fin.kind, .int .i64 B.fin.a, .int .i64 B.fin.to, .slice adpr B.fin.args.length cappr, .int .i64 B.fin.els, .slice adqr B.fin.elses.length capqr] := hp0
          refine WL.sub (σ' := [(18, .agg #[.int .i64 B.params, .slice adir B.ins.length capir, .int .i64 B.fin.kind, .int .i64 B.fin.a, .int .i64 B.fin.to, .slice adpr B.fin.args.length cappr, .int .i64 B.fin.els, .slice adqr B.fin.elses.length capqr])]) ⟨congrArg some hp0, trivial⟩ ?_
          have hS := hS.grow hb
          refine WL.callF (vs := [.agg #[.int .i64 B.params, .slice adir B.ins.length capir, .int .i64 B.fin.kind, .int .i64 B.fin.a, .int .i64 B.fin.to, .slice adpr B.fin.args.length cappr, .int .i64 B.fin.els, .slice adqr B.fin.elses.length capqr]]) Try.func12 (by kernel_rfl) rfl rfl rfl (known_ret B _ (ro := (roFrom ro w3 w6)) (fun b hb => (hS.snap b hb).1) (hB.keep hS.alike) (by omega) (by omega)) ?_
          rintro v w10 ⟨hks, hbl⟩
          replace hS := hS.grow hbl
          exact WL.nil (N.cut v ⟨rfl, trivial⟩ ⟨hbl, hks.keep (fun x hx => ⟨hx.2, rfl⟩) (fun _ _ h => h)⟩)
        refine And.intro (fun β wd hb hD => ?_) ?_
        ·
          refine WL.sub (σ' := [(1, .pointer (some ⟨b1, 0, none⟩))]) ⟨rfl, trivial⟩ ?_
          have hS := hS.grow hb
          refine WL.loadN (cs := [.int .i64 b.params, .slice adi b.ins.length capi, .int .i64 b.fin.kind, .int .i64 b.fin.a, .int .i64 b.fin.to, .slice adp b.fin.args.length capp, .int .i64 b.fin.els, .slice adq b.fin.elses.length capq]) agg_29 rfl rfl rfl rfl (hS.cells 1 (m := 8) rfl rfl) ?_
          exact WL.nil (N.cut (.agg #[.int .i64 b.params, .slice adi b.ins.length capi, .int .i64 b.fin.kind, .int .i64 b.fin.a, .int .i64 b.fin.to, .slice adp b.fin.args.length capp, .int .i64 b.fin.els, .slice adq b.fin.elses.length capq]) ⟨rfl, trivial⟩ ⟨(Below.refl _ _), rfl⟩)
        refine And.intro (fun β wd hb hD => ?_) ?_
        ·
          obtain ⟨hp2, _, _⟩ := hD
          replace hp2 : β 2 = .agg #[.int .i64 b.params, .slice adi b.ins.length capi, .int .i64 b.fin.kind, .int .i64 b.fin.a, .int .i64 b.fin.to, .slice adp b.fin.args.length capp, .int .i64 b.fin.els, .slice adq b.fin.elses.length capq] := hp2
          refine WL.sub (σ' := [(20, .agg #[.int .i64 b.params, .slice adi b.ins.length capi, .int .i64 b.fin.kind, .int .i64 b.fin.a, .int .i64 b.fin.to, .slice adp b.fin.args.length capp, .int .i64 b.fin.els, .slice adq b.fin.elses.length capq])]) ⟨congrArg some hp2, trivial⟩ ?_
          have hS := hS.grow hb
          refine WL.callF (vs := [.agg #[.int .i64 b.params, .slice adi b.ins.length capi, .int .i64 b.fin.kind, .int .i64 b.fin.a, .int .i64 b.fin.to, .slice adp b.fin.args.length capp, .int .i64 b.fin.els, .slice adq b.fin.elses.length capq]]) Try.func12 (by kernel_rfl) rfl rfl rfl (known_ret b _ (ro := (roFrom ro w3 w6)) (fun b hb => (hS.snap b hb).1) (hb2.keep hS.alike) (by omega) (by omega)) ?_
          rintro v w11 ⟨hks, hbl⟩
          replace hS := hS.grow hbl
          exact WL.nil (N.cut v ⟨rfl, trivial⟩ ⟨hbl, hks.keep (fun x hx => ⟨hx.2, rfl⟩) (fun _ _ h => h)⟩)
        refine And.intro (fun β wd hb hD => ?_) ?_
        ·
          obtain ⟨hp1, hp3, _, _⟩ := hD
          replace hp1 : (fun v u => SlV (roW u) u 1 BoolC v ((vals B).map (·.2))) (β 1) wd := hp1
          replace hp3 : (fun v u => SlV (roW u) u 1 BoolC v ((vals b).map (·.2))) (β 3) wd := hp3
          refine WL.sub (σ' := [(19, (β 1)), (21, (β 3))]) ⟨rfl, rfl, trivial⟩ ?_
          have hS := hS.grow hb
          generalize β 1 = z1 at hp1 ⊢
          generalize β 3 = z3 at hp3 ⊢
          refine WL.callF (vs := [z1, z3]) Try.func11 (by kernel_rfl) rfl rfl rfl (bools_ret _ _ z1 z3 (ro := roW wd) (fun _ h => h) hp1 hp3) ?_
          rintro v w12 ⟨hv, hbl⟩
          replace hS := hS.grow hbl
          rw [hB2, decide_eq_true rfl] at hv; subst hv
          exact WL.nil (N.cut (.bool true) ⟨rfl, trivial⟩ ⟨hbl, rfl⟩)
        trivial
      ·
        intro β w13 hb hD
        obtain ⟨hp0, hp1, hp2, hp3, hp4, _⟩ := hD
        refine WL.sub (σ' := [(0, .agg #[.int .i64 b.params, .slice adi b.ins.length capi, .int .i64 b.fin.kind, .int .i64 b.fin.a, .int .i64 b.fin.to, .slice adp b.fin.args.length capp, .int .i64 b.fin.els, .slice adq b.fin.elses.length capq]), (1, .pointer (some ⟨b1, 0, none⟩)), (2, .bool false), (3, .bool true), (4, .pointer (some ⟨b7, 0, none⟩)), (6, .bool true), (7, .pointer (some ⟨b1, 0, none⟩)), (8, .int .i64 b.params), (9, .bool false), (10, .bool false), (11, .pointer (some ⟨b1, 0, none⟩)), (12, .int .i64 b.params), (13, .bool (decide (1000 < b.params))), (14, .bool (decide (1000 < b.params))), (16, .agg #[.int .i64 b.params, .slice adi b.ins.length capi, .int .i64 b.fin.kind, .int .i64 b.fin.a, .int .i64 b.fin.to, .slice adp b.fin.args.length capp, .int .i64 b.fin.els, .slice adq b.fin.elses.length capq]), (17, .agg #[.int .i64 B.params, .slice adir B.ins.length capir, .int .i64 B.fin.kind, .int .i64 B.fin.a, .int .i64 B.fin.to, .slice adpr B.fin.args.length cappr, .int .i64 B.fin.els, .slice adqr B.fin.elses.length capqr]), (18, .agg #[.int .i64 B.params, .slice adir B.ins.length capir, .int .i64 B.fin.kind, .int .i64 B.fin.a, .int .i64 B.fin.to, .slice adpr B.fin.args.length cappr, .int .i64 B.fin.els, .slice adqr B.fin.elses.length capqr]), (19, (β 1)), (20, .agg #[.int .i64 b.params, .slice adi b.ins.length capi, .int .i64 b.fin.kind, .int .i64 b.fin.a, .int .i64 b.fin.to, .slice adp b.fin.args.length capp, .int .i64 b.fin.els, .slice adq b.fin.elses.length capq]), (21, (β 3)), (22, .bool true)]) ⟨rfl, rfl, rfl, rfl, rfl, rfl, rfl, rfl, rfl, rfl, rfl, rfl, rfl, rfl, rfl, rfl, congrArg some (show β 0 = .agg #[.int .i64 B.params, .slice adir B.ins.length capir, .int .i64 B.fin.kind, .int .i64 B.fin.a, .int .i64 B.fin.to, .slice adpr B.fin.args.length cappr, .int .i64 B.fin.els, .slice adqr B.fin.elses.length capqr] from hp0), rfl, congrArg some (show β 2 = .agg #[.int .i64 b.params, .slice adi b.ins.length capi, .int .i64 b.fin.kind, .int .i64 b.fin.a, .int .i64 b.fin.to, .slice adp b.fin.args.length capp, .int .i64 b.fin.els, .slice adq b.fin.elses.length capq] from hp2), rfl, congrArg some (show β 4 = .bool true from hp4), trivial⟩ ?_
        replace hS := hS.grow hb
        replace hp1 : (fun v u => SlV (roW u) u 1 BoolC v ((vals B).map (·.2))) (β 1) w13 := hp1
        generalize β 1 = z1 at hp1 ⊢
        replace hp3 : (fun v u => SlV (roW u) u 1 BoolC v ((vals b).map (·.2))) (β 3) w13 := hp3
        generalize β 3 = z3 at hp3 ⊢
        refine WL.assign rfl rfl rfl ?_
        refine WL.nil ?_
        refine N.seq ?_
        refine W.seq ?_
        refine W.drawP (by kernel_rfl) 26 [(fun v _ => v = .bool true), (fun v _ => v = .bool true), (fun v _ => v = .bool true), (fun v _ => v = .bool true), (fun v _ => v = .bool true), (fun v _ => v = .agg #[.int .i64 B.params, .slice adir B.ins.length capir, .int .i64 B.fin.kind, .int .i64 B.fin.a, .int .i64 B.fin.to, .slice adpr B.fin.args.length cappr, .int .i64 B.fin.els, .slice adqr B.fin.elses.length capqr]), (fun v u => ∃ cs, v = .agg cs.toArray ∧ BlockC (roW u) u cs (foldBlock B)), (fun v _ => v = .agg #[.int .i64 B.params, .slice adir B.ins.length capir, .int .i64 B.fin.kind, .int .i64 B.fin.a, .int .i64 B.fin.to, .slice adpr B.fin.args.length cappr, .int .i64 B.fin.els, .slice adqr B.fin.elses.length capqr]), (fun v _ => v = .bool true), (fun v _ => v = .bool true), (fun v _ => v = .bool true), (fun v _ => v = .pointer (some ⟨b7, 1, none⟩)), (fun v _ => v = .slice adir B.ins.length capir), (fun v _ => v = .int .i64 (B.ins.length : Int)), (fun v _ => v = .pointer (some ⟨b1, 1, none⟩)), (fun v _ => v = .slice adi b.ins.length capi), (fun v _ => v = .int .i64 (b.ins.length : Int)), (fun v _ => v = .bool true), (fun v _ => v = .bool true), (fun v _ => v = .bool true), (fun v _ => v = .pointer (some ⟨b7, 0, none⟩)), (fun v _ => v = .int .i64 B.params), (fun v _ => v = .pointer (some ⟨b1, 0, none⟩)), (fun v _ => v = .int .i64 b.params), (fun v _ => v = .bool true), (fun v _ => v = .bool true)] (by kernel_rfl) rfl (by kernel_rfl) [(0, .agg #[.int .i64 b.params, .slice adi b.ins.length capi, .int .i64 b.fin.kind, .int .i64 b.fin.a, .int .i64 b.fin.to, .slice adp b.fin.args.length capp, .int .i64 b.fin.els, .slice adq b.fin.elses.length capq]), (1, .pointer (some ⟨b1, 0, none⟩)), (2, .bool false), (3, .bool true), (4, .pointer (some ⟨b7, 0, none⟩)), (5, .bool true), (6, .bool true), (7, .pointer (some ⟨b1, 0, none⟩)), (8, .int .i64 b.params), (9, .bool false), (10, .bool false), (11, .pointer (some ⟨b1, 0, none⟩)), (12, .int .i64 b.params), (13, .bool (decide (1000 < b.params))), (14, .bool (decide (1000 < b.params))), (16, .agg #[.int .i64 b.params, .slice adi b.ins.length capi, .int .i64 b.fin.kind, .int .i64 b.fin.a, .int .i64 b.fin.to, .slice adp b.fin.args.length capp, .int .i64 b.fin.els, .slice adq b.fin.elses.length capq]), (17, .agg #[.int .i64 B.params, .slice adir B.ins.length capir, .int .i64 B.fin.kind, .int .i64 B.fin.a, .int .i64 B.fin.to, .slice adpr B.fin.args.length cappr, .int .i64 B.fin.els, .slice adqr B.fin.elses.length capqr]), (18, .agg #[.int .i64 B.params, .slice adir B.ins.length capir, .int .i64 B.fin.kind, .int .i64 B.fin.a, .int .i64 B.fin.to, .slice adpr B.fin.args.length cappr, .int .i64 B.fin.els, .slice adqr B.fin.elses.length capqr]), (19, z1), (20, .agg #[.int .i64 b.params, .slice adi b.ins.length capi, .int .i64 b.fin.kind, .int .i64 b.fin.a, .int .i64 b.fin.to, .slice adp b.fin.args.length capp, .int .i64 b.fin.els, .slice adq b.fin.elses.length capq]), (21, z3), (22, .bool true)] ⟨rfl, rfl, rfl, rfl, rfl, rfl, rfl, rfl, rfl, rfl, rfl, rfl, rfl, rfl, rfl, rfl, rfl, rfl, rfl, rfl, rfl, rfl, trivial⟩ rfl ⟨stays_eq, stays_eq, stays_eq, stays_eq, stays_eq, stays_eq, stays_block, stays_eq, stays_eq, stays_eq, stays_eq, stays_eq, stays_eq, stays_eq, stays_eq, stays_eq, stays_eq, stays_eq, stays_eq, stays_eq, stays_eq, stays_eq, stays_eq, stays_eq, stays_eq, stays_eq, trivial⟩ ?_ ?_
        ·
          refine And.intro (fun β wd hb hD => ?_) ?_
          ·
            refine WL.sub (σ' := [(3, .bool true)]) ⟨rfl, trivial⟩ ?_
            have hS := hS.grow hb
            refine WL.move rfl rfl rfl ?_
            exact WL.nil (N.cut (.bool true) ⟨rfl, trivial⟩ ⟨(Below.refl _ _), rfl⟩)
          refine And.intro (fun β wd hb hD => ?_) ?_
          ·
            obtain ⟨hp0, _⟩ := hD
            replace hp0 : β 0 = .bool true := hp0
            refine WL.sub (σ' := [(23, .bool true)]) ⟨congrArg some hp0, trivial⟩ ?_
            have hS := hS.grow hb
            refine WL.move rfl rfl rfl ?_
            exact WL.nil (N.cut (.bool true) ⟨rfl, trivial⟩ ⟨(Below.refl _ _), rfl⟩)
          refine And.intro (fun β wd hb hD => ?_) ?_
          ·
            obtain ⟨hp1, _⟩ := hD
            replace hp1 : β 1 = .bool true := hp1
            refine WL.sub (σ' := [(5, .bool true), (24, .bool true)]) ⟨rfl, congrArg some hp1, trivial⟩ ?_
            have hS := hS.grow hb
            refine WL.move rfl rfl rfl ?_
            exact WL.nil (N.cut (.bool true) ⟨rfl, trivial⟩ ⟨(Below.refl _ _), rfl⟩)
          refine And.intro (fun β wd hb hD => ?_) ?_
          ·
            obtain ⟨hp1, hp2, _⟩ := hD
            replace hp1 : β 1 = .bool true := hp1
            replace hp2 : β 2 = .bool true := hp2
            refine WL.sub (σ' := [(24, .bool true), (25, .bool true)]) ⟨congrArg some hp1, congrArg some hp2, trivial⟩ ?_
            have hS := hS.grow hb
            refine WL.pick (v := .bool true) rfl rfl rfl rfl rfl rfl ?_
            exact WL.nil (N.cut (.bool true) ⟨rfl, trivial⟩ ⟨(Below.refl _ _), rfl⟩)
          refine And.intro (fun β wd hb hD => ?_) ?_
          ·
            obtain ⟨hp3, _, _⟩ := hD
            replace hp3 : β 3 = .bool true := hp3
            refine WL.sub (σ' := [(26, .bool true)]) ⟨congrArg some hp3, trivial⟩ ?_
            have hS := hS.grow hb
            refine WL.move rfl rfl rfl ?_
            exact WL.nil (N.cut (.bool true) ⟨rfl, trivial⟩ ⟨(Below.refl _ _), rfl⟩)
          refine And.intro (fun β wd hb hD => ?_) ?_
          ·
            obtain ⟨hp4, _⟩ := hD
            replace hp4 : β 4 = .bool true := hp4
            refine WL.sub (σ' := [(4, .pointer (some ⟨b7, 0, none⟩)), (27, .bool true)]) ⟨rfl, congrArg some hp4, trivial⟩ ?_
            have hS := hS.grow hb
            refine WL.loadN (cs := [.int .i64 B.params, .slice adir B.ins.length capir, .int .i64 B.fin.kind, .int .i64 B.fin.a, .int .i64 B.fin.to, .slice adpr B.fin.args.length cappr, .int .i64 B.fin.els, .slice adqr B.fin.elses.length capqr]) agg_29 rfl rfl rfl rfl (hS.cells 0 (m := 8) rfl rfl) ?_
            exact WL.nil (N.cut (.agg #[.int .i64 B.params, .slice adir B.ins.length capir, .int .i64 B.fin.kind, .int .i64 B.fin.a, .int .i64 B.fin.to, .slice adpr B.fin.args.length cappr, .int .i64 B.fin.els, .slice adqr B.fin.elses.length capqr]) ⟨rfl, trivial⟩ ⟨(Below.refl _ _), rfl⟩)
          refine And.intro (fun β wd hb hD => ?_) ?_
          ·
            obtain ⟨hp5, hp4, _, _⟩ := hD
            replace hp5 : β 5 = .agg #[.int .i64 B.params, .slice adir B.ins.length capir, .int .i64 B.fin.kind, .int .i64 B.fin.a, .int .i64 B.fin.to, .slice adpr B.fin.args.length cappr, .int .i64 B.fin.els, .slice adqr B.fin.elses.length capqr] := hp5
            replace hp4 : β 4 = .bool true := hp4
            refine WL.sub (σ' := [(27, .bool true), (28, .agg #[.int .i64 B.params, .slice adir B.ins.length capir, .int .i64 B.fin.kind, .int .i64 B.fin.a, .int .i64 B.fin.to, .slice adpr B.fin.args.length cappr, .int .i64 B.fin.els, .slice adqr B.fin.elses.length capqr])]) ⟨congrArg some hp4, congrArg some hp5, trivial⟩ ?_
            have hS := hS.grow hb
            have hS0 := fun b hb => (hS.snap b hb).1
            refine WL.callF (vs := [.agg #[.int .i64 B.params, .slice adir B.ins.length capir, .int .i64 B.fin.kind, .int .i64 B.fin.a, .int .i64 B.fin.to, .slice adpr B.fin.args.length cappr, .int .i64 B.fin.els, .slice adqr B.fin.elses.length capqr]]) Try.func9 (by kernel_rfl) rfl rfl rfl (block_ret B _ (ro := (roFrom ro w3 w6)) (fun b hb => (hS.snap b hb).1) (hB.keep hS.alike) (by omega) (by omega)) ?_
            rintro v w14 ⟨cs2, rfl, hz, hbl⟩
            replace hS := hS.grow hbl
            exact WL.nil (N.cut (.agg cs2.toArray) ⟨rfl, trivial⟩ ⟨hbl, ⟨_, rfl, hz.keep (fun x hx => ⟨hx.elim (fun h => Nat.lt_of_lt_of_le (hS0 x h) hbl.size) (·.2), rfl⟩)⟩⟩)
          refine And.intro (fun β wd hb hD => ?_) ?_
          ·
            obtain ⟨hp4, _⟩ := hD
            replace hp4 : β 4 = .bool true := hp4
            refine WL.sub (σ' := [(4, .pointer (some ⟨b7, 0, none⟩)), (27, .bool true)]) ⟨rfl, congrArg some hp4, trivial⟩ ?_
            have hS := hS.grow hb
            refine WL.loadN (cs := [.int .i64 B.params, .slice adir B.ins.length capir, .int .i64 B.fin.kind, .int .i64 B.fin.a, .int .i64 B.fin.to, .slice adpr B.fin.args.length cappr, .int .i64 B.fin.els, .slice adqr B.fin.elses.length capqr]) agg_29 rfl rfl rfl rfl (hS.cells 0 (m := 8) rfl rfl) ?_
            exact WL.nil (N.cut (.agg #[.int .i64 B.params, .slice adir B.ins.length capir, .int .i64 B.fin.kind, .int .i64 B.fin.a, .int .i64 B.fin.to, .slice adpr B.fin.args.length cappr, .int .i64 B.fin.els, .slice adqr B.fin.elses.length capqr]) ⟨rfl, trivial⟩ ⟨(Below.refl _ _), rfl⟩)
          refine And.intro (fun β wd hb hD => ?_) ?_
          ·
            obtain ⟨hp6, hp7, _, hp4, _⟩ := hD
            replace hp6 : (fun v u => ∃ cs, v = .agg cs.toArray ∧ BlockC (roW u) u cs (foldBlock B)) (β 6) wd := hp6
            replace hp7 : β 7 = .agg #[.int .i64 B.params, .slice adir B.ins.length capir, .int .i64 B.fin.kind, .int .i64 B.fin.a, .int .i64 B.fin.to, .slice adpr B.fin.args.length cappr, .int .i64 B.fin.els, .slice adqr B.fin.elses.length capqr] := hp7
            replace hp4 : β 4 = .bool true := hp4
            refine WL.sub (σ' := [(27, .bool true), (29, (β 6)), (30, .agg #[.int .i64 B.params, .slice adir B.ins.length capir, .int .i64 B.fin.kind, .int .i64 B.fin.a, .int .i64 B.fin.to, .slice adpr B.fin.args.length cappr, .int .i64 B.fin.els, .slice adqr B.fin.elses.length capqr])]) ⟨congrArg some hp4, rfl, congrArg some hp7, trivial⟩ ?_
            have hS := hS.grow hb
            generalize β 6 = z6 at hp6 ⊢
            obtain ⟨cz6, rfl, hz6⟩ := hp6
            refine WL.callF (vs := [(.agg cz6.toArray), .agg #[.int .i64 B.params, .slice adir B.ins.length capir, .int .i64 B.fin.kind, .int .i64 B.fin.a, .int .i64 B.fin.to, .slice adpr B.fin.args.length cappr, .int .i64 B.fin.els, .slice adqr B.fin.elses.length capqr]]) Try.func13 (by kernel_rfl) rfl rfl rfl (sameBlock_ret (foldBlock B) B _ _ (ro := roW wd) (fun _ h => h) hz6 (hB.keep (toRoW hS))) ?_
            rintro v w15 ⟨hv, hbl⟩
            replace hS := hS.grow hbl
            rw [decide_eq_true hB3] at hv; subst hv
            exact WL.nil (N.cut (.bool true) ⟨rfl, trivial⟩ ⟨hbl, rfl⟩)
          refine And.intro (fun β wd hb hD => ?_) ?_
          ·
            obtain ⟨hp4, hp8, _⟩ := hD
            replace hp4 : β 4 = .bool true := hp4
            replace hp8 : β 8 = .bool true := hp8
            refine WL.sub (σ' := [(27, .bool true), (31, .bool true)]) ⟨congrArg some hp4, congrArg some hp8, trivial⟩ ?_
            have hS := hS.grow hb
            refine WL.pick (v := .bool true) rfl rfl rfl rfl rfl rfl ?_
            exact WL.nil (N.cut (.bool true) ⟨rfl, trivial⟩ ⟨(Below.refl _ _), rfl⟩)
          refine And.intro (fun β wd hb hD => ?_) ?_
          ·
            obtain ⟨hp9, _, _⟩ := hD
            replace hp9 : β 9 = .bool true := hp9
            refine WL.sub (σ' := [(32, .bool true)]) ⟨congrArg some hp9, trivial⟩ ?_
            have hS := hS.grow hb
            refine WL.move rfl rfl rfl ?_
            exact WL.nil (N.cut (.bool true) ⟨rfl, trivial⟩ ⟨(Below.refl _ _), rfl⟩)
          refine And.intro (fun β wd hb hD => ?_) ?_
          ·
            obtain ⟨hp10, _⟩ := hD
            replace hp10 : β 10 = .bool true := hp10
            refine WL.sub (σ' := [(4, .pointer (some ⟨b7, 0, none⟩)), (33, .bool true)]) ⟨rfl, congrArg some hp10, trivial⟩ ?_
            have hS := hS.grow hb
            refine WL.fieldAddr fo_29_1 rfl rfl rfl ?_
            exact WL.nil (N.cut (.pointer (some ⟨b7, 1, none⟩)) ⟨rfl, trivial⟩ ⟨(Below.refl _ _), rfl⟩)
          refine And.intro (fun β wd hb hD => ?_) ?_
          ·
            obtain ⟨hp11, hp10, _⟩ := hD
            replace hp11 : β 11 = .pointer (some ⟨b7, 1, none⟩) := hp11
            replace hp10 : β 10 = .bool true := hp10
            refine WL.sub (σ' := [(33, .bool true), (34, .pointer (some ⟨b7, 1, none⟩))]) ⟨congrArg some hp10, congrArg some hp11, trivial⟩ ?_
            have hS := hS.grow hb
            refine WL.load1 (v := .slice adir B.ins.length capir) one_24 rfl rfl rfl (hS.cell 0 rfl rfl) ?_
            exact WL.nil (N.cut (.slice adir B.ins.length capir) ⟨rfl, trivial⟩ ⟨(Below.refl _ _), rfl⟩)
          refine And.intro (fun β wd hb hD => ?_) ?_
          ·
            obtain ⟨hp12, hp10, _⟩ := hD
            replace hp12 : β 12 = .slice adir B.ins.length capir := hp12
            replace hp10 : β 10 = .bool true := hp10
            refine WL.sub (σ' := [(33, .bool true), (35, .slice adir B.ins.length capir)]) ⟨congrArg some hp10, congrArg some hp12, trivial⟩ ?_
            have hS := hS.grow hb
            refine WL.lenSlice Try.underlying24 rfl rfl rfl ?_
            exact WL.nil (N.cut (.int .i64 (B.ins.length : Int)) ⟨rfl, trivial⟩ ⟨(Below.refl _ _), rfl⟩)
          refine And.intro (fun β wd hb hD => ?_) ?_
          ·
            obtain ⟨hp10, _⟩ := hD
            replace hp10 : β 10 = .bool true := hp10
            refine WL.sub (σ' := [(1, .pointer (some ⟨b1, 0, none⟩)), (33, .bool true)]) ⟨rfl, congrArg some hp10, trivial⟩ ?_
            have hS := hS.grow hb
            refine WL.fieldAddr fo_29_1 rfl rfl rfl ?_
            exact WL.nil (N.cut (.pointer (some ⟨b1, 1, none⟩)) ⟨rfl, trivial⟩ ⟨(Below.refl _ _), rfl⟩)
          refine And.intro (fun β wd hb hD => ?_) ?_
          ·
            obtain ⟨hp14, hp10, _⟩ := hD
            replace hp14 : β 14 = .pointer (some ⟨b1, 1, none⟩) := hp14
            replace hp10 : β 10 = .bool true := hp10
            refine WL.sub (σ' := [(33, .bool true), (37, .pointer (some ⟨b1, 1, none⟩))]) ⟨congrArg some hp10, congrArg some hp14, trivial⟩ ?_
            have hS := hS.grow hb
            refine WL.load1 (v := .slice adi b.ins.length capi) one_24 rfl rfl rfl (hS.cell 1 rfl rfl) ?_
            exact WL.nil (N.cut (.slice adi b.ins.length capi) ⟨rfl, trivial⟩ ⟨(Below.refl _ _), rfl⟩)
          refine And.intro (fun β wd hb hD => ?_) ?_
          ·
            obtain ⟨hp15, hp10, _⟩ := hD
            replace hp15 : β 15 = .slice adi b.ins.length capi := hp15
            replace hp10 : β 10 = .bool true := hp10
            refine WL.sub (σ' := [(33, .bool true), (38, .slice adi b.ins.length capi)]) ⟨congrArg some hp10, congrArg some hp15, trivial⟩ ?_
            have hS := hS.grow hb
            refine WL.lenSlice Try.underlying24 rfl rfl rfl ?_
            exact WL.nil (N.cut (.int .i64 (b.ins.length : Int)) ⟨rfl, trivial⟩ ⟨(Below.refl _ _), rfl⟩)
          refine And.intro (fun β wd hb hD => ?_) ?_
          ·
            obtain ⟨hp13, hp16, hp10, _⟩ := hD
            replace hp13 : β 13 = .int .i64 (B.ins.length : Int) := hp13
            replace hp16 : β 16 = .int .i64 (b.ins.length : Int) := hp16
            replace hp10 : β 10 = .bool true := hp10
            refine WL.sub (σ' := [(33, .bool true), (36, .int .i64 (B.ins.length : Int)), (39, .int .i64 (b.ins.length : Int))]) ⟨congrArg some hp10, congrArg some hp13, congrArg some hp16, trivial⟩ ?_
            have hS := hS.grow hb
            refine WL.bin rfl rfl rfl rfl rfl ?_
            refine WL.set 40 (v' := .bool true) rfl (by rw [hBl]; simp) ?_
            exact WL.nil (N.cut (.bool true) ⟨rfl, trivial⟩ ⟨(Below.refl _ _), rfl⟩)
          refine And.intro (fun β wd hb hD => ?_) ?_
          ·
            obtain ⟨hp10, hp17, _⟩ := hD
            replace hp10 : β 10 = .bool true := hp10
            replace hp17 : β 17 = .bool true := hp17
            refine WL.sub (σ' := [(33, .bool true), (40, .bool true)]) ⟨congrArg some hp10, congrArg some hp17, trivial⟩ ?_
            have hS := hS.grow hb
            refine WL.pick (v := .bool true) rfl rfl rfl rfl rfl rfl ?_
            exact WL.nil (N.cut (.bool true) ⟨rfl, trivial⟩ ⟨(Below.refl _ _), rfl⟩)
          refine And.intro (fun β wd hb hD => ?_) ?_
          ·
            obtain ⟨hp18, _, _⟩ := hD
            replace hp18 : β 18 = .bool true := hp18
            refine WL.sub (σ' := [(41, .bool true)]) ⟨congrArg some hp18, trivial⟩ ?_
            have hS := hS.grow hb
            refine WL.move rfl rfl rfl ?_
            exact WL.nil (N.cut (.bool true) ⟨rfl, trivial⟩ ⟨(Below.refl _ _), rfl⟩)
          refine And.intro (fun β wd hb hD => ?_) ?_
          ·
            obtain ⟨hp19, _⟩ := hD
            replace hp19 : β 19 = .bool true := hp19
            refine WL.sub (σ' := [(4, .pointer (some ⟨b7, 0, none⟩)), (42, .bool true)]) ⟨rfl, congrArg some hp19, trivial⟩ ?_
            have hS := hS.grow hb
            refine WL.fieldAddr fo_29_0 rfl rfl rfl ?_
            exact WL.nil (N.cut (.pointer (some ⟨b7, 0, none⟩)) ⟨rfl, trivial⟩ ⟨(Below.refl _ _), rfl⟩)
          refine And.intro (fun β wd hb hD => ?_) ?_
          ·
            obtain ⟨hp20, hp19, _⟩ := hD
            replace hp20 : β 20 = .pointer (some ⟨b7, 0, none⟩) := hp20
            replace hp19 : β 19 = .bool true := hp19
            refine WL.sub (σ' := [(42, .bool true), (43, .pointer (some ⟨b7, 0, none⟩))]) ⟨congrArg some hp19, congrArg some hp20, trivial⟩ ?_
            have hS := hS.grow hb
            refine WL.load1 (v := .int .i64 B.params) one_3 rfl rfl rfl (hS.cell 0 rfl rfl) ?_
            exact WL.nil (N.cut (.int .i64 B.params) ⟨rfl, trivial⟩ ⟨(Below.refl _ _), rfl⟩)
          refine And.intro (fun β wd hb hD => ?_) ?_
          ·
            obtain ⟨hp19, _⟩ := hD
            replace hp19 : β 19 = .bool true := hp19
            refine WL.sub (σ' := [(1, .pointer (some ⟨b1, 0, none⟩)), (42, .bool true)]) ⟨rfl, congrArg some hp19, trivial⟩ ?_
            have hS := hS.grow hb
            refine WL.fieldAddr fo_29_0 rfl rfl rfl ?_
            exact WL.nil (N.cut (.pointer (some ⟨b1, 0, none⟩)) ⟨rfl, trivial⟩ ⟨(Below.refl _ _), rfl⟩)
          refine And.intro (fun β wd hb hD => ?_) ?_
          ·
            obtain ⟨hp22, hp19, _⟩ := hD
            replace hp22 : β 22 = .pointer (some ⟨b1, 0, none⟩) := hp22
            replace hp19 : β 19 = .bool true := hp19
            refine WL.sub (σ' := [(42, .bool true), (45, .pointer (some ⟨b1, 0, none⟩))]) ⟨congrArg some hp19, congrArg some hp22, trivial⟩ ?_
            have hS := hS.grow hb
            refine WL.load1 (v := .int .i64 b.params) one_3 rfl rfl rfl (hS.cell 1 rfl rfl) ?_
            exact WL.nil (N.cut (.int .i64 b.params) ⟨rfl, trivial⟩ ⟨(Below.refl _ _), rfl⟩)
          refine And.intro (fun β wd hb hD => ?_) ?_
          ·
            obtain ⟨hp21, hp23, hp19, _⟩ := hD
            replace hp21 : β 21 = .int .i64 B.params := hp21
            replace hp23 : β 23 = .int .i64 b.params := hp23
            replace hp19 : β 19 = .bool true := hp19
            refine WL.sub (σ' := [(42, .bool true), (44, .int .i64 B.params), (46, .int .i64 b.params)]) ⟨congrArg some hp19, congrArg some hp21, congrArg some hp23, trivial⟩ ?_
            have hS := hS.grow hb
            refine WL.bin rfl rfl rfl rfl rfl ?_
            refine WL.set 47 (v' := .bool true) rfl (by rw [hBp]; simp) ?_
            exact WL.nil (N.cut (.bool true) ⟨rfl, trivial⟩ ⟨(Below.refl _ _), rfl⟩)
          refine And.intro (fun β wd hb hD => ?_) ?_
          ·
            obtain ⟨hp19, hp24, _⟩ := hD
            replace hp19 : β 19 = .bool true := hp19
            replace hp24 : β 24 = .bool true := hp24
            refine WL.sub (σ' := [(42, .bool true), (47, .bool true)]) ⟨congrArg some hp19, congrArg some hp24, trivial⟩ ?_
            have hS := hS.grow hb
            refine WL.pick (v := .bool true) rfl rfl rfl rfl rfl rfl ?_
            exact WL.nil (N.cut (.bool true) ⟨rfl, trivial⟩ ⟨(Below.refl _ _), rfl⟩)
          trivial
        ·
          intro β w16 hb hD
          obtain ⟨hp0, hp1, hp2, hp3, hp4, hp5, hp6, hp7, hp8, hp9, hp10, hp11, hp12, hp13, hp14, hp15, hp16, hp17, hp18, hp19, hp20, hp21, hp22, hp23, hp24, hp25, _⟩ := hD
          refine WL.sub (σ' := [(0, .agg #[.int .i64 b.params, .slice adi b.ins.length capi, .int .i64 b.fin.kind, .int .i64 b.fin.a, .int .i64 b.fin.to, .slice adp b.fin.args.length capp, .int .i64 b.fin.els, .slice adq b.fin.elses.length capq]), (1, .pointer (some ⟨b1, 0, none⟩)), (2, .bool false), (3, .bool true), (4, .pointer (some ⟨b7, 0, none⟩)), (5, .bool true), (6, .bool true), (7, .pointer (some ⟨b1, 0, none⟩)), (8, .int .i64 b.params), (9, .bool false), (10, .bool false), (11, .pointer (some ⟨b1, 0, none⟩)), (12, .int .i64 b.params), (13, .bool (decide (1000 < b.params))), (14, .bool (decide (1000 < b.params))), (16, .agg #[.int .i64 b.params, .slice adi b.ins.length capi, .int .i64 b.fin.kind, .int .i64 b.fin.a, .int .i64 b.fin.to, .slice adp b.fin.args.length capp, .int .i64 b.fin.els, .slice adq b.fin.elses.length capq]), (17, .agg #[.int .i64 B.params, .slice adir B.ins.length capir, .int .i64 B.fin.kind, .int .i64 B.fin.a, .int .i64 B.fin.to, .slice adpr B.fin.args.length cappr, .int .i64 B.fin.els, .slice adqr B.fin.elses.length capqr]), (18, .agg #[.int .i64 B.params, .slice adir B.ins.length capir, .int .i64 B.fin.kind, .int .i64 B.fin.a, .int .i64 B.fin.to, .slice adpr B.fin.args.length cappr, .int .i64 B.fin.els, .slice adqr B.fin.elses.length capqr]), (19, z1), (20, .agg #[.int .i64 b.params, .slice adi b.ins.length capi, .int .i64 b.fin.kind, .int .i64 b.fin.a, .int .i64 b.fin.to, .slice adp b.fin.args.length capp, .int .i64 b.fin.els, .slice adq b.fin.elses.length capq]), (21, z3), (22, .bool true), (23, .bool true), (24, .bool true), (25, .bool true), (26, .bool true), (27, .bool true), (28, .agg #[.int .i64 B.params, .slice adir B.ins.length capir, .int .i64 B.fin.kind, .int .i64 B.fin.a, .int .i64 B.fin.to, .slice adpr B.fin.args.length cappr, .int .i64 B.fin.els, .slice adqr B.fin.elses.length capqr]), (29, (β 6)), (30, .agg #[.int .i64 B.params, .slice adir B.ins.length capir, .int .i64 B.fin.kind, .int .i64 B.fin.a, .int .i64 B.fin.to, .slice adpr B.fin.args.length cappr, .int .i64 B.fin.els, .slice adqr B.fin.elses.length capqr]), (31, .bool true), (32, .bool true), (33, .bool true), (34, .pointer (some ⟨b7, 1, none⟩)), (35, .slice adir B.ins.length capir), (36, .int .i64 (B.ins.length : Int)), (37, .pointer (some ⟨b1, 1, none⟩)), (38, .slice adi b.ins.length capi), (39, .int .i64 (b.ins.length : Int)), (40, .bool true), (41, .bool true), (42, .bool true), (43, .pointer (some ⟨b7, 0, none⟩)), (44, .int .i64 B.params), (45, .pointer (some ⟨b1, 0, none⟩)), (46, .int .i64 b.params), (47, .bool true), (48, .bool true)]) ⟨rfl, rfl, rfl, rfl, rfl, rfl, rfl, rfl, rfl, rfl, rfl, rfl, rfl, rfl, rfl, rfl, rfl, rfl, rfl, rfl, rfl, rfl, congrArg some (show β 0 = .bool true from hp0), congrArg some (show β 1 = .bool true from hp1), congrArg some (show β 2 = .bool true from hp2), congrArg some (show β 3 = .bool true from hp3), congrArg some (show β 4 = .bool true from hp4), congrArg some (show β 5 = .agg #[.int .i64 B.params, .slice adir B.ins.length capir, .int .i64 B.fin.kind, .int .i64 B.fin.a, .int .i64 B.fin.to, .slice adpr B.fin.args.length cappr, .int .i64 B.fin.els, .slice adqr B.fin.elses.length capqr] from hp5), rfl, congrArg some (show β 7 = .agg #[.int .i64 B.params, .slice adir B.ins.length capir, .int .i64 B.fin.kind, .int .i64 B.fin.a, .int .i64 B.fin.to, .slice adpr B.fin.args.length cappr, .int .i64 B.fin.els, .slice adqr B.fin.elses.length capqr] from hp7), congrArg some (show β 8 = .bool true from hp8), congrArg some (show β 9 = .bool true from hp9), congrArg some (show β 10 = .bool true from hp10), congrArg some (show β 11 = .pointer (some ⟨b7, 1, none⟩) from hp11), congrArg some (show β 12 = .slice adir B.ins.length capir from hp12), congrArg some (show β 13 = .int .i64 (B.ins.length : Int) from hp13), congrArg some (show β 14 = .pointer (some ⟨b1, 1, none⟩) from hp14), congrArg some (show β 15 = .slice adi b.ins.length capi from hp15), congrArg some (show β 16 = .int .i64 (b.ins.length : Int) from hp16), congrArg some (show β 17 = .bool true from hp17), congrArg some (show β 18 = .bool true from hp18), congrArg some (show β 19 = .bool true from hp19), congrArg some (show β 20 = .pointer (some ⟨b7, 0, none⟩) from hp20), congrArg some (show β 21 = .int .i64 B.params from hp21), congrArg some (show β 22 = .pointer (some ⟨b1, 0, none⟩) from hp22), congrArg some (show β 23 = .int .i64 b.params from hp23), congrArg some (show β 24 = .bool true from hp24), congrArg some (show β 25 = .bool true from hp25), trivial⟩ ?_
          replace hS := hS.grow hb
          replace hp6 : (fun v u => ∃ cs, v = .agg cs.toArray ∧ BlockC (roW u) u cs (foldBlock B)) (β 6) w16 := hp6
          generalize β 6 = z6 at hp6 ⊢
          refine WL.assign rfl rfl rfl ?_
          refine WL.nil ?_
          refine N.seq ?_
          refine Fin.ret1 rfl (v := .bool true) rfl ?_
          exact ⟨rfl, hS.below⟩
  ·
    have hg4p : b.params < 0 := by simpa using hg4
    refine WL.skp rfl rfl ?_
    refine WL.skp rfl rfl ?_
    refine WL.skp rfl rfl ?_
    refine WL.pick (v := .bool true) rfl rfl rfl rfl rfl rfl ?_
    refine WL.nil ?_
    refine N.seq ?_
    refine W.condT rfl ?_
    refine W.seq ?_
    refine W.region ?_
    refine WL.move rfl rfl rfl ?_
    refine WL.assign rfl rfl rfl ?_
    refine WL.nil ?_
    refine N.seq ?_
    refine Fin.ret1 rfl (v := .bool true) rfl ?_
    exact ⟨rfl, hS.below⟩

end Go.Proofs.Ytokkiaokpfediaa
