/-
  FoldPlaces: the walk and the plain law. No condition beyond those that each theorem states.
-/
import Derived.Test.YtokkiaokpfediaaT1
import Derived.Test.YtokkiaokpfediaaT2
namespace Go.Proofs.Ytokkiaokpfediaa
open Go.RowKit

theorem valsF_pre : ∀ (r : List DInst) (l : List (Int × Bool)) (i : Nat), i < l.length → (valsF l r)[i]? = l[i]?
  | [], _, _, _ => rfl
  | x :: r, l, i, h => by
    rw [valsF, valsF_pre r _ i (by simp; omega), List.getElem?_append_left h]
/-- What is handed is not known. -/
theorem vals_head {b : DBlock} {i : Nat} (h : i < b.params.toNat) : (vals b)[i]? = some (0, false) := by
  rw [vals, valsF_pre _ _ _ (by simpa [vals0] using h), vals0, List.getElem?_replicate, if_pos h]
theorem head_kn {b : DBlock} {K : List Bool} (hK : K = (vals b).map (·.2)) {i : Nat} {x : Bool} (hi : (i : Int) < b.params) (hx : K[i]? = some x) : x = false := by
  subst hK
  rw [List.getElem?_map, vals_head (by omega)] at hx
  simpa using hx.symm
theorem fold_ins {b : DBlock} {K : List Bool} (hK : K = (vals b).map (·.2)) {i j : Nat} {kn : Bool} {x y : DInst} (hj : j = b.params.toNat + i) (hk : K[j]? = some kn) (hx : b.ins[i]? = some x) (hy : (foldBlock b).ins[i]? = some y) :
    (kn = true → y.op = 1) ∧ (kn = false → x = y) := by
  subst hK; subst hj
  rw [List.getElem?_map] at hk
  cases hv : (vals b)[b.params.toNat + i]? with
  | none => rw [hv] at hk; simp at hk
  | some v =>
    rw [hv] at hk
    simp only [Option.map_some, Option.some.injEq] at hk
    have h1 := foldIns_get b hx hv
    rw [show (foldBlock b).ins = foldIns b.ins ((vals b).drop b.params.toNat) from rfl, h1] at hy
    have h2 := Option.some.inj hy
    subst hk
    refine ⟨fun e => ?_, fun e => ?_⟩
    · rw [if_pos e] at h2; rw [← h2]; rfl
    · rw [e] at h2; simpa using h2
theorem kn_length {b : DBlock} {K : List Bool} (hK : K = (vals b).map (·.2)) : K.length = b.params.toNat + b.ins.length := by subst hK; rw [List.length_map, vals_length]
theorem fold_length {b : DBlock} : (foldBlock b).ins.length = b.ins.length := foldIns_length b

theorem foldPlaces_ret (b : DBlock) (cs : List Value) {w : World} {ro : Nat → Prop} (hro : ∀ b, ro b → b < w.heap.size) (hb : BlockC ro w cs b) (hl : b.ins.length ≤ 1954687338211) : Ret Try.prog 5 #[.agg cs.toArray] w fun v w' => v = .bool true ∧ Below w.heap.size w w' := by
  obtain ⟨si, tsx, rfl, hin, hfin, hpar⟩ := id hb
  obtain ⟨adi, capi, rfl, hina, hinb, hinc, hind⟩ := id hin
  have hinm : b.ins.length ≤ 9223372036854775807 := by have h1 := hina; have h2 := hinb; unfold maxLen at h2; omega
  obtain ⟨sp, sq, rfl, ht1, ht2, htk, hta, htt, hte⟩ := id hfin
  obtain ⟨adp, capp, rfl, htpa, htpb, htpc, htpd⟩ := id ht1
  have htpm : b.fin.args.length ≤ 9223372036854775807 := by have h1 := htpa; have h2 := htpb; unfold maxLen at h2; omega
  obtain ⟨adq, capq, rfl, htqa, htqb, htqc, htqd⟩ := id ht2
  have htqm : b.fin.elses.length ≤ 9223372036854775807 := by have h1 := htqa; have h2 := htqb; unfold maxLen at h2; omega
  refine Ret.enter (P := Try.prog) (n := 96) (args := [.agg #[.int .i64 b.params, .slice adi b.ins.length capi, .int .i64 b.fin.kind, .int .i64 b.fin.a, .int .i64 b.fin.to, .slice adp b.fin.args.length capp, .int .i64 b.fin.els, .slice adq b.fin.elses.length capq]]) (σ := [(0, .agg #[.int .i64 b.params, .slice adi b.ins.length capi, .int .i64 b.fin.kind, .int .i64 b.fin.a, .int .i64 b.fin.to, .slice adp b.fin.args.length capp, .int .i64 b.fin.els, .slice adq b.fin.elses.length capq])]) Try.func5 rfl rfl rfl rfl ?_
  have hS := St.start (ro := ro) hro
  refine W.seq ?_
  refine W.region ?_
  refine WL.box (v := .agg #[.int .i64 b.params, .slice adi b.ins.length capi, .int .i64 b.fin.kind, .int .i64 b.fin.a, .int .i64 b.fin.to, .slice adp b.fin.args.length capp, .int .i64 b.fin.els, .slice adq b.fin.elses.length capq]) (cs := [.int .i64 b.params, .slice adi b.ins.length capi, .int .i64 b.fin.kind, .int .i64 b.fin.a, .int .i64 b.fin.to, .slice adp b.fin.args.length capp, .int .i64 b.fin.els, .slice adq b.fin.elses.length capq]) rfl rfl rfl rfl hS ?_
  clear hS; intro w2 b1 hb_b1 hS
  refine WL.assign rfl rfl rfl ?_
  refine WL.nil ?_
  refine N.seq ?_
  refine W.seq ?_
  refine W.region ?_
  refine WL.callF (vs := []) Try.func8 (by kernel_rfl) rfl rfl rfl (shown_ret (ro := ro) (fun b hb => (hS.snap b hb).1)) ?_
  rintro v w3 ⟨rfl, hbl⟩
  replace hS := hS.grow hbl
  refine WL.assign rfl rfl rfl ?_
  refine WL.nil ?_
  refine N.seq ?_
  refine W.seq ?_
  refine W.seq ?_
  refine W.region ?_
  refine WL.fieldAddr fo_29_0 rfl rfl rfl ?_
  refine WL.load1 (v := .int .i64 b.params) one_3 rfl rfl rfl (hS.cell 0 rfl rfl) ?_
  refine WL.bin rfl rfl rfl rfl rfl ?_
  refine WL.move rfl rfl rfl ?_
  cases hg4 : (decide (1000 < b.params))
  ·
    have hg4p : ¬ (1000 < b.params) := by simpa using hg4
    refine WL.fieldAddr fo_29_0 rfl rfl rfl ?_
    refine WL.load1 (v := .int .i64 b.params) one_3 rfl rfl rfl (hS.cell 0 rfl rfl) ?_
    refine WL.bin rfl rfl rfl rfl rfl ?_
    refine WL.pick (v := .bool (decide (b.params < 0))) rfl rfl rfl rfl rfl rfl ?_
    refine WL.nil ?_
    refine N.seq ?_
    refine W.cond rfl (fun hc5 => ?_) (fun hc5 => ?_)
    ·
      have hc5p : b.params < 0 := by simpa using hc5
      refine W.seq ?_
      refine W.region ?_
      refine WL.move rfl rfl rfl ?_
      refine WL.assign rfl rfl rfl ?_
      refine WL.nil ?_
      refine N.seq ?_
      refine Fin.ret1 rfl (v := .bool true) rfl ?_
      exact ⟨rfl, hS.below⟩
    ·
      have hc5p : ¬ (b.params < 0) := by simpa using hc5
      refine W.skip ?_
      refine N.seq ?_
      refine W.seq ?_
      refine W.region ?_
      refine WL.loadN (cs := [.int .i64 b.params, .slice adi b.ins.length capi, .int .i64 b.fin.kind, .int .i64 b.fin.a, .int .i64 b.fin.to, .slice adp b.fin.args.length capp, .int .i64 b.fin.els, .slice adq b.fin.elses.length capq]) agg_29 rfl rfl rfl rfl (hS.cells 0 (m := 8) rfl rfl) ?_
      refine WL.callF (vs := [.agg #[.int .i64 b.params, .slice adi b.ins.length capi, .int .i64 b.fin.kind, .int .i64 b.fin.a, .int .i64 b.fin.to, .slice adp b.fin.args.length capp, .int .i64 b.fin.els, .slice adq b.fin.elses.length capq]]) Try.func9 (by kernel_rfl) rfl rfl rfl (block_ret b _ (ro := ro) (fun b hb => (hS.snap b hb).1) (hb.keep hS.alike) (by omega) (by omega)) ?_
      rintro v w6 ⟨csr, rfl, hB, hbl⟩
      have hal := hS.alikeTo hbl (ro' := roFrom ro w3 w6) (fun b hb => .inl hb)
      replace hS := hS.readNew hbl
      have hb2 := hb.keep hal
      have hinB : Elems (roFrom ro w3 w6) w6 6 (InstC (roFrom ro w3 w6) w6) adi b.ins := hind.keep hal (fun _ _ h => h.keep hal)
      obtain ⟨B, hBe⟩ : ∃ z, z = foldBlock b := ⟨_, rfl⟩
      rw [← hBe] at hB
      have hBl : B.ins.length = b.ins.length := by rw [hBe]; exact fold_length
      obtain ⟨sir, tsxr, rfl, hinr, hfinr, hparr⟩ := id hB
      obtain ⟨adir, capir, rfl, hinra, hinrb, hinrc, hinrd⟩ := id hinr
      have hinrm : B.ins.length ≤ 9223372036854775807 := by have h1 := hinra; have h2 := hinrb; unfold maxLen at h2; omega
      obtain ⟨spr, sqr, rfl, ht1r, ht2r, htkr, htar, httr, hter⟩ := id hfinr
      obtain ⟨adpr, cappr, rfl, htpra, htprb, htprc, htprd⟩ := id ht1r
      have htprm : B.fin.args.length ≤ 9223372036854775807 := by have h1 := htpra; have h2 := htprb; unfold maxLen at h2; omega
      obtain ⟨adqr, capqr, rfl, htqra, htqrb, htqrc, htqrd⟩ := id ht2r
      have htqrm : B.fin.elses.length ≤ 9223372036854775807 := by have h1 := htqra; have h2 := htqrb; unfold maxLen at h2; omega
      refine WL.alloc (tyZero_spec zer_29) rfl rfl hS ?_
      clear hS; intro w8 b7 hb_b7 hS
      refine WL.store (cs := [.int .i64 B.params, .slice adir B.ins.length capir, .int .i64 B.fin.kind, .int .i64 B.fin.a, .int .i64 B.fin.to, .slice adpr B.fin.args.length cappr, .int .i64 B.fin.els, .slice adqr B.fin.elses.length capqr]) (c' := #[.int .i64 B.params, .slice adir B.ins.length capir, .int .i64 B.fin.kind, .int .i64 B.fin.a, .int .i64 B.fin.to, .slice adpr B.fin.args.length cappr, .int .i64 B.fin.els, .slice adqr B.fin.elses.length capqr]) (L' := [(b7, .cells #[.int .i64 B.params, .slice adir B.ins.length capir, .int .i64 B.fin.kind, .int .i64 B.fin.a, .int .i64 B.fin.to, .slice adpr B.fin.args.length cappr, .int .i64 B.fin.els, .slice adqr B.fin.elses.length capqr] 29 (0, 0)), (b1, .cells #[.int .i64 b.params, .slice adi b.ins.length capi, .int .i64 b.fin.kind, .int .i64 b.fin.a, .int .i64 b.fin.to, .slice adp b.fin.args.length capp, .int .i64 b.fin.els, .slice adq b.fin.elses.length capq] 29 (0, 0))]) 0 rfl rfl rfl rfl siz_29 rfl rfl rfl rfl rfl hS ?_
      clear hS; intro w9 hS
      refine WL.nil ?_
      refine N.seq ?_
      refine W.seq ?_
      refine W.region ?_
      refine WL.loadN (cs := [.int .i64 b.params, .slice adi b.ins.length capi, .int .i64 b.fin.kind, .int .i64 b.fin.a, .int .i64 b.fin.to, .slice adp b.fin.args.length capp, .int .i64 b.fin.els, .slice adq b.fin.elses.length capq]) agg_29 rfl rfl rfl rfl (hS.cells 1 (m := 8) rfl rfl) ?_
      refine WL.callF (vs := [.agg #[.int .i64 b.params, .slice adi b.ins.length capi, .int .i64 b.fin.kind, .int .i64 b.fin.a, .int .i64 b.fin.to, .slice adp b.fin.args.length capp, .int .i64 b.fin.els, .slice adq b.fin.elses.length capq]]) Try.func12 (by kernel_rfl) rfl rfl rfl (known_ret b _ (ro := (roFrom ro w3 w6)) (fun b hb => (hS.snap b hb).1) (hb2.keep hS.alike) (by omega) (by omega)) ?_
      rintro v w10 ⟨hks, hbl⟩
      have hal2 := hS.alikeTo hbl (ro' := roFrom (roFrom ro w3 w6) w9 w10) (fun b hb => .inl hb)
      replace hS := hS.readNew hbl
      have hinB2 : Elems (roFrom (roFrom ro w3 w6) w9 w10) w10 6 (InstC (roFrom (roFrom ro w3 w6) w9 w10) w10) adi b.ins := hinB.keep hal2 (fun _ _ h => h.keep hal2)
      have hinrd2 : Elems (roFrom (roFrom ro w3 w6) w9 w10) w10 6 (InstC (roFrom (roFrom ro w3 w6) w9 w10) w10) adir B.ins := hinrd.keep hal2 (fun _ _ h => h.keep hal2)
      obtain ⟨K, hKe⟩ : ∃ z, z = (vals b).map (·.2) := ⟨_, rfl⟩
      rw [← hKe] at hks
      have hKl := kn_length hKe
      obtain ⟨adk, capk, rfl, hk1, hk2, hk3, hk4⟩ := hks
      have hk5 : Elems (roFrom (roFrom ro w3 w6) w9 w10) w10 1 BoolC adk K := hk4.keep (fun x hx => ⟨.inr hx, rfl⟩) (fun _ _ h => h)
      refine WL.assign rfl rfl rfl ?_
      refine WL.nil ?_
      refine N.seq ?_
      refine W.seq ?_
      refine W.seq ?_
      refine W.region ?_
      refine WL.move rfl rfl rfl ?_
      refine WL.lenSlice Try.underlying36 rfl rfl rfl ?_
      refine WL.fieldAddr fo_29_0 rfl rfl rfl ?_
      refine WL.load1 (v := .int .i64 b.params) one_3 rfl rfl rfl (hS.cell 1 rfl rfl) ?_
      refine WL.fieldAddr fo_29_1 rfl rfl rfl ?_
      refine WL.load1 (v := .slice adi b.ins.length capi) one_24 rfl rfl rfl (hS.cell 1 rfl rfl) ?_
      refine WL.lenSlice Try.underlying24 rfl rfl rfl ?_
      refine WL.add (c := b.params + (b.ins.length : Int)) rfl rfl rfl rfl (rfl) (by omega) ?_
      refine WL.bin rfl rfl rfl rfl rfl ?_
      refine WL.set 32 (v' := .bool false) rfl (by simp only [Bool.not_eq_false', decide_eq_true_eq, Value.bool.injEq]; omega) ?_
      refine WL.move rfl rfl rfl ?_
      refine WL.fieldAddr fo_29_1 rfl rfl rfl ?_
      refine WL.load1 (v := .slice adir B.ins.length capir) one_24 rfl rfl rfl (hS.cell 0 rfl rfl) ?_
      refine WL.lenSlice Try.underlying24 rfl rfl rfl ?_
      refine WL.fieldAddr fo_29_1 rfl rfl rfl ?_
      refine WL.load1 (v := .slice adi b.ins.length capi) one_24 rfl rfl rfl (hS.cell 1 rfl rfl) ?_
      refine WL.lenSlice Try.underlying24 rfl rfl rfl ?_
      refine WL.bin rfl rfl rfl rfl rfl ?_
      refine WL.set 40 (v' := .bool false) rfl (by rw [hBl]; simp) ?_
      refine WL.pick (v := .bool false) rfl rfl rfl rfl rfl rfl ?_
      refine WL.nil ?_
      refine N.seq ?_
      refine W.condF rfl ?_
      refine W.skip ?_
      refine N.seq ?_
      refine W.seq ?_
      refine W.seq ?_
      refine W.region ?_
      refine WL.assign rfl rfl rfl ?_
      refine WL.nil ?_
      refine N.seq ?_
      refine W.block ?_
      refine W.loop (α := Nat) (fun (k : Nat) => [(0, .agg #[.int .i64 b.params, .slice adi b.ins.length capi, .int .i64 b.fin.kind, .int .i64 b.fin.a, .int .i64 b.fin.to, .slice adp b.fin.args.length capp, .int .i64 b.fin.els, .slice adq b.fin.elses.length capq]), (1, .pointer (some ⟨b1, 0, none⟩)), (3, .bool true), (4, .pointer (some ⟨b7, 0, none⟩)), (5, .slice adk K.length capk), (6, .int .i64 (k : Int)), (10, .bool true), (11, .pointer (some ⟨b1, 0, none⟩)), (12, .int .i64 b.params), (13, .bool false), (14, .bool false), (15, .pointer (some ⟨b1, 0, none⟩)), (16, .int .i64 b.params), (17, .bool (decide (b.params < 0))), (18, .bool (decide (b.params < 0))), (20, .agg #[.int .i64 b.params, .slice adi b.ins.length capi, .int .i64 b.fin.kind, .int .i64 b.fin.a, .int .i64 b.fin.to, .slice adp b.fin.args.length capp, .int .i64 b.fin.els, .slice adq b.fin.elses.length capq]), (21, .agg #[.int .i64 B.params, .slice adir B.ins.length capir, .int .i64 B.fin.kind, .int .i64 B.fin.a, .int .i64 B.fin.to, .slice adpr B.fin.args.length cappr, .int .i64 B.fin.els, .slice adqr B.fin.elses.length capqr]), (22, .agg #[.int .i64 b.params, .slice adi b.ins.length capi, .int .i64 b.fin.kind, .int .i64 b.fin.a, .int .i64 b.fin.to, .slice adp b.fin.args.length capp, .int .i64 b.fin.els, .slice adq b.fin.elses.length capq]), (23, .slice adk K.length capk), (24, .slice adk K.length capk), (25, .int .i64 (K.length : Int)), (26, .pointer (some ⟨b1, 0, none⟩)), (27, .int .i64 b.params), (28, .pointer (some ⟨b1, 1, none⟩)), (29, .slice adi b.ins.length capi), (30, .int .i64 (b.ins.length : Int)), (31, .int .i64 (b.params + (b.ins.length : Int))), (32, .bool false), (33, .bool false), (34, .pointer (some ⟨b7, 1, none⟩)), (35, .slice adir B.ins.length capir), (36, .int .i64 (B.ins.length : Int)), (37, .pointer (some ⟨b1, 1, none⟩)), (38, .slice adi b.ins.length capi), (39, .int .i64 (b.ins.length : Int)), (40, .bool false), (41, .bool false)]) (fun (k : Nat) u => St w w10 u (roFrom (roFrom ro w3 w6) w9 w10) [(b7, .cells #[.int .i64 B.params, .slice adir B.ins.length capir, .int .i64 B.fin.kind, .int .i64 B.fin.a, .int .i64 B.fin.to, .slice adpr B.fin.args.length cappr, .int .i64 B.fin.els, .slice adqr B.fin.elses.length capqr] 29 (0, 0)), (b1, .cells #[.int .i64 b.params, .slice adi b.ins.length capi, .int .i64 b.fin.kind, .int .i64 b.fin.a, .int .i64 b.fin.to, .slice adp b.fin.args.length capp, .int .i64 b.fin.els, .slice adq b.fin.elses.length capq] 29 (0, 0))] [] ∧ k ≤ K.length) (fun (k : Nat) => K.length - k) 0 ⟨rfl, rfl, rfl, rfl, rfl, rfl, rfl, rfl, rfl, rfl, rfl, rfl, rfl, rfl, rfl, rfl, rfl, rfl, rfl, rfl, rfl, rfl, rfl, rfl, rfl, rfl, rfl, rfl, rfl, rfl, rfl, rfl, rfl, rfl, rfl, rfl, rfl, trivial⟩ ⟨hS, Nat.zero_le _⟩ ?_
      clear hS
      rintro k w11 ⟨hS, hk⟩
      refine W.seq ?_
      refine W.seq ?_
      refine W.region ?_
      refine WL.move rfl rfl rfl ?_
      refine WL.move rfl rfl rfl ?_
      refine WL.lenSlice Try.underlying36 rfl rfl rfl ?_
      refine WL.bin rfl rfl rfl rfl rfl ?_
      refine WL.nil ?_
      refine N.seq ?_
      refine W.cond rfl (fun hc12 => ?_) (fun hc12 => ?_)
      ·
        have hc12p : (k : Int) < (K.length : Int) := by simpa using hc12
        refine W.skip ?_
        refine N.seq ?_
        refine W.seq ?_
        refine W.block ?_
        refine W.seq ?_
        refine W.seq ?_
        refine W.region ?_
        refine WL.move rfl rfl rfl ?_
        refine WL.fieldAddr fo_29_0 rfl rfl rfl ?_
        refine WL.load1 (v := .int .i64 b.params) one_3 rfl rfl rfl (hS.cell 1 rfl rfl) ?_
        refine WL.bin rfl rfl rfl rfl rfl ?_
        refine WL.nil ?_
        refine N.seq ?_
        refine W.cond rfl (fun hc13 => ?_) (fun hc13 => ?_)
        ·
          have hc13p : (k : Int) < b.params := by simpa using hc13
          refine W.seq ?_
          refine W.seq ?_
          refine W.region ?_
          refine WL.move rfl rfl rfl ?_
          refine WL.move rfl rfl rfl ?_
          have hj14 : k < K.length := by omega
          obtain ⟨x14, hx14⟩ : ∃ zz, K[k]? = some zz := ⟨_, List.getElem?_eq_getElem hj14⟩
          obtain ⟨b14, o14, cs14, hE14, hr14, hl14, hc14, hQ14⟩ := hk5 k _ hx14
          cases hQ14
          refine WL.indexAddrE (j := k) Try.underlying36 isz_4 rfl rfl rfl rfl hj14 hE14 ?_
          refine WL.load1 (v := .bool x14) one_4 rfl rfl rfl (hS.roCells hr14 hc14 0 _ rfl) ?_
          refine WL.nil ?_
          refine N.seq ?_
          refine W.cond rfl (fun hc15 => ?_) (fun hc15 => ?_)
          ·
            rw [head_kn hKe (by omega) hx14] at hc15
            cases hc15
          ·
            refine W.skip ?_
            refine N.seq ?_
            refine W.exit ?_
            refine X.seq ?_
            refine X.blk ?_
            refine N.seq ?_
            refine W.region ?_
            refine WL.move rfl rfl rfl ?_
            refine WL.add (c := (k : Int) + 1) rfl rfl rfl rfl (rfl) (by omega) ?_
            refine WL.assign rfl rfl rfl ?_
            refine WL.nil ?_
            exact N.loop (k + 1) ⟨rfl, rfl, rfl, rfl, rfl, rfl, rfl, rfl, rfl, rfl, rfl, rfl, rfl, rfl, rfl, rfl, rfl, rfl, rfl, rfl, rfl, rfl, rfl, rfl, rfl, rfl, rfl, rfl, rfl, rfl, rfl, rfl, rfl, rfl, rfl, rfl, rfl, trivial⟩ ⟨hS, by omega⟩ (by first | omega | (simp only; omega))
        ·
          have hc13p : ¬ ((k : Int) < b.params) := by simpa using hc13
          refine W.skip ?_
          refine N.seq ?_
          refine W.seq ?_
          refine W.region ?_
          refine WL.fieldAddr fo_29_1 rfl rfl rfl ?_
          refine WL.load1 (v := .slice adi b.ins.length capi) one_24 rfl rfl rfl (hS.cell 1 rfl rfl) ?_
          refine WL.move rfl rfl rfl ?_
          refine WL.fieldAddr fo_29_0 rfl rfl rfl ?_
          refine WL.load1 (v := .int .i64 b.params) one_3 rfl rfl rfl (hS.cell 1 rfl rfl) ?_
          refine WL.sub_ (c := (k : Int) - b.params) rfl rfl rfl rfl (rfl) (by omega) ?_
          refine WL.set 61 (v' := .int .i64 ((k - b.params.toNat : Nat) : Int)) rfl (by congr 1; omega) ?_
          have hj16 : (k - b.params.toNat : Nat) < b.ins.length := by omega
          obtain ⟨x16, hx16⟩ : ∃ zz, b.ins[(k - b.params.toNat : Nat)]? = some zz := ⟨_, List.getElem?_eq_getElem hj16⟩
          obtain ⟨b16, o16, cs16, hE16, hr16, hl16, hc16, hQ16⟩ := hinB2 (k - b.params.toNat : Nat) _ hx16
          have hQk16 := hQ16
          obtain ⟨sv16, rfl, hs16, ho16, ha16, hb16, hk16, hn16⟩ := hQ16
          obtain ⟨ad16, cap16, rfl, hs16a, hs16b, hs16c, hs16d⟩ := id hs16
          have hs16m : x16.args.length ≤ 9223372036854775807 := by have h1 := hs16a; have h2 := hs16b; unfold maxLen at h2; omega
          refine WL.indexAddrE (j := (k - b.params.toNat : Nat)) Try.underlying24 isz_32 rfl rfl rfl rfl hj16 hE16 ?_
          refine WL.loadN (cs := [.int .i64 x16.op, .int .i64 x16.a, .int .i64 x16.b, .int .u64 x16.k, .string x16.name, .slice ad16 x16.args.length cap16]) agg_32 rfl rfl rfl rfl (hS.roCells hr16 hc16) ?_
          refine WL.alloc (tyZero_spec zer_32) rfl rfl hS ?_
          clear hS; intro w18 b17 hb_b17 hS
          refine WL.store (cs := [.int .i64 x16.op, .int .i64 x16.a, .int .i64 x16.b, .int .u64 x16.k, .string x16.name, .slice ad16 x16.args.length cap16]) (c' := #[.int .i64 x16.op, .int .i64 x16.a, .int .i64 x16.b, .int .u64 x16.k, .string x16.name, .slice ad16 x16.args.length cap16]) (L' := [(b17, .cells #[.int .i64 x16.op, .int .i64 x16.a, .int .i64 x16.b, .int .u64 x16.k, .string x16.name, .slice ad16 x16.args.length cap16] 32 (0, 0)), (b7, .cells #[.int .i64 B.params, .slice adir B.ins.length capir, .int .i64 B.fin.kind, .int .i64 B.fin.a, .int .i64 B.fin.to, .slice adpr B.fin.args.length cappr, .int .i64 B.fin.els, .slice adqr B.fin.elses.length capqr] 29 (0, 0)), (b1, .cells #[.int .i64 b.params, .slice adi b.ins.length capi, .int .i64 b.fin.kind, .int .i64 b.fin.a, .int .i64 b.fin.to, .slice adp b.fin.args.length capp, .int .i64 b.fin.els, .slice adq b.fin.elses.length capq] 29 (0, 0))]) 0 rfl rfl rfl rfl siz_32 rfl rfl rfl rfl rfl hS ?_
          clear hS; intro w19 hS
          refine WL.nil ?_
          refine N.seq ?_
          refine W.seq ?_
          refine W.region ?_
          refine WL.fieldAddr fo_29_1 rfl rfl rfl ?_
          refine WL.load1 (v := .slice adir B.ins.length capir) one_24 rfl rfl rfl (hS.cell 1 rfl rfl) ?_
          refine WL.move rfl rfl rfl ?_
          refine WL.fieldAddr fo_29_0 rfl rfl rfl ?_
          refine WL.load1 (v := .int .i64 b.params) one_3 rfl rfl rfl (hS.cell 2 rfl rfl) ?_
          refine WL.sub_ (c := (k : Int) - b.params) rfl rfl rfl rfl (rfl) (by omega) ?_
          refine WL.set 69 (v' := .int .i64 ((k - b.params.toNat : Nat) : Int)) rfl (by congr 1; omega) ?_
          have hj20 : (k - b.params.toNat : Nat) < B.ins.length := by omega
          obtain ⟨x20, hx20⟩ : ∃ zz, B.ins[(k - b.params.toNat : Nat)]? = some zz := ⟨_, List.getElem?_eq_getElem hj20⟩
          obtain ⟨b20, o20, cs20, hE20, hr20, hl20, hc20, hQ20⟩ := hinrd2 (k - b.params.toNat : Nat) _ hx20
          have hQk20 := hQ20
          obtain ⟨sv20, rfl, hs20, ho20, ha20, hb20, hk20, hn20⟩ := hQ20
          obtain ⟨ad20, cap20, rfl, hs20a, hs20b, hs20c, hs20d⟩ := id hs20
          have hs20m : x20.args.length ≤ 9223372036854775807 := by have h1 := hs20a; have h2 := hs20b; unfold maxLen at h2; omega
          refine WL.indexAddrE (j := (k - b.params.toNat : Nat)) Try.underlying24 isz_32 rfl rfl rfl rfl hj20 hE20 ?_
          refine WL.loadN (cs := [.int .i64 x20.op, .int .i64 x20.a, .int .i64 x20.b, .int .u64 x20.k, .string x20.name, .slice ad20 x20.args.length cap20]) agg_32 rfl rfl rfl rfl (hS.roCells hr20 hc20) ?_
          refine WL.alloc (tyZero_spec zer_32) rfl rfl hS ?_
          clear hS; intro w22 b21 hb_b21 hS
          refine WL.store (cs := [.int .i64 x20.op, .int .i64 x20.a, .int .i64 x20.b, .int .u64 x20.k, .string x20.name, .slice ad20 x20.args.length cap20]) (c' := #[.int .i64 x20.op, .int .i64 x20.a, .int .i64 x20.b, .int .u64 x20.k, .string x20.name, .slice ad20 x20.args.length cap20]) (L' := [(b21, .cells #[.int .i64 x20.op, .int .i64 x20.a, .int .i64 x20.b, .int .u64 x20.k, .string x20.name, .slice ad20 x20.args.length cap20] 32 (0, 0)), (b17, .cells #[.int .i64 x16.op, .int .i64 x16.a, .int .i64 x16.b, .int .u64 x16.k, .string x16.name, .slice ad16 x16.args.length cap16] 32 (0, 0)), (b7, .cells #[.int .i64 B.params, .slice adir B.ins.length capir, .int .i64 B.fin.kind, .int .i64 B.fin.a, .int .i64 B.fin.to, .slice adpr B.fin.args.length cappr, .int .i64 B.fin.els, .slice adqr B.fin.elses.length capqr] 29 (0, 0)), (b1, .cells #[.int .i64 b.params, .slice adi b.ins.length capi, .int .i64 b.fin.kind, .int .i64 b.fin.a, .int .i64 b.fin.to, .slice adp b.fin.args.length capp, .int .i64 b.fin.els, .slice adq b.fin.elses.length capq] 29 (0, 0))]) 0 rfl rfl rfl rfl siz_32 rfl rfl rfl rfl rfl hS ?_
          clear hS; intro w23 hS
          refine WL.nil ?_
          refine N.seq ?_
          refine W.seq ?_
          refine W.region ?_
          refine WL.loadN (cs := [.int .i64 x16.op, .int .i64 x16.a, .int .i64 x16.b, .int .u64 x16.k, .string x16.name, .slice ad16 x16.args.length cap16]) agg_32 rfl rfl rfl rfl (hS.cells 1 (m := 6) rfl rfl) ?_
          refine WL.loadN (cs := [.int .i64 x20.op, .int .i64 x20.a, .int .i64 x20.b, .int .u64 x20.k, .string x20.name, .slice ad20 x20.args.length cap20]) agg_32 rfl rfl rfl rfl (hS.cells 0 (m := 6) rfl rfl) ?_
          refine WL.callF (vs := [.agg #[.int .i64 x16.op, .int .i64 x16.a, .int .i64 x16.b, .int .u64 x16.k, .string x16.name, .slice ad16 x16.args.length cap16], .agg #[.int .i64 x20.op, .int .i64 x20.a, .int .i64 x20.b, .int .u64 x20.k, .string x20.name, .slice ad20 x20.args.length cap20]]) Try.func14 (by kernel_rfl) rfl rfl rfl (sameInst_ret x16 x20 _ _ (ro := (roFrom (roFrom ro w3 w6) w9 w10)) (fun b hb => (hS.snap b hb).1) (InstC.keep hQk16 hS.alike) (InstC.keep hQk20 hS.alike)) ?_
          rintro v w24 ⟨rfl, hbl⟩
          replace hS := hS.grow hbl
          refine WL.assign rfl rfl rfl ?_
          refine WL.nil ?_
          refine N.seq ?_
          refine W.seq ?_
          refine W.region ?_
          refine WL.move rfl rfl rfl ?_
          refine WL.move rfl rfl rfl ?_
          have hj25 : k < K.length := by omega
          obtain ⟨x25, hx25⟩ : ∃ zz, K[k]? = some zz := ⟨_, List.getElem?_eq_getElem hj25⟩
          obtain ⟨b25, o25, cs25, hE25, hr25, hl25, hc25, hQ25⟩ := hk5 k _ hx25
          cases hQ25
          refine WL.indexAddrE (j := k) Try.underlying36 isz_4 rfl rfl rfl rfl hj25 hE25 ?_
          refine WL.load1 (v := .bool x25) one_4 rfl rfl rfl (hS.roCells hr25 hc25 0 _ rfl) ?_
          refine WL.move rfl rfl rfl ?_
          cases hg26 : x25
          ·
            refine WL.skp rfl rfl ?_
            refine WL.skp rfl rfl ?_
            refine WL.skp rfl rfl ?_
            refine WL.pick (v := .bool false) rfl rfl rfl rfl rfl rfl ?_
            refine WL.move rfl rfl rfl ?_
            refine WL.move rfl rfl rfl ?_
            refine WL.move rfl rfl rfl ?_
            refine WL.indexAddrE (j := k) Try.underlying36 isz_4 rfl rfl rfl rfl hj25 hE25 ?_
            refine WL.load1 (v := .bool x25) one_4 rfl rfl rfl (hS.roCells hr25 hc25 0 _ rfl) ?_
            refine WL.set 88 (v' := .bool false) rfl (by rw [hg26]) ?_
            refine WL.not rfl rfl rfl ?_
            refine WL.set 89 (v' := .bool true) rfl rfl ?_
            refine WL.move rfl rfl rfl ?_
            refine WL.move rfl rfl rfl ?_
            refine WL.not rfl rfl rfl ?_
            refine WL.pick (v := .bool (!(decide (x16 = x20)))) rfl rfl rfl rfl rfl rfl ?_
            refine WL.pick (v := .bool (!(decide (x16 = x20)))) rfl rfl rfl rfl rfl rfl ?_
            refine WL.nil ?_
            refine N.seq ?_
            refine W.cond rfl (fun hc27 => ?_) (fun hc27 => ?_)
            ·
              have hc27p : ¬ (x16 = x20) := by simpa using hc27
              exact absurd ((fold_ins hKe (by omega) hx25 hx16 (hBe ▸ hx20)).2 hg26) hc27p
            ·
              have hc27p : x16 = x20 := by simpa using hc27
              refine W.skip ?_
              refine N.blk ?_
              refine N.seq ?_
              refine W.region ?_
              refine WL.move rfl rfl rfl ?_
              refine WL.add (c := (k : Int) + 1) rfl rfl rfl rfl (rfl) (by omega) ?_
              refine WL.assign rfl rfl rfl ?_
              refine WL.nil ?_
              have hS := hS.dropN 2
              exact N.loop (k + 1) ⟨rfl, rfl, rfl, rfl, rfl, rfl, rfl, rfl, rfl, rfl, rfl, rfl, rfl, rfl, rfl, rfl, rfl, rfl, rfl, rfl, rfl, rfl, rfl, rfl, rfl, rfl, rfl, rfl, rfl, rfl, rfl, rfl, rfl, rfl, rfl, rfl, rfl, trivial⟩ ⟨hS, by omega⟩ (by first | omega | (simp only; omega))
          ·
            refine WL.fieldAddr fo_32_0 rfl rfl rfl ?_
            refine WL.load1 (v := .int .i64 x20.op) one_3 rfl rfl rfl (hS.cell 0 rfl rfl) ?_
            refine WL.bin rfl rfl rfl rfl rfl ?_
            refine WL.pick (v := .bool (!decide (x20.op = 1))) rfl rfl rfl rfl rfl rfl ?_
            refine WL.move rfl rfl rfl ?_
            cases hg28 : (!decide (x20.op = 1))
            ·
              have hg28p : x20.op = 1 := by simpa using hg28
              refine WL.move rfl rfl rfl ?_
              refine WL.move rfl rfl rfl ?_
              refine WL.indexAddrE (j := k) Try.underlying36 isz_4 rfl rfl rfl rfl hj25 hE25 ?_
              refine WL.load1 (v := .bool x25) one_4 rfl rfl rfl (hS.roCells hr25 hc25 0 _ rfl) ?_
              refine WL.set 88 (v' := .bool true) rfl (by rw [hg26]) ?_
              refine WL.not rfl rfl rfl ?_
              refine WL.set 89 (v' := .bool false) rfl rfl ?_
              refine WL.move rfl rfl rfl ?_
              refine WL.skp rfl rfl ?_
              refine WL.skp rfl rfl ?_
              refine WL.pick (v := .bool false) rfl rfl rfl rfl rfl rfl ?_
              refine WL.pick (v := .bool false) rfl rfl rfl rfl rfl rfl ?_
              refine WL.nil ?_
              refine N.seq ?_
              refine W.condF rfl ?_
              refine W.skip ?_
              refine N.blk ?_
              refine N.seq ?_
              refine W.region ?_
              refine WL.move rfl rfl rfl ?_
              refine WL.add (c := (k : Int) + 1) rfl rfl rfl rfl (rfl) (by omega) ?_
              refine WL.assign rfl rfl rfl ?_
              refine WL.nil ?_
              have hS := hS.dropN 2
              exact N.loop (k + 1) ⟨rfl, rfl, rfl, rfl, rfl, rfl, rfl, rfl, rfl, rfl, rfl, rfl, rfl, rfl, rfl, rfl, rfl, rfl, rfl, rfl, rfl, rfl, rfl, rfl, rfl, rfl, rfl, rfl, rfl, rfl, rfl, rfl, rfl, rfl, rfl, rfl, rfl, trivial⟩ ⟨hS, by omega⟩ (by first | omega | (simp only; omega))
            ·
              have hg28p : ¬ (x20.op = 1) := by simpa using hg28
              exact absurd ((fold_ins hKe (by omega) hx25 hx16 (hBe ▸ hx20)).1 hg26) hg28p
      ·
        have hc12p : ¬ ((k : Int) < (K.length : Int)) := by simpa using hc12
        refine W.exit ?_
        refine X.seq ?_
        refine X.loop ?_
        refine X.blk ?_
        refine N.seq ?_
        refine W.seq ?_
        refine W.region ?_
        refine WL.move rfl rfl rfl ?_
        refine WL.assign rfl rfl rfl ?_
        refine WL.nil ?_
        refine N.seq ?_
        refine Fin.ret1 rfl (v := .bool true) rfl ?_
        exact ⟨rfl, hS.below⟩
  ·
    have hg4p : 1000 < b.params := by simpa using hg4
    refine WL.skp rfl rfl ?_
    refine WL.skp rfl rfl ?_
    refine WL.skp rfl rfl ?_
    refine WL.pick (v := .bool true) rfl rfl rfl rfl rfl rfl ?_
    refine WL.nil ?_
    refine N.seq ?_
    refine W.condT rfl ?_
    refine W.seq ?_
    refine W.region ?_
    refine WL.move rfl rfl rfl ?_
    refine WL.assign rfl rfl rfl ?_
    refine WL.nil ?_
    refine N.seq ?_
    refine Fin.ret1 rfl (v := .bool true) rfl ?_
    exact ⟨rfl, hS.below⟩

end Go.Proofs.Ytokkiaokpfediaa
