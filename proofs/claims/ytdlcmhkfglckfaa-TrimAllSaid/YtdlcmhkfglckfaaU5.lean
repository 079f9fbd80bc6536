/-
  Contracts of layer 13 (trim). No condition beyond those that each theorem states.
-/
import Derived.Test.YtdlcmhkfglckfaaU4
namespace Go.Proofs.Ytdlcmhkfglckfaa
open Go.RowKit

theorem ok13_of5 {f : DFunc} {b : DBlock} (h : func5 f = true) (hb : b ∈ f.blocks) : Ok13 b := by
  have hb5 := (func5_all h).2 b hb
  obtain ⟨p0, p1, hn⟩ := block5_all hb5
  obtain ⟨hall, hterm⟩ := block5_more hb5
  obtain ⟨t1, t2, t3, t4, _, _, t7, _, _⟩ := term5_all hterm h
  have hN : ((b.params.toNat + b.ins.length : Nat) : Int) = b.params + b.ins.length := by omega
  have hx : ∀ x ∈ b.ins, ∃ i : Nat, i < b.ins.length ∧ inst5 x (b.params + i) = true := fun x hx => by
    obtain ⟨i, hi⟩ := List.mem_iff_getElem?.1 hx
    exact ⟨i, (List.getElem?_eq_some_iff.1 hi).1, allFrom_at b.ins b.params i x hall hi⟩
  refine ⟨p0, by omega, by omega, by omega, by omega, fun x hx' => ?_, fun v hv => ?_, fun x hx' v hv => ?_⟩
  · obtain ⟨i, _, h5⟩ := hx x hx'; have := (inst5_all h5).1; omega
  · rw [hN]
    unfold ends13 at hv
    simp only [List.mem_append] at hv
    rcases hv with (hv | hv) | hv
    · exact t3 v hv
    · exact t4 v hv
    · split at hv
      · cases hv
      · rename_i hk
        simp only [List.mem_cons, List.not_mem_nil, or_false] at hv
        rw [hv]; exact t7 hk
  · obtain ⟨i, hi, h5⟩ := hx x hx'
    have := (inst5_all h5).2.1 v hv
    rw [hN]; omega
def key13 (x : DInst) : Int × ByteArray × Nat := (x.op, x.name, x.args.length)
def Keep13 (l r : List DInst) : Prop := (l.filter does13).map key13 = (r.filter does13).map key13
theorem does13_inst (g : Int → Option Int) (x : DInst) : does13 (inst13 g x) = does13 x := rfl
theorem key13_inst (g : Int → Option Int) (x : DInst) : key13 (inst13 g x) = key13 x := by
  unfold key13 inst13
  dsimp only
  congr 2
  split
  · simp [anew13]
  · rfl
theorem keep13_at (b : DBlock) (k : Nat) (hk : k ≤ b.ins.length) : Keep13 (b.ins.take k) (at13 b k).2 := by
  induction k with
  | zero => simp [Keep13, at13, go13]
  | succ k ih =>
    have h1 := ih (by omega)
    have hx : b.ins[k]? = some b.ins[k] := List.getElem?_eq_getElem (by omega)
    rw [at13_next hx, take_next hx]
    unfold Keep13 insStep13 at *
    rw [List.filter_append, List.map_append, h1]
    by_cases hd : does13 b.ins[k] = true
    · rw [if_pos (.inl hd)]
      dsimp only
      rw [List.filter_append, List.map_append]
      congr 1
      rw [List.filter_cons_of_pos hd, List.filter_cons_of_pos (by rw [does13_inst]; exact hd)]
      simp [key13_inst]
    · rw [List.filter_cons_of_neg hd]
      split
      · dsimp only
        rw [List.filter_append, List.filter_cons_of_neg (by rw [does13_inst]; exact hd)]
        simp
      · simp
theorem keep13_block (b : DBlock) : Keep13 b.ins (block13 b).ins := by
  have := keep13_at b b.ins.length (Nat.le_refl _)
  rw [List.take_length] at this
  exact this
theorem keepL {l r : List DInst} {i n : Nat} {x : DInst} (hx : l[i]? = some x) (h : does13 x = false) (K : Keep13 (l.drop i) (r.drop n)) : Keep13 (l.drop (i + 1)) (r.drop n) := by
  have hi := (List.getElem?_eq_some_iff.1 hx)
  obtain ⟨hlt, rfl⟩ := hi
  rw [Keep13, List.drop_eq_getElem_cons hlt, List.filter_cons_of_neg (by rw [h]; simp)] at K
  exact K
theorem keepR {l r : List DInst} {i n : Nat} {y : DInst} (hy : r[n]? = some y) (h : does13 y = false) (K : Keep13 (l.drop i) (r.drop n)) : Keep13 (l.drop i) (r.drop (n + 1)) := by
  obtain ⟨hlt, rfl⟩ := List.getElem?_eq_some_iff.1 hy
  unfold Keep13 at K ⊢
  rw [List.drop_eq_getElem_cons hlt, List.filter_cons_of_neg (by rw [h]; simp)] at K
  exact K
theorem keepB {l r : List DInst} {i n : Nat} {x y : DInst} (hx : l[i]? = some x) (hy : r[n]? = some y) (h : does13 x = true) (h' : does13 y = true) (K : Keep13 (l.drop i) (r.drop n)) :
    y.op = x.op ∧ y.name = x.name ∧ y.args.length = x.args.length ∧ Keep13 (l.drop (i + 1)) (r.drop (n + 1)) := by
  obtain ⟨hlt, rfl⟩ := List.getElem?_eq_some_iff.1 hx
  obtain ⟨hlt', rfl⟩ := List.getElem?_eq_some_iff.1 hy
  rw [Keep13, List.drop_eq_getElem_cons hlt, List.drop_eq_getElem_cons hlt', List.filter_cons_of_pos h, List.filter_cons_of_pos h', List.map_cons, List.map_cons] at K
  simp only [List.cons.injEq, key13, Prod.mk.injEq] at K
  exact ⟨K.1.1.symm, K.1.2.1.symm, K.1.2.2.symm, K.2⟩
theorem keep_end {l r : List DInst} {i n : Nat} {x : DInst} (hx : l[i]? = some x) (h : does13 x = true) (hn : r.length ≤ n) (K : Keep13 (l.drop i) (r.drop n)) : False := by
  obtain ⟨hlt, rfl⟩ := List.getElem?_eq_some_iff.1 hx
  rw [Keep13, List.drop_eq_getElem_cons hlt, List.filter_cons_of_pos h, List.drop_eq_nil_of_le hn] at K
  simp at K
theorem keep_no {l r : List DInst} {i n : Nat} {y : DInst} (hy : r[n]? = some y) (hi : l.length ≤ i) (K : Keep13 (l.drop i) (r.drop n)) : does13 y = false := by
  obtain ⟨hlt, rfl⟩ := List.getElem?_eq_some_iff.1 hy
  cases h : does13 r[n] with
  | false => rfl
  | true =>
    rw [Keep13, List.drop_eq_getElem_cons hlt, List.filter_cons_of_pos h, List.drop_eq_nil_of_le hi] at K
    simp at K
def iK (k : Int) : DInst := ⟨1, 0, 0, k, ⟨#[]⟩, []⟩
def bSh13 : DBlock := ⟨0, [iK 1, iK 2], ⟨3, 1, 0, [], 0, []⟩⟩
def rSh13 : DBlock := ⟨0, [iK 2], ⟨3, 0, 0, [], 0, []⟩⟩
theorem sh13_eq : block13 bSh13 = rSh13 := by rfl
theorem ok13_sh : Ok13 bSh13 := ⟨by decide, by decide, by decide, by decide, by decide, by decide, by decide, by decide⟩
theorem intI {x : Int} (h : -1000 ≤ x ∧ x ≤ 1000) : inI x := by unfold inI; omega
theorem instLit {ro : Nat → Prop} {w : World} (op a b k : Int) (h1 : inI op) (h2 : inI a) (h3 : inI b) (h4 : inU k) : InstC ro w [.int .i64 op, .int .i64 a, .int .i64 b, .int .u64 k, .string ⟨#[]⟩, .slice none 0 0] ⟨op, a, b, k, ⟨#[]⟩, []⟩ :=
  ⟨_, rfl, slv_nil, h1, h2, h3, h4, Nat.zero_le _⟩
theorem termLit {ro : Nat → Prop} {w : World} (k a to els : Int) (h1 : inI k) (h2 : inI a) (h3 : inI to) (h4 : inI els) : TermC ro w [.int .i64 k, .int .i64 a, .int .i64 to, .slice none 0 0, .int .i64 els, .slice none 0 0] ⟨k, a, to, [], els, []⟩ :=
  ⟨_, _, rfl, slv_nil, slv_nil, h1, h2, h3, h4⟩

theorem shown13_ret {w : World} {ro : Nat → Prop} (hro : ∀ b, ro b → b < w.heap.size) : Ret Try.prog 9 #[] w fun v w' => v = .bool true ∧ Below w.heap.size w w' := by
  refine Ret.enter (P := Try.prog) (n := 26) (args := []) (σ := []) Try.func9 rfl rfl rfl rfl ?_
  have hS := St.start (ro := ro) hro
  refine W.seq ?_
  refine W.region ?_
  refine WL.assign rfl rfl rfl ?_
  refine WL.nil ?_
  refine N.seq ?_
  refine W.seq ?_
  refine W.region ?_
  refine WL.build (ps := [(0, .int .i64 1), (3, .int .u64 1)]) (cs := [.int .i64 1, .int .i64 0, .int .i64 0, .int .u64 1, .string ⟨#[]⟩, .slice none 0 0]) rfl rfl rfl (by kernel_rfl) ?_
  refine WL.build (ps := [(0, .int .i64 1), (3, .int .u64 2)]) (cs := [.int .i64 1, .int .i64 0, .int .i64 0, .int .u64 2, .string ⟨#[]⟩, .slice none 0 0]) rfl rfl rfl (by kernel_rfl) ?_
  refine WL.buildSlice (ps := [(0, .agg #[.int .i64 1, .int .i64 0, .int .i64 0, .int .u64 1, .string ⟨#[]⟩, .slice none 0 0]), (1, .agg #[.int .i64 1, .int .i64 0, .int .i64 0, .int .u64 2, .string ⟨#[]⟩, .slice none 0 0])]) (cs := [.int .i64 1, .int .i64 0, .int .i64 0, .int .u64 1, .string ⟨#[]⟩, .slice none 0 0, .int .i64 1, .int .i64 0, .int .i64 0, .int .u64 2, .string ⟨#[]⟩, .slice none 0 0]) Try.underlying27 (tyZero_spec zer_36) rfl rfl rfl rfl (by kernel_rfl) hS ?_
  clear hS; intro w2 b1 hb_b1 hS
  refine WL.build (ps := [(0, .int .i64 3), (1, .int .i64 1)]) (cs := [.int .i64 3, .int .i64 1, .int .i64 0, .slice none 0 0, .int .i64 0, .slice none 0 0]) rfl rfl rfl (by kernel_rfl) ?_
  refine WL.build (ps := [(1, .slice (some ⟨b1, 0, none⟩) 2 2), (2, .agg #[.int .i64 3, .int .i64 1, .int .i64 0, .slice none 0 0, .int .i64 0, .slice none 0 0])]) (cs := [.int .i64 0, .slice (some ⟨b1, 0, none⟩) 2 2, .int .i64 3, .int .i64 1, .int .i64 0, .slice none 0 0, .int .i64 0, .slice none 0 0]) rfl rfl rfl (by kernel_rfl) ?_
  have hsv : InstsV (fun x => x < w2.heap.size) w2 (.slice (some ⟨b1, 0, none⟩) 2 2) bSh13.ins := slv_blk (hS.own _ List.mem_cons_self) rfl ((Chunks.nil.snoc (c := [.int .i64 1, .int .i64 0, .int .i64 0, .int .u64 1, .string ⟨#[]⟩, .slice none 0 0]) rfl (instLit 1 0 0 1 (intI (by decide)) (intI (by decide)) (intI (by decide)) (by unfold inU; decide))).snoc (c := [.int .i64 1, .int .i64 0, .int .i64 0, .int .u64 2, .string ⟨#[]⟩, .slice none 0 0]) rfl (instLit 1 0 0 2 (intI (by decide)) (intI (by decide)) (intI (by decide)) (by unfold inU; decide))) (hS.keys b1 (by simp [keysOf])).2.1 rfl (by decide)
  have hbb : BlockC (fun x => x < w2.heap.size) w2 [.int .i64 0, .slice (some ⟨b1, 0, none⟩) 2 2, .int .i64 3, .int .i64 1, .int .i64 0, .slice none 0 0, .int .i64 0, .slice none 0 0] bSh13 := ⟨_, _, rfl, hsv, termLit _ _ _ _ (intI (by decide)) (intI (by decide)) (intI (by decide)) (intI (by decide)), (show inI 0 from intI (by decide))⟩
  refine WL.callF (vs := [.agg #[.int .i64 0, .slice (some ⟨b1, 0, none⟩) 2 2, .int .i64 3, .int .i64 1, .int .i64 0, .slice none 0 0, .int .i64 0, .slice none 0 0]]) Try.func11 (by kernel_rfl) rfl rfl rfl (block13_ret bSh13 _ (ro := fun x => x < w2.heap.size) (fun _ h => h) hbb ok13_sh) ?_
  rintro v w3 ⟨csr, rfl, hB, hbl⟩
  rw [sh13_eq] at hB
  replace hS := hS.readAll hbl
  have hB2 := hB.keep (alikeAll hbl)
  obtain ⟨sir, tsxr, rfl, hinr, hfinr, hparr⟩ := id hB2
  obtain ⟨adir, capir, rfl, hinra, hinrb, hinrc, hinrd⟩ := id hinr
  have hinrm : rSh13.ins.length ≤ 9223372036854775807 := by have h1 := hinra; have h2 := hinrb; unfold maxLen at h2; omega
  obtain ⟨spr, sqr, rfl, ht1r, ht2r, htkr, htar, httr, hter⟩ := id hfinr
  obtain ⟨adpr, cappr, rfl, htpra, htprb, htprc, htprd⟩ := id ht1r
  have htprm : rSh13.fin.args.length ≤ 9223372036854775807 := by have h1 := htpra; have h2 := htprb; unfold maxLen at h2; omega
  obtain ⟨adqr, capqr, rfl, htqra, htqrb, htqrc, htqrd⟩ := id ht2r
  have htqrm : rSh13.fin.elses.length ≤ 9223372036854775807 := by have h1 := htqra; have h2 := htqrb; unfold maxLen at h2; omega
  refine WL.alloc (tyZero_spec zer_32) rfl rfl hS ?_
  clear hS; intro w5 b4 hb_b4 hS
  refine WL.store (cs := [.int .i64 rSh13.params, .slice adir rSh13.ins.length capir, .int .i64 rSh13.fin.kind, .int .i64 rSh13.fin.a, .int .i64 rSh13.fin.to, .slice adpr rSh13.fin.args.length cappr, .int .i64 rSh13.fin.els, .slice adqr rSh13.fin.elses.length capqr]) (c' := #[.int .i64 rSh13.params, .slice adir rSh13.ins.length capir, .int .i64 rSh13.fin.kind, .int .i64 rSh13.fin.a, .int .i64 rSh13.fin.to, .slice adpr rSh13.fin.args.length cappr, .int .i64 rSh13.fin.els, .slice adqr rSh13.fin.elses.length capqr]) (L' := [(b4, .cells #[.int .i64 rSh13.params, .slice adir rSh13.ins.length capir, .int .i64 rSh13.fin.kind, .int .i64 rSh13.fin.a, .int .i64 rSh13.fin.to, .slice adpr rSh13.fin.args.length cappr, .int .i64 rSh13.fin.els, .slice adqr rSh13.fin.elses.length capqr] 32 (0, 0))]) 0 rfl rfl rfl rfl siz_32 rfl rfl rfl rfl rfl hS ?_
  clear hS; intro w6 hS
  refine WL.nil ?_
  refine N.seq ?_
  refine W.seq ?_
  refine W.region ?_
  refine WL.fieldAddr fo_32_1 rfl rfl rfl ?_
  refine WL.load1 (v := .slice adir rSh13.ins.length capir) one_27 rfl rfl rfl (hS.cell 0 rfl rfl) ?_
  refine WL.lenSlice Try.underlying27 rfl rfl rfl ?_
  refine WL.bin rfl rfl rfl rfl rfl ?_
  refine WL.set 11 (v' := .bool true) rfl (rfl) ?_
  refine WL.move rfl rfl rfl ?_
  refine WL.fieldAddr fo_32_1 rfl rfl rfl ?_
  refine WL.load1 (v := .slice adir rSh13.ins.length capir) one_27 rfl rfl rfl (hS.cell 0 rfl rfl) ?_
  have hj7 : 0 < rSh13.ins.length := by decide
  obtain ⟨x7, hx7⟩ : ∃ zz, rSh13.ins[0]? = some zz := ⟨_, List.getElem?_eq_getElem hj7⟩
  obtain ⟨b7, o7, cs7, hE7, hr7, hl7, hc7, hQ7⟩ := hinrd 0 _ hx7
  obtain rfl : (iK 2) = x7 := Option.some.inj hx7
  have hQk7 := hQ7
  obtain ⟨sv7, rfl, hs7, ho7, ha7, hb7, hk7, hn7⟩ := hQ7
  obtain ⟨ad7, cap7, rfl, hs7a, hs7b, hs7c, hs7d⟩ := id hs7
  have hs7m : ((iK 2).args).length ≤ 9223372036854775807 := by have h1 := hs7a; have h2 := hs7b; unfold maxLen at h2; omega
  refine WL.indexAddrE (j := 0) Try.underlying27 isz_36 rfl rfl rfl rfl hj7 hE7 ?_
  refine WL.fieldAddr fo_36_3 rfl rfl rfl ?_
  refine WL.load1 (v := .int .u64 ((iK 2).k)) one_34 rfl rfl rfl (hS.roCells hr7 hc7 3 _ rfl) ?_
  refine WL.bin rfl rfl rfl rfl rfl ?_
  refine WL.set 18 (v' := .bool true) rfl (rfl) ?_
  refine WL.pick (v := .bool true) rfl rfl rfl rfl rfl rfl ?_
  refine WL.move rfl rfl rfl ?_
  refine WL.fieldAddr fo_32_2 rfl rfl rfl ?_
  refine WL.fieldAddr fo_30_1 rfl rfl rfl ?_
  refine WL.load1 (v := .int .i64 rSh13.fin.a) one_3 rfl rfl rfl (hS.cell 0 rfl rfl) ?_
  refine WL.bin rfl rfl rfl rfl rfl ?_
  refine WL.set 24 (v' := .bool true) rfl (rfl) ?_
  refine WL.pick (v := .bool true) rfl rfl rfl rfl rfl rfl ?_
  refine WL.assign rfl rfl rfl ?_
  refine WL.nil ?_
  refine N.seq ?_
  refine Fin.ret1 rfl (v := .bool true) rfl ?_
  exact ⟨rfl, hS.below⟩

set_option maxRecDepth 10000 in
set_option maxHeartbeats 4000000 in
theorem trimKeeps_ret (f : DFunc) (cf : List Value) (k : Int) (hki : inI k) {w : World} {ro : Nat → Prop} (hro : ∀ b, ro b → b < w.heap.size) (hx : FuncC ro w cf f) (hok : okFunc f) : Ret Try.prog 3 #[.agg cf.toArray, .int .i64 k] w fun v w' => v = .bool true ∧ Below w.heap.size w w' := by
  obtain ⟨sbF, rfl, hblF, hnmF, hbdF, hprF⟩ := id hx
  obtain ⟨adbF, capbF, rfl, hbkFa, hbkFb, hbkFc, hbkFd⟩ := id hblF
  have hbkFm : f.blocks.length ≤ 9223372036854775807 := by have h1 := hbkFa; have h2 := hbkFb; unfold maxLen at h2; omega
  refine Ret.enter (P := Try.prog) (n := 157) (args := [.agg #[.string f.name, .int .i64 f.bind, .int .i64 f.params, .slice adbF f.blocks.length capbF], .int .i64 k]) (σ := [(0, .agg #[.string f.name, .int .i64 f.bind, .int .i64 f.params, .slice adbF f.blocks.length capbF]), (1, .int .i64 k)]) Try.func3 rfl rfl rfl rfl ?_
  have hS := St.start (ro := ro) hro
  have hsub : ∀ b, ro b → ro b ∨ w.heap.size ≤ b := fun _ h => .inl h
  have halT : Alike ro w ro w := Alike.refl
  refine W.seq ?_
  refine W.region ?_
  refine WL.box (v := .agg #[.string f.name, .int .i64 f.bind, .int .i64 f.params, .slice adbF f.blocks.length capbF]) (cs := [.string f.name, .int .i64 f.bind, .int .i64 f.params, .slice adbF f.blocks.length capbF]) rfl rfl rfl rfl hS ?_
  clear hS; intro w2 b1 hb_b1 hS
  refine WL.assign rfl rfl rfl ?_
  refine WL.nil ?_
  refine N.seq ?_
  refine W.seq ?_
  refine W.region ?_
  refine WL.callF (vs := []) Try.func9 (by kernel_rfl) rfl rfl rfl (shown13_ret (ro := ro) (fun b hb => (hS.snap b hb).1)) ?_
  rintro v w3 ⟨rfl, hbl⟩
  replace hS := hS.grow hbl
  refine WL.assign rfl rfl rfl ?_
  refine WL.nil ?_
  refine N.seq ?_
  refine W.seq ?_
  refine W.region ?_
  refine WL.loadN (cs := [.string f.name, .int .i64 f.bind, .int .i64 f.params, .slice adbF f.blocks.length capbF]) agg_24 rfl rfl rfl rfl (hS.cells 0 (m := 4) rfl rfl) ?_
  refine WL.callF (vs := [.agg #[.string f.name, .int .i64 f.bind, .int .i64 f.params, .slice adbF f.blocks.length capbF]]) Try.func10 (by kernel_rfl) rfl rfl rfl (func5_ret f _ (ro := ro) (fun b hb => (hS.snap b hb).1) (hx.keep hS.alike) hok) ?_
  rintro v w4 ⟨rfl, hbl⟩
  replace hS := hS.grow hbl
  refine WL.assign rfl rfl rfl ?_
  refine WL.nil ?_
  refine N.seq ?_
  refine W.seq ?_
  refine W.seq ?_
  refine W.region ?_
  refine WL.move rfl rfl rfl ?_
  refine WL.not rfl rfl rfl ?_
  refine WL.move rfl rfl rfl ?_
  cases hg5 : (!(func5 f))
  ·
    refine WL.move rfl rfl rfl ?_
    refine WL.bin rfl rfl rfl rfl rfl ?_
    refine WL.pick (v := .bool (decide (k < 0))) rfl rfl rfl rfl rfl rfl ?_
    refine WL.move rfl rfl rfl ?_
    cases hg6 : (decide (k < 0))
    ·
      have hg6p : ¬ (k < 0) := by simpa using hg6
      refine WL.move rfl rfl rfl ?_
      refine WL.fieldAddr fo_24_3 rfl rfl rfl ?_
      refine WL.load1 (v := .slice adbF f.blocks.length capbF) one_22 rfl rfl rfl (hS.cell 0 rfl rfl) ?_
      refine WL.lenSlice Try.underlying22 rfl rfl rfl ?_
      refine WL.bin rfl rfl rfl rfl rfl ?_
      refine WL.pick (v := .bool (decide ((f.blocks.length : Int) ≤ k))) rfl rfl rfl rfl rfl rfl ?_
      refine WL.nil ?_
      refine N.seq ?_
      refine W.cond rfl (fun hc7 => ?_) (fun hc7 => ?_)
      ·
        have hc7p : (f.blocks.length : Int) ≤ k := by simpa using hc7
        refine W.seq ?_
        refine W.region ?_
        refine WL.move rfl rfl rfl ?_
        refine WL.assign rfl rfl rfl ?_
        refine WL.nil ?_
        refine N.seq ?_
        refine Fin.ret1 rfl (v := .bool true) rfl ?_
        exact ⟨rfl, hS.below⟩
      ·
        have hc7p : ¬ ((f.blocks.length : Int) ≤ k) := by simpa using hc7
        refine W.skip ?_
        refine N.seq ?_
        refine W.seq ?_
        refine W.region ?_
        refine WL.fieldAddr fo_24_3 rfl rfl rfl ?_
        refine WL.load1 (v := .slice adbF f.blocks.length capbF) one_22 rfl rfl rfl (hS.cell 0 rfl rfl) ?_
        refine WL.move rfl rfl rfl ?_
        refine WL.set 32 (v' := .int .i64 (k.toNat : Int)) rfl (by congr 1; omega) ?_
        have hj8 : k.toNat < f.blocks.length := by omega
        obtain ⟨x8, hx8⟩ : ∃ zz, f.blocks[k.toNat]? = some zz := ⟨_, List.getElem?_eq_getElem hj8⟩
        obtain ⟨b8, o8, cs8, hE8, hr8, hl8, hc8, hQ8⟩ := hbkFd k.toNat _ hx8
        obtain ⟨si8, tsx8, rfl, hin8, hfin8, hpar8⟩ := id hQ8
        obtain ⟨adi8, capi8, rfl, hin8a, hin8b, hin8c, hin8d⟩ := id hin8
        have hin8m : x8.ins.length ≤ 9223372036854775807 := by have h1 := hin8a; have h2 := hin8b; unfold maxLen at h2; omega
        obtain ⟨sp8, sq8, rfl, ht18, ht28, htk8, hta8, htt8, hte8⟩ := id hfin8
        obtain ⟨adp8, capp8, rfl, htp8a, htp8b, htp8c, htp8d⟩ := id ht18
        have htp8m : x8.fin.args.length ≤ 9223372036854775807 := by have h1 := htp8a; have h2 := htp8b; unfold maxLen at h2; omega
        obtain ⟨adq8, capq8, rfl, htq8a, htq8b, htq8c, htq8d⟩ := id ht28
        have htq8m : x8.fin.elses.length ≤ 9223372036854775807 := by have h1 := htq8a; have h2 := htq8b; unfold maxLen at h2; omega
        refine WL.indexAddrE (j := k.toNat) Try.underlying22 isz_32 rfl rfl rfl rfl hj8 hE8 ?_
        refine WL.loadN (cs := [.int .i64 x8.params, .slice adi8 x8.ins.length capi8, .int .i64 x8.fin.kind, .int .i64 x8.fin.a, .int .i64 x8.fin.to, .slice adp8 x8.fin.args.length capp8, .int .i64 x8.fin.els, .slice adq8 x8.fin.elses.length capq8]) agg_32 rfl rfl rfl rfl (hS.roCells hr8 hc8) ?_
        have hf5 : func5 f = true := by simpa using hg5
        refine WL.callF (vs := [.agg #[.int .i64 x8.params, .slice adi8 x8.ins.length capi8, .int .i64 x8.fin.kind, .int .i64 x8.fin.a, .int .i64 x8.fin.to, .slice adp8 x8.fin.args.length capp8, .int .i64 x8.fin.els, .slice adq8 x8.fin.elses.length capq8]]) Try.func11 (by kernel_rfl) rfl rfl rfl (block13_ret x8 _ (ro := ro) (fun b hb => (hS.snap b hb).1) (hQ8.keep hS.alike) (ok13_of5 hf5 (List.mem_of_getElem? hx8))) ?_
        rintro v w9 ⟨csr, rfl, hB, hbl⟩
        have hkk := keep13_block x8
        have hbp : (block13 x8).params = x8.params := rfl
        have hbk : (block13 x8).fin.kind = x8.fin.kind := rfl
        obtain ⟨B, hBe⟩ : ∃ z, z = block13 x8 := ⟨_, rfl⟩
        rw [← hBe] at hB hkk hbp hbk
        have hal10 := hS.alikeTo hbl (ro' := (roFrom ro w4 w9)) (fun b hb => .inl hb)
        replace hsub : ∀ b, (roFrom ro w4 w9) b → ro b ∨ w.heap.size ≤ b := fun b hb => hb.elim (hsub b) (fun h => .inr (Nat.le_trans hS.below.size h.1))
        replace halT := halT.trans hal10
        replace hx := hx.keep hal10
        replace hbkFd : Elems (roFrom ro w4 w9) w9 8 (BlockC (roFrom ro w4 w9) w9) adbF f.blocks := hbkFd.keep hal10 (fun _ _ h => h.keep hal10)
        replace hblF : SlV (roFrom ro w4 w9) w9 8 (BlockC (roFrom ro w4 w9) w9) (.slice adbF f.blocks.length capbF) f.blocks := SlV.keep hblF hal10 (fun _ _ h => h.keep hal10)
        replace hQ8 := hQ8.keep hal10
        replace hin8d : Elems (roFrom ro w4 w9) w9 6 (InstC (roFrom ro w4 w9) w9) adi8 x8.ins := hin8d.keep hal10 (fun _ _ h => h.keep hal10)
        replace hin8 : SlV (roFrom ro w4 w9) w9 6 (InstC (roFrom ro w4 w9) w9) (.slice adi8 x8.ins.length capi8) x8.ins := SlV.keep hin8 hal10 (fun _ _ h => h.keep hal10)
        replace hfin8 := hfin8.keep hal10
        replace htp8d : Elems (roFrom ro w4 w9) w9 1 IntC adp8 x8.fin.args := htp8d.keep hal10 (fun _ _ h => h)
        replace ht18 : SlV (roFrom ro w4 w9) w9 1 IntC (.slice adp8 x8.fin.args.length capp8) x8.fin.args := SlV.keep ht18 hal10 (fun _ _ h => h)
        replace htq8d : Elems (roFrom ro w4 w9) w9 1 IntC adq8 x8.fin.elses := htq8d.keep hal10 (fun _ _ h => h)
        replace ht28 : SlV (roFrom ro w4 w9) w9 1 IntC (.slice adq8 x8.fin.elses.length capq8) x8.fin.elses := SlV.keep ht28 hal10 (fun _ _ h => h)
        replace hc8 := hc8.keep (hal10 _ hr8).2
        replace hr8 := (hal10 _ hr8).1
        replace hS := hS.readNew hbl
        obtain ⟨sir, tsxr, rfl, hinr, hfinr, hparr⟩ := id hB
        obtain ⟨adir, capir, rfl, hinra, hinrb, hinrc, hinrd⟩ := id hinr
        have hinrm : B.ins.length ≤ 9223372036854775807 := by have h1 := hinra; have h2 := hinrb; unfold maxLen at h2; omega
        obtain ⟨spr, sqr, rfl, ht1r, ht2r, htkr, htar, httr, hter⟩ := id hfinr
        obtain ⟨adpr, cappr, rfl, htpra, htprb, htprc, htprd⟩ := id ht1r
        have htprm : B.fin.args.length ≤ 9223372036854775807 := by have h1 := htpra; have h2 := htprb; unfold maxLen at h2; omega
        obtain ⟨adqr, capqr, rfl, htqra, htqrb, htqrc, htqrd⟩ := id ht2r
        have htqrm : B.fin.elses.length ≤ 9223372036854775807 := by have h1 := htqra; have h2 := htqrb; unfold maxLen at h2; omega
        refine WL.alloc (tyZero_spec zer_32) rfl rfl hS ?_
        clear hS; intro w12 b11 hb_b11 hS
        refine WL.store (cs := [.int .i64 B.params, .slice adir B.ins.length capir, .int .i64 B.fin.kind, .int .i64 B.fin.a, .int .i64 B.fin.to, .slice adpr B.fin.args.length cappr, .int .i64 B.fin.els, .slice adqr B.fin.elses.length capqr]) (c' := #[.int .i64 B.params, .slice adir B.ins.length capir, .int .i64 B.fin.kind, .int .i64 B.fin.a, .int .i64 B.fin.to, .slice adpr B.fin.args.length cappr, .int .i64 B.fin.els, .slice adqr B.fin.elses.length capqr]) (L' := [(b11, .cells #[.int .i64 B.params, .slice adir B.ins.length capir, .int .i64 B.fin.kind, .int .i64 B.fin.a, .int .i64 B.fin.to, .slice adpr B.fin.args.length cappr, .int .i64 B.fin.els, .slice adqr B.fin.elses.length capqr] 32 (0, 0)), (b1, .cells #[.string f.name, .int .i64 f.bind, .int .i64 f.params, .slice adbF f.blocks.length capbF] 24 (0, 0))]) 0 rfl rfl rfl rfl siz_32 rfl rfl rfl rfl rfl hS ?_
        clear hS; intro w13 hS
        refine WL.nil ?_
        refine N.seq ?_
        refine W.seq ?_
        refine W.region ?_
        refine WL.assign rfl rfl rfl ?_
        refine WL.nil ?_
        refine N.seq ?_
        refine W.seq ?_
        refine W.seq ?_
        refine W.region ?_
        refine WL.assign rfl rfl rfl ?_
        refine WL.nil ?_
        refine N.seq ?_
        refine W.block ?_
        refine W.loop (α := Nat × Nat) (fun ⟨i, n⟩ => [(0, .agg #[.string f.name, .int .i64 f.bind, .int .i64 f.params, .slice adbF f.blocks.length capbF]), (1, .int .i64 k), (2, .pointer (some ⟨b1, 0, none⟩)), (5, .bool true), (6, .bool (func5 f)), (7, .pointer (some ⟨b11, 0, none⟩)), (8, .int .i64 (n : Int)), (9, .int .i64 (i : Int)), (13, .bool true), (14, .agg #[.string f.name, .int .i64 f.bind, .int .i64 f.params, .slice adbF f.blocks.length capbF]), (15, .bool (func5 f)), (16, .bool (func5 f)), (17, .bool false), (18, .bool false), (19, .int .i64 k), (20, .bool false), (21, .bool false), (22, .bool false), (23, .int .i64 k), (24, .pointer (some ⟨b1, 3, none⟩)), (25, .slice adbF f.blocks.length capbF), (26, .int .i64 (f.blocks.length : Int)), (27, .bool (decide ((f.blocks.length : Int) ≤ k))), (28, .bool (decide ((f.blocks.length : Int) ≤ k))), (30, .pointer (some ⟨b1, 3, none⟩)), (31, .slice adbF f.blocks.length capbF), (32, .int .i64 (k.toNat : Int)), (33, .pointer (some ⟨b8, o8 + k.toNat * 8, none⟩)), (34, .agg #[.int .i64 x8.params, .slice adi8 x8.ins.length capi8, .int .i64 x8.fin.kind, .int .i64 x8.fin.a, .int .i64 x8.fin.to, .slice adp8 x8.fin.args.length capp8, .int .i64 x8.fin.els, .slice adq8 x8.fin.elses.length capq8]), (35, .agg #[.int .i64 B.params, .slice adir B.ins.length capir, .int .i64 B.fin.kind, .int .i64 B.fin.a, .int .i64 B.fin.to, .slice adpr B.fin.args.length cappr, .int .i64 B.fin.els, .slice adqr B.fin.elses.length capqr])]) (fun ⟨i, n⟩ u => St w w9 u (roFrom ro w4 w9) [(b11, .cells #[.int .i64 B.params, .slice adir B.ins.length capir, .int .i64 B.fin.kind, .int .i64 B.fin.a, .int .i64 B.fin.to, .slice adpr B.fin.args.length cappr, .int .i64 B.fin.els, .slice adqr B.fin.elses.length capqr] 32 (0, 0)), (b1, .cells #[.string f.name, .int .i64 f.bind, .int .i64 f.params, .slice adbF f.blocks.length capbF] 24 (0, 0))] [] ∧ i ≤ x8.ins.length ∧ n ≤ B.ins.length ∧ Keep13 (x8.ins.drop i) (B.ins.drop n)) (fun ⟨i, n⟩ => x8.ins.length - i) (0, 0) ⟨rfl, rfl, rfl, rfl, rfl, rfl, rfl, rfl, rfl, rfl, rfl, rfl, rfl, rfl, rfl, rfl, rfl, rfl, rfl, rfl, rfl, rfl, rfl, rfl, rfl, rfl, rfl, rfl, rfl, rfl, trivial⟩ ⟨hS, Nat.zero_le _, Nat.zero_le _, hkk⟩ ?_
        clear hS
        rintro ⟨i, n⟩ w14 ⟨hS, hi, hn, hK⟩
        refine W.seq ?_
        refine W.seq ?_
        refine W.region ?_
        refine WL.move rfl rfl rfl ?_
        refine WL.fieldAddr fo_24_3 rfl rfl rfl ?_
        refine WL.load1 (v := .slice adbF f.blocks.length capbF) one_22 rfl rfl rfl (hS.cell 1 rfl rfl) ?_
        refine WL.move rfl rfl rfl ?_
        refine WL.set 39 (v' := .int .i64 (k.toNat : Int)) rfl (by congr 1; omega) ?_
        refine WL.indexAddrE (j := k.toNat) Try.underlying22 isz_32 rfl rfl rfl rfl hj8 hE8 ?_
        refine WL.fieldAddr fo_32_1 rfl rfl rfl ?_
        refine WL.load1 (v := .slice adi8 x8.ins.length capi8) one_27 rfl rfl rfl (hS.roCells hr8 hc8 1 _ rfl) ?_
        refine WL.lenSlice Try.underlying27 rfl rfl rfl ?_
        refine WL.bin rfl rfl rfl rfl rfl ?_
        refine WL.nil ?_
        refine N.seq ?_
        refine W.cond rfl (fun hc15 => ?_) (fun hc15 => ?_)
        ·
          have hc15p : (i : Int) < (x8.ins.length : Int) := by simpa using hc15
          refine W.skip ?_
          refine N.seq ?_
          refine W.seq ?_
          refine W.block ?_
          refine W.seq ?_
          refine W.region ?_
          refine WL.fieldAddr fo_24_3 rfl rfl rfl ?_
          refine WL.load1 (v := .slice adbF f.blocks.length capbF) one_22 rfl rfl rfl (hS.cell 1 rfl rfl) ?_
          refine WL.move rfl rfl rfl ?_
          refine WL.set 49 (v' := .int .i64 (k.toNat : Int)) rfl (by congr 1; omega) ?_
          refine WL.indexAddrE (j := k.toNat) Try.underlying22 isz_32 rfl rfl rfl rfl hj8 hE8 ?_
          refine WL.fieldAddr fo_32_1 rfl rfl rfl ?_
          refine WL.load1 (v := .slice adi8 x8.ins.length capi8) one_27 rfl rfl rfl (hS.roCells hr8 hc8 1 _ rfl) ?_
          refine WL.move rfl rfl rfl ?_
          have hj16 : i < x8.ins.length := by omega
          obtain ⟨x16, hx16⟩ : ∃ zz, x8.ins[i]? = some zz := ⟨_, List.getElem?_eq_getElem hj16⟩
          obtain ⟨b16, o16, cs16, hE16, hr16, hl16, hc16, hQ16⟩ := hin8d i _ hx16
          have hQk16 := hQ16
          obtain ⟨sv16, rfl, hs16, ho16, ha16, hb16, hk16, hn16⟩ := hQ16
          obtain ⟨ad16, cap16, rfl, hs16a, hs16b, hs16c, hs16d⟩ := id hs16
          have hs16m : x16.args.length ≤ 9223372036854775807 := by have h1 := hs16a; have h2 := hs16b; unfold maxLen at h2; omega
          refine WL.indexAddrE (j := i) Try.underlying27 isz_36 rfl rfl rfl rfl hj16 hE16 ?_
          refine WL.loadN (cs := [.int .i64 x16.op, .int .i64 x16.a, .int .i64 x16.b, .int .u64 x16.k, .string x16.name, .slice ad16 x16.args.length cap16]) agg_36 rfl rfl rfl rfl (hS.roCells hr16 hc16) ?_
          refine WL.alloc (tyZero_spec zer_36) rfl rfl hS ?_
          clear hS; intro w18 b17 hb_b17 hS
          refine WL.store (cs := [.int .i64 x16.op, .int .i64 x16.a, .int .i64 x16.b, .int .u64 x16.k, .string x16.name, .slice ad16 x16.args.length cap16]) (c' := #[.int .i64 x16.op, .int .i64 x16.a, .int .i64 x16.b, .int .u64 x16.k, .string x16.name, .slice ad16 x16.args.length cap16]) (L' := [(b17, .cells #[.int .i64 x16.op, .int .i64 x16.a, .int .i64 x16.b, .int .u64 x16.k, .string x16.name, .slice ad16 x16.args.length cap16] 36 (0, 0)), (b11, .cells #[.int .i64 B.params, .slice adir B.ins.length capir, .int .i64 B.fin.kind, .int .i64 B.fin.a, .int .i64 B.fin.to, .slice adpr B.fin.args.length cappr, .int .i64 B.fin.els, .slice adqr B.fin.elses.length capqr] 32 (0, 0)), (b1, .cells #[.string f.name, .int .i64 f.bind, .int .i64 f.params, .slice adbF f.blocks.length capbF] 24 (0, 0))]) 0 rfl rfl rfl rfl siz_36 rfl rfl rfl rfl rfl hS ?_
          clear hS; intro w19 hS
          refine WL.nil ?_
          refine N.seq ?_
          refine W.seq ?_
          refine W.region ?_
          refine WL.loadN (cs := [.int .i64 x16.op, .int .i64 x16.a, .int .i64 x16.b, .int .u64 x16.k, .string x16.name, .slice ad16 x16.args.length cap16]) agg_36 rfl rfl rfl rfl (hS.cells 0 (m := 6) rfl rfl) ?_
          refine WL.callF (vs := [.agg #[.int .i64 x16.op, .int .i64 x16.a, .int .i64 x16.b, .int .u64 x16.k, .string x16.name, .slice ad16 x16.args.length cap16]]) Try.func12 (by kernel_rfl) rfl rfl rfl (rdoes_ret x16 _ (ro := (roFrom ro w4 w9)) (fun b hb => (hS.snap b hb).1) (hQk16.keep hS.alike)) ?_
          rintro v w20 ⟨rfl, hbl⟩
          replace hS := hS.grow hbl
          refine WL.assign rfl rfl rfl ?_
          refine WL.nil ?_
          refine N.seq ?_
          refine W.seq ?_
          refine W.seq ?_
          refine W.region ?_
          refine WL.move rfl rfl rfl ?_
          refine WL.not rfl rfl rfl ?_
          refine WL.nil ?_
          refine N.seq ?_
          refine W.cond rfl (fun hc21 => ?_) (fun hc21 => ?_)
          ·
            refine W.exit ?_
            refine X.seq ?_
            refine X.blk ?_
            refine N.seq ?_
            refine W.region ?_
            refine WL.move rfl rfl rfl ?_
            refine WL.add (c := (i : Int) + 1) rfl rfl rfl rfl (rfl) (by omega) ?_
            refine WL.assign rfl rfl rfl ?_
            refine WL.nil ?_
            have hS := hS.dropN 1
            exact N.loop (i + 1, n) ⟨rfl, rfl, rfl, rfl, rfl, rfl, rfl, rfl, rfl, rfl, rfl, rfl, rfl, rfl, rfl, rfl, rfl, rfl, rfl, rfl, rfl, rfl, rfl, rfl, rfl, rfl, rfl, rfl, rfl, rfl, trivial⟩ ⟨hS, by omega, hn, keepL hx16 (by simpa using hc21) hK⟩ (by first | omega | (simp only; omega))
          ·
            refine W.skip ?_
            refine N.seq ?_
            refine W.seq ?_
            refine W.block ?_
            refine W.loop (α := Nat) (fun (n2 : Nat) => [(0, .agg #[.string f.name, .int .i64 f.bind, .int .i64 f.params, .slice adbF f.blocks.length capbF]), (1, .int .i64 k), (2, .pointer (some ⟨b1, 0, none⟩)), (5, .bool true), (6, .bool (func5 f)), (7, .pointer (some ⟨b11, 0, none⟩)), (8, .int .i64 (n2 : Int)), (9, .int .i64 (i : Int)), (10, .pointer (some ⟨b17, 0, none⟩)), (11, .bool (does13 x16)), (13, .bool true), (14, .agg #[.string f.name, .int .i64 f.bind, .int .i64 f.params, .slice adbF f.blocks.length capbF]), (15, .bool (func5 f)), (16, .bool (func5 f)), (17, .bool false), (18, .bool false), (19, .int .i64 k), (20, .bool false), (21, .bool false), (22, .bool false), (23, .int .i64 k), (24, .pointer (some ⟨b1, 3, none⟩)), (25, .slice adbF f.blocks.length capbF), (26, .int .i64 (f.blocks.length : Int)), (27, .bool (decide ((f.blocks.length : Int) ≤ k))), (28, .bool (decide ((f.blocks.length : Int) ≤ k))), (30, .pointer (some ⟨b1, 3, none⟩)), (31, .slice adbF f.blocks.length capbF), (32, .int .i64 (k.toNat : Int)), (33, .pointer (some ⟨b8, o8 + k.toNat * 8, none⟩)), (34, .agg #[.int .i64 x8.params, .slice adi8 x8.ins.length capi8, .int .i64 x8.fin.kind, .int .i64 x8.fin.a, .int .i64 x8.fin.to, .slice adp8 x8.fin.args.length capp8, .int .i64 x8.fin.els, .slice adq8 x8.fin.elses.length capq8]), (35, .agg #[.int .i64 B.params, .slice adir B.ins.length capir, .int .i64 B.fin.kind, .int .i64 B.fin.a, .int .i64 B.fin.to, .slice adpr B.fin.args.length cappr, .int .i64 B.fin.els, .slice adqr B.fin.elses.length capqr]), (36, .int .i64 (i : Int)), (37, .pointer (some ⟨b1, 3, none⟩)), (38, .slice adbF f.blocks.length capbF), (39, .int .i64 (k.toNat : Int)), (40, .pointer (some ⟨b8, o8 + k.toNat * 8, none⟩)), (41, .pointer (some ⟨b8, o8 + k.toNat * 8 + 1, none⟩)), (42, .slice adi8 x8.ins.length capi8), (43, .int .i64 (x8.ins.length : Int)), (44, .bool (decide ((i : Int) < (x8.ins.length : Int)))), (47, .pointer (some ⟨b1, 3, none⟩)), (48, .slice adbF f.blocks.length capbF), (49, .int .i64 (k.toNat : Int)), (50, .pointer (some ⟨b8, o8 + k.toNat * 8, none⟩)), (51, .pointer (some ⟨b8, o8 + k.toNat * 8 + 1, none⟩)), (52, .slice adi8 x8.ins.length capi8), (53, .int .i64 (i : Int)), (54, .pointer (some ⟨b16, o16 + i * 6, none⟩)), (55, .agg #[.int .i64 x16.op, .int .i64 x16.a, .int .i64 x16.b, .int .u64 x16.k, .string x16.name, .slice ad16 x16.args.length cap16]), (56, .agg #[.int .i64 x16.op, .int .i64 x16.a, .int .i64 x16.b, .int .u64 x16.k, .string x16.name, .slice ad16 x16.args.length cap16]), (57, .bool (does13 x16)), (58, .bool (does13 x16)), (59, .bool (!(does13 x16)))]) (fun (n2 : Nat) u => St w w9 u (roFrom ro w4 w9) [(b17, .cells #[.int .i64 x16.op, .int .i64 x16.a, .int .i64 x16.b, .int .u64 x16.k, .string x16.name, .slice ad16 x16.args.length cap16] 36 (0, 0)), (b11, .cells #[.int .i64 B.params, .slice adir B.ins.length capir, .int .i64 B.fin.kind, .int .i64 B.fin.a, .int .i64 B.fin.to, .slice adpr B.fin.args.length cappr, .int .i64 B.fin.els, .slice adqr B.fin.elses.length capqr] 32 (0, 0)), (b1, .cells #[.string f.name, .int .i64 f.bind, .int .i64 f.params, .slice adbF f.blocks.length capbF] 24 (0, 0))] [] ∧ n2 ≤ B.ins.length ∧ Keep13 (x8.ins.drop i) (B.ins.drop n2)) (fun (n2 : Nat) => B.ins.length - n2) n ⟨rfl, rfl, rfl, rfl, rfl, rfl, rfl, rfl, rfl, rfl, rfl, rfl, rfl, rfl, rfl, rfl, rfl, rfl, rfl, rfl, rfl, rfl, rfl, rfl, rfl, rfl, rfl, rfl, rfl, rfl, rfl, rfl, rfl, rfl, rfl, rfl, rfl, rfl, rfl, rfl, rfl, rfl, rfl, rfl, rfl, rfl, rfl, rfl, rfl, rfl, rfl, rfl, rfl, rfl, trivial⟩ ⟨hS, hn, hK⟩ ?_
            clear hS
            rintro n2 w22 ⟨hS, hn2, hK2⟩
            refine W.seq ?_
            refine W.seq ?_
            refine W.region ?_
            refine WL.move rfl rfl rfl ?_
            refine WL.fieldAddr fo_32_1 rfl rfl rfl ?_
            refine WL.load1 (v := .slice adir B.ins.length capir) one_27 rfl rfl rfl (hS.cell 1 rfl rfl) ?_
            refine WL.lenSlice Try.underlying27 rfl rfl rfl ?_
            refine WL.bin rfl rfl rfl rfl rfl ?_
            refine WL.move rfl rfl rfl ?_
            cases hg23 : (decide ((n2 : Int) < (B.ins.length : Int)))
            ·
              have hg23p : ¬ ((n2 : Int) < (B.ins.length : Int)) := by simpa using hg23
              exact (keep_end hx16 (by simpa using hc21) (by omega) hK2).elim
            ·
              have hg23p : (n2 : Int) < (B.ins.length : Int) := by simpa using hg23
              refine WL.fieldAddr fo_32_1 rfl rfl rfl ?_
              refine WL.load1 (v := .slice adir B.ins.length capir) one_27 rfl rfl rfl (hS.cell 1 rfl rfl) ?_
              refine WL.move rfl rfl rfl ?_
              have hj24 : n2 < B.ins.length := by omega
              obtain ⟨x24, hx24⟩ : ∃ zz, B.ins[n2]? = some zz := ⟨_, List.getElem?_eq_getElem hj24⟩
              obtain ⟨b24, o24, cs24, hE24, hr24, hl24, hc24, hQ24⟩ := hinrd n2 _ hx24
              have hQk24 := hQ24
              obtain ⟨sv24, rfl, hs24, ho24, ha24, hb24, hk24, hn24⟩ := hQ24
              obtain ⟨ad24, cap24, rfl, hs24a, hs24b, hs24c, hs24d⟩ := id hs24
              have hs24m : x24.args.length ≤ 9223372036854775807 := by have h1 := hs24a; have h2 := hs24b; unfold maxLen at h2; omega
              refine WL.indexAddrE (j := n2) Try.underlying27 isz_36 rfl rfl rfl rfl hj24 hE24 ?_
              refine WL.loadN (cs := [.int .i64 x24.op, .int .i64 x24.a, .int .i64 x24.b, .int .u64 x24.k, .string x24.name, .slice ad24 x24.args.length cap24]) agg_36 rfl rfl rfl rfl (hS.roCells hr24 hc24) ?_
              refine WL.callF (vs := [.agg #[.int .i64 x24.op, .int .i64 x24.a, .int .i64 x24.b, .int .u64 x24.k, .string x24.name, .slice ad24 x24.args.length cap24]]) Try.func12 (by kernel_rfl) rfl rfl rfl (rdoes_ret x24 _ (ro := (roFrom ro w4 w9)) (fun b hb => (hS.snap b hb).1) (hQk24.keep hS.alike)) ?_
              rintro v w25 ⟨rfl, hbl⟩
              replace hS := hS.grow hbl
              refine WL.not rfl rfl rfl ?_
              refine WL.pick (v := .bool (!(does13 x24))) rfl rfl rfl rfl rfl rfl ?_
              refine WL.nil ?_
              refine N.seq ?_
              refine W.cond rfl (fun hc26 => ?_) (fun hc26 => ?_)
              ·
                refine W.skip ?_
                refine N.seq ?_
                refine W.block ?_
                refine W.region ?_
                refine WL.move rfl rfl rfl ?_
                refine WL.add (c := (n2 : Int) + 1) rfl rfl rfl rfl (rfl) (by omega) ?_
                refine WL.assign rfl rfl rfl ?_
                refine WL.nil ?_
                refine N.blk ?_
                exact N.loop (n2 + 1) ⟨rfl, rfl, rfl, rfl, rfl, rfl, rfl, rfl, rfl, rfl, rfl, rfl, rfl, rfl, rfl, rfl, rfl, rfl, rfl, rfl, rfl, rfl, rfl, rfl, rfl, rfl, rfl, rfl, rfl, rfl, rfl, rfl, rfl, rfl, rfl, rfl, rfl, rfl, rfl, rfl, rfl, rfl, rfl, rfl, rfl, rfl, rfl, rfl, rfl, rfl, rfl, rfl, rfl, rfl, trivial⟩ ⟨hS, by omega, keepR hx24 (by simpa using hc26) hK2⟩ (by first | omega | (simp only; omega))
              ·
                obtain ⟨hk1, hk2, hk3, hkB⟩ := keepB hx16 hx24 (by simpa using hc21) (by simpa using hc26) hK2
                refine W.exit ?_
                refine X.seq ?_
                refine X.loop ?_
                refine X.blk ?_
                refine N.seq ?_
                refine W.seq ?_
                refine W.seq ?_
                refine W.drawL (by kernel_rfl) 40 [.q (.int .i64 (n2 : Int)), .q (.pointer (some ⟨b11, 1, none⟩)), .q (.slice adir B.ins.length capir), .q (.int .i64 (B.ins.length : Int)), .q (.bool false), .q (.bool false), .q (.pointer (some ⟨b11, 1, none⟩)), .q (.slice adir B.ins.length capir), .q (.int .i64 (n2 : Int)), .q (.pointer (some ⟨b24, o24 + n2 * 6, none⟩)), .q (.pointer (some ⟨b24, o24 + n2 * 6, none⟩)), .q (.int .i64 x24.op), .q (.pointer (some ⟨b17, 0, none⟩)), .q (.int .i64 x16.op), .q (.bool false), .q (.bool false), .q (.bool false), .q (.pointer (some ⟨b11, 1, none⟩)), .q (.slice adir B.ins.length capir), .q (.int .i64 (n2 : Int)), .q (.pointer (some ⟨b24, o24 + n2 * 6, none⟩)), .q (.pointer (some ⟨b24, o24 + n2 * 6 + 4, none⟩)), .q (.string x24.name), .q (.pointer (some ⟨b17, 4, none⟩)), .q (.string x16.name), .q (.bool false), .q (.bool false), .q (.bool false), .q (.pointer (some ⟨b11, 1, none⟩)), .q (.slice adir B.ins.length capir), .q (.int .i64 (n2 : Int)), .q (.pointer (some ⟨b24, o24 + n2 * 6, none⟩)), .q (.pointer (some ⟨b24, o24 + n2 * 6 + 5, none⟩)), .q (.slice ad24 x24.args.length cap24), .q (.int .i64 (x24.args.length : Int)), .q (.pointer (some ⟨b17, 5, none⟩)), .q (.slice ad16 x16.args.length cap16), .q (.int .i64 (x16.args.length : Int)), .q (.bool false), .q (.bool false)] (by kernel_rfl) rfl [(0, .agg #[.string f.name, .int .i64 f.bind, .int .i64 f.params, .slice adbF f.blocks.length capbF]), (1, .int .i64 k), (2, .pointer (some ⟨b1, 0, none⟩)), (5, .bool true), (6, .bool (func5 f)), (7, .pointer (some ⟨b11, 0, none⟩)), (8, .int .i64 (n2 : Int)), (9, .int .i64 (i : Int)), (10, .pointer (some ⟨b17, 0, none⟩)), (11, .bool (does13 x16)), (13, .bool true), (14, .agg #[.string f.name, .int .i64 f.bind, .int .i64 f.params, .slice adbF f.blocks.length capbF]), (15, .bool (func5 f)), (16, .bool (func5 f)), (17, .bool false), (18, .bool false), (19, .int .i64 k), (20, .bool false), (21, .bool false), (22, .bool false), (23, .int .i64 k), (24, .pointer (some ⟨b1, 3, none⟩)), (25, .slice adbF f.blocks.length capbF), (26, .int .i64 (f.blocks.length : Int)), (27, .bool (decide ((f.blocks.length : Int) ≤ k))), (28, .bool (decide ((f.blocks.length : Int) ≤ k))), (30, .pointer (some ⟨b1, 3, none⟩)), (31, .slice adbF f.blocks.length capbF), (32, .int .i64 (k.toNat : Int)), (33, .pointer (some ⟨b8, o8 + k.toNat * 8, none⟩)), (34, .agg #[.int .i64 x8.params, .slice adi8 x8.ins.length capi8, .int .i64 x8.fin.kind, .int .i64 x8.fin.a, .int .i64 x8.fin.to, .slice adp8 x8.fin.args.length capp8, .int .i64 x8.fin.els, .slice adq8 x8.fin.elses.length capq8]), (35, .agg #[.int .i64 B.params, .slice adir B.ins.length capir, .int .i64 B.fin.kind, .int .i64 B.fin.a, .int .i64 B.fin.to, .slice adpr B.fin.args.length cappr, .int .i64 B.fin.els, .slice adqr B.fin.elses.length capqr]), (36, .int .i64 (i : Int)), (37, .pointer (some ⟨b1, 3, none⟩)), (38, .slice adbF f.blocks.length capbF), (39, .int .i64 (k.toNat : Int)), (40, .pointer (some ⟨b8, o8 + k.toNat * 8, none⟩)), (41, .pointer (some ⟨b8, o8 + k.toNat * 8 + 1, none⟩)), (42, .slice adi8 x8.ins.length capi8), (43, .int .i64 (x8.ins.length : Int)), (44, .bool (decide ((i : Int) < (x8.ins.length : Int)))), (47, .pointer (some ⟨b1, 3, none⟩)), (48, .slice adbF f.blocks.length capbF), (49, .int .i64 (k.toNat : Int)), (50, .pointer (some ⟨b8, o8 + k.toNat * 8, none⟩)), (51, .pointer (some ⟨b8, o8 + k.toNat * 8 + 1, none⟩)), (52, .slice adi8 x8.ins.length capi8), (53, .int .i64 (i : Int)), (54, .pointer (some ⟨b16, o16 + i * 6, none⟩)), (55, .agg #[.int .i64 x16.op, .int .i64 x16.a, .int .i64 x16.b, .int .u64 x16.k, .string x16.name, .slice ad16 x16.args.length cap16]), (56, .agg #[.int .i64 x16.op, .int .i64 x16.a, .int .i64 x16.b, .int .u64 x16.k, .string x16.name, .slice ad16 x16.args.length cap16]), (57, .bool (does13 x16)), (58, .bool (does13 x16)), (59, .bool (!(does13 x16))), (60, .int .i64 (n2 : Int)), (61, .pointer (some ⟨b11, 1, none⟩)), (62, .slice adir B.ins.length capir), (63, .int .i64 (B.ins.length : Int)), (64, .bool true), (65, .bool true), (66, .pointer (some ⟨b11, 1, none⟩)), (67, .slice adir B.ins.length capir), (68, .int .i64 (n2 : Int)), (69, .pointer (some ⟨b24, o24 + n2 * 6, none⟩)), (70, .agg #[.int .i64 x24.op, .int .i64 x24.a, .int .i64 x24.b, .int .u64 x24.k, .string x24.name, .slice ad24 x24.args.length cap24]), (71, .bool (does13 x24)), (72, .bool (!(does13 x24))), (73, .bool (!(does13 x24)))] ⟨rfl, rfl, rfl, rfl, rfl, rfl, rfl, rfl, rfl, rfl, rfl, rfl, rfl, rfl, rfl, rfl, rfl, rfl, rfl, rfl, rfl, rfl, rfl, rfl, rfl, rfl, rfl, rfl, rfl, rfl, rfl, rfl, rfl, rfl, rfl, rfl, rfl, rfl, rfl, rfl, rfl, rfl, rfl, rfl, rfl, rfl, rfl, rfl, rfl, rfl, rfl, rfl, rfl, rfl, rfl, rfl, rfl, rfl, rfl, rfl, rfl, rfl, rfl, rfl, rfl, rfl, rfl, rfl, trivial⟩ rfl hS ?_ ?_
                ·
                  refine And.intro (fun β w hS => ?_) ?_
                  ·
                    refine WL.sub (σ' := [(8, .int .i64 (n2 : Int))]) ⟨rfl, trivial⟩ ?_
                    refine WL.move rfl rfl rfl ?_
                    exact WL.nil (N.cut () ⟨rfl, trivial⟩ (Below.refl _ _))
                  refine And.intro (fun β w hS => ?_) ?_
                  ·
                    refine WL.sub (σ' := [(7, .pointer (some ⟨b11, 0, none⟩))]) ⟨rfl, trivial⟩ ?_
                    refine WL.fieldAddr fo_32_1 rfl rfl rfl ?_
                    exact WL.nil (N.cut () ⟨rfl, trivial⟩ (Below.refl _ _))
                  refine And.intro (fun β w hS => ?_) ?_
                  ·
                    refine WL.sub (σ' := [(77, .pointer (some ⟨b11, 1, none⟩))]) ⟨rfl, trivial⟩ ?_
                    refine WL.load1 (v := .slice adir B.ins.length capir) one_27 rfl rfl rfl (hS.cell 1 rfl rfl) ?_
                    exact WL.nil (N.cut () ⟨rfl, trivial⟩ (Below.refl _ _))
                  refine And.intro (fun β w hS => ?_) ?_
                  ·
                    refine WL.sub (σ' := [(78, .slice adir B.ins.length capir)]) ⟨rfl, trivial⟩ ?_
                    refine WL.lenSlice Try.underlying27 rfl rfl rfl ?_
                    exact WL.nil (N.cut () ⟨rfl, trivial⟩ (Below.refl _ _))
                  refine And.intro (fun β w hS => ?_) ?_
                  ·
                    refine WL.sub (σ' := [(76, .int .i64 (n2 : Int)), (79, .int .i64 (B.ins.length : Int))]) ⟨rfl, rfl, trivial⟩ ?_
                    refine WL.bin rfl rfl rfl rfl rfl ?_
                    refine WL.set 80 (v' := .bool false) rfl (congrArg Value.bool (show (decide ((B.ins.length : Int) ≤ (n2 : Int))) = false from decide_eq_false (by omega))) ?_
                    exact WL.nil (N.cut () ⟨rfl, trivial⟩ (Below.refl _ _))
                  refine And.intro (fun β w hS => ?_) ?_
                  ·
                    refine WL.sub (σ' := [(80, .bool false)]) ⟨rfl, trivial⟩ ?_
                    refine WL.move rfl rfl rfl ?_
                    exact WL.nil (N.cut () ⟨rfl, trivial⟩ (Below.refl _ _))
                  refine And.intro (fun β w hS => ?_) ?_
                  ·
                    refine WL.sub (σ' := [(7, .pointer (some ⟨b11, 0, none⟩)), (81, .bool false)]) ⟨rfl, rfl, trivial⟩ ?_
                    refine WL.fieldAddr fo_32_1 rfl rfl rfl ?_
                    exact WL.nil (N.cut () ⟨rfl, trivial⟩ (Below.refl _ _))
                  refine And.intro (fun β w hS => ?_) ?_
                  ·
                    refine WL.sub (σ' := [(81, .bool false), (82, .pointer (some ⟨b11, 1, none⟩))]) ⟨rfl, rfl, trivial⟩ ?_
                    refine WL.load1 (v := .slice adir B.ins.length capir) one_27 rfl rfl rfl (hS.cell 1 rfl rfl) ?_
                    exact WL.nil (N.cut () ⟨rfl, trivial⟩ (Below.refl _ _))
                  refine And.intro (fun β w hS => ?_) ?_
                  ·
                    refine WL.sub (σ' := [(8, .int .i64 (n2 : Int)), (81, .bool false)]) ⟨rfl, rfl, trivial⟩ ?_
                    refine WL.move rfl rfl rfl ?_
                    exact WL.nil (N.cut () ⟨rfl, trivial⟩ (Below.refl _ _))
                  refine And.intro (fun β w hS => ?_) ?_
                  ·
                    refine WL.sub (σ' := [(81, .bool false), (83, .slice adir B.ins.length capir), (84, .int .i64 (n2 : Int))]) ⟨rfl, rfl, rfl, trivial⟩ ?_
                    refine WL.indexAddrE (j := n2) Try.underlying27 isz_36 rfl rfl rfl rfl hj24 hE24 ?_
                    exact WL.nil (N.cut () ⟨rfl, trivial⟩ (Below.refl _ _))
                  refine And.intro (fun β w hS => ?_) ?_
                  ·
                    refine WL.sub (σ' := [(81, .bool false), (85, .pointer (some ⟨b24, o24 + n2 * 6, none⟩))]) ⟨rfl, rfl, trivial⟩ ?_
                    refine WL.fieldAddr fo_36_0 rfl rfl rfl ?_
                    exact WL.nil (N.cut () ⟨rfl, trivial⟩ (Below.refl _ _))
                  refine And.intro (fun β w hS => ?_) ?_
                  ·
                    refine WL.sub (σ' := [(81, .bool false), (86, .pointer (some ⟨b24, o24 + n2 * 6, none⟩))]) ⟨rfl, rfl, trivial⟩ ?_
                    refine WL.load1 (v := .int .i64 x24.op) one_3 rfl rfl rfl (hS.roCells hr24 hc24 0 _ rfl) ?_
                    exact WL.nil (N.cut () ⟨rfl, trivial⟩ (Below.refl _ _))
                  refine And.intro (fun β w hS => ?_) ?_
                  ·
                    refine WL.sub (σ' := [(10, .pointer (some ⟨b17, 0, none⟩)), (81, .bool false)]) ⟨rfl, rfl, trivial⟩ ?_
                    refine WL.fieldAddr fo_36_0 rfl rfl rfl ?_
                    exact WL.nil (N.cut () ⟨rfl, trivial⟩ (Below.refl _ _))
                  refine And.intro (fun β w hS => ?_) ?_
                  ·
                    refine WL.sub (σ' := [(81, .bool false), (88, .pointer (some ⟨b17, 0, none⟩))]) ⟨rfl, rfl, trivial⟩ ?_
                    refine WL.load1 (v := .int .i64 x16.op) one_3 rfl rfl rfl (hS.cell 0 rfl rfl) ?_
                    exact WL.nil (N.cut () ⟨rfl, trivial⟩ (Below.refl _ _))
                  refine And.intro (fun β w hS => ?_) ?_
                  ·
                    refine WL.sub (σ' := [(81, .bool false), (87, .int .i64 x24.op), (89, .int .i64 x16.op)]) ⟨rfl, rfl, rfl, trivial⟩ ?_
                    refine WL.bin rfl rfl rfl rfl rfl ?_
                    refine WL.set 90 (v' := .bool false) rfl (by simp [hk1]) ?_
                    exact WL.nil (N.cut () ⟨rfl, trivial⟩ (Below.refl _ _))
                  refine And.intro (fun β w hS => ?_) ?_
                  ·
                    refine WL.sub (σ' := [(81, .bool false), (90, .bool false)]) ⟨rfl, rfl, trivial⟩ ?_
                    refine WL.pick (v := .bool false) rfl rfl rfl rfl rfl rfl ?_
                    exact WL.nil (N.cut () ⟨rfl, trivial⟩ (Below.refl _ _))
                  refine And.intro (fun β w hS => ?_) ?_
                  ·
                    refine WL.sub (σ' := [(91, .bool false)]) ⟨rfl, trivial⟩ ?_
                    refine WL.move rfl rfl rfl ?_
                    exact WL.nil (N.cut () ⟨rfl, trivial⟩ (Below.refl _ _))
                  refine And.intro (fun β w hS => ?_) ?_
                  ·
                    refine WL.sub (σ' := [(7, .pointer (some ⟨b11, 0, none⟩)), (92, .bool false)]) ⟨rfl, rfl, trivial⟩ ?_
                    refine WL.fieldAddr fo_32_1 rfl rfl rfl ?_
                    exact WL.nil (N.cut () ⟨rfl, trivial⟩ (Below.refl _ _))
                  refine And.intro (fun β w hS => ?_) ?_
                  ·
                    refine WL.sub (σ' := [(92, .bool false), (93, .pointer (some ⟨b11, 1, none⟩))]) ⟨rfl, rfl, trivial⟩ ?_
                    refine WL.load1 (v := .slice adir B.ins.length capir) one_27 rfl rfl rfl (hS.cell 1 rfl rfl) ?_
                    exact WL.nil (N.cut () ⟨rfl, trivial⟩ (Below.refl _ _))
                  refine And.intro (fun β w hS => ?_) ?_
                  ·
                    refine WL.sub (σ' := [(8, .int .i64 (n2 : Int)), (92, .bool false)]) ⟨rfl, rfl, trivial⟩ ?_
                    refine WL.move rfl rfl rfl ?_
                    exact WL.nil (N.cut () ⟨rfl, trivial⟩ (Below.refl _ _))
                  refine And.intro (fun β w hS => ?_) ?_
                  ·
                    refine WL.sub (σ' := [(92, .bool false), (94, .slice adir B.ins.length capir), (95, .int .i64 (n2 : Int))]) ⟨rfl, rfl, rfl, trivial⟩ ?_
                    refine WL.indexAddrE (j := n2) Try.underlying27 isz_36 rfl rfl rfl rfl hj24 hE24 ?_
                    exact WL.nil (N.cut () ⟨rfl, trivial⟩ (Below.refl _ _))
                  refine And.intro (fun β w hS => ?_) ?_
                  ·
                    refine WL.sub (σ' := [(92, .bool false), (96, .pointer (some ⟨b24, o24 + n2 * 6, none⟩))]) ⟨rfl, rfl, trivial⟩ ?_
                    refine WL.fieldAddr fo_36_4 rfl rfl rfl ?_
                    exact WL.nil (N.cut () ⟨rfl, trivial⟩ (Below.refl _ _))
                  refine And.intro (fun β w hS => ?_) ?_
                  ·
                    refine WL.sub (σ' := [(92, .bool false), (97, .pointer (some ⟨b24, o24 + n2 * 6 + 4, none⟩))]) ⟨rfl, rfl, trivial⟩ ?_
                    refine WL.load1 (v := .string x24.name) one_9 rfl rfl rfl (hS.roCells hr24 hc24 4 _ rfl) ?_
                    exact WL.nil (N.cut () ⟨rfl, trivial⟩ (Below.refl _ _))
                  refine And.intro (fun β w hS => ?_) ?_
                  ·
                    refine WL.sub (σ' := [(10, .pointer (some ⟨b17, 0, none⟩)), (92, .bool false)]) ⟨rfl, rfl, trivial⟩ ?_
                    refine WL.fieldAddr fo_36_4 rfl rfl rfl ?_
                    exact WL.nil (N.cut () ⟨rfl, trivial⟩ (Below.refl _ _))
                  refine And.intro (fun β w hS => ?_) ?_
                  ·
                    refine WL.sub (σ' := [(92, .bool false), (99, .pointer (some ⟨b17, 4, none⟩))]) ⟨rfl, rfl, trivial⟩ ?_
                    refine WL.load1 (v := .string x16.name) one_9 rfl rfl rfl (hS.cell 0 rfl rfl) ?_
                    exact WL.nil (N.cut () ⟨rfl, trivial⟩ (Below.refl _ _))
                  refine And.intro (fun β w hS => ?_) ?_
                  ·
                    refine WL.sub (σ' := [(92, .bool false), (98, .string x24.name), (100, .string x16.name)]) ⟨rfl, rfl, rfl, trivial⟩ ?_
                    refine WL.neStr rfl rfl rfl rfl ?_
                    refine WL.set 101 (v' := .bool false) rfl (by simp [hk2]) ?_
                    exact WL.nil (N.cut () ⟨rfl, trivial⟩ (Below.refl _ _))
                  refine And.intro (fun β w hS => ?_) ?_
                  ·
                    refine WL.sub (σ' := [(92, .bool false), (101, .bool false)]) ⟨rfl, rfl, trivial⟩ ?_
                    refine WL.pick (v := .bool false) rfl rfl rfl rfl rfl rfl ?_
                    exact WL.nil (N.cut () ⟨rfl, trivial⟩ (Below.refl _ _))
                  refine And.intro (fun β w hS => ?_) ?_
                  ·
                    refine WL.sub (σ' := [(102, .bool false)]) ⟨rfl, trivial⟩ ?_
                    refine WL.move rfl rfl rfl ?_
                    exact WL.nil (N.cut () ⟨rfl, trivial⟩ (Below.refl _ _))
                  refine And.intro (fun β w hS => ?_) ?_
                  ·
                    refine WL.sub (σ' := [(7, .pointer (some ⟨b11, 0, none⟩)), (103, .bool false)]) ⟨rfl, rfl, trivial⟩ ?_
                    refine WL.fieldAddr fo_32_1 rfl rfl rfl ?_
                    exact WL.nil (N.cut () ⟨rfl, trivial⟩ (Below.refl _ _))
                  refine And.intro (fun β w hS => ?_) ?_
                  ·
                    refine WL.sub (σ' := [(103, .bool false), (104, .pointer (some ⟨b11, 1, none⟩))]) ⟨rfl, rfl, trivial⟩ ?_
                    refine WL.load1 (v := .slice adir B.ins.length capir) one_27 rfl rfl rfl (hS.cell 1 rfl rfl) ?_
                    exact WL.nil (N.cut () ⟨rfl, trivial⟩ (Below.refl _ _))
                  refine And.intro (fun β w hS => ?_) ?_
                  ·
                    refine WL.sub (σ' := [(8, .int .i64 (n2 : Int)), (103, .bool false)]) ⟨rfl, rfl, trivial⟩ ?_
                    refine WL.move rfl rfl rfl ?_
                    exact WL.nil (N.cut () ⟨rfl, trivial⟩ (Below.refl _ _))
                  refine And.intro (fun β w hS => ?_) ?_
                  ·
                    refine WL.sub (σ' := [(103, .bool false), (105, .slice adir B.ins.length capir), (106, .int .i64 (n2 : Int))]) ⟨rfl, rfl, rfl, trivial⟩ ?_
                    refine WL.indexAddrE (j := n2) Try.underlying27 isz_36 rfl rfl rfl rfl hj24 hE24 ?_
                    exact WL.nil (N.cut () ⟨rfl, trivial⟩ (Below.refl _ _))
                  refine And.intro (fun β w hS => ?_) ?_
                  ·
                    refine WL.sub (σ' := [(103, .bool false), (107, .pointer (some ⟨b24, o24 + n2 * 6, none⟩))]) ⟨rfl, rfl, trivial⟩ ?_
                    refine WL.fieldAddr fo_36_5 rfl rfl rfl ?_
                    exact WL.nil (N.cut () ⟨rfl, trivial⟩ (Below.refl _ _))
                  refine And.intro (fun β w hS => ?_) ?_
                  ·
                    refine WL.sub (σ' := [(103, .bool false), (108, .pointer (some ⟨b24, o24 + n2 * 6 + 5, none⟩))]) ⟨rfl, rfl, trivial⟩ ?_
                    refine WL.load1 (v := .slice ad24 x24.args.length cap24) one_28 rfl rfl rfl (hS.roCells hr24 hc24 5 _ rfl) ?_
                    exact WL.nil (N.cut () ⟨rfl, trivial⟩ (Below.refl _ _))
                  refine And.intro (fun β w hS => ?_) ?_
                  ·
                    refine WL.sub (σ' := [(103, .bool false), (109, .slice ad24 x24.args.length cap24)]) ⟨rfl, rfl, trivial⟩ ?_
                    refine WL.lenSlice Try.underlying28 rfl rfl rfl ?_
                    exact WL.nil (N.cut () ⟨rfl, trivial⟩ (Below.refl _ _))
                  refine And.intro (fun β w hS => ?_) ?_
                  ·
                    refine WL.sub (σ' := [(10, .pointer (some ⟨b17, 0, none⟩)), (103, .bool false)]) ⟨rfl, rfl, trivial⟩ ?_
                    refine WL.fieldAddr fo_36_5 rfl rfl rfl ?_
                    exact WL.nil (N.cut () ⟨rfl, trivial⟩ (Below.refl _ _))
                  refine And.intro (fun β w hS => ?_) ?_
                  ·
                    refine WL.sub (σ' := [(103, .bool false), (111, .pointer (some ⟨b17, 5, none⟩))]) ⟨rfl, rfl, trivial⟩ ?_
                    refine WL.load1 (v := .slice ad16 x16.args.length cap16) one_28 rfl rfl rfl (hS.cell 0 rfl rfl) ?_
                    exact WL.nil (N.cut () ⟨rfl, trivial⟩ (Below.refl _ _))
                  refine And.intro (fun β w hS => ?_) ?_
                  ·
                    refine WL.sub (σ' := [(103, .bool false), (112, .slice ad16 x16.args.length cap16)]) ⟨rfl, rfl, trivial⟩ ?_
                    refine WL.lenSlice Try.underlying28 rfl rfl rfl ?_
                    exact WL.nil (N.cut () ⟨rfl, trivial⟩ (Below.refl _ _))
                  refine And.intro (fun β w hS => ?_) ?_
                  ·
                    refine WL.sub (σ' := [(103, .bool false), (110, .int .i64 (x24.args.length : Int)), (113, .int .i64 (x16.args.length : Int))]) ⟨rfl, rfl, rfl, trivial⟩ ?_
                    refine WL.bin rfl rfl rfl rfl rfl ?_
                    refine WL.set 114 (v' := .bool false) rfl (by simp [hk3]) ?_
                    exact WL.nil (N.cut () ⟨rfl, trivial⟩ (Below.refl _ _))
                  refine And.intro (fun β w hS => ?_) ?_
                  ·
                    refine WL.sub (σ' := [(103, .bool false), (114, .bool false)]) ⟨rfl, rfl, trivial⟩ ?_
                    refine WL.pick (v := .bool false) rfl rfl rfl rfl rfl rfl ?_
                    exact WL.nil (N.cut () ⟨rfl, trivial⟩ (Below.refl _ _))
                  trivial
                ·
                  clear hS; intro w27 β hS
                  refine WL.sub (σ' := [(0, .agg #[.string f.name, .int .i64 f.bind, .int .i64 f.params, .slice adbF f.blocks.length capbF]), (1, .int .i64 k), (2, .pointer (some ⟨b1, 0, none⟩)), (5, .bool true), (6, .bool (func5 f)), (7, .pointer (some ⟨b11, 0, none⟩)), (8, .int .i64 (n2 : Int)), (9, .int .i64 (i : Int)), (10, .pointer (some ⟨b17, 0, none⟩)), (11, .bool (does13 x16)), (13, .bool true), (14, .agg #[.string f.name, .int .i64 f.bind, .int .i64 f.params, .slice adbF f.blocks.length capbF]), (15, .bool (func5 f)), (16, .bool (func5 f)), (17, .bool false), (18, .bool false), (19, .int .i64 k), (20, .bool false), (21, .bool false), (22, .bool false), (23, .int .i64 k), (24, .pointer (some ⟨b1, 3, none⟩)), (25, .slice adbF f.blocks.length capbF), (26, .int .i64 (f.blocks.length : Int)), (27, .bool (decide ((f.blocks.length : Int) ≤ k))), (28, .bool (decide ((f.blocks.length : Int) ≤ k))), (30, .pointer (some ⟨b1, 3, none⟩)), (31, .slice adbF f.blocks.length capbF), (32, .int .i64 (k.toNat : Int)), (33, .pointer (some ⟨b8, o8 + k.toNat * 8, none⟩)), (34, .agg #[.int .i64 x8.params, .slice adi8 x8.ins.length capi8, .int .i64 x8.fin.kind, .int .i64 x8.fin.a, .int .i64 x8.fin.to, .slice adp8 x8.fin.args.length capp8, .int .i64 x8.fin.els, .slice adq8 x8.fin.elses.length capq8]), (35, .agg #[.int .i64 B.params, .slice adir B.ins.length capir, .int .i64 B.fin.kind, .int .i64 B.fin.a, .int .i64 B.fin.to, .slice adpr B.fin.args.length cappr, .int .i64 B.fin.els, .slice adqr B.fin.elses.length capqr]), (36, .int .i64 (i : Int)), (37, .pointer (some ⟨b1, 3, none⟩)), (38, .slice adbF f.blocks.length capbF), (39, .int .i64 (k.toNat : Int)), (40, .pointer (some ⟨b8, o8 + k.toNat * 8, none⟩)), (41, .pointer (some ⟨b8, o8 + k.toNat * 8 + 1, none⟩)), (42, .slice adi8 x8.ins.length capi8), (43, .int .i64 (x8.ins.length : Int)), (44, .bool (decide ((i : Int) < (x8.ins.length : Int)))), (47, .pointer (some ⟨b1, 3, none⟩)), (48, .slice adbF f.blocks.length capbF), (49, .int .i64 (k.toNat : Int)), (50, .pointer (some ⟨b8, o8 + k.toNat * 8, none⟩)), (51, .pointer (some ⟨b8, o8 + k.toNat * 8 + 1, none⟩)), (52, .slice adi8 x8.ins.length capi8), (53, .int .i64 (i : Int)), (54, .pointer (some ⟨b16, o16 + i * 6, none⟩)), (55, .agg #[.int .i64 x16.op, .int .i64 x16.a, .int .i64 x16.b, .int .u64 x16.k, .string x16.name, .slice ad16 x16.args.length cap16]), (56, .agg #[.int .i64 x16.op, .int .i64 x16.a, .int .i64 x16.b, .int .u64 x16.k, .string x16.name, .slice ad16 x16.args.length cap16]), (57, .bool (does13 x16)), (58, .bool (does13 x16)), (59, .bool (!(does13 x16))), (60, .int .i64 (n2 : Int)), (61, .pointer (some ⟨b11, 1, none⟩)), (62, .slice adir B.ins.length capir), (63, .int .i64 (B.ins.length : Int)), (64, .bool true), (65, .bool true), (66, .pointer (some ⟨b11, 1, none⟩)), (67, .slice adir B.ins.length capir), (68, .int .i64 (n2 : Int)), (69, .pointer (some ⟨b24, o24 + n2 * 6, none⟩)), (70, .agg #[.int .i64 x24.op, .int .i64 x24.a, .int .i64 x24.b, .int .u64 x24.k, .string x24.name, .slice ad24 x24.args.length cap24]), (71, .bool (does13 x24)), (72, .bool (!(does13 x24))), (73, .bool (!(does13 x24))), (76, .int .i64 (n2 : Int)), (77, .pointer (some ⟨b11, 1, none⟩)), (78, .slice adir B.ins.length capir), (79, .int .i64 (B.ins.length : Int)), (80, .bool false), (81, .bool false), (82, .pointer (some ⟨b11, 1, none⟩)), (83, .slice adir B.ins.length capir), (84, .int .i64 (n2 : Int)), (85, .pointer (some ⟨b24, o24 + n2 * 6, none⟩)), (86, .pointer (some ⟨b24, o24 + n2 * 6, none⟩)), (87, .int .i64 x24.op), (88, .pointer (some ⟨b17, 0, none⟩)), (89, .int .i64 x16.op), (90, .bool false), (91, .bool false), (92, .bool false), (93, .pointer (some ⟨b11, 1, none⟩)), (94, .slice adir B.ins.length capir), (95, .int .i64 (n2 : Int)), (96, .pointer (some ⟨b24, o24 + n2 * 6, none⟩)), (97, .pointer (some ⟨b24, o24 + n2 * 6 + 4, none⟩)), (98, .string x24.name), (99, .pointer (some ⟨b17, 4, none⟩)), (100, .string x16.name), (101, .bool false), (102, .bool false), (103, .bool false), (104, .pointer (some ⟨b11, 1, none⟩)), (105, .slice adir B.ins.length capir), (106, .int .i64 (n2 : Int)), (107, .pointer (some ⟨b24, o24 + n2 * 6, none⟩)), (108, .pointer (some ⟨b24, o24 + n2 * 6 + 5, none⟩)), (109, .slice ad24 x24.args.length cap24), (110, .int .i64 (x24.args.length : Int)), (111, .pointer (some ⟨b17, 5, none⟩)), (112, .slice ad16 x16.args.length cap16), (113, .int .i64 (x16.args.length : Int)), (114, .bool false), (115, .bool false)]) ⟨rfl, rfl, rfl, rfl, rfl, rfl, rfl, rfl, rfl, rfl, rfl, rfl, rfl, rfl, rfl, rfl, rfl, rfl, rfl, rfl, rfl, rfl, rfl, rfl, rfl, rfl, rfl, rfl, rfl, rfl, rfl, rfl, rfl, rfl, rfl, rfl, rfl, rfl, rfl, rfl, rfl, rfl, rfl, rfl, rfl, rfl, rfl, rfl, rfl, rfl, rfl, rfl, rfl, rfl, rfl, rfl, rfl, rfl, rfl, rfl, rfl, rfl, rfl, rfl, rfl, rfl, rfl, rfl, rfl, rfl, rfl, rfl, rfl, rfl, rfl, rfl, rfl, rfl, rfl, rfl, rfl, rfl, rfl, rfl, rfl, rfl, rfl, rfl, rfl, rfl, rfl, rfl, rfl, rfl, rfl, rfl, rfl, rfl, rfl, rfl, rfl, rfl, rfl, rfl, rfl, rfl, rfl, rfl, trivial⟩ ?_
                  refine WL.nil ?_
                  refine N.seq ?_
                  refine W.condF rfl ?_
                  refine W.skip ?_
                  refine N.seq ?_
                  refine W.region ?_
                  refine WL.move rfl rfl rfl ?_
                  refine WL.add (c := (n2 : Int) + 1) rfl rfl rfl rfl (rfl) (by omega) ?_
                  refine WL.assign rfl rfl rfl ?_
                  refine WL.nil ?_
                  refine N.blk ?_
                  refine N.seq ?_
                  refine W.region ?_
                  refine WL.move rfl rfl rfl ?_
                  refine WL.add (c := (i : Int) + 1) rfl rfl rfl rfl (rfl) (by omega) ?_
                  refine WL.assign rfl rfl rfl ?_
                  refine WL.nil ?_
                  have hS := hS.dropN 1
                  exact N.loop (i + 1, n2 + 1) ⟨rfl, rfl, rfl, rfl, rfl, rfl, rfl, rfl, rfl, rfl, rfl, rfl, rfl, rfl, rfl, rfl, rfl, rfl, rfl, rfl, rfl, rfl, rfl, rfl, rfl, rfl, rfl, rfl, rfl, rfl, trivial⟩ ⟨hS, by omega, by omega, hkB⟩ (by first | omega | (simp only; omega))
        ·
          have hc15p : ¬ ((i : Int) < (x8.ins.length : Int)) := by simpa using hc15
          refine W.exit ?_
          refine X.seq ?_
          refine X.loop ?_
          refine X.blk ?_
          refine N.seq ?_
          refine W.seq ?_
          refine W.block ?_
          refine W.loop (α := Nat) (fun (n3 : Nat) => [(0, .agg #[.string f.name, .int .i64 f.bind, .int .i64 f.params, .slice adbF f.blocks.length capbF]), (1, .int .i64 k), (2, .pointer (some ⟨b1, 0, none⟩)), (5, .bool true), (6, .bool (func5 f)), (7, .pointer (some ⟨b11, 0, none⟩)), (8, .int .i64 (n3 : Int)), (9, .int .i64 (i : Int)), (13, .bool true), (14, .agg #[.string f.name, .int .i64 f.bind, .int .i64 f.params, .slice adbF f.blocks.length capbF]), (15, .bool (func5 f)), (16, .bool (func5 f)), (17, .bool false), (18, .bool false), (19, .int .i64 k), (20, .bool false), (21, .bool false), (22, .bool false), (23, .int .i64 k), (24, .pointer (some ⟨b1, 3, none⟩)), (25, .slice adbF f.blocks.length capbF), (26, .int .i64 (f.blocks.length : Int)), (27, .bool (decide ((f.blocks.length : Int) ≤ k))), (28, .bool (decide ((f.blocks.length : Int) ≤ k))), (30, .pointer (some ⟨b1, 3, none⟩)), (31, .slice adbF f.blocks.length capbF), (32, .int .i64 (k.toNat : Int)), (33, .pointer (some ⟨b8, o8 + k.toNat * 8, none⟩)), (34, .agg #[.int .i64 x8.params, .slice adi8 x8.ins.length capi8, .int .i64 x8.fin.kind, .int .i64 x8.fin.a, .int .i64 x8.fin.to, .slice adp8 x8.fin.args.length capp8, .int .i64 x8.fin.els, .slice adq8 x8.fin.elses.length capq8]), (35, .agg #[.int .i64 B.params, .slice adir B.ins.length capir, .int .i64 B.fin.kind, .int .i64 B.fin.a, .int .i64 B.fin.to, .slice adpr B.fin.args.length cappr, .int .i64 B.fin.els, .slice adqr B.fin.elses.length capqr]), (36, .int .i64 (i : Int)), (37, .pointer (some ⟨b1, 3, none⟩)), (38, .slice adbF f.blocks.length capbF), (39, .int .i64 (k.toNat : Int)), (40, .pointer (some ⟨b8, o8 + k.toNat * 8, none⟩)), (41, .pointer (some ⟨b8, o8 + k.toNat * 8 + 1, none⟩)), (42, .slice adi8 x8.ins.length capi8), (43, .int .i64 (x8.ins.length : Int)), (44, .bool (decide ((i : Int) < (x8.ins.length : Int))))]) (fun (n3 : Nat) u => St w w9 u (roFrom ro w4 w9) [(b11, .cells #[.int .i64 B.params, .slice adir B.ins.length capir, .int .i64 B.fin.kind, .int .i64 B.fin.a, .int .i64 B.fin.to, .slice adpr B.fin.args.length cappr, .int .i64 B.fin.els, .slice adqr B.fin.elses.length capqr] 32 (0, 0)), (b1, .cells #[.string f.name, .int .i64 f.bind, .int .i64 f.params, .slice adbF f.blocks.length capbF] 24 (0, 0))] [] ∧ n3 ≤ B.ins.length ∧ Keep13 (x8.ins.drop i) (B.ins.drop n3)) (fun (n3 : Nat) => B.ins.length - n3) n ⟨rfl, rfl, rfl, rfl, rfl, rfl, rfl, rfl, rfl, rfl, rfl, rfl, rfl, rfl, rfl, rfl, rfl, rfl, rfl, rfl, rfl, rfl, rfl, rfl, rfl, rfl, rfl, rfl, rfl, rfl, rfl, rfl, rfl, rfl, rfl, rfl, rfl, rfl, rfl, trivial⟩ ⟨hS, hn, hK⟩ ?_
          clear hS
          rintro n3 w28 ⟨hS, hn3, hK3⟩
          refine W.seq ?_
          refine W.seq ?_
          refine W.region ?_
          refine WL.move rfl rfl rfl ?_
          refine WL.fieldAddr fo_32_1 rfl rfl rfl ?_
          refine WL.load1 (v := .slice adir B.ins.length capir) one_27 rfl rfl rfl (hS.cell 0 rfl rfl) ?_
          refine WL.lenSlice Try.underlying27 rfl rfl rfl ?_
          refine WL.bin rfl rfl rfl rfl rfl ?_
          refine WL.nil ?_
          refine N.seq ?_
          refine W.cond rfl (fun hc29 => ?_) (fun hc29 => ?_)
          ·
            have hc29p : (n3 : Int) < (B.ins.length : Int) := by simpa using hc29
            refine W.skip ?_
            refine N.seq ?_
            refine W.block ?_
            refine W.seq ?_
            refine W.region ?_
            refine WL.fieldAddr fo_32_1 rfl rfl rfl ?_
            refine WL.load1 (v := .slice adir B.ins.length capir) one_27 rfl rfl rfl (hS.cell 0 rfl rfl) ?_
            refine WL.move rfl rfl rfl ?_
            have hj30 : n3 < B.ins.length := by omega
            obtain ⟨x30, hx30⟩ : ∃ zz, B.ins[n3]? = some zz := ⟨_, List.getElem?_eq_getElem hj30⟩
            obtain ⟨b30, o30, cs30, hE30, hr30, hl30, hc30, hQ30⟩ := hinrd n3 _ hx30
            have hQk30 := hQ30
            obtain ⟨sv30, rfl, hs30, ho30, ha30, hb30, hk30, hn30⟩ := hQ30
            obtain ⟨ad30, cap30, rfl, hs30a, hs30b, hs30c, hs30d⟩ := id hs30
            have hs30m : x30.args.length ≤ 9223372036854775807 := by have h1 := hs30a; have h2 := hs30b; unfold maxLen at h2; omega
            refine WL.indexAddrE (j := n3) Try.underlying27 isz_36 rfl rfl rfl rfl hj30 hE30 ?_
            refine WL.loadN (cs := [.int .i64 x30.op, .int .i64 x30.a, .int .i64 x30.b, .int .u64 x30.k, .string x30.name, .slice ad30 x30.args.length cap30]) agg_36 rfl rfl rfl rfl (hS.roCells hr30 hc30) ?_
            refine WL.callF (vs := [.agg #[.int .i64 x30.op, .int .i64 x30.a, .int .i64 x30.b, .int .u64 x30.k, .string x30.name, .slice ad30 x30.args.length cap30]]) Try.func12 (by kernel_rfl) rfl rfl rfl (rdoes_ret x30 _ (ro := (roFrom ro w4 w9)) (fun b hb => (hS.snap b hb).1) (hQk30.keep hS.alike)) ?_
            rintro v w31 ⟨rfl, hbl⟩
            replace hS := hS.grow hbl
            have hno := keep_no hx30 (by omega) hK3
            refine WL.set 128 (v' := .bool false) rfl (by rw [hno]) ?_
            refine WL.assign rfl rfl rfl ?_
            refine WL.nil ?_
            refine N.seq ?_
            refine W.seq ?_
            refine W.seq ?_
            refine W.region ?_
            refine WL.move rfl rfl rfl ?_
            refine WL.nil ?_
            refine N.seq ?_
            refine W.condF rfl ?_
            refine W.skip ?_
            refine N.seq ?_
            refine W.region ?_
            refine WL.move rfl rfl rfl ?_
            refine WL.add (c := (n3 : Int) + 1) rfl rfl rfl rfl (rfl) (by omega) ?_
            refine WL.assign rfl rfl rfl ?_
            refine WL.nil ?_
            refine N.blk ?_
            exact N.loop (n3 + 1) ⟨rfl, rfl, rfl, rfl, rfl, rfl, rfl, rfl, rfl, rfl, rfl, rfl, rfl, rfl, rfl, rfl, rfl, rfl, rfl, rfl, rfl, rfl, rfl, rfl, rfl, rfl, rfl, rfl, rfl, rfl, rfl, rfl, rfl, rfl, rfl, rfl, rfl, rfl, rfl, trivial⟩ ⟨hS, by omega, keepR hx30 (keep_no hx30 (by omega) hK3) hK3⟩ (by first | omega | (simp only; omega))
          ·
            have hc29p : ¬ ((n3 : Int) < (B.ins.length : Int)) := by simpa using hc29
            refine W.exit ?_
            refine X.seq ?_
            refine X.loop ?_
            refine X.blk ?_
            refine N.seq ?_
            refine W.seq ?_
            refine W.drawL (by kernel_rfl) 25 [.q (.bool true), .q (.bool true), .q (.pointer (some ⟨b11, 0, none⟩)), .q (.int .i64 B.params), .q (.pointer (some ⟨b1, 3, none⟩)), .q (.slice adbF f.blocks.length capbF), .q (.int .i64 k), .q (.pointer (some ⟨b8, o8 + k.toNat * 8, none⟩)), .q (.pointer (some ⟨b8, o8 + k.toNat * 8, none⟩)), .q (.int .i64 x8.params), .q (.bool true), .q (.bool true), .q (.bool true), .q (.pointer (some ⟨b11, 2, none⟩)), .q (.pointer (some ⟨b11, 2, none⟩)), .q (.int .i64 B.fin.kind), .q (.pointer (some ⟨b1, 3, none⟩)), .q (.slice adbF f.blocks.length capbF), .q (.int .i64 k), .q (.pointer (some ⟨b8, o8 + k.toNat * 8, none⟩)), .q (.pointer (some ⟨b8, o8 + k.toNat * 8 + 2, none⟩)), .q (.pointer (some ⟨b8, o8 + k.toNat * 8 + 2, none⟩)), .q (.int .i64 x8.fin.kind), .q (.bool true), .q (.bool true)] (by kernel_rfl) rfl [(0, .agg #[.string f.name, .int .i64 f.bind, .int .i64 f.params, .slice adbF f.blocks.length capbF]), (1, .int .i64 k), (2, .pointer (some ⟨b1, 0, none⟩)), (5, .bool true), (6, .bool (func5 f)), (7, .pointer (some ⟨b11, 0, none⟩)), (8, .int .i64 (n3 : Int)), (9, .int .i64 (i : Int)), (13, .bool true), (14, .agg #[.string f.name, .int .i64 f.bind, .int .i64 f.params, .slice adbF f.blocks.length capbF]), (15, .bool (func5 f)), (16, .bool (func5 f)), (17, .bool false), (18, .bool false), (19, .int .i64 k), (20, .bool false), (21, .bool false), (22, .bool false), (23, .int .i64 k), (24, .pointer (some ⟨b1, 3, none⟩)), (25, .slice adbF f.blocks.length capbF), (26, .int .i64 (f.blocks.length : Int)), (27, .bool (decide ((f.blocks.length : Int) ≤ k))), (28, .bool (decide ((f.blocks.length : Int) ≤ k))), (30, .pointer (some ⟨b1, 3, none⟩)), (31, .slice adbF f.blocks.length capbF), (32, .int .i64 (k.toNat : Int)), (33, .pointer (some ⟨b8, o8 + k.toNat * 8, none⟩)), (34, .agg #[.int .i64 x8.params, .slice adi8 x8.ins.length capi8, .int .i64 x8.fin.kind, .int .i64 x8.fin.a, .int .i64 x8.fin.to, .slice adp8 x8.fin.args.length capp8, .int .i64 x8.fin.els, .slice adq8 x8.fin.elses.length capq8]), (35, .agg #[.int .i64 B.params, .slice adir B.ins.length capir, .int .i64 B.fin.kind, .int .i64 B.fin.a, .int .i64 B.fin.to, .slice adpr B.fin.args.length cappr, .int .i64 B.fin.els, .slice adqr B.fin.elses.length capqr]), (36, .int .i64 (i : Int)), (37, .pointer (some ⟨b1, 3, none⟩)), (38, .slice adbF f.blocks.length capbF), (39, .int .i64 (k.toNat : Int)), (40, .pointer (some ⟨b8, o8 + k.toNat * 8, none⟩)), (41, .pointer (some ⟨b8, o8 + k.toNat * 8 + 1, none⟩)), (42, .slice adi8 x8.ins.length capi8), (43, .int .i64 (x8.ins.length : Int)), (44, .bool (decide ((i : Int) < (x8.ins.length : Int)))), (118, .int .i64 (n3 : Int)), (119, .pointer (some ⟨b11, 1, none⟩)), (120, .slice adir B.ins.length capir), (121, .int .i64 (B.ins.length : Int)), (122, .bool (decide ((n3 : Int) < (B.ins.length : Int))))] ⟨rfl, rfl, rfl, rfl, rfl, rfl, rfl, rfl, rfl, rfl, rfl, rfl, rfl, rfl, rfl, rfl, rfl, rfl, rfl, rfl, rfl, rfl, rfl, rfl, rfl, rfl, rfl, rfl, rfl, rfl, rfl, rfl, rfl, rfl, rfl, rfl, rfl, rfl, rfl, rfl, rfl, rfl, rfl, rfl, trivial⟩ rfl hS ?_ ?_
            ·
              refine And.intro (fun β w hS => ?_) ?_
              ·
                refine WL.sub (σ' := [(5, .bool true)]) ⟨rfl, trivial⟩ ?_
                refine WL.move rfl rfl rfl ?_
                exact WL.nil (N.cut () ⟨rfl, trivial⟩ (Below.refl _ _))
              refine And.intro (fun β w hS => ?_) ?_
              ·
                refine WL.sub (σ' := [(132, .bool true)]) ⟨rfl, trivial⟩ ?_
                refine WL.move rfl rfl rfl ?_
                exact WL.nil (N.cut () ⟨rfl, trivial⟩ (Below.refl _ _))
              refine And.intro (fun β w hS => ?_) ?_
              ·
                refine WL.sub (σ' := [(7, .pointer (some ⟨b11, 0, none⟩)), (133, .bool true)]) ⟨rfl, rfl, trivial⟩ ?_
                refine WL.fieldAddr fo_32_0 rfl rfl rfl ?_
                exact WL.nil (N.cut () ⟨rfl, trivial⟩ (Below.refl _ _))
              refine And.intro (fun β w hS => ?_) ?_
              ·
                refine WL.sub (σ' := [(133, .bool true), (134, .pointer (some ⟨b11, 0, none⟩))]) ⟨rfl, rfl, trivial⟩ ?_
                refine WL.load1 (v := .int .i64 B.params) one_3 rfl rfl rfl (hS.cell 0 rfl rfl) ?_
                exact WL.nil (N.cut () ⟨rfl, trivial⟩ (Below.refl _ _))
              refine And.intro (fun β w hS => ?_) ?_
              ·
                refine WL.sub (σ' := [(2, .pointer (some ⟨b1, 0, none⟩)), (133, .bool true)]) ⟨rfl, rfl, trivial⟩ ?_
                refine WL.fieldAddr fo_24_3 rfl rfl rfl ?_
                exact WL.nil (N.cut () ⟨rfl, trivial⟩ (Below.refl _ _))
              refine And.intro (fun β w hS => ?_) ?_
              ·
                refine WL.sub (σ' := [(133, .bool true), (136, .pointer (some ⟨b1, 3, none⟩))]) ⟨rfl, rfl, trivial⟩ ?_
                refine WL.load1 (v := .slice adbF f.blocks.length capbF) one_22 rfl rfl rfl (hS.cell 1 rfl rfl) ?_
                exact WL.nil (N.cut () ⟨rfl, trivial⟩ (Below.refl _ _))
              refine And.intro (fun β w hS => ?_) ?_
              ·
                refine WL.sub (σ' := [(1, .int .i64 k), (133, .bool true)]) ⟨rfl, rfl, trivial⟩ ?_
                refine WL.move rfl rfl rfl ?_
                exact WL.nil (N.cut () ⟨rfl, trivial⟩ (Below.refl _ _))
              refine And.intro (fun β w hS => ?_) ?_
              ·
                refine WL.sub (σ' := [(133, .bool true), (137, .slice adbF f.blocks.length capbF), (138, .int .i64 k)]) ⟨rfl, rfl, rfl, trivial⟩ ?_
                refine WL.set 138 (v' := .int .i64 (k.toNat : Int)) rfl (by congr 1; omega) ?_
                refine WL.indexAddrE (j := k.toNat) Try.underlying22 isz_32 rfl rfl rfl rfl hj8 hE8 ?_
                exact WL.nil (N.cut () ⟨rfl, trivial⟩ (Below.refl _ _))
              refine And.intro (fun β w hS => ?_) ?_
              ·
                refine WL.sub (σ' := [(133, .bool true), (139, .pointer (some ⟨b8, o8 + k.toNat * 8, none⟩))]) ⟨rfl, rfl, trivial⟩ ?_
                refine WL.fieldAddr fo_32_0 rfl rfl rfl ?_
                exact WL.nil (N.cut () ⟨rfl, trivial⟩ (Below.refl _ _))
              refine And.intro (fun β w hS => ?_) ?_
              ·
                refine WL.sub (σ' := [(133, .bool true), (140, .pointer (some ⟨b8, o8 + k.toNat * 8, none⟩))]) ⟨rfl, rfl, trivial⟩ ?_
                refine WL.load1 (v := .int .i64 x8.params) one_3 rfl rfl rfl (hS.roCells hr8 hc8 0 _ rfl) ?_
                exact WL.nil (N.cut () ⟨rfl, trivial⟩ (Below.refl _ _))
              refine And.intro (fun β w hS => ?_) ?_
              ·
                refine WL.sub (σ' := [(133, .bool true), (135, .int .i64 B.params), (141, .int .i64 x8.params)]) ⟨rfl, rfl, rfl, trivial⟩ ?_
                refine WL.bin rfl rfl rfl rfl rfl ?_
                refine WL.set 142 (v' := .bool true) rfl (congrArg Value.bool (show (decide (B.params = x8.params)) = true from decide_eq_true hbp)) ?_
                exact WL.nil (N.cut () ⟨rfl, trivial⟩ (Below.refl _ _))
              refine And.intro (fun β w hS => ?_) ?_
              ·
                refine WL.sub (σ' := [(133, .bool true), (142, .bool true)]) ⟨rfl, rfl, trivial⟩ ?_
                refine WL.pick (v := .bool true) rfl rfl rfl rfl rfl rfl ?_
                exact WL.nil (N.cut () ⟨rfl, trivial⟩ (Below.refl _ _))
              refine And.intro (fun β w hS => ?_) ?_
              ·
                refine WL.sub (σ' := [(143, .bool true)]) ⟨rfl, trivial⟩ ?_
                refine WL.move rfl rfl rfl ?_
                exact WL.nil (N.cut () ⟨rfl, trivial⟩ (Below.refl _ _))
              refine And.intro (fun β w hS => ?_) ?_
              ·
                refine WL.sub (σ' := [(7, .pointer (some ⟨b11, 0, none⟩)), (144, .bool true)]) ⟨rfl, rfl, trivial⟩ ?_
                refine WL.fieldAddr fo_32_2 rfl rfl rfl ?_
                exact WL.nil (N.cut () ⟨rfl, trivial⟩ (Below.refl _ _))
              refine And.intro (fun β w hS => ?_) ?_
              ·
                refine WL.sub (σ' := [(144, .bool true), (145, .pointer (some ⟨b11, 2, none⟩))]) ⟨rfl, rfl, trivial⟩ ?_
                refine WL.fieldAddr fo_30_0 rfl rfl rfl ?_
                exact WL.nil (N.cut () ⟨rfl, trivial⟩ (Below.refl _ _))
              refine And.intro (fun β w hS => ?_) ?_
              ·
                refine WL.sub (σ' := [(144, .bool true), (146, .pointer (some ⟨b11, 2, none⟩))]) ⟨rfl, rfl, trivial⟩ ?_
                refine WL.load1 (v := .int .i64 B.fin.kind) one_3 rfl rfl rfl (hS.cell 0 rfl rfl) ?_
                exact WL.nil (N.cut () ⟨rfl, trivial⟩ (Below.refl _ _))
              refine And.intro (fun β w hS => ?_) ?_
              ·
                refine WL.sub (σ' := [(2, .pointer (some ⟨b1, 0, none⟩)), (144, .bool true)]) ⟨rfl, rfl, trivial⟩ ?_
                refine WL.fieldAddr fo_24_3 rfl rfl rfl ?_
                exact WL.nil (N.cut () ⟨rfl, trivial⟩ (Below.refl _ _))
              refine And.intro (fun β w hS => ?_) ?_
              ·
                refine WL.sub (σ' := [(144, .bool true), (148, .pointer (some ⟨b1, 3, none⟩))]) ⟨rfl, rfl, trivial⟩ ?_
                refine WL.load1 (v := .slice adbF f.blocks.length capbF) one_22 rfl rfl rfl (hS.cell 1 rfl rfl) ?_
                exact WL.nil (N.cut () ⟨rfl, trivial⟩ (Below.refl _ _))
              refine And.intro (fun β w hS => ?_) ?_
              ·
                refine WL.sub (σ' := [(1, .int .i64 k), (144, .bool true)]) ⟨rfl, rfl, trivial⟩ ?_
                refine WL.move rfl rfl rfl ?_
                exact WL.nil (N.cut () ⟨rfl, trivial⟩ (Below.refl _ _))
              refine And.intro (fun β w hS => ?_) ?_
              ·
                refine WL.sub (σ' := [(144, .bool true), (149, .slice adbF f.blocks.length capbF), (150, .int .i64 k)]) ⟨rfl, rfl, rfl, trivial⟩ ?_
                refine WL.set 150 (v' := .int .i64 (k.toNat : Int)) rfl (by congr 1; omega) ?_
                refine WL.indexAddrE (j := k.toNat) Try.underlying22 isz_32 rfl rfl rfl rfl hj8 hE8 ?_
                exact WL.nil (N.cut () ⟨rfl, trivial⟩ (Below.refl _ _))
              refine And.intro (fun β w hS => ?_) ?_
              ·
                refine WL.sub (σ' := [(144, .bool true), (151, .pointer (some ⟨b8, o8 + k.toNat * 8, none⟩))]) ⟨rfl, rfl, trivial⟩ ?_
                refine WL.fieldAddr fo_32_2 rfl rfl rfl ?_
                exact WL.nil (N.cut () ⟨rfl, trivial⟩ (Below.refl _ _))
              refine And.intro (fun β w hS => ?_) ?_
              ·
                refine WL.sub (σ' := [(144, .bool true), (152, .pointer (some ⟨b8, o8 + k.toNat * 8 + 2, none⟩))]) ⟨rfl, rfl, trivial⟩ ?_
                refine WL.fieldAddr fo_30_0 rfl rfl rfl ?_
                exact WL.nil (N.cut () ⟨rfl, trivial⟩ (Below.refl _ _))
              refine And.intro (fun β w hS => ?_) ?_
              ·
                refine WL.sub (σ' := [(144, .bool true), (153, .pointer (some ⟨b8, o8 + k.toNat * 8 + 2, none⟩))]) ⟨rfl, rfl, trivial⟩ ?_
                refine WL.load1 (v := .int .i64 x8.fin.kind) one_3 rfl rfl rfl (hS.roCells hr8 hc8 2 _ rfl) ?_
                exact WL.nil (N.cut () ⟨rfl, trivial⟩ (Below.refl _ _))
              refine And.intro (fun β w hS => ?_) ?_
              ·
                refine WL.sub (σ' := [(144, .bool true), (147, .int .i64 B.fin.kind), (154, .int .i64 x8.fin.kind)]) ⟨rfl, rfl, rfl, trivial⟩ ?_
                refine WL.bin rfl rfl rfl rfl rfl ?_
                refine WL.set 155 (v' := .bool true) rfl (congrArg Value.bool (show (decide (B.fin.kind = x8.fin.kind)) = true from decide_eq_true hbk)) ?_
                exact WL.nil (N.cut () ⟨rfl, trivial⟩ (Below.refl _ _))
              refine And.intro (fun β w hS => ?_) ?_
              ·
                refine WL.sub (σ' := [(144, .bool true), (155, .bool true)]) ⟨rfl, rfl, trivial⟩ ?_
                refine WL.pick (v := .bool true) rfl rfl rfl rfl rfl rfl ?_
                exact WL.nil (N.cut () ⟨rfl, trivial⟩ (Below.refl _ _))
              trivial
            ·
              clear hS; intro w32 β hS
              refine WL.sub (σ' := [(0, .agg #[.string f.name, .int .i64 f.bind, .int .i64 f.params, .slice adbF f.blocks.length capbF]), (1, .int .i64 k), (2, .pointer (some ⟨b1, 0, none⟩)), (5, .bool true), (6, .bool (func5 f)), (7, .pointer (some ⟨b11, 0, none⟩)), (8, .int .i64 (n3 : Int)), (9, .int .i64 (i : Int)), (13, .bool true), (14, .agg #[.string f.name, .int .i64 f.bind, .int .i64 f.params, .slice adbF f.blocks.length capbF]), (15, .bool (func5 f)), (16, .bool (func5 f)), (17, .bool false), (18, .bool false), (19, .int .i64 k), (20, .bool false), (21, .bool false), (22, .bool false), (23, .int .i64 k), (24, .pointer (some ⟨b1, 3, none⟩)), (25, .slice adbF f.blocks.length capbF), (26, .int .i64 (f.blocks.length : Int)), (27, .bool (decide ((f.blocks.length : Int) ≤ k))), (28, .bool (decide ((f.blocks.length : Int) ≤ k))), (30, .pointer (some ⟨b1, 3, none⟩)), (31, .slice adbF f.blocks.length capbF), (32, .int .i64 (k.toNat : Int)), (33, .pointer (some ⟨b8, o8 + k.toNat * 8, none⟩)), (34, .agg #[.int .i64 x8.params, .slice adi8 x8.ins.length capi8, .int .i64 x8.fin.kind, .int .i64 x8.fin.a, .int .i64 x8.fin.to, .slice adp8 x8.fin.args.length capp8, .int .i64 x8.fin.els, .slice adq8 x8.fin.elses.length capq8]), (35, .agg #[.int .i64 B.params, .slice adir B.ins.length capir, .int .i64 B.fin.kind, .int .i64 B.fin.a, .int .i64 B.fin.to, .slice adpr B.fin.args.length cappr, .int .i64 B.fin.els, .slice adqr B.fin.elses.length capqr]), (36, .int .i64 (i : Int)), (37, .pointer (some ⟨b1, 3, none⟩)), (38, .slice adbF f.blocks.length capbF), (39, .int .i64 (k.toNat : Int)), (40, .pointer (some ⟨b8, o8 + k.toNat * 8, none⟩)), (41, .pointer (some ⟨b8, o8 + k.toNat * 8 + 1, none⟩)), (42, .slice adi8 x8.ins.length capi8), (43, .int .i64 (x8.ins.length : Int)), (44, .bool (decide ((i : Int) < (x8.ins.length : Int)))), (118, .int .i64 (n3 : Int)), (119, .pointer (some ⟨b11, 1, none⟩)), (120, .slice adir B.ins.length capir), (121, .int .i64 (B.ins.length : Int)), (122, .bool (decide ((n3 : Int) < (B.ins.length : Int)))), (132, .bool true), (133, .bool true), (134, .pointer (some ⟨b11, 0, none⟩)), (135, .int .i64 B.params), (136, .pointer (some ⟨b1, 3, none⟩)), (137, .slice adbF f.blocks.length capbF), (138, .int .i64 k), (139, .pointer (some ⟨b8, o8 + k.toNat * 8, none⟩)), (140, .pointer (some ⟨b8, o8 + k.toNat * 8, none⟩)), (141, .int .i64 x8.params), (142, .bool true), (143, .bool true), (144, .bool true), (145, .pointer (some ⟨b11, 2, none⟩)), (146, .pointer (some ⟨b11, 2, none⟩)), (147, .int .i64 B.fin.kind), (148, .pointer (some ⟨b1, 3, none⟩)), (149, .slice adbF f.blocks.length capbF), (150, .int .i64 k), (151, .pointer (some ⟨b8, o8 + k.toNat * 8, none⟩)), (152, .pointer (some ⟨b8, o8 + k.toNat * 8 + 2, none⟩)), (153, .pointer (some ⟨b8, o8 + k.toNat * 8 + 2, none⟩)), (154, .int .i64 x8.fin.kind), (155, .bool true), (156, .bool true)]) ⟨rfl, rfl, rfl, rfl, rfl, rfl, rfl, rfl, rfl, rfl, rfl, rfl, rfl, rfl, rfl, rfl, rfl, rfl, rfl, rfl, rfl, rfl, rfl, rfl, rfl, rfl, rfl, rfl, rfl, rfl, rfl, rfl, rfl, rfl, rfl, rfl, rfl, rfl, rfl, rfl, rfl, rfl, rfl, rfl, rfl, rfl, rfl, rfl, rfl, rfl, rfl, rfl, rfl, rfl, rfl, rfl, rfl, rfl, rfl, rfl, rfl, rfl, rfl, rfl, rfl, rfl, rfl, rfl, rfl, trivial⟩ ?_
              refine WL.assign rfl rfl rfl ?_
              refine WL.nil ?_
              refine N.seq ?_
              refine Fin.ret1 rfl (v := .bool true) rfl ?_
              exact ⟨rfl, hS.below⟩
    ·
      have hg6p : k < 0 := by simpa using hg6
      refine WL.skp rfl rfl ?_
      refine WL.skp rfl rfl ?_
      refine WL.skp rfl rfl ?_
      refine WL.skp rfl rfl ?_
      refine WL.skp rfl rfl ?_
      refine WL.pick (v := .bool true) rfl rfl rfl rfl rfl rfl ?_
      refine WL.nil ?_
      refine N.seq ?_
      refine W.condT rfl ?_
      refine W.seq ?_
      refine W.region ?_
      refine WL.move rfl rfl rfl ?_
      refine WL.assign rfl rfl rfl ?_
      refine WL.nil ?_
      refine N.seq ?_
      refine Fin.ret1 rfl (v := .bool true) rfl ?_
      exact ⟨rfl, hS.below⟩
  ·
    refine WL.skp rfl rfl ?_
    refine WL.skp rfl rfl ?_
    refine WL.pick (v := .bool true) rfl rfl rfl rfl rfl rfl ?_
    refine WL.move rfl rfl rfl ?_
    refine WL.skp rfl rfl ?_
    refine WL.skp rfl rfl ?_
    refine WL.skp rfl rfl ?_
    refine WL.skp rfl rfl ?_
    refine WL.skp rfl rfl ?_
    refine WL.pick (v := .bool true) rfl rfl rfl rfl rfl rfl ?_
    refine WL.nil ?_
    refine N.seq ?_
    refine W.condT rfl ?_
    refine W.seq ?_
    refine W.region ?_
    refine WL.move rfl rfl rfl ?_
    refine WL.assign rfl rfl rfl ?_
    refine WL.nil ?_
    refine N.seq ?_
    refine Fin.ret1 rfl (v := .bool true) rfl ?_
    exact ⟨rfl, hS.below⟩

end Go.Proofs.Ytdlcmhkfglckfaa
