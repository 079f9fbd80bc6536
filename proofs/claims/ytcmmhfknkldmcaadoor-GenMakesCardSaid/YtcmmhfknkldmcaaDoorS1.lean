/-
  Contracts of what is right (marlineref05). No condition beyond those that each theorem states.
-/
import Derived.Test.YtcmmhfknkldmcaaDoorR5d
import Derived.Test.YtcmmhfknkldmcaaDoorA15
namespace Go.Proofs.YtcmmhfknkldmcaaDoor
open Go.RowKit

theorem func5_all {f : DFunc} (h : func5 f = true) : f.blocks.length ≤ 16 ∧ ∀ b ∈ f.blocks, block5 f b = true := by
  unfold func5 at h
  split at h
  · cases h
  rename_i h1
  refine ⟨by omega, ?_⟩
  split at h
  · rename_i e; rw [e]; intro b hb; cases hb
  · simp only [Bool.and_eq_true, List.all_eq_true] at h
    exact h.2
theorem block5_all {f : DFunc} {b : DBlock} (h : block5 f b = true) : 0 ≤ b.params ∧ b.params ≤ 6 ∧ b.ins.length ≤ 32 := by
  unfold block5 at h
  split at h
  · cases h
  · omega
theorem goes5_all {f : DFunc} {to : Int} {args : List Int} {n : Int} (h : goes5 f to args n = true) (hf : func5 f = true) : args.length ≤ 6 ∧ (∀ v ∈ args, 0 ≤ v ∧ v < n) ∧ 0 ≤ to ∧ to < f.blocks.length := by
  unfold goes5 at h
  split at h
  · cases h
  rename_i h0
  split at h
  · rename_i b hb
    split at h
    · rename_i hl
      have h1 := block5_all ((func5_all hf).2 b (List.mem_of_getElem? hb))
      refine ⟨by omega, fun v hv => ?_, by omega, ?_⟩
      · unfold below5 at h
        have := List.all_eq_true.1 h v hv
        simp only [Bool.and_eq_true, decide_eq_true_eq] at this
        exact this
      · have := (List.getElem?_eq_some_iff.1 hb).1
        omega
    · cases h
  · cases h
theorem inst5_all {x : DInst} {n : Int} (h : inst5 x n = true) : x.args.length ≤ 6 ∧ (∀ v ∈ uses5 x, 0 ≤ v ∧ v < n) ∧ 1 ≤ x.op ∧ x.op ≤ 16 := by
  unfold inst5 at h
  split at h
  · cases h
  rename_i h1
  have h2 : below5 (uses5 x) n = true := by cases e : below5 (uses5 x) n with
    | true => rfl
    | false => exact absurd (.inr (.inr (.inl e))) h1
  refine ⟨by omega, fun v hv => ?_, by omega, by omega⟩
  have := List.all_eq_true.1 h2 v hv
  simp only [Bool.and_eq_true, decide_eq_true_eq] at this
  exact this
/-- What is right of a block's end. -/
theorem term5_all {f : DFunc} {t : DTerm} {n : Int} (h : term5 f t n = true) (hf : func5 f = true) : t.args.length ≤ 6 ∧ t.elses.length ≤ 6 ∧ (∀ v ∈ t.args, 0 ≤ v ∧ v < n) ∧ (∀ v ∈ t.elses, 0 ≤ v ∧ v < n) ∧ 1 ≤ t.kind ∧ t.kind ≤ 3 ∧ (t.kind ≠ 1 → 0 ≤ t.a ∧ t.a < n) ∧
    (t.kind ≠ 3 → 0 ≤ t.to ∧ t.to < f.blocks.length) ∧ (t.kind = 2 → 0 ≤ t.els ∧ t.els < f.blocks.length) := by
  unfold term5 at h
  split at h
  · rename_i h1
    simp only [Bool.and_eq_true, decide_eq_true_eq] at h
    obtain ⟨⟨⟨hg, ha⟩, he⟩, hl⟩ := h
    obtain ⟨g1, g2, g3, g4⟩ := goes5_all hg hf
    have hl' : t.elses = [] := List.eq_nil_of_length_eq_zero hl
    exact ⟨g1, by omega, g2, (by rw [hl']; intro v hv; cases hv), by omega, by omega, fun h => absurd h1 h, fun _ => ⟨g3, g4⟩, fun h => by omega⟩
  · split at h
    · rename_i h1 h2
      simp only [Bool.and_eq_true, decide_eq_true_eq] at h
      obtain ⟨⟨⟨a1, a2⟩, hg⟩, he⟩ := h
      obtain ⟨g1, g2, g3, g4⟩ := goes5_all hg hf
      obtain ⟨e1, e2, e3, e4⟩ := goes5_all he hf
      exact ⟨g1, e1, g2, e2, by omega, by omega, fun _ => ⟨a1, a2⟩, fun _ => ⟨g3, g4⟩, fun _ => ⟨e3, e4⟩⟩
    · rename_i h1 h2
      simp only [Bool.and_eq_true, decide_eq_true_eq] at h
      obtain ⟨⟨⟨⟨⟨k3, a1, a2⟩, _⟩, hl1⟩, _⟩, hl2⟩ := h
      have l1 : t.args = [] := List.eq_nil_of_length_eq_zero hl1
      have l2 : t.elses = [] := List.eq_nil_of_length_eq_zero hl2
      exact ⟨by omega, by omega, (by rw [l1]; intro v hv; cases hv), (by rw [l2]; intro v hv; cases hv), by omega, by omega, fun _ => ⟨a1, a2⟩, fun h => absurd k3 h, fun h => absurd h h2⟩
theorem block5_more {f : DFunc} {b : DBlock} (h : block5 f b = true) : allFrom b.params b.ins = true ∧ term5 f b.fin (b.params + b.ins.length) = true := by
  unfold block5 at h
  split at h
  · cases h
  split at h
  · cases h
  rename_i h2
  exact ⟨by cases e : allFrom b.params b.ins <;> simp_all, h⟩

end Go.Proofs.YtcmmhfknkldmcaaDoor

namespace Go.Proofs.YtcmmhfknkldmcaaDoor
open Go.RowKit

theorem ivalues_ret (b : DBlock) (cs : List Value) {w : World} {ro : Nat → Prop} (hro : ∀ b, ro b → b < w.heap.size) (hb : BlockC ro w cs b) (hp : 0 ≤ b.params ∧ b.params ≤ 1000) (hl : b.ins.length ≤ 1000) : Ret Tryd.prog 61 #[.agg cs.toArray] w fun v w' => v = .int .i64 ((b.params.toNat + b.ins.length : Nat) : Int) ∧ Below w.heap.size w w' := by
 obtain ⟨si, tsx, rfl, hin, hfin, hpar⟩ := id hb
 obtain ⟨adi, capi, rfl, hina, hinb, hinc, hind⟩ := id hin
 have hinm : b.ins.length ≤ 9223372036854775807 := by have h1 := hina; have h2 := hinb; unfold maxLen at h2; omega
 obtain ⟨sp, sq, rfl, ht1, ht2, htk, hta, htt, hte⟩ := id hfin
 obtain ⟨adp, capp, rfl, htpa, htpb, htpc, htpd⟩ := id ht1
 have htpm : b.fin.args.length ≤ 9223372036854775807 := by have h1 := htpa; have h2 := htpb; unfold maxLen at h2; omega
 obtain ⟨adq, capq, rfl, htqa, htqb, htqc, htqd⟩ := id ht2
 have htqm : b.fin.elses.length ≤ 9223372036854775807 := by have h1 := htqa; have h2 := htqb; unfold maxLen at h2; omega
 refine Ret.enter (P := Tryd.prog) (n := 9) (args := [.agg #[.int .i64 b.params, .slice adi b.ins.length capi, .int .i64 b.fin.kind, .int .i64 b.fin.a, .int .i64 b.fin.to, .slice adp b.fin.args.length capp, .int .i64 b.fin.els, .slice adq b.fin.elses.length capq]]) (σ := [(0, .agg #[.int .i64 b.params, .slice adi b.ins.length capi, .int .i64 b.fin.kind, .int .i64 b.fin.a, .int .i64 b.fin.to, .slice adp b.fin.args.length capp, .int .i64 b.fin.els, .slice adq b.fin.elses.length capq])]) Tryd.func61 rfl rfl rfl rfl ?_
 have hS := St.start (ro := ro) hro
 refine W.seq (W.region ?_)
 refine WL.box (v := .agg #[.int .i64 b.params, .slice adi b.ins.length capi, .int .i64 b.fin.kind, .int .i64 b.fin.a, .int .i64 b.fin.to, .slice adp b.fin.args.length capp, .int .i64 b.fin.els, .slice adq b.fin.elses.length capq]) (cs := [.int .i64 b.params, .slice adi b.ins.length capi, .int .i64 b.fin.kind, .int .i64 b.fin.a, .int .i64 b.fin.to, .slice adp b.fin.args.length capp, .int .i64 b.fin.els, .slice adq b.fin.elses.length capq]) rfl rfl rfl rfl hS ?_
 clear hS; intro w2 b1 hb_b1 hS
 refine WL.assign rfl rfl rfl (WL.nil (N.seq (W.seq (W.region (WL.fieldAddr fo_59_0 rfl rfl rfl (WL.load1 (v := .int .i64 b.params) one_3 rfl rfl rfl (hS.cell 0 rfl rfl) (WL.fieldAddr fo_59_1 rfl rfl rfl (WL.load1 (v := .slice adi b.ins.length capi) one_54 rfl rfl rfl (hS.cell 0 rfl rfl) (WL.lenSlice Tryd.underlying54 rfl rfl rfl ?_)))))))))
 refine WL.add (c := b.params + (b.ins.length : Int)) rfl rfl rfl rfl (rfl) (by omega) ?_
 refine WL.assign rfl rfl rfl (WL.nil (N.seq ?_))
 refine Fin.ret1 rfl (v := .int .i64 (b.params + (b.ins.length : Int))) rfl ?_
 refine ⟨?_, hS.below⟩
 congr 1
 omega

theorem cloneInt_ret {α : Type} {Q : List Value → α → Prop} (ad : Option Addr) (cap : Nat) (xs : List α) {w : World} {ro : Nat → Prop} (hro : ∀ b, ro b → b < w.heap.size) (hel : Elems ro w 1 Q ad xs) (hcap : xs.length ≤ cap) (hnil : ad = none → cap = 0) (hone : ∀ c x, Q c x → ∀ u ∈ c, u.oneCell' = true) (hmx : xs.length ≤ maxLen) (hby : xs.length * 8 ≤ 140737488355328) : Ret Tryd.prog 74 #[.slice ad xs.length cap] w fun v w' => ∃ cs, w'.ownsRow w.heap.size 3 1 v xs.length cs ∧ Chunks 1 Q cs xs ∧ Below w.heap.size w w' := by
 refine Ret.enter (P := Tryd.prog) (n := 8) (args := [.slice ad xs.length cap]) (σ := [(0, .slice ad xs.length cap)]) Tryd.func74 rfl rfl rfl rfl ?_
 have hS := St.start (ro := ro) hro
 obtain ⟨news, hch, hnw, hsp⟩ := elems_news hel
 refine W.seq (W.region (WL.assign rfl rfl rfl (WL.nil (N.seq (W.seq (W.seq (W.region (WL.move rfl rfl rfl ?_))))))))
 refine WL.eqNil Tryd.underlying55 rfl rfl rfl rfl ?_
 refine WL.nil (N.seq ?_)
 refine W.cond rfl (fun hc1 => ?_) (fun hc1 => ?_)
 ·
  refine W.seq (W.region (WL.assign rfl rfl rfl (WL.nil (N.seq ?_))))
  refine Fin.ret1 rfl (v := .slice none 0 0) rfl ?_
  have hx0 : xs = [] := by
    cases ad with
    | none => exact List.eq_nil_of_length_eq_zero (by have := hnil rfl; omega)
    | some a => simp at hc1
  subst hx0
  exact ⟨[], World.ownsRow_nil _ _ _ _, Chunks.nil, hS.below⟩
 refine W.skip (N.seq (W.seq (W.region ?_)))
 refine WL.buildSlice0 Tryd.underlying55 isz_3 rfl rfl hS ?_
 clear hS; intro w3 b2 hS
 refine WL.move rfl rfl rfl ?_
 refine WL.appendRo (r := ⟨.slice (some ⟨b2, 0, none⟩) 0 0, 3, 1, 0, []⟩) (news := news) 8 Tryd.underlying55 (tyZero_spec zer_3) byt_3 rfl rfl rfl rfl rfl hch.1 (fun e => ⟨by have := hnil e; omega, hnil e⟩) ?_ hsp (chunks_all hch (by decide) hone) rfl rfl hS (by simp only; omega) (by simp only; omega) ?_
 ·
  intro b off e
  by_cases hn0 : news = []
  ·
   subst hn0; intro j v hj; simp at hj
  exact hS.roCells ((hnw b off e).2 hn0) (hnw b off e).1
 clear hS; intro w4 v5 hS hnn
 refine WL.assign rfl rfl rfl (WL.nil (N.seq ?_))
 refine Fin.ret1 rfl (v := v5) rfl ?_
 refine ⟨news, ?_, hch, hS.below⟩
 have := hS.rows _ List.mem_cons_self
 simpa using this

theorem iuses_ret (x : DInst) (cx : List Value) {w : World} {ro : Nat → Prop} (hro : ∀ b, ro b → b < w.heap.size) (hx : InstC ro w cx x) (hl : x.args.length ≤ 17592186043904) : Ret Tryd.prog 63 #[.agg cx.toArray] w fun v w' => SlV (fun b => w.heap.size ≤ b ∧ b < w'.heap.size) w' 1 IntC v (uses5 x) ∧ Below w.heap.size w w' := by
 obtain ⟨sx, rfl, hsx, hox, hax, hbx, hkx, hnx⟩ := id hx
 obtain ⟨adx, capx, rfl, hsxa, hsxb, hsxc, hsxd⟩ := id hsx
 have hsxm : x.args.length ≤ 9223372036854775807 := by have h1 := hsxa; have h2 := hsxb; unfold maxLen at h2; omega
 refine Ret.enter (P := Tryd.prog) (n := 35) (args := [.agg #[.int .i64 x.op, .int .i64 x.a, .int .i64 x.b, .int .u64 x.k, .string x.name, .slice adx x.args.length capx]]) (σ := [(0, .agg #[.int .i64 x.op, .int .i64 x.a, .int .i64 x.b, .int .u64 x.k, .string x.name, .slice adx x.args.length capx])]) Tryd.func63 rfl rfl rfl rfl ?_
 have hS := St.start (ro := ro) hro
 refine W.seq (W.region ?_)
 refine WL.box (v := .agg #[.int .i64 x.op, .int .i64 x.a, .int .i64 x.b, .int .u64 x.k, .string x.name, .slice adx x.args.length capx]) (cs := [.int .i64 x.op, .int .i64 x.a, .int .i64 x.b, .int .u64 x.k, .string x.name, .slice adx x.args.length capx]) rfl rfl rfl rfl hS ?_
 clear hS; intro w2 b1 hb_b1 hS
 refine WL.assign rfl rfl rfl (WL.nil (N.seq (W.seq (W.block (W.seq (W.block (W.seq (W.block (W.block ?_)))))))))
 refine W.seq (W.block (W.seq (W.seq (W.seq (W.region (WL.fieldAddr fo_69_0 rfl rfl rfl (WL.load1 (v := .int .i64 x.op) one_3 rfl rfl rfl (hS.cell 0 rfl rfl) (WL.bin rfl rfl rfl rfl rfl (WL.move rfl rfl rfl ?_)))))))))
 cases hg3 : (decide (2 ≤ x.op))
 ·
  have hg3p : ¬ (2 ≤ x.op) := by simpa using hg3
  refine WL.skp rfl rfl (WL.skp rfl rfl (WL.skp rfl rfl (WL.pick (v := .bool false) rfl rfl rfl rfl rfl rfl (WL.assign rfl rfl rfl (WL.nil (N.seq (W.condF rfl (W.skip (N.seq ?_)))))))))
  refine W.seq (W.seq (W.region (WL.fieldAddr fo_69_0 rfl rfl rfl (WL.load1 (v := .int .i64 x.op) one_3 rfl rfl rfl (hS.cell 0 rfl rfl) (WL.bin rfl rfl rfl rfl rfl (WL.assign rfl rfl rfl (WL.nil (N.seq ?_))))))))
  refine W.cond rfl (fun hc4 => ?_) (fun hc4 => ?_)
  ·
   have hc4p : x.op = 13 := by simpa using hc4
   refine W.exit (X.seq (X.seq (X.blk_ne rfl (X.seq (X.blk (N.blk (N.seq (W.seq (W.seq ?_)))))))))
   refine W.region (WL.fieldAddr fo_69_1 rfl rfl rfl (WL.load1 (v := .int .i64 x.a) one_3 rfl rfl rfl (hS.cell 0 rfl rfl) ?_))
   refine WL.buildSlice (ps := [(0, .int .i64 x.a)]) (cs := [.int .i64 x.a]) Tryd.underlying55 (tyZero_spec zer_3) rfl rfl rfl rfl (by kernel_rfl) hS ?_
   clear hS; intro w6 b5 hb_b5 hS
   refine WL.assign rfl rfl rfl (WL.nil (N.seq ?_))
   refine Fin.ret1 rfl (v := .slice (some ⟨b5, 0, none⟩) 1 1) rfl ?_
   have e : uses5 x = [x.a] := by unfold uses5; rw [if_neg (by omega), if_pos (by omega)]
   rw [e]
   exact ⟨slv_blk (hS.own _ List.mem_cons_self) rfl (chunks_ints (l := [x.a]) (by simp; exact hax)) ((hS.keys _ (by simp [keysOf])).imp id (·.1)) rfl (by simp [maxLen]), hS.below⟩
  have hc4p : ¬ (x.op = 13) := by simpa using hc4
  refine W.skip (N.seq (W.seq (W.seq (W.region (WL.fieldAddr fo_69_0 rfl rfl rfl (WL.load1 (v := .int .i64 x.op) one_3 rfl rfl rfl (hS.cell 0 rfl rfl) (WL.bin rfl rfl rfl rfl rfl (WL.assign rfl rfl rfl (WL.nil ?_)))))))))
  refine N.seq ?_
  refine W.cond rfl (fun hc7 => ?_) (fun hc7 => ?_)
  ·
   have hc7p : x.op = 16 := by simpa using hc7
   refine W.exit (X.seq (X.seq (X.blk_ne rfl (X.seq (X.blk_ne rfl (X.blk (N.seq (W.seq (W.seq ?_)))))))))
   refine W.region (WL.fieldAddr fo_69_1 rfl rfl rfl (WL.load1 (v := .int .i64 x.a) one_3 rfl rfl rfl (hS.cell 0 rfl rfl) ?_))
   refine WL.buildSlice (ps := [(0, .int .i64 x.a)]) (cs := [.int .i64 x.a]) Tryd.underlying55 (tyZero_spec zer_3) rfl rfl rfl rfl (by kernel_rfl) hS ?_
   clear hS; intro w9 b8 hb_b8 hS
   refine WL.assign rfl rfl rfl (WL.nil (N.seq ?_))
   refine Fin.ret1 rfl (v := .slice (some ⟨b8, 0, none⟩) 1 1) rfl ?_
   have e : uses5 x = [x.a] := by unfold uses5; rw [if_neg (by omega), if_pos (by omega)]
   rw [e]
   exact ⟨slv_blk (hS.own _ List.mem_cons_self) rfl (chunks_ints (l := [x.a]) (by simp; exact hax)) ((hS.keys _ (by simp [keysOf])).imp id (·.1)) rfl (by simp [maxLen]), hS.below⟩
  have hc7p : ¬ (x.op = 16) := by simpa using hc7
  refine W.skip (N.seq (W.seq (W.region (WL.fieldAddr fo_69_0 rfl rfl rfl (WL.load1 (v := .int .i64 x.op) one_3 rfl rfl rfl (hS.cell 0 rfl rfl) (WL.bin rfl rfl rfl rfl rfl (WL.assign rfl rfl rfl (WL.nil (N.seq ?_)))))))))
  refine W.cond rfl (fun hc10 => ?_) (fun hc10 => ?_)
  ·
   have hc10p : x.op = 14 := by simpa using hc10
   refine W.exit (X.seq (X.blk_ne rfl (X.seq (X.blk_ne rfl (X.blk_ne rfl (X.seq (X.blk (N.seq (W.seq ?_)))))))))
   refine W.seq (W.region (WL.fieldAddr fo_69_5 rfl rfl rfl (WL.load1 (v := .slice adx x.args.length capx) one_55 rfl rfl rfl (hS.cell 0 rfl rfl) ?_)))
   refine WL.callF (vs := [.slice adx x.args.length capx]) Tryd.func74 (by kernel_rfl) rfl rfl rfl (cloneInt_ret adx capx x.args (ro := fun x => x < w2.heap.size) (fun _ h => h) (hsxd.keep (fun b hb => hS.snap b hb) (fun _ _ q => q)) hsxa hsxc (fun _ _ q => one_ints q) (by unfold maxLen; omega) (by omega)) ?_
   rintro v w11 ⟨cc, how, hcc, hbl⟩
   replace hS := hS.callRow hbl how
   refine WL.assign rfl rfl rfl (WL.nil (N.seq ?_))
   refine Fin.ret1 rfl (v := v) rfl ?_
   have e : uses5 x = x.args := by unfold uses5; rw [if_neg (by omega), if_neg (by omega), if_pos (by omega)]
   rw [e]
   refine ⟨row_slv (hS.rows _ List.mem_cons_self) hcc rfl (fun b hb => ?_), hS.below⟩
   exact (hS.keys b (by simp only [keysOf, List.mem_append, List.mem_filterMap]; exact .inr ⟨_, List.mem_cons_self, hb⟩)).imp id (·.1)
  have hc10p : ¬ (x.op = 14) := by simpa using hc10
  refine W.skip (N.seq (W.exit (X.blk_ne rfl (X.seq (X.blk_ne rfl (X.blk_ne rfl (X.seq (X.blk_ne rfl (X.seq ?_)))))))))
  refine X.blk (N.seq (W.seq (W.region (WL.assign rfl rfl rfl (WL.nil (N.seq ?_))))))
  refine Fin.ret1 rfl (v := .slice none 0 0) rfl ?_
  have e : uses5 x = [] := by unfold uses5; rw [if_neg (by omega), if_neg (by omega), if_neg (by omega)]
  rw [e]; exact ⟨slv_nil, hS.below⟩
 have hg3p : 2 ≤ x.op := by simpa using hg3
 refine WL.fieldAddr fo_69_0 rfl rfl rfl (WL.load1 (v := .int .i64 x.op) one_3 rfl rfl rfl (hS.cell 0 rfl rfl) (WL.bin rfl rfl rfl rfl rfl (WL.pick (v := .bool (decide (x.op ≤ 11))) rfl rfl rfl rfl rfl rfl (WL.assign rfl rfl rfl (WL.nil (N.seq ?_))))))
 refine W.cond rfl (fun hc12 => ?_) (fun hc12 => ?_)
 ·
  have hc12p : x.op ≤ 11 := by simpa using hc12
  refine W.exit (X.seq (X.seq (X.blk (N.seq (W.seq (W.seq (W.region (WL.fieldAddr fo_69_1 rfl rfl rfl (WL.load1 (v := .int .i64 x.a) one_3 rfl rfl rfl (hS.cell 0 rfl rfl) ?_)))))))))
  refine WL.fieldAddr fo_69_2 rfl rfl rfl (WL.load1 (v := .int .i64 x.b) one_3 rfl rfl rfl (hS.cell 0 rfl rfl) ?_)
  refine WL.buildSlice (ps := [(0, .int .i64 x.a), (1, .int .i64 x.b)]) (cs := [.int .i64 x.a, .int .i64 x.b]) Tryd.underlying55 (tyZero_spec zer_3) rfl rfl rfl rfl (by kernel_rfl) hS ?_
  clear hS; intro w14 b13 hb_b13 hS
  refine WL.assign rfl rfl rfl (WL.nil (N.seq ?_))
  refine Fin.ret1 rfl (v := .slice (some ⟨b13, 0, none⟩) 2 2) rfl ?_
  have e : uses5 x = [x.a, x.b] := by unfold uses5; rw [if_pos (by omega)]
  rw [e]
  exact ⟨slv_blk (hS.own _ List.mem_cons_self) rfl (chunks_ints (l := [x.a, x.b]) (by simp; exact ⟨hax, hbx⟩)) ((hS.keys _ (by simp [keysOf])).imp id (·.1)) rfl (by simp [maxLen]), hS.below⟩
 have hc12p : ¬ (x.op ≤ 11) := by simpa using hc12
 refine W.skip (N.seq (W.seq (W.seq (W.region (WL.fieldAddr fo_69_0 rfl rfl rfl (WL.load1 (v := .int .i64 x.op) one_3 rfl rfl rfl (hS.cell 0 rfl rfl) (WL.bin rfl rfl rfl rfl rfl (WL.assign rfl rfl rfl (WL.nil ?_)))))))))
 refine N.seq ?_
 refine W.cond rfl (fun hc15 => ?_) (fun hc15 => ?_)
 ·
  have hc15p : x.op = 13 := by simpa using hc15
  refine W.exit (X.seq (X.seq (X.blk_ne rfl (X.seq (X.blk (N.blk (N.seq (W.seq (W.seq ?_)))))))))
  refine W.region (WL.fieldAddr fo_69_1 rfl rfl rfl (WL.load1 (v := .int .i64 x.a) one_3 rfl rfl rfl (hS.cell 0 rfl rfl) ?_))
  refine WL.buildSlice (ps := [(0, .int .i64 x.a)]) (cs := [.int .i64 x.a]) Tryd.underlying55 (tyZero_spec zer_3) rfl rfl rfl rfl (by kernel_rfl) hS ?_
  clear hS; intro w17 b16 hb_b16 hS
  refine WL.assign rfl rfl rfl (WL.nil (N.seq ?_))
  refine Fin.ret1 rfl (v := .slice (some ⟨b16, 0, none⟩) 1 1) rfl ?_
  have e : uses5 x = [x.a] := by unfold uses5; rw [if_neg (by omega), if_pos (by omega)]
  rw [e]
  exact ⟨slv_blk (hS.own _ List.mem_cons_self) rfl (chunks_ints (l := [x.a]) (by simp; exact hax)) ((hS.keys _ (by simp [keysOf])).imp id (·.1)) rfl (by simp [maxLen]), hS.below⟩
 have hc15p : ¬ (x.op = 13) := by simpa using hc15
 refine W.skip (N.seq (W.seq (W.seq (W.region (WL.fieldAddr fo_69_0 rfl rfl rfl (WL.load1 (v := .int .i64 x.op) one_3 rfl rfl rfl (hS.cell 0 rfl rfl) (WL.bin rfl rfl rfl rfl rfl (WL.assign rfl rfl rfl (WL.nil ?_)))))))))
 refine N.seq ?_
 refine W.cond rfl (fun hc18 => ?_) (fun hc18 => ?_)
 ·
  have hc18p : x.op = 16 := by simpa using hc18
  refine W.exit (X.seq (X.seq (X.blk_ne rfl (X.seq (X.blk_ne rfl (X.blk (N.seq (W.seq (W.seq ?_)))))))))
  refine W.region (WL.fieldAddr fo_69_1 rfl rfl rfl (WL.load1 (v := .int .i64 x.a) one_3 rfl rfl rfl (hS.cell 0 rfl rfl) ?_))
  refine WL.buildSlice (ps := [(0, .int .i64 x.a)]) (cs := [.int .i64 x.a]) Tryd.underlying55 (tyZero_spec zer_3) rfl rfl rfl rfl (by kernel_rfl) hS ?_
  clear hS; intro w20 b19 hb_b19 hS
  refine WL.assign rfl rfl rfl (WL.nil (N.seq ?_))
  refine Fin.ret1 rfl (v := .slice (some ⟨b19, 0, none⟩) 1 1) rfl ?_
  have e : uses5 x = [x.a] := by unfold uses5; rw [if_neg (by omega), if_pos (by omega)]
  rw [e]
  exact ⟨slv_blk (hS.own _ List.mem_cons_self) rfl (chunks_ints (l := [x.a]) (by simp; exact hax)) ((hS.keys _ (by simp [keysOf])).imp id (·.1)) rfl (by simp [maxLen]), hS.below⟩
 have hc18p : ¬ (x.op = 16) := by simpa using hc18
 refine W.skip (N.seq (W.seq (W.region (WL.fieldAddr fo_69_0 rfl rfl rfl (WL.load1 (v := .int .i64 x.op) one_3 rfl rfl rfl (hS.cell 0 rfl rfl) (WL.bin rfl rfl rfl rfl rfl (WL.assign rfl rfl rfl (WL.nil (N.seq ?_)))))))))
 refine W.cond rfl (fun hc21 => ?_) (fun hc21 => ?_)
 ·
  have hc21p : x.op = 14 := by simpa using hc21
  refine W.exit (X.seq (X.blk_ne rfl (X.seq (X.blk_ne rfl (X.blk_ne rfl (X.seq (X.blk (N.seq (W.seq ?_)))))))))
  refine W.seq (W.region (WL.fieldAddr fo_69_5 rfl rfl rfl (WL.load1 (v := .slice adx x.args.length capx) one_55 rfl rfl rfl (hS.cell 0 rfl rfl) ?_)))
  refine WL.callF (vs := [.slice adx x.args.length capx]) Tryd.func74 (by kernel_rfl) rfl rfl rfl (cloneInt_ret adx capx x.args (ro := fun x => x < w2.heap.size) (fun _ h => h) (hsxd.keep (fun b hb => hS.snap b hb) (fun _ _ q => q)) hsxa hsxc (fun _ _ q => one_ints q) (by unfold maxLen; omega) (by omega)) ?_
  rintro v w22 ⟨cc, how, hcc, hbl⟩
  replace hS := hS.callRow hbl how
  refine WL.assign rfl rfl rfl (WL.nil (N.seq ?_))
  refine Fin.ret1 rfl (v := v) rfl ?_
  have e : uses5 x = x.args := by unfold uses5; rw [if_neg (by omega), if_neg (by omega), if_pos (by omega)]
  rw [e]
  refine ⟨row_slv (hS.rows _ List.mem_cons_self) hcc rfl (fun b hb => ?_), hS.below⟩
  exact (hS.keys b (by simp only [keysOf, List.mem_append, List.mem_filterMap]; exact .inr ⟨_, List.mem_cons_self, hb⟩)).imp id (·.1)
 have hc21p : ¬ (x.op = 14) := by simpa using hc21
 refine W.skip (N.seq (W.exit (X.blk_ne rfl (X.seq (X.blk_ne rfl (X.blk_ne rfl (X.seq (X.blk_ne rfl (X.seq ?_)))))))))
 refine X.blk (N.seq (W.seq (W.region (WL.assign rfl rfl rfl (WL.nil (N.seq ?_))))))
 refine Fin.ret1 rfl (v := .slice none 0 0) rfl ?_
 have e : uses5 x = [] := by unfold uses5; rw [if_neg (by omega), if_neg (by omega), if_neg (by omega)]
 rw [e]; exact ⟨slv_nil, hS.below⟩

end Go.Proofs.YtcmmhfknkldmcaaDoor
