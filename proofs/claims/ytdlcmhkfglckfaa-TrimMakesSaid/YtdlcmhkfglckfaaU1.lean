/-
  Contracts of layer 13 (trim). No condition beyond those that each theorem states.
-/
import Derived.Test.YtdlcmhkfglckfaaA16
import Derived.Test.YtdlcmhkfglckfaaR5i
namespace Go.Proofs.Ytdlcmhkfglckfaa
open Go.RowKit
theorem isz_4 : (Try.prog.info? 4).map (·.size) = some 1 := by kernel_rfl
theorem one_40 : tyOne Try.prog 40 = true := by kernel_rfl
theorem siz_4 : tySize Try.prog 4 1 = true := by kernel_rfl
def does13 (x : DInst) : Bool := decide (x.op = 13) || decide (x.op = 14) || decide (x.op = 15) || decide (x.op = 16)
def ends13 (t : DTerm) : List Int := t.args ++ t.elses ++ (if t.kind = 1 then [] else [t.a])
theorem stays_row {α : Type} {base e sz n : Nat} {Q : List Value → α → Prop} {xs : List α} : Stays fun v u => ∃ cs, u.ownsRow base e sz v n cs ∧ Chunks sz Q cs xs := fun v w w' ⟨cs, h, hc⟩ hb => by
  refine ⟨cs, ⟨h.1, ?_⟩, hc⟩
  rcases h.2 with h2 | ⟨g, cap, cur, hv, h1, hg, r⟩
  · exact .inl h2
  · exact .inr ⟨g, cap, cur, hv, h1, (hb.block g (Array.getElem?_eq_some_iff.1 hg).1).trans hg, r⟩

theorem does_ret (x : DInst) (cx : List Value) {w : World} {ro : Nat → Prop} (hro : ∀ b, ro b → b < w.heap.size) (hx : InstC ro w cx x) : Ret Try.prog 31 #[.agg cx.toArray] w fun v w' => v = .bool (does13 x) ∧ Below w.heap.size w w' := by
 obtain ⟨sx, rfl, hsx, hox, hax, hbx, hkx, hnx⟩ := id hx
 obtain ⟨adx, capx, rfl, hsxa, hsxb, hsxc, hsxd⟩ := id hsx
 have hsxm : x.args.length ≤ 9223372036854775807 := by have h1 := hsxa; have h2 := hsxb; unfold maxLen at h2; omega
 refine Ret.enter (P := Try.prog) (n := 21) (args := [.agg #[.int .i64 x.op, .int .i64 x.a, .int .i64 x.b, .int .u64 x.k, .string x.name, .slice adx x.args.length capx]]) (σ := [(0, .agg #[.int .i64 x.op, .int .i64 x.a, .int .i64 x.b, .int .u64 x.k, .string x.name, .slice adx x.args.length capx])]) Try.func31 rfl rfl rfl rfl ?_
 have hS := St.start (ro := ro) hro
 refine W.seq (W.region ?_)
 refine WL.box (v := .agg #[.int .i64 x.op, .int .i64 x.a, .int .i64 x.b, .int .u64 x.k, .string x.name, .slice adx x.args.length capx]) (cs := [.int .i64 x.op, .int .i64 x.a, .int .i64 x.b, .int .u64 x.k, .string x.name, .slice adx x.args.length capx]) rfl rfl rfl rfl hS ?_
 clear hS; intro w2 b1 hb_b1 hS
 refine WL.assign rfl rfl rfl (WL.nil (N.seq (W.seq (W.region (WL.fieldAddr fo_36_0 rfl rfl rfl (WL.load1 (v := .int .i64 x.op) one_3 rfl rfl rfl (hS.cell 0 rfl rfl) (WL.bin rfl rfl rfl rfl rfl (WL.move rfl rfl rfl ?_))))))))
 cases hg3 : (decide (x.op = 13))
 ·
  have hg3p : ¬ (x.op = 13) := by simpa using hg3
  refine WL.fieldAddr fo_36_0 rfl rfl rfl (WL.load1 (v := .int .i64 x.op) one_3 rfl rfl rfl (hS.cell 0 rfl rfl) (WL.bin rfl rfl rfl rfl rfl (WL.pick (v := .bool (decide (x.op = 14))) rfl rfl rfl rfl rfl rfl (WL.move rfl rfl rfl ?_))))
  cases hg4 : (decide (x.op = 14))
  ·
   have hg4p : ¬ (x.op = 14) := by simpa using hg4
   refine WL.fieldAddr fo_36_0 rfl rfl rfl (WL.load1 (v := .int .i64 x.op) one_3 rfl rfl rfl (hS.cell 0 rfl rfl) (WL.bin rfl rfl rfl rfl rfl (WL.pick (v := .bool (decide (x.op = 15))) rfl rfl rfl rfl rfl rfl (WL.move rfl rfl rfl ?_))))
   cases hg5 : (decide (x.op = 15))
   ·
    have hg5p : ¬ (x.op = 15) := by simpa using hg5
    refine WL.fieldAddr fo_36_0 rfl rfl rfl (WL.load1 (v := .int .i64 x.op) one_3 rfl rfl rfl (hS.cell 0 rfl rfl) (WL.bin rfl rfl rfl rfl rfl (WL.pick (v := .bool (decide (x.op = 16))) rfl rfl rfl rfl rfl rfl (WL.assign rfl rfl rfl (WL.nil (N.seq ?_))))))
    refine Fin.ret1 rfl (v := .bool (decide (x.op = 16))) rfl ?_
    have hbz := hS.below
    clear hS
    refine ⟨?_, hbz⟩
    congr 1
    simp only [does13]
    simp_all
   have hg5p : x.op = 15 := by simpa using hg5
   refine WL.skp rfl rfl (WL.skp rfl rfl (WL.skp rfl rfl (WL.pick (v := .bool true) rfl rfl rfl rfl rfl rfl (WL.assign rfl rfl rfl (WL.nil (N.seq ?_))))))
   refine Fin.ret1 rfl (v := .bool true) rfl ?_
   have hbz := hS.below
   clear hS
   refine ⟨?_, hbz⟩
   congr 1
   simp only [does13]
   simp_all
  have hg4p : x.op = 14 := by simpa using hg4
  refine WL.skp rfl rfl (WL.skp rfl rfl (WL.skp rfl rfl (WL.pick (v := .bool true) rfl rfl rfl rfl rfl rfl (WL.move rfl rfl rfl (WL.skp rfl rfl (WL.skp rfl rfl (WL.skp rfl rfl (WL.pick (v := .bool true) rfl rfl rfl rfl rfl rfl (WL.assign rfl rfl rfl ?_)))))))))
  refine WL.nil (N.seq ?_)
  refine Fin.ret1 rfl (v := .bool true) rfl ?_
  have hbz := hS.below
  clear hS
  refine ⟨?_, hbz⟩
  congr 1
  simp only [does13]
  simp_all
 have hg3p : x.op = 13 := by simpa using hg3
 refine WL.skp rfl rfl (WL.skp rfl rfl (WL.skp rfl rfl (WL.pick (v := .bool true) rfl rfl rfl rfl rfl rfl (WL.move rfl rfl rfl (WL.skp rfl rfl (WL.skp rfl rfl (WL.skp rfl rfl (WL.pick (v := .bool true) rfl rfl rfl rfl rfl rfl (WL.move rfl rfl rfl ?_)))))))))
 refine WL.skp rfl rfl (WL.skp rfl rfl (WL.skp rfl rfl (WL.pick (v := .bool true) rfl rfl rfl rfl rfl rfl (WL.assign rfl rfl rfl (WL.nil (N.seq ?_))))))
 refine Fin.ret1 rfl (v := .bool true) rfl ?_
 have hbz := hS.below
 clear hS
 refine ⟨?_, hbz⟩
 congr 1
 simp only [does13]
 simp_all

theorem rdoes_ret (x : DInst) (cx : List Value) {w : World} {ro : Nat → Prop} (hro : ∀ b, ro b → b < w.heap.size) (hx : InstC ro w cx x) : Ret Try.prog 12 #[.agg cx.toArray] w fun v w' => v = .bool (does13 x) ∧ Below w.heap.size w w' := by
 obtain ⟨sx, rfl, hsx, hox, hax, hbx, hkx, hnx⟩ := id hx
 obtain ⟨adx, capx, rfl, hsxa, hsxb, hsxc, hsxd⟩ := id hsx
 have hsxm : x.args.length ≤ 9223372036854775807 := by have h1 := hsxa; have h2 := hsxb; unfold maxLen at h2; omega
 refine Ret.enter (P := Try.prog) (n := 21) (args := [.agg #[.int .i64 x.op, .int .i64 x.a, .int .i64 x.b, .int .u64 x.k, .string x.name, .slice adx x.args.length capx]]) (σ := [(0, .agg #[.int .i64 x.op, .int .i64 x.a, .int .i64 x.b, .int .u64 x.k, .string x.name, .slice adx x.args.length capx])]) Try.func12 rfl rfl rfl rfl ?_
 have hS := St.start (ro := ro) hro
 refine W.seq (W.region ?_)
 refine WL.box (v := .agg #[.int .i64 x.op, .int .i64 x.a, .int .i64 x.b, .int .u64 x.k, .string x.name, .slice adx x.args.length capx]) (cs := [.int .i64 x.op, .int .i64 x.a, .int .i64 x.b, .int .u64 x.k, .string x.name, .slice adx x.args.length capx]) rfl rfl rfl rfl hS ?_
 clear hS; intro w2 b1 hb_b1 hS
 refine WL.assign rfl rfl rfl (WL.nil (N.seq (W.seq (W.region (WL.fieldAddr fo_36_0 rfl rfl rfl (WL.load1 (v := .int .i64 x.op) one_3 rfl rfl rfl (hS.cell 0 rfl rfl) (WL.bin rfl rfl rfl rfl rfl (WL.move rfl rfl rfl ?_))))))))
 cases hg3 : (decide (x.op = 13))
 ·
  have hg3p : ¬ (x.op = 13) := by simpa using hg3
  refine WL.fieldAddr fo_36_0 rfl rfl rfl (WL.load1 (v := .int .i64 x.op) one_3 rfl rfl rfl (hS.cell 0 rfl rfl) (WL.bin rfl rfl rfl rfl rfl (WL.pick (v := .bool (decide (x.op = 14))) rfl rfl rfl rfl rfl rfl (WL.move rfl rfl rfl ?_))))
  cases hg4 : (decide (x.op = 14))
  ·
   have hg4p : ¬ (x.op = 14) := by simpa using hg4
   refine WL.fieldAddr fo_36_0 rfl rfl rfl (WL.load1 (v := .int .i64 x.op) one_3 rfl rfl rfl (hS.cell 0 rfl rfl) (WL.bin rfl rfl rfl rfl rfl (WL.pick (v := .bool (decide (x.op = 15))) rfl rfl rfl rfl rfl rfl (WL.move rfl rfl rfl ?_))))
   cases hg5 : (decide (x.op = 15))
   ·
    have hg5p : ¬ (x.op = 15) := by simpa using hg5
    refine WL.fieldAddr fo_36_0 rfl rfl rfl (WL.load1 (v := .int .i64 x.op) one_3 rfl rfl rfl (hS.cell 0 rfl rfl) (WL.bin rfl rfl rfl rfl rfl (WL.pick (v := .bool (decide (x.op = 16))) rfl rfl rfl rfl rfl rfl (WL.assign rfl rfl rfl (WL.nil (N.seq ?_))))))
    refine Fin.ret1 rfl (v := .bool (decide (x.op = 16))) rfl ?_
    have hbz := hS.below
    clear hS
    refine ⟨?_, hbz⟩
    congr 1
    simp only [does13]
    simp_all
   have hg5p : x.op = 15 := by simpa using hg5
   refine WL.skp rfl rfl (WL.skp rfl rfl (WL.skp rfl rfl (WL.pick (v := .bool true) rfl rfl rfl rfl rfl rfl (WL.assign rfl rfl rfl (WL.nil (N.seq ?_))))))
   refine Fin.ret1 rfl (v := .bool true) rfl ?_
   have hbz := hS.below
   clear hS
   refine ⟨?_, hbz⟩
   congr 1
   simp only [does13]
   simp_all
  have hg4p : x.op = 14 := by simpa using hg4
  refine WL.skp rfl rfl (WL.skp rfl rfl (WL.skp rfl rfl (WL.pick (v := .bool true) rfl rfl rfl rfl rfl rfl (WL.move rfl rfl rfl (WL.skp rfl rfl (WL.skp rfl rfl (WL.skp rfl rfl (WL.pick (v := .bool true) rfl rfl rfl rfl rfl rfl (WL.assign rfl rfl rfl ?_)))))))))
  refine WL.nil (N.seq ?_)
  refine Fin.ret1 rfl (v := .bool true) rfl ?_
  have hbz := hS.below
  clear hS
  refine ⟨?_, hbz⟩
  congr 1
  simp only [does13]
  simp_all
 have hg3p : x.op = 13 := by simpa using hg3
 refine WL.skp rfl rfl (WL.skp rfl rfl (WL.skp rfl rfl (WL.pick (v := .bool true) rfl rfl rfl rfl rfl rfl (WL.move rfl rfl rfl (WL.skp rfl rfl (WL.skp rfl rfl (WL.skp rfl rfl (WL.pick (v := .bool true) rfl rfl rfl rfl rfl rfl (WL.move rfl rfl rfl ?_)))))))))
 refine WL.skp rfl rfl (WL.skp rfl rfl (WL.skp rfl rfl (WL.pick (v := .bool true) rfl rfl rfl rfl rfl rfl (WL.assign rfl rfl rfl (WL.nil (N.seq ?_))))))
 refine Fin.ret1 rfl (v := .bool true) rfl ?_
 have hbz := hS.below
 clear hS
 refine ⟨?_, hbz⟩
 congr 1
 simp only [does13]
 simp_all

theorem ivalues_ret (b : DBlock) (cs : List Value) {w : World} {ro : Nat → Prop} (hro : ∀ b, ro b → b < w.heap.size) (hb : BlockC ro w cs b) (hp : 0 ≤ b.params ∧ b.params ≤ 1000) (hl : b.ins.length ≤ 1000) : Ret Try.prog 35 #[.agg cs.toArray] w fun v w' => v = .int .i64 ((b.params.toNat + b.ins.length : Nat) : Int) ∧ Below w.heap.size w w' := by
 obtain ⟨si, tsx, rfl, hin, hfin, hpar⟩ := id hb
 obtain ⟨adi, capi, rfl, hina, hinb, hinc, hind⟩ := id hin
 have hinm : b.ins.length ≤ 9223372036854775807 := by have h1 := hina; have h2 := hinb; unfold maxLen at h2; omega
 obtain ⟨sp, sq, rfl, ht1, ht2, htk, hta, htt, hte⟩ := id hfin
 obtain ⟨adp, capp, rfl, htpa, htpb, htpc, htpd⟩ := id ht1
 have htpm : b.fin.args.length ≤ 9223372036854775807 := by have h1 := htpa; have h2 := htpb; unfold maxLen at h2; omega
 obtain ⟨adq, capq, rfl, htqa, htqb, htqc, htqd⟩ := id ht2
 have htqm : b.fin.elses.length ≤ 9223372036854775807 := by have h1 := htqa; have h2 := htqb; unfold maxLen at h2; omega
 refine Ret.enter (P := Try.prog) (n := 9) (args := [.agg #[.int .i64 b.params, .slice adi b.ins.length capi, .int .i64 b.fin.kind, .int .i64 b.fin.a, .int .i64 b.fin.to, .slice adp b.fin.args.length capp, .int .i64 b.fin.els, .slice adq b.fin.elses.length capq]]) (σ := [(0, .agg #[.int .i64 b.params, .slice adi b.ins.length capi, .int .i64 b.fin.kind, .int .i64 b.fin.a, .int .i64 b.fin.to, .slice adp b.fin.args.length capp, .int .i64 b.fin.els, .slice adq b.fin.elses.length capq])]) Try.func35 rfl rfl rfl rfl ?_
 have hS := St.start (ro := ro) hro
 refine W.seq (W.region ?_)
 refine WL.box (v := .agg #[.int .i64 b.params, .slice adi b.ins.length capi, .int .i64 b.fin.kind, .int .i64 b.fin.a, .int .i64 b.fin.to, .slice adp b.fin.args.length capp, .int .i64 b.fin.els, .slice adq b.fin.elses.length capq]) (cs := [.int .i64 b.params, .slice adi b.ins.length capi, .int .i64 b.fin.kind, .int .i64 b.fin.a, .int .i64 b.fin.to, .slice adp b.fin.args.length capp, .int .i64 b.fin.els, .slice adq b.fin.elses.length capq]) rfl rfl rfl rfl hS ?_
 clear hS; intro w2 b1 hb_b1 hS
 refine WL.assign rfl rfl rfl (WL.nil (N.seq (W.seq (W.region (WL.fieldAddr fo_32_0 rfl rfl rfl (WL.load1 (v := .int .i64 b.params) one_3 rfl rfl rfl (hS.cell 0 rfl rfl) (WL.fieldAddr fo_32_1 rfl rfl rfl (WL.load1 (v := .slice adi b.ins.length capi) one_27 rfl rfl rfl (hS.cell 0 rfl rfl) (WL.lenSlice Try.underlying27 rfl rfl rfl ?_)))))))))
 refine WL.add (c := b.params + (b.ins.length : Int)) rfl rfl rfl rfl (rfl) (by omega) ?_
 refine WL.assign rfl rfl rfl (WL.nil (N.seq ?_))
 refine Fin.ret1 rfl (v := .int .i64 (b.params + (b.ins.length : Int))) rfl ?_
 refine ⟨?_, hS.below⟩
 congr 1
 omega

theorem cloneInt_ret {α : Type} {Q : List Value → α → Prop} (ad : Option Addr) (cap : Nat) (xs : List α) {w : World} {ro : Nat → Prop} (hro : ∀ b, ro b → b < w.heap.size) (hel : Elems ro w 1 Q ad xs) (hcap : xs.length ≤ cap) (hnil : ad = none → cap = 0) (hone : ∀ c x, Q c x → ∀ u ∈ c, u.oneCell' = true) (hmx : xs.length ≤ maxLen) (hby : xs.length * 8 ≤ 140737488355328) : Ret Try.prog 53 #[.slice ad xs.length cap] w fun v w' => ∃ cs, w'.ownsRow w.heap.size 3 1 v xs.length cs ∧ Chunks 1 Q cs xs ∧ Below w.heap.size w w' := by
 refine Ret.enter (P := Try.prog) (n := 8) (args := [.slice ad xs.length cap]) (σ := [(0, .slice ad xs.length cap)]) Try.func53 rfl rfl rfl rfl ?_
 have hS := St.start (ro := ro) hro
 obtain ⟨news, hch, hnw, hsp⟩ := elems_news hel
 refine W.seq (W.region (WL.assign rfl rfl rfl (WL.nil (N.seq (W.seq (W.seq (W.region (WL.move rfl rfl rfl ?_))))))))
 refine WL.eqNil Try.underlying28 rfl rfl rfl rfl ?_
 refine WL.nil (N.seq ?_)
 refine W.cond rfl (fun hc1 => ?_) (fun hc1 => ?_)
 ·
  refine W.seq (W.region (WL.assign rfl rfl rfl (WL.nil (N.seq ?_))))
  refine Fin.ret1 rfl (v := .slice none 0 0) rfl ?_
  have hx0 : xs = [] := by
    cases ad with
    | none => exact List.eq_nil_of_length_eq_zero (by have := hnil rfl; omega)
    | some a => simp at hc1
  subst hx0
  exact ⟨[], World.ownsRow_nil _ _ _ _, Chunks.nil, hS.below⟩
 refine W.skip (N.seq (W.seq (W.region ?_)))
 refine WL.buildSlice0 Try.underlying28 isz_3 rfl rfl hS ?_
 clear hS; intro w3 b2 hS
 refine WL.move rfl rfl rfl ?_
 refine WL.appendRo (r := ⟨.slice (some ⟨b2, 0, none⟩) 0 0, 3, 1, 0, []⟩) (news := news) 8 Try.underlying28 (tyZero_spec zer_3) byt_3 rfl rfl rfl rfl rfl hch.1 (fun e => ⟨by have := hnil e; omega, hnil e⟩) ?_ hsp (chunks_all hch (by decide) hone) rfl rfl hS (by simp only; omega) (by simp only; omega) ?_
 ·
  intro b off e
  by_cases hn0 : news = []
  ·
   subst hn0; intro j v hj; simp at hj
  exact hS.roCells ((hnw b off e).2 hn0) (hnw b off e).1
 clear hS; intro w4 v5 hS hnn
 refine WL.assign rfl rfl rfl (WL.nil (N.seq ?_))
 refine Fin.ret1 rfl (v := v5) rfl ?_
 refine ⟨news, ?_, hch, hS.below⟩
 have := hS.rows _ List.mem_cons_self
 simpa using this

theorem Chunks.app {α : Type} {sz : Nat} {Q : List Value → α → Prop} {cs ds : List Value} {xs ys : List α} (h : Chunks sz Q cs xs) (k : Chunks sz Q ds ys) (h0 : 0 < sz) : Chunks sz Q (cs ++ ds) (xs ++ ys) := by
  refine ⟨by rw [List.length_append, h.1, k.1, List.length_append, Nat.add_mul], fun i x hx => ?_⟩
  by_cases hi : i < xs.length
  · rw [List.getElem?_append_left hi] at hx
    have h2 := h.2 i x hx
    have h3 : i * sz + sz ≤ cs.length := by rw [h.1, ← Nat.succ_mul]; exact Nat.mul_le_mul_right _ hi
    rw [List.drop_append_of_le_length (by omega), List.take_append_of_le_length (by rw [List.length_drop]; omega)]
    exact h2
  · rw [List.getElem?_append_right (by omega)] at hx
    have h2 := k.2 _ x hx
    have h3 : cs.length ≤ i * sz := by rw [h.1]; exact Nat.mul_le_mul_right _ (by omega)
    rw [List.drop_append, List.drop_eq_nil_of_le h3, List.nil_append, show i * sz - cs.length = (i - xs.length) * sz by rw [h.1, Nat.sub_mul]]
    exact h2

theorem ends_ret (t : DTerm) (cs : List Value) {w : World} {ro : Nat → Prop} (hro : ∀ b, ro b → b < w.heap.size) (ht : TermC ro w cs t) (h1 : t.args.length ≤ 1000) (h2 : t.elses.length ≤ 1000) : Ret Try.prog 37 #[.agg cs.toArray] w fun v w' => SlV (fun b => w.heap.size ≤ b ∧ b < w'.heap.size) w' 1 IntC v (ends13 t) ∧ Below w.heap.size w w' := by
 obtain ⟨sp, sq, rfl, ht1, ht2, htk, hta, htt, hte⟩ := id ht
 obtain ⟨adp, capp, rfl, htpa, htpb, htpc, htpd⟩ := id ht1
 have htpm : t.args.length ≤ 9223372036854775807 := by have h1 := htpa; have h2 := htpb; unfold maxLen at h2; omega
 obtain ⟨adq, capq, rfl, htqa, htqb, htqc, htqd⟩ := id ht2
 have htqm : t.elses.length ≤ 9223372036854775807 := by have h1 := htqa; have h2 := htqb; unfold maxLen at h2; omega
 refine Ret.enter (P := Try.prog) (n := 19) (args := [.agg #[.int .i64 t.kind, .int .i64 t.a, .int .i64 t.to, .slice adp t.args.length capp, .int .i64 t.els, .slice adq t.elses.length capq]]) (σ := [(0, .agg #[.int .i64 t.kind, .int .i64 t.a, .int .i64 t.to, .slice adp t.args.length capp, .int .i64 t.els, .slice adq t.elses.length capq])]) Try.func37 rfl rfl rfl rfl ?_
 have hS := St.start (ro := ro) hro
 refine W.seq (W.region ?_)
 refine WL.box (v := .agg #[.int .i64 t.kind, .int .i64 t.a, .int .i64 t.to, .slice adp t.args.length capp, .int .i64 t.els, .slice adq t.elses.length capq]) (cs := [.int .i64 t.kind, .int .i64 t.a, .int .i64 t.to, .slice adp t.args.length capp, .int .i64 t.els, .slice adq t.elses.length capq]) rfl rfl rfl rfl hS ?_
 clear hS; intro w2 b1 hb_b1 hS
 refine WL.assign rfl rfl rfl (WL.nil (N.seq (W.seq ?_)))
 refine W.drawP (by kernel_rfl) 5 [(fun v _ => v = .pointer (some ⟨b1, 3, none⟩)), (fun v _ => v = .slice adp t.args.length capp), (fun v u => ∃ cs, u.ownsRow w2.heap.size 3 1 v t.args.length cs ∧ Chunks 1 IntC cs t.args), (fun v _ => v = .pointer (some ⟨b1, 5, none⟩)), (fun v _ => v = .slice adq t.elses.length capq)] (by kernel_rfl) rfl (by kernel_rfl) [(1, .pointer (some ⟨b1, 0, none⟩)), (2, .slice none 0 0)] ⟨rfl, rfl, trivial⟩ rfl ⟨stays_eq, stays_eq, stays_row, stays_eq, stays_eq, trivial⟩ ?_ ?_
 ·
  refine And.intro (fun β wd hb hD => ?_) ?_
  ·
   refine WL.sub (σ' := [(1, .pointer (some ⟨b1, 0, none⟩))]) ⟨rfl, trivial⟩ ?_
   have hS := hS.grow hb
   refine WL.fieldAddr fo_30_3 rfl rfl rfl ?_
   exact WL.nil (N.cut (.pointer (some ⟨b1, 3, none⟩)) ⟨rfl, trivial⟩ ⟨(Below.refl _ _), rfl⟩)
  refine And.intro (fun β wd hb hD => ?_) ?_
  ·
   obtain ⟨hp0, _⟩ := hD
   replace hp0 : β 0 = .pointer (some ⟨b1, 3, none⟩) := hp0
   refine WL.sub (σ' := [(4, .pointer (some ⟨b1, 3, none⟩))]) ⟨congrArg some hp0, trivial⟩ ?_
   have hS := hS.grow hb
   refine WL.load1 (v := .slice adp t.args.length capp) one_28 rfl rfl rfl (hS.cell 0 rfl rfl) ?_
   exact WL.nil (N.cut (.slice adp t.args.length capp) ⟨rfl, trivial⟩ ⟨(Below.refl _ _), rfl⟩)
  refine And.intro (fun β wd hb hD => ?_) ?_
  ·
   obtain ⟨hp1, _⟩ := hD
   replace hp1 : β 1 = .slice adp t.args.length capp := hp1
   refine WL.sub (σ' := [(5, .slice adp t.args.length capp)]) ⟨congrArg some hp1, trivial⟩ ?_
   have hS := hS.grow hb
   refine WL.callF (vs := [.slice adp t.args.length capp]) Try.func53 (by kernel_rfl) rfl rfl rfl (cloneInt_ret adp capp t.args (ro := fun x => x < wd.heap.size) (fun _ h => h) (htpd.keep (fun b hb => hS.snap b hb) (fun _ _ q => q)) htpa htpc (fun _ _ q => one_ints q) (by unfold maxLen; omega) (by omega)) ?_
   rintro v w3 ⟨cc, how, hcc, hbl⟩
   replace hS := hS.grow hbl
   exact WL.nil (N.cut v ⟨rfl, trivial⟩ ⟨hbl, ⟨cc, ownsRow_base how hb.size, hcc⟩⟩)
  refine And.intro (fun β wd hb hD => ?_) ?_
  ·
   refine WL.sub (σ' := [(1, .pointer (some ⟨b1, 0, none⟩))]) ⟨rfl, trivial⟩ ?_
   have hS := hS.grow hb
   refine WL.fieldAddr fo_30_5 rfl rfl rfl ?_
   exact WL.nil (N.cut (.pointer (some ⟨b1, 5, none⟩)) ⟨rfl, trivial⟩ ⟨(Below.refl _ _), rfl⟩)
  refine And.intro (fun β wd hb hD => ?_) ?_
  ·
   obtain ⟨hp3, _⟩ := hD
   replace hp3 : β 3 = .pointer (some ⟨b1, 5, none⟩) := hp3
   refine WL.sub (σ' := [(7, .pointer (some ⟨b1, 5, none⟩))]) ⟨congrArg some hp3, trivial⟩ ?_
   have hS := hS.grow hb
   refine WL.load1 (v := .slice adq t.elses.length capq) one_28 rfl rfl rfl (hS.cell 0 rfl rfl) ?_
   exact WL.nil (N.cut (.slice adq t.elses.length capq) ⟨rfl, trivial⟩ ⟨(Below.refl _ _), rfl⟩)
  trivial
 intro β w4 hb hD
 obtain ⟨hp0, hp1, hp2, hp3, hp4, _⟩ := hD
 refine WL.sub (σ' := [(1, .pointer (some ⟨b1, 0, none⟩)), (2, .slice none 0 0), (4, .pointer (some ⟨b1, 3, none⟩)), (5, .slice adp t.args.length capp), (6, (β 2)), (7, .pointer (some ⟨b1, 5, none⟩)), (8, .slice adq t.elses.length capq)]) ⟨rfl, rfl, congrArg some (show β 0 = .pointer (some ⟨b1, 3, none⟩) from hp0), congrArg some (show β 1 = .slice adp t.args.length capp from hp1), rfl, congrArg some (show β 3 = .pointer (some ⟨b1, 5, none⟩) from hp3), congrArg some (show β 4 = .slice adq t.elses.length capq from hp4), trivial⟩ ?_
 have hSd := hS
 replace hS := hS.grow hb
 replace hp2 : (fun v u => ∃ cs, u.ownsRow w2.heap.size 3 1 v t.args.length cs ∧ Chunks 1 IntC cs t.args) (β 2) w4 := hp2
 generalize β 2 = z2 at hp2 ⊢
 obtain ⟨cc, how, hcc⟩ := hp2
 replace hS := hSd.callRow hb how
 obtain ⟨adr, capr, rfl, hr1, hr2, hr3⟩ := row_shape how
 obtain ⟨news, hch, hnw, hsp⟩ := elems_news htqd
 refine WL.appendRo (r := ⟨.slice adr t.args.length capr, 3, 1, t.args.length, cc⟩) (news := news) 8 Try.underlying28 (tyZero_spec zer_3) byt_3 rfl rfl rfl rfl rfl (by rw [hch.1]; rfl) (fun e => ⟨by have := htqc e; omega, htqc e⟩) ?_ hsp (chunks_all hch (by decide) fun _ _ q => one_ints q) rfl rfl hS (by simp only; unfold maxLen; omega) (by simp only; omega) ?_
 ·
  intro b off e
  by_cases hn0 : news = []
  ·
   subst hn0; intro j v hj; simp at hj
  exact hS.roCells ((hnw b off e).2 hn0) (hnw b off e).1
 clear hS; intro w5 v6 hS hnn
 have hrow : w5.ownsRow w.heap.size 3 1 v6 (t.args.length + t.elses.length) _ := hS.rows _ List.mem_cons_self
 obtain ⟨ad2, cap2, rfl, hs1, hs2, hs3⟩ := row_shape hrow
 clear hrow
 refine WL.assign rfl rfl rfl (WL.nil (N.seq (W.seq (W.seq (W.region (WL.fieldAddr fo_30_0 rfl rfl rfl (WL.load1 (v := .int .i64 t.kind) one_3 rfl rfl rfl (hS.cell 0 rfl rfl) (WL.bin rfl rfl rfl rfl rfl (WL.nil ?_)))))))))
 refine N.seq ?_
 refine W.cond rfl (fun hc7 => ?_) (fun hc7 => ?_)
 ·
  have hc7p : ¬ (t.kind = 1) := by simpa using hc7
  refine W.region (WL.move rfl rfl rfl (WL.fieldAddr fo_30_1 rfl rfl rfl (WL.load1 (v := .int .i64 t.a) one_3 rfl rfl rfl (hS.cell 0 rfl rfl) ?_)))
  refine WL.buildSlice (ps := [(0, .int .i64 t.a)]) (cs := [.int .i64 t.a]) Try.underlying28 (tyZero_spec zer_3) rfl rfl rfl rfl (by kernel_rfl) hS ?_
  clear hS; intro w9 b8 hb_b8 hS
  refine WL.append (r := ⟨.slice ad2 (t.args.length + t.elses.length) cap2, 3, 1, t.args.length + t.elses.length, cc ++ news⟩) (cs := [.int .i64 t.a]) 8 Try.underlying28 (tyZero_spec zer_3) byt_3 rfl rfl rfl rfl rfl rfl rfl rfl rfl hS (by unfold maxLen; simp only; omega) (by simp only; omega) ?_
  clear hS; intro w10 v11 hn_v11 hS
  have hrow : w10.ownsRow w.heap.size 3 1 v11 (t.args.length + t.elses.length + 1) _ := hS.rows _ List.mem_cons_self
  obtain ⟨av11, cv11, rfl, hc1_v11, hc2_v11, hc3_v11⟩ := row_shape hrow
  clear hrow
  refine WL.assign rfl rfl rfl (WL.nil (N.seq (W.seq (W.region (WL.move rfl rfl rfl (WL.assign rfl rfl rfl (WL.nil (N.seq ?_))))))))
  refine Fin.ret1 rfl (v := .slice av11 (t.args.length + t.elses.length + 1) cv11) rfl ?_
  have hb2 : Chunks 1 IntC (cc ++ news) (t.args ++ t.elses) := hcc.app hch (by decide)
  have e : ends13 t = t.args ++ t.elses ++ [t.a] := by unfold ends13; rw [if_neg (by omega)]
  rw [e]
  refine ⟨row_slv (hS.rows _ List.mem_cons_self) (hb2.snoc rfl ⟨rfl, hta⟩) (by simp only [List.length_append, List.length_cons, List.length_nil]) (fun b hb => ?_), hS.below⟩
  exact (hS.keys b (by simp only [keysOf, List.mem_append, List.mem_filterMap]; exact .inr ⟨_, List.mem_cons_self, hb⟩)).imp id (·.1)
 have hc7p : t.kind = 1 := by simpa using hc7
 refine W.skip (N.seq (W.seq (W.region (WL.move rfl rfl rfl (WL.assign rfl rfl rfl (WL.nil (N.seq ?_)))))))
 refine Fin.ret1 rfl (v := .slice ad2 (t.args.length + t.elses.length) cap2) rfl ?_
 have hb2 : Chunks 1 IntC (cc ++ news) (t.args ++ t.elses) := hcc.app hch (by decide)
 have e : ends13 t = t.args ++ t.elses := by unfold ends13; rw [if_pos (by omega), List.append_nil]
 rw [e]
 refine ⟨row_slv (hS.rows _ List.mem_cons_self) hb2 (by simp) (fun b hb => ?_), hS.below⟩
 exact (hS.keys b (by simp only [keysOf, List.mem_append, List.mem_filterMap]; exact .inr ⟨_, List.mem_cons_self, hb⟩)).imp id (·.1)

theorem iuses_ret (x : DInst) (cx : List Value) {w : World} {ro : Nat → Prop} (hro : ∀ b, ro b → b < w.heap.size) (hx : InstC ro w cx x) (hl : x.args.length ≤ 17592186043904) : Ret Try.prog 32 #[.agg cx.toArray] w fun v w' => SlV (fun b => w.heap.size ≤ b ∧ b < w'.heap.size) w' 1 IntC v (uses5 x) ∧ Below w.heap.size w w' := by
 obtain ⟨sx, rfl, hsx, hox, hax, hbx, hkx, hnx⟩ := id hx
 obtain ⟨adx, capx, rfl, hsxa, hsxb, hsxc, hsxd⟩ := id hsx
 have hsxm : x.args.length ≤ 9223372036854775807 := by have h1 := hsxa; have h2 := hsxb; unfold maxLen at h2; omega
 refine Ret.enter (P := Try.prog) (n := 35) (args := [.agg #[.int .i64 x.op, .int .i64 x.a, .int .i64 x.b, .int .u64 x.k, .string x.name, .slice adx x.args.length capx]]) (σ := [(0, .agg #[.int .i64 x.op, .int .i64 x.a, .int .i64 x.b, .int .u64 x.k, .string x.name, .slice adx x.args.length capx])]) Try.func32 rfl rfl rfl rfl ?_
 have hS := St.start (ro := ro) hro
 refine W.seq (W.region ?_)
 refine WL.box (v := .agg #[.int .i64 x.op, .int .i64 x.a, .int .i64 x.b, .int .u64 x.k, .string x.name, .slice adx x.args.length capx]) (cs := [.int .i64 x.op, .int .i64 x.a, .int .i64 x.b, .int .u64 x.k, .string x.name, .slice adx x.args.length capx]) rfl rfl rfl rfl hS ?_
 clear hS; intro w2 b1 hb_b1 hS
 refine WL.assign rfl rfl rfl (WL.nil (N.seq (W.seq (W.block (W.seq (W.block (W.seq (W.block (W.block ?_)))))))))
 refine W.seq (W.block (W.seq (W.seq (W.seq (W.region (WL.fieldAddr fo_36_0 rfl rfl rfl (WL.load1 (v := .int .i64 x.op) one_3 rfl rfl rfl (hS.cell 0 rfl rfl) (WL.bin rfl rfl rfl rfl rfl (WL.move rfl rfl rfl ?_)))))))))
 cases hg3 : (decide (2 ≤ x.op))
 ·
  have hg3p : ¬ (2 ≤ x.op) := by simpa using hg3
  refine WL.skp rfl rfl (WL.skp rfl rfl (WL.skp rfl rfl (WL.pick (v := .bool false) rfl rfl rfl rfl rfl rfl (WL.assign rfl rfl rfl (WL.nil (N.seq (W.condF rfl (W.skip (N.seq ?_)))))))))
  refine W.seq (W.seq (W.region (WL.fieldAddr fo_36_0 rfl rfl rfl (WL.load1 (v := .int .i64 x.op) one_3 rfl rfl rfl (hS.cell 0 rfl rfl) (WL.bin rfl rfl rfl rfl rfl (WL.assign rfl rfl rfl (WL.nil (N.seq ?_))))))))
  refine W.cond rfl (fun hc4 => ?_) (fun hc4 => ?_)
  ·
   have hc4p : x.op = 13 := by simpa using hc4
   refine W.exit (X.seq (X.seq (X.blk_ne rfl (X.seq (X.blk (N.blk (N.seq (W.seq (W.seq ?_)))))))))
   refine W.region (WL.fieldAddr fo_36_1 rfl rfl rfl (WL.load1 (v := .int .i64 x.a) one_3 rfl rfl rfl (hS.cell 0 rfl rfl) ?_))
   refine WL.buildSlice (ps := [(0, .int .i64 x.a)]) (cs := [.int .i64 x.a]) Try.underlying28 (tyZero_spec zer_3) rfl rfl rfl rfl (by kernel_rfl) hS ?_
   clear hS; intro w6 b5 hb_b5 hS
   refine WL.assign rfl rfl rfl (WL.nil (N.seq ?_))
   refine Fin.ret1 rfl (v := .slice (some ⟨b5, 0, none⟩) 1 1) rfl ?_
   have e : uses5 x = [x.a] := by unfold uses5; rw [if_neg (by omega), if_pos (by omega)]
   rw [e]
   exact ⟨slv_blk (hS.own _ List.mem_cons_self) rfl (chunks_ints (l := [x.a]) (by simp; exact hax)) ((hS.keys _ (by simp [keysOf])).imp id (·.1)) rfl (by simp [maxLen]), hS.below⟩
  have hc4p : ¬ (x.op = 13) := by simpa using hc4
  refine W.skip (N.seq (W.seq (W.seq (W.region (WL.fieldAddr fo_36_0 rfl rfl rfl (WL.load1 (v := .int .i64 x.op) one_3 rfl rfl rfl (hS.cell 0 rfl rfl) (WL.bin rfl rfl rfl rfl rfl (WL.assign rfl rfl rfl (WL.nil ?_)))))))))
  refine N.seq ?_
  refine W.cond rfl (fun hc7 => ?_) (fun hc7 => ?_)
  ·
   have hc7p : x.op = 16 := by simpa using hc7
   refine W.exit (X.seq (X.seq (X.blk_ne rfl (X.seq (X.blk_ne rfl (X.blk (N.seq (W.seq (W.seq ?_)))))))))
   refine W.region (WL.fieldAddr fo_36_1 rfl rfl rfl (WL.load1 (v := .int .i64 x.a) one_3 rfl rfl rfl (hS.cell 0 rfl rfl) ?_))
   refine WL.buildSlice (ps := [(0, .int .i64 x.a)]) (cs := [.int .i64 x.a]) Try.underlying28 (tyZero_spec zer_3) rfl rfl rfl rfl (by kernel_rfl) hS ?_
   clear hS; intro w9 b8 hb_b8 hS
   refine WL.assign rfl rfl rfl (WL.nil (N.seq ?_))
   refine Fin.ret1 rfl (v := .slice (some ⟨b8, 0, none⟩) 1 1) rfl ?_
   have e : uses5 x = [x.a] := by unfold uses5; rw [if_neg (by omega), if_pos (by omega)]
   rw [e]
   exact ⟨slv_blk (hS.own _ List.mem_cons_self) rfl (chunks_ints (l := [x.a]) (by simp; exact hax)) ((hS.keys _ (by simp [keysOf])).imp id (·.1)) rfl (by simp [maxLen]), hS.below⟩
  have hc7p : ¬ (x.op = 16) := by simpa using hc7
  refine W.skip (N.seq (W.seq (W.region (WL.fieldAddr fo_36_0 rfl rfl rfl (WL.load1 (v := .int .i64 x.op) one_3 rfl rfl rfl (hS.cell 0 rfl rfl) (WL.bin rfl rfl rfl rfl rfl (WL.assign rfl rfl rfl (WL.nil (N.seq ?_)))))))))
  refine W.cond rfl (fun hc10 => ?_) (fun hc10 => ?_)
  ·
   have hc10p : x.op = 14 := by simpa using hc10
   refine W.exit (X.seq (X.blk_ne rfl (X.seq (X.blk_ne rfl (X.blk_ne rfl (X.seq (X.blk (N.seq (W.seq ?_)))))))))
   refine W.seq (W.region (WL.fieldAddr fo_36_5 rfl rfl rfl (WL.load1 (v := .slice adx x.args.length capx) one_28 rfl rfl rfl (hS.cell 0 rfl rfl) ?_)))
   refine WL.callF (vs := [.slice adx x.args.length capx]) Try.func53 (by kernel_rfl) rfl rfl rfl (cloneInt_ret adx capx x.args (ro := fun x => x < w2.heap.size) (fun _ h => h) (hsxd.keep (fun b hb => hS.snap b hb) (fun _ _ q => q)) hsxa hsxc (fun _ _ q => one_ints q) (by unfold maxLen; omega) (by omega)) ?_
   rintro v w11 ⟨cc, how, hcc, hbl⟩
   replace hS := hS.callRow hbl how
   refine WL.assign rfl rfl rfl (WL.nil (N.seq ?_))
   refine Fin.ret1 rfl (v := v) rfl ?_
   have e : uses5 x = x.args := by unfold uses5; rw [if_neg (by omega), if_neg (by omega), if_pos (by omega)]
   rw [e]
   refine ⟨row_slv (hS.rows _ List.mem_cons_self) hcc rfl (fun b hb => ?_), hS.below⟩
   exact (hS.keys b (by simp only [keysOf, List.mem_append, List.mem_filterMap]; exact .inr ⟨_, List.mem_cons_self, hb⟩)).imp id (·.1)
  have hc10p : ¬ (x.op = 14) := by simpa using hc10
  refine W.skip (N.seq (W.exit (X.blk_ne rfl (X.seq (X.blk_ne rfl (X.blk_ne rfl (X.seq (X.blk_ne rfl (X.seq ?_)))))))))
  refine X.blk (N.seq (W.seq (W.region (WL.assign rfl rfl rfl (WL.nil (N.seq ?_))))))
  refine Fin.ret1 rfl (v := .slice none 0 0) rfl ?_
  have e : uses5 x = [] := by unfold uses5; rw [if_neg (by omega), if_neg (by omega), if_neg (by omega)]
  rw [e]; exact ⟨slv_nil, hS.below⟩
 have hg3p : 2 ≤ x.op := by simpa using hg3
 refine WL.fieldAddr fo_36_0 rfl rfl rfl (WL.load1 (v := .int .i64 x.op) one_3 rfl rfl rfl (hS.cell 0 rfl rfl) (WL.bin rfl rfl rfl rfl rfl (WL.pick (v := .bool (decide (x.op ≤ 11))) rfl rfl rfl rfl rfl rfl (WL.assign rfl rfl rfl (WL.nil (N.seq ?_))))))
 refine W.cond rfl (fun hc12 => ?_) (fun hc12 => ?_)
 ·
  have hc12p : x.op ≤ 11 := by simpa using hc12
  refine W.exit (X.seq (X.seq (X.blk (N.seq (W.seq (W.seq (W.region (WL.fieldAddr fo_36_1 rfl rfl rfl (WL.load1 (v := .int .i64 x.a) one_3 rfl rfl rfl (hS.cell 0 rfl rfl) ?_)))))))))
  refine WL.fieldAddr fo_36_2 rfl rfl rfl (WL.load1 (v := .int .i64 x.b) one_3 rfl rfl rfl (hS.cell 0 rfl rfl) ?_)
  refine WL.buildSlice (ps := [(0, .int .i64 x.a), (1, .int .i64 x.b)]) (cs := [.int .i64 x.a, .int .i64 x.b]) Try.underlying28 (tyZero_spec zer_3) rfl rfl rfl rfl (by kernel_rfl) hS ?_
  clear hS; intro w14 b13 hb_b13 hS
  refine WL.assign rfl rfl rfl (WL.nil (N.seq ?_))
  refine Fin.ret1 rfl (v := .slice (some ⟨b13, 0, none⟩) 2 2) rfl ?_
  have e : uses5 x = [x.a, x.b] := by unfold uses5; rw [if_pos (by omega)]
  rw [e]
  exact ⟨slv_blk (hS.own _ List.mem_cons_self) rfl (chunks_ints (l := [x.a, x.b]) (by simp; exact ⟨hax, hbx⟩)) ((hS.keys _ (by simp [keysOf])).imp id (·.1)) rfl (by simp [maxLen]), hS.below⟩
 have hc12p : ¬ (x.op ≤ 11) := by simpa using hc12
 refine W.skip (N.seq (W.seq (W.seq (W.region (WL.fieldAddr fo_36_0 rfl rfl rfl (WL.load1 (v := .int .i64 x.op) one_3 rfl rfl rfl (hS.cell 0 rfl rfl) (WL.bin rfl rfl rfl rfl rfl (WL.assign rfl rfl rfl (WL.nil ?_)))))))))
 refine N.seq ?_
 refine W.cond rfl (fun hc15 => ?_) (fun hc15 => ?_)
 ·
  have hc15p : x.op = 13 := by simpa using hc15
  refine W.exit (X.seq (X.seq (X.blk_ne rfl (X.seq (X.blk (N.blk (N.seq (W.seq (W.seq ?_)))))))))
  refine W.region (WL.fieldAddr fo_36_1 rfl rfl rfl (WL.load1 (v := .int .i64 x.a) one_3 rfl rfl rfl (hS.cell 0 rfl rfl) ?_))
  refine WL.buildSlice (ps := [(0, .int .i64 x.a)]) (cs := [.int .i64 x.a]) Try.underlying28 (tyZero_spec zer_3) rfl rfl rfl rfl (by kernel_rfl) hS ?_
  clear hS; intro w17 b16 hb_b16 hS
  refine WL.assign rfl rfl rfl (WL.nil (N.seq ?_))
  refine Fin.ret1 rfl (v := .slice (some ⟨b16, 0, none⟩) 1 1) rfl ?_
  have e : uses5 x = [x.a] := by unfold uses5; rw [if_neg (by omega), if_pos (by omega)]
  rw [e]
  exact ⟨slv_blk (hS.own _ List.mem_cons_self) rfl (chunks_ints (l := [x.a]) (by simp; exact hax)) ((hS.keys _ (by simp [keysOf])).imp id (·.1)) rfl (by simp [maxLen]), hS.below⟩
 have hc15p : ¬ (x.op = 13) := by simpa using hc15
 refine W.skip (N.seq (W.seq (W.seq (W.region (WL.fieldAddr fo_36_0 rfl rfl rfl (WL.load1 (v := .int .i64 x.op) one_3 rfl rfl rfl (hS.cell 0 rfl rfl) (WL.bin rfl rfl rfl rfl rfl (WL.assign rfl rfl rfl (WL.nil ?_)))))))))
 refine N.seq ?_
 refine W.cond rfl (fun hc18 => ?_) (fun hc18 => ?_)
 ·
  have hc18p : x.op = 16 := by simpa using hc18
  refine W.exit (X.seq (X.seq (X.blk_ne rfl (X.seq (X.blk_ne rfl (X.blk (N.seq (W.seq (W.seq ?_)))))))))
  refine W.region (WL.fieldAddr fo_36_1 rfl rfl rfl (WL.load1 (v := .int .i64 x.a) one_3 rfl rfl rfl (hS.cell 0 rfl rfl) ?_))
  refine WL.buildSlice (ps := [(0, .int .i64 x.a)]) (cs := [.int .i64 x.a]) Try.underlying28 (tyZero_spec zer_3) rfl rfl rfl rfl (by kernel_rfl) hS ?_
  clear hS; intro w20 b19 hb_b19 hS
  refine WL.assign rfl rfl rfl (WL.nil (N.seq ?_))
  refine Fin.ret1 rfl (v := .slice (some ⟨b19, 0, none⟩) 1 1) rfl ?_
  have e : uses5 x = [x.a] := by unfold uses5; rw [if_neg (by omega), if_pos (by omega)]
  rw [e]
  exact ⟨slv_blk (hS.own _ List.mem_cons_self) rfl (chunks_ints (l := [x.a]) (by simp; exact hax)) ((hS.keys _ (by simp [keysOf])).imp id (·.1)) rfl (by simp [maxLen]), hS.below⟩
 have hc18p : ¬ (x.op = 16) := by simpa using hc18
 refine W.skip (N.seq (W.seq (W.region (WL.fieldAddr fo_36_0 rfl rfl rfl (WL.load1 (v := .int .i64 x.op) one_3 rfl rfl rfl (hS.cell 0 rfl rfl) (WL.bin rfl rfl rfl rfl rfl (WL.assign rfl rfl rfl (WL.nil (N.seq ?_)))))))))
 refine W.cond rfl (fun hc21 => ?_) (fun hc21 => ?_)
 ·
  have hc21p : x.op = 14 := by simpa using hc21
  refine W.exit (X.seq (X.blk_ne rfl (X.seq (X.blk_ne rfl (X.blk_ne rfl (X.seq (X.blk (N.seq (W.seq ?_)))))))))
  refine W.seq (W.region (WL.fieldAddr fo_36_5 rfl rfl rfl (WL.load1 (v := .slice adx x.args.length capx) one_28 rfl rfl rfl (hS.cell 0 rfl rfl) ?_)))
  refine WL.callF (vs := [.slice adx x.args.length capx]) Try.func53 (by kernel_rfl) rfl rfl rfl (cloneInt_ret adx capx x.args (ro := fun x => x < w2.heap.size) (fun _ h => h) (hsxd.keep (fun b hb => hS.snap b hb) (fun _ _ q => q)) hsxa hsxc (fun _ _ q => one_ints q) (by unfold maxLen; omega) (by omega)) ?_
  rintro v w22 ⟨cc, how, hcc, hbl⟩
  replace hS := hS.callRow hbl how
  refine WL.assign rfl rfl rfl (WL.nil (N.seq ?_))
  refine Fin.ret1 rfl (v := v) rfl ?_
  have e : uses5 x = x.args := by unfold uses5; rw [if_neg (by omega), if_neg (by omega), if_pos (by omega)]
  rw [e]
  refine ⟨row_slv (hS.rows _ List.mem_cons_self) hcc rfl (fun b hb => ?_), hS.below⟩
  exact (hS.keys b (by simp only [keysOf, List.mem_append, List.mem_filterMap]; exact .inr ⟨_, List.mem_cons_self, hb⟩)).imp id (·.1)
 have hc21p : ¬ (x.op = 14) := by simpa using hc21
 refine W.skip (N.seq (W.exit (X.blk_ne rfl (X.seq (X.blk_ne rfl (X.blk_ne rfl (X.seq (X.blk_ne rfl (X.seq ?_)))))))))
 refine X.blk (N.seq (W.seq (W.region (WL.assign rfl rfl rfl (WL.nil (N.seq ?_))))))
 refine Fin.ret1 rfl (v := .slice none 0 0) rfl ?_
 have e : uses5 x = [] := by unfold uses5; rw [if_neg (by omega), if_neg (by omega), if_neg (by omega)]
 rw [e]; exact ⟨slv_nil, hS.below⟩

def mark13 (u : List Bool) (l : List Int) : List Bool := l.foldl (fun u v => u.set v.toNat true) u
theorem mark13_snoc (u : List Bool) (l : List Int) (x : Int) : mark13 u (l ++ [x]) = (mark13 u l).set x.toNat true := by simp [mark13]
theorem mark13_length (u : List Bool) : ∀ (l : List Int), (mark13 u l).length = u.length := fun l => by
  induction l using snoc_ind with
  | h0 => rfl
  | h1 l x ih => rw [mark13_snoc, List.length_set, ih]

theorem mark_ret {w0 ws w : World} {ro : Nat → Prop} {L : List (Nat × Obj)} {Rs : List Row} (bu g : Nat) (us : List Bool) (NN : Nat) (hN : us.length = NN) (xs : List Int) (vx : Value) (hS : St w0 ws w ro ((bu, .cells #[.slice (some ⟨g, 0, none⟩) NN NN] 40 (0, 0)) :: (g, arrO Value.bool 4 us) :: L) Rs) (hx : SlV ro ws 1 IntC vx xs) (hin : ∀ v ∈ xs, 0 ≤ v ∧ v < (NN : Int)) : Ret Try.prog 36 #[vx, .pointer (some ⟨bu, 0, none⟩)] w fun v w' => v = .tuple #[] ∧ St w0 ws w' ro ((bu, .cells #[.slice (some ⟨g, 0, none⟩) NN NN] 40 (0, 0)) :: (g, arrO Value.bool 4 (mark13 us xs)) :: L) Rs := by
 obtain ⟨ad, cap, rfl, haa, hab, hac, had⟩ := id hx
 have ham : xs.length ≤ 9223372036854775807 := by have h1 := haa; have h2 := hab; unfold maxLen at h2; omega
 refine Ret.enter (P := Try.prog) (n := 15) (args := [.slice ad xs.length cap, .pointer (some ⟨bu, 0, none⟩)]) (σ := [(0, .slice ad xs.length cap), (1, .pointer (some ⟨bu, 0, none⟩))]) Try.func36 rfl rfl rfl rfl ?_
 refine W.seq (W.region (WL.move rfl rfl rfl (WL.lenSlice Try.underlying28 rfl rfl rfl (WL.move rfl rfl rfl (WL.nil (N.seq (W.block ?_)))))))
 refine W.loop (α := Nat) (fun (k : Nat) => [(1, .pointer (some ⟨bu, 0, none⟩)), (5, .slice ad xs.length cap), (6, .int .i64 (xs.length : Int)), (7, .int .i64 (k : Int))]) (fun (k : Nat) u => St w0 ws u ro ((bu, .cells #[.slice (some ⟨g, 0, none⟩) NN NN] 40 (0, 0)) :: (g, arrO Value.bool 4 (mark13 us (xs.take k))) :: L) (Rs) ∧ k ≤ xs.length) (fun (k : Nat) => xs.length - k) 0 ⟨rfl, rfl, rfl, rfl, trivial⟩ ⟨hS, Nat.zero_le _⟩ ?_
 clear hS
 rintro k w1 ⟨hS, hk⟩
 refine W.seq (W.region (WL.bin rfl rfl rfl rfl rfl (WL.nil (N.seq (W.seq ?_)))))
 refine W.cond rfl (fun hc2 => ?_) (fun hc2 => ?_)
 ·
  have hc2p : (k : Int) < (xs.length : Int) := by simpa using hc2
  refine W.skip (N.seq (W.seq (W.block (W.seq (W.region ?_)))))
  have hj3 : k < xs.length := by omega
  obtain ⟨x3, hx3⟩ : ∃ zz, xs[k]? = some zz := ⟨_, List.getElem?_eq_getElem hj3⟩
  obtain ⟨b3, o3, cs3, hE3, hr3, hl3, hc3, hQ3⟩ := had k _ hx3
  obtain ⟨rfl, hi3⟩ := hQ3
  refine WL.indexAddrE (j := k) Try.underlying28 isz_3 rfl rfl rfl rfl hj3 hE3 (WL.load1 (v := .int .i64 x3) one_3 rfl rfl rfl (hS.roCells hr3 hc3 0 _ rfl) (WL.assign rfl rfl rfl (WL.nil (N.seq (W.region (WL.load1 (v := .slice (some ⟨g, 0, none⟩) NN NN) one_40 rfl rfl rfl (hS.cell 0 rfl rfl) (WL.move rfl rfl rfl ?_)))))))
  have hlt3 := hin _ (List.mem_of_getElem? hx3)
  refine WL.set 12 (v' := .int .i64 (x3.toNat : Int)) rfl (by congr 1; omega) ?_
  refine WL.indexAddr (j := x3.toNat) Try.underlying40 isz_4 rfl rfl rfl rfl (by omega) ?_
  refine WL.storeArr (v := true) 1 rfl rfl rfl rfl siz_4 rfl rfl (by rw [mark13_length]; omega) hS ?_
  clear hS; intro w4 hS
  refine WL.nil (N.blk (N.seq (W.region ?_)))
  refine WL.add (c := (k : Int) + 1) rfl rfl rfl rfl (rfl) (by omega) ?_
  refine WL.move rfl rfl rfl (WL.nil ?_)
  rw [← mark13_snoc, ← take_next hx3] at hS
  exact N.loop (k + 1) ⟨rfl, rfl, rfl, rfl, trivial⟩ ⟨hS, by omega⟩ (by first | omega | (simp only; omega))
 have hc2p : ¬ ((k : Int) < (xs.length : Int)) := by simpa using hc2
 refine W.exit (X.seq (X.loop (X.blk ?_)))
 refine Fin.end0 rfl ?_
 have e : k = xs.length := by omega
 subst e
 rw [List.take_length] at hS
 exact ⟨rfl, hS⟩

end Go.Proofs.Ytdlcmhkfglckfaa
