/-
  Contracts of layer 12 (fold). No condition beyond those that each theorem states.
-/
import Derived.Test.YtokkiaokpfediaaF1
namespace Go.Proofs.Ytokkiaokpfediaa
open Go.RowKit
theorem agg_27 : tyAgg Try.prog 27 6 = true := by kernel_rfl
theorem agg_29 : tyAgg Try.prog 29 8 = true := by kernel_rfl
theorem fo_27_0 : fOff Try.prog 27 0 0 = true := by kernel_rfl
theorem fo_27_1 : fOff Try.prog 27 1 1 = true := by kernel_rfl
theorem fo_27_2 : fOff Try.prog 27 2 2 = true := by kernel_rfl
theorem fo_27_3 : fOff Try.prog 27 3 3 = true := by kernel_rfl
theorem fo_27_4 : fOff Try.prog 27 4 4 = true := by kernel_rfl
theorem fo_27_5 : fOff Try.prog 27 5 5 = true := by kernel_rfl
theorem fo_29_2 : fOff Try.prog 29 2 2 = true := by kernel_rfl
theorem one_25 : tyOne Try.prog 25 = true := by kernel_rfl
theorem siz_24 : tySize Try.prog 24 1 = true := by kernel_rfl
theorem siz_25 : tySize Try.prog 25 1 = true := by kernel_rfl
theorem siz_27 : tySize Try.prog 27 6 = true := by kernel_rfl
theorem siz_29 : tySize Try.prog 29 8 = true := by kernel_rfl
theorem siz_3 : tySize Try.prog 3 1 = true := by kernel_rfl
theorem zer_27 : tyZero Try.prog 27 = some [.int .i64 0, .int .i64 0, .int .i64 0, .slice none 0 0, .int .i64 0, .slice none 0 0] := by kernel_rfl
theorem zer_29 : tyZero Try.prog 29 = some [.int .i64 0, .slice none 0 0, .int .i64 0, .int .i64 0, .int .i64 0, .slice none 0 0, .int .i64 0, .slice none 0 0] := by kernel_rfl
def cInst (k : Int) : DInst := ⟨1, 0, 0, k, ⟨#[]⟩, []⟩
def foldIns (ins : List DInst) (ks : List (Int × Bool)) : List DInst := List.zipWith (fun x k => if k.2 = true then cInst k.1 else x) ins ks
def foldTerm (ks : List (Int × Bool)) (t : DTerm) : DTerm :=
  if t.kind = 2 ∧ (katG ks t.a).2 = true then (if (katG ks t.a).1 = 0 then ⟨1, 0, t.els, t.elses, 0, []⟩ else ⟨1, 0, t.to, t.args, 0, []⟩) else t
def foldBlock (b : DBlock) : DBlock := ⟨b.params, foldIns b.ins ((vals b).drop b.params.toNat), foldTerm (vals b) b.fin⟩
theorem vals_length (b : DBlock) : (vals b).length = b.params.toNat + b.ins.length := by rw [vals, valsF_length]; simp [vals0]
theorem foldIns_length (b : DBlock) : (foldIns b.ins ((vals b).drop b.params.toNat)).length = b.ins.length := by
  rw [foldIns, List.length_zipWith, List.length_drop, vals_length]; omega
theorem foldIns_get (b : DBlock) {k : Nat} {x : DInst} {y : Int × Bool} (hx : b.ins[k]? = some x) (hy : (vals b)[b.params.toNat + k]? = some y) : (foldIns b.ins ((vals b).drop b.params.toNat))[k]? = some (if y.2 = true then cInst y.1 else x) := by
  rw [foldIns, List.getElem?_zipWith, List.getElem?_drop, hx, hy]
theorem cInstC {ro : Nat → Prop} {w : World} {k : Int} (hk : inU k) : InstC ro w [.int .i64 1, .int .i64 0, .int .i64 0, .int .u64 k, .string ⟨#[]⟩, .slice none 0 0] (cInst k) :=
  ⟨_, rfl, ⟨none, 0, rfl, Nat.le_refl _, Nat.zero_le _, fun _ => rfl, fun i x hx => by simp [cInst] at hx⟩, by unfold inI cInst; simp, by unfold inI cInst; simp, by unfold inI cInst; simp, hk, Nat.zero_le _⟩
theorem intsNil {ro : Nat → Prop} {w : World} : IntsV ro w (.slice none 0 0) [] := ⟨none, 0, rfl, Nat.le_refl _, Nat.zero_le _, fun _ => rfl, fun i x hx => by simp at hx⟩
/-- Row by row: what has been gone through is new, the rest as it was. -/
def mixL {α : Type} (k : Nat) (a b : List α) : List α := a.take k ++ b.drop k
theorem mix_set {α : Type} {k : Nat} {a b : List α} {x : α} (hl : a.length = b.length) (hk : k < b.length) (hx : a[k]? = some x) : (mixL k a b).set k x = mixL (k + 1) a b := by
  apply List.ext_getElem?
  intro j
  unfold mixL
  rw [List.getElem?_set]
  simp only [List.length_append, List.length_take, List.length_drop, List.getElem?_append, List.getElem?_take, List.getElem?_drop]
  repeat' split
  all_goals first | omega | (subst_vars; first | exact hx.symm | omega) | (congr 1; omega) | rfl | skip
theorem mix_same {α : Type} {k : Nat} {a b : List α} {x : α} (hl : a.length = b.length) (hk : k < b.length) (hx : a[k]? = some x) (hy : b[k]? = some x) : mixL k a b = mixL (k + 1) a b := by
  apply List.ext_getElem?
  intro j
  unfold mixL
  simp only [List.length_take, List.getElem?_append, List.getElem?_take, List.getElem?_drop]
  by_cases hj : j = k
  · subst hj
    rw [if_neg (by omega), if_pos (by omega), if_pos (by omega), hx]
    rw [show j + (j - min j a.length) = j by omega]
    exact hy
  · repeat' split
    all_goals first | omega | rfl | (congr 1; omega) | skip
theorem mix_full {α : Type} {a b : List α} (hl : a.length = b.length) : mixL b.length a b = a := by
  unfold mixL; rw [List.drop_length, List.append_nil, ← hl, List.take_length]
theorem mix_length {α : Type} {k : Nat} {a b : List α} (hl : a.length = b.length) (hk : k ≤ b.length) : (mixL k a b).length = b.length := by
  unfold mixL; rw [List.length_append, List.length_take, List.length_drop]; omega

set_option maxRecDepth 10000 in
theorem block_ret (b : DBlock) (cs : List Value) {w : World} {ro : Nat → Prop} (hro : ∀ b, ro b → b < w.heap.size) (hb : BlockC ro w cs b) (hp : b.params ≤ 1000) (hl : b.ins.length ≤ 1954687338211) : Ret Try.prog 9 #[.agg cs.toArray] w fun v w' => ∃ cs, v = .agg cs.toArray ∧ BlockC (roFrom ro w w') w' cs (foldBlock b) ∧ Below w.heap.size w w' := by
 obtain ⟨si, tsx, rfl, hin, hfin, hpar⟩ := id hb
 obtain ⟨adi, capi, rfl, hina, hinb, hinc, hind⟩ := id hin
 have hinm : b.ins.length ≤ 9223372036854775807 := by have h1 := hina; have h2 := hinb; unfold maxLen at h2; omega
 obtain ⟨sp, sq, rfl, ht1, ht2, htk, hta, htt, hte⟩ := id hfin
 obtain ⟨adp, capp, rfl, htpa, htpb, htpc, htpd⟩ := id ht1
 have htpm : b.fin.args.length ≤ 9223372036854775807 := by have h1 := htpa; have h2 := htpb; unfold maxLen at h2; omega
 obtain ⟨adq, capq, rfl, htqa, htqb, htqc, htqd⟩ := id ht2
 have htqm : b.fin.elses.length ≤ 9223372036854775807 := by have h1 := htqa; have h2 := htqb; unfold maxLen at h2; omega
 refine Ret.enter (P := Try.prog) (n := 91) (args := [.agg #[.int .i64 b.params, .slice adi b.ins.length capi, .int .i64 b.fin.kind, .int .i64 b.fin.a, .int .i64 b.fin.to, .slice adp b.fin.args.length capp, .int .i64 b.fin.els, .slice adq b.fin.elses.length capq]]) (σ := [(0, .agg #[.int .i64 b.params, .slice adi b.ins.length capi, .int .i64 b.fin.kind, .int .i64 b.fin.a, .int .i64 b.fin.to, .slice adp b.fin.args.length capp, .int .i64 b.fin.els, .slice adq b.fin.elses.length capq])]) Try.func9 rfl rfl rfl rfl ?_
 have hS := St.start (ro := ro) hro
 refine W.seq (W.region ?_)
 refine WL.box (v := .agg #[.int .i64 b.params, .slice adi b.ins.length capi, .int .i64 b.fin.kind, .int .i64 b.fin.a, .int .i64 b.fin.to, .slice adp b.fin.args.length capp, .int .i64 b.fin.els, .slice adq b.fin.elses.length capq]) (cs := [.int .i64 b.params, .slice adi b.ins.length capi, .int .i64 b.fin.kind, .int .i64 b.fin.a, .int .i64 b.fin.to, .slice adp b.fin.args.length capp, .int .i64 b.fin.els, .slice adq b.fin.elses.length capq]) rfl rfl rfl rfl hS ?_
 clear hS; intro w2 b1 hb_b1 hS
 refine WL.alloc (tyZero_spec zer_29) rfl rfl hS ?_
 clear hS; intro w4 b3 hb_b3 hS
 refine WL.nil (N.seq (W.seq (W.region ?_)))
 refine WL.loadN (cs := [.int .i64 b.params, .slice adi b.ins.length capi, .int .i64 b.fin.kind, .int .i64 b.fin.a, .int .i64 b.fin.to, .slice adp b.fin.args.length capp, .int .i64 b.fin.els, .slice adq b.fin.elses.length capq]) agg_29 rfl rfl rfl rfl (hS.cells 1 (m := 8) rfl rfl) ?_
 have hbv := hb.keep hS.alike
 have hS0 := hS
 refine WL.callF (vs := [.agg #[.int .i64 b.params, .slice adi b.ins.length capi, .int .i64 b.fin.kind, .int .i64 b.fin.a, .int .i64 b.fin.to, .slice adp b.fin.args.length capp, .int .i64 b.fin.els, .slice adq b.fin.elses.length capq]]) Try.func19 (by kernel_rfl) rfl rfl rfl (values_ret b _ (ro := ro) (fun b hb => (hS.snap b hb).1) hbv hp hl) ?_
 rintro v w5 ⟨hks, hbl⟩
 have hal := hS.alikeTo hbl (ro' := roFrom ro w4 w5) (fun b hb => .inl hb)
 replace hS := hS.readNew hbl
 obtain ⟨adk, capk, rfl, hk1, hk2, hk3, hk4⟩ := hks
 have hk5 : Elems (roFrom ro w4 w5) w5 2 KnownC adk (vals b) := hk4.keep (fun x hx => ⟨.inr hx, rfl⟩) (fun _ _ h => h)
 have hvl := vals_length b
 have hb2 := hb.keep hal
 have hind2 : Elems (roFrom ro w4 w5) w5 6 (InstC (roFrom ro w4 w5) w5) adi b.ins := hind.keep hal (fun _ _ h => h.keep hal)
 refine WL.assign rfl rfl rfl (WL.nil (N.seq (W.seq (W.region (WL.move rfl rfl rfl ?_)))))
 refine WL.lenSlice Try.underlying55 rfl rfl rfl ?_
 refine WL.fieldAddr fo_29_1 rfl rfl rfl ?_
 refine WL.load1 (v := .slice adi b.ins.length capi) one_24 rfl rfl rfl (hS.cell 1 rfl rfl) ?_
 refine WL.lenSlice Try.underlying24 rfl rfl rfl ?_
 refine WL.sub_ (c := (b.params.toNat : Int)) rfl rfl rfl rfl (by omega) (by omega) ?_
 refine WL.assign rfl rfl rfl (WL.nil (N.seq (W.seq (W.region ?_))))
 refine WL.fieldAddr fo_29_1 rfl rfl rfl ?_
 refine WL.load1 (v := .slice adi b.ins.length capi) one_24 rfl rfl rfl (hS.cell 1 rfl rfl) ?_
 have hind3 : Elems (fun x => x < w5.heap.size) w5 6 (InstC (roFrom ro w4 w5) w5) adi b.ins := hind2.keep (fun x hx => ⟨(hS.snap x hx).1, (hS.snap x hx).2⟩) (fun _ _ h => h)
 refine WL.callF (vs := [.slice adi b.ins.length capi]) Try.func20 (by kernel_rfl) rfl rfl rfl (cloneInst_ret adi capi b.ins (ro := fun x => x < w5.heap.size) (fun _ h => h) hind3 hina hinc (fun _ _ h => one_inst h) (by unfold maxLen; omega) (by omega)) ?_
 rintro v w6 ⟨ics, how, hics, hbl⟩
 replace hS := hS.callRow hbl how
 obtain ⟨adr, capr, rfl, hr1, hr2, hr3⟩ := row_shape how
 refine WL.fieldAddr fo_29_1 rfl rfl rfl ?_
 refine WL.store (cs := [.slice adr b.ins.length capr]) (c' := #[.int .i64 b.params, .slice adr b.ins.length capr, .int .i64 b.fin.kind, .int .i64 b.fin.a, .int .i64 b.fin.to, .slice adp b.fin.args.length capp, .int .i64 b.fin.els, .slice adq b.fin.elses.length capq]) (L' := [(b3, .cells #[.int .i64 0, .slice none 0 0, .int .i64 0, .int .i64 0, .int .i64 0, .slice none 0 0, .int .i64 0, .slice none 0 0] 29 (0, 0)), (b1, .cells #[.int .i64 b.params, .slice adr b.ins.length capr, .int .i64 b.fin.kind, .int .i64 b.fin.a, .int .i64 b.fin.to, .slice adp b.fin.args.length capp, .int .i64 b.fin.els, .slice adq b.fin.elses.length capq] 29 (0, 0))]) 1 rfl rfl rfl rfl siz_24 rfl rfl rfl rfl rfl hS ?_
 clear hS; intro w7 hS
 refine WL.nil (N.seq (W.seq (W.seq (W.region ?_))))
 refine WL.fieldAddr fo_29_1 rfl rfl rfl ?_
 refine WL.load1 (v := .slice adr b.ins.length capr) one_24 rfl rfl rfl (hS.cell 1 rfl rfl) ?_
 refine WL.lenSlice Try.underlying24 rfl rfl rfl ?_
 refine WL.move rfl rfl rfl (WL.nil (N.seq (W.block ?_)))
 refine W.loop (α := Nat × List Value) (fun ⟨k, cs⟩ => [(0, .agg #[.int .i64 b.params, .slice adi b.ins.length capi, .int .i64 b.fin.kind, .int .i64 b.fin.a, .int .i64 b.fin.to, .slice adp b.fin.args.length capp, .int .i64 b.fin.els, .slice adq b.fin.elses.length capq]), (1, .pointer (some ⟨b1, 0, none⟩)), (2, .pointer (some ⟨b3, 0, none⟩)), (3, .slice adk ((vals b).length) capk), (4, .int .i64 (b.params.toNat : Int)), (8, .agg #[.int .i64 b.params, .slice adi b.ins.length capi, .int .i64 b.fin.kind, .int .i64 b.fin.a, .int .i64 b.fin.to, .slice adp b.fin.args.length capp, .int .i64 b.fin.els, .slice adq b.fin.elses.length capq]), (9, .slice adk ((vals b).length) capk), (10, .slice adk ((vals b).length) capk), (11, .int .i64 ((vals b).length : Int)), (12, .pointer (some ⟨b1, 1, none⟩)), (13, .slice adi b.ins.length capi), (14, .int .i64 (b.ins.length : Int)), (15, .int .i64 (b.params.toNat : Int)), (16, .pointer (some ⟨b1, 1, none⟩)), (17, .slice adi b.ins.length capi), (18, .slice adr b.ins.length capr), (19, .pointer (some ⟨b1, 1, none⟩)), (20, .pointer (some ⟨b1, 1, none⟩)), (21, .slice adr b.ins.length capr), (22, .int .i64 (b.ins.length : Int)), (23, .int .i64 (k : Int))]) (fun ⟨k, cs⟩ u => St w w5 u (roFrom ro w4 w5) [(b3, .cells #[.int .i64 0, .slice none 0 0, .int .i64 0, .int .i64 0, .int .i64 0, .slice none 0 0, .int .i64 0, .slice none 0 0] 29 (0, 0)), (b1, .cells #[.int .i64 b.params, .slice adr b.ins.length capr, .int .i64 b.fin.kind, .int .i64 b.fin.a, .int .i64 b.fin.to, .slice adp b.fin.args.length capp, .int .i64 b.fin.els, .slice adq b.fin.elses.length capq] 29 (0, 0))] [⟨.slice adr b.ins.length capr, 32, 6, b.ins.length, cs⟩] ∧ k ≤ b.ins.length ∧ Chunks 6 (InstC (roFrom ro w4 w5) w5) cs (mixL k (foldIns b.ins ((vals b).drop b.params.toNat)) b.ins)) (fun ⟨k, cs⟩ => b.ins.length - k) (0, ics) ⟨rfl, rfl, rfl, rfl, rfl, rfl, rfl, rfl, rfl, rfl, rfl, rfl, rfl, rfl, rfl, rfl, rfl, rfl, rfl, rfl, rfl, trivial⟩ ⟨hS, Nat.zero_le _, by simpa [mixL] using hics⟩ ?_
 clear hS
 rintro ⟨k, cs⟩ w8 ⟨hS, hk, hch⟩
 refine W.seq (W.region (WL.bin rfl rfl rfl rfl rfl (WL.nil (N.seq (W.seq ?_)))))
 refine W.cond rfl (fun hc9 => ?_) (fun hc9 => ?_)
 ·
  have hc9p : (k : Int) < (b.ins.length : Int) := by simpa using hc9
  refine W.skip (N.seq (W.seq (W.block (W.seq (W.region (WL.move rfl rfl rfl (WL.assign rfl rfl rfl (WL.nil (N.seq ?_)))))))))
  refine W.seq (W.region (WL.move rfl rfl rfl (WL.move rfl rfl rfl (WL.move rfl rfl rfl ?_))))
  refine WL.add (c := ((b.params.toNat + k : Nat) : Int)) rfl rfl rfl rfl (by omega) (by omega) ?_
  have hj10 : (b.params.toNat + k : Nat) < (vals b).length := by omega
  obtain ⟨x10, hx10⟩ : ∃ zz, (vals b)[(b.params.toNat + k : Nat)]? = some zz := ⟨_, List.getElem?_eq_getElem hj10⟩
  obtain ⟨b10, o10, cs10, hE10, hr10, hl10, hc10, hQ10⟩ := hk5 (b.params.toNat + k : Nat) _ hx10
  obtain ⟨rfl, hku10⟩ := hQ10
  refine WL.indexAddrE (j := (b.params.toNat + k : Nat)) Try.underlying55 isz_59 rfl rfl rfl rfl hj10 hE10 ?_
  refine WL.loadN (cs := [.int .u64 x10.1, .bool x10.2]) agg_59 rfl rfl rfl rfl (hS.roCells hr10 hc10) ?_
  refine WL.alloc (tyZero_spec zer_59) rfl rfl hS ?_
  clear hS; intro w12 b11 hb_b11 hS
  refine WL.store (cs := [.int .u64 x10.1, .bool x10.2]) (c' := #[.int .u64 x10.1, .bool x10.2]) (L' := [(b11, .cells #[.int .u64 x10.1, .bool x10.2] 59 (0, 0)), (b3, .cells #[.int .i64 0, .slice none 0 0, .int .i64 0, .int .i64 0, .int .i64 0, .slice none 0 0, .int .i64 0, .slice none 0 0] 29 (0, 0)), (b1, .cells #[.int .i64 b.params, .slice adr b.ins.length capr, .int .i64 b.fin.kind, .int .i64 b.fin.a, .int .i64 b.fin.to, .slice adp b.fin.args.length capp, .int .i64 b.fin.els, .slice adq b.fin.elses.length capq] 29 (0, 0))]) 0 rfl rfl rfl rfl siz_59 rfl rfl rfl rfl rfl hS ?_
  clear hS; intro w13 hS
  refine WL.nil (N.seq (W.seq (W.region ?_)))
  refine WL.fieldAddr fo_59_1 rfl rfl rfl ?_
  refine WL.load1 (v := .bool x10.2) one_4 rfl rfl rfl (hS.cell 0 rfl rfl) ?_
  refine WL.nil (N.seq ?_)
  refine W.cond rfl (fun hc14 => ?_) (fun hc14 => ?_)
  ·
   refine W.region ?_
   refine WL.fieldAddr fo_29_1 rfl rfl rfl ?_
   refine WL.load1 (v := .slice adr b.ins.length capr) one_24 rfl rfl rfl (hS.cell 2 rfl rfl) ?_
   refine WL.move rfl rfl rfl ?_
   refine WL.fieldAddr fo_59_0 rfl rfl rfl ?_
   refine WL.load1 (v := .int .u64 x10.1) one_22 rfl rfl rfl (hS.cell 0 rfl rfl) ?_
   refine WL.build (ps := [(0, .int .i64 1), (3, .int .u64 x10.1)]) (cs := [.int .i64 1, .int .i64 0, .int .i64 0, .int .u64 x10.1, .string ⟨#[]⟩, .slice none 0 0]) rfl rfl rfl (by kernel_rfl) ?_
   obtain ⟨gr, rfl⟩ : ∃ g, adr = some ⟨g, 0, none⟩ := row_some (hS.rows _ List.mem_cons_self) (show b.ins.length ≠ 0 by omega)
   refine WL.indexAddr (j := k) Try.underlying24 isz_32 rfl rfl rfl rfl (by omega) ?_
   refine WL.storeRow (cs := [.int .i64 1, .int .i64 0, .int .i64 0, .int .u64 x10.1, .string ⟨#[]⟩, .slice none 0 0]) rfl rfl rfl rfl siz_32 rfl hS (by simp only [List.length_cons, List.length_nil]; omega) ?_
   clear hS; intro w15 hS
   have hset : Chunks 6 (InstC (roFrom ro w4 w5) w5) (cs.take (0 + k * 6) ++ ([.int .i64 1, .int .i64 0, .int .i64 0, .int .u64 x10.1, .string ⟨#[]⟩, .slice none 0 0] : List Value) ++ cs.drop (0 + k * 6 + 6)) (mixL (k + 1) (foldIns b.ins ((vals b).drop b.params.toNat)) b.ins) := by
    have h1 := hch.setAt (i := k) (by rw [mix_length (foldIns_length b) hk]; omega) rfl (cInstC hku10)
    rw [mix_set (foldIns_length b) (by omega) (by rw [foldIns_get b (List.getElem?_eq_getElem (by omega)) hx10]; simp [hc14])] at h1
    simpa using h1
   refine WL.nil (N.blk (N.seq (W.region ?_)))
   refine WL.add (c := (k : Int) + 1) rfl rfl rfl rfl (rfl) (by omega) ?_
   refine WL.move rfl rfl rfl (WL.nil ?_)
   have hS := hS.dropN 1
   exact N.loop (k + 1, cs.take (0 + k * 6) ++ ([.int .i64 1, .int .i64 0, .int .i64 0, .int .u64 x10.1, .string ⟨#[]⟩, .slice none 0 0] : List Value) ++ cs.drop (0 + k * 6 + 6)) ⟨rfl, rfl, rfl, rfl, rfl, rfl, rfl, rfl, rfl, rfl, rfl, rfl, rfl, rfl, rfl, rfl, rfl, rfl, rfl, rfl, rfl, trivial⟩ ⟨hS, by omega, hset⟩ (by simp only; omega)
  refine W.skip (N.blk (N.seq (W.region ?_)))
  refine WL.add (c := (k : Int) + 1) rfl rfl rfl rfl (rfl) (by omega) ?_
  refine WL.move rfl rfl rfl (WL.nil ?_)
  have hS := hS.dropN 1
  have hx0 : b.ins[k]? = some b.ins[k] := List.getElem?_eq_getElem (by omega)
  have hset : Chunks 6 (InstC (roFrom ro w4 w5) w5) cs (mixL (k + 1) (foldIns b.ins ((vals b).drop b.params.toNat)) b.ins) := by rw [← mix_same (foldIns_length b) (by omega) (x := b.ins[k]) (by rw [foldIns_get b hx0 hx10]; simp [hc14]) hx0]; exact hch
  exact N.loop (k + 1, cs) ⟨rfl, rfl, rfl, rfl, rfl, rfl, rfl, rfl, rfl, rfl, rfl, rfl, rfl, rfl, rfl, rfl, rfl, rfl, rfl, rfl, rfl, trivial⟩ ⟨hS, by omega, hset⟩ (by simp only; omega)
 have hc9p : ¬ ((k : Int) < (b.ins.length : Int)) := by simpa using hc9
 refine W.exit (X.seq (X.loop (X.blk (N.seq (W.seq (W.region ?_))))))
 refine WL.fieldAddr fo_29_2 rfl rfl rfl ?_
 refine WL.loadN (cs := [.int .i64 b.fin.kind, .int .i64 b.fin.a, .int .i64 b.fin.to, .slice adp b.fin.args.length capp, .int .i64 b.fin.els, .slice adq b.fin.elses.length capq]) agg_27 rfl rfl rfl rfl (hS.cells 1 (m := 6) rfl rfl) ?_
 refine WL.alloc (tyZero_spec zer_27) rfl rfl hS ?_
 clear hS; intro w17 b16 hb_b16 hS
 refine WL.store (cs := [.int .i64 b.fin.kind, .int .i64 b.fin.a, .int .i64 b.fin.to, .slice adp b.fin.args.length capp, .int .i64 b.fin.els, .slice adq b.fin.elses.length capq]) (c' := #[.int .i64 b.fin.kind, .int .i64 b.fin.a, .int .i64 b.fin.to, .slice adp b.fin.args.length capp, .int .i64 b.fin.els, .slice adq b.fin.elses.length capq]) (L' := [(b16, .cells #[.int .i64 b.fin.kind, .int .i64 b.fin.a, .int .i64 b.fin.to, .slice adp b.fin.args.length capp, .int .i64 b.fin.els, .slice adq b.fin.elses.length capq] 27 (0, 0)), (b3, .cells #[.int .i64 0, .slice none 0 0, .int .i64 0, .int .i64 0, .int .i64 0, .slice none 0 0, .int .i64 0, .slice none 0 0] 29 (0, 0)), (b1, .cells #[.int .i64 b.params, .slice adr b.ins.length capr, .int .i64 b.fin.kind, .int .i64 b.fin.a, .int .i64 b.fin.to, .slice adp b.fin.args.length capp, .int .i64 b.fin.els, .slice adq b.fin.elses.length capq] 29 (0, 0))]) 0 rfl rfl rfl rfl siz_27 rfl rfl rfl rfl rfl hS ?_
 clear hS; intro w18 hS
 refine WL.nil (N.seq (W.seq (W.block (W.seq (W.block (W.seq (W.block (W.seq (W.block ?_)))))))))
 refine W.seq (W.seq (W.seq (W.region ?_)))
 refine WL.fieldAddr fo_27_0 rfl rfl rfl ?_
 refine WL.load1 (v := .int .i64 b.fin.kind) one_3 rfl rfl rfl (hS.cell 0 rfl rfl) ?_
 refine WL.bin rfl rfl rfl rfl rfl (WL.move rfl rfl rfl ?_)
 cases hg19 : (!decide (b.fin.kind = 2))
 ·
  have hg19p : b.fin.kind = 2 := by simpa using hg19
  refine WL.fieldAddr fo_27_1 rfl rfl rfl ?_
  refine WL.load1 (v := .int .i64 b.fin.a) one_3 rfl rfl rfl (hS.cell 0 rfl rfl) ?_
  refine WL.bin rfl rfl rfl rfl rfl ?_
  refine WL.pick (v := .bool (decide (b.fin.a < 0))) rfl rfl rfl rfl rfl rfl ?_
  refine WL.move rfl rfl rfl ?_
  cases hg20 : (decide (b.fin.a < 0))
  ·
   have hg20p : ¬ (b.fin.a < 0) := by simpa using hg20
   refine WL.fieldAddr fo_27_1 rfl rfl rfl ?_
   refine WL.load1 (v := .int .i64 b.fin.a) one_3 rfl rfl rfl (hS.cell 0 rfl rfl) ?_
   refine WL.move rfl rfl rfl ?_
   refine WL.lenSlice Try.underlying55 rfl rfl rfl ?_
   refine WL.bin rfl rfl rfl rfl rfl ?_
   refine WL.pick (v := .bool (decide (((vals b).length : Int) ≤ b.fin.a))) rfl rfl rfl rfl rfl rfl ?_
   refine WL.move rfl rfl rfl ?_
   cases hg21 : (decide (((vals b).length : Int) ≤ b.fin.a))
   ·
    have hg21p : ¬ (((vals b).length : Int) ≤ b.fin.a) := by simpa using hg21
    refine WL.move rfl rfl rfl ?_
    refine WL.fieldAddr fo_27_1 rfl rfl rfl ?_
    refine WL.load1 (v := .int .i64 b.fin.a) one_3 rfl rfl rfl (hS.cell 0 rfl rfl) ?_
    refine WL.set 63 (v' := .int .i64 (b.fin.a.toNat : Int)) rfl (by congr 1; omega) ?_
    have hj22 : b.fin.a.toNat < (vals b).length := by omega
    obtain ⟨x22, hx22⟩ : ∃ zz, (vals b)[b.fin.a.toNat]? = some zz := ⟨_, List.getElem?_eq_getElem hj22⟩
    obtain ⟨b22, o22, cs22, hE22, hr22, hl22, hc22, hQ22⟩ := hk5 b.fin.a.toNat _ hx22
    obtain ⟨rfl, hku22⟩ := hQ22
    refine WL.indexAddrE (j := b.fin.a.toNat) Try.underlying55 isz_59 rfl rfl rfl rfl hj22 hE22 ?_
    refine WL.fieldAddr fo_59_1 rfl rfl rfl ?_
    refine WL.load1 (v := .bool x22.2) one_4 rfl rfl rfl (hS.roCells hr22 hc22 1 _ rfl) ?_
    refine WL.not rfl rfl rfl ?_
    refine WL.pick (v := .bool (!x22.2)) rfl rfl rfl rfl rfl rfl ?_
    refine WL.assign rfl rfl rfl (WL.nil (N.seq ?_))
    refine W.cond rfl (fun hc23 => ?_) (fun hc23 => ?_)
    ·
     refine W.exit (X.seq (X.seq (X.blk (N.seq (W.seq (W.seq (W.region ?_)))))))
     refine WL.loadN (cs := [.int .i64 b.params, .slice adr b.ins.length capr, .int .i64 b.fin.kind, .int .i64 b.fin.a, .int .i64 b.fin.to, .slice adp b.fin.args.length capp, .int .i64 b.fin.els, .slice adq b.fin.elses.length capq]) agg_29 rfl rfl rfl rfl (hS.cells 2 (m := 8) rfl rfl) ?_
     refine WL.store (cs := [.int .i64 b.params, .slice adr b.ins.length capr, .int .i64 b.fin.kind, .int .i64 b.fin.a, .int .i64 b.fin.to, .slice adp b.fin.args.length capp, .int .i64 b.fin.els, .slice adq b.fin.elses.length capq]) (c' := #[.int .i64 b.params, .slice adr b.ins.length capr, .int .i64 b.fin.kind, .int .i64 b.fin.a, .int .i64 b.fin.to, .slice adp b.fin.args.length capp, .int .i64 b.fin.els, .slice adq b.fin.elses.length capq]) (L' := [(b16, .cells #[.int .i64 b.fin.kind, .int .i64 b.fin.a, .int .i64 b.fin.to, .slice adp b.fin.args.length capp, .int .i64 b.fin.els, .slice adq b.fin.elses.length capq] 27 (0, 0)), (b3, .cells #[.int .i64 b.params, .slice adr b.ins.length capr, .int .i64 b.fin.kind, .int .i64 b.fin.a, .int .i64 b.fin.to, .slice adp b.fin.args.length capp, .int .i64 b.fin.els, .slice adq b.fin.elses.length capq] 29 (0, 0)), (b1, .cells #[.int .i64 b.params, .slice adr b.ins.length capr, .int .i64 b.fin.kind, .int .i64 b.fin.a, .int .i64 b.fin.to, .slice adp b.fin.args.length capp, .int .i64 b.fin.els, .slice adq b.fin.elses.length capq] 29 (0, 0))]) 1 rfl rfl rfl rfl siz_29 rfl rfl rfl rfl rfl hS ?_
     clear hS; intro w24 hS
     refine WL.nil (N.seq ?_)
     refine Fin.retC rfl (v := .agg #[.int .i64 b.params, .slice adr b.ins.length capr, .int .i64 b.fin.kind, .int .i64 b.fin.a, .int .i64 b.fin.to, .slice adp b.fin.args.length capp, .int .i64 b.fin.els, .slice adq b.fin.elses.length capq]) rfl (tyAgg_run agg_29 (cs := [.int .i64 b.params, .slice adr b.ins.length capr, .int .i64 b.fin.kind, .int .i64 b.fin.a, .int .i64 b.fin.to, .slice adp b.fin.args.length capp, .int .i64 b.fin.els, .slice adq b.fin.elses.length capq]) rfl (hS.cells 1 (m := 8) rfl rfl)) ?_
     have hkn : k = b.ins.length := by omega
     subst hkn
     have hfin : Alike (roFrom ro w4 w5) w5 (roFrom ro w w24) w24 := fun x hx => ⟨hx.elim .inl (fun h => .inr ⟨Nat.le_trans hS0.below.size h.1, (hS.snap x hx).1⟩), (hS.snap x hx).2⟩
     obtain ⟨_, _, e, _, hf2, hp2⟩ := hb2.keep hfin
     cases e
     have hrow := hS.rows _ List.mem_cons_self
     rw [mix_full (foldIns_length b)] at hch
     have hro2 : ∀ x, (Value.slice adr b.ins.length capr).ownBlock = some x → roFrom ro w w24 x := fun x hx => .inr ((hS.keys x (by simp only [keysOf, List.mem_append, List.mem_filterMap]; exact .inr ⟨_, List.mem_cons_self, hx⟩)).imp id (·.1))
     refine ⟨_, rfl, ⟨_, _, rfl, row_slv hrow (hch.mono fun _ _ h => h.keep hfin) (foldIns_length b).symm hro2, ?_, hp2⟩, hS.below⟩
     have hnf : ¬ (b.fin.kind = 2 ∧ (katG (vals b) b.fin.a).2 = true) := by
      intro h
      rw [show b.fin.a = ((b.fin.a.toNat : Nat) : Int) by omega, katG_in hj22] at h
      rw [List.getElem?_eq_getElem hj22] at hx22
      rw [Option.some.inj hx22] at h
      have h3 := hc23; simp at h3; rw [h3] at h; exact absurd h.2 (by simp)
     show TermC _ _ _ (foldTerm (vals b) b.fin)
     rw [foldTerm, if_neg hnf]
     exact hf2
    refine W.skip (N.seq (W.seq (W.region (WL.move rfl rfl rfl ?_))))
    refine WL.fieldAddr fo_27_1 rfl rfl rfl ?_
    refine WL.load1 (v := .int .i64 b.fin.a) one_3 rfl rfl rfl (hS.cell 0 rfl rfl) ?_
    refine WL.set 72 (v' := .int .i64 (b.fin.a.toNat : Int)) rfl (by congr 1; omega) ?_
    refine WL.indexAddrE (j := b.fin.a.toNat) Try.underlying55 isz_59 rfl rfl rfl rfl hj22 hE22 ?_
    refine WL.fieldAddr fo_59_0 rfl rfl rfl ?_
    refine WL.load1 (v := .int .u64 x22.1) one_22 rfl rfl rfl (hS.roCells hr22 hc22 0 _ rfl) ?_
    refine WL.bin rfl rfl rfl rfl rfl (WL.assign rfl rfl rfl (WL.nil (N.seq ?_)))
    refine W.cond rfl (fun hc25 => ?_) (fun hc25 => ?_)
    ·
     have hc25p : x22.1 = 0 := by simpa using hc25
     refine W.exit (X.seq (X.blk_ne rfl (X.seq (X.blk (N.seq (W.region ?_))))))
     refine WL.fieldAddr fo_27_4 rfl rfl rfl ?_
     refine WL.load1 (v := .int .i64 b.fin.els) one_3 rfl rfl rfl (hS.cell 0 rfl rfl) ?_
     refine WL.fieldAddr fo_27_5 rfl rfl rfl ?_
     refine WL.load1 (v := .slice adq b.fin.elses.length capq) one_25 rfl rfl rfl (hS.cell 0 rfl rfl) ?_
     refine WL.fieldAddr fo_27_2 rfl rfl rfl ?_
     refine WL.store (cs := [.int .i64 b.fin.els]) (c' := #[.int .i64 b.fin.kind, .int .i64 b.fin.a, .int .i64 b.fin.els, .slice adp b.fin.args.length capp, .int .i64 b.fin.els, .slice adq b.fin.elses.length capq]) (L' := [(b16, .cells #[.int .i64 b.fin.kind, .int .i64 b.fin.a, .int .i64 b.fin.els, .slice adp b.fin.args.length capp, .int .i64 b.fin.els, .slice adq b.fin.elses.length capq] 27 (0, 0)), (b3, .cells #[.int .i64 0, .slice none 0 0, .int .i64 0, .int .i64 0, .int .i64 0, .slice none 0 0, .int .i64 0, .slice none 0 0] 29 (0, 0)), (b1, .cells #[.int .i64 b.params, .slice adr b.ins.length capr, .int .i64 b.fin.kind, .int .i64 b.fin.a, .int .i64 b.fin.to, .slice adp b.fin.args.length capp, .int .i64 b.fin.els, .slice adq b.fin.elses.length capq] 29 (0, 0))]) 0 rfl rfl rfl rfl siz_3 rfl rfl rfl rfl rfl hS ?_
     clear hS; intro w26 hS
     refine WL.fieldAddr fo_27_3 rfl rfl rfl ?_
     refine WL.store (cs := [.slice adq b.fin.elses.length capq]) (c' := #[.int .i64 b.fin.kind, .int .i64 b.fin.a, .int .i64 b.fin.els, .slice adq b.fin.elses.length capq, .int .i64 b.fin.els, .slice adq b.fin.elses.length capq]) (L' := [(b16, .cells #[.int .i64 b.fin.kind, .int .i64 b.fin.a, .int .i64 b.fin.els, .slice adq b.fin.elses.length capq, .int .i64 b.fin.els, .slice adq b.fin.elses.length capq] 27 (0, 0)), (b3, .cells #[.int .i64 0, .slice none 0 0, .int .i64 0, .int .i64 0, .int .i64 0, .slice none 0 0, .int .i64 0, .slice none 0 0] 29 (0, 0)), (b1, .cells #[.int .i64 b.params, .slice adr b.ins.length capr, .int .i64 b.fin.kind, .int .i64 b.fin.a, .int .i64 b.fin.to, .slice adp b.fin.args.length capp, .int .i64 b.fin.els, .slice adq b.fin.elses.length capq] 29 (0, 0))]) 0 rfl rfl rfl rfl siz_25 rfl rfl rfl rfl rfl hS ?_
     clear hS; intro w27 hS
     refine WL.nil (N.blk (N.seq (W.seq (W.region ?_))))
     refine WL.fieldAddr fo_27_2 rfl rfl rfl ?_
     refine WL.load1 (v := .int .i64 b.fin.els) one_3 rfl rfl rfl (hS.cell 0 rfl rfl) ?_
     refine WL.fieldAddr fo_27_3 rfl rfl rfl ?_
     refine WL.load1 (v := .slice adq b.fin.elses.length capq) one_25 rfl rfl rfl (hS.cell 0 rfl rfl) ?_
     refine WL.build (ps := [(0, .int .i64 1), (2, .int .i64 b.fin.els), (3, .slice adq b.fin.elses.length capq)]) (cs := [.int .i64 1, .int .i64 0, .int .i64 b.fin.els, .slice adq b.fin.elses.length capq, .int .i64 0, .slice none 0 0]) rfl rfl rfl (by kernel_rfl) ?_
     refine WL.fieldAddr fo_29_2 rfl rfl rfl ?_
     refine WL.store (cs := [.int .i64 1, .int .i64 0, .int .i64 b.fin.els, .slice adq b.fin.elses.length capq, .int .i64 0, .slice none 0 0]) (c' := #[.int .i64 b.params, .slice adr b.ins.length capr, .int .i64 1, .int .i64 0, .int .i64 b.fin.els, .slice adq b.fin.elses.length capq, .int .i64 0, .slice none 0 0]) (L' := [(b16, .cells #[.int .i64 b.fin.kind, .int .i64 b.fin.a, .int .i64 b.fin.els, .slice adq b.fin.elses.length capq, .int .i64 b.fin.els, .slice adq b.fin.elses.length capq] 27 (0, 0)), (b3, .cells #[.int .i64 0, .slice none 0 0, .int .i64 0, .int .i64 0, .int .i64 0, .slice none 0 0, .int .i64 0, .slice none 0 0] 29 (0, 0)), (b1, .cells #[.int .i64 b.params, .slice adr b.ins.length capr, .int .i64 1, .int .i64 0, .int .i64 b.fin.els, .slice adq b.fin.elses.length capq, .int .i64 0, .slice none 0 0] 29 (0, 0))]) 2 rfl rfl rfl rfl siz_27 rfl rfl rfl rfl rfl hS ?_
     clear hS; intro w28 hS
     refine WL.nil (N.seq (W.exit (X.blk (N.seq (W.seq (W.region ?_))))))
     refine WL.loadN (cs := [.int .i64 b.params, .slice adr b.ins.length capr, .int .i64 1, .int .i64 0, .int .i64 b.fin.els, .slice adq b.fin.elses.length capq, .int .i64 0, .slice none 0 0]) agg_29 rfl rfl rfl rfl (hS.cells 2 (m := 8) rfl rfl) ?_
     refine WL.store (cs := [.int .i64 b.params, .slice adr b.ins.length capr, .int .i64 1, .int .i64 0, .int .i64 b.fin.els, .slice adq b.fin.elses.length capq, .int .i64 0, .slice none 0 0]) (c' := #[.int .i64 b.params, .slice adr b.ins.length capr, .int .i64 1, .int .i64 0, .int .i64 b.fin.els, .slice adq b.fin.elses.length capq, .int .i64 0, .slice none 0 0]) (L' := [(b16, .cells #[.int .i64 b.fin.kind, .int .i64 b.fin.a, .int .i64 b.fin.els, .slice adq b.fin.elses.length capq, .int .i64 b.fin.els, .slice adq b.fin.elses.length capq] 27 (0, 0)), (b3, .cells #[.int .i64 b.params, .slice adr b.ins.length capr, .int .i64 1, .int .i64 0, .int .i64 b.fin.els, .slice adq b.fin.elses.length capq, .int .i64 0, .slice none 0 0] 29 (0, 0)), (b1, .cells #[.int .i64 b.params, .slice adr b.ins.length capr, .int .i64 1, .int .i64 0, .int .i64 b.fin.els, .slice adq b.fin.elses.length capq, .int .i64 0, .slice none 0 0] 29 (0, 0))]) 1 rfl rfl rfl rfl siz_29 rfl rfl rfl rfl rfl hS ?_
     clear hS; intro w29 hS
     refine WL.nil (N.seq ?_)
     refine Fin.retC rfl (v := .agg #[.int .i64 b.params, .slice adr b.ins.length capr, .int .i64 1, .int .i64 0, .int .i64 b.fin.els, .slice adq b.fin.elses.length capq, .int .i64 0, .slice none 0 0]) rfl (tyAgg_run agg_29 (cs := [.int .i64 b.params, .slice adr b.ins.length capr, .int .i64 1, .int .i64 0, .int .i64 b.fin.els, .slice adq b.fin.elses.length capq, .int .i64 0, .slice none 0 0]) rfl (hS.cells 1 (m := 8) rfl rfl)) ?_
     have hkn : k = b.ins.length := by omega
     subst hkn
     have hfin : Alike (roFrom ro w4 w5) w5 (roFrom ro w w29) w29 := fun x hx => ⟨hx.elim .inl (fun h => .inr ⟨Nat.le_trans hS0.below.size h.1, (hS.snap x hx).1⟩), (hS.snap x hx).2⟩
     obtain ⟨_, _, e, _, hf2, hp2⟩ := hb2.keep hfin
     cases e
     have hrow := hS.rows _ List.mem_cons_self
     rw [mix_full (foldIns_length b)] at hch
     have hro2 : ∀ x, (Value.slice adr b.ins.length capr).ownBlock = some x → roFrom ro w w29 x := fun x hx => .inr ((hS.keys x (by simp only [keysOf, List.mem_append, List.mem_filterMap]; exact .inr ⟨_, List.mem_cons_self, hx⟩)).imp id (·.1))
     refine ⟨_, rfl, ⟨_, _, rfl, row_slv hrow (hch.mono fun _ _ h => h.keep hfin) (foldIns_length b).symm hro2, ?_, hp2⟩, hS.below⟩
     have hka : katG (vals b) b.fin.a = x22 := by rw [show b.fin.a = ((b.fin.a.toNat : Nat) : Int) by omega, katG_in hj22]; rw [List.getElem?_eq_getElem hj22] at hx22; exact Option.some.inj hx22
     have hkd : b.fin.kind = 2 := by omega
     show TermC _ _ _ (foldTerm (vals b) b.fin)
     rw [foldTerm, if_pos ⟨hkd, by rw [hka]; simpa using hc23⟩, hka, if_pos hc25p]
     obtain ⟨_, _, e, hq1, hq2, _, _, hq3, hq4⟩ := hf2
     cases e
     exact ⟨_, _, rfl, hq2, intsNil, by unfold inI; simp, by unfold inI; simp, hq4, by unfold inI; simp⟩
    have hc25p : ¬ (x22.1 = 0) := by simpa using hc25
    refine W.skip (N.seq (W.exit (X.blk_ne rfl (X.seq (X.blk_ne rfl (X.seq (X.blk (N.seq (W.seq ?_)))))))))
    refine W.region ?_
    refine WL.fieldAddr fo_27_2 rfl rfl rfl ?_
    refine WL.load1 (v := .int .i64 b.fin.to) one_3 rfl rfl rfl (hS.cell 0 rfl rfl) ?_
    refine WL.fieldAddr fo_27_3 rfl rfl rfl ?_
    refine WL.load1 (v := .slice adp b.fin.args.length capp) one_25 rfl rfl rfl (hS.cell 0 rfl rfl) ?_
    refine WL.build (ps := [(0, .int .i64 1), (2, .int .i64 b.fin.to), (3, .slice adp b.fin.args.length capp)]) (cs := [.int .i64 1, .int .i64 0, .int .i64 b.fin.to, .slice adp b.fin.args.length capp, .int .i64 0, .slice none 0 0]) rfl rfl rfl (by kernel_rfl) ?_
    refine WL.fieldAddr fo_29_2 rfl rfl rfl ?_
    refine WL.store (cs := [.int .i64 1, .int .i64 0, .int .i64 b.fin.to, .slice adp b.fin.args.length capp, .int .i64 0, .slice none 0 0]) (c' := #[.int .i64 b.params, .slice adr b.ins.length capr, .int .i64 1, .int .i64 0, .int .i64 b.fin.to, .slice adp b.fin.args.length capp, .int .i64 0, .slice none 0 0]) (L' := [(b16, .cells #[.int .i64 b.fin.kind, .int .i64 b.fin.a, .int .i64 b.fin.to, .slice adp b.fin.args.length capp, .int .i64 b.fin.els, .slice adq b.fin.elses.length capq] 27 (0, 0)), (b3, .cells #[.int .i64 0, .slice none 0 0, .int .i64 0, .int .i64 0, .int .i64 0, .slice none 0 0, .int .i64 0, .slice none 0 0] 29 (0, 0)), (b1, .cells #[.int .i64 b.params, .slice adr b.ins.length capr, .int .i64 1, .int .i64 0, .int .i64 b.fin.to, .slice adp b.fin.args.length capp, .int .i64 0, .slice none 0 0] 29 (0, 0))]) 2 rfl rfl rfl rfl siz_27 rfl rfl rfl rfl rfl hS ?_
    clear hS; intro w30 hS
    refine WL.nil (N.seq (W.exit (X.blk (N.seq (W.seq (W.region ?_))))))
    refine WL.loadN (cs := [.int .i64 b.params, .slice adr b.ins.length capr, .int .i64 1, .int .i64 0, .int .i64 b.fin.to, .slice adp b.fin.args.length capp, .int .i64 0, .slice none 0 0]) agg_29 rfl rfl rfl rfl (hS.cells 2 (m := 8) rfl rfl) ?_
    refine WL.store (cs := [.int .i64 b.params, .slice adr b.ins.length capr, .int .i64 1, .int .i64 0, .int .i64 b.fin.to, .slice adp b.fin.args.length capp, .int .i64 0, .slice none 0 0]) (c' := #[.int .i64 b.params, .slice adr b.ins.length capr, .int .i64 1, .int .i64 0, .int .i64 b.fin.to, .slice adp b.fin.args.length capp, .int .i64 0, .slice none 0 0]) (L' := [(b16, .cells #[.int .i64 b.fin.kind, .int .i64 b.fin.a, .int .i64 b.fin.to, .slice adp b.fin.args.length capp, .int .i64 b.fin.els, .slice adq b.fin.elses.length capq] 27 (0, 0)), (b3, .cells #[.int .i64 b.params, .slice adr b.ins.length capr, .int .i64 1, .int .i64 0, .int .i64 b.fin.to, .slice adp b.fin.args.length capp, .int .i64 0, .slice none 0 0] 29 (0, 0)), (b1, .cells #[.int .i64 b.params, .slice adr b.ins.length capr, .int .i64 1, .int .i64 0, .int .i64 b.fin.to, .slice adp b.fin.args.length capp, .int .i64 0, .slice none 0 0] 29 (0, 0))]) 1 rfl rfl rfl rfl siz_29 rfl rfl rfl rfl rfl hS ?_
    clear hS; intro w31 hS
    refine WL.nil (N.seq ?_)
    refine Fin.retC rfl (v := .agg #[.int .i64 b.params, .slice adr b.ins.length capr, .int .i64 1, .int .i64 0, .int .i64 b.fin.to, .slice adp b.fin.args.length capp, .int .i64 0, .slice none 0 0]) rfl (tyAgg_run agg_29 (cs := [.int .i64 b.params, .slice adr b.ins.length capr, .int .i64 1, .int .i64 0, .int .i64 b.fin.to, .slice adp b.fin.args.length capp, .int .i64 0, .slice none 0 0]) rfl (hS.cells 1 (m := 8) rfl rfl)) ?_
    have hkn : k = b.ins.length := by omega
    subst hkn
    have hfin : Alike (roFrom ro w4 w5) w5 (roFrom ro w w31) w31 := fun x hx => ⟨hx.elim .inl (fun h => .inr ⟨Nat.le_trans hS0.below.size h.1, (hS.snap x hx).1⟩), (hS.snap x hx).2⟩
    obtain ⟨_, _, e, _, hf2, hp2⟩ := hb2.keep hfin
    cases e
    have hrow := hS.rows _ List.mem_cons_self
    rw [mix_full (foldIns_length b)] at hch
    have hro2 : ∀ x, (Value.slice adr b.ins.length capr).ownBlock = some x → roFrom ro w w31 x := fun x hx => .inr ((hS.keys x (by simp only [keysOf, List.mem_append, List.mem_filterMap]; exact .inr ⟨_, List.mem_cons_self, hx⟩)).imp id (·.1))
    refine ⟨_, rfl, ⟨_, _, rfl, row_slv hrow (hch.mono fun _ _ h => h.keep hfin) (foldIns_length b).symm hro2, ?_, hp2⟩, hS.below⟩
    have hka : katG (vals b) b.fin.a = x22 := by rw [show b.fin.a = ((b.fin.a.toNat : Nat) : Int) by omega, katG_in hj22]; rw [List.getElem?_eq_getElem hj22] at hx22; exact Option.some.inj hx22
    have hkd : b.fin.kind = 2 := by omega
    show TermC _ _ _ (foldTerm (vals b) b.fin)
    rw [foldTerm, if_pos ⟨hkd, by rw [hka]; simpa using hc23⟩, hka, if_neg hc25p]
    obtain ⟨_, _, e, hq1, hq2, _, _, hq3, hq4⟩ := hf2
    cases e
    exact ⟨_, _, rfl, hq1, intsNil, by unfold inI; simp, by unfold inI; simp, hq3, by unfold inI; simp⟩
   have hg21p : ((vals b).length : Int) ≤ b.fin.a := by simpa using hg21
   refine WL.skp rfl rfl (WL.skp rfl rfl (WL.skp rfl rfl (WL.skp rfl rfl (WL.skp rfl rfl (WL.skp rfl rfl (WL.skp rfl rfl (WL.pick (v := .bool true) rfl rfl rfl rfl rfl rfl (WL.assign rfl rfl rfl (WL.nil ?_)))))))))
   refine N.seq (W.condT rfl (W.exit (X.seq (X.seq (X.blk (N.seq (W.seq (W.seq (W.region ?_)))))))))
   refine WL.loadN (cs := [.int .i64 b.params, .slice adr b.ins.length capr, .int .i64 b.fin.kind, .int .i64 b.fin.a, .int .i64 b.fin.to, .slice adp b.fin.args.length capp, .int .i64 b.fin.els, .slice adq b.fin.elses.length capq]) agg_29 rfl rfl rfl rfl (hS.cells 2 (m := 8) rfl rfl) ?_
   refine WL.store (cs := [.int .i64 b.params, .slice adr b.ins.length capr, .int .i64 b.fin.kind, .int .i64 b.fin.a, .int .i64 b.fin.to, .slice adp b.fin.args.length capp, .int .i64 b.fin.els, .slice adq b.fin.elses.length capq]) (c' := #[.int .i64 b.params, .slice adr b.ins.length capr, .int .i64 b.fin.kind, .int .i64 b.fin.a, .int .i64 b.fin.to, .slice adp b.fin.args.length capp, .int .i64 b.fin.els, .slice adq b.fin.elses.length capq]) (L' := [(b16, .cells #[.int .i64 b.fin.kind, .int .i64 b.fin.a, .int .i64 b.fin.to, .slice adp b.fin.args.length capp, .int .i64 b.fin.els, .slice adq b.fin.elses.length capq] 27 (0, 0)), (b3, .cells #[.int .i64 b.params, .slice adr b.ins.length capr, .int .i64 b.fin.kind, .int .i64 b.fin.a, .int .i64 b.fin.to, .slice adp b.fin.args.length capp, .int .i64 b.fin.els, .slice adq b.fin.elses.length capq] 29 (0, 0)), (b1, .cells #[.int .i64 b.params, .slice adr b.ins.length capr, .int .i64 b.fin.kind, .int .i64 b.fin.a, .int .i64 b.fin.to, .slice adp b.fin.args.length capp, .int .i64 b.fin.els, .slice adq b.fin.elses.length capq] 29 (0, 0))]) 1 rfl rfl rfl rfl siz_29 rfl rfl rfl rfl rfl hS ?_
   clear hS; intro w32 hS
   refine WL.nil (N.seq ?_)
   refine Fin.retC rfl (v := .agg #[.int .i64 b.params, .slice adr b.ins.length capr, .int .i64 b.fin.kind, .int .i64 b.fin.a, .int .i64 b.fin.to, .slice adp b.fin.args.length capp, .int .i64 b.fin.els, .slice adq b.fin.elses.length capq]) rfl (tyAgg_run agg_29 (cs := [.int .i64 b.params, .slice adr b.ins.length capr, .int .i64 b.fin.kind, .int .i64 b.fin.a, .int .i64 b.fin.to, .slice adp b.fin.args.length capp, .int .i64 b.fin.els, .slice adq b.fin.elses.length capq]) rfl (hS.cells 1 (m := 8) rfl rfl)) ?_
   have hkn : k = b.ins.length := by omega
   subst hkn
   have hfin : Alike (roFrom ro w4 w5) w5 (roFrom ro w w32) w32 := fun x hx => ⟨hx.elim .inl (fun h => .inr ⟨Nat.le_trans hS0.below.size h.1, (hS.snap x hx).1⟩), (hS.snap x hx).2⟩
   obtain ⟨_, _, e, _, hf2, hp2⟩ := hb2.keep hfin
   cases e
   have hrow := hS.rows _ List.mem_cons_self
   rw [mix_full (foldIns_length b)] at hch
   have hro2 : ∀ x, (Value.slice adr b.ins.length capr).ownBlock = some x → roFrom ro w w32 x := fun x hx => .inr ((hS.keys x (by simp only [keysOf, List.mem_append, List.mem_filterMap]; exact .inr ⟨_, List.mem_cons_self, hx⟩)).imp id (·.1))
   refine ⟨_, rfl, ⟨_, _, rfl, row_slv hrow (hch.mono fun _ _ h => h.keep hfin) (foldIns_length b).symm hro2, ?_, hp2⟩, hS.below⟩
   have hnf : ¬ (b.fin.kind = 2 ∧ (katG (vals b) b.fin.a).2 = true) := by
    intro h; rw [katG_out (by omega)] at h; exact absurd h.2 (by simp)
   show TermC _ _ _ (foldTerm (vals b) b.fin)
   rw [foldTerm, if_neg hnf]
   exact hf2
  have hg20p : b.fin.a < 0 := by simpa using hg20
  refine WL.skp rfl rfl (WL.skp rfl rfl (WL.skp rfl rfl (WL.skp rfl rfl (WL.skp rfl rfl (WL.pick (v := .bool true) rfl rfl rfl rfl rfl rfl (WL.move rfl rfl rfl (WL.skp rfl rfl (WL.skp rfl rfl (WL.skp rfl rfl ?_)))))))))
  refine WL.skp rfl rfl (WL.skp rfl rfl (WL.skp rfl rfl (WL.skp rfl rfl (WL.pick (v := .bool true) rfl rfl rfl rfl rfl rfl (WL.assign rfl rfl rfl (WL.nil (N.seq (W.condT rfl (W.exit ?_)))))))))
  refine X.seq (X.seq (X.blk (N.seq (W.seq (W.seq (W.region ?_))))))
  refine WL.loadN (cs := [.int .i64 b.params, .slice adr b.ins.length capr, .int .i64 b.fin.kind, .int .i64 b.fin.a, .int .i64 b.fin.to, .slice adp b.fin.args.length capp, .int .i64 b.fin.els, .slice adq b.fin.elses.length capq]) agg_29 rfl rfl rfl rfl (hS.cells 2 (m := 8) rfl rfl) ?_
  refine WL.store (cs := [.int .i64 b.params, .slice adr b.ins.length capr, .int .i64 b.fin.kind, .int .i64 b.fin.a, .int .i64 b.fin.to, .slice adp b.fin.args.length capp, .int .i64 b.fin.els, .slice adq b.fin.elses.length capq]) (c' := #[.int .i64 b.params, .slice adr b.ins.length capr, .int .i64 b.fin.kind, .int .i64 b.fin.a, .int .i64 b.fin.to, .slice adp b.fin.args.length capp, .int .i64 b.fin.els, .slice adq b.fin.elses.length capq]) (L' := [(b16, .cells #[.int .i64 b.fin.kind, .int .i64 b.fin.a, .int .i64 b.fin.to, .slice adp b.fin.args.length capp, .int .i64 b.fin.els, .slice adq b.fin.elses.length capq] 27 (0, 0)), (b3, .cells #[.int .i64 b.params, .slice adr b.ins.length capr, .int .i64 b.fin.kind, .int .i64 b.fin.a, .int .i64 b.fin.to, .slice adp b.fin.args.length capp, .int .i64 b.fin.els, .slice adq b.fin.elses.length capq] 29 (0, 0)), (b1, .cells #[.int .i64 b.params, .slice adr b.ins.length capr, .int .i64 b.fin.kind, .int .i64 b.fin.a, .int .i64 b.fin.to, .slice adp b.fin.args.length capp, .int .i64 b.fin.els, .slice adq b.fin.elses.length capq] 29 (0, 0))]) 1 rfl rfl rfl rfl siz_29 rfl rfl rfl rfl rfl hS ?_
  clear hS; intro w33 hS
  refine WL.nil (N.seq ?_)
  refine Fin.retC rfl (v := .agg #[.int .i64 b.params, .slice adr b.ins.length capr, .int .i64 b.fin.kind, .int .i64 b.fin.a, .int .i64 b.fin.to, .slice adp b.fin.args.length capp, .int .i64 b.fin.els, .slice adq b.fin.elses.length capq]) rfl (tyAgg_run agg_29 (cs := [.int .i64 b.params, .slice adr b.ins.length capr, .int .i64 b.fin.kind, .int .i64 b.fin.a, .int .i64 b.fin.to, .slice adp b.fin.args.length capp, .int .i64 b.fin.els, .slice adq b.fin.elses.length capq]) rfl (hS.cells 1 (m := 8) rfl rfl)) ?_
  have hkn : k = b.ins.length := by omega
  subst hkn
  have hfin : Alike (roFrom ro w4 w5) w5 (roFrom ro w w33) w33 := fun x hx => ⟨hx.elim .inl (fun h => .inr ⟨Nat.le_trans hS0.below.size h.1, (hS.snap x hx).1⟩), (hS.snap x hx).2⟩
  obtain ⟨_, _, e, _, hf2, hp2⟩ := hb2.keep hfin
  cases e
  have hrow := hS.rows _ List.mem_cons_self
  rw [mix_full (foldIns_length b)] at hch
  have hro2 : ∀ x, (Value.slice adr b.ins.length capr).ownBlock = some x → roFrom ro w w33 x := fun x hx => .inr ((hS.keys x (by simp only [keysOf, List.mem_append, List.mem_filterMap]; exact .inr ⟨_, List.mem_cons_self, hx⟩)).imp id (·.1))
  refine ⟨_, rfl, ⟨_, _, rfl, row_slv hrow (hch.mono fun _ _ h => h.keep hfin) (foldIns_length b).symm hro2, ?_, hp2⟩, hS.below⟩
  have hnf : ¬ (b.fin.kind = 2 ∧ (katG (vals b) b.fin.a).2 = true) := by
   intro h; rw [katG_out (by omega)] at h; exact absurd h.2 (by simp)
  show TermC _ _ _ (foldTerm (vals b) b.fin)
  rw [foldTerm, if_neg hnf]
  exact hf2
 have hg19p : ¬ (b.fin.kind = 2) := by simpa using hg19
 refine WL.skp rfl rfl (WL.skp rfl rfl (WL.skp rfl rfl (WL.pick (v := .bool true) rfl rfl rfl rfl rfl rfl (WL.move rfl rfl rfl (WL.skp rfl rfl (WL.skp rfl rfl (WL.skp rfl rfl (WL.skp rfl rfl (WL.skp rfl rfl ?_)))))))))
 refine WL.pick (v := .bool true) rfl rfl rfl rfl rfl rfl (WL.move rfl rfl rfl (WL.skp rfl rfl (WL.skp rfl rfl (WL.skp rfl rfl (WL.skp rfl rfl (WL.skp rfl rfl (WL.skp rfl rfl (WL.skp rfl rfl (WL.pick (v := .bool true) rfl rfl rfl rfl rfl rfl ?_)))))))))
 refine WL.assign rfl rfl rfl (WL.nil (N.seq (W.condT rfl (W.exit (X.seq (X.seq (X.blk (N.seq (W.seq ?_)))))))))
 refine W.seq (W.region ?_)
 refine WL.loadN (cs := [.int .i64 b.params, .slice adr b.ins.length capr, .int .i64 b.fin.kind, .int .i64 b.fin.a, .int .i64 b.fin.to, .slice adp b.fin.args.length capp, .int .i64 b.fin.els, .slice adq b.fin.elses.length capq]) agg_29 rfl rfl rfl rfl (hS.cells 2 (m := 8) rfl rfl) ?_
 refine WL.store (cs := [.int .i64 b.params, .slice adr b.ins.length capr, .int .i64 b.fin.kind, .int .i64 b.fin.a, .int .i64 b.fin.to, .slice adp b.fin.args.length capp, .int .i64 b.fin.els, .slice adq b.fin.elses.length capq]) (c' := #[.int .i64 b.params, .slice adr b.ins.length capr, .int .i64 b.fin.kind, .int .i64 b.fin.a, .int .i64 b.fin.to, .slice adp b.fin.args.length capp, .int .i64 b.fin.els, .slice adq b.fin.elses.length capq]) (L' := [(b16, .cells #[.int .i64 b.fin.kind, .int .i64 b.fin.a, .int .i64 b.fin.to, .slice adp b.fin.args.length capp, .int .i64 b.fin.els, .slice adq b.fin.elses.length capq] 27 (0, 0)), (b3, .cells #[.int .i64 b.params, .slice adr b.ins.length capr, .int .i64 b.fin.kind, .int .i64 b.fin.a, .int .i64 b.fin.to, .slice adp b.fin.args.length capp, .int .i64 b.fin.els, .slice adq b.fin.elses.length capq] 29 (0, 0)), (b1, .cells #[.int .i64 b.params, .slice adr b.ins.length capr, .int .i64 b.fin.kind, .int .i64 b.fin.a, .int .i64 b.fin.to, .slice adp b.fin.args.length capp, .int .i64 b.fin.els, .slice adq b.fin.elses.length capq] 29 (0, 0))]) 1 rfl rfl rfl rfl siz_29 rfl rfl rfl rfl rfl hS ?_
 clear hS; intro w34 hS
 refine WL.nil (N.seq ?_)
 refine Fin.retC rfl (v := .agg #[.int .i64 b.params, .slice adr b.ins.length capr, .int .i64 b.fin.kind, .int .i64 b.fin.a, .int .i64 b.fin.to, .slice adp b.fin.args.length capp, .int .i64 b.fin.els, .slice adq b.fin.elses.length capq]) rfl (tyAgg_run agg_29 (cs := [.int .i64 b.params, .slice adr b.ins.length capr, .int .i64 b.fin.kind, .int .i64 b.fin.a, .int .i64 b.fin.to, .slice adp b.fin.args.length capp, .int .i64 b.fin.els, .slice adq b.fin.elses.length capq]) rfl (hS.cells 1 (m := 8) rfl rfl)) ?_
 have hkn : k = b.ins.length := by omega
 subst hkn
 have hfin : Alike (roFrom ro w4 w5) w5 (roFrom ro w w34) w34 := fun x hx => ⟨hx.elim .inl (fun h => .inr ⟨Nat.le_trans hS0.below.size h.1, (hS.snap x hx).1⟩), (hS.snap x hx).2⟩
 obtain ⟨_, _, e, _, hf2, hp2⟩ := hb2.keep hfin
 cases e
 have hrow := hS.rows _ List.mem_cons_self
 rw [mix_full (foldIns_length b)] at hch
 have hro2 : ∀ x, (Value.slice adr b.ins.length capr).ownBlock = some x → roFrom ro w w34 x := fun x hx => .inr ((hS.keys x (by simp only [keysOf, List.mem_append, List.mem_filterMap]; exact .inr ⟨_, List.mem_cons_self, hx⟩)).imp id (·.1))
 refine ⟨_, rfl, ⟨_, _, rfl, row_slv hrow (hch.mono fun _ _ h => h.keep hfin) (foldIns_length b).symm hro2, ?_, hp2⟩, hS.below⟩
 have hnf : ¬ (b.fin.kind = 2 ∧ (katG (vals b) b.fin.a).2 = true) := by
  intro h; exact absurd h.1 (by first | exact hg19p | simpa using hg19p)
 show TermC _ _ _ (foldTerm (vals b) b.fin)
 rw [foldTerm, if_neg hnf]
 exact hf2

theorem pow64 {j : Nat} (h : j ≤ 63) : 0 < (2 : Int) ^ j ∧ (2 : Int) ^ j ≤ 9223372036854775808 := by
  refine ⟨Int.pow_pos (by decide), ?_⟩
  have h1 : (2 : Nat) ^ j ≤ 2 ^ 63 := Nat.pow_le_pow_right (by decide) h
  have h2 : ((2 ^ j : Nat) : Int) ≤ ((2 ^ 63 : Nat) : Int) := Int.ofNat_le.2 h1
  rw [Int.natCast_pow] at h2
  simpa using h2
theorem wrapU_id {x : Int} (h : 0 ≤ x ∧ x ≤ 18446744073709551615) : IntKind.u64.wrap x = x := by
  unfold IntKind.wrap
  simp only [IntKind.signed, IntKind.bits]
  have : x % 2 ^ 64 = x := Int.emod_eq_of_lt h.1 (by have := h.2; simp; omega)
  simpa using this

theorem power_ret (m : Nat) (hm : m ≤ 63) {w : World} {ro : Nat → Prop} (hro : ∀ b, ro b → b < w.heap.size) : Ret Try.prog 21 #[.int .u64 (m : Int)] w fun v w' => v = .int .u64 ((2 : Int) ^ m) ∧ Below w.heap.size w w' := by
 refine Ret.enter (P := Try.prog) (n := 12) (args := [.int .u64 (m : Int)]) (σ := [(0, .int .u64 (m : Int))]) Try.func21 rfl rfl rfl rfl ?_
 have hS := St.start (ro := ro) hro
 refine W.seq (W.region (WL.assign rfl rfl rfl (WL.nil (N.seq (W.seq (W.region (WL.assign rfl rfl rfl (WL.nil (N.seq ?_)))))))))
 refine W.seq (W.block ?_)
 refine W.loop (α := Nat) (fun (j : Nat) => [(0, .int .u64 ((m - j : Nat) : Int)), (2, .int .u64 0), (3, .int .u64 ((2 : Int) ^ j))]) (fun (j : Nat) u => St w w u ro [] [] ∧ j ≤ m) (fun (j : Nat) => m - j) 0 ⟨rfl, rfl, rfl, trivial⟩ ⟨hS, Nat.zero_le _⟩ ?_
 clear hS
 rintro j w1 ⟨hS, hj⟩
 refine W.seq (W.seq (W.region (WL.move rfl rfl rfl (WL.bin rfl rfl rfl rfl rfl (WL.nil (N.seq ?_))))))
 refine W.cond rfl (fun hc2 => ?_) (fun hc2 => ?_)
 ·
  have hc2p : 0 < ((m - j : Nat) : Int) := by simpa using hc2
  refine W.skip (N.seq (W.block (W.seq (W.region (WL.move rfl rfl rfl (WL.move rfl rfl rfl (WL.bin rfl rfl rfl rfl rfl ?_)))))))
  refine WL.set 8 (v' := .int .u64 ((2 : Int) ^ (j + 1))) rfl (by have := pow64 (show j + 1 ≤ 63 by omega); rw [Int.pow_succ] at this ⊢; generalize (2 : Int) ^ j = z at this ⊢; rw [wrapU_id (by omega)]; congr 1; omega) ?_
  refine WL.assign rfl rfl rfl (WL.nil (N.seq (W.region (WL.move rfl rfl rfl (WL.bin rfl rfl rfl rfl rfl ?_)))))
  refine WL.set 10 (v' := .int .u64 ((m - (j + 1) : Nat) : Int)) rfl (by rw [wrapU_id (by omega)]; congr 1; omega) ?_
  refine WL.assign rfl rfl rfl (WL.nil (N.blk ?_))
  exact N.loop (j + 1) ⟨rfl, rfl, rfl, trivial⟩ ⟨hS, by omega⟩ (by first | omega | (simp only; omega))
 have hc2p : ¬ (0 < ((m - j : Nat) : Int)) := by simpa using hc2
 refine W.exit (X.seq (X.loop (X.blk (N.seq (W.seq (W.region (WL.move rfl rfl rfl (WL.assign rfl rfl rfl (WL.nil ?_)))))))))
 refine N.seq ?_
 refine Fin.ret1 rfl (v := .int .u64 ((2 : Int) ^ j)) rfl ?_
 have e : m = j := by omega
 subst e
 exact ⟨rfl, hS.below⟩

theorem wrap_sub (a b : Int) : IntKind.u64.wrap (a - b) = IntKind.u64.wrap (a + IntKind.u64.wrap (0 - b)) := by
  unfold IntKind.wrap
  simp only [IntKind.signed, IntKind.bits, Bool.false_and, Bool.false_eq_true, if_false]
  rw [Int.add_emod, Int.emod_emod, ← Int.add_emod]
  congr 1
  omega

theorem rreckon_ret (op a b : Int) (ha : inU a) (hb : inU b) {w : World} {ro : Nat → Prop} (hro : ∀ b, ro b → b < w.heap.size) : Ret Try.prog 10 #[.int .i64 op, .int .u64 a, .int .u64 b] w fun v w' => v = .int .u64 (reckI op a b) ∧ Below w.heap.size w w' := by
 refine Ret.enter (P := Try.prog) (n := 67) (args := [.int .i64 op, .int .u64 a, .int .u64 b]) (σ := [(0, .int .i64 op), (1, .int .u64 a), (2, .int .u64 b)]) Try.func10 rfl rfl rfl rfl ?_
 have hS := St.start (ro := ro) hro
 refine W.seq (W.region (WL.assign rfl rfl rfl (WL.nil (N.seq (W.seq (W.seq (W.region (WL.move rfl rfl rfl (WL.bin rfl rfl rfl rfl rfl ?_)))))))))
 refine WL.nil (N.seq ?_)
 refine W.cond rfl (fun hc1 => ?_) (fun hc1 => ?_)
 ·
  have hc1p : op = 2 := by simpa using hc1
  refine W.seq (W.region (WL.move rfl rfl rfl (WL.move rfl rfl rfl (WL.bin rfl rfl rfl rfl rfl (WL.assign rfl rfl rfl (WL.nil (N.seq ?_)))))))
  refine Fin.ret1 rfl (v := .int .u64 (IntKind.u64.wrap (a + b))) rfl ?_
  refine ⟨?_, hS.below⟩
  congr 1
  obtain rfl := hc1p
  rfl
 have hc1p : ¬ (op = 2) := by simpa using hc1
 refine W.skip (N.seq (W.seq (W.seq (W.region (WL.move rfl rfl rfl (WL.bin rfl rfl rfl rfl rfl (WL.nil (N.seq ?_))))))))
 refine W.cond rfl (fun hc2 => ?_) (fun hc2 => ?_)
 ·
  have hc2p : op = 3 := by simpa using hc2
  refine W.seq (W.region (WL.move rfl rfl rfl (WL.move rfl rfl rfl (WL.bin rfl rfl rfl rfl rfl (WL.assign rfl rfl rfl (WL.nil (N.seq ?_)))))))
  refine Fin.ret1 rfl (v := .int .u64 (IntKind.u64.wrap (a - b))) rfl ?_
  refine ⟨?_, hS.below⟩
  congr 1
  obtain rfl := hc2p
  rw [show reckI 3 a b = IntKind.u64.wrap (a + IntKind.u64.wrap (0 - b)) from rfl]
  exact wrap_sub a b
 have hc2p : ¬ (op = 3) := by simpa using hc2
 refine W.skip (N.seq (W.seq (W.seq (W.region (WL.move rfl rfl rfl (WL.bin rfl rfl rfl rfl rfl (WL.nil (N.seq ?_))))))))
 refine W.cond rfl (fun hc3 => ?_) (fun hc3 => ?_)
 ·
  have hc3p : op = 4 := by simpa using hc3
  refine W.seq (W.region (WL.move rfl rfl rfl (WL.move rfl rfl rfl (WL.bin rfl rfl rfl rfl rfl (WL.assign rfl rfl rfl (WL.nil (N.seq ?_)))))))
  refine Fin.ret1 rfl (v := .int .u64 (IntKind.u64.wrap (a * b))) rfl ?_
  refine ⟨?_, hS.below⟩
  congr 1
  obtain rfl := hc3p
  rfl
 have hc3p : ¬ (op = 4) := by simpa using hc3
 refine W.skip (N.seq (W.seq (W.seq (W.region (WL.move rfl rfl rfl (WL.bin rfl rfl rfl rfl rfl (WL.nil (N.seq ?_))))))))
 refine W.cond rfl (fun hc4 => ?_) (fun hc4 => ?_)
 ·
  have hc4p : op = 5 := by simpa using hc4
  refine W.seq (W.region (WL.move rfl rfl rfl (WL.move rfl rfl rfl (WL.bin rfl rfl rfl rfl rfl (WL.assign rfl rfl rfl (WL.nil (N.seq ?_)))))))
  refine Fin.ret1 rfl (v := .int .u64 (IntKind.u64.wrap ((BitVec.ofInt IntKind.u64.bits a &&& BitVec.ofInt IntKind.u64.bits b).toNat : Int))) rfl ?_
  refine ⟨?_, hS.below⟩
  congr 1
  obtain rfl := hc4p
  rfl
 have hc4p : ¬ (op = 5) := by simpa using hc4
 refine W.skip (N.seq (W.seq (W.seq (W.region (WL.move rfl rfl rfl (WL.bin rfl rfl rfl rfl rfl (WL.nil (N.seq ?_))))))))
 refine W.cond rfl (fun hc5 => ?_) (fun hc5 => ?_)
 ·
  have hc5p : op = 6 := by simpa using hc5
  refine W.seq (W.region (WL.move rfl rfl rfl (WL.move rfl rfl rfl (WL.bin rfl rfl rfl rfl rfl (WL.assign rfl rfl rfl (WL.nil (N.seq ?_)))))))
  refine Fin.ret1 rfl (v := .int .u64 (IntKind.u64.wrap ((BitVec.ofInt IntKind.u64.bits a ||| BitVec.ofInt IntKind.u64.bits b).toNat : Int))) rfl ?_
  refine ⟨?_, hS.below⟩
  congr 1
  obtain rfl := hc5p
  rfl
 have hc5p : ¬ (op = 6) := by simpa using hc5
 refine W.skip (N.seq (W.seq (W.seq (W.region (WL.move rfl rfl rfl (WL.bin rfl rfl rfl rfl rfl (WL.nil (N.seq ?_))))))))
 refine W.cond rfl (fun hc6 => ?_) (fun hc6 => ?_)
 ·
  have hc6p : op = 7 := by simpa using hc6
  refine W.seq (W.region (WL.move rfl rfl rfl (WL.move rfl rfl rfl (WL.bin rfl rfl rfl rfl rfl (WL.assign rfl rfl rfl (WL.nil (N.seq ?_)))))))
  refine Fin.ret1 rfl (v := .int .u64 (IntKind.u64.wrap ((BitVec.ofInt IntKind.u64.bits a ^^^ BitVec.ofInt IntKind.u64.bits b).toNat : Int))) rfl ?_
  refine ⟨?_, hS.below⟩
  congr 1
  obtain rfl := hc6p
  rfl
 have hc6p : ¬ (op = 7) := by simpa using hc6
 refine W.skip (N.seq (W.seq (W.seq (W.region (WL.move rfl rfl rfl (WL.bin rfl rfl rfl rfl rfl (WL.nil (N.seq ?_))))))))
 refine W.cond rfl (fun hc7 => ?_) (fun hc7 => ?_)
 ·
  have hc7p : op = 8 := by simpa using hc7
  refine W.seq (W.region (WL.move rfl rfl rfl (WL.move rfl rfl rfl ?_)))
  refine WL.remC rfl rfl rfl rfl (by decide) ?_
  refine WL.set 41 (v' := .int .u64 (((b % 64).toNat : Nat) : Int)) rfl (by rw [Int.tmod_eq_emod_of_nonneg hb.1]; congr 1; omega) ?_
  refine WL.callF (vs := [.int .u64 (((b % 64).toNat : Nat) : Int)]) Try.func21 (by kernel_rfl) rfl rfl rfl (power_ret (b % 64).toNat (by omega) (ro := ro) (fun b hb => (hS.snap b hb).1)) ?_
  rintro v w8 ⟨rfl, hbl⟩
  replace hS := hS.grow hbl
  refine WL.bin rfl rfl rfl rfl rfl (WL.assign rfl rfl rfl (WL.nil (N.seq ?_)))
  refine Fin.ret1 rfl (v := .int .u64 (IntKind.u64.wrap (a * ((2 : Int) ^ (b % 64).toNat)))) rfl ?_
  refine ⟨?_, hS.below⟩
  congr 1
  obtain rfl := hc7p
  rw [show reckI 8 a b = IntKind.u64.wrap (a * 2 ^ min (b.tmod 64).toNat IntKind.u64.bits) from rfl, Int.tmod_eq_emod_of_nonneg hb.1, Nat.min_eq_left (by simp only [IntKind.bits]; omega)]
 have hc7p : ¬ (op = 8) := by simpa using hc7
 refine W.skip (N.seq (W.seq (W.seq (W.region (WL.move rfl rfl rfl (WL.bin rfl rfl rfl rfl rfl (WL.nil (N.seq ?_))))))))
 refine W.cond rfl (fun hc9 => ?_) (fun hc9 => ?_)
 ·
  have hc9p : op = 9 := by simpa using hc9
  refine W.seq (W.region (WL.move rfl rfl rfl (WL.move rfl rfl rfl ?_)))
  refine WL.remC rfl rfl rfl rfl (by decide) ?_
  refine WL.set 48 (v' := .int .u64 (((b % 64).toNat : Nat) : Int)) rfl (by rw [Int.tmod_eq_emod_of_nonneg hb.1]; congr 1; omega) ?_
  refine WL.callF (vs := [.int .u64 (((b % 64).toNat : Nat) : Int)]) Try.func21 (by kernel_rfl) rfl rfl rfl (power_ret (b % 64).toNat (by omega) (ro := ro) (fun b hb => (hS.snap b hb).1)) ?_
  rintro v w10 ⟨rfl, hbl⟩
  replace hS := hS.grow hbl
  refine WL.quoC rfl rfl rfl rfl (by have := pow64 (show (b % 64).toNat ≤ 63 by omega); omega) ?_
  refine WL.assign rfl rfl rfl (WL.nil (N.seq ?_))
  refine Fin.ret1 rfl (v := .int .u64 (IntKind.u64.wrap (a.tdiv ((2 : Int) ^ (b % 64).toNat)))) rfl ?_
  refine ⟨?_, hS.below⟩
  congr 1
  obtain rfl := hc9p
  rw [show reckI 9 a b = a.fdiv (2 ^ min (b.tmod 64).toNat IntKind.u64.bits) from rfl, Int.tmod_eq_emod_of_nonneg hb.1, Nat.min_eq_left (by simp only [IntKind.bits]; omega)]
  have hp := pow64 (show (b % 64).toNat ≤ 63 by omega)
  rw [Int.tdiv_eq_ediv_of_nonneg ha.1, Int.fdiv_eq_ediv_of_nonneg _ (by omega)]
  have h1 := Int.ediv_nonneg ha.1 (Int.le_of_lt hp.1)
  have h2 := Int.ediv_le_self (2 ^ (b % 64).toNat : Int) ha.1
  exact wrapU_id ⟨h1, Int.le_trans h2 ha.2⟩
 have hc9p : ¬ (op = 9) := by simpa using hc9
 refine W.skip (N.seq (W.seq (W.seq (W.region (WL.move rfl rfl rfl (WL.bin rfl rfl rfl rfl rfl (WL.move rfl rfl rfl ?_)))))))
 cases hg11 : (decide (op = 10))
 ·
  have hg11p : ¬ (op = 10) := by simpa using hg11
  refine WL.skp rfl rfl (WL.skp rfl rfl (WL.skp rfl rfl (WL.pick (v := .bool false) rfl rfl rfl rfl rfl rfl (WL.move rfl rfl rfl (WL.move rfl rfl rfl (WL.bin rfl rfl rfl rfl rfl (WL.move rfl rfl rfl ?_)))))))
  cases hg12 : (decide (op = 11))
  ·
   have hg12p : ¬ (op = 11) := by simpa using hg12
   refine WL.skp rfl rfl (WL.skp rfl rfl (WL.skp rfl rfl (WL.pick (v := .bool false) rfl rfl rfl rfl rfl rfl (WL.pick (v := .bool false) rfl rfl rfl rfl rfl rfl (WL.nil (N.seq (W.condF rfl (W.skip (N.seq ?_)))))))))
   refine W.seq (W.region (WL.assign rfl rfl rfl (WL.nil (N.seq ?_))))
   refine Fin.ret1 rfl (v := .int .u64 0) rfl ?_
   refine ⟨?_, hS.below⟩
   congr 1
   simp_all [reckI]
  have hg12p : op = 11 := by simpa using hg12
  refine WL.move rfl rfl rfl (WL.move rfl rfl rfl (WL.bin rfl rfl rfl rfl rfl ?_))
  refine WL.pick (v := .bool (decide (a = b))) rfl rfl rfl rfl rfl rfl ?_
  refine WL.pick (v := .bool (decide (a = b))) rfl rfl rfl rfl rfl rfl ?_
  refine WL.nil (N.seq ?_)
  refine W.cond rfl (fun hc13 => ?_) (fun hc13 => ?_)
  ·
   have hc13p : a = b := by simpa using hc13
   refine W.seq (W.region (WL.assign rfl rfl rfl (WL.nil (N.seq ?_))))
   refine Fin.ret1 rfl (v := .int .u64 1) rfl ?_
   refine ⟨?_, hS.below⟩
   congr 1
   simp_all [reckI]
  have hc13p : ¬ (a = b) := by simpa using hc13
  refine W.skip (N.seq (W.seq (W.region (WL.assign rfl rfl rfl (WL.nil (N.seq ?_))))))
  refine Fin.ret1 rfl (v := .int .u64 0) rfl ?_
  refine ⟨?_, hS.below⟩
  congr 1
  simp_all [reckI]
 have hg11p : op = 10 := by simpa using hg11
 refine WL.move rfl rfl rfl (WL.move rfl rfl rfl (WL.bin rfl rfl rfl rfl rfl ?_))
 refine WL.pick (v := .bool (decide (a < b))) rfl rfl rfl rfl rfl rfl ?_
 refine WL.move rfl rfl rfl ?_
 cases hg14 : (decide (a < b))
 ·
  have hg14p : ¬ (a < b) := by simpa using hg14
  refine WL.move rfl rfl rfl (WL.bin rfl rfl rfl rfl rfl (WL.move rfl rfl rfl ?_))
  cases hg15 : (decide (op = 11))
  ·
   have hg15p : ¬ (op = 11) := by simpa using hg15
   refine WL.skp rfl rfl (WL.skp rfl rfl (WL.skp rfl rfl (WL.pick (v := .bool false) rfl rfl rfl rfl rfl rfl (WL.pick (v := .bool false) rfl rfl rfl rfl rfl rfl (WL.nil (N.seq (W.condF rfl (W.skip (N.seq ?_)))))))))
   refine W.seq (W.region (WL.assign rfl rfl rfl (WL.nil (N.seq ?_))))
   refine Fin.ret1 rfl (v := .int .u64 0) rfl ?_
   refine ⟨?_, hS.below⟩
   congr 1
   simp_all [reckI]
  have hg15p : op = 11 := by simpa using hg15
  refine WL.move rfl rfl rfl (WL.move rfl rfl rfl (WL.bin rfl rfl rfl rfl rfl ?_))
  refine WL.pick (v := .bool (decide (a = b))) rfl rfl rfl rfl rfl rfl ?_
  refine WL.pick (v := .bool (decide (a = b))) rfl rfl rfl rfl rfl rfl ?_
  refine WL.nil (N.seq ?_)
  refine W.cond rfl (fun hc16 => ?_) (fun hc16 => ?_)
  ·
   have hc16p : a = b := by simpa using hc16
   refine W.seq (W.region (WL.assign rfl rfl rfl (WL.nil (N.seq ?_))))
   refine Fin.ret1 rfl (v := .int .u64 1) rfl ?_
   refine ⟨?_, hS.below⟩
   congr 1
   simp_all [reckI]
  have hc16p : ¬ (a = b) := by simpa using hc16
  refine W.skip (N.seq (W.seq (W.region (WL.assign rfl rfl rfl (WL.nil (N.seq ?_))))))
  refine Fin.ret1 rfl (v := .int .u64 0) rfl ?_
  refine ⟨?_, hS.below⟩
  congr 1
  simp_all [reckI]
 have hg14p : a < b := by simpa using hg14
 refine WL.skp rfl rfl (WL.skp rfl rfl (WL.skp rfl rfl (WL.skp rfl rfl (WL.skp rfl rfl (WL.skp rfl rfl (WL.skp rfl rfl (WL.pick (v := .bool true) rfl rfl rfl rfl rfl rfl (WL.nil (N.seq ?_)))))))))
 refine W.condT rfl (W.seq (W.region (WL.assign rfl rfl rfl (WL.nil (N.seq ?_)))))
 refine Fin.ret1 rfl (v := .int .u64 1) rfl ?_
 refine ⟨?_, hS.below⟩
 congr 1
 simp_all [reckI]

end Go.Proofs.Ytokkiaokpfediaa
