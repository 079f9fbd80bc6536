/-
  Contracts of layer 13 (trim). No condition beyond those that each theorem states.
-/
import Derived.Test.YtdlcmhkfglckfaaU3
namespace Go.Proofs.Ytdlcmhkfglckfaa
open Go.RowKit
theorem byt_36 : (Try.prog.info? 36).map (·.bytes) = some 72 := by kernel_rfl
theorem siz_28 : tySize Try.prog 28 1 = true := by kernel_rfl
theorem siz_3 : tySize Try.prog 3 1 = true := by kernel_rfl
def idG (n : Nat) : Int → Option Int := fun x => if 0 ≤ x ∧ x < n then some x else none
theorem idG_zero : idG 0 = fun _ => none := by funext x; unfold idG; rw [if_neg (by omega)]
theorem idG_succ (n : Nat) : updG (idG n) (n : Int) (n : Int) = idG (n + 1) := by
  funext x
  simp only [updG, idG]
  by_cases h : x = (n : Int)
  · rw [if_pos h, if_pos (by omega), h]
  · rw [if_neg h]
    by_cases h2 : 0 ≤ x ∧ x < (n : Int)
    · rw [if_pos h2, if_pos (by omega)]
    · rw [if_neg h2, if_neg (by omega)]
def inst13 (g : Int → Option Int) (x : DInst) : DInst :=
  ⟨x.op, if x.op = 14 then 0 else if 0 < (uses5 x).length then (g x.a).getD 0 else x.a,
    if x.op = 14 ∨ x.op = 13 ∨ x.op = 16 then 0 else if 0 < (uses5 x).length then (g x.b).getD 0 else x.b, x.k, x.name,
    if 0 < (uses5 x).length then anew13 g x.args else x.args⟩
def insStep13 (p : Nat) (used : List Bool) (s : (Int → Option Int) × List DInst) (i : Nat) (x : DInst) : (Int → Option Int) × List DInst :=
  if does13 x = true ∨ used[p + i]? = some true then
    (updG s.1 ((p + i : Nat) : Int) ((p + s.2.length : Nat) : Int), s.2 ++ [inst13 (updG s.1 ((p + i : Nat) : Int) ((p + s.2.length : Nat) : Int)) x])
  else s
def go13 (p : Nat) (used : List Bool) : Nat → (Int → Option Int) × List DInst → List DInst → (Int → Option Int) × List DInst
  | _, s, [] => s
  | i, s, x :: r => go13 p used (i + 1) (insStep13 p used s i x) r
theorem go13_snoc (p : Nat) (used : List Bool) : ∀ (l : List DInst) (i : Nat) (s : (Int → Option Int) × List DInst) (x : DInst), go13 p used i s (l ++ [x]) = insStep13 p used (go13 p used i s l) (i + l.length) x
  | [], i, s, x => rfl
  | y :: r, i, s, x => by
    rw [List.cons_append, go13, go13_snoc p used r (i + 1) _ x, go13, List.length_cons]
    congr 1; omega
/-- What stands behind the first k instructions. -/
def at13 (b : DBlock) (k : Nat) : (Int → Option Int) × List DInst := go13 b.params.toNat (used13 b) 0 (idG b.params.toNat, []) (b.ins.take k)
theorem at13_next {b : DBlock} {k : Nat} {x : DInst} (h : b.ins[k]? = some x) : at13 b (k + 1) = insStep13 b.params.toNat (used13 b) (at13 b k) k x := by
  unfold at13
  rw [take_next h, go13_snoc]
  have hk : k < b.ins.length := (List.getElem?_eq_some_iff.1 h).1
  rw [List.length_take, Nat.min_eq_left (by omega), Nat.zero_add]
theorem at13_no {b : DBlock} {k : Nat} {x : DInst} (h : b.ins[k]? = some x) (h1 : does13 x = false) (h2 : (used13 b)[b.params.toNat + k]? = some false) : at13 b (k + 1) = at13 b k := by
  rw [at13_next h]; unfold insStep13; rw [if_neg (by rw [h1, h2]; simp)]
theorem at13_yes {b : DBlock} {k : Nat} {x : DInst} (h : b.ins[k]? = some x) (h1 : does13 x = true ∨ (used13 b)[b.params.toNat + k]? = some true) :
    at13 b (k + 1) = (updG (at13 b k).1 ((b.params.toNat + k : Nat) : Int) ((b.params.toNat + (at13 b k).2.length : Nat) : Int), (at13 b k).2 ++ [inst13 (updG (at13 b k).1 ((b.params.toNat + k : Nat) : Int) ((b.params.toNat + (at13 b k).2.length : Nat) : Int)) x]) := by
  rw [at13_next h]; unfold insStep13; rw [if_pos h1]
theorem at13_len (b : DBlock) (k : Nat) (hk : k ≤ b.ins.length) : (at13 b k).2.length ≤ k := by
  induction k with
  | zero => simp [at13, go13]
  | succ k ih =>
    have h1 := ih (by omega)
    rw [at13_next (List.getElem?_eq_getElem (by omega))]
    unfold insStep13
    split
    · simp only [List.length_append, List.length_cons, List.length_nil]; omega
    · omega
theorem at13_small (b : DBlock) (hp : b.params ≤ 1000) (k : Nat) (hk : k ≤ b.ins.length) (hn : b.ins.length ≤ 1000) : ∀ x v, (at13 b k).1 x = some v → 0 ≤ v ∧ v ≤ 2000 := by
  induction k with
  | zero =>
    intro x v h
    simp only [at13, List.take_zero, go13, idG] at h
    split at h
    · cases h; omega
    · cases h
  | succ k ih =>
    have h1 := ih (by omega)
    have h2 := at13_len b k (by omega)
    rw [at13_next (List.getElem?_eq_getElem (by omega))]
    unfold insStep13
    split
    · intro x v h
      simp only [updG] at h
      split at h
      · cases h; omega
      · exact h1 x v h
    · exact h1
theorem small_inI {g : Int → Option Int} (h : ∀ x v, g x = some v → 0 ≤ v ∧ v ≤ 2000) : ∀ x, inI ((g x).getD 0) := fun x => by
  cases e : g x with
  | none => unfold inI; simp
  | some v => have := h x v e; unfold inI; simp only [Option.getD_some]; omega
def term13 (g : Int → Option Int) (t : DTerm) : DTerm := ⟨t.kind, if t.kind = 1 then t.a else (g t.a).getD 0, t.to, anew13 g t.args, t.els, anew13 g t.elses⟩
def block13 (b : DBlock) : DBlock := ⟨b.params, (at13 b b.ins.length).2, term13 (at13 b b.ins.length).1 b.fin⟩
theorem i13_a14 {g : Int → Option Int} {x : DInst} (h : x.op = 14) : 0 = (inst13 g x).a := by simp only [inst13]; rw [if_pos h]
theorem i13_aU {g : Int → Option Int} {x : DInst} (h : ¬ x.op = 14) (hu : 0 < (uses5 x).length) : (g x.a).getD 0 = (inst13 g x).a := by simp only [inst13]; rw [if_neg h, if_pos hu]
theorem i13_aN {g : Int → Option Int} {x : DInst} (h : ¬ x.op = 14) (hu : ¬ 0 < (uses5 x).length) : x.a = (inst13 g x).a := by simp only [inst13]; rw [if_neg h, if_neg hu]
theorem i13_b0 {g : Int → Option Int} {x : DInst} (h : x.op = 14 ∨ x.op = 13 ∨ x.op = 16) : 0 = (inst13 g x).b := by simp only [inst13]; rw [if_pos h]
theorem i13_bU {g : Int → Option Int} {x : DInst} (h : ¬ (x.op = 14 ∨ x.op = 13 ∨ x.op = 16)) (hu : 0 < (uses5 x).length) : (g x.b).getD 0 = (inst13 g x).b := by simp only [inst13]; rw [if_neg h, if_pos hu]
theorem i13_bN {g : Int → Option Int} {x : DInst} (h : ¬ (x.op = 14 ∨ x.op = 13 ∨ x.op = 16)) (hu : ¬ 0 < (uses5 x).length) : x.b = (inst13 g x).b := by simp only [inst13]; rw [if_neg h, if_neg hu]
theorem instC13 {cx : List Value} {ro : Nat → Prop} {w : World} {g : Int → Option Int} {x : DInst} {A B : Int} {va : Value} (hx : InstC ro w cx x) (hgi : ∀ x, inI ((g x).getD 0)) (hA : A = (inst13 g x).a) (hB : B = (inst13 g x).b) (hva : SlV ro w 1 IntC va (inst13 g x).args) :
    InstC ro w [.int .i64 x.op, .int .i64 A, .int .i64 B, .int .u64 x.k, .string x.name, va] (inst13 g x) := by
  obtain ⟨_, _, _, h1, h2, h3, h4, h5⟩ := hx
  subst hA; subst hB
  refine ⟨va, rfl, hva, h1, ?_, ?_, h4, h5⟩
  · simp only [inst13]; repeat' split
    all_goals first | exact h2 | exact hgi _ | (unfold inI; omega)
  · simp only [inst13]; repeat' split
    all_goals first | exact h3 | exact hgi _ | (unfold inI; omega)

set_option maxRecDepth 10000 in
set_option maxHeartbeats 4000000 in
theorem block13_ret (b : DBlock) (cs : List Value) {w : World} {ro : Nat → Prop} (hro : ∀ b, ro b → b < w.heap.size) (hB0 : BlockC ro w cs b) (hok : Ok13 b) : Ret Try.prog 11 #[.agg cs.toArray] w fun v w' => ∃ cs, v = .agg cs.toArray ∧ BlockC (roFrom ro w w') w' cs (block13 b) ∧ Below w.heap.size w w' := by
 obtain ⟨si, tsx, rfl, hin, hfin, hpar⟩ := id hB0
 obtain ⟨adi, capi, rfl, hina, hinb, hinc, hind⟩ := id hin
 have hinm : b.ins.length ≤ 9223372036854775807 := by have h1 := hina; have h2 := hinb; unfold maxLen at h2; omega
 obtain ⟨sp, sq, rfl, ht1, ht2, htk, hta, htt, hte⟩ := id hfin
 obtain ⟨adp, capp, rfl, htpa, htpb, htpc, htpd⟩ := id ht1
 have htpm : b.fin.args.length ≤ 9223372036854775807 := by have h1 := htpa; have h2 := htpb; unfold maxLen at h2; omega
 obtain ⟨adq, capq, rfl, htqa, htqb, htqc, htqd⟩ := id ht2
 have htqm : b.fin.elses.length ≤ 9223372036854775807 := by have h1 := htqa; have h2 := htqb; unfold maxLen at h2; omega
 refine Ret.enter (P := Try.prog) (n := 120) (args := [.agg #[.int .i64 b.params, .slice adi b.ins.length capi, .int .i64 b.fin.kind, .int .i64 b.fin.a, .int .i64 b.fin.to, .slice adp b.fin.args.length capp, .int .i64 b.fin.els, .slice adq b.fin.elses.length capq]]) (σ := [(0, .agg #[.int .i64 b.params, .slice adi b.ins.length capi, .int .i64 b.fin.kind, .int .i64 b.fin.a, .int .i64 b.fin.to, .slice adp b.fin.args.length capp, .int .i64 b.fin.els, .slice adq b.fin.elses.length capq])]) Try.func11 rfl rfl rfl rfl ?_
 have hS := St.start (ro := ro) hro
 have hokn := hok.n; have hokp := hok.p0; have hokq := hok.p1
 have hsub : ∀ b, ro b → ro b ∨ w.heap.size ≤ b := fun _ h => .inl h
 refine W.seq (W.region ?_)
 refine WL.box (v := .agg #[.int .i64 b.params, .slice adi b.ins.length capi, .int .i64 b.fin.kind, .int .i64 b.fin.a, .int .i64 b.fin.to, .slice adp b.fin.args.length capp, .int .i64 b.fin.els, .slice adq b.fin.elses.length capq]) (cs := [.int .i64 b.params, .slice adi b.ins.length capi, .int .i64 b.fin.kind, .int .i64 b.fin.a, .int .i64 b.fin.to, .slice adp b.fin.args.length capp, .int .i64 b.fin.els, .slice adq b.fin.elses.length capq]) rfl rfl rfl rfl hS ?_
 clear hS; intro w2 b1 hb_b1 hS
 refine WL.alloc (tyZero_spec zer_32) rfl rfl hS ?_
 clear hS; intro w4 b3 hb_b3 hS
 refine WL.nil (N.seq (W.seq (W.region (WL.loadN (cs := [.int .i64 b.params, .slice adi b.ins.length capi, .int .i64 b.fin.kind, .int .i64 b.fin.a, .int .i64 b.fin.to, .slice adp b.fin.args.length capp, .int .i64 b.fin.els, .slice adq b.fin.elses.length capq]) agg_32 rfl rfl rfl rfl (hS.cells 1 (m := 8) rfl rfl) ?_))))
 refine WL.callF (vs := [.agg #[.int .i64 b.params, .slice adi b.ins.length capi, .int .i64 b.fin.kind, .int .i64 b.fin.a, .int .i64 b.fin.to, .slice adp b.fin.args.length capp, .int .i64 b.fin.els, .slice adq b.fin.elses.length capq]]) Try.func15 (by kernel_rfl) rfl rfl rfl (used_ret b _ (ro := ro) (fun b hb => (hS.snap b hb).1) (hB0.keep hS.alike) hok) ?_
 rintro vu w5 ⟨hvu, hbl⟩
 have hal6 := hS.alikeTo hbl (ro' := (roFrom ro w4 w5)) (fun b hb => .inl hb)
 replace hsub : ∀ b, (roFrom ro w4 w5) b → ro b ∨ w.heap.size ≤ b := fun b hb => hb.elim (hsub b) (fun h => .inr (Nat.le_trans hS.below.size h.1))
 replace hind := hind.keep hal6 (fun _ _ h => h.keep hal6)
 replace hfin := hfin.keep hal6
 replace ht1 := SlV.keep ht1 hal6 (fun _ _ h => h)
 replace ht2 := SlV.keep ht2 hal6 (fun _ _ h => h)
 replace hS := hS.readNew hbl
 replace hvu := SlV.keep hvu (ro' := (roFrom ro w4 w5)) (w' := w5) (Q' := BoolC) (fun x hx => ⟨.inr hx, rfl⟩) (fun _ _ h => h)
 obtain ⟨adu, capu, rfl, hvua, hvub, hvuc, hvud⟩ := id hvu
 have hvum : (used13 b).length ≤ 9223372036854775807 := by have h1 := hvua; have h2 := hvub; unfold maxLen at h2; omega
 have hul := used13_length b
 refine WL.assign rfl rfl rfl (WL.nil (N.seq (W.seq (W.region ?_))))
 refine WL.makeMap rfl rfl hS ?_
 clear hS; intro w8 b7 hS
 refine WL.assign rfl rfl rfl (WL.nil (N.seq (W.seq (W.seq (W.region (WL.fieldAddr fo_32_0 rfl rfl rfl (WL.load1 (v := .int .i64 b.params) one_3 rfl rfl rfl (hS.cell 2 rfl rfl) (WL.move rfl rfl rfl (WL.nil ?_)))))))))
 refine N.seq (W.block ?_)
 refine W.loop (α := Nat × Array MapEntry × Nat) (fun ⟨i, es, ck⟩ => [(1, .pointer (some ⟨b1, 0, none⟩)), (2, .pointer (some ⟨b3, 0, none⟩)), (3, .slice adu ((used13 b).length) capu), (4, .map (some b7)), (14, .int .i64 b.params), (15, .int .i64 (i : Int))]) (fun ⟨i, es, ck⟩ u => St w w5 u (roFrom ro w4 w5) [(b7, .map es ck), (b3, .cells #[.int .i64 0, .slice none 0 0, .int .i64 0, .int .i64 0, .int .i64 0, .slice none 0 0, .int .i64 0, .slice none 0 0] 32 (0, 0)), (b1, .cells #[.int .i64 b.params, .slice adi b.ins.length capi, .int .i64 b.fin.kind, .int .i64 b.fin.a, .int .i64 b.fin.to, .slice adp b.fin.args.length capp, .int .i64 b.fin.els, .slice adq b.fin.elses.length capq] 32 (0, 0))] [] ∧ i ≤ b.params.toNat ∧ MapG kI kI es ck i (idG i)) (fun ⟨i, es, ck⟩ => b.params.toNat - i) (0, #[], 0) ⟨rfl, rfl, rfl, rfl, rfl, rfl, trivial⟩ ⟨hS, Nat.zero_le _, by rw [idG_zero]; exact MapG.empty⟩ ?_
 clear hS
 rintro ⟨i, es, ck⟩ w9 ⟨hS, hi, hM⟩
 refine W.seq (W.region (WL.bin rfl rfl rfl rfl rfl (WL.nil (N.seq (W.seq ?_)))))
 refine W.cond rfl (fun hc10 => ?_) (fun hc10 => ?_)
 ·
  have hc10p : (i : Int) < b.params := by simpa using hc10
  refine W.skip (N.seq (W.seq (W.block (W.seq (W.region (WL.move rfl rfl rfl (WL.assign rfl rfl rfl (WL.nil (N.seq ?_)))))))))
  refine W.region (WL.move rfl rfl rfl (WL.move rfl rfl rfl (WL.move rfl rfl rfl ?_)))
  refine WL.mapPut 0 (i : Int) (i : Int) keyE_int Try.underlying63 Try.underlying3 hM rfl rfl rfl rfl rfl hS ?_
  clear hS; intro w12 es11 ck11 hM11 hS
  refine WL.nil (N.blk (N.seq (W.region ?_)))
  refine WL.add (c := (i : Int) + 1) rfl rfl rfl rfl (rfl) (by omega) ?_
  refine WL.move rfl rfl rfl (WL.nil ?_)
  have hM2 := hM11
  rw [idG_succ] at hM2
  exact N.loop (i + 1, es11, ck11) ⟨rfl, rfl, rfl, rfl, rfl, rfl, trivial⟩ ⟨hS, by omega, hM2⟩ (by first | omega | (simp only; omega))
 have hc10p : ¬ ((i : Int) < b.params) := by simpa using hc10
 refine W.exit (X.seq (X.loop (X.blk (N.seq (W.seq (W.region (WL.assign rfl rfl rfl (WL.nil (N.seq ?_)))))))))
 refine W.seq (W.seq (W.region (WL.fieldAddr fo_32_1 rfl rfl rfl (WL.load1 (v := .slice adi b.ins.length capi) one_27 rfl rfl rfl (hS.cell 2 rfl rfl) (WL.lenSlice Try.underlying27 rfl rfl rfl (WL.move rfl rfl rfl (WL.nil (N.seq (W.block ?_)))))))))
 have hM0 : MapG kI kI es ck (b.params.toNat + 0) (at13 b 0).1 := by rw [show i = b.params.toNat by omega] at hM; simpa [at13, go13] using hM
 replace hS := hS.row0 36 6
 refine W.loop (α := Nat × Value × List Value × Array MapEntry × Nat × Nat × (Nat → Prop) × World) (fun ⟨k, v, cs, es1, ck1, c, R2, ws2⟩ => [(1, .pointer (some ⟨b1, 0, none⟩)), (2, .pointer (some ⟨b3, 0, none⟩)), (3, .slice adu ((used13 b).length) capu), (4, .map (some b7)), (6, v), (23, .slice adi b.ins.length capi), (24, .int .i64 (b.ins.length : Int)), (25, .int .i64 (k : Int))]) (fun ⟨k, v, cs, es1, ck1, c, R2, ws2⟩ u => St w ws2 u R2 [(b7, .map es1 ck1), (b3, .cells #[.int .i64 0, .slice none 0 0, .int .i64 0, .int .i64 0, .int .i64 0, .slice none 0 0, .int .i64 0, .slice none 0 0] 32 (0, 0)), (b1, .cells #[.int .i64 b.params, .slice adi b.ins.length capi, .int .i64 b.fin.kind, .int .i64 b.fin.a, .int .i64 b.fin.to, .slice adp b.fin.args.length capp, .int .i64 b.fin.els, .slice adq b.fin.elses.length capq] 32 (0, 0))] [⟨v, 36, 6, c, cs⟩] ∧ k ≤ b.ins.length ∧ MapG kI kI es1 ck1 (b.params.toNat + k) (at13 b k).1 ∧ Chunks 6 (InstC R2 ws2) cs (at13 b k).2 ∧ c = (at13 b k).2.length ∧ Alike (roFrom ro w4 w5) w5 R2 ws2 ∧ (∀ b, R2 b → ro b ∨ w.heap.size ≤ b)) (fun ⟨k, v, cs, es1, ck1, c, R2, ws2⟩ => b.ins.length - k) (0, (.slice none 0 0), [], es, ck, 0, (roFrom ro w4 w5), w5) ⟨rfl, rfl, rfl, rfl, rfl, rfl, rfl, rfl, trivial⟩ ⟨hS, Nat.zero_le _, hM0, Chunks.nil, rfl, Alike.refl, hsub⟩ ?_
 clear hS
 rintro ⟨k, v, cs, es1, ck1, c, R2, ws2⟩ w13 ⟨hS, hk, hM1, hch, hc, halL1, hsub⟩
 replace hind := hind.keep halL1 (fun _ _ h => h.keep halL1)
 replace hfin := hfin.keep halL1
 replace ht1 := SlV.keep ht1 halL1 (fun _ _ h => h)
 replace ht2 := SlV.keep ht2 halL1 (fun _ _ h => h)
 replace hvud := hvud.keep halL1 (fun _ _ h => h)
 have hrow : w13.ownsRow w.heap.size 36 6 v (c) _ := hS.rows _ List.mem_cons_self
 obtain ⟨adv, capv, rfl, hr1v, hr2v, hr3v⟩ := row_shape hrow
 clear hrow
 have hsm := at13_small b hok.p1 k hk hok.n
 have hln := at13_len b k hk
 refine W.seq (W.region (WL.bin rfl rfl rfl rfl rfl (WL.nil (N.seq (W.seq ?_)))))
 refine W.cond rfl (fun hc14 => ?_) (fun hc14 => ?_)
 ·
  have hc14p : (k : Int) < (b.ins.length : Int) := by simpa using hc14
  refine W.skip (N.seq (W.seq (W.block (W.seq (W.region (WL.move rfl rfl rfl ?_))))))
  have hj15 : k < b.ins.length := by omega
  obtain ⟨x15, hx15⟩ : ∃ zz, b.ins[k]? = some zz := ⟨_, List.getElem?_eq_getElem hj15⟩
  obtain ⟨b15, o15, cs15, hE15, hr15, hl15, hc15, hQ15⟩ := hind k _ hx15
  have hQk15 := hQ15
  obtain ⟨sv15, rfl, hs15, ho15, ha15, hb15, hk15, hn15⟩ := hQ15
  obtain ⟨ad15, cap15, rfl, hs15a, hs15b, hs15c, hs15d⟩ := id hs15
  have hs15m : x15.args.length ≤ 9223372036854775807 := by have h1 := hs15a; have h2 := hs15b; unfold maxLen at h2; omega
  refine WL.indexAddrE (j := k) Try.underlying27 isz_36 rfl rfl rfl rfl hj15 hE15 (WL.loadN (cs := [.int .i64 x15.op, .int .i64 x15.a, .int .i64 x15.b, .int .u64 x15.k, .string x15.name, .slice ad15 x15.args.length cap15]) agg_36 rfl rfl rfl rfl (hS.roCells hr15 hc15) ?_)
  refine WL.alloc (tyZero_spec zer_36) rfl rfl hS ?_
  clear hS; intro w17 b16 hb_b16 hS
  refine WL.assign rfl rfl rfl ?_
  refine WL.store (L' := [(b16, .cells #[.int .i64 x15.op, .int .i64 x15.a, .int .i64 x15.b, .int .u64 x15.k, .string x15.name, .slice ad15 x15.args.length cap15] 36 (0, 0)), (b7, .map es1 ck1), (b3, .cells #[.int .i64 0, .slice none 0 0, .int .i64 0, .int .i64 0, .int .i64 0, .slice none 0 0, .int .i64 0, .slice none 0 0] 32 (0, 0)), (b1, .cells #[.int .i64 b.params, .slice adi b.ins.length capi, .int .i64 b.fin.kind, .int .i64 b.fin.a, .int .i64 b.fin.to, .slice adp b.fin.args.length capp, .int .i64 b.fin.els, .slice adq b.fin.elses.length capq] 32 (0, 0))]) 0 rfl rfl rfl rfl siz_36 rfl rfl rfl rfl rfl hS ?_
  clear hS; intro w18 hS
  refine WL.nil (N.seq (W.seq (W.seq (W.region (WL.loadN (cs := [.int .i64 x15.op, .int .i64 x15.a, .int .i64 x15.b, .int .u64 x15.k, .string x15.name, .slice ad15 x15.args.length cap15]) agg_36 rfl rfl rfl rfl (hS.cells 0 (m := 6) rfl rfl) ?_)))))
  refine WL.callF (vs := [.agg #[.int .i64 x15.op, .int .i64 x15.a, .int .i64 x15.b, .int .u64 x15.k, .string x15.name, .slice ad15 x15.args.length cap15]]) Try.func31 (by kernel_rfl) rfl rfl rfl (does_ret x15 _ (ro := R2) (fun b hb => (hS.snap b hb).1) (hQk15.keep hS.alike)) ?_
  rintro v w19 ⟨rfl, hbl⟩
  replace hS := hS.grow hbl
  refine WL.not rfl rfl rfl (WL.move rfl rfl rfl ?_)
  cases hg20 : (!(does13 x15))
  ·
   refine WL.skp rfl rfl (WL.skp rfl rfl (WL.skp rfl rfl (WL.skp rfl rfl (WL.skp rfl rfl (WL.skp rfl rfl (WL.skp rfl rfl (WL.skp rfl rfl (WL.pick (v := .bool false) rfl rfl rfl rfl rfl rfl (WL.nil ?_)))))))))
   refine N.seq (W.condF rfl (W.skip (N.seq (W.seq (W.region (WL.move rfl rfl rfl (WL.fieldAddr fo_32_0 rfl rfl rfl (WL.load1 (v := .int .i64 b.params) one_3 rfl rfl rfl (hS.cell 3 rfl rfl) (WL.move rfl rfl rfl ?_)))))))))
   refine WL.add (c := ((b.params.toNat + k : Nat) : Int)) rfl rfl rfl rfl (by omega) (by omega) ?_
   refine WL.fieldAddr fo_32_0 rfl rfl rfl (WL.load1 (v := .int .i64 b.params) one_3 rfl rfl rfl (hS.cell 3 rfl rfl) (WL.move rfl rfl rfl (WL.lenSlice Try.underlying27 rfl rfl rfl ?_)))
   refine WL.add (c := ((b.params.toNat + (at13 b k).2.length : Nat) : Int)) rfl rfl rfl rfl (by omega) (by omega) ?_
   refine WL.mapPut 1 ((b.params.toNat + k : Nat) : Int) ((b.params.toNat + (at13 b k).2.length : Nat) : Int) keyE_int Try.underlying63 Try.underlying3 hM1 rfl rfl rfl rfl rfl hS ?_
   clear hS; intro w22 es21 ck21 hM21 hS
   refine WL.nil (N.seq (W.seq (W.seq (W.region (WL.loadN (cs := [.int .i64 x15.op, .int .i64 x15.a, .int .i64 x15.b, .int .u64 x15.k, .string x15.name, .slice ad15 x15.args.length cap15]) agg_36 rfl rfl rfl rfl (hS.cells 0 (m := 6) rfl rfl) ?_)))))
   have hkp : does13 x15 = true ∨ (used13 b)[b.params.toNat + k]? = some true := .inl (by simpa using hg20)
   have hst := at13_yes hx15 hkp
   have hsm2 := at13_small b hok.p1 (k + 1) (by omega) hok.n
   rw [hst] at hsm2; dsimp only at hsm2
   have hgi := small_inI hsm2
   refine WL.callF (vs := [.agg #[.int .i64 x15.op, .int .i64 x15.a, .int .i64 x15.b, .int .u64 x15.k, .string x15.name, .slice ad15 x15.args.length cap15]]) Try.func32 (by kernel_rfl) rfl rfl rfl (iuses_ret x15 _ (ro := R2) (fun b hb => (hS.snap b hb).1) (hQk15.keep hS.alike) (Nat.le_trans (hok.args _ (List.mem_of_getElem? hx15)) (by decide))) ?_
   rintro v w23 ⟨hvz, hbl⟩
   replace hS := hS.grow hbl
   obtain ⟨adz, capz, rfl, _, _, _, _⟩ := id hvz
   refine WL.lenSlice Try.underlying28 rfl rfl rfl (WL.bin rfl rfl rfl rfl rfl (WL.nil (N.seq ?_)))
   refine W.cond rfl (fun hc24 => ?_) (fun hc24 => ?_)
   ·
    have hc24p : 0 < ((uses5 x15).length : Int) := by simpa using hc24
    refine W.seq ?_
    refine W.drawS (L' := [(b16, .cells #[.int .i64 x15.op, .int .i64 (((updG (at13 b k).1 ((b.params.toNat + k : Nat) : Int) ((b.params.toNat + (at13 b k).2.length : Nat) : Int)) x15.a).getD 0), .int .i64 x15.b, .int .u64 x15.k, .string x15.name, .slice ad15 x15.args.length cap15] 36 (0, 0)), (b7, .map es21 ck21), (b3, .cells #[.int .i64 0, .slice none 0 0, .int .i64 0, .int .i64 0, .int .i64 0, .slice none 0 0, .int .i64 0, .slice none 0 0] 32 (0, 0)), (b1, .cells #[.int .i64 b.params, .slice adi b.ins.length capi, .int .i64 b.fin.kind, .int .i64 b.fin.a, .int .i64 b.fin.to, .slice adp b.fin.args.length capp, .int .i64 b.fin.els, .slice adq b.fin.elses.length capq] 32 (0, 0))]) (by kernel_rfl) 10 9 [(.map (some b7), true), (.pointer (some ⟨b16, 1, none⟩), true), (.int .i64 x15.a, true), (.int .i64 (((updG (at13 b k).1 ((b.params.toNat + k : Nat) : Int) ((b.params.toNat + (at13 b k).2.length : Nat) : Int)) x15.a).getD 0), true), (.map (some b7), false), (.pointer (some ⟨b16, 2, none⟩), true), (.int .i64 x15.b, true), (.int .i64 (((updG (at13 b k).1 ((b.params.toNat + k : Nat) : Int) ((b.params.toNat + (at13 b k).2.length : Nat) : Int)) x15.b).getD 0), false), (.pointer (some ⟨b16, 1, none⟩), true), (undef, false)] (by kernel_rfl) rfl (by kernel_rfl) rfl rfl [(1, .pointer (some ⟨b1, 0, none⟩)), (2, .pointer (some ⟨b3, 0, none⟩)), (3, .slice adu ((used13 b).length) capu), (4, .map (some b7)), (6, .slice adv c capv), (8, .pointer (some ⟨b16, 0, none⟩)), (23, .slice adi b.ins.length capi), (24, .int .i64 (b.ins.length : Int)), (25, .int .i64 (k : Int))] ⟨rfl, rfl, rfl, rfl, rfl, rfl, rfl, rfl, rfl, trivial⟩ rfl hS ?_ ?_
    ·
     refine And.intro (fun C hC wd hCw => ?_) ?_
     ·
      rcases hC with rfl | hC
      ·
       refine WL.sub (σ' := [(4, .map (some b7))]) ⟨rfl, trivial⟩ ?_
       replace hS := hCw
       refine WL.move rfl rfl rfl ?_
       exact WL.nil (N.cut () ⟨rfl, trivial⟩ (Below.refl _ _))
      exact False.elim hC
     refine And.intro (fun C hC wd hCw => ?_) ?_
     ·
      rcases hC with rfl | hC
      ·
       refine WL.sub (σ' := [(8, .pointer (some ⟨b16, 0, none⟩))]) ⟨rfl, trivial⟩ ?_
       replace hS := hCw
       refine WL.fieldAddr fo_36_1 rfl rfl rfl ?_
       exact WL.nil (N.cut () ⟨rfl, trivial⟩ (Below.refl _ _))
      exact False.elim hC
     refine And.intro (fun C hC wd hCw => ?_) ?_
     ·
      rcases hC with rfl | hC
      ·
       refine WL.sub (σ' := [(58, .pointer (some ⟨b16, 1, none⟩))]) ⟨rfl, trivial⟩ ?_
       replace hS := hCw
       refine WL.load1 (v := .int .i64 x15.a) one_3 rfl rfl rfl (hS.cell 0 rfl rfl) ?_
       exact WL.nil (N.cut () ⟨rfl, trivial⟩ (Below.refl _ _))
      exact False.elim hC
     refine And.intro (fun C hC wd hCw => ?_) ?_
     ·
      rcases hC with rfl | hC
      ·
       refine WL.sub (σ' := [(57, .map (some b7)), (59, .int .i64 x15.a)]) ⟨rfl, rfl, trivial⟩ ?_
       replace hS := hCw
       refine WL.mapGet x15.a keyE_int Try.underlying63 Try.underlying3 zb_3 hM21 rfl rfl rfl rfl (hS.own _ (List.mem_of_getElem? (i := 1) rfl)) (v := .int .i64 (((updG (at13 b k).1 ((b.params.toNat + k : Nat) : Int) ((b.params.toNat + (at13 b k).2.length : Nat) : Int)) x15.a).getD 0)) (by cases (updG (at13 b k).1 ((b.params.toNat + k : Nat) : Int) ((b.params.toNat + (at13 b k).2.length : Nat) : Int)) x15.a <;> rfl) ?_
       exact WL.nil (N.cut () ⟨rfl, trivial⟩ (Below.refl _ _))
      exact False.elim hC
     refine And.intro (fun C hC wd hCw => ?_) ?_
     ·
      rcases hC with rfl | hC
      ·
       refine WL.sub (σ' := [(4, .map (some b7))]) ⟨rfl, trivial⟩ ?_
       replace hS := hCw
       refine WL.move rfl rfl rfl ?_
       exact WL.nil (N.cut () ⟨rfl, trivial⟩ (Below.refl _ _))
      cases hC
      refine WL.sub (σ' := [(4, .map (some b7))]) ⟨rfl, trivial⟩ ?_
      replace hS := hCw
      refine WL.move rfl rfl rfl ?_
      exact WL.nil (N.cut () ⟨rfl, trivial⟩ (Below.refl _ _))
     refine And.intro (fun C hC wd hCw => ?_) ?_
     ·
      rcases hC with rfl | hC
      ·
       refine WL.sub (σ' := [(8, .pointer (some ⟨b16, 0, none⟩))]) ⟨rfl, trivial⟩ ?_
       replace hS := hCw
       refine WL.fieldAddr fo_36_2 rfl rfl rfl ?_
       exact WL.nil (N.cut () ⟨rfl, trivial⟩ (Below.refl _ _))
      exact False.elim hC
     refine And.intro (fun C hC wd hCw => ?_) ?_
     ·
      rcases hC with rfl | hC
      ·
       refine WL.sub (σ' := [(62, .pointer (some ⟨b16, 2, none⟩))]) ⟨rfl, trivial⟩ ?_
       replace hS := hCw
       refine WL.load1 (v := .int .i64 x15.b) one_3 rfl rfl rfl (hS.cell 0 rfl rfl) ?_
       exact WL.nil (N.cut () ⟨rfl, trivial⟩ (Below.refl _ _))
      exact False.elim hC
     refine And.intro (fun C hC wd hCw => ?_) ?_
     ·
      rcases hC with rfl | hC
      ·
       refine WL.sub (σ' := [(61, .map (some b7)), (63, .int .i64 x15.b)]) ⟨rfl, rfl, trivial⟩ ?_
       replace hS := hCw
       refine WL.mapGet x15.b keyE_int Try.underlying63 Try.underlying3 zb_3 hM21 rfl rfl rfl rfl (hS.own _ (List.mem_of_getElem? (i := 1) rfl)) (v := .int .i64 (((updG (at13 b k).1 ((b.params.toNat + k : Nat) : Int) ((b.params.toNat + (at13 b k).2.length : Nat) : Int)) x15.b).getD 0)) (by cases (updG (at13 b k).1 ((b.params.toNat + k : Nat) : Int) ((b.params.toNat + (at13 b k).2.length : Nat) : Int)) x15.b <;> rfl) ?_
       exact WL.nil (N.cut () ⟨rfl, trivial⟩ (Below.refl _ _))
      cases hC
      refine WL.sub (σ' := [(61, .map (some b7)), (63, .int .i64 x15.b)]) ⟨rfl, rfl, trivial⟩ ?_
      replace hS := hCw
      refine WL.mapGet x15.b keyE_int Try.underlying63 Try.underlying3 zb_3 hM21 rfl rfl rfl rfl (hS.own _ (List.mem_of_getElem? (i := 1) rfl)) (v := .int .i64 (((updG (at13 b k).1 ((b.params.toNat + k : Nat) : Int) ((b.params.toNat + (at13 b k).2.length : Nat) : Int)) x15.b).getD 0)) (by cases (updG (at13 b k).1 ((b.params.toNat + k : Nat) : Int) ((b.params.toNat + (at13 b k).2.length : Nat) : Int)) x15.b <;> rfl) ?_
      exact WL.nil (N.cut () ⟨rfl, trivial⟩ (Below.refl _ _))
     refine And.intro (fun C hC wd hCw => ?_) ?_
     ·
      rcases hC with rfl | hC
      ·
       refine WL.sub (σ' := [(8, .pointer (some ⟨b16, 0, none⟩))]) ⟨rfl, trivial⟩ ?_
       replace hS := hCw
       refine WL.fieldAddr fo_36_1 rfl rfl rfl ?_
       exact WL.nil (N.cut () ⟨rfl, trivial⟩ (Below.refl _ _))
      exact False.elim hC
     refine And.intro (fun wd hCw => ?_) ?_
     ·
      refine WL.sub (σ' := [(60, .int .i64 (((updG (at13 b k).1 ((b.params.toNat + k : Nat) : Int) ((b.params.toNat + (at13 b k).2.length : Nat) : Int)) x15.a).getD 0)), (65, .pointer (some ⟨b16, 1, none⟩))]) ⟨rfl, rfl, trivial⟩ ?_
      replace hS := hCw
      refine WL.store (L' := [(b16, .cells #[.int .i64 x15.op, .int .i64 (((updG (at13 b k).1 ((b.params.toNat + k : Nat) : Int) ((b.params.toNat + (at13 b k).2.length : Nat) : Int)) x15.a).getD 0), .int .i64 x15.b, .int .u64 x15.k, .string x15.name, .slice ad15 x15.args.length cap15] 36 (0, 0)), (b7, .map es21 ck21), (b3, .cells #[.int .i64 0, .slice none 0 0, .int .i64 0, .int .i64 0, .int .i64 0, .slice none 0 0, .int .i64 0, .slice none 0 0] 32 (0, 0)), (b1, .cells #[.int .i64 b.params, .slice adi b.ins.length capi, .int .i64 b.fin.kind, .int .i64 b.fin.a, .int .i64 b.fin.to, .slice adp b.fin.args.length capp, .int .i64 b.fin.els, .slice adq b.fin.elses.length capq] 32 (0, 0))]) 0 rfl rfl rfl rfl siz_3 rfl rfl rfl rfl rfl hS ?_
      clear hS; intro w26 hS
      exact WL.nil (N.cut () trivial hS)
     trivial
    clear hS; intro w27 hS
    refine WL.sub (σ' := [(1, .pointer (some ⟨b1, 0, none⟩)), (2, .pointer (some ⟨b3, 0, none⟩)), (3, .slice adu ((used13 b).length) capu), (4, .map (some b7)), (6, .slice adv c capv), (8, .pointer (some ⟨b16, 0, none⟩)), (23, .slice adi b.ins.length capi), (24, .int .i64 (b.ins.length : Int)), (25, .int .i64 (k : Int)), (64, .int .i64 (((updG (at13 b k).1 ((b.params.toNat + k : Nat) : Int) ((b.params.toNat + (at13 b k).2.length : Nat) : Int)) x15.b).getD 0))]) ⟨rfl, rfl, rfl, rfl, rfl, rfl, rfl, rfl, rfl, rfl, trivial⟩ ?_
    refine WL.fieldAddr fo_36_2 rfl rfl rfl ?_
    refine WL.store (L' := [(b16, .cells #[.int .i64 x15.op, .int .i64 (((updG (at13 b k).1 ((b.params.toNat + k : Nat) : Int) ((b.params.toNat + (at13 b k).2.length : Nat) : Int)) x15.a).getD 0), .int .i64 (((updG (at13 b k).1 ((b.params.toNat + k : Nat) : Int) ((b.params.toNat + (at13 b k).2.length : Nat) : Int)) x15.b).getD 0), .int .u64 x15.k, .string x15.name, .slice ad15 x15.args.length cap15] 36 (0, 0)), (b7, .map es21 ck21), (b3, .cells #[.int .i64 0, .slice none 0 0, .int .i64 0, .int .i64 0, .int .i64 0, .slice none 0 0, .int .i64 0, .slice none 0 0] 32 (0, 0)), (b1, .cells #[.int .i64 b.params, .slice adi b.ins.length capi, .int .i64 b.fin.kind, .int .i64 b.fin.a, .int .i64 b.fin.to, .slice adp b.fin.args.length capp, .int .i64 b.fin.els, .slice adq b.fin.elses.length capq] 32 (0, 0))]) 0 rfl rfl rfl rfl siz_3 rfl rfl rfl rfl rfl hS ?_
    clear hS; intro w28 hS
    refine WL.nil (N.seq (W.region (WL.fieldAddr fo_36_5 rfl rfl rfl (WL.load1 (v := .slice ad15 x15.args.length cap15) one_28 rfl rfl rfl (hS.cell 0 rfl rfl) (WL.move rfl rfl rfl ?_)))))
    refine WL.callF (vs := [.slice ad15 x15.args.length cap15, .map (some b7)]) Try.func33 (by kernel_rfl) rfl rfl rfl (anew_ret x15.args _ b7 es21 ck21 _ (updG (at13 b k).1 ((b.params.toNat + k : Nat) : Int) ((b.params.toNat + (at13 b k).2.length : Nat) : Int)) (ro := fun x => x < w28.heap.size) (fun _ h => h) (SlV.keep hs15 (fun b hb => hS.snap b hb) (fun _ _ q => q)) (hS.keys b7 (by simp [keysOf])).2.1 (hS.own _ (List.mem_of_getElem? (i := 1) rfl)) hM21 hgi (hok.args _ (List.mem_of_getElem? hx15))) ?_
    rintro va w29 ⟨hva, hbl⟩
    have hal30 := hS.alikeTo hbl (ro' := (roFrom R2 w28 w29)) (fun b hb => .inl hb)
    replace hsub : ∀ b, (roFrom R2 w28 w29) b → ro b ∨ w.heap.size ≤ b := fun b hb => hb.elim (hsub b) (fun h => .inr (Nat.le_trans hS.below.size h.1))
    replace halL1 := halL1.trans hal30
    replace hfin := hfin.keep hal30
    replace ht1 := SlV.keep ht1 hal30 (fun _ _ h => h)
    replace ht2 := SlV.keep ht2 hal30 (fun _ _ h => h)
    replace hvud := hvud.keep hal30 (fun _ _ h => h)
    replace hQk15 := hQk15.keep hal30
    replace hs15 := SlV.keep hs15 hal30 (fun _ _ h => h)
    replace hch := hch.mono fun _ _ h => h.keep hal30
    replace hS := hS.readNew hbl
    replace hva := SlV.keep hva (ro' := (roFrom R2 w28 w29)) (w' := w29) (Q' := IntC) (fun x hx => ⟨.inr hx, rfl⟩) (fun _ _ h => h)
    obtain ⟨adn, capn, rfl, _, _, _, _⟩ := id hva
    refine WL.fieldAddr fo_36_5 rfl rfl rfl ?_
    refine WL.store (L' := [(b16, .cells #[.int .i64 x15.op, .int .i64 (((updG (at13 b k).1 ((b.params.toNat + k : Nat) : Int) ((b.params.toNat + (at13 b k).2.length : Nat) : Int)) x15.a).getD 0), .int .i64 (((updG (at13 b k).1 ((b.params.toNat + k : Nat) : Int) ((b.params.toNat + (at13 b k).2.length : Nat) : Int)) x15.b).getD 0), .int .u64 x15.k, .string x15.name, .slice adn ((anew13 (updG (at13 b k).1 ((b.params.toNat + k : Nat) : Int) ((b.params.toNat + (at13 b k).2.length : Nat) : Int)) x15.args).length) capn] 36 (0, 0)), (b7, .map es21 ck21), (b3, .cells #[.int .i64 0, .slice none 0 0, .int .i64 0, .int .i64 0, .int .i64 0, .slice none 0 0, .int .i64 0, .slice none 0 0] 32 (0, 0)), (b1, .cells #[.int .i64 b.params, .slice adi b.ins.length capi, .int .i64 b.fin.kind, .int .i64 b.fin.a, .int .i64 b.fin.to, .slice adp b.fin.args.length capp, .int .i64 b.fin.els, .slice adq b.fin.elses.length capq] 32 (0, 0))]) 0 rfl rfl rfl rfl siz_28 rfl rfl rfl rfl rfl hS ?_
    clear hS; intro w31 hS
    refine WL.nil (N.seq (W.seq (W.seq (W.region (WL.fieldAddr fo_36_0 rfl rfl rfl (WL.load1 (v := .int .i64 x15.op) one_3 rfl rfl rfl (hS.cell 0 rfl rfl) (WL.bin rfl rfl rfl rfl rfl (WL.move rfl rfl rfl ?_))))))))
    cases hg32 : (decide (x15.op = 14))
    ·
     have hg32p : ¬ (x15.op = 14) := by simpa using hg32
     refine WL.fieldAddr fo_36_0 rfl rfl rfl (WL.load1 (v := .int .i64 x15.op) one_3 rfl rfl rfl (hS.cell 0 rfl rfl) (WL.bin rfl rfl rfl rfl rfl (WL.pick (v := .bool (decide (x15.op = 13))) rfl rfl rfl rfl rfl rfl (WL.move rfl rfl rfl ?_))))
     cases hg33 : (decide (x15.op = 13))
     ·
      have hg33p : ¬ (x15.op = 13) := by simpa using hg33
      refine WL.fieldAddr fo_36_0 rfl rfl rfl (WL.load1 (v := .int .i64 x15.op) one_3 rfl rfl rfl (hS.cell 0 rfl rfl) (WL.bin rfl rfl rfl rfl rfl (WL.pick (v := .bool (decide (x15.op = 16))) rfl rfl rfl rfl rfl rfl (WL.nil (N.seq ?_)))))
      refine W.cond rfl (fun hc34 => ?_) (fun hc34 => ?_)
      ·
       have hc34p : x15.op = 16 := by simpa using hc34
       refine W.region (WL.fieldAddr fo_36_2 rfl rfl rfl ?_)
       refine WL.store (L' := [(b16, .cells #[.int .i64 x15.op, .int .i64 (((updG (at13 b k).1 ((b.params.toNat + k : Nat) : Int) ((b.params.toNat + (at13 b k).2.length : Nat) : Int)) x15.a).getD 0), .int .i64 0, .int .u64 x15.k, .string x15.name, .slice adn ((anew13 (updG (at13 b k).1 ((b.params.toNat + k : Nat) : Int) ((b.params.toNat + (at13 b k).2.length : Nat) : Int)) x15.args).length) capn] 36 (0, 0)), (b7, .map es21 ck21), (b3, .cells #[.int .i64 0, .slice none 0 0, .int .i64 0, .int .i64 0, .int .i64 0, .slice none 0 0, .int .i64 0, .slice none 0 0] 32 (0, 0)), (b1, .cells #[.int .i64 b.params, .slice adi b.ins.length capi, .int .i64 b.fin.kind, .int .i64 b.fin.a, .int .i64 b.fin.to, .slice adp b.fin.args.length capp, .int .i64 b.fin.els, .slice adq b.fin.elses.length capq] 32 (0, 0))]) 0 rfl rfl rfl rfl siz_3 rfl rfl rfl rfl rfl hS ?_
       clear hS; intro w35 hS
       refine WL.nil (N.seq (W.seq (W.seq (W.region (WL.fieldAddr fo_36_0 rfl rfl rfl (WL.load1 (v := .int .i64 x15.op) one_3 rfl rfl rfl (hS.cell 0 rfl rfl) (WL.bin rfl rfl rfl rfl rfl ?_)))))))
       refine WL.set 88 (v' := .bool false) rfl (by rw [hg32]) ?_
       refine WL.nil (N.seq (W.condF rfl (W.skip (N.seq (W.region (WL.move rfl rfl rfl (WL.loadN (cs := [.int .i64 x15.op, .int .i64 (((updG (at13 b k).1 ((b.params.toNat + k : Nat) : Int) ((b.params.toNat + (at13 b k).2.length : Nat) : Int)) x15.a).getD 0), .int .i64 0, .int .u64 x15.k, .string x15.name, .slice adn ((anew13 (updG (at13 b k).1 ((b.params.toNat + k : Nat) : Int) ((b.params.toNat + (at13 b k).2.length : Nat) : Int)) x15.args).length) capn]) agg_36 rfl rfl rfl rfl (hS.cells 0 (m := 6) rfl rfl) ?_)))))))
       refine WL.buildSlice (ps := [(0, .agg #[.int .i64 x15.op, .int .i64 (((updG (at13 b k).1 ((b.params.toNat + k : Nat) : Int) ((b.params.toNat + (at13 b k).2.length : Nat) : Int)) x15.a).getD 0), .int .i64 0, .int .u64 x15.k, .string x15.name, .slice adn ((anew13 (updG (at13 b k).1 ((b.params.toNat + k : Nat) : Int) ((b.params.toNat + (at13 b k).2.length : Nat) : Int)) x15.args).length) capn])]) (cs := [.int .i64 x15.op, .int .i64 (((updG (at13 b k).1 ((b.params.toNat + k : Nat) : Int) ((b.params.toNat + (at13 b k).2.length : Nat) : Int)) x15.a).getD 0), .int .i64 0, .int .u64 x15.k, .string x15.name, .slice adn ((anew13 (updG (at13 b k).1 ((b.params.toNat + k : Nat) : Int) ((b.params.toNat + (at13 b k).2.length : Nat) : Int)) x15.args).length) capn]) Try.underlying27 (tyZero_spec zer_36) rfl rfl rfl rfl (by kernel_rfl) hS ?_
       clear hS; intro w37 b36 hb_b36 hS
       have hIC : InstC (roFrom R2 w28 w29) w29 [.int .i64 x15.op, .int .i64 (((updG (at13 b k).1 ((b.params.toNat + k : Nat) : Int) ((b.params.toNat + (at13 b k).2.length : Nat) : Int)) x15.a).getD 0), .int .i64 0, .int .u64 x15.k, .string x15.name, .slice adn ((anew13 (updG (at13 b k).1 ((b.params.toNat + k : Nat) : Int) ((b.params.toNat + (at13 b k).2.length : Nat) : Int)) x15.args).length) capn] (inst13 (updG (at13 b k).1 ((b.params.toNat + k : Nat) : Int) ((b.params.toNat + (at13 b k).2.length : Nat) : Int)) x15) := instC13 hQk15 hgi (i13_aU (by omega) (by omega)) (i13_b0 (by omega)) (by rw [show (inst13 (updG (at13 b k).1 ((b.params.toNat + k : Nat) : Int) ((b.params.toNat + (at13 b k).2.length : Nat) : Int)) x15).args = anew13 (updG (at13 b k).1 ((b.params.toNat + k : Nat) : Int) ((b.params.toNat + (at13 b k).2.length : Nat) : Int)) x15.args by simp only [inst13]; rw [if_pos (by omega)]]; exact hva)
       refine WL.append (r := ⟨.slice adv c capv, 36, 6, c, cs⟩) (cs := [.int .i64 x15.op, .int .i64 (((updG (at13 b k).1 ((b.params.toNat + k : Nat) : Int) ((b.params.toNat + (at13 b k).2.length : Nat) : Int)) x15.a).getD 0), .int .i64 0, .int .u64 x15.k, .string x15.name, .slice adn ((anew13 (updG (at13 b k).1 ((b.params.toNat + k : Nat) : Int) ((b.params.toNat + (at13 b k).2.length : Nat) : Int)) x15.args).length) capn]) 72 Try.underlying27 (tyZero_spec zer_36) byt_36 rfl rfl rfl rfl rfl rfl rfl rfl rfl hS (by unfold maxLen; simp only; omega) (by simp only; omega) ?_
       clear hS; intro w38 v39 hn_v39 hS
       have hrow : w38.ownsRow w.heap.size 36 6 v39 (c + 1) _ := hS.rows _ List.mem_cons_self
       obtain ⟨av39, cv39, rfl, hc1_v39, hc2_v39, hc3_v39⟩ := row_shape hrow
       clear hrow
       refine WL.assign rfl rfl rfl (WL.nil (N.blk (N.seq (W.region ?_))))
       refine WL.add (c := (k : Int) + 1) rfl rfl rfl rfl (rfl) (by omega) ?_
       refine WL.move rfl rfl rfl (WL.nil ?_)
       have hS := hS.dropN 1
       exact N.loop (k + 1, .slice av39 (c + 1) cv39, cs ++ ([.int .i64 x15.op, .int .i64 (((updG (at13 b k).1 ((b.params.toNat + k : Nat) : Int) ((b.params.toNat + (at13 b k).2.length : Nat) : Int)) x15.a).getD 0), .int .i64 0, .int .u64 x15.k, .string x15.name, .slice adn ((anew13 (updG (at13 b k).1 ((b.params.toNat + k : Nat) : Int) ((b.params.toNat + (at13 b k).2.length : Nat) : Int)) x15.args).length) capn] : List Value), es21, ck21, c + 1, (roFrom R2 w28 w29), w29) ⟨rfl, rfl, rfl, rfl, rfl, rfl, rfl, rfl, trivial⟩ ⟨hS, by omega, by rw [hst]; exact hM21, by rw [hst]; exact hch.snoc rfl hIC, by rw [hst, List.length_append, ← hc]; rfl, halL1, hsub⟩ (by first | omega | (simp only; omega))
      have hc34p : ¬ (x15.op = 16) := by simpa using hc34
      refine W.skip (N.seq (W.seq (W.seq (W.region (WL.fieldAddr fo_36_0 rfl rfl rfl (WL.load1 (v := .int .i64 x15.op) one_3 rfl rfl rfl (hS.cell 0 rfl rfl) (WL.bin rfl rfl rfl rfl rfl ?_)))))))
      refine WL.set 88 (v' := .bool false) rfl (by rw [hg32]) ?_
      refine WL.nil (N.seq (W.condF rfl (W.skip (N.seq (W.region (WL.move rfl rfl rfl (WL.loadN (cs := [.int .i64 x15.op, .int .i64 (((updG (at13 b k).1 ((b.params.toNat + k : Nat) : Int) ((b.params.toNat + (at13 b k).2.length : Nat) : Int)) x15.a).getD 0), .int .i64 (((updG (at13 b k).1 ((b.params.toNat + k : Nat) : Int) ((b.params.toNat + (at13 b k).2.length : Nat) : Int)) x15.b).getD 0), .int .u64 x15.k, .string x15.name, .slice adn ((anew13 (updG (at13 b k).1 ((b.params.toNat + k : Nat) : Int) ((b.params.toNat + (at13 b k).2.length : Nat) : Int)) x15.args).length) capn]) agg_36 rfl rfl rfl rfl (hS.cells 0 (m := 6) rfl rfl) ?_)))))))
      refine WL.buildSlice (ps := [(0, .agg #[.int .i64 x15.op, .int .i64 (((updG (at13 b k).1 ((b.params.toNat + k : Nat) : Int) ((b.params.toNat + (at13 b k).2.length : Nat) : Int)) x15.a).getD 0), .int .i64 (((updG (at13 b k).1 ((b.params.toNat + k : Nat) : Int) ((b.params.toNat + (at13 b k).2.length : Nat) : Int)) x15.b).getD 0), .int .u64 x15.k, .string x15.name, .slice adn ((anew13 (updG (at13 b k).1 ((b.params.toNat + k : Nat) : Int) ((b.params.toNat + (at13 b k).2.length : Nat) : Int)) x15.args).length) capn])]) (cs := [.int .i64 x15.op, .int .i64 (((updG (at13 b k).1 ((b.params.toNat + k : Nat) : Int) ((b.params.toNat + (at13 b k).2.length : Nat) : Int)) x15.a).getD 0), .int .i64 (((updG (at13 b k).1 ((b.params.toNat + k : Nat) : Int) ((b.params.toNat + (at13 b k).2.length : Nat) : Int)) x15.b).getD 0), .int .u64 x15.k, .string x15.name, .slice adn ((anew13 (updG (at13 b k).1 ((b.params.toNat + k : Nat) : Int) ((b.params.toNat + (at13 b k).2.length : Nat) : Int)) x15.args).length) capn]) Try.underlying27 (tyZero_spec zer_36) rfl rfl rfl rfl (by kernel_rfl) hS ?_
      clear hS; intro w41 b40 hb_b40 hS
      have hIC : InstC (roFrom R2 w28 w29) w29 [.int .i64 x15.op, .int .i64 (((updG (at13 b k).1 ((b.params.toNat + k : Nat) : Int) ((b.params.toNat + (at13 b k).2.length : Nat) : Int)) x15.a).getD 0), .int .i64 (((updG (at13 b k).1 ((b.params.toNat + k : Nat) : Int) ((b.params.toNat + (at13 b k).2.length : Nat) : Int)) x15.b).getD 0), .int .u64 x15.k, .string x15.name, .slice adn ((anew13 (updG (at13 b k).1 ((b.params.toNat + k : Nat) : Int) ((b.params.toNat + (at13 b k).2.length : Nat) : Int)) x15.args).length) capn] (inst13 (updG (at13 b k).1 ((b.params.toNat + k : Nat) : Int) ((b.params.toNat + (at13 b k).2.length : Nat) : Int)) x15) := instC13 hQk15 hgi (i13_aU (by omega) (by omega)) (i13_bU (by omega) (by omega)) (by rw [show (inst13 (updG (at13 b k).1 ((b.params.toNat + k : Nat) : Int) ((b.params.toNat + (at13 b k).2.length : Nat) : Int)) x15).args = anew13 (updG (at13 b k).1 ((b.params.toNat + k : Nat) : Int) ((b.params.toNat + (at13 b k).2.length : Nat) : Int)) x15.args by simp only [inst13]; rw [if_pos (by omega)]]; exact hva)
      refine WL.append (r := ⟨.slice adv c capv, 36, 6, c, cs⟩) (cs := [.int .i64 x15.op, .int .i64 (((updG (at13 b k).1 ((b.params.toNat + k : Nat) : Int) ((b.params.toNat + (at13 b k).2.length : Nat) : Int)) x15.a).getD 0), .int .i64 (((updG (at13 b k).1 ((b.params.toNat + k : Nat) : Int) ((b.params.toNat + (at13 b k).2.length : Nat) : Int)) x15.b).getD 0), .int .u64 x15.k, .string x15.name, .slice adn ((anew13 (updG (at13 b k).1 ((b.params.toNat + k : Nat) : Int) ((b.params.toNat + (at13 b k).2.length : Nat) : Int)) x15.args).length) capn]) 72 Try.underlying27 (tyZero_spec zer_36) byt_36 rfl rfl rfl rfl rfl rfl rfl rfl rfl hS (by unfold maxLen; simp only; omega) (by simp only; omega) ?_
      clear hS; intro w42 v43 hn_v43 hS
      have hrow : w42.ownsRow w.heap.size 36 6 v43 (c + 1) _ := hS.rows _ List.mem_cons_self
      obtain ⟨av43, cv43, rfl, hc1_v43, hc2_v43, hc3_v43⟩ := row_shape hrow
      clear hrow
      refine WL.assign rfl rfl rfl (WL.nil (N.blk (N.seq (W.region ?_))))
      refine WL.add (c := (k : Int) + 1) rfl rfl rfl rfl (rfl) (by omega) ?_
      refine WL.move rfl rfl rfl (WL.nil ?_)
      have hS := hS.dropN 1
      exact N.loop (k + 1, .slice av43 (c + 1) cv43, cs ++ ([.int .i64 x15.op, .int .i64 (((updG (at13 b k).1 ((b.params.toNat + k : Nat) : Int) ((b.params.toNat + (at13 b k).2.length : Nat) : Int)) x15.a).getD 0), .int .i64 (((updG (at13 b k).1 ((b.params.toNat + k : Nat) : Int) ((b.params.toNat + (at13 b k).2.length : Nat) : Int)) x15.b).getD 0), .int .u64 x15.k, .string x15.name, .slice adn ((anew13 (updG (at13 b k).1 ((b.params.toNat + k : Nat) : Int) ((b.params.toNat + (at13 b k).2.length : Nat) : Int)) x15.args).length) capn] : List Value), es21, ck21, c + 1, (roFrom R2 w28 w29), w29) ⟨rfl, rfl, rfl, rfl, rfl, rfl, rfl, rfl, trivial⟩ ⟨hS, by omega, by rw [hst]; exact hM21, by rw [hst]; exact hch.snoc rfl hIC, by rw [hst, List.length_append, ← hc]; rfl, halL1, hsub⟩ (by first | omega | (simp only; omega))
     have hg33p : x15.op = 13 := by simpa using hg33
     refine WL.skp rfl rfl (WL.skp rfl rfl (WL.skp rfl rfl (WL.pick (v := .bool true) rfl rfl rfl rfl rfl rfl (WL.nil (N.seq (W.condT rfl (W.region (WL.fieldAddr fo_36_2 rfl rfl rfl ?_))))))))
     refine WL.store (L' := [(b16, .cells #[.int .i64 x15.op, .int .i64 (((updG (at13 b k).1 ((b.params.toNat + k : Nat) : Int) ((b.params.toNat + (at13 b k).2.length : Nat) : Int)) x15.a).getD 0), .int .i64 0, .int .u64 x15.k, .string x15.name, .slice adn ((anew13 (updG (at13 b k).1 ((b.params.toNat + k : Nat) : Int) ((b.params.toNat + (at13 b k).2.length : Nat) : Int)) x15.args).length) capn] 36 (0, 0)), (b7, .map es21 ck21), (b3, .cells #[.int .i64 0, .slice none 0 0, .int .i64 0, .int .i64 0, .int .i64 0, .slice none 0 0, .int .i64 0, .slice none 0 0] 32 (0, 0)), (b1, .cells #[.int .i64 b.params, .slice adi b.ins.length capi, .int .i64 b.fin.kind, .int .i64 b.fin.a, .int .i64 b.fin.to, .slice adp b.fin.args.length capp, .int .i64 b.fin.els, .slice adq b.fin.elses.length capq] 32 (0, 0))]) 0 rfl rfl rfl rfl siz_3 rfl rfl rfl rfl rfl hS ?_
     clear hS; intro w44 hS
     refine WL.nil (N.seq (W.seq (W.seq (W.region (WL.fieldAddr fo_36_0 rfl rfl rfl (WL.load1 (v := .int .i64 x15.op) one_3 rfl rfl rfl (hS.cell 0 rfl rfl) (WL.bin rfl rfl rfl rfl rfl ?_)))))))
     refine WL.set 88 (v' := .bool false) rfl (by rw [hg32]) ?_
     refine WL.nil (N.seq (W.condF rfl (W.skip (N.seq (W.region (WL.move rfl rfl rfl (WL.loadN (cs := [.int .i64 x15.op, .int .i64 (((updG (at13 b k).1 ((b.params.toNat + k : Nat) : Int) ((b.params.toNat + (at13 b k).2.length : Nat) : Int)) x15.a).getD 0), .int .i64 0, .int .u64 x15.k, .string x15.name, .slice adn ((anew13 (updG (at13 b k).1 ((b.params.toNat + k : Nat) : Int) ((b.params.toNat + (at13 b k).2.length : Nat) : Int)) x15.args).length) capn]) agg_36 rfl rfl rfl rfl (hS.cells 0 (m := 6) rfl rfl) ?_)))))))
     refine WL.buildSlice (ps := [(0, .agg #[.int .i64 x15.op, .int .i64 (((updG (at13 b k).1 ((b.params.toNat + k : Nat) : Int) ((b.params.toNat + (at13 b k).2.length : Nat) : Int)) x15.a).getD 0), .int .i64 0, .int .u64 x15.k, .string x15.name, .slice adn ((anew13 (updG (at13 b k).1 ((b.params.toNat + k : Nat) : Int) ((b.params.toNat + (at13 b k).2.length : Nat) : Int)) x15.args).length) capn])]) (cs := [.int .i64 x15.op, .int .i64 (((updG (at13 b k).1 ((b.params.toNat + k : Nat) : Int) ((b.params.toNat + (at13 b k).2.length : Nat) : Int)) x15.a).getD 0), .int .i64 0, .int .u64 x15.k, .string x15.name, .slice adn ((anew13 (updG (at13 b k).1 ((b.params.toNat + k : Nat) : Int) ((b.params.toNat + (at13 b k).2.length : Nat) : Int)) x15.args).length) capn]) Try.underlying27 (tyZero_spec zer_36) rfl rfl rfl rfl (by kernel_rfl) hS ?_
     clear hS; intro w46 b45 hb_b45 hS
     have hIC : InstC (roFrom R2 w28 w29) w29 [.int .i64 x15.op, .int .i64 (((updG (at13 b k).1 ((b.params.toNat + k : Nat) : Int) ((b.params.toNat + (at13 b k).2.length : Nat) : Int)) x15.a).getD 0), .int .i64 0, .int .u64 x15.k, .string x15.name, .slice adn ((anew13 (updG (at13 b k).1 ((b.params.toNat + k : Nat) : Int) ((b.params.toNat + (at13 b k).2.length : Nat) : Int)) x15.args).length) capn] (inst13 (updG (at13 b k).1 ((b.params.toNat + k : Nat) : Int) ((b.params.toNat + (at13 b k).2.length : Nat) : Int)) x15) := instC13 hQk15 hgi (i13_aU (by omega) (by omega)) (i13_b0 (by omega)) (by rw [show (inst13 (updG (at13 b k).1 ((b.params.toNat + k : Nat) : Int) ((b.params.toNat + (at13 b k).2.length : Nat) : Int)) x15).args = anew13 (updG (at13 b k).1 ((b.params.toNat + k : Nat) : Int) ((b.params.toNat + (at13 b k).2.length : Nat) : Int)) x15.args by simp only [inst13]; rw [if_pos (by omega)]]; exact hva)
     refine WL.append (r := ⟨.slice adv c capv, 36, 6, c, cs⟩) (cs := [.int .i64 x15.op, .int .i64 (((updG (at13 b k).1 ((b.params.toNat + k : Nat) : Int) ((b.params.toNat + (at13 b k).2.length : Nat) : Int)) x15.a).getD 0), .int .i64 0, .int .u64 x15.k, .string x15.name, .slice adn ((anew13 (updG (at13 b k).1 ((b.params.toNat + k : Nat) : Int) ((b.params.toNat + (at13 b k).2.length : Nat) : Int)) x15.args).length) capn]) 72 Try.underlying27 (tyZero_spec zer_36) byt_36 rfl rfl rfl rfl rfl rfl rfl rfl rfl hS (by unfold maxLen; simp only; omega) (by simp only; omega) ?_
     clear hS; intro w47 v48 hn_v48 hS
     have hrow : w47.ownsRow w.heap.size 36 6 v48 (c + 1) _ := hS.rows _ List.mem_cons_self
     obtain ⟨av48, cv48, rfl, hc1_v48, hc2_v48, hc3_v48⟩ := row_shape hrow
     clear hrow
     refine WL.assign rfl rfl rfl (WL.nil (N.blk (N.seq (W.region ?_))))
     refine WL.add (c := (k : Int) + 1) rfl rfl rfl rfl (rfl) (by omega) ?_
     refine WL.move rfl rfl rfl (WL.nil ?_)
     have hS := hS.dropN 1
     exact N.loop (k + 1, .slice av48 (c + 1) cv48, cs ++ ([.int .i64 x15.op, .int .i64 (((updG (at13 b k).1 ((b.params.toNat + k : Nat) : Int) ((b.params.toNat + (at13 b k).2.length : Nat) : Int)) x15.a).getD 0), .int .i64 0, .int .u64 x15.k, .string x15.name, .slice adn ((anew13 (updG (at13 b k).1 ((b.params.toNat + k : Nat) : Int) ((b.params.toNat + (at13 b k).2.length : Nat) : Int)) x15.args).length) capn] : List Value), es21, ck21, c + 1, (roFrom R2 w28 w29), w29) ⟨rfl, rfl, rfl, rfl, rfl, rfl, rfl, rfl, trivial⟩ ⟨hS, by omega, by rw [hst]; exact hM21, by rw [hst]; exact hch.snoc rfl hIC, by rw [hst, List.length_append, ← hc]; rfl, halL1, hsub⟩ (by first | omega | (simp only; omega))
    have hg32p : x15.op = 14 := by simpa using hg32
    refine WL.skp rfl rfl (WL.skp rfl rfl (WL.skp rfl rfl (WL.pick (v := .bool true) rfl rfl rfl rfl rfl rfl (WL.move rfl rfl rfl (WL.skp rfl rfl (WL.skp rfl rfl (WL.skp rfl rfl (WL.pick (v := .bool true) rfl rfl rfl rfl rfl rfl (WL.nil ?_)))))))))
    refine N.seq (W.condT rfl (W.region (WL.fieldAddr fo_36_2 rfl rfl rfl ?_)))
    refine WL.store (L' := [(b16, .cells #[.int .i64 x15.op, .int .i64 (((updG (at13 b k).1 ((b.params.toNat + k : Nat) : Int) ((b.params.toNat + (at13 b k).2.length : Nat) : Int)) x15.a).getD 0), .int .i64 0, .int .u64 x15.k, .string x15.name, .slice adn ((anew13 (updG (at13 b k).1 ((b.params.toNat + k : Nat) : Int) ((b.params.toNat + (at13 b k).2.length : Nat) : Int)) x15.args).length) capn] 36 (0, 0)), (b7, .map es21 ck21), (b3, .cells #[.int .i64 0, .slice none 0 0, .int .i64 0, .int .i64 0, .int .i64 0, .slice none 0 0, .int .i64 0, .slice none 0 0] 32 (0, 0)), (b1, .cells #[.int .i64 b.params, .slice adi b.ins.length capi, .int .i64 b.fin.kind, .int .i64 b.fin.a, .int .i64 b.fin.to, .slice adp b.fin.args.length capp, .int .i64 b.fin.els, .slice adq b.fin.elses.length capq] 32 (0, 0))]) 0 rfl rfl rfl rfl siz_3 rfl rfl rfl rfl rfl hS ?_
    clear hS; intro w49 hS
    refine WL.nil (N.seq (W.seq (W.seq (W.region (WL.fieldAddr fo_36_0 rfl rfl rfl (WL.load1 (v := .int .i64 x15.op) one_3 rfl rfl rfl (hS.cell 0 rfl rfl) (WL.bin rfl rfl rfl rfl rfl ?_)))))))
    refine WL.set 88 (v' := .bool true) rfl (by rw [hg32]) ?_
    refine WL.nil (N.seq (W.condT rfl (W.region (WL.fieldAddr fo_36_1 rfl rfl rfl ?_))))
    refine WL.store (L' := [(b16, .cells #[.int .i64 x15.op, .int .i64 0, .int .i64 0, .int .u64 x15.k, .string x15.name, .slice adn ((anew13 (updG (at13 b k).1 ((b.params.toNat + k : Nat) : Int) ((b.params.toNat + (at13 b k).2.length : Nat) : Int)) x15.args).length) capn] 36 (0, 0)), (b7, .map es21 ck21), (b3, .cells #[.int .i64 0, .slice none 0 0, .int .i64 0, .int .i64 0, .int .i64 0, .slice none 0 0, .int .i64 0, .slice none 0 0] 32 (0, 0)), (b1, .cells #[.int .i64 b.params, .slice adi b.ins.length capi, .int .i64 b.fin.kind, .int .i64 b.fin.a, .int .i64 b.fin.to, .slice adp b.fin.args.length capp, .int .i64 b.fin.els, .slice adq b.fin.elses.length capq] 32 (0, 0))]) 0 rfl rfl rfl rfl siz_3 rfl rfl rfl rfl rfl hS ?_
    clear hS; intro w50 hS
    refine WL.nil (N.seq (W.region (WL.move rfl rfl rfl (WL.loadN (cs := [.int .i64 x15.op, .int .i64 0, .int .i64 0, .int .u64 x15.k, .string x15.name, .slice adn ((anew13 (updG (at13 b k).1 ((b.params.toNat + k : Nat) : Int) ((b.params.toNat + (at13 b k).2.length : Nat) : Int)) x15.args).length) capn]) agg_36 rfl rfl rfl rfl (hS.cells 0 (m := 6) rfl rfl) ?_))))
    refine WL.buildSlice (ps := [(0, .agg #[.int .i64 x15.op, .int .i64 0, .int .i64 0, .int .u64 x15.k, .string x15.name, .slice adn ((anew13 (updG (at13 b k).1 ((b.params.toNat + k : Nat) : Int) ((b.params.toNat + (at13 b k).2.length : Nat) : Int)) x15.args).length) capn])]) (cs := [.int .i64 x15.op, .int .i64 0, .int .i64 0, .int .u64 x15.k, .string x15.name, .slice adn ((anew13 (updG (at13 b k).1 ((b.params.toNat + k : Nat) : Int) ((b.params.toNat + (at13 b k).2.length : Nat) : Int)) x15.args).length) capn]) Try.underlying27 (tyZero_spec zer_36) rfl rfl rfl rfl (by kernel_rfl) hS ?_
    clear hS; intro w52 b51 hb_b51 hS
    have hIC : InstC (roFrom R2 w28 w29) w29 [.int .i64 x15.op, .int .i64 0, .int .i64 0, .int .u64 x15.k, .string x15.name, .slice adn ((anew13 (updG (at13 b k).1 ((b.params.toNat + k : Nat) : Int) ((b.params.toNat + (at13 b k).2.length : Nat) : Int)) x15.args).length) capn] (inst13 (updG (at13 b k).1 ((b.params.toNat + k : Nat) : Int) ((b.params.toNat + (at13 b k).2.length : Nat) : Int)) x15) := instC13 hQk15 hgi (i13_a14 (by omega)) (i13_b0 (by omega)) (by rw [show (inst13 (updG (at13 b k).1 ((b.params.toNat + k : Nat) : Int) ((b.params.toNat + (at13 b k).2.length : Nat) : Int)) x15).args = anew13 (updG (at13 b k).1 ((b.params.toNat + k : Nat) : Int) ((b.params.toNat + (at13 b k).2.length : Nat) : Int)) x15.args by simp only [inst13]; rw [if_pos (by omega)]]; exact hva)
    refine WL.append (r := ⟨.slice adv c capv, 36, 6, c, cs⟩) (cs := [.int .i64 x15.op, .int .i64 0, .int .i64 0, .int .u64 x15.k, .string x15.name, .slice adn ((anew13 (updG (at13 b k).1 ((b.params.toNat + k : Nat) : Int) ((b.params.toNat + (at13 b k).2.length : Nat) : Int)) x15.args).length) capn]) 72 Try.underlying27 (tyZero_spec zer_36) byt_36 rfl rfl rfl rfl rfl rfl rfl rfl rfl hS (by unfold maxLen; simp only; omega) (by simp only; omega) ?_
    clear hS; intro w53 v54 hn_v54 hS
    have hrow : w53.ownsRow w.heap.size 36 6 v54 (c + 1) _ := hS.rows _ List.mem_cons_self
    obtain ⟨av54, cv54, rfl, hc1_v54, hc2_v54, hc3_v54⟩ := row_shape hrow
    clear hrow
    refine WL.assign rfl rfl rfl (WL.nil (N.blk (N.seq (W.region ?_))))
    refine WL.add (c := (k : Int) + 1) rfl rfl rfl rfl (rfl) (by omega) ?_
    refine WL.move rfl rfl rfl (WL.nil ?_)
    have hS := hS.dropN 1
    exact N.loop (k + 1, .slice av54 (c + 1) cv54, cs ++ ([.int .i64 x15.op, .int .i64 0, .int .i64 0, .int .u64 x15.k, .string x15.name, .slice adn ((anew13 (updG (at13 b k).1 ((b.params.toNat + k : Nat) : Int) ((b.params.toNat + (at13 b k).2.length : Nat) : Int)) x15.args).length) capn] : List Value), es21, ck21, c + 1, (roFrom R2 w28 w29), w29) ⟨rfl, rfl, rfl, rfl, rfl, rfl, rfl, rfl, trivial⟩ ⟨hS, by omega, by rw [hst]; exact hM21, by rw [hst]; exact hch.snoc rfl hIC, by rw [hst, List.length_append, ← hc]; rfl, halL1, hsub⟩ (by first | omega | (simp only; omega))
   have hc24p : ¬ (0 < ((uses5 x15).length : Int)) := by simpa using hc24
   refine W.skip (N.seq (W.seq (W.seq (W.region (WL.fieldAddr fo_36_0 rfl rfl rfl (WL.load1 (v := .int .i64 x15.op) one_3 rfl rfl rfl (hS.cell 0 rfl rfl) (WL.bin rfl rfl rfl rfl rfl (WL.move rfl rfl rfl ?_))))))))
   cases hg55 : (decide (x15.op = 14))
   ·
    have hg55p : ¬ (x15.op = 14) := by simpa using hg55
    refine WL.fieldAddr fo_36_0 rfl rfl rfl (WL.load1 (v := .int .i64 x15.op) one_3 rfl rfl rfl (hS.cell 0 rfl rfl) (WL.bin rfl rfl rfl rfl rfl (WL.pick (v := .bool (decide (x15.op = 13))) rfl rfl rfl rfl rfl rfl (WL.move rfl rfl rfl ?_))))
    cases hg56 : (decide (x15.op = 13))
    ·
     have hg56p : ¬ (x15.op = 13) := by simpa using hg56
     refine WL.fieldAddr fo_36_0 rfl rfl rfl (WL.load1 (v := .int .i64 x15.op) one_3 rfl rfl rfl (hS.cell 0 rfl rfl) (WL.bin rfl rfl rfl rfl rfl (WL.pick (v := .bool (decide (x15.op = 16))) rfl rfl rfl rfl rfl rfl (WL.nil (N.seq ?_)))))
     refine W.cond rfl (fun hc57 => ?_) (fun hc57 => ?_)
     ·
      have hc57p : x15.op = 16 := by simpa using hc57
      refine W.region (WL.fieldAddr fo_36_2 rfl rfl rfl ?_)
      refine WL.store (L' := [(b16, .cells #[.int .i64 x15.op, .int .i64 x15.a, .int .i64 0, .int .u64 x15.k, .string x15.name, .slice ad15 x15.args.length cap15] 36 (0, 0)), (b7, .map es21 ck21), (b3, .cells #[.int .i64 0, .slice none 0 0, .int .i64 0, .int .i64 0, .int .i64 0, .slice none 0 0, .int .i64 0, .slice none 0 0] 32 (0, 0)), (b1, .cells #[.int .i64 b.params, .slice adi b.ins.length capi, .int .i64 b.fin.kind, .int .i64 b.fin.a, .int .i64 b.fin.to, .slice adp b.fin.args.length capp, .int .i64 b.fin.els, .slice adq b.fin.elses.length capq] 32 (0, 0))]) 0 rfl rfl rfl rfl siz_3 rfl rfl rfl rfl rfl hS ?_
      clear hS; intro w58 hS
      refine WL.nil (N.seq (W.seq (W.seq (W.region (WL.fieldAddr fo_36_0 rfl rfl rfl (WL.load1 (v := .int .i64 x15.op) one_3 rfl rfl rfl (hS.cell 0 rfl rfl) (WL.bin rfl rfl rfl rfl rfl ?_)))))))
      refine WL.set 88 (v' := .bool false) rfl (by rw [hg55]) ?_
      refine WL.nil (N.seq (W.condF rfl (W.skip (N.seq (W.region (WL.move rfl rfl rfl (WL.loadN (cs := [.int .i64 x15.op, .int .i64 x15.a, .int .i64 0, .int .u64 x15.k, .string x15.name, .slice ad15 x15.args.length cap15]) agg_36 rfl rfl rfl rfl (hS.cells 0 (m := 6) rfl rfl) ?_)))))))
      refine WL.buildSlice (ps := [(0, .agg #[.int .i64 x15.op, .int .i64 x15.a, .int .i64 0, .int .u64 x15.k, .string x15.name, .slice ad15 x15.args.length cap15])]) (cs := [.int .i64 x15.op, .int .i64 x15.a, .int .i64 0, .int .u64 x15.k, .string x15.name, .slice ad15 x15.args.length cap15]) Try.underlying27 (tyZero_spec zer_36) rfl rfl rfl rfl (by kernel_rfl) hS ?_
      clear hS; intro w60 b59 hb_b59 hS
      have hIC : InstC R2 ws2 [.int .i64 x15.op, .int .i64 x15.a, .int .i64 0, .int .u64 x15.k, .string x15.name, .slice ad15 x15.args.length cap15] (inst13 (updG (at13 b k).1 ((b.params.toNat + k : Nat) : Int) ((b.params.toNat + (at13 b k).2.length : Nat) : Int)) x15) := instC13 hQk15 hgi (i13_aN (by omega) (by omega)) (i13_b0 (by omega)) (by rw [show (inst13 (updG (at13 b k).1 ((b.params.toNat + k : Nat) : Int) ((b.params.toNat + (at13 b k).2.length : Nat) : Int)) x15).args = x15.args by simp only [inst13]; rw [if_neg (by omega)]]; exact hs15)
      refine WL.append (r := ⟨.slice adv c capv, 36, 6, c, cs⟩) (cs := [.int .i64 x15.op, .int .i64 x15.a, .int .i64 0, .int .u64 x15.k, .string x15.name, .slice ad15 x15.args.length cap15]) 72 Try.underlying27 (tyZero_spec zer_36) byt_36 rfl rfl rfl rfl rfl rfl rfl rfl rfl hS (by unfold maxLen; simp only; omega) (by simp only; omega) ?_
      clear hS; intro w61 v62 hn_v62 hS
      have hrow : w61.ownsRow w.heap.size 36 6 v62 (c + 1) _ := hS.rows _ List.mem_cons_self
      obtain ⟨av62, cv62, rfl, hc1_v62, hc2_v62, hc3_v62⟩ := row_shape hrow
      clear hrow
      refine WL.assign rfl rfl rfl (WL.nil (N.blk (N.seq (W.region ?_))))
      refine WL.add (c := (k : Int) + 1) rfl rfl rfl rfl (rfl) (by omega) ?_
      refine WL.move rfl rfl rfl (WL.nil ?_)
      have hS := hS.dropN 1
      exact N.loop (k + 1, .slice av62 (c + 1) cv62, cs ++ ([.int .i64 x15.op, .int .i64 x15.a, .int .i64 0, .int .u64 x15.k, .string x15.name, .slice ad15 x15.args.length cap15] : List Value), es21, ck21, c + 1, R2, ws2) ⟨rfl, rfl, rfl, rfl, rfl, rfl, rfl, rfl, trivial⟩ ⟨hS, by omega, by rw [hst]; exact hM21, by rw [hst]; exact hch.snoc rfl hIC, by rw [hst, List.length_append, ← hc]; rfl, halL1, hsub⟩ (by first | omega | (simp only; omega))
     have hc57p : ¬ (x15.op = 16) := by simpa using hc57
     refine W.skip (N.seq (W.seq (W.seq (W.region (WL.fieldAddr fo_36_0 rfl rfl rfl (WL.load1 (v := .int .i64 x15.op) one_3 rfl rfl rfl (hS.cell 0 rfl rfl) (WL.bin rfl rfl rfl rfl rfl ?_)))))))
     refine WL.set 88 (v' := .bool false) rfl (by rw [hg55]) ?_
     refine WL.nil (N.seq (W.condF rfl (W.skip (N.seq (W.region (WL.move rfl rfl rfl (WL.loadN (cs := [.int .i64 x15.op, .int .i64 x15.a, .int .i64 x15.b, .int .u64 x15.k, .string x15.name, .slice ad15 x15.args.length cap15]) agg_36 rfl rfl rfl rfl (hS.cells 0 (m := 6) rfl rfl) ?_)))))))
     refine WL.buildSlice (ps := [(0, .agg #[.int .i64 x15.op, .int .i64 x15.a, .int .i64 x15.b, .int .u64 x15.k, .string x15.name, .slice ad15 x15.args.length cap15])]) (cs := [.int .i64 x15.op, .int .i64 x15.a, .int .i64 x15.b, .int .u64 x15.k, .string x15.name, .slice ad15 x15.args.length cap15]) Try.underlying27 (tyZero_spec zer_36) rfl rfl rfl rfl (by kernel_rfl) hS ?_
     clear hS; intro w64 b63 hb_b63 hS
     have hIC : InstC R2 ws2 [.int .i64 x15.op, .int .i64 x15.a, .int .i64 x15.b, .int .u64 x15.k, .string x15.name, .slice ad15 x15.args.length cap15] (inst13 (updG (at13 b k).1 ((b.params.toNat + k : Nat) : Int) ((b.params.toNat + (at13 b k).2.length : Nat) : Int)) x15) := instC13 hQk15 hgi (i13_aN (by omega) (by omega)) (i13_bN (by omega) (by omega)) (by rw [show (inst13 (updG (at13 b k).1 ((b.params.toNat + k : Nat) : Int) ((b.params.toNat + (at13 b k).2.length : Nat) : Int)) x15).args = x15.args by simp only [inst13]; rw [if_neg (by omega)]]; exact hs15)
     refine WL.append (r := ⟨.slice adv c capv, 36, 6, c, cs⟩) (cs := [.int .i64 x15.op, .int .i64 x15.a, .int .i64 x15.b, .int .u64 x15.k, .string x15.name, .slice ad15 x15.args.length cap15]) 72 Try.underlying27 (tyZero_spec zer_36) byt_36 rfl rfl rfl rfl rfl rfl rfl rfl rfl hS (by unfold maxLen; simp only; omega) (by simp only; omega) ?_
     clear hS; intro w65 v66 hn_v66 hS
     have hrow : w65.ownsRow w.heap.size 36 6 v66 (c + 1) _ := hS.rows _ List.mem_cons_self
     obtain ⟨av66, cv66, rfl, hc1_v66, hc2_v66, hc3_v66⟩ := row_shape hrow
     clear hrow
     refine WL.assign rfl rfl rfl (WL.nil (N.blk (N.seq (W.region ?_))))
     refine WL.add (c := (k : Int) + 1) rfl rfl rfl rfl (rfl) (by omega) ?_
     refine WL.move rfl rfl rfl (WL.nil ?_)
     have hS := hS.dropN 1
     exact N.loop (k + 1, .slice av66 (c + 1) cv66, cs ++ ([.int .i64 x15.op, .int .i64 x15.a, .int .i64 x15.b, .int .u64 x15.k, .string x15.name, .slice ad15 x15.args.length cap15] : List Value), es21, ck21, c + 1, R2, ws2) ⟨rfl, rfl, rfl, rfl, rfl, rfl, rfl, rfl, trivial⟩ ⟨hS, by omega, by rw [hst]; exact hM21, by rw [hst]; exact hch.snoc rfl hIC, by rw [hst, List.length_append, ← hc]; rfl, halL1, hsub⟩ (by first | omega | (simp only; omega))
    have hg56p : x15.op = 13 := by simpa using hg56
    refine WL.skp rfl rfl (WL.skp rfl rfl (WL.skp rfl rfl (WL.pick (v := .bool true) rfl rfl rfl rfl rfl rfl (WL.nil (N.seq (W.condT rfl (W.region (WL.fieldAddr fo_36_2 rfl rfl rfl ?_))))))))
    refine WL.store (L' := [(b16, .cells #[.int .i64 x15.op, .int .i64 x15.a, .int .i64 0, .int .u64 x15.k, .string x15.name, .slice ad15 x15.args.length cap15] 36 (0, 0)), (b7, .map es21 ck21), (b3, .cells #[.int .i64 0, .slice none 0 0, .int .i64 0, .int .i64 0, .int .i64 0, .slice none 0 0, .int .i64 0, .slice none 0 0] 32 (0, 0)), (b1, .cells #[.int .i64 b.params, .slice adi b.ins.length capi, .int .i64 b.fin.kind, .int .i64 b.fin.a, .int .i64 b.fin.to, .slice adp b.fin.args.length capp, .int .i64 b.fin.els, .slice adq b.fin.elses.length capq] 32 (0, 0))]) 0 rfl rfl rfl rfl siz_3 rfl rfl rfl rfl rfl hS ?_
    clear hS; intro w67 hS
    refine WL.nil (N.seq (W.seq (W.seq (W.region (WL.fieldAddr fo_36_0 rfl rfl rfl (WL.load1 (v := .int .i64 x15.op) one_3 rfl rfl rfl (hS.cell 0 rfl rfl) (WL.bin rfl rfl rfl rfl rfl ?_)))))))
    refine WL.set 88 (v' := .bool false) rfl (by rw [hg55]) ?_
    refine WL.nil (N.seq (W.condF rfl (W.skip (N.seq (W.region (WL.move rfl rfl rfl (WL.loadN (cs := [.int .i64 x15.op, .int .i64 x15.a, .int .i64 0, .int .u64 x15.k, .string x15.name, .slice ad15 x15.args.length cap15]) agg_36 rfl rfl rfl rfl (hS.cells 0 (m := 6) rfl rfl) ?_)))))))
    refine WL.buildSlice (ps := [(0, .agg #[.int .i64 x15.op, .int .i64 x15.a, .int .i64 0, .int .u64 x15.k, .string x15.name, .slice ad15 x15.args.length cap15])]) (cs := [.int .i64 x15.op, .int .i64 x15.a, .int .i64 0, .int .u64 x15.k, .string x15.name, .slice ad15 x15.args.length cap15]) Try.underlying27 (tyZero_spec zer_36) rfl rfl rfl rfl (by kernel_rfl) hS ?_
    clear hS; intro w69 b68 hb_b68 hS
    have hIC : InstC R2 ws2 [.int .i64 x15.op, .int .i64 x15.a, .int .i64 0, .int .u64 x15.k, .string x15.name, .slice ad15 x15.args.length cap15] (inst13 (updG (at13 b k).1 ((b.params.toNat + k : Nat) : Int) ((b.params.toNat + (at13 b k).2.length : Nat) : Int)) x15) := instC13 hQk15 hgi (i13_aN (by omega) (by omega)) (i13_b0 (by omega)) (by rw [show (inst13 (updG (at13 b k).1 ((b.params.toNat + k : Nat) : Int) ((b.params.toNat + (at13 b k).2.length : Nat) : Int)) x15).args = x15.args by simp only [inst13]; rw [if_neg (by omega)]]; exact hs15)
    refine WL.append (r := ⟨.slice adv c capv, 36, 6, c, cs⟩) (cs := [.int .i64 x15.op, .int .i64 x15.a, .int .i64 0, .int .u64 x15.k, .string x15.name, .slice ad15 x15.args.length cap15]) 72 Try.underlying27 (tyZero_spec zer_36) byt_36 rfl rfl rfl rfl rfl rfl rfl rfl rfl hS (by unfold maxLen; simp only; omega) (by simp only; omega) ?_
    clear hS; intro w70 v71 hn_v71 hS
    have hrow : w70.ownsRow w.heap.size 36 6 v71 (c + 1) _ := hS.rows _ List.mem_cons_self
    obtain ⟨av71, cv71, rfl, hc1_v71, hc2_v71, hc3_v71⟩ := row_shape hrow
    clear hrow
    refine WL.assign rfl rfl rfl (WL.nil (N.blk (N.seq (W.region ?_))))
    refine WL.add (c := (k : Int) + 1) rfl rfl rfl rfl (rfl) (by omega) ?_
    refine WL.move rfl rfl rfl (WL.nil ?_)
    have hS := hS.dropN 1
    exact N.loop (k + 1, .slice av71 (c + 1) cv71, cs ++ ([.int .i64 x15.op, .int .i64 x15.a, .int .i64 0, .int .u64 x15.k, .string x15.name, .slice ad15 x15.args.length cap15] : List Value), es21, ck21, c + 1, R2, ws2) ⟨rfl, rfl, rfl, rfl, rfl, rfl, rfl, rfl, trivial⟩ ⟨hS, by omega, by rw [hst]; exact hM21, by rw [hst]; exact hch.snoc rfl hIC, by rw [hst, List.length_append, ← hc]; rfl, halL1, hsub⟩ (by first | omega | (simp only; omega))
   have hg55p : x15.op = 14 := by simpa using hg55
   refine WL.skp rfl rfl (WL.skp rfl rfl (WL.skp rfl rfl (WL.pick (v := .bool true) rfl rfl rfl rfl rfl rfl (WL.move rfl rfl rfl (WL.skp rfl rfl (WL.skp rfl rfl (WL.skp rfl rfl (WL.pick (v := .bool true) rfl rfl rfl rfl rfl rfl (WL.nil ?_)))))))))
   refine N.seq (W.condT rfl (W.region (WL.fieldAddr fo_36_2 rfl rfl rfl ?_)))
   refine WL.store (L' := [(b16, .cells #[.int .i64 x15.op, .int .i64 x15.a, .int .i64 0, .int .u64 x15.k, .string x15.name, .slice ad15 x15.args.length cap15] 36 (0, 0)), (b7, .map es21 ck21), (b3, .cells #[.int .i64 0, .slice none 0 0, .int .i64 0, .int .i64 0, .int .i64 0, .slice none 0 0, .int .i64 0, .slice none 0 0] 32 (0, 0)), (b1, .cells #[.int .i64 b.params, .slice adi b.ins.length capi, .int .i64 b.fin.kind, .int .i64 b.fin.a, .int .i64 b.fin.to, .slice adp b.fin.args.length capp, .int .i64 b.fin.els, .slice adq b.fin.elses.length capq] 32 (0, 0))]) 0 rfl rfl rfl rfl siz_3 rfl rfl rfl rfl rfl hS ?_
   clear hS; intro w72 hS
   refine WL.nil (N.seq (W.seq (W.seq (W.region (WL.fieldAddr fo_36_0 rfl rfl rfl (WL.load1 (v := .int .i64 x15.op) one_3 rfl rfl rfl (hS.cell 0 rfl rfl) (WL.bin rfl rfl rfl rfl rfl ?_)))))))
   refine WL.set 88 (v' := .bool true) rfl (by rw [hg55]) ?_
   refine WL.nil (N.seq (W.condT rfl (W.region (WL.fieldAddr fo_36_1 rfl rfl rfl ?_))))
   refine WL.store (L' := [(b16, .cells #[.int .i64 x15.op, .int .i64 0, .int .i64 0, .int .u64 x15.k, .string x15.name, .slice ad15 x15.args.length cap15] 36 (0, 0)), (b7, .map es21 ck21), (b3, .cells #[.int .i64 0, .slice none 0 0, .int .i64 0, .int .i64 0, .int .i64 0, .slice none 0 0, .int .i64 0, .slice none 0 0] 32 (0, 0)), (b1, .cells #[.int .i64 b.params, .slice adi b.ins.length capi, .int .i64 b.fin.kind, .int .i64 b.fin.a, .int .i64 b.fin.to, .slice adp b.fin.args.length capp, .int .i64 b.fin.els, .slice adq b.fin.elses.length capq] 32 (0, 0))]) 0 rfl rfl rfl rfl siz_3 rfl rfl rfl rfl rfl hS ?_
   clear hS; intro w73 hS
   refine WL.nil (N.seq (W.region (WL.move rfl rfl rfl (WL.loadN (cs := [.int .i64 x15.op, .int .i64 0, .int .i64 0, .int .u64 x15.k, .string x15.name, .slice ad15 x15.args.length cap15]) agg_36 rfl rfl rfl rfl (hS.cells 0 (m := 6) rfl rfl) ?_))))
   refine WL.buildSlice (ps := [(0, .agg #[.int .i64 x15.op, .int .i64 0, .int .i64 0, .int .u64 x15.k, .string x15.name, .slice ad15 x15.args.length cap15])]) (cs := [.int .i64 x15.op, .int .i64 0, .int .i64 0, .int .u64 x15.k, .string x15.name, .slice ad15 x15.args.length cap15]) Try.underlying27 (tyZero_spec zer_36) rfl rfl rfl rfl (by kernel_rfl) hS ?_
   clear hS; intro w75 b74 hb_b74 hS
   have hIC : InstC R2 ws2 [.int .i64 x15.op, .int .i64 0, .int .i64 0, .int .u64 x15.k, .string x15.name, .slice ad15 x15.args.length cap15] (inst13 (updG (at13 b k).1 ((b.params.toNat + k : Nat) : Int) ((b.params.toNat + (at13 b k).2.length : Nat) : Int)) x15) := instC13 hQk15 hgi (i13_a14 (by omega)) (i13_b0 (by omega)) (by rw [show (inst13 (updG (at13 b k).1 ((b.params.toNat + k : Nat) : Int) ((b.params.toNat + (at13 b k).2.length : Nat) : Int)) x15).args = x15.args by simp only [inst13]; rw [if_neg (by omega)]]; exact hs15)
   refine WL.append (r := ⟨.slice adv c capv, 36, 6, c, cs⟩) (cs := [.int .i64 x15.op, .int .i64 0, .int .i64 0, .int .u64 x15.k, .string x15.name, .slice ad15 x15.args.length cap15]) 72 Try.underlying27 (tyZero_spec zer_36) byt_36 rfl rfl rfl rfl rfl rfl rfl rfl rfl hS (by unfold maxLen; simp only; omega) (by simp only; omega) ?_
   clear hS; intro w76 v77 hn_v77 hS
   have hrow : w76.ownsRow w.heap.size 36 6 v77 (c + 1) _ := hS.rows _ List.mem_cons_self
   obtain ⟨av77, cv77, rfl, hc1_v77, hc2_v77, hc3_v77⟩ := row_shape hrow
   clear hrow
   refine WL.assign rfl rfl rfl (WL.nil (N.blk (N.seq (W.region ?_))))
   refine WL.add (c := (k : Int) + 1) rfl rfl rfl rfl (rfl) (by omega) ?_
   refine WL.move rfl rfl rfl (WL.nil ?_)
   have hS := hS.dropN 1
   exact N.loop (k + 1, .slice av77 (c + 1) cv77, cs ++ ([.int .i64 x15.op, .int .i64 0, .int .i64 0, .int .u64 x15.k, .string x15.name, .slice ad15 x15.args.length cap15] : List Value), es21, ck21, c + 1, R2, ws2) ⟨rfl, rfl, rfl, rfl, rfl, rfl, rfl, rfl, trivial⟩ ⟨hS, by omega, by rw [hst]; exact hM21, by rw [hst]; exact hch.snoc rfl hIC, by rw [hst, List.length_append, ← hc]; rfl, halL1, hsub⟩ (by first | omega | (simp only; omega))
  refine WL.move rfl rfl rfl (WL.fieldAddr fo_32_0 rfl rfl rfl (WL.load1 (v := .int .i64 b.params) one_3 rfl rfl rfl (hS.cell 3 rfl rfl) (WL.move rfl rfl rfl ?_)))
  refine WL.add (c := ((b.params.toNat + k : Nat) : Int)) rfl rfl rfl rfl (by omega) (by omega) ?_
  have hj78 : (b.params.toNat + k : Nat) < (used13 b).length := by omega
  obtain ⟨x78, hx78⟩ : ∃ zz, (used13 b)[(b.params.toNat + k : Nat)]? = some zz := ⟨_, List.getElem?_eq_getElem hj78⟩
  obtain ⟨b78, o78, cs78, hE78, hr78, hl78, hc78, hQ78⟩ := hvud (b.params.toNat + k : Nat) _ hx78
  cases hQ78
  refine WL.indexAddrE (j := (b.params.toNat + k : Nat)) Try.underlying40 isz_4 rfl rfl rfl rfl hj78 hE78 (WL.load1 (v := .bool x78) one_4 rfl rfl rfl (hS.roCells hr78 hc78 0 _ rfl) (WL.not rfl rfl rfl (WL.pick (v := .bool (!x78)) rfl rfl rfl rfl rfl rfl (WL.nil (N.seq ?_)))))
  refine W.cond rfl (fun hc79 => ?_) (fun hc79 => ?_)
  ·
   refine W.exit (X.seq (X.blk (N.seq (W.region ?_))))
   refine WL.add (c := (k : Int) + 1) rfl rfl rfl rfl (rfl) (by omega) ?_
   refine WL.move rfl rfl rfl (WL.nil ?_)
   have hS := hS.dropN 1
   have hst := at13_no hx15 (by simpa using hg20) (by have h2 := hc79; simp at h2; rw [hx78, h2])
   exact N.loop (k + 1, .slice adv c capv, cs, es1, ck1, c, R2, ws2) ⟨rfl, rfl, rfl, rfl, rfl, rfl, rfl, rfl, trivial⟩ ⟨hS, by omega, by rw [hst]; exact hM1.mono (by omega), by rw [hst]; exact hch, by rw [hst]; exact hc, halL1, hsub⟩ (by first | omega | (simp only; omega))
  refine W.skip (N.seq (W.seq (W.region (WL.move rfl rfl rfl (WL.fieldAddr fo_32_0 rfl rfl rfl (WL.load1 (v := .int .i64 b.params) one_3 rfl rfl rfl (hS.cell 3 rfl rfl) (WL.move rfl rfl rfl ?_)))))))
  refine WL.add (c := ((b.params.toNat + k : Nat) : Int)) rfl rfl rfl rfl (by omega) (by omega) ?_
  refine WL.fieldAddr fo_32_0 rfl rfl rfl (WL.load1 (v := .int .i64 b.params) one_3 rfl rfl rfl (hS.cell 3 rfl rfl) (WL.move rfl rfl rfl (WL.lenSlice Try.underlying27 rfl rfl rfl ?_)))
  refine WL.add (c := ((b.params.toNat + (at13 b k).2.length : Nat) : Int)) rfl rfl rfl rfl (by omega) (by omega) ?_
  refine WL.mapPut 1 ((b.params.toNat + k : Nat) : Int) ((b.params.toNat + (at13 b k).2.length : Nat) : Int) keyE_int Try.underlying63 Try.underlying3 hM1 rfl rfl rfl rfl rfl hS ?_
  clear hS; intro w81 es80 ck80 hM80 hS
  refine WL.nil (N.seq (W.seq (W.seq (W.region (WL.loadN (cs := [.int .i64 x15.op, .int .i64 x15.a, .int .i64 x15.b, .int .u64 x15.k, .string x15.name, .slice ad15 x15.args.length cap15]) agg_36 rfl rfl rfl rfl (hS.cells 0 (m := 6) rfl rfl) ?_)))))
  have hkp : does13 x15 = true ∨ (used13 b)[b.params.toNat + k]? = some true := .inr (by have h2 := hc79; simp at h2; rw [hx78, h2])
  have hst := at13_yes hx15 hkp
  have hsm2 := at13_small b hok.p1 (k + 1) (by omega) hok.n
  rw [hst] at hsm2; dsimp only at hsm2
  have hgi := small_inI hsm2
  refine WL.callF (vs := [.agg #[.int .i64 x15.op, .int .i64 x15.a, .int .i64 x15.b, .int .u64 x15.k, .string x15.name, .slice ad15 x15.args.length cap15]]) Try.func32 (by kernel_rfl) rfl rfl rfl (iuses_ret x15 _ (ro := R2) (fun b hb => (hS.snap b hb).1) (hQk15.keep hS.alike) (Nat.le_trans (hok.args _ (List.mem_of_getElem? hx15)) (by decide))) ?_
  rintro v w82 ⟨hvz, hbl⟩
  replace hS := hS.grow hbl
  obtain ⟨adz, capz, rfl, _, _, _, _⟩ := id hvz
  refine WL.lenSlice Try.underlying28 rfl rfl rfl (WL.bin rfl rfl rfl rfl rfl (WL.nil (N.seq ?_)))
  refine W.cond rfl (fun hc83 => ?_) (fun hc83 => ?_)
  ·
   have hc83p : 0 < ((uses5 x15).length : Int) := by simpa using hc83
   refine W.seq ?_
   refine W.drawS (L' := [(b16, .cells #[.int .i64 x15.op, .int .i64 (((updG (at13 b k).1 ((b.params.toNat + k : Nat) : Int) ((b.params.toNat + (at13 b k).2.length : Nat) : Int)) x15.a).getD 0), .int .i64 x15.b, .int .u64 x15.k, .string x15.name, .slice ad15 x15.args.length cap15] 36 (0, 0)), (b7, .map es80 ck80), (b3, .cells #[.int .i64 0, .slice none 0 0, .int .i64 0, .int .i64 0, .int .i64 0, .slice none 0 0, .int .i64 0, .slice none 0 0] 32 (0, 0)), (b1, .cells #[.int .i64 b.params, .slice adi b.ins.length capi, .int .i64 b.fin.kind, .int .i64 b.fin.a, .int .i64 b.fin.to, .slice adp b.fin.args.length capp, .int .i64 b.fin.els, .slice adq b.fin.elses.length capq] 32 (0, 0))]) (by kernel_rfl) 10 9 [(.map (some b7), true), (.pointer (some ⟨b16, 1, none⟩), true), (.int .i64 x15.a, true), (.int .i64 (((updG (at13 b k).1 ((b.params.toNat + k : Nat) : Int) ((b.params.toNat + (at13 b k).2.length : Nat) : Int)) x15.a).getD 0), true), (.map (some b7), false), (.pointer (some ⟨b16, 2, none⟩), true), (.int .i64 x15.b, true), (.int .i64 (((updG (at13 b k).1 ((b.params.toNat + k : Nat) : Int) ((b.params.toNat + (at13 b k).2.length : Nat) : Int)) x15.b).getD 0), false), (.pointer (some ⟨b16, 1, none⟩), true), (undef, false)] (by kernel_rfl) rfl (by kernel_rfl) rfl rfl [(1, .pointer (some ⟨b1, 0, none⟩)), (2, .pointer (some ⟨b3, 0, none⟩)), (3, .slice adu ((used13 b).length) capu), (4, .map (some b7)), (6, .slice adv c capv), (8, .pointer (some ⟨b16, 0, none⟩)), (23, .slice adi b.ins.length capi), (24, .int .i64 (b.ins.length : Int)), (25, .int .i64 (k : Int))] ⟨rfl, rfl, rfl, rfl, rfl, rfl, rfl, rfl, rfl, trivial⟩ rfl hS ?_ ?_
   ·
    refine And.intro (fun C hC wd hCw => ?_) ?_
    ·
     rcases hC with rfl | hC
     ·
      refine WL.sub (σ' := [(4, .map (some b7))]) ⟨rfl, trivial⟩ ?_
      replace hS := hCw
      refine WL.move rfl rfl rfl ?_
      exact WL.nil (N.cut () ⟨rfl, trivial⟩ (Below.refl _ _))
     exact False.elim hC
    refine And.intro (fun C hC wd hCw => ?_) ?_
    ·
     rcases hC with rfl | hC
     ·
      refine WL.sub (σ' := [(8, .pointer (some ⟨b16, 0, none⟩))]) ⟨rfl, trivial⟩ ?_
      replace hS := hCw
      refine WL.fieldAddr fo_36_1 rfl rfl rfl ?_
      exact WL.nil (N.cut () ⟨rfl, trivial⟩ (Below.refl _ _))
     exact False.elim hC
    refine And.intro (fun C hC wd hCw => ?_) ?_
    ·
     rcases hC with rfl | hC
     ·
      refine WL.sub (σ' := [(58, .pointer (some ⟨b16, 1, none⟩))]) ⟨rfl, trivial⟩ ?_
      replace hS := hCw
      refine WL.load1 (v := .int .i64 x15.a) one_3 rfl rfl rfl (hS.cell 0 rfl rfl) ?_
      exact WL.nil (N.cut () ⟨rfl, trivial⟩ (Below.refl _ _))
     exact False.elim hC
    refine And.intro (fun C hC wd hCw => ?_) ?_
    ·
     rcases hC with rfl | hC
     ·
      refine WL.sub (σ' := [(57, .map (some b7)), (59, .int .i64 x15.a)]) ⟨rfl, rfl, trivial⟩ ?_
      replace hS := hCw
      refine WL.mapGet x15.a keyE_int Try.underlying63 Try.underlying3 zb_3 hM80 rfl rfl rfl rfl (hS.own _ (List.mem_of_getElem? (i := 1) rfl)) (v := .int .i64 (((updG (at13 b k).1 ((b.params.toNat + k : Nat) : Int) ((b.params.toNat + (at13 b k).2.length : Nat) : Int)) x15.a).getD 0)) (by cases (updG (at13 b k).1 ((b.params.toNat + k : Nat) : Int) ((b.params.toNat + (at13 b k).2.length : Nat) : Int)) x15.a <;> rfl) ?_
      exact WL.nil (N.cut () ⟨rfl, trivial⟩ (Below.refl _ _))
     exact False.elim hC
    refine And.intro (fun C hC wd hCw => ?_) ?_
    ·
     rcases hC with rfl | hC
     ·
      refine WL.sub (σ' := [(4, .map (some b7))]) ⟨rfl, trivial⟩ ?_
      replace hS := hCw
      refine WL.move rfl rfl rfl ?_
      exact WL.nil (N.cut () ⟨rfl, trivial⟩ (Below.refl _ _))
     cases hC
     refine WL.sub (σ' := [(4, .map (some b7))]) ⟨rfl, trivial⟩ ?_
     replace hS := hCw
     refine WL.move rfl rfl rfl ?_
     exact WL.nil (N.cut () ⟨rfl, trivial⟩ (Below.refl _ _))
    refine And.intro (fun C hC wd hCw => ?_) ?_
    ·
     rcases hC with rfl | hC
     ·
      refine WL.sub (σ' := [(8, .pointer (some ⟨b16, 0, none⟩))]) ⟨rfl, trivial⟩ ?_
      replace hS := hCw
      refine WL.fieldAddr fo_36_2 rfl rfl rfl ?_
      exact WL.nil (N.cut () ⟨rfl, trivial⟩ (Below.refl _ _))
     exact False.elim hC
    refine And.intro (fun C hC wd hCw => ?_) ?_
    ·
     rcases hC with rfl | hC
     ·
      refine WL.sub (σ' := [(62, .pointer (some ⟨b16, 2, none⟩))]) ⟨rfl, trivial⟩ ?_
      replace hS := hCw
      refine WL.load1 (v := .int .i64 x15.b) one_3 rfl rfl rfl (hS.cell 0 rfl rfl) ?_
      exact WL.nil (N.cut () ⟨rfl, trivial⟩ (Below.refl _ _))
     exact False.elim hC
    refine And.intro (fun C hC wd hCw => ?_) ?_
    ·
     rcases hC with rfl | hC
     ·
      refine WL.sub (σ' := [(61, .map (some b7)), (63, .int .i64 x15.b)]) ⟨rfl, rfl, trivial⟩ ?_
      replace hS := hCw
      refine WL.mapGet x15.b keyE_int Try.underlying63 Try.underlying3 zb_3 hM80 rfl rfl rfl rfl (hS.own _ (List.mem_of_getElem? (i := 1) rfl)) (v := .int .i64 (((updG (at13 b k).1 ((b.params.toNat + k : Nat) : Int) ((b.params.toNat + (at13 b k).2.length : Nat) : Int)) x15.b).getD 0)) (by cases (updG (at13 b k).1 ((b.params.toNat + k : Nat) : Int) ((b.params.toNat + (at13 b k).2.length : Nat) : Int)) x15.b <;> rfl) ?_
      exact WL.nil (N.cut () ⟨rfl, trivial⟩ (Below.refl _ _))
     cases hC
     refine WL.sub (σ' := [(61, .map (some b7)), (63, .int .i64 x15.b)]) ⟨rfl, rfl, trivial⟩ ?_
     replace hS := hCw
     refine WL.mapGet x15.b keyE_int Try.underlying63 Try.underlying3 zb_3 hM80 rfl rfl rfl rfl (hS.own _ (List.mem_of_getElem? (i := 1) rfl)) (v := .int .i64 (((updG (at13 b k).1 ((b.params.toNat + k : Nat) : Int) ((b.params.toNat + (at13 b k).2.length : Nat) : Int)) x15.b).getD 0)) (by cases (updG (at13 b k).1 ((b.params.toNat + k : Nat) : Int) ((b.params.toNat + (at13 b k).2.length : Nat) : Int)) x15.b <;> rfl) ?_
     exact WL.nil (N.cut () ⟨rfl, trivial⟩ (Below.refl _ _))
    refine And.intro (fun C hC wd hCw => ?_) ?_
    ·
     rcases hC with rfl | hC
     ·
      refine WL.sub (σ' := [(8, .pointer (some ⟨b16, 0, none⟩))]) ⟨rfl, trivial⟩ ?_
      replace hS := hCw
      refine WL.fieldAddr fo_36_1 rfl rfl rfl ?_
      exact WL.nil (N.cut () ⟨rfl, trivial⟩ (Below.refl _ _))
     exact False.elim hC
    refine And.intro (fun wd hCw => ?_) ?_
    ·
     refine WL.sub (σ' := [(60, .int .i64 (((updG (at13 b k).1 ((b.params.toNat + k : Nat) : Int) ((b.params.toNat + (at13 b k).2.length : Nat) : Int)) x15.a).getD 0)), (65, .pointer (some ⟨b16, 1, none⟩))]) ⟨rfl, rfl, trivial⟩ ?_
     replace hS := hCw
     refine WL.store (L' := [(b16, .cells #[.int .i64 x15.op, .int .i64 (((updG (at13 b k).1 ((b.params.toNat + k : Nat) : Int) ((b.params.toNat + (at13 b k).2.length : Nat) : Int)) x15.a).getD 0), .int .i64 x15.b, .int .u64 x15.k, .string x15.name, .slice ad15 x15.args.length cap15] 36 (0, 0)), (b7, .map es80 ck80), (b3, .cells #[.int .i64 0, .slice none 0 0, .int .i64 0, .int .i64 0, .int .i64 0, .slice none 0 0, .int .i64 0, .slice none 0 0] 32 (0, 0)), (b1, .cells #[.int .i64 b.params, .slice adi b.ins.length capi, .int .i64 b.fin.kind, .int .i64 b.fin.a, .int .i64 b.fin.to, .slice adp b.fin.args.length capp, .int .i64 b.fin.els, .slice adq b.fin.elses.length capq] 32 (0, 0))]) 0 rfl rfl rfl rfl siz_3 rfl rfl rfl rfl rfl hS ?_
     clear hS; intro w85 hS
     exact WL.nil (N.cut () trivial hS)
    trivial
   clear hS; intro w86 hS
   refine WL.sub (σ' := [(1, .pointer (some ⟨b1, 0, none⟩)), (2, .pointer (some ⟨b3, 0, none⟩)), (3, .slice adu ((used13 b).length) capu), (4, .map (some b7)), (6, .slice adv c capv), (8, .pointer (some ⟨b16, 0, none⟩)), (23, .slice adi b.ins.length capi), (24, .int .i64 (b.ins.length : Int)), (25, .int .i64 (k : Int)), (64, .int .i64 (((updG (at13 b k).1 ((b.params.toNat + k : Nat) : Int) ((b.params.toNat + (at13 b k).2.length : Nat) : Int)) x15.b).getD 0))]) ⟨rfl, rfl, rfl, rfl, rfl, rfl, rfl, rfl, rfl, rfl, trivial⟩ ?_
   refine WL.fieldAddr fo_36_2 rfl rfl rfl ?_
   refine WL.store (L' := [(b16, .cells #[.int .i64 x15.op, .int .i64 (((updG (at13 b k).1 ((b.params.toNat + k : Nat) : Int) ((b.params.toNat + (at13 b k).2.length : Nat) : Int)) x15.a).getD 0), .int .i64 (((updG (at13 b k).1 ((b.params.toNat + k : Nat) : Int) ((b.params.toNat + (at13 b k).2.length : Nat) : Int)) x15.b).getD 0), .int .u64 x15.k, .string x15.name, .slice ad15 x15.args.length cap15] 36 (0, 0)), (b7, .map es80 ck80), (b3, .cells #[.int .i64 0, .slice none 0 0, .int .i64 0, .int .i64 0, .int .i64 0, .slice none 0 0, .int .i64 0, .slice none 0 0] 32 (0, 0)), (b1, .cells #[.int .i64 b.params, .slice adi b.ins.length capi, .int .i64 b.fin.kind, .int .i64 b.fin.a, .int .i64 b.fin.to, .slice adp b.fin.args.length capp, .int .i64 b.fin.els, .slice adq b.fin.elses.length capq] 32 (0, 0))]) 0 rfl rfl rfl rfl siz_3 rfl rfl rfl rfl rfl hS ?_
   clear hS; intro w87 hS
   refine WL.nil (N.seq (W.region (WL.fieldAddr fo_36_5 rfl rfl rfl (WL.load1 (v := .slice ad15 x15.args.length cap15) one_28 rfl rfl rfl (hS.cell 0 rfl rfl) (WL.move rfl rfl rfl ?_)))))
   refine WL.callF (vs := [.slice ad15 x15.args.length cap15, .map (some b7)]) Try.func33 (by kernel_rfl) rfl rfl rfl (anew_ret x15.args _ b7 es80 ck80 _ (updG (at13 b k).1 ((b.params.toNat + k : Nat) : Int) ((b.params.toNat + (at13 b k).2.length : Nat) : Int)) (ro := fun x => x < w87.heap.size) (fun _ h => h) (SlV.keep hs15 (fun b hb => hS.snap b hb) (fun _ _ q => q)) (hS.keys b7 (by simp [keysOf])).2.1 (hS.own _ (List.mem_of_getElem? (i := 1) rfl)) hM80 hgi (hok.args _ (List.mem_of_getElem? hx15))) ?_
   rintro va w88 ⟨hva, hbl⟩
   have hal89 := hS.alikeTo hbl (ro' := (roFrom R2 w87 w88)) (fun b hb => .inl hb)
   replace hsub : ∀ b, (roFrom R2 w87 w88) b → ro b ∨ w.heap.size ≤ b := fun b hb => hb.elim (hsub b) (fun h => .inr (Nat.le_trans hS.below.size h.1))
   replace halL1 := halL1.trans hal89
   replace hfin := hfin.keep hal89
   replace ht1 := SlV.keep ht1 hal89 (fun _ _ h => h)
   replace ht2 := SlV.keep ht2 hal89 (fun _ _ h => h)
   replace hQk15 := hQk15.keep hal89
   replace hs15 := SlV.keep hs15 hal89 (fun _ _ h => h)
   replace hch := hch.mono fun _ _ h => h.keep hal89
   replace hS := hS.readNew hbl
   replace hva := SlV.keep hva (ro' := (roFrom R2 w87 w88)) (w' := w88) (Q' := IntC) (fun x hx => ⟨.inr hx, rfl⟩) (fun _ _ h => h)
   obtain ⟨adn, capn, rfl, _, _, _, _⟩ := id hva
   refine WL.fieldAddr fo_36_5 rfl rfl rfl ?_
   refine WL.store (L' := [(b16, .cells #[.int .i64 x15.op, .int .i64 (((updG (at13 b k).1 ((b.params.toNat + k : Nat) : Int) ((b.params.toNat + (at13 b k).2.length : Nat) : Int)) x15.a).getD 0), .int .i64 (((updG (at13 b k).1 ((b.params.toNat + k : Nat) : Int) ((b.params.toNat + (at13 b k).2.length : Nat) : Int)) x15.b).getD 0), .int .u64 x15.k, .string x15.name, .slice adn ((anew13 (updG (at13 b k).1 ((b.params.toNat + k : Nat) : Int) ((b.params.toNat + (at13 b k).2.length : Nat) : Int)) x15.args).length) capn] 36 (0, 0)), (b7, .map es80 ck80), (b3, .cells #[.int .i64 0, .slice none 0 0, .int .i64 0, .int .i64 0, .int .i64 0, .slice none 0 0, .int .i64 0, .slice none 0 0] 32 (0, 0)), (b1, .cells #[.int .i64 b.params, .slice adi b.ins.length capi, .int .i64 b.fin.kind, .int .i64 b.fin.a, .int .i64 b.fin.to, .slice adp b.fin.args.length capp, .int .i64 b.fin.els, .slice adq b.fin.elses.length capq] 32 (0, 0))]) 0 rfl rfl rfl rfl siz_28 rfl rfl rfl rfl rfl hS ?_
   clear hS; intro w90 hS
   refine WL.nil (N.seq (W.seq (W.seq (W.region (WL.fieldAddr fo_36_0 rfl rfl rfl (WL.load1 (v := .int .i64 x15.op) one_3 rfl rfl rfl (hS.cell 0 rfl rfl) (WL.bin rfl rfl rfl rfl rfl (WL.move rfl rfl rfl ?_))))))))
   cases hg91 : (decide (x15.op = 14))
   ·
    have hg91p : ¬ (x15.op = 14) := by simpa using hg91
    refine WL.fieldAddr fo_36_0 rfl rfl rfl (WL.load1 (v := .int .i64 x15.op) one_3 rfl rfl rfl (hS.cell 0 rfl rfl) (WL.bin rfl rfl rfl rfl rfl (WL.pick (v := .bool (decide (x15.op = 13))) rfl rfl rfl rfl rfl rfl (WL.move rfl rfl rfl ?_))))
    cases hg92 : (decide (x15.op = 13))
    ·
     have hg92p : ¬ (x15.op = 13) := by simpa using hg92
     refine WL.fieldAddr fo_36_0 rfl rfl rfl (WL.load1 (v := .int .i64 x15.op) one_3 rfl rfl rfl (hS.cell 0 rfl rfl) (WL.bin rfl rfl rfl rfl rfl (WL.pick (v := .bool (decide (x15.op = 16))) rfl rfl rfl rfl rfl rfl (WL.nil (N.seq ?_)))))
     refine W.cond rfl (fun hc93 => ?_) (fun hc93 => ?_)
     ·
      have hc93p : x15.op = 16 := by simpa using hc93
      refine W.region (WL.fieldAddr fo_36_2 rfl rfl rfl ?_)
      refine WL.store (L' := [(b16, .cells #[.int .i64 x15.op, .int .i64 (((updG (at13 b k).1 ((b.params.toNat + k : Nat) : Int) ((b.params.toNat + (at13 b k).2.length : Nat) : Int)) x15.a).getD 0), .int .i64 0, .int .u64 x15.k, .string x15.name, .slice adn ((anew13 (updG (at13 b k).1 ((b.params.toNat + k : Nat) : Int) ((b.params.toNat + (at13 b k).2.length : Nat) : Int)) x15.args).length) capn] 36 (0, 0)), (b7, .map es80 ck80), (b3, .cells #[.int .i64 0, .slice none 0 0, .int .i64 0, .int .i64 0, .int .i64 0, .slice none 0 0, .int .i64 0, .slice none 0 0] 32 (0, 0)), (b1, .cells #[.int .i64 b.params, .slice adi b.ins.length capi, .int .i64 b.fin.kind, .int .i64 b.fin.a, .int .i64 b.fin.to, .slice adp b.fin.args.length capp, .int .i64 b.fin.els, .slice adq b.fin.elses.length capq] 32 (0, 0))]) 0 rfl rfl rfl rfl siz_3 rfl rfl rfl rfl rfl hS ?_
      clear hS; intro w94 hS
      refine WL.nil (N.seq (W.seq (W.seq (W.region (WL.fieldAddr fo_36_0 rfl rfl rfl (WL.load1 (v := .int .i64 x15.op) one_3 rfl rfl rfl (hS.cell 0 rfl rfl) (WL.bin rfl rfl rfl rfl rfl ?_)))))))
      refine WL.set 88 (v' := .bool false) rfl (by rw [hg91]) ?_
      refine WL.nil (N.seq (W.condF rfl (W.skip (N.seq (W.region (WL.move rfl rfl rfl (WL.loadN (cs := [.int .i64 x15.op, .int .i64 (((updG (at13 b k).1 ((b.params.toNat + k : Nat) : Int) ((b.params.toNat + (at13 b k).2.length : Nat) : Int)) x15.a).getD 0), .int .i64 0, .int .u64 x15.k, .string x15.name, .slice adn ((anew13 (updG (at13 b k).1 ((b.params.toNat + k : Nat) : Int) ((b.params.toNat + (at13 b k).2.length : Nat) : Int)) x15.args).length) capn]) agg_36 rfl rfl rfl rfl (hS.cells 0 (m := 6) rfl rfl) ?_)))))))
      refine WL.buildSlice (ps := [(0, .agg #[.int .i64 x15.op, .int .i64 (((updG (at13 b k).1 ((b.params.toNat + k : Nat) : Int) ((b.params.toNat + (at13 b k).2.length : Nat) : Int)) x15.a).getD 0), .int .i64 0, .int .u64 x15.k, .string x15.name, .slice adn ((anew13 (updG (at13 b k).1 ((b.params.toNat + k : Nat) : Int) ((b.params.toNat + (at13 b k).2.length : Nat) : Int)) x15.args).length) capn])]) (cs := [.int .i64 x15.op, .int .i64 (((updG (at13 b k).1 ((b.params.toNat + k : Nat) : Int) ((b.params.toNat + (at13 b k).2.length : Nat) : Int)) x15.a).getD 0), .int .i64 0, .int .u64 x15.k, .string x15.name, .slice adn ((anew13 (updG (at13 b k).1 ((b.params.toNat + k : Nat) : Int) ((b.params.toNat + (at13 b k).2.length : Nat) : Int)) x15.args).length) capn]) Try.underlying27 (tyZero_spec zer_36) rfl rfl rfl rfl (by kernel_rfl) hS ?_
      clear hS; intro w96 b95 hb_b95 hS
      have hIC : InstC (roFrom R2 w87 w88) w88 [.int .i64 x15.op, .int .i64 (((updG (at13 b k).1 ((b.params.toNat + k : Nat) : Int) ((b.params.toNat + (at13 b k).2.length : Nat) : Int)) x15.a).getD 0), .int .i64 0, .int .u64 x15.k, .string x15.name, .slice adn ((anew13 (updG (at13 b k).1 ((b.params.toNat + k : Nat) : Int) ((b.params.toNat + (at13 b k).2.length : Nat) : Int)) x15.args).length) capn] (inst13 (updG (at13 b k).1 ((b.params.toNat + k : Nat) : Int) ((b.params.toNat + (at13 b k).2.length : Nat) : Int)) x15) := instC13 hQk15 hgi (i13_aU (by omega) (by omega)) (i13_b0 (by omega)) (by rw [show (inst13 (updG (at13 b k).1 ((b.params.toNat + k : Nat) : Int) ((b.params.toNat + (at13 b k).2.length : Nat) : Int)) x15).args = anew13 (updG (at13 b k).1 ((b.params.toNat + k : Nat) : Int) ((b.params.toNat + (at13 b k).2.length : Nat) : Int)) x15.args by simp only [inst13]; rw [if_pos (by omega)]]; exact hva)
      refine WL.append (r := ⟨.slice adv c capv, 36, 6, c, cs⟩) (cs := [.int .i64 x15.op, .int .i64 (((updG (at13 b k).1 ((b.params.toNat + k : Nat) : Int) ((b.params.toNat + (at13 b k).2.length : Nat) : Int)) x15.a).getD 0), .int .i64 0, .int .u64 x15.k, .string x15.name, .slice adn ((anew13 (updG (at13 b k).1 ((b.params.toNat + k : Nat) : Int) ((b.params.toNat + (at13 b k).2.length : Nat) : Int)) x15.args).length) capn]) 72 Try.underlying27 (tyZero_spec zer_36) byt_36 rfl rfl rfl rfl rfl rfl rfl rfl rfl hS (by unfold maxLen; simp only; omega) (by simp only; omega) ?_
      clear hS; intro w97 v98 hn_v98 hS
      have hrow : w97.ownsRow w.heap.size 36 6 v98 (c + 1) _ := hS.rows _ List.mem_cons_self
      obtain ⟨av98, cv98, rfl, hc1_v98, hc2_v98, hc3_v98⟩ := row_shape hrow
      clear hrow
      refine WL.assign rfl rfl rfl (WL.nil (N.blk (N.seq (W.region ?_))))
      refine WL.add (c := (k : Int) + 1) rfl rfl rfl rfl (rfl) (by omega) ?_
      refine WL.move rfl rfl rfl (WL.nil ?_)
      have hS := hS.dropN 1
      exact N.loop (k + 1, .slice av98 (c + 1) cv98, cs ++ ([.int .i64 x15.op, .int .i64 (((updG (at13 b k).1 ((b.params.toNat + k : Nat) : Int) ((b.params.toNat + (at13 b k).2.length : Nat) : Int)) x15.a).getD 0), .int .i64 0, .int .u64 x15.k, .string x15.name, .slice adn ((anew13 (updG (at13 b k).1 ((b.params.toNat + k : Nat) : Int) ((b.params.toNat + (at13 b k).2.length : Nat) : Int)) x15.args).length) capn] : List Value), es80, ck80, c + 1, (roFrom R2 w87 w88), w88) ⟨rfl, rfl, rfl, rfl, rfl, rfl, rfl, rfl, trivial⟩ ⟨hS, by omega, by rw [hst]; exact hM80, by rw [hst]; exact hch.snoc rfl hIC, by rw [hst, List.length_append, ← hc]; rfl, halL1, hsub⟩ (by first | omega | (simp only; omega))
     have hc93p : ¬ (x15.op = 16) := by simpa using hc93
     refine W.skip (N.seq (W.seq (W.seq (W.region (WL.fieldAddr fo_36_0 rfl rfl rfl (WL.load1 (v := .int .i64 x15.op) one_3 rfl rfl rfl (hS.cell 0 rfl rfl) (WL.bin rfl rfl rfl rfl rfl ?_)))))))
     refine WL.set 88 (v' := .bool false) rfl (by rw [hg91]) ?_
     refine WL.nil (N.seq (W.condF rfl (W.skip (N.seq (W.region (WL.move rfl rfl rfl (WL.loadN (cs := [.int .i64 x15.op, .int .i64 (((updG (at13 b k).1 ((b.params.toNat + k : Nat) : Int) ((b.params.toNat + (at13 b k).2.length : Nat) : Int)) x15.a).getD 0), .int .i64 (((updG (at13 b k).1 ((b.params.toNat + k : Nat) : Int) ((b.params.toNat + (at13 b k).2.length : Nat) : Int)) x15.b).getD 0), .int .u64 x15.k, .string x15.name, .slice adn ((anew13 (updG (at13 b k).1 ((b.params.toNat + k : Nat) : Int) ((b.params.toNat + (at13 b k).2.length : Nat) : Int)) x15.args).length) capn]) agg_36 rfl rfl rfl rfl (hS.cells 0 (m := 6) rfl rfl) ?_)))))))
     refine WL.buildSlice (ps := [(0, .agg #[.int .i64 x15.op, .int .i64 (((updG (at13 b k).1 ((b.params.toNat + k : Nat) : Int) ((b.params.toNat + (at13 b k).2.length : Nat) : Int)) x15.a).getD 0), .int .i64 (((updG (at13 b k).1 ((b.params.toNat + k : Nat) : Int) ((b.params.toNat + (at13 b k).2.length : Nat) : Int)) x15.b).getD 0), .int .u64 x15.k, .string x15.name, .slice adn ((anew13 (updG (at13 b k).1 ((b.params.toNat + k : Nat) : Int) ((b.params.toNat + (at13 b k).2.length : Nat) : Int)) x15.args).length) capn])]) (cs := [.int .i64 x15.op, .int .i64 (((updG (at13 b k).1 ((b.params.toNat + k : Nat) : Int) ((b.params.toNat + (at13 b k).2.length : Nat) : Int)) x15.a).getD 0), .int .i64 (((updG (at13 b k).1 ((b.params.toNat + k : Nat) : Int) ((b.params.toNat + (at13 b k).2.length : Nat) : Int)) x15.b).getD 0), .int .u64 x15.k, .string x15.name, .slice adn ((anew13 (updG (at13 b k).1 ((b.params.toNat + k : Nat) : Int) ((b.params.toNat + (at13 b k).2.length : Nat) : Int)) x15.args).length) capn]) Try.underlying27 (tyZero_spec zer_36) rfl rfl rfl rfl (by kernel_rfl) hS ?_
     clear hS; intro w100 b99 hb_b99 hS
     have hIC : InstC (roFrom R2 w87 w88) w88 [.int .i64 x15.op, .int .i64 (((updG (at13 b k).1 ((b.params.toNat + k : Nat) : Int) ((b.params.toNat + (at13 b k).2.length : Nat) : Int)) x15.a).getD 0), .int .i64 (((updG (at13 b k).1 ((b.params.toNat + k : Nat) : Int) ((b.params.toNat + (at13 b k).2.length : Nat) : Int)) x15.b).getD 0), .int .u64 x15.k, .string x15.name, .slice adn ((anew13 (updG (at13 b k).1 ((b.params.toNat + k : Nat) : Int) ((b.params.toNat + (at13 b k).2.length : Nat) : Int)) x15.args).length) capn] (inst13 (updG (at13 b k).1 ((b.params.toNat + k : Nat) : Int) ((b.params.toNat + (at13 b k).2.length : Nat) : Int)) x15) := instC13 hQk15 hgi (i13_aU (by omega) (by omega)) (i13_bU (by omega) (by omega)) (by rw [show (inst13 (updG (at13 b k).1 ((b.params.toNat + k : Nat) : Int) ((b.params.toNat + (at13 b k).2.length : Nat) : Int)) x15).args = anew13 (updG (at13 b k).1 ((b.params.toNat + k : Nat) : Int) ((b.params.toNat + (at13 b k).2.length : Nat) : Int)) x15.args by simp only [inst13]; rw [if_pos (by omega)]]; exact hva)
     refine WL.append (r := ⟨.slice adv c capv, 36, 6, c, cs⟩) (cs := [.int .i64 x15.op, .int .i64 (((updG (at13 b k).1 ((b.params.toNat + k : Nat) : Int) ((b.params.toNat + (at13 b k).2.length : Nat) : Int)) x15.a).getD 0), .int .i64 (((updG (at13 b k).1 ((b.params.toNat + k : Nat) : Int) ((b.params.toNat + (at13 b k).2.length : Nat) : Int)) x15.b).getD 0), .int .u64 x15.k, .string x15.name, .slice adn ((anew13 (updG (at13 b k).1 ((b.params.toNat + k : Nat) : Int) ((b.params.toNat + (at13 b k).2.length : Nat) : Int)) x15.args).length) capn]) 72 Try.underlying27 (tyZero_spec zer_36) byt_36 rfl rfl rfl rfl rfl rfl rfl rfl rfl hS (by unfold maxLen; simp only; omega) (by simp only; omega) ?_
     clear hS; intro w101 v102 hn_v102 hS
     have hrow : w101.ownsRow w.heap.size 36 6 v102 (c + 1) _ := hS.rows _ List.mem_cons_self
     obtain ⟨av102, cv102, rfl, hc1_v102, hc2_v102, hc3_v102⟩ := row_shape hrow
     clear hrow
     refine WL.assign rfl rfl rfl (WL.nil (N.blk (N.seq (W.region ?_))))
     refine WL.add (c := (k : Int) + 1) rfl rfl rfl rfl (rfl) (by omega) ?_
     refine WL.move rfl rfl rfl (WL.nil ?_)
     have hS := hS.dropN 1
     exact N.loop (k + 1, .slice av102 (c + 1) cv102, cs ++ ([.int .i64 x15.op, .int .i64 (((updG (at13 b k).1 ((b.params.toNat + k : Nat) : Int) ((b.params.toNat + (at13 b k).2.length : Nat) : Int)) x15.a).getD 0), .int .i64 (((updG (at13 b k).1 ((b.params.toNat + k : Nat) : Int) ((b.params.toNat + (at13 b k).2.length : Nat) : Int)) x15.b).getD 0), .int .u64 x15.k, .string x15.name, .slice adn ((anew13 (updG (at13 b k).1 ((b.params.toNat + k : Nat) : Int) ((b.params.toNat + (at13 b k).2.length : Nat) : Int)) x15.args).length) capn] : List Value), es80, ck80, c + 1, (roFrom R2 w87 w88), w88) ⟨rfl, rfl, rfl, rfl, rfl, rfl, rfl, rfl, trivial⟩ ⟨hS, by omega, by rw [hst]; exact hM80, by rw [hst]; exact hch.snoc rfl hIC, by rw [hst, List.length_append, ← hc]; rfl, halL1, hsub⟩ (by first | omega | (simp only; omega))
    have hg92p : x15.op = 13 := by simpa using hg92
    refine WL.skp rfl rfl (WL.skp rfl rfl (WL.skp rfl rfl (WL.pick (v := .bool true) rfl rfl rfl rfl rfl rfl (WL.nil (N.seq (W.condT rfl (W.region (WL.fieldAddr fo_36_2 rfl rfl rfl ?_))))))))
    refine WL.store (L' := [(b16, .cells #[.int .i64 x15.op, .int .i64 (((updG (at13 b k).1 ((b.params.toNat + k : Nat) : Int) ((b.params.toNat + (at13 b k).2.length : Nat) : Int)) x15.a).getD 0), .int .i64 0, .int .u64 x15.k, .string x15.name, .slice adn ((anew13 (updG (at13 b k).1 ((b.params.toNat + k : Nat) : Int) ((b.params.toNat + (at13 b k).2.length : Nat) : Int)) x15.args).length) capn] 36 (0, 0)), (b7, .map es80 ck80), (b3, .cells #[.int .i64 0, .slice none 0 0, .int .i64 0, .int .i64 0, .int .i64 0, .slice none 0 0, .int .i64 0, .slice none 0 0] 32 (0, 0)), (b1, .cells #[.int .i64 b.params, .slice adi b.ins.length capi, .int .i64 b.fin.kind, .int .i64 b.fin.a, .int .i64 b.fin.to, .slice adp b.fin.args.length capp, .int .i64 b.fin.els, .slice adq b.fin.elses.length capq] 32 (0, 0))]) 0 rfl rfl rfl rfl siz_3 rfl rfl rfl rfl rfl hS ?_
    clear hS; intro w103 hS
    refine WL.nil (N.seq (W.seq (W.seq (W.region (WL.fieldAddr fo_36_0 rfl rfl rfl (WL.load1 (v := .int .i64 x15.op) one_3 rfl rfl rfl (hS.cell 0 rfl rfl) (WL.bin rfl rfl rfl rfl rfl ?_)))))))
    refine WL.set 88 (v' := .bool false) rfl (by rw [hg91]) ?_
    refine WL.nil (N.seq (W.condF rfl (W.skip (N.seq (W.region (WL.move rfl rfl rfl (WL.loadN (cs := [.int .i64 x15.op, .int .i64 (((updG (at13 b k).1 ((b.params.toNat + k : Nat) : Int) ((b.params.toNat + (at13 b k).2.length : Nat) : Int)) x15.a).getD 0), .int .i64 0, .int .u64 x15.k, .string x15.name, .slice adn ((anew13 (updG (at13 b k).1 ((b.params.toNat + k : Nat) : Int) ((b.params.toNat + (at13 b k).2.length : Nat) : Int)) x15.args).length) capn]) agg_36 rfl rfl rfl rfl (hS.cells 0 (m := 6) rfl rfl) ?_)))))))
    refine WL.buildSlice (ps := [(0, .agg #[.int .i64 x15.op, .int .i64 (((updG (at13 b k).1 ((b.params.toNat + k : Nat) : Int) ((b.params.toNat + (at13 b k).2.length : Nat) : Int)) x15.a).getD 0), .int .i64 0, .int .u64 x15.k, .string x15.name, .slice adn ((anew13 (updG (at13 b k).1 ((b.params.toNat + k : Nat) : Int) ((b.params.toNat + (at13 b k).2.length : Nat) : Int)) x15.args).length) capn])]) (cs := [.int .i64 x15.op, .int .i64 (((updG (at13 b k).1 ((b.params.toNat + k : Nat) : Int) ((b.params.toNat + (at13 b k).2.length : Nat) : Int)) x15.a).getD 0), .int .i64 0, .int .u64 x15.k, .string x15.name, .slice adn ((anew13 (updG (at13 b k).1 ((b.params.toNat + k : Nat) : Int) ((b.params.toNat + (at13 b k).2.length : Nat) : Int)) x15.args).length) capn]) Try.underlying27 (tyZero_spec zer_36) rfl rfl rfl rfl (by kernel_rfl) hS ?_
    clear hS; intro w105 b104 hb_b104 hS
    have hIC : InstC (roFrom R2 w87 w88) w88 [.int .i64 x15.op, .int .i64 (((updG (at13 b k).1 ((b.params.toNat + k : Nat) : Int) ((b.params.toNat + (at13 b k).2.length : Nat) : Int)) x15.a).getD 0), .int .i64 0, .int .u64 x15.k, .string x15.name, .slice adn ((anew13 (updG (at13 b k).1 ((b.params.toNat + k : Nat) : Int) ((b.params.toNat + (at13 b k).2.length : Nat) : Int)) x15.args).length) capn] (inst13 (updG (at13 b k).1 ((b.params.toNat + k : Nat) : Int) ((b.params.toNat + (at13 b k).2.length : Nat) : Int)) x15) := instC13 hQk15 hgi (i13_aU (by omega) (by omega)) (i13_b0 (by omega)) (by rw [show (inst13 (updG (at13 b k).1 ((b.params.toNat + k : Nat) : Int) ((b.params.toNat + (at13 b k).2.length : Nat) : Int)) x15).args = anew13 (updG (at13 b k).1 ((b.params.toNat + k : Nat) : Int) ((b.params.toNat + (at13 b k).2.length : Nat) : Int)) x15.args by simp only [inst13]; rw [if_pos (by omega)]]; exact hva)
    refine WL.append (r := ⟨.slice adv c capv, 36, 6, c, cs⟩) (cs := [.int .i64 x15.op, .int .i64 (((updG (at13 b k).1 ((b.params.toNat + k : Nat) : Int) ((b.params.toNat + (at13 b k).2.length : Nat) : Int)) x15.a).getD 0), .int .i64 0, .int .u64 x15.k, .string x15.name, .slice adn ((anew13 (updG (at13 b k).1 ((b.params.toNat + k : Nat) : Int) ((b.params.toNat + (at13 b k).2.length : Nat) : Int)) x15.args).length) capn]) 72 Try.underlying27 (tyZero_spec zer_36) byt_36 rfl rfl rfl rfl rfl rfl rfl rfl rfl hS (by unfold maxLen; simp only; omega) (by simp only; omega) ?_
    clear hS; intro w106 v107 hn_v107 hS
    have hrow : w106.ownsRow w.heap.size 36 6 v107 (c + 1) _ := hS.rows _ List.mem_cons_self
    obtain ⟨av107, cv107, rfl, hc1_v107, hc2_v107, hc3_v107⟩ := row_shape hrow
    clear hrow
    refine WL.assign rfl rfl rfl (WL.nil (N.blk (N.seq (W.region ?_))))
    refine WL.add (c := (k : Int) + 1) rfl rfl rfl rfl (rfl) (by omega) ?_
    refine WL.move rfl rfl rfl (WL.nil ?_)
    have hS := hS.dropN 1
    exact N.loop (k + 1, .slice av107 (c + 1) cv107, cs ++ ([.int .i64 x15.op, .int .i64 (((updG (at13 b k).1 ((b.params.toNat + k : Nat) : Int) ((b.params.toNat + (at13 b k).2.length : Nat) : Int)) x15.a).getD 0), .int .i64 0, .int .u64 x15.k, .string x15.name, .slice adn ((anew13 (updG (at13 b k).1 ((b.params.toNat + k : Nat) : Int) ((b.params.toNat + (at13 b k).2.length : Nat) : Int)) x15.args).length) capn] : List Value), es80, ck80, c + 1, (roFrom R2 w87 w88), w88) ⟨rfl, rfl, rfl, rfl, rfl, rfl, rfl, rfl, trivial⟩ ⟨hS, by omega, by rw [hst]; exact hM80, by rw [hst]; exact hch.snoc rfl hIC, by rw [hst, List.length_append, ← hc]; rfl, halL1, hsub⟩ (by first | omega | (simp only; omega))
   have hg91p : x15.op = 14 := by simpa using hg91
   refine WL.skp rfl rfl (WL.skp rfl rfl (WL.skp rfl rfl (WL.pick (v := .bool true) rfl rfl rfl rfl rfl rfl (WL.move rfl rfl rfl (WL.skp rfl rfl (WL.skp rfl rfl (WL.skp rfl rfl (WL.pick (v := .bool true) rfl rfl rfl rfl rfl rfl (WL.nil ?_)))))))))
   refine N.seq (W.condT rfl (W.region (WL.fieldAddr fo_36_2 rfl rfl rfl ?_)))
   refine WL.store (L' := [(b16, .cells #[.int .i64 x15.op, .int .i64 (((updG (at13 b k).1 ((b.params.toNat + k : Nat) : Int) ((b.params.toNat + (at13 b k).2.length : Nat) : Int)) x15.a).getD 0), .int .i64 0, .int .u64 x15.k, .string x15.name, .slice adn ((anew13 (updG (at13 b k).1 ((b.params.toNat + k : Nat) : Int) ((b.params.toNat + (at13 b k).2.length : Nat) : Int)) x15.args).length) capn] 36 (0, 0)), (b7, .map es80 ck80), (b3, .cells #[.int .i64 0, .slice none 0 0, .int .i64 0, .int .i64 0, .int .i64 0, .slice none 0 0, .int .i64 0, .slice none 0 0] 32 (0, 0)), (b1, .cells #[.int .i64 b.params, .slice adi b.ins.length capi, .int .i64 b.fin.kind, .int .i64 b.fin.a, .int .i64 b.fin.to, .slice adp b.fin.args.length capp, .int .i64 b.fin.els, .slice adq b.fin.elses.length capq] 32 (0, 0))]) 0 rfl rfl rfl rfl siz_3 rfl rfl rfl rfl rfl hS ?_
   clear hS; intro w108 hS
   refine WL.nil (N.seq (W.seq (W.seq (W.region (WL.fieldAddr fo_36_0 rfl rfl rfl (WL.load1 (v := .int .i64 x15.op) one_3 rfl rfl rfl (hS.cell 0 rfl rfl) (WL.bin rfl rfl rfl rfl rfl ?_)))))))
   refine WL.set 88 (v' := .bool true) rfl (by rw [hg91]) ?_
   refine WL.nil (N.seq (W.condT rfl (W.region (WL.fieldAddr fo_36_1 rfl rfl rfl ?_))))
   refine WL.store (L' := [(b16, .cells #[.int .i64 x15.op, .int .i64 0, .int .i64 0, .int .u64 x15.k, .string x15.name, .slice adn ((anew13 (updG (at13 b k).1 ((b.params.toNat + k : Nat) : Int) ((b.params.toNat + (at13 b k).2.length : Nat) : Int)) x15.args).length) capn] 36 (0, 0)), (b7, .map es80 ck80), (b3, .cells #[.int .i64 0, .slice none 0 0, .int .i64 0, .int .i64 0, .int .i64 0, .slice none 0 0, .int .i64 0, .slice none 0 0] 32 (0, 0)), (b1, .cells #[.int .i64 b.params, .slice adi b.ins.length capi, .int .i64 b.fin.kind, .int .i64 b.fin.a, .int .i64 b.fin.to, .slice adp b.fin.args.length capp, .int .i64 b.fin.els, .slice adq b.fin.elses.length capq] 32 (0, 0))]) 0 rfl rfl rfl rfl siz_3 rfl rfl rfl rfl rfl hS ?_
   clear hS; intro w109 hS
   refine WL.nil (N.seq (W.region (WL.move rfl rfl rfl (WL.loadN (cs := [.int .i64 x15.op, .int .i64 0, .int .i64 0, .int .u64 x15.k, .string x15.name, .slice adn ((anew13 (updG (at13 b k).1 ((b.params.toNat + k : Nat) : Int) ((b.params.toNat + (at13 b k).2.length : Nat) : Int)) x15.args).length) capn]) agg_36 rfl rfl rfl rfl (hS.cells 0 (m := 6) rfl rfl) ?_))))
   refine WL.buildSlice (ps := [(0, .agg #[.int .i64 x15.op, .int .i64 0, .int .i64 0, .int .u64 x15.k, .string x15.name, .slice adn ((anew13 (updG (at13 b k).1 ((b.params.toNat + k : Nat) : Int) ((b.params.toNat + (at13 b k).2.length : Nat) : Int)) x15.args).length) capn])]) (cs := [.int .i64 x15.op, .int .i64 0, .int .i64 0, .int .u64 x15.k, .string x15.name, .slice adn ((anew13 (updG (at13 b k).1 ((b.params.toNat + k : Nat) : Int) ((b.params.toNat + (at13 b k).2.length : Nat) : Int)) x15.args).length) capn]) Try.underlying27 (tyZero_spec zer_36) rfl rfl rfl rfl (by kernel_rfl) hS ?_
   clear hS; intro w111 b110 hb_b110 hS
   have hIC : InstC (roFrom R2 w87 w88) w88 [.int .i64 x15.op, .int .i64 0, .int .i64 0, .int .u64 x15.k, .string x15.name, .slice adn ((anew13 (updG (at13 b k).1 ((b.params.toNat + k : Nat) : Int) ((b.params.toNat + (at13 b k).2.length : Nat) : Int)) x15.args).length) capn] (inst13 (updG (at13 b k).1 ((b.params.toNat + k : Nat) : Int) ((b.params.toNat + (at13 b k).2.length : Nat) : Int)) x15) := instC13 hQk15 hgi (i13_a14 (by omega)) (i13_b0 (by omega)) (by rw [show (inst13 (updG (at13 b k).1 ((b.params.toNat + k : Nat) : Int) ((b.params.toNat + (at13 b k).2.length : Nat) : Int)) x15).args = anew13 (updG (at13 b k).1 ((b.params.toNat + k : Nat) : Int) ((b.params.toNat + (at13 b k).2.length : Nat) : Int)) x15.args by simp only [inst13]; rw [if_pos (by omega)]]; exact hva)
   refine WL.append (r := ⟨.slice adv c capv, 36, 6, c, cs⟩) (cs := [.int .i64 x15.op, .int .i64 0, .int .i64 0, .int .u64 x15.k, .string x15.name, .slice adn ((anew13 (updG (at13 b k).1 ((b.params.toNat + k : Nat) : Int) ((b.params.toNat + (at13 b k).2.length : Nat) : Int)) x15.args).length) capn]) 72 Try.underlying27 (tyZero_spec zer_36) byt_36 rfl rfl rfl rfl rfl rfl rfl rfl rfl hS (by unfold maxLen; simp only; omega) (by simp only; omega) ?_
   clear hS; intro w112 v113 hn_v113 hS
   have hrow : w112.ownsRow w.heap.size 36 6 v113 (c + 1) _ := hS.rows _ List.mem_cons_self
   obtain ⟨av113, cv113, rfl, hc1_v113, hc2_v113, hc3_v113⟩ := row_shape hrow
   clear hrow
   refine WL.assign rfl rfl rfl (WL.nil (N.blk (N.seq (W.region ?_))))
   refine WL.add (c := (k : Int) + 1) rfl rfl rfl rfl (rfl) (by omega) ?_
   refine WL.move rfl rfl rfl (WL.nil ?_)
   have hS := hS.dropN 1
   exact N.loop (k + 1, .slice av113 (c + 1) cv113, cs ++ ([.int .i64 x15.op, .int .i64 0, .int .i64 0, .int .u64 x15.k, .string x15.name, .slice adn ((anew13 (updG (at13 b k).1 ((b.params.toNat + k : Nat) : Int) ((b.params.toNat + (at13 b k).2.length : Nat) : Int)) x15.args).length) capn] : List Value), es80, ck80, c + 1, (roFrom R2 w87 w88), w88) ⟨rfl, rfl, rfl, rfl, rfl, rfl, rfl, rfl, trivial⟩ ⟨hS, by omega, by rw [hst]; exact hM80, by rw [hst]; exact hch.snoc rfl hIC, by rw [hst, List.length_append, ← hc]; rfl, halL1, hsub⟩ (by first | omega | (simp only; omega))
  have hc83p : ¬ (0 < ((uses5 x15).length : Int)) := by simpa using hc83
  refine W.skip (N.seq (W.seq (W.seq (W.region (WL.fieldAddr fo_36_0 rfl rfl rfl (WL.load1 (v := .int .i64 x15.op) one_3 rfl rfl rfl (hS.cell 0 rfl rfl) (WL.bin rfl rfl rfl rfl rfl (WL.move rfl rfl rfl ?_))))))))
  cases hg114 : (decide (x15.op = 14))
  ·
   have hg114p : ¬ (x15.op = 14) := by simpa using hg114
   refine WL.fieldAddr fo_36_0 rfl rfl rfl (WL.load1 (v := .int .i64 x15.op) one_3 rfl rfl rfl (hS.cell 0 rfl rfl) (WL.bin rfl rfl rfl rfl rfl (WL.pick (v := .bool (decide (x15.op = 13))) rfl rfl rfl rfl rfl rfl (WL.move rfl rfl rfl ?_))))
   cases hg115 : (decide (x15.op = 13))
   ·
    have hg115p : ¬ (x15.op = 13) := by simpa using hg115
    refine WL.fieldAddr fo_36_0 rfl rfl rfl (WL.load1 (v := .int .i64 x15.op) one_3 rfl rfl rfl (hS.cell 0 rfl rfl) (WL.bin rfl rfl rfl rfl rfl (WL.pick (v := .bool (decide (x15.op = 16))) rfl rfl rfl rfl rfl rfl (WL.nil (N.seq ?_)))))
    refine W.cond rfl (fun hc116 => ?_) (fun hc116 => ?_)
    ·
     have hc116p : x15.op = 16 := by simpa using hc116
     refine W.region (WL.fieldAddr fo_36_2 rfl rfl rfl ?_)
     refine WL.store (L' := [(b16, .cells #[.int .i64 x15.op, .int .i64 x15.a, .int .i64 0, .int .u64 x15.k, .string x15.name, .slice ad15 x15.args.length cap15] 36 (0, 0)), (b7, .map es80 ck80), (b3, .cells #[.int .i64 0, .slice none 0 0, .int .i64 0, .int .i64 0, .int .i64 0, .slice none 0 0, .int .i64 0, .slice none 0 0] 32 (0, 0)), (b1, .cells #[.int .i64 b.params, .slice adi b.ins.length capi, .int .i64 b.fin.kind, .int .i64 b.fin.a, .int .i64 b.fin.to, .slice adp b.fin.args.length capp, .int .i64 b.fin.els, .slice adq b.fin.elses.length capq] 32 (0, 0))]) 0 rfl rfl rfl rfl siz_3 rfl rfl rfl rfl rfl hS ?_
     clear hS; intro w117 hS
     refine WL.nil (N.seq (W.seq (W.seq (W.region (WL.fieldAddr fo_36_0 rfl rfl rfl (WL.load1 (v := .int .i64 x15.op) one_3 rfl rfl rfl (hS.cell 0 rfl rfl) (WL.bin rfl rfl rfl rfl rfl ?_)))))))
     refine WL.set 88 (v' := .bool false) rfl (by rw [hg114]) ?_
     refine WL.nil (N.seq (W.condF rfl (W.skip (N.seq (W.region (WL.move rfl rfl rfl (WL.loadN (cs := [.int .i64 x15.op, .int .i64 x15.a, .int .i64 0, .int .u64 x15.k, .string x15.name, .slice ad15 x15.args.length cap15]) agg_36 rfl rfl rfl rfl (hS.cells 0 (m := 6) rfl rfl) ?_)))))))
     refine WL.buildSlice (ps := [(0, .agg #[.int .i64 x15.op, .int .i64 x15.a, .int .i64 0, .int .u64 x15.k, .string x15.name, .slice ad15 x15.args.length cap15])]) (cs := [.int .i64 x15.op, .int .i64 x15.a, .int .i64 0, .int .u64 x15.k, .string x15.name, .slice ad15 x15.args.length cap15]) Try.underlying27 (tyZero_spec zer_36) rfl rfl rfl rfl (by kernel_rfl) hS ?_
     clear hS; intro w119 b118 hb_b118 hS
     have hIC : InstC R2 ws2 [.int .i64 x15.op, .int .i64 x15.a, .int .i64 0, .int .u64 x15.k, .string x15.name, .slice ad15 x15.args.length cap15] (inst13 (updG (at13 b k).1 ((b.params.toNat + k : Nat) : Int) ((b.params.toNat + (at13 b k).2.length : Nat) : Int)) x15) := instC13 hQk15 hgi (i13_aN (by omega) (by omega)) (i13_b0 (by omega)) (by rw [show (inst13 (updG (at13 b k).1 ((b.params.toNat + k : Nat) : Int) ((b.params.toNat + (at13 b k).2.length : Nat) : Int)) x15).args = x15.args by simp only [inst13]; rw [if_neg (by omega)]]; exact hs15)
     refine WL.append (r := ⟨.slice adv c capv, 36, 6, c, cs⟩) (cs := [.int .i64 x15.op, .int .i64 x15.a, .int .i64 0, .int .u64 x15.k, .string x15.name, .slice ad15 x15.args.length cap15]) 72 Try.underlying27 (tyZero_spec zer_36) byt_36 rfl rfl rfl rfl rfl rfl rfl rfl rfl hS (by unfold maxLen; simp only; omega) (by simp only; omega) ?_
     clear hS; intro w120 v121 hn_v121 hS
     have hrow : w120.ownsRow w.heap.size 36 6 v121 (c + 1) _ := hS.rows _ List.mem_cons_self
     obtain ⟨av121, cv121, rfl, hc1_v121, hc2_v121, hc3_v121⟩ := row_shape hrow
     clear hrow
     refine WL.assign rfl rfl rfl (WL.nil (N.blk (N.seq (W.region ?_))))
     refine WL.add (c := (k : Int) + 1) rfl rfl rfl rfl (rfl) (by omega) ?_
     refine WL.move rfl rfl rfl (WL.nil ?_)
     have hS := hS.dropN 1
     exact N.loop (k + 1, .slice av121 (c + 1) cv121, cs ++ ([.int .i64 x15.op, .int .i64 x15.a, .int .i64 0, .int .u64 x15.k, .string x15.name, .slice ad15 x15.args.length cap15] : List Value), es80, ck80, c + 1, R2, ws2) ⟨rfl, rfl, rfl, rfl, rfl, rfl, rfl, rfl, trivial⟩ ⟨hS, by omega, by rw [hst]; exact hM80, by rw [hst]; exact hch.snoc rfl hIC, by rw [hst, List.length_append, ← hc]; rfl, halL1, hsub⟩ (by first | omega | (simp only; omega))
    have hc116p : ¬ (x15.op = 16) := by simpa using hc116
    refine W.skip (N.seq (W.seq (W.seq (W.region (WL.fieldAddr fo_36_0 rfl rfl rfl (WL.load1 (v := .int .i64 x15.op) one_3 rfl rfl rfl (hS.cell 0 rfl rfl) (WL.bin rfl rfl rfl rfl rfl ?_)))))))
    refine WL.set 88 (v' := .bool false) rfl (by rw [hg114]) ?_
    refine WL.nil (N.seq (W.condF rfl (W.skip (N.seq (W.region (WL.move rfl rfl rfl (WL.loadN (cs := [.int .i64 x15.op, .int .i64 x15.a, .int .i64 x15.b, .int .u64 x15.k, .string x15.name, .slice ad15 x15.args.length cap15]) agg_36 rfl rfl rfl rfl (hS.cells 0 (m := 6) rfl rfl) ?_)))))))
    refine WL.buildSlice (ps := [(0, .agg #[.int .i64 x15.op, .int .i64 x15.a, .int .i64 x15.b, .int .u64 x15.k, .string x15.name, .slice ad15 x15.args.length cap15])]) (cs := [.int .i64 x15.op, .int .i64 x15.a, .int .i64 x15.b, .int .u64 x15.k, .string x15.name, .slice ad15 x15.args.length cap15]) Try.underlying27 (tyZero_spec zer_36) rfl rfl rfl rfl (by kernel_rfl) hS ?_
    clear hS; intro w123 b122 hb_b122 hS
    have hIC : InstC R2 ws2 [.int .i64 x15.op, .int .i64 x15.a, .int .i64 x15.b, .int .u64 x15.k, .string x15.name, .slice ad15 x15.args.length cap15] (inst13 (updG (at13 b k).1 ((b.params.toNat + k : Nat) : Int) ((b.params.toNat + (at13 b k).2.length : Nat) : Int)) x15) := instC13 hQk15 hgi (i13_aN (by omega) (by omega)) (i13_bN (by omega) (by omega)) (by rw [show (inst13 (updG (at13 b k).1 ((b.params.toNat + k : Nat) : Int) ((b.params.toNat + (at13 b k).2.length : Nat) : Int)) x15).args = x15.args by simp only [inst13]; rw [if_neg (by omega)]]; exact hs15)
    refine WL.append (r := ⟨.slice adv c capv, 36, 6, c, cs⟩) (cs := [.int .i64 x15.op, .int .i64 x15.a, .int .i64 x15.b, .int .u64 x15.k, .string x15.name, .slice ad15 x15.args.length cap15]) 72 Try.underlying27 (tyZero_spec zer_36) byt_36 rfl rfl rfl rfl rfl rfl rfl rfl rfl hS (by unfold maxLen; simp only; omega) (by simp only; omega) ?_
    clear hS; intro w124 v125 hn_v125 hS
    have hrow : w124.ownsRow w.heap.size 36 6 v125 (c + 1) _ := hS.rows _ List.mem_cons_self
    obtain ⟨av125, cv125, rfl, hc1_v125, hc2_v125, hc3_v125⟩ := row_shape hrow
    clear hrow
    refine WL.assign rfl rfl rfl (WL.nil (N.blk (N.seq (W.region ?_))))
    refine WL.add (c := (k : Int) + 1) rfl rfl rfl rfl (rfl) (by omega) ?_
    refine WL.move rfl rfl rfl (WL.nil ?_)
    have hS := hS.dropN 1
    exact N.loop (k + 1, .slice av125 (c + 1) cv125, cs ++ ([.int .i64 x15.op, .int .i64 x15.a, .int .i64 x15.b, .int .u64 x15.k, .string x15.name, .slice ad15 x15.args.length cap15] : List Value), es80, ck80, c + 1, R2, ws2) ⟨rfl, rfl, rfl, rfl, rfl, rfl, rfl, rfl, trivial⟩ ⟨hS, by omega, by rw [hst]; exact hM80, by rw [hst]; exact hch.snoc rfl hIC, by rw [hst, List.length_append, ← hc]; rfl, halL1, hsub⟩ (by first | omega | (simp only; omega))
   have hg115p : x15.op = 13 := by simpa using hg115
   refine WL.skp rfl rfl (WL.skp rfl rfl (WL.skp rfl rfl (WL.pick (v := .bool true) rfl rfl rfl rfl rfl rfl (WL.nil (N.seq (W.condT rfl (W.region (WL.fieldAddr fo_36_2 rfl rfl rfl ?_))))))))
   refine WL.store (L' := [(b16, .cells #[.int .i64 x15.op, .int .i64 x15.a, .int .i64 0, .int .u64 x15.k, .string x15.name, .slice ad15 x15.args.length cap15] 36 (0, 0)), (b7, .map es80 ck80), (b3, .cells #[.int .i64 0, .slice none 0 0, .int .i64 0, .int .i64 0, .int .i64 0, .slice none 0 0, .int .i64 0, .slice none 0 0] 32 (0, 0)), (b1, .cells #[.int .i64 b.params, .slice adi b.ins.length capi, .int .i64 b.fin.kind, .int .i64 b.fin.a, .int .i64 b.fin.to, .slice adp b.fin.args.length capp, .int .i64 b.fin.els, .slice adq b.fin.elses.length capq] 32 (0, 0))]) 0 rfl rfl rfl rfl siz_3 rfl rfl rfl rfl rfl hS ?_
   clear hS; intro w126 hS
   refine WL.nil (N.seq (W.seq (W.seq (W.region (WL.fieldAddr fo_36_0 rfl rfl rfl (WL.load1 (v := .int .i64 x15.op) one_3 rfl rfl rfl (hS.cell 0 rfl rfl) (WL.bin rfl rfl rfl rfl rfl ?_)))))))
   refine WL.set 88 (v' := .bool false) rfl (by rw [hg114]) ?_
   refine WL.nil (N.seq (W.condF rfl (W.skip (N.seq (W.region (WL.move rfl rfl rfl (WL.loadN (cs := [.int .i64 x15.op, .int .i64 x15.a, .int .i64 0, .int .u64 x15.k, .string x15.name, .slice ad15 x15.args.length cap15]) agg_36 rfl rfl rfl rfl (hS.cells 0 (m := 6) rfl rfl) ?_)))))))
   refine WL.buildSlice (ps := [(0, .agg #[.int .i64 x15.op, .int .i64 x15.a, .int .i64 0, .int .u64 x15.k, .string x15.name, .slice ad15 x15.args.length cap15])]) (cs := [.int .i64 x15.op, .int .i64 x15.a, .int .i64 0, .int .u64 x15.k, .string x15.name, .slice ad15 x15.args.length cap15]) Try.underlying27 (tyZero_spec zer_36) rfl rfl rfl rfl (by kernel_rfl) hS ?_
   clear hS; intro w128 b127 hb_b127 hS
   have hIC : InstC R2 ws2 [.int .i64 x15.op, .int .i64 x15.a, .int .i64 0, .int .u64 x15.k, .string x15.name, .slice ad15 x15.args.length cap15] (inst13 (updG (at13 b k).1 ((b.params.toNat + k : Nat) : Int) ((b.params.toNat + (at13 b k).2.length : Nat) : Int)) x15) := instC13 hQk15 hgi (i13_aN (by omega) (by omega)) (i13_b0 (by omega)) (by rw [show (inst13 (updG (at13 b k).1 ((b.params.toNat + k : Nat) : Int) ((b.params.toNat + (at13 b k).2.length : Nat) : Int)) x15).args = x15.args by simp only [inst13]; rw [if_neg (by omega)]]; exact hs15)
   refine WL.append (r := ⟨.slice adv c capv, 36, 6, c, cs⟩) (cs := [.int .i64 x15.op, .int .i64 x15.a, .int .i64 0, .int .u64 x15.k, .string x15.name, .slice ad15 x15.args.length cap15]) 72 Try.underlying27 (tyZero_spec zer_36) byt_36 rfl rfl rfl rfl rfl rfl rfl rfl rfl hS (by unfold maxLen; simp only; omega) (by simp only; omega) ?_
   clear hS; intro w129 v130 hn_v130 hS
   have hrow : w129.ownsRow w.heap.size 36 6 v130 (c + 1) _ := hS.rows _ List.mem_cons_self
   obtain ⟨av130, cv130, rfl, hc1_v130, hc2_v130, hc3_v130⟩ := row_shape hrow
   clear hrow
   refine WL.assign rfl rfl rfl (WL.nil (N.blk (N.seq (W.region ?_))))
   refine WL.add (c := (k : Int) + 1) rfl rfl rfl rfl (rfl) (by omega) ?_
   refine WL.move rfl rfl rfl (WL.nil ?_)
   have hS := hS.dropN 1
   exact N.loop (k + 1, .slice av130 (c + 1) cv130, cs ++ ([.int .i64 x15.op, .int .i64 x15.a, .int .i64 0, .int .u64 x15.k, .string x15.name, .slice ad15 x15.args.length cap15] : List Value), es80, ck80, c + 1, R2, ws2) ⟨rfl, rfl, rfl, rfl, rfl, rfl, rfl, rfl, trivial⟩ ⟨hS, by omega, by rw [hst]; exact hM80, by rw [hst]; exact hch.snoc rfl hIC, by rw [hst, List.length_append, ← hc]; rfl, halL1, hsub⟩ (by first | omega | (simp only; omega))
  have hg114p : x15.op = 14 := by simpa using hg114
  refine WL.skp rfl rfl (WL.skp rfl rfl (WL.skp rfl rfl (WL.pick (v := .bool true) rfl rfl rfl rfl rfl rfl (WL.move rfl rfl rfl (WL.skp rfl rfl (WL.skp rfl rfl (WL.skp rfl rfl (WL.pick (v := .bool true) rfl rfl rfl rfl rfl rfl (WL.nil ?_)))))))))
  refine N.seq (W.condT rfl (W.region (WL.fieldAddr fo_36_2 rfl rfl rfl ?_)))
  refine WL.store (L' := [(b16, .cells #[.int .i64 x15.op, .int .i64 x15.a, .int .i64 0, .int .u64 x15.k, .string x15.name, .slice ad15 x15.args.length cap15] 36 (0, 0)), (b7, .map es80 ck80), (b3, .cells #[.int .i64 0, .slice none 0 0, .int .i64 0, .int .i64 0, .int .i64 0, .slice none 0 0, .int .i64 0, .slice none 0 0] 32 (0, 0)), (b1, .cells #[.int .i64 b.params, .slice adi b.ins.length capi, .int .i64 b.fin.kind, .int .i64 b.fin.a, .int .i64 b.fin.to, .slice adp b.fin.args.length capp, .int .i64 b.fin.els, .slice adq b.fin.elses.length capq] 32 (0, 0))]) 0 rfl rfl rfl rfl siz_3 rfl rfl rfl rfl rfl hS ?_
  clear hS; intro w131 hS
  refine WL.nil (N.seq (W.seq (W.seq (W.region (WL.fieldAddr fo_36_0 rfl rfl rfl (WL.load1 (v := .int .i64 x15.op) one_3 rfl rfl rfl (hS.cell 0 rfl rfl) (WL.bin rfl rfl rfl rfl rfl ?_)))))))
  refine WL.set 88 (v' := .bool true) rfl (by rw [hg114]) ?_
  refine WL.nil (N.seq (W.condT rfl (W.region (WL.fieldAddr fo_36_1 rfl rfl rfl ?_))))
  refine WL.store (L' := [(b16, .cells #[.int .i64 x15.op, .int .i64 0, .int .i64 0, .int .u64 x15.k, .string x15.name, .slice ad15 x15.args.length cap15] 36 (0, 0)), (b7, .map es80 ck80), (b3, .cells #[.int .i64 0, .slice none 0 0, .int .i64 0, .int .i64 0, .int .i64 0, .slice none 0 0, .int .i64 0, .slice none 0 0] 32 (0, 0)), (b1, .cells #[.int .i64 b.params, .slice adi b.ins.length capi, .int .i64 b.fin.kind, .int .i64 b.fin.a, .int .i64 b.fin.to, .slice adp b.fin.args.length capp, .int .i64 b.fin.els, .slice adq b.fin.elses.length capq] 32 (0, 0))]) 0 rfl rfl rfl rfl siz_3 rfl rfl rfl rfl rfl hS ?_
  clear hS; intro w132 hS
  refine WL.nil (N.seq (W.region (WL.move rfl rfl rfl (WL.loadN (cs := [.int .i64 x15.op, .int .i64 0, .int .i64 0, .int .u64 x15.k, .string x15.name, .slice ad15 x15.args.length cap15]) agg_36 rfl rfl rfl rfl (hS.cells 0 (m := 6) rfl rfl) ?_))))
  refine WL.buildSlice (ps := [(0, .agg #[.int .i64 x15.op, .int .i64 0, .int .i64 0, .int .u64 x15.k, .string x15.name, .slice ad15 x15.args.length cap15])]) (cs := [.int .i64 x15.op, .int .i64 0, .int .i64 0, .int .u64 x15.k, .string x15.name, .slice ad15 x15.args.length cap15]) Try.underlying27 (tyZero_spec zer_36) rfl rfl rfl rfl (by kernel_rfl) hS ?_
  clear hS; intro w134 b133 hb_b133 hS
  have hIC : InstC R2 ws2 [.int .i64 x15.op, .int .i64 0, .int .i64 0, .int .u64 x15.k, .string x15.name, .slice ad15 x15.args.length cap15] (inst13 (updG (at13 b k).1 ((b.params.toNat + k : Nat) : Int) ((b.params.toNat + (at13 b k).2.length : Nat) : Int)) x15) := instC13 hQk15 hgi (i13_a14 (by omega)) (i13_b0 (by omega)) (by rw [show (inst13 (updG (at13 b k).1 ((b.params.toNat + k : Nat) : Int) ((b.params.toNat + (at13 b k).2.length : Nat) : Int)) x15).args = x15.args by simp only [inst13]; rw [if_neg (by omega)]]; exact hs15)
  refine WL.append (r := ⟨.slice adv c capv, 36, 6, c, cs⟩) (cs := [.int .i64 x15.op, .int .i64 0, .int .i64 0, .int .u64 x15.k, .string x15.name, .slice ad15 x15.args.length cap15]) 72 Try.underlying27 (tyZero_spec zer_36) byt_36 rfl rfl rfl rfl rfl rfl rfl rfl rfl hS (by unfold maxLen; simp only; omega) (by simp only; omega) ?_
  clear hS; intro w135 v136 hn_v136 hS
  have hrow : w135.ownsRow w.heap.size 36 6 v136 (c + 1) _ := hS.rows _ List.mem_cons_self
  obtain ⟨av136, cv136, rfl, hc1_v136, hc2_v136, hc3_v136⟩ := row_shape hrow
  clear hrow
  refine WL.assign rfl rfl rfl (WL.nil (N.blk (N.seq (W.region ?_))))
  refine WL.add (c := (k : Int) + 1) rfl rfl rfl rfl (rfl) (by omega) ?_
  refine WL.move rfl rfl rfl (WL.nil ?_)
  have hS := hS.dropN 1
  exact N.loop (k + 1, .slice av136 (c + 1) cv136, cs ++ ([.int .i64 x15.op, .int .i64 0, .int .i64 0, .int .u64 x15.k, .string x15.name, .slice ad15 x15.args.length cap15] : List Value), es80, ck80, c + 1, R2, ws2) ⟨rfl, rfl, rfl, rfl, rfl, rfl, rfl, rfl, trivial⟩ ⟨hS, by omega, by rw [hst]; exact hM80, by rw [hst]; exact hch.snoc rfl hIC, by rw [hst, List.length_append, ← hc]; rfl, halL1, hsub⟩ (by first | omega | (simp only; omega))
 have hc14p : ¬ ((k : Int) < (b.ins.length : Int)) := by simpa using hc14
 refine W.exit (X.seq (X.loop (X.blk (N.seq (W.seq (W.region (WL.fieldAddr fo_32_2 rfl rfl rfl (WL.loadN (cs := [.int .i64 b.fin.kind, .int .i64 b.fin.a, .int .i64 b.fin.to, .slice adp b.fin.args.length capp, .int .i64 b.fin.els, .slice adq b.fin.elses.length capq]) agg_30 rfl rfl rfl rfl (hS.cells 2 (m := 6) rfl rfl) ?_))))))))
 refine WL.alloc (tyZero_spec zer_30) rfl rfl hS ?_
 clear hS; intro w138 b137 hb_b137 hS
 refine WL.store (L' := [(b137, .cells #[.int .i64 b.fin.kind, .int .i64 b.fin.a, .int .i64 b.fin.to, .slice adp b.fin.args.length capp, .int .i64 b.fin.els, .slice adq b.fin.elses.length capq] 30 (0, 0)), (b7, .map es1 ck1), (b3, .cells #[.int .i64 0, .slice none 0 0, .int .i64 0, .int .i64 0, .int .i64 0, .slice none 0 0, .int .i64 0, .slice none 0 0] 32 (0, 0)), (b1, .cells #[.int .i64 b.params, .slice adi b.ins.length capi, .int .i64 b.fin.kind, .int .i64 b.fin.a, .int .i64 b.fin.to, .slice adp b.fin.args.length capp, .int .i64 b.fin.els, .slice adq b.fin.elses.length capq] 32 (0, 0))]) 0 rfl rfl rfl rfl siz_30 rfl rfl rfl rfl rfl hS ?_
 clear hS; intro w139 hS
 refine WL.nil (N.seq (W.seq ?_))
 have hke : k = b.ins.length := by omega
 have hgi := small_inI hsm
 refine W.drawP (by kernel_rfl) 9 [(fun v _ => v = .pointer (some ⟨b137, 3, none⟩)), (fun v _ => v = .slice adp b.fin.args.length capp), (fun v _ => v = .map (some b7)), (fun v u => SlV (fun b => w139.heap.size ≤ b ∧ b < u.heap.size) u 1 IntC v (anew13 (at13 b k).1 b.fin.args)), (fun v _ => v = .pointer (some ⟨b137, 5, none⟩)), (fun v _ => v = .slice adq b.fin.elses.length capq), (fun v _ => v = .map (some b7)), (fun v u => SlV (fun b => w139.heap.size ≤ b ∧ b < u.heap.size) u 1 IntC v (anew13 (at13 b k).1 b.fin.elses)), (fun v _ => v = .pointer (some ⟨b137, 3, none⟩))] (by kernel_rfl) rfl (by kernel_rfl) [(1, .pointer (some ⟨b1, 0, none⟩)), (2, .pointer (some ⟨b3, 0, none⟩)), (4, .map (some b7)), (6, .slice adv c capv), (9, .pointer (some ⟨b137, 0, none⟩))] ⟨rfl, rfl, rfl, rfl, rfl, trivial⟩ rfl ⟨stays_eq, stays_eq, stays_eq, stays_new, stays_eq, stays_eq, stays_eq, stays_new, stays_eq, trivial⟩ ?_ ?_
 ·
  refine And.intro (fun β wd hb hD => ?_) ?_
  ·
   refine WL.sub (σ' := [(9, .pointer (some ⟨b137, 0, none⟩))]) ⟨rfl, trivial⟩ ?_
   have hS := hS.grow hb
   refine WL.fieldAddr fo_30_3 rfl rfl rfl ?_
   exact WL.nil (N.cut (.pointer (some ⟨b137, 3, none⟩)) ⟨rfl, trivial⟩ ⟨(Below.refl _ _), rfl⟩)
  refine And.intro (fun β wd hb hD => ?_) ?_
  ·
   obtain ⟨hp0, _⟩ := hD
   replace hp0 : β 0 = .pointer (some ⟨b137, 3, none⟩) := hp0
   refine WL.sub (σ' := [(97, .pointer (some ⟨b137, 3, none⟩))]) ⟨congrArg some hp0, trivial⟩ ?_
   have hS := hS.grow hb
   refine WL.load1 (v := .slice adp b.fin.args.length capp) one_28 rfl rfl rfl (hS.cell 0 rfl rfl) ?_
   exact WL.nil (N.cut (.slice adp b.fin.args.length capp) ⟨rfl, trivial⟩ ⟨(Below.refl _ _), rfl⟩)
  refine And.intro (fun β wd hb hD => ?_) ?_
  ·
   refine WL.sub (σ' := [(4, .map (some b7))]) ⟨rfl, trivial⟩ ?_
   have hS := hS.grow hb
   refine WL.move rfl rfl rfl ?_
   exact WL.nil (N.cut (.map (some b7)) ⟨rfl, trivial⟩ ⟨(Below.refl _ _), rfl⟩)
  refine And.intro (fun β wd hb hD => ?_) ?_
  ·
   obtain ⟨hp1, hp2, _⟩ := hD
   replace hp1 : β 1 = .slice adp b.fin.args.length capp := hp1
   replace hp2 : β 2 = .map (some b7) := hp2
   refine WL.sub (σ' := [(98, .slice adp b.fin.args.length capp), (99, .map (some b7))]) ⟨congrArg some hp1, congrArg some hp2, trivial⟩ ?_
   have hS := hS.grow hb
   refine WL.callF (vs := [.slice adp b.fin.args.length capp, .map (some b7)]) Try.func33 (by kernel_rfl) rfl rfl rfl (anew_ret b.fin.args _ b7 es1 ck1 _ (at13 b k).1 (ro := fun x => x < wd.heap.size) (fun _ h => h) (SlV.keep ht1 (fun b hb => hS.snap b hb) (fun _ _ q => q)) (hS.keys b7 (by simp [keysOf])).2.1 (hS.own _ (List.mem_of_getElem? (i := 1) rfl)) hM1 hgi hok.a) ?_
   rintro v w140 ⟨hv, hbl⟩
   replace hS := hS.grow hbl
   exact WL.nil (N.cut v ⟨rfl, trivial⟩ ⟨hbl, newUp hv hb.size⟩)
  refine And.intro (fun β wd hb hD => ?_) ?_
  ·
   refine WL.sub (σ' := [(9, .pointer (some ⟨b137, 0, none⟩))]) ⟨rfl, trivial⟩ ?_
   have hS := hS.grow hb
   refine WL.fieldAddr fo_30_5 rfl rfl rfl ?_
   exact WL.nil (N.cut (.pointer (some ⟨b137, 5, none⟩)) ⟨rfl, trivial⟩ ⟨(Below.refl _ _), rfl⟩)
  refine And.intro (fun β wd hb hD => ?_) ?_
  ·
   obtain ⟨hp4, _⟩ := hD
   replace hp4 : β 4 = .pointer (some ⟨b137, 5, none⟩) := hp4
   refine WL.sub (σ' := [(101, .pointer (some ⟨b137, 5, none⟩))]) ⟨congrArg some hp4, trivial⟩ ?_
   have hS := hS.grow hb
   refine WL.load1 (v := .slice adq b.fin.elses.length capq) one_28 rfl rfl rfl (hS.cell 0 rfl rfl) ?_
   exact WL.nil (N.cut (.slice adq b.fin.elses.length capq) ⟨rfl, trivial⟩ ⟨(Below.refl _ _), rfl⟩)
  refine And.intro (fun β wd hb hD => ?_) ?_
  ·
   refine WL.sub (σ' := [(4, .map (some b7))]) ⟨rfl, trivial⟩ ?_
   have hS := hS.grow hb
   refine WL.move rfl rfl rfl ?_
   exact WL.nil (N.cut (.map (some b7)) ⟨rfl, trivial⟩ ⟨(Below.refl _ _), rfl⟩)
  refine And.intro (fun β wd hb hD => ?_) ?_
  ·
   obtain ⟨hp5, hp6, _, _⟩ := hD
   replace hp5 : β 5 = .slice adq b.fin.elses.length capq := hp5
   replace hp6 : β 6 = .map (some b7) := hp6
   refine WL.sub (σ' := [(102, .slice adq b.fin.elses.length capq), (103, .map (some b7))]) ⟨congrArg some hp5, congrArg some hp6, trivial⟩ ?_
   have hS := hS.grow hb
   refine WL.callF (vs := [.slice adq b.fin.elses.length capq, .map (some b7)]) Try.func33 (by kernel_rfl) rfl rfl rfl (anew_ret b.fin.elses _ b7 es1 ck1 _ (at13 b k).1 (ro := fun x => x < wd.heap.size) (fun _ h => h) (SlV.keep ht2 (fun b hb => hS.snap b hb) (fun _ _ q => q)) (hS.keys b7 (by simp [keysOf])).2.1 (hS.own _ (List.mem_of_getElem? (i := 1) rfl)) hM1 hgi hok.e) ?_
   rintro v w141 ⟨hv, hbl⟩
   replace hS := hS.grow hbl
   exact WL.nil (N.cut v ⟨rfl, trivial⟩ ⟨hbl, newUp hv hb.size⟩)
  refine And.intro (fun β wd hb hD => ?_) ?_
  ·
   refine WL.sub (σ' := [(9, .pointer (some ⟨b137, 0, none⟩))]) ⟨rfl, trivial⟩ ?_
   have hS := hS.grow hb
   refine WL.fieldAddr fo_30_3 rfl rfl rfl ?_
   exact WL.nil (N.cut (.pointer (some ⟨b137, 3, none⟩)) ⟨rfl, trivial⟩ ⟨(Below.refl _ _), rfl⟩)
  trivial
 intro β w142 hb hD
 obtain ⟨hp0, hp1, hp2, hp3, hp4, hp5, hp6, hp7, hp8, _⟩ := hD
 refine WL.sub (σ' := [(1, .pointer (some ⟨b1, 0, none⟩)), (2, .pointer (some ⟨b3, 0, none⟩)), (4, .map (some b7)), (6, .slice adv c capv), (9, .pointer (some ⟨b137, 0, none⟩)), (97, .pointer (some ⟨b137, 3, none⟩)), (98, .slice adp b.fin.args.length capp), (99, .map (some b7)), (100, (β 3)), (101, .pointer (some ⟨b137, 5, none⟩)), (102, .slice adq b.fin.elses.length capq), (103, .map (some b7)), (104, (β 7)), (105, .pointer (some ⟨b137, 3, none⟩))]) ⟨rfl, rfl, rfl, rfl, rfl, congrArg some (show β 0 = .pointer (some ⟨b137, 3, none⟩) from hp0), congrArg some (show β 1 = .slice adp b.fin.args.length capp from hp1), congrArg some (show β 2 = .map (some b7) from hp2), rfl, congrArg some (show β 4 = .pointer (some ⟨b137, 5, none⟩) from hp4), congrArg some (show β 5 = .slice adq b.fin.elses.length capq from hp5), congrArg some (show β 6 = .map (some b7) from hp6), rfl, congrArg some (show β 8 = .pointer (some ⟨b137, 3, none⟩) from hp8), trivial⟩ ?_
 have hSd := hS
 replace hS := hS.grow hb
 replace hp3 : (fun v u => SlV (fun b => w139.heap.size ≤ b ∧ b < u.heap.size) u 1 IntC v (anew13 (at13 b k).1 b.fin.args)) (β 3) w142 := hp3
 generalize β 3 = z3 at hp3 ⊢
 have hal143 := hSd.alikeTo hb (ro' := (roFrom R2 w139 w142)) (fun b hb => .inl hb)
 replace hsub : ∀ b, (roFrom R2 w139 w142) b → ro b ∨ w.heap.size ≤ b := fun b hb => hb.elim (hsub b) (fun h => .inr (Nat.le_trans hSd.below.size h.1))
 replace hfin := hfin.keep hal143
 replace hch := hch.mono fun _ _ h => h.keep hal143
 replace hS := hSd.readNew hb
 replace hp3 := SlV.keep hp3 (ro' := (roFrom R2 w139 w142)) (w' := w142) (Q' := IntC) (fun x hx => ⟨.inr hx, rfl⟩) (fun _ _ h => h)
 obtain ⟨ad3, cap3, rfl, _, _, _, _⟩ := id hp3
 replace hp7 : (fun v u => SlV (fun b => w139.heap.size ≤ b ∧ b < u.heap.size) u 1 IntC v (anew13 (at13 b k).1 b.fin.elses)) (β 7) w142 := hp7
 generalize β 7 = z7 at hp7 ⊢
 replace hp7 := SlV.keep hp7 (ro' := (roFrom R2 w139 w142)) (w' := w142) (Q' := IntC) (fun x hx => ⟨.inr hx, rfl⟩) (fun _ _ h => h)
 obtain ⟨ad7, cap7, rfl, _, _, _, _⟩ := id hp7
 refine WL.store (L' := [(b137, .cells #[.int .i64 b.fin.kind, .int .i64 b.fin.a, .int .i64 b.fin.to, .slice ad3 ((anew13 (at13 b k).1 b.fin.args).length) cap3, .int .i64 b.fin.els, .slice adq b.fin.elses.length capq] 30 (0, 0)), (b7, .map es1 ck1), (b3, .cells #[.int .i64 0, .slice none 0 0, .int .i64 0, .int .i64 0, .int .i64 0, .slice none 0 0, .int .i64 0, .slice none 0 0] 32 (0, 0)), (b1, .cells #[.int .i64 b.params, .slice adi b.ins.length capi, .int .i64 b.fin.kind, .int .i64 b.fin.a, .int .i64 b.fin.to, .slice adp b.fin.args.length capp, .int .i64 b.fin.els, .slice adq b.fin.elses.length capq] 32 (0, 0))]) 0 rfl rfl rfl rfl siz_28 rfl rfl rfl rfl rfl hS ?_
 clear hS; intro w144 hS
 refine WL.fieldAddr fo_30_5 rfl rfl rfl ?_
 refine WL.store (L' := [(b137, .cells #[.int .i64 b.fin.kind, .int .i64 b.fin.a, .int .i64 b.fin.to, .slice ad3 ((anew13 (at13 b k).1 b.fin.args).length) cap3, .int .i64 b.fin.els, .slice ad7 ((anew13 (at13 b k).1 b.fin.elses).length) cap7] 30 (0, 0)), (b7, .map es1 ck1), (b3, .cells #[.int .i64 0, .slice none 0 0, .int .i64 0, .int .i64 0, .int .i64 0, .slice none 0 0, .int .i64 0, .slice none 0 0] 32 (0, 0)), (b1, .cells #[.int .i64 b.params, .slice adi b.ins.length capi, .int .i64 b.fin.kind, .int .i64 b.fin.a, .int .i64 b.fin.to, .slice adp b.fin.args.length capp, .int .i64 b.fin.els, .slice adq b.fin.elses.length capq] 32 (0, 0))]) 0 rfl rfl rfl rfl siz_28 rfl rfl rfl rfl rfl hS ?_
 clear hS; intro w145 hS
 refine WL.nil (N.seq (W.seq (W.seq (W.region (WL.fieldAddr fo_30_0 rfl rfl rfl (WL.load1 (v := .int .i64 b.fin.kind) one_3 rfl rfl rfl (hS.cell 0 rfl rfl) (WL.bin rfl rfl rfl rfl rfl (WL.nil (N.seq ?_)))))))))
 refine W.cond rfl (fun hc146 => ?_) (fun hc146 => ?_)
 ·
  have hc146p : ¬ (b.fin.kind = 1) := by simpa using hc146
  refine W.region (WL.move rfl rfl rfl (WL.fieldAddr fo_30_1 rfl rfl rfl (WL.load1 (v := .int .i64 b.fin.a) one_3 rfl rfl rfl (hS.cell 0 rfl rfl) ?_)))
  refine WL.mapGet b.fin.a keyE_int Try.underlying63 Try.underlying3 zb_3 hM1 rfl rfl rfl rfl (hS.own _ (List.mem_of_getElem? (i := 1) rfl)) (v := .int .i64 (((at13 b k).1 b.fin.a).getD 0)) (by cases (at13 b k).1 b.fin.a <;> rfl) ?_
  refine WL.fieldAddr fo_30_1 rfl rfl rfl ?_
  refine WL.store (L' := [(b137, .cells #[.int .i64 b.fin.kind, .int .i64 (((at13 b k).1 b.fin.a).getD 0), .int .i64 b.fin.to, .slice ad3 ((anew13 (at13 b k).1 b.fin.args).length) cap3, .int .i64 b.fin.els, .slice ad7 ((anew13 (at13 b k).1 b.fin.elses).length) cap7] 30 (0, 0)), (b7, .map es1 ck1), (b3, .cells #[.int .i64 0, .slice none 0 0, .int .i64 0, .int .i64 0, .int .i64 0, .slice none 0 0, .int .i64 0, .slice none 0 0] 32 (0, 0)), (b1, .cells #[.int .i64 b.params, .slice adi b.ins.length capi, .int .i64 b.fin.kind, .int .i64 b.fin.a, .int .i64 b.fin.to, .slice adp b.fin.args.length capp, .int .i64 b.fin.els, .slice adq b.fin.elses.length capq] 32 (0, 0))]) 0 rfl rfl rfl rfl siz_3 rfl rfl rfl rfl rfl hS ?_
  clear hS; intro w147 hS
  refine WL.nil (N.seq (W.seq (W.region (WL.fieldAddr fo_32_0 rfl rfl rfl (WL.load1 (v := .int .i64 b.params) one_3 rfl rfl rfl (hS.cell 3 rfl rfl) (WL.move rfl rfl rfl (WL.loadN (cs := [.int .i64 b.fin.kind, .int .i64 (((at13 b k).1 b.fin.a).getD 0), .int .i64 b.fin.to, .slice ad3 ((anew13 (at13 b k).1 b.fin.args).length) cap3, .int .i64 b.fin.els, .slice ad7 ((anew13 (at13 b k).1 b.fin.elses).length) cap7]) agg_30 rfl rfl rfl rfl (hS.cells 0 (m := 6) rfl rfl) ?_)))))))
  refine WL.build (ps := [(0, .int .i64 b.params), (1, .slice adv c capv), (2, .agg #[.int .i64 b.fin.kind, .int .i64 (((at13 b k).1 b.fin.a).getD 0), .int .i64 b.fin.to, .slice ad3 ((anew13 (at13 b k).1 b.fin.args).length) cap3, .int .i64 b.fin.els, .slice ad7 ((anew13 (at13 b k).1 b.fin.elses).length) cap7])]) (cs := [.int .i64 b.params, .slice adv c capv, .int .i64 b.fin.kind, .int .i64 (((at13 b k).1 b.fin.a).getD 0), .int .i64 b.fin.to, .slice ad3 ((anew13 (at13 b k).1 b.fin.args).length) cap3, .int .i64 b.fin.els, .slice ad7 ((anew13 (at13 b k).1 b.fin.elses).length) cap7]) rfl rfl rfl (by kernel_rfl) ?_
  refine WL.store (L' := [(b137, .cells #[.int .i64 b.fin.kind, .int .i64 (((at13 b k).1 b.fin.a).getD 0), .int .i64 b.fin.to, .slice ad3 ((anew13 (at13 b k).1 b.fin.args).length) cap3, .int .i64 b.fin.els, .slice ad7 ((anew13 (at13 b k).1 b.fin.elses).length) cap7] 30 (0, 0)), (b7, .map es1 ck1), (b3, .cells #[.int .i64 b.params, .slice adv c capv, .int .i64 b.fin.kind, .int .i64 (((at13 b k).1 b.fin.a).getD 0), .int .i64 b.fin.to, .slice ad3 ((anew13 (at13 b k).1 b.fin.args).length) cap3, .int .i64 b.fin.els, .slice ad7 ((anew13 (at13 b k).1 b.fin.elses).length) cap7] 32 (0, 0)), (b1, .cells #[.int .i64 b.params, .slice adi b.ins.length capi, .int .i64 b.fin.kind, .int .i64 b.fin.a, .int .i64 b.fin.to, .slice adp b.fin.args.length capp, .int .i64 b.fin.els, .slice adq b.fin.elses.length capq] 32 (0, 0))]) 2 rfl rfl rfl rfl siz_32 rfl rfl rfl rfl rfl hS ?_
  clear hS; intro w148 hS
  refine WL.nil (N.seq ?_)
  refine Fin.retC rfl (v := .agg #[.int .i64 b.params, .slice adv c capv, .int .i64 b.fin.kind, .int .i64 (((at13 b k).1 b.fin.a).getD 0), .int .i64 b.fin.to, .slice ad3 ((anew13 (at13 b k).1 b.fin.args).length) cap3, .int .i64 b.fin.els, .slice ad7 ((anew13 (at13 b k).1 b.fin.elses).length) cap7]) rfl (tyAgg_run agg_32 (cs := [.int .i64 b.params, .slice adv c capv, .int .i64 b.fin.kind, .int .i64 (((at13 b k).1 b.fin.a).getD 0), .int .i64 b.fin.to, .slice ad3 ((anew13 (at13 b k).1 b.fin.args).length) cap3, .int .i64 b.fin.els, .slice ad7 ((anew13 (at13 b k).1 b.fin.elses).length) cap7]) rfl (hS.cells 2 (m := 8) rfl rfl)) ?_
  have hfin : Alike (roFrom R2 w139 w142) w142 (roFrom ro w w148) w148 := fun b hb => ⟨(hsub b hb).elim .inl (fun h => .inr ⟨h, (hS.snap b hb).1⟩), (hS.snap b hb).2⟩
  have hbe : block13 b = ⟨b.params, (at13 b k).2, term13 (at13 b k).1 b.fin⟩ := by rw [hke]; rfl
  rw [hbe]
  refine ⟨_, rfl, ⟨_, _, rfl, row_slv (hS.rows _ List.mem_cons_self) (hch.mono fun _ _ h => h.keep hfin) hc (fun x hx => .inr ((hS.keys x (by simp only [keysOf, List.mem_append, List.mem_filterMap]; exact .inr ⟨_, List.mem_cons_self, hx⟩)).imp id (·.1))), ?_, hpar⟩, hS.below⟩
  show TermC _ _ _ (term13 (at13 b k).1 b.fin)
  unfold term13
  rw [if_neg (by omega)]
  exact ⟨_, _, rfl, SlV.keep hp3 hfin (fun _ _ h => h), SlV.keep hp7 hfin (fun _ _ h => h), htk, hgi _, htt, hte⟩
 have hc146p : b.fin.kind = 1 := by simpa using hc146
 refine W.skip (N.seq (W.seq (W.region (WL.fieldAddr fo_32_0 rfl rfl rfl (WL.load1 (v := .int .i64 b.params) one_3 rfl rfl rfl (hS.cell 3 rfl rfl) (WL.move rfl rfl rfl (WL.loadN (cs := [.int .i64 b.fin.kind, .int .i64 b.fin.a, .int .i64 b.fin.to, .slice ad3 ((anew13 (at13 b k).1 b.fin.args).length) cap3, .int .i64 b.fin.els, .slice ad7 ((anew13 (at13 b k).1 b.fin.elses).length) cap7]) agg_30 rfl rfl rfl rfl (hS.cells 0 (m := 6) rfl rfl) ?_)))))))
 refine WL.build (ps := [(0, .int .i64 b.params), (1, .slice adv c capv), (2, .agg #[.int .i64 b.fin.kind, .int .i64 b.fin.a, .int .i64 b.fin.to, .slice ad3 ((anew13 (at13 b k).1 b.fin.args).length) cap3, .int .i64 b.fin.els, .slice ad7 ((anew13 (at13 b k).1 b.fin.elses).length) cap7])]) (cs := [.int .i64 b.params, .slice adv c capv, .int .i64 b.fin.kind, .int .i64 b.fin.a, .int .i64 b.fin.to, .slice ad3 ((anew13 (at13 b k).1 b.fin.args).length) cap3, .int .i64 b.fin.els, .slice ad7 ((anew13 (at13 b k).1 b.fin.elses).length) cap7]) rfl rfl rfl (by kernel_rfl) ?_
 refine WL.store (L' := [(b137, .cells #[.int .i64 b.fin.kind, .int .i64 b.fin.a, .int .i64 b.fin.to, .slice ad3 ((anew13 (at13 b k).1 b.fin.args).length) cap3, .int .i64 b.fin.els, .slice ad7 ((anew13 (at13 b k).1 b.fin.elses).length) cap7] 30 (0, 0)), (b7, .map es1 ck1), (b3, .cells #[.int .i64 b.params, .slice adv c capv, .int .i64 b.fin.kind, .int .i64 b.fin.a, .int .i64 b.fin.to, .slice ad3 ((anew13 (at13 b k).1 b.fin.args).length) cap3, .int .i64 b.fin.els, .slice ad7 ((anew13 (at13 b k).1 b.fin.elses).length) cap7] 32 (0, 0)), (b1, .cells #[.int .i64 b.params, .slice adi b.ins.length capi, .int .i64 b.fin.kind, .int .i64 b.fin.a, .int .i64 b.fin.to, .slice adp b.fin.args.length capp, .int .i64 b.fin.els, .slice adq b.fin.elses.length capq] 32 (0, 0))]) 2 rfl rfl rfl rfl siz_32 rfl rfl rfl rfl rfl hS ?_
 clear hS; intro w149 hS
 refine WL.nil (N.seq ?_)
 refine Fin.retC rfl (v := .agg #[.int .i64 b.params, .slice adv c capv, .int .i64 b.fin.kind, .int .i64 b.fin.a, .int .i64 b.fin.to, .slice ad3 ((anew13 (at13 b k).1 b.fin.args).length) cap3, .int .i64 b.fin.els, .slice ad7 ((anew13 (at13 b k).1 b.fin.elses).length) cap7]) rfl (tyAgg_run agg_32 (cs := [.int .i64 b.params, .slice adv c capv, .int .i64 b.fin.kind, .int .i64 b.fin.a, .int .i64 b.fin.to, .slice ad3 ((anew13 (at13 b k).1 b.fin.args).length) cap3, .int .i64 b.fin.els, .slice ad7 ((anew13 (at13 b k).1 b.fin.elses).length) cap7]) rfl (hS.cells 2 (m := 8) rfl rfl)) ?_
 have hfin : Alike (roFrom R2 w139 w142) w142 (roFrom ro w w149) w149 := fun b hb => ⟨(hsub b hb).elim .inl (fun h => .inr ⟨h, (hS.snap b hb).1⟩), (hS.snap b hb).2⟩
 have hbe : block13 b = ⟨b.params, (at13 b k).2, term13 (at13 b k).1 b.fin⟩ := by rw [hke]; rfl
 rw [hbe]
 refine ⟨_, rfl, ⟨_, _, rfl, row_slv (hS.rows _ List.mem_cons_self) (hch.mono fun _ _ h => h.keep hfin) hc (fun x hx => .inr ((hS.keys x (by simp only [keysOf, List.mem_append, List.mem_filterMap]; exact .inr ⟨_, List.mem_cons_self, hx⟩)).imp id (·.1))), ?_, hpar⟩, hS.below⟩
 show TermC _ _ _ (term13 (at13 b k).1 b.fin)
 unfold term13
 rw [if_pos (by omega)]
 exact ⟨_, _, rfl, SlV.keep hp3 hfin (fun _ _ h => h), SlV.keep hp7 hfin (fun _ _ h => h), htk, hta, htt, hte⟩

end Go.Proofs.Ytdlcmhkfglckfaa
