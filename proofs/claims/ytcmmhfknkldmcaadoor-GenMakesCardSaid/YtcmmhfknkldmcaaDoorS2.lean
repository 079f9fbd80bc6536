/-
  Contracts of layer 16 (slot). No condition beyond those that each theorem states.
-/
import Derived.Test.YtcmmhfknkldmcaaDoorS1
namespace Go.Proofs.YtcmmhfknkldmcaaDoor
open Go.RowKit
theorem siz_3 : tySize Tryd.prog 3 1 = true := by kernel_rfl
theorem siz_55 : tySize Tryd.prog 55 1 = true := by kernel_rfl
theorem siz_69 : tySize Tryd.prog 69 6 = true := by kernel_rfl
theorem zer_55 : tyZero Tryd.prog 55 = some [.slice none 0 0] := by kernel_rfl
theorem zer_69 : tyZero Tryd.prog 69 = some [.int .i64 0, .int .i64 0, .int .i64 0, .int .u64 0, .string ⟨#[]⟩, .slice none 0 0] := by kernel_rfl
def use16 (us : List Int) (step : Int) (l : List Int) : List Int := l.foldl (fun u v => u.set v.toNat step) us
theorem use16_snoc (us : List Int) (step : Int) (l : List Int) (x : Int) : use16 us step (l ++ [x]) = (use16 us step l).set x.toNat step := by simp [use16]
theorem use16_length (us : List Int) (step : Int) (l : List Int) : (use16 us step l).length = us.length := by
  induction l using snoc_ind with
  | h0 => rfl
  | h1 l x ih => rw [use16_snoc, List.length_set, ih]
def ini16 (p : Int) (v : Nat) : Int := if (-1 : Int) > (v : Int) - p then -1 else (v : Int) - p
def init16 (p : Int) (n v : Nat) : List Int := (List.range v).map (ini16 p) ++ List.replicate (n - v) 0
theorem init16_set (p : Int) (n v : Nat) (h : v < n) : (init16 p n v).set v (ini16 p v) = init16 p n (v + 1) := by
  unfold init16
  rw [show n - v = (n - (v + 1)) + 1 by omega, List.replicate_succ, List.set_append_right _ _ (by simp), List.length_map, List.length_range, Nat.sub_self, List.set_cons_zero, List.range_succ, List.map_append]
  simp
theorem init16_length (p : Int) (n v : Nat) (h : v ≤ n) : (init16 p n v).length = n := by simp [init16]; omega
theorem init16_zero (p : Int) (n : Nat) : init16 p n 0 = List.replicate n 0 := by simp [init16]
theorem init16_full (p : Int) (n : Nat) : init16 p n n = (List.range n).map (ini16 p) := by simp [init16]
def useIns16 : Nat → List Int → List DInst → List Int
  | _, us, [] => us
  | i, us, x :: r => useIns16 (i + 1) (use16 us i (uses5 x)) r
theorem useIns16_snoc : ∀ (l : List DInst) (i : Nat) (us : List Int) (x : DInst), useIns16 i us (l ++ [x]) = use16 (useIns16 i us l) ((i + l.length : Nat) : Int) (uses5 x)
  | [], i, us, x => by simp [useIns16]
  | y :: r, i, us, x => by
    rw [List.cons_append, useIns16, useIns16_snoc r (i + 1) _ x, useIns16, List.length_cons]
    congr 2; omega
theorem useIns16_length : ∀ (l : List DInst) (i : Nat) (us : List Int), (useIns16 i us l).length = us.length
  | [], _, _ => rfl
  | x :: r, i, us => by rw [useIns16, useIns16_length r, use16_length]
def base16 (b : DBlock) : List Int := (List.range (b.params.toNat + b.ins.length)).map (ini16 b.params)
def last16 (b : DBlock) : List Int :=
  let u := use16 (use16 (useIns16 0 (base16 b) b.ins) b.ins.length b.fin.args) b.ins.length b.fin.elses
  if b.fin.kind = 1 then u else use16 u b.ins.length [b.fin.a]
theorem base16_length (b : DBlock) : (base16 b).length = b.params.toNat + b.ins.length := by simp [base16]
theorem last16_length (b : DBlock) : (last16 b).length = b.params.toNat + b.ins.length := by
  unfold last16; dsimp only
  split <;> simp only [use16_length, useIns16_length, base16_length]
theorem use16_mem {us : List Int} {step : Int} {l : List Int} {x : Int} (h : x ∈ use16 us step l) : x ∈ us ∨ x = step := by
  induction l using snoc_ind with
  | h0 => exact .inl h
  | h1 l y ih =>
    rw [use16_snoc] at h
    rcases List.mem_or_eq_of_mem_set h with h | h
    · exact ih h
    · exact .inr h
theorem useIns16_mem : ∀ {l : List DInst} {i : Nat} {us : List Int} {x : Int}, x ∈ useIns16 i us l → x ∈ us ∨ ((i : Int) ≤ x ∧ x < ((i + l.length : Nat) : Int))
  | [], _, _, _, h => .inl h
  | y :: r, i, us, x, h => by
    rw [useIns16] at h
    rcases useIns16_mem h with h | h
    · rcases use16_mem h with h | h
      · exact .inl h
      · rw [List.length_cons]; exact .inr (by omega)
    · rw [List.length_cons]; exact .inr (by omega)
theorem last16_range {b : DBlock} {x : Int} (hp : 0 ≤ b.params) (h : x ∈ last16 b) : -1 ≤ x ∧ x ≤ b.ins.length := by
  have hb : ∀ x ∈ base16 b, -1 ≤ x ∧ x ≤ b.ins.length := fun x hx => by
    obtain ⟨v, hv, rfl⟩ := List.mem_map.1 hx
    have := List.mem_range.1 hv
    unfold ini16; split <;> omega
  have h1 : ∀ x ∈ useIns16 0 (base16 b) b.ins, -1 ≤ x ∧ x ≤ b.ins.length := fun x hx => by
    rcases useIns16_mem hx with h | h
    · exact hb x h
    · omega
  have h2 : ∀ x ∈ use16 (useIns16 0 (base16 b) b.ins) b.ins.length b.fin.args, -1 ≤ x ∧ x ≤ b.ins.length := fun x hx => by
    rcases use16_mem hx with h | h
    · exact h1 x h
    · omega
  have h3 : ∀ x ∈ use16 (use16 (useIns16 0 (base16 b) b.ins) b.ins.length b.fin.args) b.ins.length b.fin.elses, -1 ≤ x ∧ x ≤ b.ins.length := fun x hx => by
    rcases use16_mem hx with h | h
    · exact h2 x h
    · omega
  unfold last16 at h; dsimp only at h
  split at h
  · exact h3 x h
  · rcases use16_mem h with h | h
    · exact h3 x h
    · omega

structure Ok16 (b : DBlock) : Prop where
  p0 : 0 ≤ b.params
  p1 : b.params ≤ 1000
  n : b.ins.length ≤ 1000
  la : b.fin.args.length ≤ 1000
  le : b.fin.elses.length ≤ 1000
  args : ∀ x ∈ b.ins, x.args.length ≤ 1000
  uses : ∀ x ∈ b.ins, ∀ v ∈ uses5 x, 0 ≤ v ∧ v < ((b.params.toNat + b.ins.length : Nat) : Int)
  ta : ∀ v ∈ b.fin.args, 0 ≤ v ∧ v < ((b.params.toNat + b.ins.length : Nat) : Int)
  te : ∀ v ∈ b.fin.elses, 0 ≤ v ∧ v < ((b.params.toNat + b.ins.length : Nat) : Int)
  tv : b.fin.kind ≠ 1 → 0 ≤ b.fin.a ∧ b.fin.a < ((b.params.toNat + b.ins.length : Nat) : Int)
theorem ok16_of5 {f : DFunc} {b : DBlock} (h : func5 f = true) (hb : b ∈ f.blocks) : Ok16 b := by
  have hb5 := (func5_all h).2 b hb
  obtain ⟨p0, p1, hn⟩ := block5_all hb5
  obtain ⟨hall, hterm⟩ := block5_more hb5
  obtain ⟨t1, t2, t3, t4, _, _, t7, _, _⟩ := term5_all hterm h
  have hN : ((b.params.toNat + b.ins.length : Nat) : Int) = b.params + b.ins.length := by omega
  have hx : ∀ x ∈ b.ins, ∃ i : Nat, i < b.ins.length ∧ inst5 x (b.params + i) = true := fun x hx => by
    obtain ⟨i, hi⟩ := List.mem_iff_getElem?.1 hx
    exact ⟨i, (List.getElem?_eq_some_iff.1 hi).1, allFrom_at b.ins b.params i x hall hi⟩
  refine ⟨p0, by omega, by omega, by omega, by omega, fun x hx' => ?_, fun x hx' v hv => ?_, by rw [hN]; exact t3, by rw [hN]; exact t4, by rw [hN]; exact t7⟩
  · obtain ⟨i, _, h5⟩ := hx x hx'; have := (inst5_all h5).1; omega
  · obtain ⟨i, hi, h5⟩ := hx x hx'
    have := (inst5_all h5).2.1 v hv
    rw [hN]; omega

theorem use16_ret {w0 ws w : World} {ro : Nat → Prop} {L : List (Nat × Obj)} {Rs : List Row} (bu g : Nat) (us : List Int) (NN : Nat) (hN : us.length = NN) (step : Int) (xs : List Int) (vx : Value) (hS : St w0 ws w ro ((bu, .cells #[.slice (some ⟨g, 0, none⟩) NN NN] 55 (0, 0)) :: (g, arrO kI 3 us) :: L) Rs) (hx : SlV ro ws 1 IntC vx xs) (hin : ∀ v ∈ xs, 0 ≤ v ∧ v < (NN : Int)) : Ret Tryd.prog 62 #[.int .i64 step, vx, .pointer (some ⟨bu, 0, none⟩)] w fun v w' => v = .tuple #[] ∧ St w0 ws w' ro ((bu, .cells #[.slice (some ⟨g, 0, none⟩) NN NN] 55 (0, 0)) :: (g, arrO kI 3 (use16 us step xs)) :: L) Rs := by
 obtain ⟨ad, cap, rfl, haa, hab, hac, had⟩ := id hx
 have ham : xs.length ≤ 9223372036854775807 := by have h1 := haa; have h2 := hab; unfold maxLen at h2; omega
 refine Ret.enter (P := Tryd.prog) (n := 18) (args := [.int .i64 step, .slice ad xs.length cap, .pointer (some ⟨bu, 0, none⟩)]) (σ := [(0, .int .i64 step), (1, .slice ad xs.length cap), (2, .pointer (some ⟨bu, 0, none⟩))]) Tryd.func62 rfl rfl rfl rfl ?_
 refine W.seq (W.region (WL.move rfl rfl rfl (WL.lenSlice Tryd.underlying55 rfl rfl rfl (WL.move rfl rfl rfl (WL.nil (N.seq (W.block ?_)))))))
 refine W.loop (α := Nat) (fun (k : Nat) => [(0, .int .i64 step), (2, .pointer (some ⟨bu, 0, none⟩)), (7, .slice ad xs.length cap), (8, .int .i64 (xs.length : Int)), (9, .int .i64 (k : Int))]) (fun (k : Nat) u => St w0 ws u ro ((bu, .cells #[.slice (some ⟨g, 0, none⟩) NN NN] 55 (0, 0)) :: (g, arrO kI 3 (use16 us step (xs.take k))) :: L) (Rs) ∧ k ≤ xs.length) (fun (k : Nat) => xs.length - k) 0 ⟨rfl, rfl, rfl, rfl, rfl, trivial⟩ ⟨hS, Nat.zero_le _⟩ ?_
 clear hS
 rintro k w1 ⟨hS, hk⟩
 refine W.seq (W.region (WL.bin rfl rfl rfl rfl rfl (WL.nil (N.seq (W.seq ?_)))))
 refine W.cond rfl (fun hc2 => ?_) (fun hc2 => ?_)
 ·
  have hc2p : (k : Int) < (xs.length : Int) := by simpa using hc2
  refine W.skip (N.seq (W.seq (W.block (W.seq (W.region ?_)))))
  have hj3 : k < xs.length := by omega
  obtain ⟨x3, hx3, b3, o3, cs3, hE3, hr3, _, hc3, hQ3⟩ := opn had hj3
  obtain ⟨rfl, hi3⟩ := hQ3
  refine WL.indexAddrE (j := k) Tryd.underlying55 isz_3 rfl rfl rfl rfl hj3 hE3 (WL.load1 (v := .int .i64 x3) one_3 rfl rfl rfl (hS.roCells hr3 hc3 0 _ rfl) (WL.assign rfl rfl rfl (WL.nil (N.seq (W.region (WL.load1 (v := .slice (some ⟨g, 0, none⟩) NN NN) one_55 rfl rfl rfl (hS.cell 0 rfl rfl) (WL.move rfl rfl rfl (WL.move rfl rfl rfl ?_))))))))
  have hlt3 := hin _ (List.mem_of_getElem? hx3)
  refine WL.set 14 (v' := .int .i64 (x3.toNat : Int)) rfl (by congr 1; omega) ?_
  refine WL.indexAddr (j := x3.toNat) Tryd.underlying55 isz_3 rfl rfl rfl rfl (by omega) ?_
  refine WL.storeArr (v := step) 1 rfl rfl rfl rfl siz_3 rfl rfl (by rw [use16_length]; omega) hS ?_
  clear hS; intro w4 hS
  refine WL.nil (N.blk (N.seq (W.region ?_)))
  refine WL.add (c := (k : Int) + 1) rfl rfl rfl rfl (rfl) (by omega) ?_
  refine WL.move rfl rfl rfl (WL.nil ?_)
  rw [← use16_snoc, ← take_next hx3] at hS
  exact N.loop (k + 1) ⟨rfl, rfl, rfl, rfl, rfl, trivial⟩ ⟨hS, by omega⟩ (by first | omega | (simp only; omega))
 have hc2p : ¬ ((k : Int) < (xs.length : Int)) := by simpa using hc2
 refine W.exit (X.seq (X.loop (X.blk ?_)))
 refine Fin.end0 rfl ?_
 have e : k = xs.length := by omega
 subst e
 rw [List.take_length] at hS
 exact ⟨rfl, hS⟩

set_option maxRecDepth 10000 in
set_option maxHeartbeats 2000000 in
theorem last16_ret (b : DBlock) (cs : List Value) {w : World} {ro : Nat → Prop} (hro : ∀ b, ro b → b < w.heap.size) (hb : BlockC ro w cs b) (hok : Ok16 b) : Ret Tryd.prog 43 #[.agg cs.toArray] w fun v w' => SlV (fun b => w.heap.size ≤ b ∧ b < w'.heap.size) w' 1 IntC v (last16 b) ∧ Below w.heap.size w w' := by
 obtain ⟨si, tsx, rfl, hin, hfin, hpar⟩ := id hb
 obtain ⟨adi, capi, rfl, hina, hinb, hinc, hind⟩ := id hin
 have hinm : b.ins.length ≤ 9223372036854775807 := by have h1 := hina; have h2 := hinb; unfold maxLen at h2; omega
 obtain ⟨sp, sq, rfl, ht1, ht2, htk, hta, htt, hte⟩ := id hfin
 obtain ⟨adp, capp, rfl, htpa, htpb, htpc, htpd⟩ := id ht1
 have htpm : b.fin.args.length ≤ 9223372036854775807 := by have h1 := htpa; have h2 := htpb; unfold maxLen at h2; omega
 obtain ⟨adq, capq, rfl, htqa, htqb, htqc, htqd⟩ := id ht2
 have htqm : b.fin.elses.length ≤ 9223372036854775807 := by have h1 := htqa; have h2 := htqb; unfold maxLen at h2; omega
 refine Ret.enter (P := Tryd.prog) (n := 70) (args := [.agg #[.int .i64 b.params, .slice adi b.ins.length capi, .int .i64 b.fin.kind, .int .i64 b.fin.a, .int .i64 b.fin.to, .slice adp b.fin.args.length capp, .int .i64 b.fin.els, .slice adq b.fin.elses.length capq]]) (σ := [(0, .agg #[.int .i64 b.params, .slice adi b.ins.length capi, .int .i64 b.fin.kind, .int .i64 b.fin.a, .int .i64 b.fin.to, .slice adp b.fin.args.length capp, .int .i64 b.fin.els, .slice adq b.fin.elses.length capq])]) Tryd.func43 rfl rfl rfl rfl ?_
 have hS := St.start (ro := ro) hro
 have hokn := hok.n; have hokp := hok.p0; have hokq := hok.p1
 have hsub : ∀ b, ro b → ro b ∨ w.heap.size ≤ b := fun _ h => .inl h
 refine W.seq (W.region ?_)
 refine WL.box (v := .agg #[.int .i64 b.params, .slice adi b.ins.length capi, .int .i64 b.fin.kind, .int .i64 b.fin.a, .int .i64 b.fin.to, .slice adp b.fin.args.length capp, .int .i64 b.fin.els, .slice adq b.fin.elses.length capq]) (cs := [.int .i64 b.params, .slice adi b.ins.length capi, .int .i64 b.fin.kind, .int .i64 b.fin.a, .int .i64 b.fin.to, .slice adp b.fin.args.length capp, .int .i64 b.fin.els, .slice adq b.fin.elses.length capq]) rfl rfl rfl rfl hS ?_
 clear hS; intro w2 b1 hb_b1 hS
 refine WL.assign rfl rfl rfl (WL.nil (N.seq (W.seq (W.region (WL.loadN (cs := [.int .i64 b.params, .slice adi b.ins.length capi, .int .i64 b.fin.kind, .int .i64 b.fin.a, .int .i64 b.fin.to, .slice adp b.fin.args.length capp, .int .i64 b.fin.els, .slice adq b.fin.elses.length capq]) agg_59 rfl rfl rfl rfl (hS.cells 0 (m := 8) rfl rfl) ?_)))))
 refine WL.callF (vs := [.agg #[.int .i64 b.params, .slice adi b.ins.length capi, .int .i64 b.fin.kind, .int .i64 b.fin.a, .int .i64 b.fin.to, .slice adp b.fin.args.length capp, .int .i64 b.fin.els, .slice adq b.fin.elses.length capq]]) Tryd.func61 (by kernel_rfl) rfl rfl rfl (ivalues_ret b _ (ro := ro) (fun b hb => (hS.snap b hb).1) (hb.keep hS.alike) ⟨hok.p0, hok.p1⟩ hok.n) ?_
 rintro v w3 ⟨rfl, hbl⟩
 replace hS := hS.grow hbl
 refine WL.makeSliceL (m := (b.params.toNat + b.ins.length : Nat)) (f := kI) (z := (0 : Int)) 8 Tryd.underlying55 (tyZero_spec zer_3) byt_3 rfl rfl rfl rfl hS (by unfold maxLen; omega) (by omega) ?_
 clear hS; intro w5 b4 hS
 refine WL.alloc (tyZero_spec zer_55) rfl rfl hS ?_
 clear hS; intro w7 b6 hb_b6 hS
 refine WL.store0 #[.slice (some ⟨b4, 0, none⟩) (b.params.toNat + b.ins.length : Nat) (b.params.toNat + b.ins.length : Nat)] rfl rfl rfl rfl siz_55 rfl rfl rfl hS ?_
 clear hS; intro w8 hS
 refine WL.nil (N.seq (W.seq (W.seq (W.region (WL.load1 (v := .slice (some ⟨b4, 0, none⟩) (b.params.toNat + b.ins.length : Nat) (b.params.toNat + b.ins.length : Nat)) one_55 rfl rfl rfl (hS.cell 0 rfl rfl) (WL.lenSlice Tryd.underlying55 rfl rfl rfl (WL.move rfl rfl rfl (WL.nil (N.seq ?_)))))))))
 refine W.block ?_
 rw [show List.replicate (b.params.toNat + b.ins.length) (0 : Int) = init16 b.params (b.params.toNat + b.ins.length) 0 from (init16_zero _ _).symm] at hS
 refine W.loop (α := Nat) (fun (v : Nat) => [(1, .pointer (some ⟨b1, 0, none⟩)), (2, .slice none 0 0), (3, .pointer (some ⟨b6, 0, none⟩)), (12, .int .i64 ((b.params.toNat + b.ins.length : Nat) : Int)), (13, .int .i64 (v : Int))]) (fun (v : Nat) u => St w w u ro [(b6, .cells #[.slice (some ⟨b4, 0, none⟩) (b.params.toNat + b.ins.length : Nat) (b.params.toNat + b.ins.length : Nat)] 55 (0, 0)), (b4, arrO kI 3 (init16 b.params (b.params.toNat + b.ins.length) v)), (b1, .cells #[.int .i64 b.params, .slice adi b.ins.length capi, .int .i64 b.fin.kind, .int .i64 b.fin.a, .int .i64 b.fin.to, .slice adp b.fin.args.length capp, .int .i64 b.fin.els, .slice adq b.fin.elses.length capq] 59 (0, 0))] [] ∧ v ≤ (b.params.toNat + b.ins.length)) (fun (v : Nat) => (b.params.toNat + b.ins.length) - v) 0 ⟨rfl, rfl, rfl, rfl, rfl, trivial⟩ ⟨hS, Nat.zero_le _⟩ ?_
 clear hS
 rintro v w9 ⟨hS, hv⟩
 refine W.seq (W.region (WL.bin rfl rfl rfl rfl rfl (WL.nil (N.seq (W.seq ?_)))))
 refine W.cond rfl (fun hc10 => ?_) (fun hc10 => ?_)
 ·
  have hc10p : (v : Int) < ((b.params.toNat + b.ins.length : Nat) : Int) := by simpa using hc10
  refine W.skip (N.seq (W.seq (W.block (W.seq (W.region (WL.move rfl rfl rfl (WL.assign rfl rfl rfl (WL.nil (N.seq ?_)))))))))
  refine W.region (WL.load1 (v := .slice (some ⟨b4, 0, none⟩) (b.params.toNat + b.ins.length : Nat) (b.params.toNat + b.ins.length : Nat)) one_55 rfl rfl rfl (hS.cell 0 rfl rfl) (WL.move rfl rfl rfl (WL.move rfl rfl rfl (WL.fieldAddr fo_59_0 rfl rfl rfl (WL.load1 (v := .int .i64 b.params) one_3 rfl rfl rfl (hS.cell 2 rfl rfl) ?_)))))
  refine WL.sub_ (c := (v : Int) - b.params) rfl rfl rfl rfl (rfl) (by omega) ?_
  refine WL.max2 rfl rfl rfl rfl ?_
  refine WL.indexAddr (j := v) Tryd.underlying55 isz_3 rfl rfl rfl rfl (by omega) ?_
  refine WL.storeArr (v := if -1 > (v : Int) - b.params then -1 else (v : Int) - b.params) 1 rfl rfl rfl rfl siz_3 rfl rfl (by rw [init16_length _ _ _ hv]; omega) hS ?_
  clear hS; intro w11 hS
  refine WL.nil (N.blk (N.seq (W.region ?_)))
  refine WL.add (c := (v : Int) + 1) rfl rfl rfl rfl (rfl) (by omega) ?_
  refine WL.move rfl rfl rfl (WL.nil ?_)
  rw [show (init16 b.params (b.params.toNat + b.ins.length) v).set v (if -1 > (v : Int) - b.params then -1 else (v : Int) - b.params) = init16 b.params (b.params.toNat + b.ins.length) (v + 1) from init16_set _ _ _ (by omega)] at hS
  exact N.loop (v + 1) ⟨rfl, rfl, rfl, rfl, rfl, trivial⟩ ⟨hS, by omega⟩ (by first | omega | (simp only; omega))
 have hc10p : ¬ ((v : Int) < ((b.params.toNat + b.ins.length : Nat) : Int)) := by simpa using hc10
 refine W.exit (X.seq (X.loop (X.blk (N.seq (W.seq (W.region ?_))))))
 refine WL.makeFunc (vs := #[.pointer (some ⟨b6, 0, none⟩)]) rfl rfl rfl ?_
 refine WL.assign rfl rfl rfl (WL.nil (N.seq (W.seq (W.seq (W.region (WL.fieldAddr fo_59_1 rfl rfl rfl (WL.load1 (v := .slice adi b.ins.length capi) one_54 rfl rfl rfl (hS.cell 2 rfl rfl) (WL.lenSlice Tryd.underlying54 rfl rfl rfl (WL.move rfl rfl rfl ?_)))))))))
 refine WL.nil (N.seq (W.block ?_))
 rw [show v = (b.params.toNat + b.ins.length) by omega, init16_full] at hS
 refine W.loop (α := Nat × (Nat → Prop) × World) (fun ⟨k, R2, ws2⟩ => [(1, .pointer (some ⟨b1, 0, none⟩)), (2, .slice none 0 0), (3, .pointer (some ⟨b6, 0, none⟩)), (5, .func (.func 62) #[] #[.pointer (some ⟨b6, 0, none⟩)]), (27, .slice adi b.ins.length capi), (28, .int .i64 (b.ins.length : Int)), (29, .int .i64 (k : Int))]) (fun ⟨k, R2, ws2⟩ u => St w ws2 u R2 [(b6, .cells #[.slice (some ⟨b4, 0, none⟩) (b.params.toNat + b.ins.length : Nat) (b.params.toNat + b.ins.length : Nat)] 55 (0, 0)), (b4, arrO kI 3 (useIns16 0 (base16 b) (b.ins.take k))), (b1, .cells #[.int .i64 b.params, .slice adi b.ins.length capi, .int .i64 b.fin.kind, .int .i64 b.fin.a, .int .i64 b.fin.to, .slice adp b.fin.args.length capp, .int .i64 b.fin.els, .slice adq b.fin.elses.length capq] 59 (0, 0))] [] ∧ k ≤ b.ins.length ∧ Alike ro w R2 ws2 ∧ (∀ b, R2 b → ro b ∨ w.heap.size ≤ b)) (fun ⟨k, R2, ws2⟩ => b.ins.length - k) (0, ro, w) ⟨rfl, rfl, rfl, rfl, rfl, rfl, rfl, trivial⟩ ⟨hS, Nat.zero_le _, Alike.refl, hsub⟩ ?_
 clear hS
 rintro ⟨k, R2, ws2⟩ w12 ⟨hS, hk, halL1, hsub⟩
 replace hb := hb.keep halL1
 replace hind := hind.keep halL1 (fun _ _ h => h.keep halL1)
 replace ht1 := SlV.keep ht1 halL1 (fun _ _ h => h)
 replace ht2 := SlV.keep ht2 halL1 (fun _ _ h => h)
 refine W.seq (W.region (WL.bin rfl rfl rfl rfl rfl (WL.nil (N.seq (W.seq ?_)))))
 refine W.cond rfl (fun hc13 => ?_) (fun hc13 => ?_)
 ·
  have hc13p : (k : Int) < (b.ins.length : Int) := by simpa using hc13
  refine W.skip (N.seq (W.seq (W.block (W.seq (W.region (WL.move rfl rfl rfl ?_))))))
  have hj14 : k < b.ins.length := by omega
  obtain ⟨x14, hx14, b14, o14, cs14, hE14, hr14, _, hc14, hQ14⟩ := opn hind hj14
  have hQk14 := hQ14
  obtain ⟨sv14, rfl, hs14, ho14, ha14, hb14, hk14, hn14⟩ := hQ14
  obtain ⟨ad14, cap14, rfl, hs14a, hs14b, hs14c, hs14d⟩ := id hs14
  have hs14m : x14.args.length ≤ 9223372036854775807 := by have h1 := hs14a; have h2 := hs14b; unfold maxLen at h2; omega
  refine WL.indexAddrE (j := k) Tryd.underlying54 isz_69 rfl rfl rfl rfl hj14 hE14 (WL.loadN (cs := [.int .i64 x14.op, .int .i64 x14.a, .int .i64 x14.b, .int .u64 x14.k, .string x14.name, .slice ad14 x14.args.length cap14]) agg_69 rfl rfl rfl rfl (hS.roCells hr14 hc14) ?_)
  refine WL.alloc (tyZero_spec zer_69) rfl rfl hS ?_
  clear hS; intro w16 b15 hb_b15 hS
  refine WL.assign rfl rfl rfl ?_
  refine WL.store0 #[.int .i64 x14.op, .int .i64 x14.a, .int .i64 x14.b, .int .u64 x14.k, .string x14.name, .slice ad14 x14.args.length cap14] rfl rfl rfl rfl siz_69 rfl rfl rfl hS ?_
  clear hS; intro w17 hS
  refine WL.nil (N.seq (W.region (WL.move rfl rfl rfl (WL.move rfl rfl rfl (WL.loadN (cs := [.int .i64 x14.op, .int .i64 x14.a, .int .i64 x14.b, .int .u64 x14.k, .string x14.name, .slice ad14 x14.args.length cap14]) agg_69 rfl rfl rfl rfl (hS.cells 0 (m := 6) rfl rfl) ?_)))))
  refine WL.callF (vs := [.agg #[.int .i64 x14.op, .int .i64 x14.a, .int .i64 x14.b, .int .u64 x14.k, .string x14.name, .slice ad14 x14.args.length cap14]]) Tryd.func63 (by kernel_rfl) rfl rfl rfl (iuses_ret x14 _ (ro := R2) (fun b hb => (hS.snap b hb).1) (hQk14.keep hS.alike) (Nat.le_trans (hok.args _ (List.mem_of_getElem? hx14)) (by decide))) ?_
  rintro vu w18 ⟨hvu, hbl⟩
  have hal19 := hS.alikeTo hbl (ro' := (roFrom R2 w17 w18)) (fun b hb => .inl hb)
  replace hsub : ∀ b, (roFrom R2 w17 w18) b → ro b ∨ w.heap.size ≤ b := fun b hb => hb.elim (hsub b) (fun h => .inr (Nat.le_trans hS.below.size h.1))
  replace halL1 := halL1.trans hal19
  replace ht1 := SlV.keep ht1 hal19 (fun _ _ h => h)
  replace ht2 := SlV.keep ht2 hal19 (fun _ _ h => h)
  replace hS := hS.readNew hbl
  replace hvu := SlV.keep hvu (ro' := (roFrom R2 w17 w18)) (w' := w18) (Q' := IntC) (fun x hx => ⟨.inr hx, rfl⟩) (fun _ _ h => h)
  replace hS := hS.dropN 1
  refine WL.callV (vs := [.int .i64 (k : Int), vu]) (cs := #[.pointer (some ⟨b6, 0, none⟩)]) Tryd.func62 (by kernel_rfl) rfl rfl rfl rfl (use16_ret b6 b4 (useIns16 0 (base16 b) (b.ins.take k)) _ (by simp only [use16_length, useIns16_length, base16_length]) (k : Int) (uses5 x14) vu hS hvu (hok.uses _ (List.mem_of_getElem? hx14))) ?_
  rintro v w20 ⟨rfl, hS⟩
  refine WL.nil (N.blk (N.seq (W.region ?_)))
  refine WL.add (c := (k : Int) + 1) rfl rfl rfl rfl (rfl) (by omega) ?_
  refine WL.move rfl rfl rfl (WL.nil ?_)
  rw [show use16 (useIns16 0 (base16 b) (b.ins.take k)) (k : Int) (uses5 x14) = useIns16 0 (base16 b) (b.ins.take (k + 1)) by rw [take_next hx14, useIns16_snoc, List.length_take, Nat.min_eq_left (by omega), Nat.zero_add]] at hS
  exact N.loop (k + 1, (roFrom R2 w17 w18), w18) ⟨rfl, rfl, rfl, rfl, rfl, rfl, rfl, trivial⟩ ⟨hS, by omega, halL1, hsub⟩ (by first | omega | (simp only; omega))
 have hc13p : ¬ ((k : Int) < (b.ins.length : Int)) := by simpa using hc13
 refine W.exit (X.seq (X.loop (X.blk (N.seq (W.seq (W.region (WL.move rfl rfl rfl (WL.fieldAddr fo_59_1 rfl rfl rfl (WL.load1 (v := .slice adi b.ins.length capi) one_54 rfl rfl rfl (hS.cell 2 rfl rfl) ?_)))))))))
 refine WL.lenSlice Tryd.underlying54 rfl rfl rfl (WL.fieldAddr fo_59_2 rfl rfl rfl (WL.fieldAddr fo_57_3 rfl rfl rfl (WL.load1 (v := .slice adp b.fin.args.length capp) one_55 rfl rfl rfl (hS.cell 2 rfl rfl) ?_)))
 rw [show k = b.ins.length by omega, List.take_length] at hS
 refine WL.callV (vs := [.int .i64 (b.ins.length : Int), .slice adp b.fin.args.length capp]) (cs := #[.pointer (some ⟨b6, 0, none⟩)]) Tryd.func62 (by kernel_rfl) rfl rfl rfl rfl (use16_ret b6 b4 (useIns16 0 (base16 b) b.ins) _ (by simp only [use16_length, useIns16_length, base16_length]) b.ins.length b.fin.args _ hS ht1 hok.ta) ?_
 rintro v w21 ⟨rfl, hS⟩
 refine WL.nil (N.seq (W.seq (W.region (WL.move rfl rfl rfl (WL.fieldAddr fo_59_1 rfl rfl rfl (WL.load1 (v := .slice adi b.ins.length capi) one_54 rfl rfl rfl (hS.cell 2 rfl rfl) (WL.lenSlice Tryd.underlying54 rfl rfl rfl (WL.fieldAddr fo_59_2 rfl rfl rfl (WL.fieldAddr fo_57_5 rfl rfl rfl ?_)))))))))
 refine WL.load1 (v := .slice adq b.fin.elses.length capq) one_55 rfl rfl rfl (hS.cell 2 rfl rfl) ?_
 refine WL.callV (vs := [.int .i64 (b.ins.length : Int), .slice adq b.fin.elses.length capq]) (cs := #[.pointer (some ⟨b6, 0, none⟩)]) Tryd.func62 (by kernel_rfl) rfl rfl rfl rfl (use16_ret b6 b4 (use16 (useIns16 0 (base16 b) b.ins) b.ins.length b.fin.args) _ (by simp only [use16_length, useIns16_length, base16_length]) b.ins.length b.fin.elses _ hS ht2 hok.te) ?_
 rintro v w22 ⟨rfl, hS⟩
 refine WL.nil (N.seq (W.seq (W.seq (W.region (WL.fieldAddr fo_59_2 rfl rfl rfl (WL.fieldAddr fo_57_0 rfl rfl rfl (WL.load1 (v := .int .i64 b.fin.kind) one_3 rfl rfl rfl (hS.cell 2 rfl rfl) (WL.bin rfl rfl rfl rfl rfl (WL.nil ?_)))))))))
 refine N.seq ?_
 refine W.cond rfl (fun hc23 => ?_) (fun hc23 => ?_)
 ·
  have hc23p : ¬ (b.fin.kind = 1) := by simpa using hc23
  refine W.region (WL.move rfl rfl rfl (WL.fieldAddr fo_59_1 rfl rfl rfl (WL.load1 (v := .slice adi b.ins.length capi) one_54 rfl rfl rfl (hS.cell 2 rfl rfl) (WL.lenSlice Tryd.underlying54 rfl rfl rfl (WL.fieldAddr fo_59_2 rfl rfl rfl (WL.fieldAddr fo_57_1 rfl rfl rfl (WL.load1 (v := .int .i64 b.fin.a) one_3 rfl rfl rfl (hS.cell 2 rfl rfl) ?_)))))))
  refine WL.buildSlice (ps := [(0, .int .i64 b.fin.a)]) (cs := [.int .i64 b.fin.a]) Tryd.underlying55 (tyZero_spec zer_3) rfl rfl rfl rfl (by kernel_rfl) hS ?_
  clear hS; intro w25 b24 hb_b24 hS
  have hown27 := hS.own _ List.mem_cons_self
  replace hS := hS.give
  have hlit : SlV (fun x => R2 x ∨ x = b24) w25 1 IntC (.slice (some ⟨b24, 0, none⟩) 1 1) [b.fin.a] := slv_blk hown27 rfl (Chunks.nil.snoc (c := [.int .i64 b.fin.a]) rfl ⟨rfl, hta⟩) (.inr rfl) rfl (by simp [maxLen])
  have htv := hok.tv (by omega)
  refine WL.callV (vs := [.int .i64 (b.ins.length : Int), .slice (some ⟨b24, 0, none⟩) 1 1]) (cs := #[.pointer (some ⟨b6, 0, none⟩)]) Tryd.func62 (by kernel_rfl) rfl rfl rfl rfl (use16_ret b6 b4 (use16 (use16 (useIns16 0 (base16 b) b.ins) b.ins.length b.fin.args) b.ins.length b.fin.elses) _ (by simp only [use16_length, useIns16_length, base16_length]) b.ins.length [b.fin.a] _ hS hlit (by intro v hv; simp only [List.mem_cons, List.not_mem_nil, or_false] at hv; rw [hv]; exact htv)) ?_
  rintro v w28 ⟨rfl, hS⟩
  refine WL.nil (N.seq (W.seq (W.region (WL.load1 (v := .slice (some ⟨b4, 0, none⟩) (b.params.toNat + b.ins.length : Nat) (b.params.toNat + b.ins.length : Nat)) one_55 rfl rfl rfl (hS.cell 0 rfl rfl) (WL.assign rfl rfl rfl (WL.nil (N.seq ?_)))))))
  refine Fin.ret1 rfl (v := .slice (some ⟨b4, 0, none⟩) (b.params.toNat + b.ins.length : Nat) (b.params.toNat + b.ins.length : Nat)) rfl ?_
  have hle : last16 b = (use16 (use16 (use16 (useIns16 0 (base16 b) b.ins) b.ins.length b.fin.args) b.ins.length b.fin.elses) b.ins.length [b.fin.a]) := by unfold last16; dsimp only; rw [if_neg (by omega)]
  rw [hle]
  exact ⟨arr_row (hS.dropN 1) (by rw [← hle, last16_length]; unfold maxLen; omega) (by rw [← hle, last16_length]) rfl (fun x hx => ⟨rfl, by rw [← hle] at hx; have := last16_range hok.p0 hx; unfold inI; omega⟩) ((hS.keys b4 (by simp [keysOf])).imp id (·.1)), hS.below⟩
 have hc23p : b.fin.kind = 1 := by simpa using hc23
 refine W.skip (N.seq (W.seq (W.region (WL.load1 (v := .slice (some ⟨b4, 0, none⟩) (b.params.toNat + b.ins.length : Nat) (b.params.toNat + b.ins.length : Nat)) one_55 rfl rfl rfl (hS.cell 0 rfl rfl) (WL.assign rfl rfl rfl (WL.nil (N.seq ?_)))))))
 refine Fin.ret1 rfl (v := .slice (some ⟨b4, 0, none⟩) (b.params.toNat + b.ins.length : Nat) (b.params.toNat + b.ins.length : Nat)) rfl ?_
 have hle : last16 b = (use16 (use16 (useIns16 0 (base16 b) b.ins) b.ins.length b.fin.args) b.ins.length b.fin.elses) := by unfold last16; dsimp only; rw [if_pos (by omega)]
 rw [hle]
 exact ⟨arr_row (hS.dropN 1) (by rw [← hle, last16_length]; unfold maxLen; omega) (by rw [← hle, last16_length]) rfl (fun x hx => ⟨rfl, by rw [← hle] at hx; have := last16_range hok.p0 hx; unfold inI; omega⟩) ((hS.keys b4 (by simp [keysOf])).imp id (·.1)), hS.below⟩

end Go.Proofs.YtcmmhfknkldmcaaDoor
