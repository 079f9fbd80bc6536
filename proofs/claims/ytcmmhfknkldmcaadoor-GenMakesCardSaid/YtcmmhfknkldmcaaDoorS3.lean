/-
  Contracts of layer 16 (slot). No condition beyond those that each theorem states.
-/
import Derived.Test.YtcmmhfknkldmcaaDoorC2
namespace Go.Proofs.YtcmmhfknkldmcaaDoor
open Go.RowKit
theorem one_86 : tyOne Tryd.prog 86 = true := by kernel_rfl
theorem siz_86 : tySize Tryd.prog 86 1 = true := by kernel_rfl
theorem zb_3 : (Tryd.prog.info? 3).bind (·.zero) = some (.int .i64 0) := by kernel_rfl
theorem zer_86 : tyZero Tryd.prog 86 = some [.map none] := by kernel_rfl
def freeG (T : Int → Option Int) (step : Int) : Int → Option Int := fun x => match T x with
  | some l => if l ≤ step then none else some l
  | none => none
def partFree (T : Int → Option Int) (step : Int) (l : List Int) : Int → Option Int := fun x => if x ∈ l then freeG T step x else T x
theorem partFree_nil (T : Int → Option Int) (step : Int) : partFree T step [] = T := by funext x; simp [partFree]
theorem take_fresh {ss : List Int} (h : ss.Nodup) {k : Nat} {x : Int} (hx : ss[k]? = some x) : x ∉ ss.take k := fun hm => by
  obtain ⟨j, hj⟩ := List.mem_iff_getElem?.1 hm
  have hjk : j < k := by
    have := (List.getElem?_eq_some_iff.1 hj).1
    rw [List.length_take] at this; omega
  rw [List.getElem?_take_of_lt hjk] at hj
  have := (List.getElem?_inj (List.getElem?_eq_some_iff.1 hj).1 h).1 (hj.trans hx.symm)
  omega
theorem partFree_at {T : Int → Option Int} {step : Int} {ss : List Int} (hnd : ss.Nodup) {k : Nat} {x : Int} (hx : ss[k]? = some x) : partFree T step (ss.take k) x = T x := by
  unfold partFree; rw [if_neg (take_fresh hnd hx)]
theorem partFree_del {T : Int → Option Int} {step : Int} {ss : List Int} (hnd : ss.Nodup) {k : Nat} {x : Int} (hx : ss[k]? = some x) (hs : (T x).isSome = true) (hle : (partFree T step (ss.take k) x).getD 0 ≤ step) :
    delG (partFree T step (ss.take k)) x = partFree T step (ss.take (k + 1)) := by
  rw [partFree_at hnd hx] at hle
  obtain ⟨l, hl⟩ := Option.isSome_iff_exists.1 hs
  funext y
  rw [take_next hx]
  simp only [delG, partFree, List.mem_append, List.mem_cons, List.not_mem_nil, or_false]
  by_cases e : y = x
  · subst e
    rw [if_pos rfl, if_pos (Or.inr rfl)]
    unfold freeG
    rw [hl] at hle ⊢
    dsimp only
    rw [if_pos (by simpa using hle)]
  · rw [if_neg e]
    by_cases hm : y ∈ ss.take k
    · rw [if_pos hm, if_pos (Or.inl hm)]
    · rw [if_neg hm, if_neg (fun h => h.elim hm e)]
theorem partFree_keep {T : Int → Option Int} {step : Int} {ss : List Int} (hnd : ss.Nodup) {k : Nat} {x : Int} (hx : ss[k]? = some x) (hs : (T x).isSome = true) (hle : ¬ (partFree T step (ss.take k) x).getD 0 ≤ step) :
    partFree T step (ss.take k) = partFree T step (ss.take (k + 1)) := by
  rw [partFree_at hnd hx] at hle
  obtain ⟨l, hl⟩ := Option.isSome_iff_exists.1 hs
  funext y
  rw [take_next hx]
  simp only [partFree, List.mem_append, List.mem_cons, List.not_mem_nil, or_false]
  by_cases e : y = x
  · subst e
    rw [if_pos (Or.inr rfl), if_neg (take_fresh hnd hx)]
    unfold freeG
    rw [hl] at hle ⊢
    dsimp only
    rw [if_neg (by simpa using hle)]
  · by_cases hm : y ∈ ss.take k
    · rw [if_pos hm, if_pos (Or.inl hm)]
    · rw [if_neg hm, if_neg (fun h => h.elim hm e)]
theorem partFree_all {T : Int → Option Int} {step : Int} {ss : List Int} (hmem : ∀ x, x ∈ ss ↔ (T x).isSome = true) : partFree T step ss = freeG T step := by
  funext x
  unfold partFree
  split
  · rfl
  · rename_i h
    rw [hmem x] at h
    have : T x = none := by cases e : T x <;> simp_all
    unfold freeG; rw [this]
def first16 (T : Int → Option Int) (n : Nat) : Nat := ((List.range (n + 1)).find? fun s : Nat => (T (s : Int)).isNone).getD 0
def giveStep16 (b : DBlock) (s : (Int → Option Int) × List Int) (v : Nat) : (Int → Option Int) × List Int :=
  if (v : Int) < b.params then (updG s.1 (v : Int) ((last16 b).getD v 0), s.2 ++ [(v : Int)])
  else (updG (freeG s.1 ((v : Int) - b.params)) (first16 (freeG s.1 ((v : Int) - b.params)) (last16 b).length : Int) ((last16 b).getD v 0), s.2 ++ [(first16 (freeG s.1 ((v : Int) - b.params)) (last16 b).length : Int)])
def giveAt16 (b : DBlock) (v : Nat) : (Int → Option Int) × List Int := (List.range v).foldl (giveStep16 b) (fun _ => none, [])
def give16 (b : DBlock) : List Int := (giveAt16 b (last16 b).length).2
theorem giveAt16_succ (b : DBlock) (v : Nat) : giveAt16 b (v + 1) = giveStep16 b (giveAt16 b v) v := by simp [giveAt16, List.range_succ]
theorem nodup_le : ∀ (l r : List Int), l.Nodup → (∀ x ∈ l, x ∈ r) → l.length ≤ r.length
  | [], _, _, _ => Nat.zero_le _
  | x :: l, r, h, hm => by
    have h1 := List.nodup_cons.1 h
    have h2 := nodup_le l (r.erase x) h1.2 fun y hy => (List.mem_erase_of_ne (fun e => h1.1 (by rw [← e]; exact hy))).2 (hm y (List.mem_cons_of_mem _ hy))
    have h3 := List.length_erase_of_mem (hm x List.mem_cons_self)
    have h4 : 0 < r.length := List.length_pos_of_mem (hm x List.mem_cons_self)
    rw [List.length_cons]; omega
/-- Where less is taken than there is room, something is free. -/
theorem first16_spec {T : Int → Option Int} {n : Nat} {out : List Int} (hk : ∀ k l, T k = some l → k ∈ out) (hn : out.length ≤ n) : T (first16 T n : Int) = none ∧ first16 T n ≤ n ∧ ∀ j : Nat, j < first16 T n → (T (j : Int)).isSome = true := by
  unfold first16
  cases e : (List.range (n + 1)).find? fun s : Nat => (T (s : Int)).isNone with
  | none =>
    exfalso
    rw [List.find?_eq_none] at e
    have := nodup_le ((List.range (n + 1)).map fun s : Nat => (s : Int)) out (List.pairwise_map.2 (List.nodup_range.imp fun h e => h (Int.ofNat.inj e))) fun x hx => by
      obtain ⟨s, hs, rfl⟩ := List.mem_map.1 hx
      have h1 := e s hs
      cases h2 : T (s : Int) with
      | none => simp [h2] at h1
      | some l => exact hk _ _ h2
    rw [List.length_map, List.length_range] at this
    omega
  | some s =>
    obtain ⟨h1, la, lb, h2, h3⟩ := List.find?_eq_some_iff_append.1 e
    have hs : s ∈ List.range (n + 1) := by rw [h2]; simp
    have hlen : la.length = s := by
      have h4 := congrArg (fun l => l[la.length]?) h2
      simp only [List.getElem?_append_right (Nat.le_refl _), Nat.sub_self, List.getElem?_cons_zero] at h4
      obtain ⟨h5, h6⟩ := List.getElem?_eq_some_iff.1 h4
      simpa using h6
    refine ⟨by simpa using h1, by have := List.mem_range.1 hs; simp only [Option.getD_some]; omega, fun j hj => ?_⟩
    simp only [Option.getD_some] at hj
    have h4 : (List.range (n + 1))[j]? = (la ++ s :: lb)[j]? := by rw [h2]
    rw [List.getElem?_append_left (by omega), List.getElem?_range (by have := List.mem_range.1 hs; omega)] at h4
    have h5 := h3 j (List.mem_of_getElem? h4.symm)
    cases h6 : T (j : Int) with
    | none => simp [h6] at h5
    | some l => rfl
/-- What holds of what is taken and given so far. -/
structure Given16 (b : DBlock) (v : Nat) (T : Int → Option Int) (out : List Int) : Prop where
  len : out.length = v
  key : ∀ k l, T k = some l → k ∈ out
  out : ∀ x ∈ out, 0 ≤ x ∧ x ≤ 2000
theorem freeG_some {T : Int → Option Int} {step k l : Int} (h : freeG T step k = some l) : T k = some l ∧ ¬ l ≤ step := by
  unfold freeG at h
  split at h
  · rename_i l' e
    split at h
    · cases h
    · cases h; exact ⟨e, by assumption⟩
  · cases h
theorem given16 {b : DBlock} (hok : Ok16 b) (v : Nat) (hv : v ≤ (last16 b).length) : Given16 b v (giveAt16 b v).1 (giveAt16 b v).2 := by
  have hL := last16_length b
  have h1 := hok.p1
  have h2 := hok.n
  induction v with
  | zero => exact ⟨rfl, (fun k l h => by cases h), (fun x hx => by cases hx)⟩
  | succ v ih =>
    obtain ⟨i1, i2, i3⟩ := ih (by omega)
    rw [giveAt16_succ]
    unfold giveStep16
    split
    · refine ⟨by simp [i1], fun k l h => ?_, fun x hx => ?_⟩
      · simp only [updG] at h
        split at h
        · rename_i e; rw [e]; simp
        · exact List.mem_append_left _ (i2 k l h)
      · simp only [List.mem_append, List.mem_cons, List.not_mem_nil, or_false] at hx
        rcases hx with hx | hx
        · exact i3 x hx
        · omega
    · have hf := first16_spec (T := freeG (giveAt16 b v).1 ((v : Int) - b.params)) (n := (last16 b).length) (out := (giveAt16 b v).2) (fun k l h => i2 k l (freeG_some h).1) (by omega)
      refine ⟨by simp [i1], fun k l h => ?_, fun x hx => ?_⟩
      · simp only [updG] at h
        split at h
        · rename_i e; rw [e]; simp
        · exact List.mem_append_left _ (i2 k l (freeG_some h).1)
      · simp only [List.mem_append, List.mem_cons, List.not_mem_nil, or_false] at hx
        rcases hx with hx | hx
        · exact i3 x hx
        · omega
theorem outSet {l : List Int} {n : Nat} {x : Int} (h : l.length < n) : (l ++ List.replicate (n - l.length) 0).set l.length x = (l ++ [x]) ++ List.replicate (n - (l.length + 1)) 0 := by
  rw [show n - l.length = (n - (l.length + 1)) + 1 by omega, List.replicate_succ, List.set_append_right _ _ (Nat.le_refl _), Nat.sub_self, List.set_cons_zero, List.append_assoc]
  rfl
theorem give16_length {b : DBlock} (hok : Ok16 b) : (give16 b).length = b.params.toNat + b.ins.length := by
  have := (given16 hok _ (Nat.le_refl _)).len
  unfold give16; rw [this, last16_length]

theorem free16_ret {w0 ws w : World} {ro : Nat → Prop} {L : List (Nat × Obj)} {Rs : List Row} (bt bm : Nat) (es : Array MapEntry) (ck n : Nat) (T : Int → Option Int) (step : Int) (hS : St w0 ws w ro ((bt, .cells #[.map (some bm)] 86 (0, 0)) :: (bm, .map es ck) :: L) Rs) (hM : MapG kI kI es ck n T) (hTk : ∀ k l, T k = some l → inI k) (hn : n ≤ 1000000) : Ret Tryd.prog 44 #[.int .i64 step, .pointer (some ⟨bt, 0, none⟩)] w fun v w' => v = .tuple #[] ∧ ∃ es' ck', MapG kI kI es' ck' n (freeG T step) ∧ St w0 ws w' ro ((bt, .cells #[.map (some bm)] 86 (0, 0)) :: (bm, .map es' ck') :: L) Rs := by
 refine Ret.enter (P := Tryd.prog) (n := 21) (args := [.int .i64 step, .pointer (some ⟨bt, 0, none⟩)]) (σ := [(0, .int .i64 step), (1, .pointer (some ⟨bt, 0, none⟩))]) Tryd.func44 rfl rfl rfl rfl ?_
 have hsub : ∀ b, ro b → ro b ∨ w0.heap.size ≤ b := fun _ h => .inl h
 have halT : Alike ro ws ro ws := Alike.refl
 refine W.seq (W.region (WL.load1 (v := .map (some bm)) one_86 rfl rfl rfl (hS.cell 0 rfl rfl) ?_))
 refine WL.callF (vs := [.map (some bm)]) Tryd.func46 (by kernel_rfl) rfl rfl rfl (keys_ret bm _) ?_
 rintro v w1 ⟨bk, rfl, hst⟩
 replace hS := hst _ _ _ _ _ hS
 refine WL.callF (vs := [.func (.func 65) #[] #[.pointer (some ⟨bk, 0, none⟩)]]) Tryd.func45 (by kernel_rfl) rfl rfl rfl (coll_ret bk bm es ck n T (hS.own _ (List.mem_of_getElem? (i := 0) rfl)) (hS.own _ (List.mem_of_getElem? (i := 2) rfl)) hM hTk hn) ?_
 rintro v w2 ⟨ss, how, hnd, hmem, hlen, hbl⟩
 replace hS := hS.callRow hbl how
 obtain ⟨adr, capr, rfl, _, _, _⟩ := row_shape how
 replace hS := hS.dropN 1
 have hal3 := hS.giveRowAlike
 replace halT := halT.trans hal3
 have hrow4 := hS.rows _ List.mem_cons_self
 replace hS := hS.giveRow
 have hks : SlV (fun x => ro x ∨ (.slice adr ss.length capr : Value).ownBlock = some x) w2 1 IntC (.slice adr ss.length capr) ss := row_slv hrow4 (chunks_ints (l := ss) (fun x hx => by obtain ⟨l, hl⟩ := Option.isSome_iff_exists.1 ((hmem x).1 hx); exact hTk x l hl)) rfl (fun b hb => .inr hb)
 have hksd : Elems (fun x => ro x ∨ (.slice adr ss.length capr : Value).ownBlock = some x) w2 1 IntC adr ss := by obtain ⟨_, _, e, _, _, _, h⟩ := id hks; cases e; exact h
 refine WL.lenSlice Tryd.underlying55 rfl rfl rfl (WL.move rfl rfl rfl (WL.nil (N.seq (W.block ?_))))
 have hM0 : MapG kI kI es ck n (partFree T step (ss.take 0)) := by rw [List.take_zero, partFree_nil]; exact hM
 refine W.loop (α := Nat × Array MapEntry × Nat) (fun ⟨k, es1, ck1⟩ => [(0, .int .i64 step), (1, .pointer (some ⟨bt, 0, none⟩)), (7, .slice adr ss.length capr), (8, .int .i64 (ss.length : Int)), (9, .int .i64 (k : Int))]) (fun ⟨k, es1, ck1⟩ u => St w0 w2 u (fun x => ro x ∨ (.slice adr ss.length capr : Value).ownBlock = some x) ((bt, .cells #[.map (some bm)] 86 (0, 0)) :: (bm, .map es1 ck1) :: L) (Rs) ∧ k ≤ ss.length ∧ MapG kI kI es1 ck1 n (partFree T step (ss.take k))) (fun ⟨k, es1, ck1⟩ => ss.length - k) (0, es, ck) ⟨rfl, rfl, rfl, rfl, rfl, trivial⟩ ⟨hS, Nat.zero_le _, hM0⟩ ?_
 clear hS
 rintro ⟨k, es1, ck1⟩ w5 ⟨hS, hk, hM1⟩
 refine W.seq (W.region (WL.bin rfl rfl rfl rfl rfl (WL.nil (N.seq (W.seq ?_)))))
 refine W.cond rfl (fun hc6 => ?_) (fun hc6 => ?_)
 ·
  have hc6p : (k : Int) < (ss.length : Int) := by simpa using hc6
  refine W.skip (N.seq (W.seq (W.block (W.seq (W.region ?_)))))
  have hj7 : k < ss.length := by omega
  obtain ⟨x7, hx7, b7, o7, cs7, hE7, hr7, _, hc7, hQ7⟩ := opn hksd hj7
  obtain ⟨rfl, hi7⟩ := hQ7
  refine WL.indexAddrE (j := k) Tryd.underlying55 isz_3 rfl rfl rfl rfl hj7 hE7 (WL.load1 (v := .int .i64 x7) one_3 rfl rfl rfl (hS.roCells hr7 hc7 0 _ rfl) (WL.assign rfl rfl rfl (WL.nil (N.seq (W.seq (W.region (WL.load1 (v := .map (some bm)) one_86 rfl rfl rfl (hS.cell 0 rfl rfl) (WL.move rfl rfl rfl ?_))))))))
  refine WL.mapGet x7 keyE_int Tryd.underlying86 Tryd.underlying3 zb_3 hM1 rfl rfl rfl rfl (hS.own _ (List.mem_of_getElem? (i := 1) rfl)) (v := .int .i64 (((partFree T step (ss.take k)) x7).getD 0)) (by cases (partFree T step (ss.take k)) x7 <;> rfl) ?_
  refine WL.move rfl rfl rfl (WL.bin rfl rfl rfl rfl rfl (WL.nil (N.seq ?_)))
  refine W.cond rfl (fun hc8 => ?_) (fun hc8 => ?_)
  ·
   have hc8p : ((partFree T step (ss.take k)) x7).getD 0 ≤ step := by simpa using hc8
   refine W.region (WL.load1 (v := .map (some bm)) one_86 rfl rfl rfl (hS.cell 0 rfl rfl) (WL.move rfl rfl rfl ?_))
   refine WL.mapDel 1 x7 keyE_int Tryd.underlying86 Tryd.underlying3 hM1 rfl rfl rfl rfl hS ?_
   clear hS; intro w10 es9 ck9 hM9 hS
   refine WL.nil (N.blk (N.seq (W.region ?_)))
   refine WL.add (c := (k : Int) + 1) rfl rfl rfl rfl (rfl) (by omega) ?_
   refine WL.move rfl rfl rfl (WL.nil ?_)
   have hsx := (hmem x7).1 (List.mem_of_getElem? hx7)
   exact N.loop (k + 1, es9, ck9) ⟨rfl, rfl, rfl, rfl, rfl, trivial⟩ ⟨hS, by omega, by rw [← partFree_del hnd hx7 hsx hc8p]; exact hM9⟩ (by first | omega | (simp only; omega))
  have hc8p : ¬ (((partFree T step (ss.take k)) x7).getD 0 ≤ step) := by simpa using hc8
  refine W.skip (N.blk (N.seq (W.region ?_)))
  refine WL.add (c := (k : Int) + 1) rfl rfl rfl rfl (rfl) (by omega) ?_
  refine WL.move rfl rfl rfl (WL.nil ?_)
  have hsx := (hmem x7).1 (List.mem_of_getElem? hx7)
  exact N.loop (k + 1, es1, ck1) ⟨rfl, rfl, rfl, rfl, rfl, trivial⟩ ⟨hS, by omega, by rw [← partFree_keep hnd hx7 hsx hc8p]; exact hM1⟩ (by first | omega | (simp only; omega))
 have hc6p : ¬ ((k : Int) < (ss.length : Int)) := by simpa using hc6
 refine W.exit (X.seq (X.loop (X.blk ?_)))
 refine Fin.end0 rfl ?_
 have e : k = ss.length := by omega
 subst e
 rw [List.take_length, partFree_all hmem] at hM1
 exact ⟨rfl, es1, ck1, hM1, hS.backTo halT⟩

set_option maxRecDepth 10000 in
set_option maxHeartbeats 2000000 in
theorem give16_ret (b : DBlock) (cs : List Value) {w : World} {ro : Nat → Prop} (hro : ∀ b, ro b → b < w.heap.size) (hb : BlockC ro w cs b) (hok : Ok16 b) : Ret Tryd.prog 26 #[.agg cs.toArray] w fun v w' => SlV (fun b => w.heap.size ≤ b ∧ b < w'.heap.size) w' 1 IntC v (give16 b) ∧ Below w.heap.size w w' := by
 obtain ⟨si, tsx, rfl, hin, hfin, hpar⟩ := id hb
 obtain ⟨adi, capi, rfl, hina, hinb, hinc, hind⟩ := id hin
 have hinm : b.ins.length ≤ 9223372036854775807 := by have h1 := hina; have h2 := hinb; unfold maxLen at h2; omega
 obtain ⟨sp, sq, rfl, ht1, ht2, htk, hta, htt, hte⟩ := id hfin
 obtain ⟨adp, capp, rfl, htpa, htpb, htpc, htpd⟩ := id ht1
 have htpm : b.fin.args.length ≤ 9223372036854775807 := by have h1 := htpa; have h2 := htpb; unfold maxLen at h2; omega
 obtain ⟨adq, capq, rfl, htqa, htqb, htqc, htqd⟩ := id ht2
 have htqm : b.fin.elses.length ≤ 9223372036854775807 := by have h1 := htqa; have h2 := htqb; unfold maxLen at h2; omega
 refine Ret.enter (P := Tryd.prog) (n := 56) (args := [.agg #[.int .i64 b.params, .slice adi b.ins.length capi, .int .i64 b.fin.kind, .int .i64 b.fin.a, .int .i64 b.fin.to, .slice adp b.fin.args.length capp, .int .i64 b.fin.els, .slice adq b.fin.elses.length capq]]) (σ := [(0, .agg #[.int .i64 b.params, .slice adi b.ins.length capi, .int .i64 b.fin.kind, .int .i64 b.fin.a, .int .i64 b.fin.to, .slice adp b.fin.args.length capp, .int .i64 b.fin.els, .slice adq b.fin.elses.length capq])]) Tryd.func26 rfl rfl rfl rfl ?_
 have hS := St.start (ro := ro) hro
 have hokn := hok.n; have hokp := hok.p0; have hokq := hok.p1
 have hsub : ∀ b, ro b → ro b ∨ w.heap.size ≤ b := fun _ h => .inl h
 refine W.seq (W.region ?_)
 refine WL.box (v := .agg #[.int .i64 b.params, .slice adi b.ins.length capi, .int .i64 b.fin.kind, .int .i64 b.fin.a, .int .i64 b.fin.to, .slice adp b.fin.args.length capp, .int .i64 b.fin.els, .slice adq b.fin.elses.length capq]) (cs := [.int .i64 b.params, .slice adi b.ins.length capi, .int .i64 b.fin.kind, .int .i64 b.fin.a, .int .i64 b.fin.to, .slice adp b.fin.args.length capp, .int .i64 b.fin.els, .slice adq b.fin.elses.length capq]) rfl rfl rfl rfl hS ?_
 clear hS; intro w2 b1 hb_b1 hS
 refine WL.assign rfl rfl rfl (WL.nil (N.seq (W.seq (W.region (WL.loadN (cs := [.int .i64 b.params, .slice adi b.ins.length capi, .int .i64 b.fin.kind, .int .i64 b.fin.a, .int .i64 b.fin.to, .slice adp b.fin.args.length capp, .int .i64 b.fin.els, .slice adq b.fin.elses.length capq]) agg_59 rfl rfl rfl rfl (hS.cells 0 (m := 8) rfl rfl) ?_)))))
 refine WL.callF (vs := [.agg #[.int .i64 b.params, .slice adi b.ins.length capi, .int .i64 b.fin.kind, .int .i64 b.fin.a, .int .i64 b.fin.to, .slice adp b.fin.args.length capp, .int .i64 b.fin.els, .slice adq b.fin.elses.length capq]]) Tryd.func43 (by kernel_rfl) rfl rfl rfl (last16_ret b _ (ro := ro) (fun b hb => (hS.snap b hb).1) (hb.keep hS.alike) hok) ?_
 rintro vl w3 ⟨hvl, hbl⟩
 replace hS := hS.readNew hbl
 replace hvl := SlV.keep hvl (ro' := (roFrom ro w2 w3)) (w' := w3) (Q' := IntC) (fun x hx => ⟨.inr hx, rfl⟩) (fun _ _ h => h)
 obtain ⟨adl, capl, rfl, hvla, hvlb, hvlc, hvld⟩ := id hvl
 have hvlm : (last16 b).length ≤ 9223372036854775807 := by have h1 := hvla; have h2 := hvlb; unfold maxLen at h2; omega
 have hll := last16_length b
 refine WL.assign rfl rfl rfl (WL.nil (N.seq (W.seq (W.region ?_))))
 refine WL.makeMap rfl rfl hS ?_
 clear hS; intro w6 b5 hS
 refine WL.alloc (tyZero_spec zer_86) rfl rfl hS ?_
 clear hS; intro w8 b7 hb_b7 hS
 refine WL.store0 #[.map (some b5)] rfl rfl rfl rfl siz_86 rfl rfl rfl hS ?_
 clear hS; intro w9 hS
 refine WL.nil (N.seq (W.seq (W.region (WL.move rfl rfl rfl (WL.lenSlice Tryd.underlying55 rfl rfl rfl ?_)))))
 refine WL.makeSliceL (m := (last16 b).length) (f := kI) (z := (0 : Int)) 8 Tryd.underlying55 (tyZero_spec zer_3) byt_3 rfl rfl rfl rfl hS (by unfold maxLen; omega) (by omega) ?_
 clear hS; intro w11 b10 hS
 refine WL.assign rfl rfl rfl (WL.nil (N.seq (W.seq (W.region ?_))))
 refine WL.makeFunc (vs := #[.pointer (some ⟨b7, 0, none⟩)]) rfl rfl rfl ?_
 refine WL.assign rfl rfl rfl (WL.nil (N.seq (W.seq (W.seq (W.region (WL.move rfl rfl rfl (WL.lenSlice Tryd.underlying55 rfl rfl rfl (WL.move rfl rfl rfl (WL.nil ?_)))))))))
 refine N.seq (W.block ?_)
 replace hS : St w w3 w11 (roFrom ro w2 w3) [(b7, .cells #[.map (some b5)] 86 (0, 0)), (b5, .map #[] 0), (b10, arrO kI 3 (List.replicate ((last16 b).length) (0 : Int))), (b1, .cells #[.int .i64 b.params, .slice adi b.ins.length capi, .int .i64 b.fin.kind, .int .i64 b.fin.a, .int .i64 b.fin.to, .slice adp b.fin.args.length capp, .int .i64 b.fin.els, .slice adq b.fin.elses.length capq] 59 (0, 0))] [] := hS.perm (List.perm_middle (l₁ := [(b7, .cells #[.map (some b5)] 86 (0, 0)), (b5, .map #[] 0)]) (a := (b10, arrO kI 3 (List.replicate ((last16 b).length) (0 : Int)))) (l₂ := [(b1, .cells #[.int .i64 b.params, .slice adi b.ins.length capi, .int .i64 b.fin.kind, .int .i64 b.fin.a, .int .i64 b.fin.to, .slice adp b.fin.args.length capp, .int .i64 b.fin.els, .slice adq b.fin.elses.length capq] 59 (0, 0))])).symm
 refine W.loop (α := Nat × Array MapEntry × Nat) (fun ⟨v, es, ck⟩ => [(1, .pointer (some ⟨b1, 0, none⟩)), (2, .slice none 0 0), (3, .slice adl ((last16 b).length) capl), (4, .pointer (some ⟨b7, 0, none⟩)), (5, .slice (some ⟨b10, 0, none⟩) ((last16 b).length) ((last16 b).length)), (6, .func (.func 44) #[] #[.pointer (some ⟨b7, 0, none⟩)]), (19, .int .i64 ((last16 b).length : Int)), (20, .int .i64 (v : Int))]) (fun ⟨v, es, ck⟩ u => St w w3 u (roFrom ro w2 w3) [(b7, .cells #[.map (some b5)] 86 (0, 0)), (b5, .map es ck), (b10, arrO kI 3 ((giveAt16 b v).2 ++ List.replicate ((last16 b).length - v) 0)), (b1, .cells #[.int .i64 b.params, .slice adi b.ins.length capi, .int .i64 b.fin.kind, .int .i64 b.fin.a, .int .i64 b.fin.to, .slice adp b.fin.args.length capp, .int .i64 b.fin.els, .slice adq b.fin.elses.length capq] 59 (0, 0))] [] ∧ v ≤ (last16 b).length ∧ MapG kI kI es ck v (giveAt16 b v).1) (fun ⟨v, es, ck⟩ => (last16 b).length - v) (0, #[], 0) ⟨rfl, rfl, rfl, rfl, rfl, rfl, rfl, rfl, trivial⟩ ⟨hS, Nat.zero_le _, MapG.empty⟩ ?_
 clear hS
 rintro ⟨v, es, ck⟩ w12 ⟨hS, hv, hM⟩
 have hg := given16 hok v hv
 have hgl := hg.len
 refine W.seq (W.region (WL.bin rfl rfl rfl rfl rfl (WL.nil (N.seq (W.seq ?_)))))
 refine W.cond rfl (fun hc13 => ?_) (fun hc13 => ?_)
 ·
  have hc13p : (v : Int) < ((last16 b).length : Int) := by simpa using hc13
  refine W.skip (N.seq (W.seq (W.block (W.seq (W.region (WL.move rfl rfl rfl (WL.assign rfl rfl rfl (WL.nil (N.seq ?_)))))))))
  refine W.seq (W.region (WL.move rfl rfl rfl (WL.assign rfl rfl rfl (WL.nil (N.seq (W.seq (W.seq (W.region (WL.move rfl rfl rfl ?_)))))))))
  refine WL.fieldAddr fo_59_0 rfl rfl rfl (WL.load1 (v := .int .i64 b.params) one_3 rfl rfl rfl (hS.cell 3 rfl rfl) (WL.bin rfl rfl rfl rfl rfl (WL.nil (N.seq ?_))))
  refine W.cond rfl (fun hc14 => ?_) (fun hc14 => ?_)
  ·
   have hc14p : b.params ≤ (v : Int) := by simpa using hc14
   refine W.seq (W.region (WL.move rfl rfl rfl (WL.move rfl rfl rfl (WL.fieldAddr fo_59_0 rfl rfl rfl (WL.load1 (v := .int .i64 b.params) one_3 rfl rfl rfl (hS.cell 3 rfl rfl) ?_)))))
   refine WL.sub_ (c := (v : Int) - b.params) rfl rfl rfl rfl (rfl) (by omega) ?_
   refine WL.callV (vs := [.int .i64 ((v : Int) - b.params)]) (cs := #[.pointer (some ⟨b7, 0, none⟩)]) Tryd.func44 (by kernel_rfl) rfl rfl rfl rfl (free16_ret b7 b5 es ck v (giveAt16 b v).1 ((v : Int) - b.params) hS hM (fun k l h => by have := hg.out k (hg.key k l h); unfold inI; omega) (by omega)) ?_
   rintro v w15 ⟨rfl, es1, ck1, hM1, hS⟩
   obtain ⟨hf1, hf2, hf3⟩ := first16_spec (T := freeG (giveAt16 b v).1 ((v : Int) - b.params)) (n := (last16 b).length) (out := (giveAt16 b v).2) (fun k l h => hg.key k l (freeG_some h).1) (by omega)
   refine WL.nil (N.seq (W.seq (W.region (WL.assign rfl rfl rfl (WL.nil (N.seq (W.block ?_)))))))
   refine W.loop (α := Nat) (fun (s : Nat) => [(1, .pointer (some ⟨b1, 0, none⟩)), (2, .slice none 0 0), (3, .slice adl ((last16 b).length) capl), (4, .pointer (some ⟨b7, 0, none⟩)), (5, .slice (some ⟨b10, 0, none⟩) ((last16 b).length) ((last16 b).length)), (6, .func (.func 44) #[] #[.pointer (some ⟨b7, 0, none⟩)]), (7, .int .i64 (v : Int)), (8, .int .i64 (s : Int)), (19, .int .i64 ((last16 b).length : Int)), (20, .int .i64 (v : Int))]) (fun (s : Nat) u => St w w3 u (roFrom ro w2 w3) [(b7, .cells #[.map (some b5)] 86 (0, 0)), (b5, .map es1 ck1), (b10, arrO kI 3 ((giveAt16 b v).2 ++ List.replicate ((last16 b).length - v) 0)), (b1, .cells #[.int .i64 b.params, .slice adi b.ins.length capi, .int .i64 b.fin.kind, .int .i64 b.fin.a, .int .i64 b.fin.to, .slice adp b.fin.args.length capp, .int .i64 b.fin.els, .slice adq b.fin.elses.length capq] 59 (0, 0))] [] ∧ s ≤ first16 (freeG (giveAt16 b v).1 ((v : Int) - b.params)) (last16 b).length) (fun (s : Nat) => first16 (freeG (giveAt16 b v).1 ((v : Int) - b.params)) (last16 b).length - s) 0 ⟨rfl, rfl, rfl, rfl, rfl, rfl, rfl, rfl, rfl, rfl, trivial⟩ ⟨hS, Nat.zero_le _⟩ ?_
   clear hS
   rintro s w16 ⟨hS, hs⟩
   refine W.block (W.seq (W.seq (W.region (WL.load1 (v := .map (some b5)) one_86 rfl rfl rfl (hS.cell 0 rfl rfl) (WL.move rfl rfl rfl ?_)))))
   refine WL.mapGetOk (c := ((freeG (giveAt16 b v).1 ((v : Int) - b.params)) (s : Int)).isSome) (s : Int) keyE_int Tryd.underlying86 Tryd.underlying3 zb_3 hM1 rfl rfl rfl rfl (hS.own _ (List.mem_of_getElem? (i := 1) rfl)) (v := .int .i64 (((freeG (giveAt16 b v).1 ((v : Int) - b.params)) (s : Int)).getD 0)) (by cases (freeG (giveAt16 b v).1 ((v : Int) - b.params)) (s : Int) <;> rfl) rfl ?_
   refine WL.move rfl rfl rfl (WL.extract (v := .int .i64 (((freeG (giveAt16 b v).1 ((v : Int) - b.params)) (s : Int)).getD 0)) rfl rfl rfl rfl (WL.extract (v := .bool (((freeG (giveAt16 b v).1 ((v : Int) - b.params)) (s : Int)).isSome)) rfl rfl rfl rfl (WL.assign rfl rfl rfl (WL.assign rfl rfl rfl (WL.nil (N.seq (W.seq (W.region (WL.move rfl rfl rfl ?_)))))))))
   refine WL.not rfl rfl rfl (WL.nil (N.seq ?_))
   refine W.cond rfl (fun hc17 => ?_) (fun hc17 => ?_)
   ·
    refine W.exit (X.seq (X.blk_ne rfl (X.loop (X.blk (N.seq (W.seq (W.region (WL.move rfl rfl rfl (WL.move rfl rfl rfl ?_)))))))))
    refine WL.move rfl rfl rfl ?_
    refine WL.indexAddr (j := v) Tryd.underlying55 isz_3 rfl rfl rfl rfl (by omega) ?_
    refine WL.storeArr (v := (s : Int)) 2 rfl rfl rfl rfl siz_3 rfl rfl (by simp; omega) hS ?_
    clear hS; intro w18 hS
    refine WL.nil (N.seq ?_)
    have hj19 : v < (last16 b).length := by omega
    obtain ⟨x19, hx19, b19, o19, cs19, hE19, hr19, _, hc19, hQ19⟩ := opn hvld hj19
    obtain ⟨rfl, hi19⟩ := hQ19
    refine W.drawL (by kernel_rfl) 6 ((.q (.map (some b5))) :: (.q (.int .i64 (s : Int))) :: (.q (.slice adl ((last16 b).length) capl)) :: (.q (.int .i64 (v : Int))) :: (.q (.pointer (some ⟨b19, o19 + v * 1, none⟩))) :: (.q (.int .i64 x19)) :: []) (by kernel_rfl) (by kernel_rfl) [(1, .pointer (some ⟨b1, 0, none⟩)), (2, .slice none 0 0), (3, .slice adl ((last16 b).length) capl), (4, .pointer (some ⟨b7, 0, none⟩)), (5, .slice (some ⟨b10, 0, none⟩) ((last16 b).length) ((last16 b).length)), (6, .func (.func 44) #[] #[.pointer (some ⟨b7, 0, none⟩)]), (7, .int .i64 (v : Int)), (8, .int .i64 (s : Int)), (19, .int .i64 ((last16 b).length : Int)), (20, .int .i64 (v : Int))] ⟨rfl, rfl, rfl, rfl, rfl, rfl, rfl, rfl, rfl, rfl, trivial⟩ (by kernel_rfl) hS ?_ ?_
    ·
     refine And.intro (fun β w hS => ?_) ?_
     ·
      refine WL.sub (σ' := [(4, .pointer (some ⟨b7, 0, none⟩))]) ⟨rfl, trivial⟩ ?_
      refine WL.load1 (v := .map (some b5)) one_86 rfl rfl rfl (hS.cell 0 rfl rfl) ?_
      exact WL.nil (N.cut () ⟨rfl, trivial⟩ (Below.refl _ _))
     refine And.intro (fun β w hS => ?_) ?_
     ·
      refine WL.sub (σ' := [(8, .int .i64 (s : Int))]) ⟨rfl, trivial⟩ ?_
      refine WL.move rfl rfl rfl ?_
      exact WL.nil (N.cut () ⟨rfl, trivial⟩ (Below.refl _ _))
     refine And.intro (fun β w hS => ?_) ?_
     ·
      refine WL.sub (σ' := [(3, .slice adl ((last16 b).length) capl)]) ⟨rfl, trivial⟩ ?_
      refine WL.move rfl rfl rfl ?_
      exact WL.nil (N.cut () ⟨rfl, trivial⟩ (Below.refl _ _))
     refine And.intro (fun β w hS => ?_) ?_
     ·
      refine WL.sub (σ' := [(7, .int .i64 (v : Int))]) ⟨rfl, trivial⟩ ?_
      refine WL.move rfl rfl rfl ?_
      exact WL.nil (N.cut () ⟨rfl, trivial⟩ (Below.refl _ _))
     refine And.intro (fun β w hS => ?_) ?_
     ·
      refine WL.sub (σ' := [(50, .slice adl ((last16 b).length) capl), (51, .int .i64 (v : Int))]) ⟨rfl, rfl, trivial⟩ ?_
      refine WL.indexAddrE (j := v) Tryd.underlying55 isz_3 rfl rfl rfl rfl hj19 hE19 ?_
      exact WL.nil (N.cut () ⟨rfl, trivial⟩ (Below.refl _ _))
     refine And.intro (fun β w hS => ?_) ?_
     ·
      refine WL.sub (σ' := [(52, .pointer (some ⟨b19, o19 + v * 1, none⟩))]) ⟨rfl, trivial⟩ ?_
      refine WL.load1 (v := .int .i64 x19) one_3 rfl rfl rfl (hS.roCells hr19 hc19 0 _ rfl) ?_
      exact WL.nil (N.cut () ⟨rfl, trivial⟩ (Below.refl _ _))
     trivial
    clear hS; intro w20 β hS
    refine WL.sub (σ' := [(1, .pointer (some ⟨b1, 0, none⟩)), (2, .slice none 0 0), (3, .slice adl ((last16 b).length) capl), (4, .pointer (some ⟨b7, 0, none⟩)), (5, .slice (some ⟨b10, 0, none⟩) ((last16 b).length) ((last16 b).length)), (6, .func (.func 44) #[] #[.pointer (some ⟨b7, 0, none⟩)]), (19, .int .i64 ((last16 b).length : Int)), (20, .int .i64 (v : Int)), (48, .map (some b5)), (49, .int .i64 (s : Int)), (53, .int .i64 x19)]) ⟨rfl, rfl, rfl, rfl, rfl, rfl, rfl, rfl, rfl, rfl, rfl, trivial⟩ ?_
    refine WL.mapPut 1 (s : Int) x19 keyE_int Tryd.underlying86 Tryd.underlying3 hM1 rfl rfl rfl rfl rfl hS ?_
    clear hS; intro w22 es21 ck21 hM21 hS
    refine WL.nil (N.blk (N.seq (W.region ?_)))
    refine WL.add (c := (v : Int) + 1) rfl rfl rfl rfl (rfl) (by omega) ?_
    refine WL.move rfl rfl rfl (WL.nil ?_)
    have hgd : (last16 b).getD v 0 = x19 := by rw [List.getD_eq_getElem?_getD, hx19]; rfl
    have hsf : s = first16 (freeG (giveAt16 b v).1 ((v : Int) - b.params)) (last16 b).length := by rcases Nat.lt_or_eq_of_le hs with h | h; exact absurd (hf3 s h) (by simpa using hc17); exact h
    have hst : giveAt16 b (v + 1) = (updG (freeG (giveAt16 b v).1 ((v : Int) - b.params)) (s : Int) x19, (giveAt16 b v).2 ++ [(s : Int)]) := by rw [giveAt16_succ]; unfold giveStep16; rw [if_neg (by omega), hgd, ← hsf]
    have hos : ((giveAt16 b v).2 ++ List.replicate ((last16 b).length - v) 0).set v (s : Int) = (giveAt16 b (v + 1)).2 ++ List.replicate ((last16 b).length - (v + 1)) 0 := by have h := outSet (l := (giveAt16 b v).2) (n := (last16 b).length) (x := (s : Int)) (by rw [hg.len]; omega); rw [hg.len] at h; rw [h, hst]
    rw [hos] at hS
    exact N.loop (v + 1, es21, ck21) ⟨rfl, rfl, rfl, rfl, rfl, rfl, rfl, rfl, trivial⟩ ⟨hS, by omega, by rw [hst]; exact hM21⟩ (by first | omega | (simp only; omega))
   refine W.skip (N.seq (W.region (WL.move rfl rfl rfl ?_)))
   refine WL.add (c := (s : Int) + 1) rfl rfl rfl rfl (rfl) (by omega) ?_
   refine WL.assign rfl rfl rfl (WL.nil (N.blk ?_))
   have hne : s ≠ first16 (freeG (giveAt16 b v).1 ((v : Int) - b.params)) (last16 b).length := by intro e; have h2 := hc17; rw [e, hf1] at h2; simp at h2
   exact N.loop (s + 1) ⟨rfl, rfl, rfl, rfl, rfl, rfl, rfl, rfl, rfl, rfl, trivial⟩ ⟨hS, by omega⟩ (by first | omega | (simp only; omega))
  have hc14p : ¬ (b.params ≤ (v : Int)) := by simpa using hc14
  refine W.skip (N.seq (W.seq (W.region (WL.move rfl rfl rfl (WL.move rfl rfl rfl (WL.move rfl rfl rfl ?_))))))
  refine WL.indexAddr (j := v) Tryd.underlying55 isz_3 rfl rfl rfl rfl (by omega) ?_
  refine WL.storeArr (v := (v : Int)) 2 rfl rfl rfl rfl siz_3 rfl rfl (by simp; omega) hS ?_
  clear hS; intro w23 hS
  refine WL.nil (N.seq ?_)
  have hj24 : v < (last16 b).length := by omega
  obtain ⟨x24, hx24, b24, o24, cs24, hE24, hr24, _, hc24, hQ24⟩ := opn hvld hj24
  obtain ⟨rfl, hi24⟩ := hQ24
  refine W.drawL (by kernel_rfl) 6 ((.q (.map (some b5))) :: (.q (.int .i64 (v : Int))) :: (.q (.slice adl ((last16 b).length) capl)) :: (.q (.int .i64 (v : Int))) :: (.q (.pointer (some ⟨b24, o24 + v * 1, none⟩))) :: (.q (.int .i64 x24)) :: []) (by kernel_rfl) (by kernel_rfl) [(1, .pointer (some ⟨b1, 0, none⟩)), (2, .slice none 0 0), (3, .slice adl ((last16 b).length) capl), (4, .pointer (some ⟨b7, 0, none⟩)), (5, .slice (some ⟨b10, 0, none⟩) ((last16 b).length) ((last16 b).length)), (6, .func (.func 44) #[] #[.pointer (some ⟨b7, 0, none⟩)]), (7, .int .i64 (v : Int)), (8, .int .i64 (v : Int)), (19, .int .i64 ((last16 b).length : Int)), (20, .int .i64 (v : Int))] ⟨rfl, rfl, rfl, rfl, rfl, rfl, rfl, rfl, rfl, rfl, trivial⟩ (by kernel_rfl) hS ?_ ?_
  ·
   refine And.intro (fun β w hS => ?_) ?_
   ·
    refine WL.sub (σ' := [(4, .pointer (some ⟨b7, 0, none⟩))]) ⟨rfl, trivial⟩ ?_
    refine WL.load1 (v := .map (some b5)) one_86 rfl rfl rfl (hS.cell 0 rfl rfl) ?_
    exact WL.nil (N.cut () ⟨rfl, trivial⟩ (Below.refl _ _))
   refine And.intro (fun β w hS => ?_) ?_
   ·
    refine WL.sub (σ' := [(8, .int .i64 (v : Int))]) ⟨rfl, trivial⟩ ?_
    refine WL.move rfl rfl rfl ?_
    exact WL.nil (N.cut () ⟨rfl, trivial⟩ (Below.refl _ _))
   refine And.intro (fun β w hS => ?_) ?_
   ·
    refine WL.sub (σ' := [(3, .slice adl ((last16 b).length) capl)]) ⟨rfl, trivial⟩ ?_
    refine WL.move rfl rfl rfl ?_
    exact WL.nil (N.cut () ⟨rfl, trivial⟩ (Below.refl _ _))
   refine And.intro (fun β w hS => ?_) ?_
   ·
    refine WL.sub (σ' := [(7, .int .i64 (v : Int))]) ⟨rfl, trivial⟩ ?_
    refine WL.move rfl rfl rfl ?_
    exact WL.nil (N.cut () ⟨rfl, trivial⟩ (Below.refl _ _))
   refine And.intro (fun β w hS => ?_) ?_
   ·
    refine WL.sub (σ' := [(50, .slice adl ((last16 b).length) capl), (51, .int .i64 (v : Int))]) ⟨rfl, rfl, trivial⟩ ?_
    refine WL.indexAddrE (j := v) Tryd.underlying55 isz_3 rfl rfl rfl rfl hj24 hE24 ?_
    exact WL.nil (N.cut () ⟨rfl, trivial⟩ (Below.refl _ _))
   refine And.intro (fun β w hS => ?_) ?_
   ·
    refine WL.sub (σ' := [(52, .pointer (some ⟨b24, o24 + v * 1, none⟩))]) ⟨rfl, trivial⟩ ?_
    refine WL.load1 (v := .int .i64 x24) one_3 rfl rfl rfl (hS.roCells hr24 hc24 0 _ rfl) ?_
    exact WL.nil (N.cut () ⟨rfl, trivial⟩ (Below.refl _ _))
   trivial
  clear hS; intro w25 β hS
  refine WL.sub (σ' := [(1, .pointer (some ⟨b1, 0, none⟩)), (2, .slice none 0 0), (3, .slice adl ((last16 b).length) capl), (4, .pointer (some ⟨b7, 0, none⟩)), (5, .slice (some ⟨b10, 0, none⟩) ((last16 b).length) ((last16 b).length)), (6, .func (.func 44) #[] #[.pointer (some ⟨b7, 0, none⟩)]), (19, .int .i64 ((last16 b).length : Int)), (20, .int .i64 (v : Int)), (48, .map (some b5)), (49, .int .i64 (v : Int)), (53, .int .i64 x24)]) ⟨rfl, rfl, rfl, rfl, rfl, rfl, rfl, rfl, rfl, rfl, rfl, trivial⟩ ?_
  refine WL.mapPut 1 (v : Int) x24 keyE_int Tryd.underlying86 Tryd.underlying3 hM rfl rfl rfl rfl rfl hS ?_
  clear hS; intro w27 es26 ck26 hM26 hS
  refine WL.nil (N.blk (N.seq (W.region ?_)))
  refine WL.add (c := (v : Int) + 1) rfl rfl rfl rfl (rfl) (by omega) ?_
  refine WL.move rfl rfl rfl (WL.nil ?_)
  have hgd : (last16 b).getD v 0 = x24 := by rw [List.getD_eq_getElem?_getD, hx24]; rfl
  have hst : giveAt16 b (v + 1) = (updG (giveAt16 b v).1 (v : Int) x24, (giveAt16 b v).2 ++ [(v : Int)]) := by rw [giveAt16_succ]; unfold giveStep16; rw [if_pos (by omega), hgd]
  have hos : ((giveAt16 b v).2 ++ List.replicate ((last16 b).length - v) 0).set v (v : Int) = (giveAt16 b (v + 1)).2 ++ List.replicate ((last16 b).length - (v + 1)) 0 := by have h := outSet (l := (giveAt16 b v).2) (n := (last16 b).length) (x := (v : Int)) (by rw [hg.len]; omega); rw [hg.len] at h; rw [h, hst]
  rw [hos] at hS
  exact N.loop (v + 1, es26, ck26) ⟨rfl, rfl, rfl, rfl, rfl, rfl, rfl, rfl, trivial⟩ ⟨hS, by omega, by rw [hst]; exact hM26⟩ (by first | omega | (simp only; omega))
 have hc13p : ¬ ((v : Int) < ((last16 b).length : Int)) := by simpa using hc13
 refine W.exit (X.seq (X.loop (X.blk (N.seq (W.seq (W.region (WL.move rfl rfl rfl (WL.assign rfl rfl rfl (WL.nil ?_)))))))))
 refine N.seq ?_
 refine Fin.ret1 rfl (v := .slice (some ⟨b10, 0, none⟩) ((last16 b).length) ((last16 b).length)) rfl ?_
 have e : v = (last16 b).length := by omega
 have hu : (giveAt16 b v).2 ++ List.replicate ((last16 b).length - v) 0 = give16 b := by rw [e, Nat.sub_self]; simp [give16]
 rw [hu] at hS
 exact ⟨arr_row (hS.dropN 2) (by rw [give16_length hok]; unfold maxLen; omega) (by rw [give16_length hok, hll]) rfl (fun x hx => ⟨rfl, by rw [← hu, e, Nat.sub_self] at hx; have := hg.out x (by rw [e]; simpa using hx); unfold inI; omega⟩) ((hS.keys b10 (by simp [keysOf])).imp id (·.1)), hS.below⟩

end Go.Proofs.YtcmmhfknkldmcaaDoor
