/-
  Contracts of layer 16 (slot). No condition beyond those that each theorem states.
-/
import Derived.Test.YtcmmhfknkldmcaaDoorC2
namespace Go.Proofs.YtcmmhfknkldmcaaDoor
open Go.RowKit
theorem one_86 : tyOne Tryd.prog 86 = true := by kernel_rfl
theorem siz_86 : tySize Tryd.prog 86 1 = true := by kernel_rfl
theorem zb_3 : (Tryd.prog.info? 3).bind (·.zero) = some (.int .i64 0) := by kernel_rfl
theorem zer_86 : tyZero Tryd.prog 86 = some [.map none] := by kernel_rfl
def freeG (T : Int → Option Int) (step : Int) : Int → Option Int := fun x => match T x with
  | some l => if l ≤ step then none else some l
  | none => none
def partFree (T : Int → Option Int) (step : Int) (l : List Int) : Int → Option Int := fun x => if x ∈ l then freeG T step x else T x
theorem partFree_nil (T : Int → Option Int) (step : Int) : partFree T step [] = T := by funext x; simp [partFree]
theorem take_fresh {ss : List Int} (h : ss.Nodup) {k : Nat} {x : Int} (hx : ss[k]? = some x) : x ∉ ss.take k := fun hm => by
  obtain ⟨j, hj⟩ := List.mem_iff_getElem?.1 hm
  have hjk : j < k := by
    have := (List.getElem?_eq_some_iff.1 hj).1
    rw [List.length_take] at this; omega
  rw [List.getElem?_take_of_lt hjk] at hj
  have := (List.getElem?_inj (List.getElem?_eq_some_iff.1 hj).1 h).1 (hj.trans hx.symm)
  omega
theorem partFree_at {T : Int → Option Int} {step : Int} {ss : List Int} (hnd : ss.Nodup) {k : Nat} {x : Int} (hx : ss[k]? = some x) : partFree T step (ss.take k) x = T x := by
  unfold partFree; rw [if_neg (take_fresh hnd hx)]
theorem partFree_del {T : Int → Option Int} {step : Int} {ss : List Int} (hnd : ss.Nodup) {k : Nat} {x : Int} (hx : ss[k]? = some x) (hs : (T x).isSome = true) (hle : (partFree T step (ss.take k) x).getD 0 ≤ step) :
    delG (partFree T step (ss.take k)) x = partFree T step (ss.take (k + 1)) := by
  rw [partFree_at hnd hx] at hle
  obtain ⟨l, hl⟩ := Option.isSome_iff_exists.1 hs
  funext y
  rw [take_next hx]
  simp only [delG, partFree, List.mem_append, List.mem_cons, List.not_mem_nil, or_false]
  by_cases e : y = x
  · subst e
    rw [if_pos rfl, if_pos (Or.inr rfl)]
    unfold freeG
    rw [hl] at hle ⊢
    dsimp only
    rw [if_pos (by simpa using hle)]
  · rw [if_neg e]
    by_cases hm : y ∈ ss.take k
    · rw [if_pos hm, if_pos (Or.inl hm)]
    · rw [if_neg hm, if_neg (fun h => h.elim hm e)]
theorem partFree_keep {T : Int → Option Int} {step : Int} {ss : List Int} (hnd : ss.Nodup) {k : Nat} {x : Int} (hx : ss[k]? = some x) (hs : (T x).isSome = true) (hle : ¬ (partFree T step (ss.take k) x).getD 0 ≤ step) :
    partFree T step (ss.take k) = partFree T step (ss.take (k + 1)) := by
  rw [partFree_at hnd hx] at hle
  obtain ⟨l, hl⟩ := Option.isSome_iff_exists.1 hs
  funext y
  rw [take_next hx]
  simp only [partFree, List.mem_append, List.mem_cons, List.not_mem_nil, or_false]
  by_cases e : y = x
  · subst e
    rw [if_pos (Or.inr rfl), if_neg (take_fresh hnd hx)]
    unfold freeG
    rw [hl] at hle ⊢
    dsimp only
    rw [if_neg (by simpa using hle)]
  · by_cases hm : y ∈ ss.take k
    · rw [if_pos hm, if_pos (Or.inl hm)]
    · rw [if_neg hm, if_neg (fun h => h.elim hm e)]
theorem partFree_all {T : Int → Option Int} {step : Int} {ss : List Int} (hmem : ∀ x, x ∈ ss ↔ (T x).isSome = true) : partFree T step ss = freeG T step := by
  funext x
  unfold partFree
  split
  · rfl
  · rename_i h
    rw [hmem x] at h
    have : T x = none := by cases e : T x <;> simp_all
    unfold freeG; rw [this]
def first16 (T : Int → Option Int) (n : Nat) : Nat := ((List.range (n + 1)).find? fun s : Nat => (T (s : Int)).isNone).getD 0
def giveStep16 (b : DBlock) (s : (Int → Option Int) × List Int) (v : Nat) : (Int → Option Int) × List Int :=
  if (v : Int) < b.params then (updG s.1 (v : Int) ((last16 b).getD v 0), s.2 ++ [(v : Int)])
  else (updG (freeG s.1 ((v : Int) - b.params)) (first16 (freeG s.1 ((v : Int) - b.params)) (last16 b).length : Int) ((last16 b).getD v 0), s.2 ++ [(first16 (freeG s.1 ((v : Int) - b.params)) (last16 b).length : Int)])
def giveAt16 (b : DBlock) (v : Nat) : (Int → Option Int) × List Int := (List.range v).foldl (giveStep16 b) (fun _ => none, [])
def give16 (b : DBlock) : List Int := (giveAt16 b (last16 b).length).2
theorem giveAt16_succ (b : DBlock) (v : Nat) : giveAt16 b (v + 1) = giveStep16 b (giveAt16 b v) v := by simp [giveAt16, List.range_succ]
theorem nodup_le : ∀ (l r : List Int), l.Nodup → (∀ x ∈ l, x ∈ r) → l.length ≤ r.length
  | [], _, _, _ => Nat.zero_le _
  | x :: l, r, h, hm => by
    have h1 := List.nodup_cons.1 h
    have h2 := nodup_le l (r.erase x) h1.2 fun y hy => (List.mem_erase_of_ne (fun e => h1.1 (by rw [← e]; exact hy))).2 (hm y (List.mem_cons_of_mem _ hy))
    have h3 := List.length_erase_of_mem (hm x List.mem_cons_self)
    have h4 : 0 < r.length := List.length_pos_of_mem (hm x List.mem_cons_self)
    rw [List.length_cons]; omega
/-- Where less is taken than there is room, something is free. -/
theorem first16_spec {T : Int → Option Int} {n : Nat} {out : List Int} (hk : ∀ k l, T k = some l → k ∈ out) (hn : out.length ≤ n) : T (first16 T n : Int) = none ∧ first16 T n ≤ n ∧ ∀ j : Nat, j < first16 T n → (T (j : Int)).isSome = true := by
  unfold first16
  cases e : (List.range (n + 1)).find? fun s : Nat => (T (s : Int)).isNone with
  | none =>
    exfalso
    rw [List.find?_eq_none] at e
    have := nodup_le ((List.range (n + 1)).map fun s : Nat => (s : Int)) out (List.pairwise_map.2 (List.nodup_range.imp fun h e => h (Int.ofNat.inj e))) fun x hx => by
      obtain ⟨s, hs, rfl⟩ := List.mem_map.1 hx
      have h1 := e s hs
      cases h2 : T (s : Int) with
      | none => simp [h2] at h1
      | some l => exact hk _ _ h2
    rw [List.length_map, List.length_range] at this
    omega
  | some s =>
    obtain ⟨h1, la, lb, h2, h3⟩ := List.find?_eq_some_iff_append.1 e
    have hs : s ∈ List.range (n + 1) := by rw [h2]; simp
    have hlen : la.length = s := by
      have h4 := congrArg (fun l => l[la.length]?) h2
      simp only [List.getElem?_append_right (Nat.le_refl _), Nat.sub_self, List.getElem?_cons_zero] at h4
      obtain ⟨h5, h6⟩ := List.getElem?_eq_some_iff.1 h4
      simpa using h6
    refine ⟨by simpa using h1, by have := List.mem_range.1 hs; simp only [Option.getD_some]; omega, fun j hj => ?_⟩
    simp only [Option.getD_some] at hj
    have h4 : (List.range (n + 1))[j]? = (la ++ s :: lb)[j]? := by rw [h2]
    rw [List.getElem?_append_left (by omega), List.getElem?_range (by have := List.mem_range.1 hs; omega)] at h4
    have h5 := h3 j (List.mem_of_getElem? h4.symm)
    cases h6 : T (j : Int) with
    | none => simp [h6] at h5
    | some l => rfl
/-- What holds of what is taken and given so far. -/
structure Given16 (b : DBlock) (v : Nat) (T : Int → Option Int) (out : List Int) : Prop where
  len : out.length = v
  key : ∀ k l, T k = some l → k ∈ out
  out : ∀ x ∈ out, 0 ≤ x ∧ x ≤ 2000
theorem freeG_some {T : Int → Option Int} {step k l : Int} (h : freeG T step k = some l) : T k = some l ∧ ¬ l ≤ step := by
  unfold freeG at h
  split at h
  · rename_i l' e
    split at h
    · cases h
    · cases h; exact ⟨e, by assumption⟩
  · cases h
theorem given16 {b : DBlock} (hok : Ok16 b) (v : Nat) (hv : v ≤ (last16 b).length) : Given16 b v (giveAt16 b v).1 (giveAt16 b v).2 := by
  have hL := last16_length b
  have h1 := hok.p1
  have h2 := hok.n
  induction v with
  | zero => exact ⟨rfl, (fun k l h => by cases h), (fun x hx => by cases hx)⟩
  | succ v ih =>
    obtain ⟨i1, i2, i3⟩ := ih (by omega)
    rw [giveAt16_succ]
    unfold giveStep16
    split
    · refine ⟨by simp [i1], fun k l h => ?_, fun x hx => ?_⟩
      · simp only [updG] at h
        split at h
        · rename_i e; rw [e]; simp
        · exact List.mem_append_left _ (i2 k l h)
      · simp only [List.mem_append, List.mem_cons, List.not_mem_nil, or_false] at hx
        rcases hx with hx | hx
        · exact i3 x hx
        · omega
    · have hf := first16_spec (T := freeG (giveAt16 b v).1 ((v : Int) - b.params)) (n := (last16 b).length) (out := (giveAt16 b v).2) (fun k l h => i2 k l (freeG_some h).1) (by omega)
      refine ⟨by simp [i1], fun k l h => ?_, fun x hx => ?_⟩
      · simp only [updG] at h
        split at h
        · rename_i e; rw [e]; simp
        · exact List.mem_append_left _ (i2 k l (freeG_some h).1)
      · simp only [List.mem_append, List.mem_cons, List.not_mem_nil, or_false] at hx
        rcases hx with hx | hx
        · exact i3 x hx
        · omega
theorem outSet {l : List Int} {n : Nat} {x : Int} (h : l.length < n) : (l ++ List.replicate (n - l.length) 0).set l.length x = (l ++ [x]) ++ List.replicate (n - (l.length + 1)) 0 := by
  rw [show n - l.length = (n - (l.length + 1)) + 1 by omega, List.replicate_succ, List.set_append_right _ _ (Nat.le_refl _), Nat.sub_self, List.set_cons_zero, List.append_assoc]
  rfl
theorem give16_length {b : DBlock} (hok : Ok16 b) : (give16 b).length = b.params.toNat + b.ins.length := by
  have := (given16 hok _ (Nat.le_refl _)).len
  unfold give16; rw [this, last16_length]

theorem free16_ret {w0 ws w : World} {ro : Nat → Prop} {L : List (Nat × Obj)} {Rs : List Row} (bt bm : Nat) (es : Array MapEntry) (ck n : Nat) (T : Int → Option Int) (step : Int) (hS : St w0 ws w ro ((bt, .cells #[.map (some bm)] 86 (0, 0)) :: (bm, .map es ck) :: L) Rs) (hM : MapG kI kI es ck n T) (hTk : ∀ k l, T k = some l → inI k) (hn : n ≤ 1000000) : Ret Tryd.prog 44 #[.int .i64 step, .pointer (some ⟨bt, 0, none⟩)] w fun v w' => v = .tuple #[] ∧ ∃ es' ck', MapG kI kI es' ck' n (freeG T step) ∧ St w0 ws w' ro ((bt, .cells #[.map (some bm)] 86 (0, 0)) :: (bm, .map es' ck') :: L) Rs := by
 refine Ret.enter (P := Tryd.prog) (n := 21) (args := [.int .i64 step, .pointer (some ⟨bt, 0, none⟩)]) (σ := [(0, .int .i64 step), (1, .pointer (some ⟨bt, 0, none⟩))]) Tryd.func44 rfl rfl rfl rfl ?_
 have hsub : ∀ b, ro b → ro b ∨ w0.heap.size ≤ b := fun _ h => .inl h
 have halT : Alike ro ws ro ws := Alike.refl
 refine W.seq ?_
 refine W.region ?_
 refine WL.load1 (v := .map (some bm)) one_86 rfl rfl rfl (hS.cell 0 rfl rfl) ?_
 refine WL.callF (vs := [.map (some bm)]) Tryd.func46 (by kernel_rfl) rfl rfl rfl (keys_ret bm _) ?_
 rintro v w1 ⟨bk, rfl, hst⟩
 replace hS := hst _ _ _ _ _ hS
 refine WL.callF (vs := [.func (.func 65) #[] #[.pointer (some ⟨bk, 0, none⟩)]]) Tryd.func45 (by kernel_rfl) rfl rfl rfl (coll_ret bk bm es ck n T (hS.own _ (List.mem_of_getElem? (i := 0) rfl)) (hS.own _ (List.mem_of_getElem? (i := 2) rfl)) hM hTk hn) ?_
 rintro v w2 ⟨ss, how, hnd, hmem, hlen, hbl⟩
 replace hS := hS.callRow hbl how
 obtain ⟨adr, capr, rfl, _, _, _⟩ := row_shape how
 replace hS := hS.dropN 1
 have hal3 := hS.giveRowAlike
 replace hsub : ∀ b, (fun x => ro x ∨ (.slice adr ss.length capr : Value).ownBlock = some x) b → ro b ∨ w0.heap.size ≤ b := fun b hb => hb.elim (hsub b) (fun h => .inr (hS.giveRowLe b h))
 replace halT := halT.trans hal3
 have hrow4 := hS.rows _ List.mem_cons_self
 replace hS := hS.giveRow
 have hks : SlV (fun x => ro x ∨ (.slice adr ss.length capr : Value).ownBlock = some x) w2 1 IntC (.slice adr ss.length capr) ss := row_slv hrow4 (chunks_ints (l := ss) (fun x hx => by obtain ⟨l, hl⟩ := Option.isSome_iff_exists.1 ((hmem x).1 hx); exact hTk x l hl)) rfl (fun b hb => .inr hb)
 have hksd : Elems (fun x => ro x ∨ (.slice adr ss.length capr : Value).ownBlock = some x) w2 1 IntC adr ss := by obtain ⟨_, _, e, _, _, _, h⟩ := id hks; cases e; exact h
 refine WL.lenSlice Tryd.underlying55 rfl rfl rfl ?_
 refine WL.move rfl rfl rfl ?_
 refine WL.nil ?_
 refine N.seq ?_
 refine W.block ?_
 have hM0 : MapG kI kI es ck n (partFree T step (ss.take 0)) := by rw [List.take_zero, partFree_nil]; exact hM
 refine W.loop (α := Nat × Array MapEntry × Nat) (fun ⟨k, es1, ck1⟩ => [(0, .int .i64 step), (1, .pointer (some ⟨bt, 0, none⟩)), (5, .map (some bm)), (6, .func (.func 65) #[] #[.pointer (some ⟨bk, 0, none⟩)]), (7, .slice adr ss.length capr), (8, .int .i64 (ss.length : Int)), (9, .int .i64 (k : Int))]) (fun ⟨k, es1, ck1⟩ u => St w0 w2 u (fun x => ro x ∨ (.slice adr ss.length capr : Value).ownBlock = some x) ((bt, .cells #[.map (some bm)] 86 (0, 0)) :: (bm, .map es1 ck1) :: L) (Rs) ∧ k ≤ ss.length ∧ MapG kI kI es1 ck1 n (partFree T step (ss.take k))) (fun ⟨k, es1, ck1⟩ => ss.length - k) (0, es, ck) ⟨rfl, rfl, rfl, rfl, rfl, rfl, rfl, trivial⟩ ⟨hS, Nat.zero_le _, hM0⟩ ?_
 clear hS
 rintro ⟨k, es1, ck1⟩ w5 ⟨hS, hk, hM1⟩
 refine W.seq ?_
 refine W.region ?_
 refine WL.bin rfl rfl rfl rfl rfl ?_
 refine WL.nil ?_
 refine N.seq ?_
 refine W.seq ?_
 refine W.cond rfl (fun hc6 => ?_) (fun hc6 => ?_)
 ·
  have hc6p : (k : Int) < (ss.length : Int) := by simpa using hc6
  refine W.skip ?_
  refine N.seq ?_
  refine W.seq ?_
  refine W.block ?_
  refine W.seq ?_
  refine W.region ?_
  have hj7 : k < ss.length := by omega
  obtain ⟨x7, hx7⟩ : ∃ zz, ss[k]? = some zz := ⟨_, List.getElem?_eq_getElem hj7⟩
  obtain ⟨b7, o7, cs7, hE7, hr7, hl7, hc7, hQ7⟩ := hksd k _ hx7
  obtain ⟨rfl, hi7⟩ := hQ7
  refine WL.indexAddrE (j := k) Tryd.underlying55 isz_3 rfl rfl rfl rfl hj7 hE7 ?_
  refine WL.load1 (v := .int .i64 x7) one_3 rfl rfl rfl (hS.roCells hr7 hc7 0 _ rfl) ?_
  refine WL.assign rfl rfl rfl ?_
  refine WL.nil ?_
  refine N.seq ?_
  refine W.seq ?_
  refine W.region ?_
  refine WL.load1 (v := .map (some bm)) one_86 rfl rfl rfl (hS.cell 0 rfl rfl) ?_
  refine WL.move rfl rfl rfl ?_
  refine WL.mapGet x7 keyE_int Tryd.underlying86 Tryd.underlying3 zb_3 hM1 rfl rfl rfl rfl (hS.own _ (List.mem_of_getElem? (i := 1) rfl)) (v := .int .i64 (((partFree T step (ss.take k)) x7).getD 0)) (by cases (partFree T step (ss.take k)) x7 <;> rfl) ?_
  refine WL.move rfl rfl rfl ?_
  refine WL.bin rfl rfl rfl rfl rfl ?_
  refine WL.nil ?_
  refine N.seq ?_
  refine W.cond rfl (fun hc8 => ?_) (fun hc8 => ?_)
  ·
   have hc8p : ((partFree T step (ss.take k)) x7).getD 0 ≤ step := by simpa using hc8
   refine W.region ?_
   refine WL.load1 (v := .map (some bm)) one_86 rfl rfl rfl (hS.cell 0 rfl rfl) ?_
   refine WL.move rfl rfl rfl ?_
   refine WL.mapDel 1 x7 keyE_int Tryd.underlying86 Tryd.underlying3 hM1 rfl rfl rfl rfl hS ?_
   clear hS; intro w10 es9 ck9 hM9 hS
   refine WL.nil ?_
   refine N.blk ?_
   refine N.seq ?_
   refine W.region ?_
   refine WL.add (c := (k : Int) + 1) rfl rfl rfl rfl (rfl) (by omega) ?_
   refine WL.move rfl rfl rfl ?_
   refine WL.nil ?_
   have hsx := (hmem x7).1 (List.mem_of_getElem? hx7)
   exact N.loop (k + 1, es9, ck9) ⟨rfl, rfl, rfl, rfl, rfl, rfl, rfl, trivial⟩ ⟨hS, by omega, by rw [← partFree_del hnd hx7 hsx hc8p]; exact hM9⟩ (by first | omega | (simp only; omega))
  have hc8p : ¬ (((partFree T step (ss.take k)) x7).getD 0 ≤ step) := by simpa using hc8
  refine W.skip ?_
  refine N.blk ?_
  refine N.seq ?_
  refine W.region ?_
  refine WL.add (c := (k : Int) + 1) rfl rfl rfl rfl (rfl) (by omega) ?_
  refine WL.move rfl rfl rfl ?_
  refine WL.nil ?_
  have hsx := (hmem x7).1 (List.mem_of_getElem? hx7)
  exact N.loop (k + 1, es1, ck1) ⟨rfl, rfl, rfl, rfl, rfl, rfl, rfl, trivial⟩ ⟨hS, by omega, by rw [← partFree_keep hnd hx7 hsx hc8p]; exact hM1⟩ (by first | omega | (simp only; omega))
 have hc6p : ¬ ((k : Int) < (ss.length : Int)) := by simpa using hc6
 refine W.exit ?_
 refine X.seq ?_
 refine X.loop ?_
 refine X.blk ?_
 refine Fin.end0 rfl ?_
 have e : k = ss.length := by omega
 subst e
 rw [List.take_length, partFree_all hmem] at hM1
 exact ⟨rfl, es1, ck1, hM1, hS.backTo halT⟩

set_option maxRecDepth 10000 in
set_option maxHeartbeats 2000000 in
theorem give16_ret (b : DBlock) (cs : List Value) {w : World} {ro : Nat → Prop} (hro : ∀ b, ro b → b < w.heap.size) (hb : BlockC ro w cs b) (hok : Ok16 b) : Ret Tryd.prog 26 #[.agg cs.toArray] w fun v w' => SlV (fun b => w.heap.size ≤ b ∧ b < w'.heap.size) w' 1 IntC v (give16 b) ∧ Below w.heap.size w w' := by
 obtain ⟨si, tsx, rfl, hin, hfin, hpar⟩ := id hb
 obtain ⟨adi, capi, rfl, hina, hinb, hinc, hind⟩ := id hin
 have hinm : b.ins.length ≤ 9223372036854775807 := by have h1 := hina; have h2 := hinb; unfold maxLen at h2; omega
 obtain ⟨sp, sq, rfl, ht1, ht2, htk, hta, htt, hte⟩ := id hfin
 obtain ⟨adp, capp, rfl, htpa, htpb, htpc, htpd⟩ := id ht1
 have htpm : b.fin.args.length ≤ 9223372036854775807 := by have h1 := htpa; have h2 := htpb; unfold maxLen at h2; omega
 obtain ⟨adq, capq, rfl, htqa, htqb, htqc, htqd⟩ := id ht2
 have htqm : b.fin.elses.length ≤ 9223372036854775807 := by have h1 := htqa; have h2 := htqb; unfold maxLen at h2; omega
 refine Ret.enter (P := Tryd.prog) (n := 56) (args := [.agg #[.int .i64 b.params, .slice adi b.ins.length capi, .int .i64 b.fin.kind, .int .i64 b.fin.a, .int .i64 b.fin.to, .slice adp b.fin.args.length capp, .int .i64 b.fin.els, .slice adq b.fin.elses.length capq]]) (σ := [(0, .agg #[.int .i64 b.params, .slice adi b.ins.length capi, .int .i64 b.fin.kind, .int .i64 b.fin.a, .int .i64 b.fin.to, .slice adp b.fin.args.length capp, .int .i64 b.fin.els, .slice adq b.fin.elses.length capq])]) Tryd.func26 rfl rfl rfl rfl ?_
 have hS := St.start (ro := ro) hro
 have hokn := hok.n; have hokp := hok.p0; have hokq := hok.p1
 have hsub : ∀ b, ro b → ro b ∨ w.heap.size ≤ b := fun _ h => .inl h
 have halT : Alike ro w ro w := Alike.refl
 refine W.seq ?_
 refine W.region ?_
 refine WL.box (v := .agg #[.int .i64 b.params, .slice adi b.ins.length capi, .int .i64 b.fin.kind, .int .i64 b.fin.a, .int .i64 b.fin.to, .slice adp b.fin.args.length capp, .int .i64 b.fin.els, .slice adq b.fin.elses.length capq]) (cs := [.int .i64 b.params, .slice adi b.ins.length capi, .int .i64 b.fin.kind, .int .i64 b.fin.a, .int .i64 b.fin.to, .slice adp b.fin.args.length capp, .int .i64 b.fin.els, .slice adq b.fin.elses.length capq]) rfl rfl rfl rfl hS ?_
 clear hS; intro w2 b1 hb_b1 hS
 refine WL.assign rfl rfl rfl ?_
 refine WL.nil ?_
 refine N.seq ?_
 refine W.seq ?_
 refine W.region ?_
 refine WL.loadN (cs := [.int .i64 b.params, .slice adi b.ins.length capi, .int .i64 b.fin.kind, .int .i64 b.fin.a, .int .i64 b.fin.to, .slice adp b.fin.args.length capp, .int .i64 b.fin.els, .slice adq b.fin.elses.length capq]) agg_59 rfl rfl rfl rfl (hS.cells 0 (m := 8) rfl rfl) ?_
 refine WL.callF (vs := [.agg #[.int .i64 b.params, .slice adi b.ins.length capi, .int .i64 b.fin.kind, .int .i64 b.fin.a, .int .i64 b.fin.to, .slice adp b.fin.args.length capp, .int .i64 b.fin.els, .slice adq b.fin.elses.length capq]]) Tryd.func43 (by kernel_rfl) rfl rfl rfl (last16_ret b _ (ro := ro) (fun b hb => (hS.snap b hb).1) (hb.keep hS.alike) hok) ?_
 rintro vl w3 ⟨hvl, hbl⟩
 have hal4 := hS.alikeTo hbl (ro' := (roFrom ro w2 w3)) (fun b hb => .inl hb)
 replace hsub : ∀ b, (roFrom ro w2 w3) b → ro b ∨ w.heap.size ≤ b := fun b hb => hb.elim (hsub b) (fun h => .inr (Nat.le_trans hS.below.size h.1))
 replace halT := halT.trans hal4
 replace hb := hb.keep hal4
 replace hind : Elems (roFrom ro w2 w3) w3 6 (InstC (roFrom ro w2 w3) w3) adi b.ins := hind.keep hal4 (fun _ _ h => h.keep hal4)
 replace hin : SlV (roFrom ro w2 w3) w3 6 (InstC (roFrom ro w2 w3) w3) (.slice adi b.ins.length capi) b.ins := SlV.keep hin hal4 (fun _ _ h => h.keep hal4)
 replace hfin := hfin.keep hal4
 replace htpd : Elems (roFrom ro w2 w3) w3 1 IntC adp b.fin.args := htpd.keep hal4 (fun _ _ h => h)
 replace ht1 : SlV (roFrom ro w2 w3) w3 1 IntC (.slice adp b.fin.args.length capp) b.fin.args := SlV.keep ht1 hal4 (fun _ _ h => h)
 replace htqd : Elems (roFrom ro w2 w3) w3 1 IntC adq b.fin.elses := htqd.keep hal4 (fun _ _ h => h)
 replace ht2 : SlV (roFrom ro w2 w3) w3 1 IntC (.slice adq b.fin.elses.length capq) b.fin.elses := SlV.keep ht2 hal4 (fun _ _ h => h)
 replace hS := hS.readNew hbl
 replace hvl := SlV.keep hvl (ro' := (roFrom ro w2 w3)) (w' := w3) (Q' := IntC) (fun x hx => ⟨.inr hx, rfl⟩) (fun _ _ h => h)
 obtain ⟨adl, capl, rfl, hvla, hvlb, hvlc, hvld⟩ := id hvl
 have hvlm : (last16 b).length ≤ 9223372036854775807 := by have h1 := hvla; have h2 := hvlb; unfold maxLen at h2; omega
 have hll := last16_length b
 refine WL.assign rfl rfl rfl ?_
 refine WL.nil ?_
 refine N.seq ?_
 refine W.seq ?_
 refine W.region ?_
 refine WL.makeMap rfl rfl hS ?_
 clear hS; intro w6 b5 hS
 refine WL.alloc (tyZero_spec zer_86) rfl rfl hS ?_
 clear hS; intro w8 b7 hb_b7 hS
 refine WL.store (cs := [.map (some b5)]) (c' := #[.map (some b5)]) (L' := [(b7, .cells #[.map (some b5)] 86 (0, 0)), (b5, .map #[] 0), (b1, .cells #[.int .i64 b.params, .slice adi b.ins.length capi, .int .i64 b.fin.kind, .int .i64 b.fin.a, .int .i64 b.fin.to, .slice adp b.fin.args.length capp, .int .i64 b.fin.els, .slice adq b.fin.elses.length capq] 59 (0, 0))]) 0 rfl rfl rfl rfl siz_86 rfl rfl rfl rfl rfl hS ?_
 clear hS; intro w9 hS
 refine WL.nil ?_
 refine N.seq ?_
 refine W.seq ?_
 refine W.region ?_
 refine WL.move rfl rfl rfl ?_
 refine WL.lenSlice Tryd.underlying55 rfl rfl rfl ?_
 refine WL.makeSliceL (m := (last16 b).length) (f := kI) (z := (0 : Int)) 8 Tryd.underlying55 (tyZero_spec zer_3) byt_3 rfl rfl rfl rfl hS (by unfold maxLen; omega) (by omega) ?_
 clear hS; intro w11 b10 hS
 refine WL.assign rfl rfl rfl ?_
 refine WL.nil ?_
 refine N.seq ?_
 refine W.seq ?_
 refine W.region ?_
 refine WL.makeFunc (vs := #[.pointer (some ⟨b7, 0, none⟩)]) rfl rfl rfl ?_
 refine WL.assign rfl rfl rfl ?_
 refine WL.nil ?_
 refine N.seq ?_
 refine W.seq ?_
 refine W.seq ?_
 refine W.region ?_
 refine WL.move rfl rfl rfl ?_
 refine WL.lenSlice Tryd.underlying55 rfl rfl rfl ?_
 refine WL.move rfl rfl rfl ?_
 refine WL.nil ?_
 refine N.seq ?_
 refine W.block ?_
 replace hS : St w w3 w11 (roFrom ro w2 w3) [(b7, .cells #[.map (some b5)] 86 (0, 0)), (b5, .map #[] 0), (b10, arrO kI 3 (List.replicate ((last16 b).length) (0 : Int))), (b1, .cells #[.int .i64 b.params, .slice adi b.ins.length capi, .int .i64 b.fin.kind, .int .i64 b.fin.a, .int .i64 b.fin.to, .slice adp b.fin.args.length capp, .int .i64 b.fin.els, .slice adq b.fin.elses.length capq] 59 (0, 0))] [] := hS.perm (List.perm_middle (l₁ := [(b7, .cells #[.map (some b5)] 86 (0, 0)), (b5, .map #[] 0)]) (a := (b10, arrO kI 3 (List.replicate ((last16 b).length) (0 : Int)))) (l₂ := [(b1, .cells #[.int .i64 b.params, .slice adi b.ins.length capi, .int .i64 b.fin.kind, .int .i64 b.fin.a, .int .i64 b.fin.to, .slice adp b.fin.args.length capp, .int .i64 b.fin.els, .slice adq b.fin.elses.length capq] 59 (0, 0))])).symm
 refine W.loop (α := Nat × Array MapEntry × Nat) (fun ⟨v, es, ck⟩ => [(0, .agg #[.int .i64 b.params, .slice adi b.ins.length capi, .int .i64 b.fin.kind, .int .i64 b.fin.a, .int .i64 b.fin.to, .slice adp b.fin.args.length capp, .int .i64 b.fin.els, .slice adq b.fin.elses.length capq]), (1, .pointer (some ⟨b1, 0, none⟩)), (2, .slice none 0 0), (3, .slice adl ((last16 b).length) capl), (4, .pointer (some ⟨b7, 0, none⟩)), (5, .slice (some ⟨b10, 0, none⟩) ((last16 b).length) ((last16 b).length)), (6, .func (.func 44) #[] #[.pointer (some ⟨b7, 0, none⟩)]), (11, .agg #[.int .i64 b.params, .slice adi b.ins.length capi, .int .i64 b.fin.kind, .int .i64 b.fin.a, .int .i64 b.fin.to, .slice adp b.fin.args.length capp, .int .i64 b.fin.els, .slice adq b.fin.elses.length capq]), (12, .slice adl ((last16 b).length) capl), (13, .map (some b5)), (14, .slice adl ((last16 b).length) capl), (15, .int .i64 ((last16 b).length : Int)), (16, .slice (some ⟨b10, 0, none⟩) ((last16 b).length) ((last16 b).length)), (17, .func (.func 44) #[] #[.pointer (some ⟨b7, 0, none⟩)]), (18, .slice adl ((last16 b).length) capl), (19, .int .i64 ((last16 b).length : Int)), (20, .int .i64 (v : Int))]) (fun ⟨v, es, ck⟩ u => St w w3 u (roFrom ro w2 w3) [(b7, .cells #[.map (some b5)] 86 (0, 0)), (b5, .map es ck), (b10, arrO kI 3 ((giveAt16 b v).2 ++ List.replicate ((last16 b).length - v) 0)), (b1, .cells #[.int .i64 b.params, .slice adi b.ins.length capi, .int .i64 b.fin.kind, .int .i64 b.fin.a, .int .i64 b.fin.to, .slice adp b.fin.args.length capp, .int .i64 b.fin.els, .slice adq b.fin.elses.length capq] 59 (0, 0))] [] ∧ v ≤ (last16 b).length ∧ MapG kI kI es ck v (giveAt16 b v).1) (fun ⟨v, es, ck⟩ => (last16 b).length - v) (0, #[], 0) ⟨rfl, rfl, rfl, rfl, rfl, rfl, rfl, rfl, rfl, rfl, rfl, rfl, rfl, rfl, rfl, rfl, rfl, trivial⟩ ⟨hS, Nat.zero_le _, MapG.empty⟩ ?_
 clear hS
 rintro ⟨v, es, ck⟩ w12 ⟨hS, hv, hM⟩
 have hg := given16 hok v hv
 have hgl := hg.len
 refine W.seq ?_
 refine W.region ?_
 refine WL.bin rfl rfl rfl rfl rfl ?_
 refine WL.nil ?_
 refine N.seq ?_
 refine W.seq ?_
 refine W.cond rfl (fun hc13 => ?_) (fun hc13 => ?_)
 ·
  have hc13p : (v : Int) < ((last16 b).length : Int) := by simpa using hc13
  refine W.skip ?_
  refine N.seq ?_
  refine W.seq ?_
  refine W.block ?_
  refine W.seq ?_
  refine W.region ?_
  refine WL.move rfl rfl rfl ?_
  refine WL.assign rfl rfl rfl ?_
  refine WL.nil ?_
  refine N.seq ?_
  refine W.seq ?_
  refine W.region ?_
  refine WL.move rfl rfl rfl ?_
  refine WL.assign rfl rfl rfl ?_
  refine WL.nil ?_
  refine N.seq ?_
  refine W.seq ?_
  refine W.seq ?_
  refine W.region ?_
  refine WL.move rfl rfl rfl ?_
  refine WL.fieldAddr fo_59_0 rfl rfl rfl ?_
  refine WL.load1 (v := .int .i64 b.params) one_3 rfl rfl rfl (hS.cell 3 rfl rfl) ?_
  refine WL.bin rfl rfl rfl rfl rfl ?_
  refine WL.nil ?_
  refine N.seq ?_
  refine W.cond rfl (fun hc14 => ?_) (fun hc14 => ?_)
  ·
   have hc14p : b.params ≤ (v : Int) := by simpa using hc14
   refine W.seq ?_
   refine W.region ?_
   refine WL.move rfl rfl rfl ?_
   refine WL.move rfl rfl rfl ?_
   refine WL.fieldAddr fo_59_0 rfl rfl rfl ?_
   refine WL.load1 (v := .int .i64 b.params) one_3 rfl rfl rfl (hS.cell 3 rfl rfl) ?_
   refine WL.sub_ (c := (v : Int) - b.params) rfl rfl rfl rfl (rfl) (by omega) ?_
   refine WL.callV (vs := [.int .i64 ((v : Int) - b.params)]) (cs := #[.pointer (some ⟨b7, 0, none⟩)]) Tryd.func44 (by kernel_rfl) rfl rfl rfl rfl (free16_ret b7 b5 es ck v (giveAt16 b v).1 ((v : Int) - b.params) hS hM (fun k l h => by have := hg.out k (hg.key k l h); unfold inI; omega) (by omega)) ?_
   rintro v w15 ⟨rfl, es1, ck1, hM1, hS⟩
   obtain ⟨hf1, hf2, hf3⟩ := first16_spec (T := freeG (giveAt16 b v).1 ((v : Int) - b.params)) (n := (last16 b).length) (out := (giveAt16 b v).2) (fun k l h => hg.key k l (freeG_some h).1) (by omega)
   refine WL.nil ?_
   refine N.seq ?_
   refine W.seq ?_
   refine W.region ?_
   refine WL.assign rfl rfl rfl ?_
   refine WL.nil ?_
   refine N.seq ?_
   refine W.block ?_
   refine W.loop (α := Nat) (fun (s : Nat) => [(0, .agg #[.int .i64 b.params, .slice adi b.ins.length capi, .int .i64 b.fin.kind, .int .i64 b.fin.a, .int .i64 b.fin.to, .slice adp b.fin.args.length capp, .int .i64 b.fin.els, .slice adq b.fin.elses.length capq]), (1, .pointer (some ⟨b1, 0, none⟩)), (2, .slice none 0 0), (3, .slice adl ((last16 b).length) capl), (4, .pointer (some ⟨b7, 0, none⟩)), (5, .slice (some ⟨b10, 0, none⟩) ((last16 b).length) ((last16 b).length)), (6, .func (.func 44) #[] #[.pointer (some ⟨b7, 0, none⟩)]), (7, .int .i64 (v : Int)), (8, .int .i64 (s : Int)), (11, .agg #[.int .i64 b.params, .slice adi b.ins.length capi, .int .i64 b.fin.kind, .int .i64 b.fin.a, .int .i64 b.fin.to, .slice adp b.fin.args.length capp, .int .i64 b.fin.els, .slice adq b.fin.elses.length capq]), (12, .slice adl ((last16 b).length) capl), (13, .map (some b5)), (14, .slice adl ((last16 b).length) capl), (15, .int .i64 ((last16 b).length : Int)), (16, .slice (some ⟨b10, 0, none⟩) ((last16 b).length) ((last16 b).length)), (17, .func (.func 44) #[] #[.pointer (some ⟨b7, 0, none⟩)]), (18, .slice adl ((last16 b).length) capl), (19, .int .i64 ((last16 b).length : Int)), (20, .int .i64 (v : Int)), (21, .bool (decide ((v : Int) < ((last16 b).length : Int)))), (22, .int .i64 (v : Int)), (23, .int .i64 (v : Int)), (24, .int .i64 (v : Int)), (25, .pointer (some ⟨b1, 0, none⟩)), (26, .int .i64 b.params), (27, .bool (decide (b.params ≤ (v : Int)))), (28, .func (.func 44) #[] #[.pointer (some ⟨b7, 0, none⟩)]), (29, .int .i64 (v : Int)), (30, .pointer (some ⟨b1, 0, none⟩)), (31, .int .i64 b.params), (32, .int .i64 ((v : Int) - b.params)), (33, .tuple #[])]) (fun (s : Nat) u => St w w3 u (roFrom ro w2 w3) [(b7, .cells #[.map (some b5)] 86 (0, 0)), (b5, .map es1 ck1), (b10, arrO kI 3 ((giveAt16 b v).2 ++ List.replicate ((last16 b).length - v) 0)), (b1, .cells #[.int .i64 b.params, .slice adi b.ins.length capi, .int .i64 b.fin.kind, .int .i64 b.fin.a, .int .i64 b.fin.to, .slice adp b.fin.args.length capp, .int .i64 b.fin.els, .slice adq b.fin.elses.length capq] 59 (0, 0))] [] ∧ s ≤ first16 (freeG (giveAt16 b v).1 ((v : Int) - b.params)) (last16 b).length) (fun (s : Nat) => first16 (freeG (giveAt16 b v).1 ((v : Int) - b.params)) (last16 b).length - s) 0 ⟨rfl, rfl, rfl, rfl, rfl, rfl, rfl, rfl, rfl, rfl, rfl, rfl, rfl, rfl, rfl, rfl, rfl, rfl, rfl, rfl, rfl, rfl, rfl, rfl, rfl, rfl, rfl, rfl, rfl, rfl, rfl, rfl, trivial⟩ ⟨hS, Nat.zero_le _⟩ ?_
   clear hS
   rintro s w16 ⟨hS, hs⟩
   refine W.block ?_
   refine W.seq ?_
   refine W.seq ?_
   refine W.region ?_
   refine WL.load1 (v := .map (some b5)) one_86 rfl rfl rfl (hS.cell 0 rfl rfl) ?_
   refine WL.move rfl rfl rfl ?_
   refine WL.mapGetOk (c := ((freeG (giveAt16 b v).1 ((v : Int) - b.params)) (s : Int)).isSome) (s : Int) keyE_int Tryd.underlying86 Tryd.underlying3 zb_3 hM1 rfl rfl rfl rfl (hS.own _ (List.mem_of_getElem? (i := 1) rfl)) (v := .int .i64 (((freeG (giveAt16 b v).1 ((v : Int) - b.params)) (s : Int)).getD 0)) (by cases (freeG (giveAt16 b v).1 ((v : Int) - b.params)) (s : Int) <;> rfl) rfl ?_
   refine WL.move rfl rfl rfl ?_
   refine WL.extract (v := .int .i64 (((freeG (giveAt16 b v).1 ((v : Int) - b.params)) (s : Int)).getD 0)) rfl rfl rfl rfl ?_
   refine WL.extract (v := .bool (((freeG (giveAt16 b v).1 ((v : Int) - b.params)) (s : Int)).isSome)) rfl rfl rfl rfl ?_
   refine WL.assign rfl rfl rfl ?_
   refine WL.assign rfl rfl rfl ?_
   refine WL.nil ?_
   refine N.seq ?_
   refine W.seq ?_
   refine W.region ?_
   refine WL.move rfl rfl rfl ?_
   refine WL.not rfl rfl rfl ?_
   refine WL.nil ?_
   refine N.seq ?_
   refine W.cond rfl (fun hc17 => ?_) (fun hc17 => ?_)
   ·
    refine W.exit ?_
    refine X.seq ?_
    refine X.blk_ne rfl ?_
    refine X.loop ?_
    refine X.blk ?_
    refine N.seq ?_
    refine W.seq ?_
    refine W.region ?_
    refine WL.move rfl rfl rfl ?_
    refine WL.move rfl rfl rfl ?_
    refine WL.move rfl rfl rfl ?_
    refine WL.indexAddr (j := v) Tryd.underlying55 isz_3 rfl rfl rfl rfl (by omega) ?_
    refine WL.storeArr (v := (s : Int)) 2 rfl rfl rfl rfl siz_3 rfl rfl (by simp; omega) hS ?_
    clear hS; intro w18 hS
    refine WL.nil ?_
    refine N.seq ?_
    have hj19 : v < (last16 b).length := by omega
    obtain ⟨x19, hx19⟩ : ∃ zz, (last16 b)[v]? = some zz := ⟨_, List.getElem?_eq_getElem hj19⟩
    obtain ⟨b19, o19, cs19, hE19, hr19, hl19, hc19, hQ19⟩ := hvld v _ hx19
    obtain ⟨rfl, hi19⟩ := hQ19
    refine W.drawL (by kernel_rfl) 6 ((.q (.map (some b5))) :: (.q (.int .i64 (s : Int))) :: (.q (.slice adl ((last16 b).length) capl)) :: (.q (.int .i64 (v : Int))) :: (.q (.pointer (some ⟨b19, o19 + v * 1, none⟩))) :: (.q (.int .i64 x19)) :: []) (by kernel_rfl) (by kernel_rfl) [(0, .agg #[.int .i64 b.params, .slice adi b.ins.length capi, .int .i64 b.fin.kind, .int .i64 b.fin.a, .int .i64 b.fin.to, .slice adp b.fin.args.length capp, .int .i64 b.fin.els, .slice adq b.fin.elses.length capq]), (1, .pointer (some ⟨b1, 0, none⟩)), (2, .slice none 0 0), (3, .slice adl ((last16 b).length) capl), (4, .pointer (some ⟨b7, 0, none⟩)), (5, .slice (some ⟨b10, 0, none⟩) ((last16 b).length) ((last16 b).length)), (6, .func (.func 44) #[] #[.pointer (some ⟨b7, 0, none⟩)]), (7, .int .i64 (v : Int)), (8, .int .i64 (s : Int)), (9, .int .i64 (((freeG (giveAt16 b v).1 ((v : Int) - b.params)) (s : Int)).getD 0)), (10, .bool (((freeG (giveAt16 b v).1 ((v : Int) - b.params)) (s : Int)).isSome)), (11, .agg #[.int .i64 b.params, .slice adi b.ins.length capi, .int .i64 b.fin.kind, .int .i64 b.fin.a, .int .i64 b.fin.to, .slice adp b.fin.args.length capp, .int .i64 b.fin.els, .slice adq b.fin.elses.length capq]), (12, .slice adl ((last16 b).length) capl), (13, .map (some b5)), (14, .slice adl ((last16 b).length) capl), (15, .int .i64 ((last16 b).length : Int)), (16, .slice (some ⟨b10, 0, none⟩) ((last16 b).length) ((last16 b).length)), (17, .func (.func 44) #[] #[.pointer (some ⟨b7, 0, none⟩)]), (18, .slice adl ((last16 b).length) capl), (19, .int .i64 ((last16 b).length : Int)), (20, .int .i64 (v : Int)), (21, .bool (decide ((v : Int) < ((last16 b).length : Int)))), (22, .int .i64 (v : Int)), (23, .int .i64 (v : Int)), (24, .int .i64 (v : Int)), (25, .pointer (some ⟨b1, 0, none⟩)), (26, .int .i64 b.params), (27, .bool (decide (b.params ≤ (v : Int)))), (28, .func (.func 44) #[] #[.pointer (some ⟨b7, 0, none⟩)]), (29, .int .i64 (v : Int)), (30, .pointer (some ⟨b1, 0, none⟩)), (31, .int .i64 b.params), (32, .int .i64 ((v : Int) - b.params)), (33, .tuple #[]), (34, .tuple #[.int .i64 (((freeG (giveAt16 b v).1 ((v : Int) - b.params)) (s : Int)).getD 0), .bool (((freeG (giveAt16 b v).1 ((v : Int) - b.params)) (s : Int)).isSome)]), (35, .map (some b5)), (36, .int .i64 (s : Int)), (37, .tuple #[.int .i64 (((freeG (giveAt16 b v).1 ((v : Int) - b.params)) (s : Int)).getD 0), .bool (((freeG (giveAt16 b v).1 ((v : Int) - b.params)) (s : Int)).isSome)]), (38, .int .i64 (((freeG (giveAt16 b v).1 ((v : Int) - b.params)) (s : Int)).getD 0)), (39, .bool (((freeG (giveAt16 b v).1 ((v : Int) - b.params)) (s : Int)).isSome)), (40, .bool (((freeG (giveAt16 b v).1 ((v : Int) - b.params)) (s : Int)).isSome)), (41, .bool (!(((freeG (giveAt16 b v).1 ((v : Int) - b.params)) (s : Int)).isSome))), (44, .slice (some ⟨b10, 0, none⟩) ((last16 b).length) ((last16 b).length)), (45, .int .i64 (v : Int)), (46, .int .i64 (s : Int)), (47, .pointer (some ⟨b10, 0 + v * 1, none⟩))] ⟨rfl, rfl, rfl, rfl, rfl, rfl, rfl, rfl, rfl, rfl, rfl, rfl, rfl, rfl, rfl, rfl, rfl, rfl, rfl, rfl, rfl, rfl, rfl, rfl, rfl, rfl, rfl, rfl, rfl, rfl, rfl, rfl, rfl, rfl, rfl, rfl, rfl, rfl, rfl, rfl, rfl, rfl, rfl, rfl, rfl, rfl, trivial⟩ (by kernel_rfl) hS ?_ ?_
    ·
     refine And.intro (fun β w hS => ?_) ?_
     ·
      refine WL.sub (σ' := [(4, .pointer (some ⟨b7, 0, none⟩))]) ⟨rfl, trivial⟩ ?_
      refine WL.load1 (v := .map (some b5)) one_86 rfl rfl rfl (hS.cell 0 rfl rfl) ?_
      exact WL.nil (N.cut () ⟨rfl, trivial⟩ (Below.refl _ _))
     refine And.intro (fun β w hS => ?_) ?_
     ·
      refine WL.sub (σ' := [(8, .int .i64 (s : Int))]) ⟨rfl, trivial⟩ ?_
      refine WL.move rfl rfl rfl ?_
      exact WL.nil (N.cut () ⟨rfl, trivial⟩ (Below.refl _ _))
     refine And.intro (fun β w hS => ?_) ?_
     ·
      refine WL.sub (σ' := [(3, .slice adl ((last16 b).length) capl)]) ⟨rfl, trivial⟩ ?_
      refine WL.move rfl rfl rfl ?_
      exact WL.nil (N.cut () ⟨rfl, trivial⟩ (Below.refl _ _))
     refine And.intro (fun β w hS => ?_) ?_
     ·
      refine WL.sub (σ' := [(7, .int .i64 (v : Int))]) ⟨rfl, trivial⟩ ?_
      refine WL.move rfl rfl rfl ?_
      exact WL.nil (N.cut () ⟨rfl, trivial⟩ (Below.refl _ _))
     refine And.intro (fun β w hS => ?_) ?_
     ·
      refine WL.sub (σ' := [(50, .slice adl ((last16 b).length) capl), (51, .int .i64 (v : Int))]) ⟨rfl, rfl, trivial⟩ ?_
      refine WL.indexAddrE (j := v) Tryd.underlying55 isz_3 rfl rfl rfl rfl hj19 hE19 ?_
      exact WL.nil (N.cut () ⟨rfl, trivial⟩ (Below.refl _ _))
     refine And.intro (fun β w hS => ?_) ?_
     ·
      refine WL.sub (σ' := [(52, .pointer (some ⟨b19, o19 + v * 1, none⟩))]) ⟨rfl, trivial⟩ ?_
      refine WL.load1 (v := .int .i64 x19) one_3 rfl rfl rfl (hS.roCells hr19 hc19 0 _ rfl) ?_
      exact WL.nil (N.cut () ⟨rfl, trivial⟩ (Below.refl _ _))
     trivial
    clear hS; intro w20 β hS
    refine WL.sub (σ' := [(0, .agg #[.int .i64 b.params, .slice adi b.ins.length capi, .int .i64 b.fin.kind, .int .i64 b.fin.a, .int .i64 b.fin.to, .slice adp b.fin.args.length capp, .int .i64 b.fin.els, .slice adq b.fin.elses.length capq]), (1, .pointer (some ⟨b1, 0, none⟩)), (2, .slice none 0 0), (3, .slice adl ((last16 b).length) capl), (4, .pointer (some ⟨b7, 0, none⟩)), (5, .slice (some ⟨b10, 0, none⟩) ((last16 b).length) ((last16 b).length)), (6, .func (.func 44) #[] #[.pointer (some ⟨b7, 0, none⟩)]), (7, .int .i64 (v : Int)), (8, .int .i64 (s : Int)), (9, .int .i64 (((freeG (giveAt16 b v).1 ((v : Int) - b.params)) (s : Int)).getD 0)), (10, .bool (((freeG (giveAt16 b v).1 ((v : Int) - b.params)) (s : Int)).isSome)), (11, .agg #[.int .i64 b.params, .slice adi b.ins.length capi, .int .i64 b.fin.kind, .int .i64 b.fin.a, .int .i64 b.fin.to, .slice adp b.fin.args.length capp, .int .i64 b.fin.els, .slice adq b.fin.elses.length capq]), (12, .slice adl ((last16 b).length) capl), (13, .map (some b5)), (14, .slice adl ((last16 b).length) capl), (15, .int .i64 ((last16 b).length : Int)), (16, .slice (some ⟨b10, 0, none⟩) ((last16 b).length) ((last16 b).length)), (17, .func (.func 44) #[] #[.pointer (some ⟨b7, 0, none⟩)]), (18, .slice adl ((last16 b).length) capl), (19, .int .i64 ((last16 b).length : Int)), (20, .int .i64 (v : Int)), (21, .bool (decide ((v : Int) < ((last16 b).length : Int)))), (22, .int .i64 (v : Int)), (23, .int .i64 (v : Int)), (24, .int .i64 (v : Int)), (25, .pointer (some ⟨b1, 0, none⟩)), (26, .int .i64 b.params), (27, .bool (decide (b.params ≤ (v : Int)))), (28, .func (.func 44) #[] #[.pointer (some ⟨b7, 0, none⟩)]), (29, .int .i64 (v : Int)), (30, .pointer (some ⟨b1, 0, none⟩)), (31, .int .i64 b.params), (32, .int .i64 ((v : Int) - b.params)), (33, .tuple #[]), (34, .tuple #[.int .i64 (((freeG (giveAt16 b v).1 ((v : Int) - b.params)) (s : Int)).getD 0), .bool (((freeG (giveAt16 b v).1 ((v : Int) - b.params)) (s : Int)).isSome)]), (35, .map (some b5)), (36, .int .i64 (s : Int)), (37, .tuple #[.int .i64 (((freeG (giveAt16 b v).1 ((v : Int) - b.params)) (s : Int)).getD 0), .bool (((freeG (giveAt16 b v).1 ((v : Int) - b.params)) (s : Int)).isSome)]), (38, .int .i64 (((freeG (giveAt16 b v).1 ((v : Int) - b.params)) (s : Int)).getD 0)), (39, .bool (((freeG (giveAt16 b v).1 ((v : Int) - b.params)) (s : Int)).isSome)), (40, .bool (((freeG (giveAt16 b v).1 ((v : Int) - b.params)) (s : Int)).isSome)), (41, .bool (!(((freeG (giveAt16 b v).1 ((v : Int) - b.params)) (s : Int)).isSome))), (44, .slice (some ⟨b10, 0, none⟩) ((last16 b).length) ((last16 b).length)), (45, .int .i64 (v : Int)), (46, .int .i64 (s : Int)), (47, .pointer (some ⟨b10, 0 + v * 1, none⟩)), (48, .map (some b5)), (49, .int .i64 (s : Int)), (50, .slice adl ((last16 b).length) capl), (51, .int .i64 (v : Int)), (52, .pointer (some ⟨b19, o19 + v * 1, none⟩)), (53, .int .i64 x19)]) ⟨rfl, rfl, rfl, rfl, rfl, rfl, rfl, rfl, rfl, rfl, rfl, rfl, rfl, rfl, rfl, rfl, rfl, rfl, rfl, rfl, rfl, rfl, rfl, rfl, rfl, rfl, rfl, rfl, rfl, rfl, rfl, rfl, rfl, rfl, rfl, rfl, rfl, rfl, rfl, rfl, rfl, rfl, rfl, rfl, rfl, rfl, rfl, rfl, rfl, rfl, rfl, rfl, trivial⟩ ?_
    refine WL.mapPut 1 (s : Int) x19 keyE_int Tryd.underlying86 Tryd.underlying3 hM1 rfl rfl rfl rfl rfl hS ?_
    clear hS; intro w22 es21 ck21 hM21 hS
    refine WL.nil ?_
    refine N.blk ?_
    refine N.seq ?_
    refine W.region ?_
    refine WL.add (c := (v : Int) + 1) rfl rfl rfl rfl (rfl) (by omega) ?_
    refine WL.move rfl rfl rfl ?_
    refine WL.nil ?_
    have hgd : (last16 b).getD v 0 = x19 := by rw [List.getD_eq_getElem?_getD, hx19]; rfl
    have hsf : s = first16 (freeG (giveAt16 b v).1 ((v : Int) - b.params)) (last16 b).length := by rcases Nat.lt_or_eq_of_le hs with h | h; exact absurd (hf3 s h) (by simpa using hc17); exact h
    have hst : giveAt16 b (v + 1) = (updG (freeG (giveAt16 b v).1 ((v : Int) - b.params)) (s : Int) x19, (giveAt16 b v).2 ++ [(s : Int)]) := by rw [giveAt16_succ]; unfold giveStep16; rw [if_neg (by omega), hgd, ← hsf]
    have hos : ((giveAt16 b v).2 ++ List.replicate ((last16 b).length - v) 0).set v (s : Int) = (giveAt16 b (v + 1)).2 ++ List.replicate ((last16 b).length - (v + 1)) 0 := by have h := outSet (l := (giveAt16 b v).2) (n := (last16 b).length) (x := (s : Int)) (by rw [hg.len]; omega); rw [hg.len] at h; rw [h, hst]
    rw [hos] at hS
    exact N.loop (v + 1, es21, ck21) ⟨rfl, rfl, rfl, rfl, rfl, rfl, rfl, rfl, rfl, rfl, rfl, rfl, rfl, rfl, rfl, rfl, rfl, trivial⟩ ⟨hS, by omega, by rw [hst]; exact hM21⟩ (by first | omega | (simp only; omega))
   refine W.skip ?_
   refine N.seq ?_
   refine W.region ?_
   refine WL.move rfl rfl rfl ?_
   refine WL.add (c := (s : Int) + 1) rfl rfl rfl rfl (rfl) (by omega) ?_
   refine WL.assign rfl rfl rfl ?_
   refine WL.nil ?_
   refine N.blk ?_
   have hne : s ≠ first16 (freeG (giveAt16 b v).1 ((v : Int) - b.params)) (last16 b).length := by intro e; have h2 := hc17; rw [e, hf1] at h2; simp at h2
   exact N.loop (s + 1) ⟨rfl, rfl, rfl, rfl, rfl, rfl, rfl, rfl, rfl, rfl, rfl, rfl, rfl, rfl, rfl, rfl, rfl, rfl, rfl, rfl, rfl, rfl, rfl, rfl, rfl, rfl, rfl, rfl, rfl, rfl, rfl, rfl, trivial⟩ ⟨hS, by omega⟩ (by first | omega | (simp only; omega))
  have hc14p : ¬ (b.params ≤ (v : Int)) := by simpa using hc14
  refine W.skip ?_
  refine N.seq ?_
  refine W.seq ?_
  refine W.region ?_
  refine WL.move rfl rfl rfl ?_
  refine WL.move rfl rfl rfl ?_
  refine WL.move rfl rfl rfl ?_
  refine WL.indexAddr (j := v) Tryd.underlying55 isz_3 rfl rfl rfl rfl (by omega) ?_
  refine WL.storeArr (v := (v : Int)) 2 rfl rfl rfl rfl siz_3 rfl rfl (by simp; omega) hS ?_
  clear hS; intro w23 hS
  refine WL.nil ?_
  refine N.seq ?_
  have hj24 : v < (last16 b).length := by omega
  obtain ⟨x24, hx24⟩ : ∃ zz, (last16 b)[v]? = some zz := ⟨_, List.getElem?_eq_getElem hj24⟩
  obtain ⟨b24, o24, cs24, hE24, hr24, hl24, hc24, hQ24⟩ := hvld v _ hx24
  obtain ⟨rfl, hi24⟩ := hQ24
  refine W.drawL (by kernel_rfl) 6 ((.q (.map (some b5))) :: (.q (.int .i64 (v : Int))) :: (.q (.slice adl ((last16 b).length) capl)) :: (.q (.int .i64 (v : Int))) :: (.q (.pointer (some ⟨b24, o24 + v * 1, none⟩))) :: (.q (.int .i64 x24)) :: []) (by kernel_rfl) (by kernel_rfl) [(0, .agg #[.int .i64 b.params, .slice adi b.ins.length capi, .int .i64 b.fin.kind, .int .i64 b.fin.a, .int .i64 b.fin.to, .slice adp b.fin.args.length capp, .int .i64 b.fin.els, .slice adq b.fin.elses.length capq]), (1, .pointer (some ⟨b1, 0, none⟩)), (2, .slice none 0 0), (3, .slice adl ((last16 b).length) capl), (4, .pointer (some ⟨b7, 0, none⟩)), (5, .slice (some ⟨b10, 0, none⟩) ((last16 b).length) ((last16 b).length)), (6, .func (.func 44) #[] #[.pointer (some ⟨b7, 0, none⟩)]), (7, .int .i64 (v : Int)), (8, .int .i64 (v : Int)), (11, .agg #[.int .i64 b.params, .slice adi b.ins.length capi, .int .i64 b.fin.kind, .int .i64 b.fin.a, .int .i64 b.fin.to, .slice adp b.fin.args.length capp, .int .i64 b.fin.els, .slice adq b.fin.elses.length capq]), (12, .slice adl ((last16 b).length) capl), (13, .map (some b5)), (14, .slice adl ((last16 b).length) capl), (15, .int .i64 ((last16 b).length : Int)), (16, .slice (some ⟨b10, 0, none⟩) ((last16 b).length) ((last16 b).length)), (17, .func (.func 44) #[] #[.pointer (some ⟨b7, 0, none⟩)]), (18, .slice adl ((last16 b).length) capl), (19, .int .i64 ((last16 b).length : Int)), (20, .int .i64 (v : Int)), (21, .bool (decide ((v : Int) < ((last16 b).length : Int)))), (22, .int .i64 (v : Int)), (23, .int .i64 (v : Int)), (24, .int .i64 (v : Int)), (25, .pointer (some ⟨b1, 0, none⟩)), (26, .int .i64 b.params), (27, .bool (decide (b.params ≤ (v : Int)))), (44, .slice (some ⟨b10, 0, none⟩) ((last16 b).length) ((last16 b).length)), (45, .int .i64 (v : Int)), (46, .int .i64 (v : Int)), (47, .pointer (some ⟨b10, 0 + v * 1, none⟩))] ⟨rfl, rfl, rfl, rfl, rfl, rfl, rfl, rfl, rfl, rfl, rfl, rfl, rfl, rfl, rfl, rfl, rfl, rfl, rfl, rfl, rfl, rfl, rfl, rfl, rfl, rfl, rfl, rfl, rfl, rfl, trivial⟩ (by kernel_rfl) hS ?_ ?_
  ·
   refine And.intro (fun β w hS => ?_) ?_
   ·
    refine WL.sub (σ' := [(4, .pointer (some ⟨b7, 0, none⟩))]) ⟨rfl, trivial⟩ ?_
    refine WL.load1 (v := .map (some b5)) one_86 rfl rfl rfl (hS.cell 0 rfl rfl) ?_
    exact WL.nil (N.cut () ⟨rfl, trivial⟩ (Below.refl _ _))
   refine And.intro (fun β w hS => ?_) ?_
   ·
    refine WL.sub (σ' := [(8, .int .i64 (v : Int))]) ⟨rfl, trivial⟩ ?_
    refine WL.move rfl rfl rfl ?_
    exact WL.nil (N.cut () ⟨rfl, trivial⟩ (Below.refl _ _))
   refine And.intro (fun β w hS => ?_) ?_
   ·
    refine WL.sub (σ' := [(3, .slice adl ((last16 b).length) capl)]) ⟨rfl, trivial⟩ ?_
    refine WL.move rfl rfl rfl ?_
    exact WL.nil (N.cut () ⟨rfl, trivial⟩ (Below.refl _ _))
   refine And.intro (fun β w hS => ?_) ?_
   ·
    refine WL.sub (σ' := [(7, .int .i64 (v : Int))]) ⟨rfl, trivial⟩ ?_
    refine WL.move rfl rfl rfl ?_
    exact WL.nil (N.cut () ⟨rfl, trivial⟩ (Below.refl _ _))
   refine And.intro (fun β w hS => ?_) ?_
   ·
    refine WL.sub (σ' := [(50, .slice adl ((last16 b).length) capl), (51, .int .i64 (v : Int))]) ⟨rfl, rfl, trivial⟩ ?_
    refine WL.indexAddrE (j := v) Tryd.underlying55 isz_3 rfl rfl rfl rfl hj24 hE24 ?_
    exact WL.nil (N.cut () ⟨rfl, trivial⟩ (Below.refl _ _))
   refine And.intro (fun β w hS => ?_) ?_
   ·
    refine WL.sub (σ' := [(52, .pointer (some ⟨b24, o24 + v * 1, none⟩))]) ⟨rfl, trivial⟩ ?_
    refine WL.load1 (v := .int .i64 x24) one_3 rfl rfl rfl (hS.roCells hr24 hc24 0 _ rfl) ?_
    exact WL.nil (N.cut () ⟨rfl, trivial⟩ (Below.refl _ _))
   trivial
  clear hS; intro w25 β hS
  refine WL.sub (σ' := [(0, .agg #[.int .i64 b.params, .slice adi b.ins.length capi, .int .i64 b.fin.kind, .int .i64 b.fin.a, .int .i64 b.fin.to, .slice adp b.fin.args.length capp, .int .i64 b.fin.els, .slice adq b.fin.elses.length capq]), (1, .pointer (some ⟨b1, 0, none⟩)), (2, .slice none 0 0), (3, .slice adl ((last16 b).length) capl), (4, .pointer (some ⟨b7, 0, none⟩)), (5, .slice (some ⟨b10, 0, none⟩) ((last16 b).length) ((last16 b).length)), (6, .func (.func 44) #[] #[.pointer (some ⟨b7, 0, none⟩)]), (7, .int .i64 (v : Int)), (8, .int .i64 (v : Int)), (11, .agg #[.int .i64 b.params, .slice adi b.ins.length capi, .int .i64 b.fin.kind, .int .i64 b.fin.a, .int .i64 b.fin.to, .slice adp b.fin.args.length capp, .int .i64 b.fin.els, .slice adq b.fin.elses.length capq]), (12, .slice adl ((last16 b).length) capl), (13, .map (some b5)), (14, .slice adl ((last16 b).length) capl), (15, .int .i64 ((last16 b).length : Int)), (16, .slice (some ⟨b10, 0, none⟩) ((last16 b).length) ((last16 b).length)), (17, .func (.func 44) #[] #[.pointer (some ⟨b7, 0, none⟩)]), (18, .slice adl ((last16 b).length) capl), (19, .int .i64 ((last16 b).length : Int)), (20, .int .i64 (v : Int)), (21, .bool (decide ((v : Int) < ((last16 b).length : Int)))), (22, .int .i64 (v : Int)), (23, .int .i64 (v : Int)), (24, .int .i64 (v : Int)), (25, .pointer (some ⟨b1, 0, none⟩)), (26, .int .i64 b.params), (27, .bool (decide (b.params ≤ (v : Int)))), (44, .slice (some ⟨b10, 0, none⟩) ((last16 b).length) ((last16 b).length)), (45, .int .i64 (v : Int)), (46, .int .i64 (v : Int)), (47, .pointer (some ⟨b10, 0 + v * 1, none⟩)), (48, .map (some b5)), (49, .int .i64 (v : Int)), (50, .slice adl ((last16 b).length) capl), (51, .int .i64 (v : Int)), (52, .pointer (some ⟨b24, o24 + v * 1, none⟩)), (53, .int .i64 x24)]) ⟨rfl, rfl, rfl, rfl, rfl, rfl, rfl, rfl, rfl, rfl, rfl, rfl, rfl, rfl, rfl, rfl, rfl, rfl, rfl, rfl, rfl, rfl, rfl, rfl, rfl, rfl, rfl, rfl, rfl, rfl, rfl, rfl, rfl, rfl, rfl, rfl, trivial⟩ ?_
  refine WL.mapPut 1 (v : Int) x24 keyE_int Tryd.underlying86 Tryd.underlying3 hM rfl rfl rfl rfl rfl hS ?_
  clear hS; intro w27 es26 ck26 hM26 hS
  refine WL.nil ?_
  refine N.blk ?_
  refine N.seq ?_
  refine W.region ?_
  refine WL.add (c := (v : Int) + 1) rfl rfl rfl rfl (rfl) (by omega) ?_
  refine WL.move rfl rfl rfl ?_
  refine WL.nil ?_
  have hgd : (last16 b).getD v 0 = x24 := by rw [List.getD_eq_getElem?_getD, hx24]; rfl
  have hst : giveAt16 b (v + 1) = (updG (giveAt16 b v).1 (v : Int) x24, (giveAt16 b v).2 ++ [(v : Int)]) := by rw [giveAt16_succ]; unfold giveStep16; rw [if_pos (by omega), hgd]
  have hos : ((giveAt16 b v).2 ++ List.replicate ((last16 b).length - v) 0).set v (v : Int) = (giveAt16 b (v + 1)).2 ++ List.replicate ((last16 b).length - (v + 1)) 0 := by have h := outSet (l := (giveAt16 b v).2) (n := (last16 b).length) (x := (v : Int)) (by rw [hg.len]; omega); rw [hg.len] at h; rw [h, hst]
  rw [hos] at hS
  exact N.loop (v + 1, es26, ck26) ⟨rfl, rfl, rfl, rfl, rfl, rfl, rfl, rfl, rfl, rfl, rfl, rfl, rfl, rfl, rfl, rfl, rfl, trivial⟩ ⟨hS, by omega, by rw [hst]; exact hM26⟩ (by first | omega | (simp only; omega))
 have hc13p : ¬ ((v : Int) < ((last16 b).length : Int)) := by simpa using hc13
 refine W.exit ?_
 refine X.seq ?_
 refine X.loop ?_
 refine X.blk ?_
 refine N.seq ?_
 refine W.seq ?_
 refine W.region ?_
 refine WL.move rfl rfl rfl ?_
 refine WL.assign rfl rfl rfl ?_
 refine WL.nil ?_
 refine N.seq ?_
 refine Fin.ret1 rfl (v := .slice (some ⟨b10, 0, none⟩) ((last16 b).length) ((last16 b).length)) rfl ?_
 have e : v = (last16 b).length := by omega
 have hu : (giveAt16 b v).2 ++ List.replicate ((last16 b).length - v) 0 = give16 b := by rw [e, Nat.sub_self]; simp [give16]
 rw [hu] at hS
 exact ⟨arr_row (hS.dropN 2) (by rw [give16_length hok]; unfold maxLen; omega) (by rw [give16_length hok, hll]) rfl (fun x hx => ⟨rfl, by rw [← hu, e, Nat.sub_self] at hx; have := hg.out x (by rw [e]; simpa using hx); unfold inI; omega⟩) ((hS.keys b10 (by simp [keysOf])).imp id (·.1)), hS.below⟩

end Go.Proofs.YtcmmhfknkldmcaaDoor

namespace Go.Proofs.YtcmmhfknkldmcaaDoor
open Go.RowKit

theorem use16_get {us : List Int} {step : Int} {l : List Int} {v : Nat} (hv : v < us.length) (hl : ∀ x ∈ l, 0 ≤ x) : (use16 us step l)[v]? = if (v : Int) ∈ l then some step else us[v]? := by
  induction l using snoc_ind with
  | h0 => simp [use16]
  | h1 l x ih =>
    have ih := ih fun y hy => hl y (List.mem_append_left _ hy)
    have hx := hl x (by simp)
    rw [use16_snoc, List.getElem?_set, use16_length]
    by_cases e : x.toNat = v
    · rw [if_pos e, if_pos (show x.toNat < us.length by omega), if_pos (by simp; right; omega)]
    · rw [if_neg e, ih]
      have : ((v : Int) ∈ l ++ [x]) ↔ (v : Int) ∈ l := by simp; omega
      by_cases h : (v : Int) ∈ l
      · rw [if_pos h, if_pos (this.2 h)]
      · rw [if_neg h, if_neg (fun h' => h (this.1 h'))]
def given16i (b : DBlock) (v : Int) : Int := if v < b.params then -1 else v - b.params
def rlIns : Nat → Int → Int → List DInst → Int
  | _, _, acc, [] => acc
  | i, v, acc, x :: r => rlIns (i + 1) v (if v ∈ uses5 x then (i : Int) else acc) r
theorem rlIns_snoc : ∀ (l : List DInst) (i : Nat) (v acc : Int) (x : DInst), rlIns i v acc (l ++ [x]) = if v ∈ uses5 x then ((i + l.length : Nat) : Int) else rlIns i v acc l
  | [], i, v, acc, x => by simp [rlIns]
  | y :: r, i, v, acc, x => by
    rw [List.cons_append, rlIns, rlIns_snoc r (i + 1) v _ x, rlIns, List.length_cons, show i + 1 + r.length = i + (r.length + 1) by omega]
def rl16 (b : DBlock) (v : Nat) : Int := if ((v : Int) ∈ b.fin.args ∨ (v : Int) ∈ b.fin.elses) ∨ (b.fin.kind ≠ 1 ∧ b.fin.a = (v : Int)) then (b.ins.length : Int) else rlIns 0 v (given16i b v) b.ins
theorem useIns16_get {v : Nat} : ∀ (l : List DInst) (i : Nat) (us : List Int) (acc : Int), v < us.length → us[v]? = some acc → (∀ x ∈ l, ∀ y ∈ uses5 x, 0 ≤ y) → (useIns16 i us l)[v]? = some (rlIns i v acc l)
  | [], _, _, _, _, h, _ => h
  | x :: r, i, us, acc, hv, h, hl => by
    rw [useIns16, rlIns]
    refine useIns16_get r (i + 1) _ _ (by rw [use16_length]; exact hv) ?_ fun y hy => hl y (List.mem_cons_of_mem _ hy)
    rw [use16_get hv (hl x List.mem_cons_self)]
    split
    · rfl
    · exact h
theorem last16_get {b : DBlock} (hok : Ok16 b) {v : Nat} (hv : v < b.params.toNat + b.ins.length) : (last16 b)[v]? = some (rl16 b v) := by
  have h0 : (base16 b)[v]? = some (given16i b v) := by
    unfold base16
    rw [List.getElem?_map, List.getElem?_range hv]
    have := hok.p0
    simp only [Option.map_some, ini16, given16i, Option.some.injEq]
    split <;> split <;> omega
  have h1 := useIns16_get b.ins 0 (base16 b) _ (by rw [base16_length]; exact hv) h0 fun x hx y hy => (hok.uses x hx y hy).1
  have h2 := use16_get (us := useIns16 0 (base16 b) b.ins) (step := b.ins.length) (l := b.fin.args) (v := v) (by rw [useIns16_length, base16_length]; exact hv) fun x hx => (hok.ta x hx).1
  have h3 := use16_get (us := use16 (useIns16 0 (base16 b) b.ins) b.ins.length b.fin.args) (step := b.ins.length) (l := b.fin.elses) (v := v) (by rw [use16_length, useIns16_length, base16_length]; exact hv) fun x hx => (hok.te x hx).1
  rw [h2, h1] at h3
  unfold last16 rl16; dsimp only
  by_cases hk : b.fin.kind = 1
  · rw [if_pos hk, h3]
    by_cases ha : (v : Int) ∈ b.fin.args <;> by_cases he : (v : Int) ∈ b.fin.elses <;> simp [ha, he, hk]
  · rw [if_neg hk]
    have h4 := use16_get (us := use16 (use16 (useIns16 0 (base16 b) b.ins) b.ins.length b.fin.args) b.ins.length b.fin.elses) (step := b.ins.length) (l := [b.fin.a]) (v := v) (by rw [use16_length, use16_length, useIns16_length, base16_length]; exact hv) fun x hx => by
      simp only [List.mem_cons, List.not_mem_nil, or_false] at hx; rw [hx]; exact (hok.tv hk).1
    rw [h4, h3]
    by_cases hav : b.fin.a = (v : Int)
    · simp [hav, hk]
    · have hav' : ¬ (v : Int) = b.fin.a := fun e => hav e.symm
      by_cases ha : (v : Int) ∈ b.fin.args <;> by_cases he : (v : Int) ∈ b.fin.elses <;> simp [ha, he, hav, hav']
theorem rlast16_eq {b : DBlock} (hok : Ok16 b) : (List.range (b.params.toNat + b.ins.length)).map (rl16 b) = last16 b := by
  apply List.ext_getElem?
  intro v
  by_cases hv : v < b.params.toNat + b.ins.length
  · rw [last16_get hok hv, List.getElem?_map, List.getElem?_range hv]; rfl
  · rw [List.getElem?_eq_none (by simpa using hv), List.getElem?_eq_none (by rw [last16_length]; omega)]

theorem has16_ret (xs : List Int) (vx : Value) (n : Int) {w : World} {ro : Nat → Prop} (hro : ∀ b, ro b → b < w.heap.size) (hx : SlV ro w 1 IntC vx xs) : Ret Tryd.prog 75 #[vx, .int .i64 n] w fun v w' => v = .bool (decide (n ∈ xs)) ∧ Below w.heap.size w w' := by
 obtain ⟨ad, cap, rfl, haa, hab, hac, had⟩ := id hx
 have ham : xs.length ≤ 9223372036854775807 := by have h1 := haa; have h2 := hab; unfold maxLen at h2; omega
 refine Ret.enter (P := Tryd.prog) (n := 18) (args := [.slice ad xs.length cap, .int .i64 n]) (σ := [(0, .slice ad xs.length cap), (1, .int .i64 n)]) Tryd.func75 rfl rfl rfl rfl ?_
 have hS := St.start (ro := ro) hro
 refine W.seq ?_
 refine W.region ?_
 refine WL.assign rfl rfl rfl ?_
 refine WL.nil ?_
 refine N.seq ?_
 refine W.seq ?_
 refine W.seq ?_
 refine W.region ?_
 refine WL.assign rfl rfl rfl ?_
 refine WL.nil ?_
 refine N.seq ?_
 refine W.block ?_
 refine W.loop (α := Nat) (fun (k : Nat) => [(0, .slice ad xs.length cap), (1, .int .i64 n), (5, .int .i64 (k : Int))]) (fun (k : Nat) u => St w w u ro [] [] ∧ k ≤ xs.length ∧ n ∉ xs.take k) (fun (k : Nat) => xs.length - k) 0 ⟨rfl, rfl, rfl, trivial⟩ ⟨hS, Nat.zero_le _, by simp⟩ ?_
 clear hS
 rintro k w1 ⟨hS, hk, htk⟩
 refine W.seq ?_
 refine W.seq ?_
 refine W.region ?_
 refine WL.move rfl rfl rfl ?_
 refine WL.move rfl rfl rfl ?_
 refine WL.lenSlice Tryd.underlying55 rfl rfl rfl ?_
 refine WL.bin rfl rfl rfl rfl rfl ?_
 refine WL.nil ?_
 refine N.seq ?_
 refine W.cond rfl (fun hc2 => ?_) (fun hc2 => ?_)
 ·
  have hc2p : (k : Int) < (xs.length : Int) := by simpa using hc2
  refine W.skip ?_
  refine N.seq ?_
  refine W.seq ?_
  refine W.block ?_
  refine W.seq ?_
  refine W.region ?_
  refine WL.move rfl rfl rfl ?_
  refine WL.move rfl rfl rfl ?_
  have hj3 : k < xs.length := by omega
  obtain ⟨x3, hx3⟩ : ∃ zz, xs[k]? = some zz := ⟨_, List.getElem?_eq_getElem hj3⟩
  obtain ⟨b3, o3, cs3, hE3, hr3, hl3, hc3, hQ3⟩ := had k _ hx3
  obtain ⟨rfl, hi3⟩ := hQ3
  refine WL.indexAddrE (j := k) Tryd.underlying55 isz_3 rfl rfl rfl rfl hj3 hE3 ?_
  refine WL.load1 (v := .int .i64 x3) one_3 rfl rfl rfl (hS.roCells hr3 hc3 0 _ rfl) ?_
  refine WL.move rfl rfl rfl ?_
  refine WL.bin rfl rfl rfl rfl rfl ?_
  refine WL.nil ?_
  refine N.seq ?_
  refine W.cond rfl (fun hc4 => ?_) (fun hc4 => ?_)
  ·
   have hc4p : x3 = n := by simpa using hc4
   refine W.seq ?_
   refine W.region ?_
   refine WL.assign rfl rfl rfl ?_
   refine WL.nil ?_
   refine N.seq ?_
   refine Fin.ret1 rfl (v := .bool true) rfl ?_
   have e : n ∈ xs := by have := List.mem_of_getElem? hx3; rw [hc4p] at this; exact this
   exact ⟨by rw [decide_eq_true e], hS.below⟩
  have hc4p : ¬ (x3 = n) := by simpa using hc4
  refine W.skip ?_
  refine N.blk ?_
  refine N.seq ?_
  refine W.region ?_
  refine WL.move rfl rfl rfl ?_
  refine WL.add (c := (k : Int) + 1) rfl rfl rfl rfl (rfl) (by omega) ?_
  refine WL.assign rfl rfl rfl ?_
  refine WL.nil ?_
  have htk2 : n ∉ xs.take (k + 1) := by rw [take_next hx3]; simp only [List.mem_append, List.mem_cons, List.not_mem_nil, or_false]; exact fun h => h.elim htk (fun e => hc4p e.symm)
  exact N.loop (k + 1) ⟨rfl, rfl, rfl, trivial⟩ ⟨hS, by omega, htk2⟩ (by first | omega | (simp only; omega))
 have hc2p : ¬ ((k : Int) < (xs.length : Int)) := by simpa using hc2
 refine W.exit ?_
 refine X.seq ?_
 refine X.loop ?_
 refine X.blk ?_
 refine N.seq ?_
 refine W.seq ?_
 refine W.region ?_
 refine WL.assign rfl rfl rfl ?_
 refine WL.nil ?_
 refine N.seq ?_
 refine Fin.ret1 rfl (v := .bool false) rfl ?_
 have e : k = xs.length := by omega
 rw [e, List.take_length] at htk
 exact ⟨by rw [decide_eq_false htk], hS.below⟩

theorem given16_ret (b : DBlock) (cs : List Value) (v : Int) {w : World} {ro : Nat → Prop} (hro : ∀ b, ro b → b < w.heap.size) (hb : BlockC ro w cs b) (hp : 0 ≤ b.params ∧ b.params ≤ 1000) (hv : 0 ≤ v ∧ v ≤ 1000000) : Ret Tryd.prog 70 #[.agg cs.toArray, .int .i64 v] w fun r w' => r = .int .i64 (given16i b v) ∧ Below w.heap.size w w' := by
 obtain ⟨si, tsx, rfl, hin, hfin, hpar⟩ := id hb
 obtain ⟨adi, capi, rfl, hina, hinb, hinc, hind⟩ := id hin
 have hinm : b.ins.length ≤ 9223372036854775807 := by have h1 := hina; have h2 := hinb; unfold maxLen at h2; omega
 obtain ⟨sp, sq, rfl, ht1, ht2, htk, hta, htt, hte⟩ := id hfin
 obtain ⟨adp, capp, rfl, htpa, htpb, htpc, htpd⟩ := id ht1
 have htpm : b.fin.args.length ≤ 9223372036854775807 := by have h1 := htpa; have h2 := htpb; unfold maxLen at h2; omega
 obtain ⟨adq, capq, rfl, htqa, htqb, htqc, htqd⟩ := id ht2
 have htqm : b.fin.elses.length ≤ 9223372036854775807 := by have h1 := htqa; have h2 := htqb; unfold maxLen at h2; omega
 refine Ret.enter (P := Tryd.prog) (n := 13) (args := [.agg #[.int .i64 b.params, .slice adi b.ins.length capi, .int .i64 b.fin.kind, .int .i64 b.fin.a, .int .i64 b.fin.to, .slice adp b.fin.args.length capp, .int .i64 b.fin.els, .slice adq b.fin.elses.length capq], .int .i64 v]) (σ := [(0, .agg #[.int .i64 b.params, .slice adi b.ins.length capi, .int .i64 b.fin.kind, .int .i64 b.fin.a, .int .i64 b.fin.to, .slice adp b.fin.args.length capp, .int .i64 b.fin.els, .slice adq b.fin.elses.length capq]), (1, .int .i64 v)]) Tryd.func70 rfl rfl rfl rfl ?_
 have hS := St.start (ro := ro) hro
 refine W.seq ?_
 refine W.region ?_
 refine WL.box (v := .agg #[.int .i64 b.params, .slice adi b.ins.length capi, .int .i64 b.fin.kind, .int .i64 b.fin.a, .int .i64 b.fin.to, .slice adp b.fin.args.length capp, .int .i64 b.fin.els, .slice adq b.fin.elses.length capq]) (cs := [.int .i64 b.params, .slice adi b.ins.length capi, .int .i64 b.fin.kind, .int .i64 b.fin.a, .int .i64 b.fin.to, .slice adp b.fin.args.length capp, .int .i64 b.fin.els, .slice adq b.fin.elses.length capq]) rfl rfl rfl rfl hS ?_
 clear hS; intro w2 b1 hb_b1 hS
 refine WL.assign rfl rfl rfl ?_
 refine WL.nil ?_
 refine N.seq ?_
 refine W.seq ?_
 refine W.seq ?_
 refine W.region ?_
 refine WL.move rfl rfl rfl ?_
 refine WL.fieldAddr fo_59_0 rfl rfl rfl ?_
 refine WL.load1 (v := .int .i64 b.params) one_3 rfl rfl rfl (hS.cell 0 rfl rfl) ?_
 refine WL.bin rfl rfl rfl rfl rfl ?_
 refine WL.nil ?_
 refine N.seq ?_
 refine W.cond rfl (fun hc3 => ?_) (fun hc3 => ?_)
 ·
  have hc3p : v < b.params := by simpa using hc3
  refine W.seq ?_
  refine W.region ?_
  refine WL.assign rfl rfl rfl ?_
  refine WL.nil ?_
  refine N.seq ?_
  refine Fin.ret1 rfl (v := .int .i64 (-1)) rfl ?_
  refine ⟨?_, hS.below⟩
  unfold given16i
  rw [if_pos (by omega)]
 have hc3p : ¬ (v < b.params) := by simpa using hc3
 refine W.skip ?_
 refine N.seq ?_
 refine W.seq ?_
 refine W.region ?_
 refine WL.move rfl rfl rfl ?_
 refine WL.fieldAddr fo_59_0 rfl rfl rfl ?_
 refine WL.load1 (v := .int .i64 b.params) one_3 rfl rfl rfl (hS.cell 0 rfl rfl) ?_
 refine WL.sub_ (c := v - b.params) rfl rfl rfl rfl (rfl) (by omega) ?_
 refine WL.assign rfl rfl rfl ?_
 refine WL.nil ?_
 refine N.seq ?_
 refine Fin.ret1 rfl (v := .int .i64 (v - b.params)) rfl ?_
 refine ⟨?_, hS.below⟩
 unfold given16i
 rw [if_neg (by omega)]

set_option maxRecDepth 10000 in
set_option maxHeartbeats 2000000 in
theorem rlast16_ret (b : DBlock) (cs : List Value) {w : World} {ro : Nat → Prop} (hro : ∀ b, ro b → b < w.heap.size) (hb : BlockC ro w cs b) (hok : Ok16 b) : Ret Tryd.prog 69 #[.agg cs.toArray] w fun v w' => SlV (fun b => w.heap.size ≤ b ∧ b < w'.heap.size) w' 1 IntC v (last16 b) ∧ Below w.heap.size w w' := by
 obtain ⟨si, tsx, rfl, hin, hfin, hpar⟩ := id hb
 obtain ⟨adi, capi, rfl, hina, hinb, hinc, hind⟩ := id hin
 have hinm : b.ins.length ≤ 9223372036854775807 := by have h1 := hina; have h2 := hinb; unfold maxLen at h2; omega
 obtain ⟨sp, sq, rfl, ht1, ht2, htk, hta, htt, hte⟩ := id hfin
 obtain ⟨adp, capp, rfl, htpa, htpb, htpc, htpd⟩ := id ht1
 have htpm : b.fin.args.length ≤ 9223372036854775807 := by have h1 := htpa; have h2 := htpb; unfold maxLen at h2; omega
 obtain ⟨adq, capq, rfl, htqa, htqb, htqc, htqd⟩ := id ht2
 have htqm : b.fin.elses.length ≤ 9223372036854775807 := by have h1 := htqa; have h2 := htqb; unfold maxLen at h2; omega
 refine Ret.enter (P := Tryd.prog) (n := 73) (args := [.agg #[.int .i64 b.params, .slice adi b.ins.length capi, .int .i64 b.fin.kind, .int .i64 b.fin.a, .int .i64 b.fin.to, .slice adp b.fin.args.length capp, .int .i64 b.fin.els, .slice adq b.fin.elses.length capq]]) (σ := [(0, .agg #[.int .i64 b.params, .slice adi b.ins.length capi, .int .i64 b.fin.kind, .int .i64 b.fin.a, .int .i64 b.fin.to, .slice adp b.fin.args.length capp, .int .i64 b.fin.els, .slice adq b.fin.elses.length capq])]) Tryd.func69 rfl rfl rfl rfl ?_
 have hS := St.start (ro := ro) hro
 have hokn := hok.n; have hokp := hok.p0; have hokq := hok.p1
 refine W.seq ?_
 refine W.region ?_
 refine WL.box (v := .agg #[.int .i64 b.params, .slice adi b.ins.length capi, .int .i64 b.fin.kind, .int .i64 b.fin.a, .int .i64 b.fin.to, .slice adp b.fin.args.length capp, .int .i64 b.fin.els, .slice adq b.fin.elses.length capq]) (cs := [.int .i64 b.params, .slice adi b.ins.length capi, .int .i64 b.fin.kind, .int .i64 b.fin.a, .int .i64 b.fin.to, .slice adp b.fin.args.length capp, .int .i64 b.fin.els, .slice adq b.fin.elses.length capq]) rfl rfl rfl rfl hS ?_
 clear hS; intro w2 b1 hb_b1 hS
 refine WL.assign rfl rfl rfl ?_
 refine WL.nil ?_
 refine N.seq ?_
 refine W.seq ?_
 refine W.region ?_
 refine WL.assign rfl rfl rfl ?_
 refine WL.nil ?_
 refine N.seq ?_
 refine W.seq ?_
 refine W.seq ?_
 refine W.region ?_
 refine WL.assign rfl rfl rfl ?_
 refine WL.nil ?_
 refine N.seq ?_
 refine W.block ?_
 replace hS := hS.row0 3 1
 refine W.loop (α := Nat × Value × List Value) (fun ⟨v, va, cs⟩ => [(0, .agg #[.int .i64 b.params, .slice adi b.ins.length capi, .int .i64 b.fin.kind, .int .i64 b.fin.a, .int .i64 b.fin.to, .slice adp b.fin.args.length capp, .int .i64 b.fin.els, .slice adq b.fin.elses.length capq]), (1, .pointer (some ⟨b1, 0, none⟩)), (2, .slice none 0 0), (3, va), (4, .int .i64 (v : Int))]) (fun ⟨v, va, cs⟩ u => St w w u ro [(b1, .cells #[.int .i64 b.params, .slice adi b.ins.length capi, .int .i64 b.fin.kind, .int .i64 b.fin.a, .int .i64 b.fin.to, .slice adp b.fin.args.length capp, .int .i64 b.fin.els, .slice adq b.fin.elses.length capq] 59 (0, 0))] [⟨va, 3, 1, v, cs⟩] ∧ v ≤ b.params.toNat + b.ins.length ∧ Chunks 1 IntC cs ((List.range v).map (rl16 b))) (fun ⟨v, va, cs⟩ => b.params.toNat + b.ins.length - v) (0, (.slice none 0 0), []) ⟨rfl, rfl, rfl, rfl, rfl, trivial⟩ ⟨hS, Nat.zero_le _, Chunks.nil⟩ ?_
 clear hS
 rintro ⟨v, va, cs⟩ w3 ⟨hS, hv, hch⟩
 have hrow : w3.ownsRow w.heap.size 3 1 va (v) _ := hS.rows _ List.mem_cons_self
 obtain ⟨adva, capva, rfl, hr1va, hr2va, hr3va⟩ := row_shape hrow
 clear hrow
 refine W.seq ?_
 refine W.seq ?_
 refine W.region ?_
 refine WL.move rfl rfl rfl ?_
 refine WL.fieldAddr fo_59_0 rfl rfl rfl ?_
 refine WL.load1 (v := .int .i64 b.params) one_3 rfl rfl rfl (hS.cell 0 rfl rfl) ?_
 refine WL.fieldAddr fo_59_1 rfl rfl rfl ?_
 refine WL.load1 (v := .slice adi b.ins.length capi) one_54 rfl rfl rfl (hS.cell 0 rfl rfl) ?_
 refine WL.lenSlice Tryd.underlying54 rfl rfl rfl ?_
 refine WL.add (c := b.params + (b.ins.length : Int)) rfl rfl rfl rfl (rfl) (by omega) ?_
 refine WL.bin rfl rfl rfl rfl rfl ?_
 refine WL.nil ?_
 refine N.seq ?_
 refine W.cond rfl (fun hc4 => ?_) (fun hc4 => ?_)
 ·
  have hc4p : (v : Int) < b.params + (b.ins.length : Int) := by simpa using hc4
  refine W.skip ?_
  refine N.seq ?_
  refine W.seq ?_
  refine W.block ?_
  refine W.seq ?_
  refine W.region ?_
  refine WL.loadN (cs := [.int .i64 b.params, .slice adi b.ins.length capi, .int .i64 b.fin.kind, .int .i64 b.fin.a, .int .i64 b.fin.to, .slice adp b.fin.args.length capp, .int .i64 b.fin.els, .slice adq b.fin.elses.length capq]) agg_59 rfl rfl rfl rfl (hS.cells 0 (m := 8) rfl rfl) ?_
  refine WL.move rfl rfl rfl ?_
  refine WL.callF (vs := [.agg #[.int .i64 b.params, .slice adi b.ins.length capi, .int .i64 b.fin.kind, .int .i64 b.fin.a, .int .i64 b.fin.to, .slice adp b.fin.args.length capp, .int .i64 b.fin.els, .slice adq b.fin.elses.length capq], .int .i64 (v : Int)]) Tryd.func70 (by kernel_rfl) rfl rfl rfl (given16_ret b _ (v : Int) (ro := ro) (fun b hb => (hS.snap b hb).1) (hb.keep hS.alike) ⟨hok.p0, hok.p1⟩ (by omega)) ?_
  rintro r w5 ⟨rfl, hbl⟩
  replace hS := hS.grow hbl
  refine WL.assign rfl rfl rfl ?_
  refine WL.nil ?_
  refine N.seq ?_
  refine W.seq ?_
  refine W.seq ?_
  refine W.region ?_
  refine WL.assign rfl rfl rfl ?_
  refine WL.nil ?_
  refine N.seq ?_
  refine W.block ?_
  refine W.loop (α := Nat × Int) (fun ⟨k, acc⟩ => [(0, .agg #[.int .i64 b.params, .slice adi b.ins.length capi, .int .i64 b.fin.kind, .int .i64 b.fin.a, .int .i64 b.fin.to, .slice adp b.fin.args.length capp, .int .i64 b.fin.els, .slice adq b.fin.elses.length capq]), (1, .pointer (some ⟨b1, 0, none⟩)), (2, .slice none 0 0), (3, .slice adva v capva), (4, .int .i64 (v : Int)), (5, .int .i64 acc), (6, .int .i64 (k : Int)), (9, .int .i64 (v : Int)), (10, .pointer (some ⟨b1, 0, none⟩)), (11, .int .i64 b.params), (12, .pointer (some ⟨b1, 1, none⟩)), (13, .slice adi b.ins.length capi), (14, .int .i64 (b.ins.length : Int)), (15, .int .i64 (b.params + (b.ins.length : Int))), (16, .bool (decide ((v : Int) < b.params + (b.ins.length : Int)))), (19, .agg #[.int .i64 b.params, .slice adi b.ins.length capi, .int .i64 b.fin.kind, .int .i64 b.fin.a, .int .i64 b.fin.to, .slice adp b.fin.args.length capp, .int .i64 b.fin.els, .slice adq b.fin.elses.length capq]), (20, .int .i64 (v : Int)), (21, .int .i64 (given16i b v))]) (fun ⟨k, acc⟩ u => St w w u ro [(b1, .cells #[.int .i64 b.params, .slice adi b.ins.length capi, .int .i64 b.fin.kind, .int .i64 b.fin.a, .int .i64 b.fin.to, .slice adp b.fin.args.length capp, .int .i64 b.fin.els, .slice adq b.fin.elses.length capq] 59 (0, 0))] [⟨.slice adva v capva, 3, 1, v, cs⟩] ∧ k ≤ b.ins.length ∧ acc = rlIns 0 v (given16i b v) (b.ins.take k)) (fun ⟨k, acc⟩ => b.ins.length - k) (0, given16i b v) ⟨rfl, rfl, rfl, rfl, rfl, rfl, rfl, rfl, rfl, rfl, rfl, rfl, rfl, rfl, rfl, rfl, rfl, rfl, trivial⟩ ⟨hS, Nat.zero_le _, rfl⟩ ?_
  clear hS
  rintro ⟨k, acc⟩ w6 ⟨hS, hk, hacc⟩
  refine W.seq ?_
  refine W.seq ?_
  refine W.region ?_
  refine WL.move rfl rfl rfl ?_
  refine WL.fieldAddr fo_59_1 rfl rfl rfl ?_
  refine WL.load1 (v := .slice adi b.ins.length capi) one_54 rfl rfl rfl (hS.cell 0 rfl rfl) ?_
  refine WL.lenSlice Tryd.underlying54 rfl rfl rfl ?_
  refine WL.bin rfl rfl rfl rfl rfl ?_
  refine WL.nil ?_
  refine N.seq ?_
  refine W.cond rfl (fun hc7 => ?_) (fun hc7 => ?_)
  ·
   have hc7p : (k : Int) < (b.ins.length : Int) := by simpa using hc7
   refine W.skip ?_
   refine N.seq ?_
   refine W.seq ?_
   refine W.block ?_
   refine W.seq ?_
   refine W.region ?_
   refine WL.fieldAddr fo_59_1 rfl rfl rfl ?_
   refine WL.load1 (v := .slice adi b.ins.length capi) one_54 rfl rfl rfl (hS.cell 0 rfl rfl) ?_
   refine WL.move rfl rfl rfl ?_
   have hj8 : k < b.ins.length := by omega
   obtain ⟨x8, hx8⟩ : ∃ zz, b.ins[k]? = some zz := ⟨_, List.getElem?_eq_getElem hj8⟩
   obtain ⟨b8, o8, cs8, hE8, hr8, hl8, hc8, hQ8⟩ := hind k _ hx8
   have hQk8 := hQ8
   obtain ⟨sv8, rfl, hs8, ho8, ha8, hb8, hk8, hn8⟩ := hQ8
   obtain ⟨ad8, cap8, rfl, hs8a, hs8b, hs8c, hs8d⟩ := id hs8
   have hs8m : x8.args.length ≤ 9223372036854775807 := by have h1 := hs8a; have h2 := hs8b; unfold maxLen at h2; omega
   refine WL.indexAddrE (j := k) Tryd.underlying54 isz_69 rfl rfl rfl rfl hj8 hE8 ?_
   refine WL.loadN (cs := [.int .i64 x8.op, .int .i64 x8.a, .int .i64 x8.b, .int .u64 x8.k, .string x8.name, .slice ad8 x8.args.length cap8]) agg_69 rfl rfl rfl rfl (hS.roCells hr8 hc8) ?_
   refine WL.callF (vs := [.agg #[.int .i64 x8.op, .int .i64 x8.a, .int .i64 x8.b, .int .u64 x8.k, .string x8.name, .slice ad8 x8.args.length cap8]]) Tryd.func60 (by kernel_rfl) rfl rfl rfl (uses5_ret x8 _ (ro := ro) (fun b hb => (hS.snap b hb).1) (hQk8.keep hS.alike) (by have := hok.args _ (List.mem_of_getElem? hx8); omega)) ?_
   rintro vu w9 ⟨hus, hbl⟩
   replace hS := hS.grow hbl
   refine WL.move rfl rfl rfl ?_
   refine WL.callF (vs := [vu, .int .i64 (v : Int)]) Tryd.func75 (by kernel_rfl) rfl rfl rfl (has16_ret (uses5 x8) _ (v : Int) (ro := fun b => w6.heap.size ≤ b ∧ b < w9.heap.size) (fun _ h => h.2) hus) ?_
   rintro r w10 ⟨rfl, hbl⟩
   replace hS := hS.grow hbl
   refine WL.assign rfl rfl rfl ?_
   refine WL.nil ?_
   refine N.seq ?_
   refine W.seq ?_
   refine W.region ?_
   refine WL.move rfl rfl rfl ?_
   refine WL.nil ?_
   refine N.seq ?_
   refine W.cond rfl (fun hc11 => ?_) (fun hc11 => ?_)
   ·
    have hc11p : (v : Int) ∈ uses5 x8 := by simpa using hc11
    refine W.region ?_
    refine WL.move rfl rfl rfl ?_
    refine WL.assign rfl rfl rfl ?_
    refine WL.nil ?_
    refine N.blk ?_
    refine N.seq ?_
    refine W.region ?_
    refine WL.move rfl rfl rfl ?_
    refine WL.add (c := (k : Int) + 1) rfl rfl rfl rfl (rfl) (by omega) ?_
    refine WL.assign rfl rfl rfl ?_
    refine WL.nil ?_
    have hst : rlIns 0 v (given16i b v) (b.ins.take (k + 1)) = (k : Int) := by rw [take_next hx8, rlIns_snoc, List.length_take, Nat.min_eq_left (by omega), Nat.zero_add, if_pos hc11p]
    exact N.loop (k + 1, (k : Int)) ⟨rfl, rfl, rfl, rfl, rfl, rfl, rfl, rfl, rfl, rfl, rfl, rfl, rfl, rfl, rfl, rfl, rfl, rfl, trivial⟩ ⟨hS, by omega, by rw [hst]⟩ (by first | omega | (simp only; omega))
   have hc11p : ¬ ((v : Int) ∈ uses5 x8) := by simpa using hc11
   refine W.skip ?_
   refine N.blk ?_
   refine N.seq ?_
   refine W.region ?_
   refine WL.move rfl rfl rfl ?_
   refine WL.add (c := (k : Int) + 1) rfl rfl rfl rfl (rfl) (by omega) ?_
   refine WL.assign rfl rfl rfl ?_
   refine WL.nil ?_
   have hst : rlIns 0 v (given16i b v) (b.ins.take (k + 1)) = rlIns 0 v (given16i b v) (b.ins.take k) := by rw [take_next hx8, rlIns_snoc, List.length_take, Nat.min_eq_left (by omega), Nat.zero_add, if_neg hc11p]
   exact N.loop (k + 1, acc) ⟨rfl, rfl, rfl, rfl, rfl, rfl, rfl, rfl, rfl, rfl, rfl, rfl, rfl, rfl, rfl, rfl, rfl, rfl, trivial⟩ ⟨hS, by omega, by rw [hst]; exact hacc⟩ (by first | omega | (simp only; omega))
  have hc7p : ¬ ((k : Int) < (b.ins.length : Int)) := by simpa using hc7
  refine W.exit ?_
  refine X.seq ?_
  refine X.loop ?_
  refine X.blk ?_
  refine N.seq ?_
  refine W.seq ?_
  refine W.region ?_
  refine WL.fieldAddr fo_59_2 rfl rfl rfl ?_
  refine WL.fieldAddr fo_57_3 rfl rfl rfl ?_
  refine WL.load1 (v := .slice adp b.fin.args.length capp) one_55 rfl rfl rfl (hS.cell 0 rfl rfl) ?_
  refine WL.move rfl rfl rfl ?_
  have hke : k = b.ins.length := by omega
  rw [hke, List.take_length] at hacc
  refine WL.set 5 (v' := .int .i64 (rlIns 0 v (given16i b v) b.ins)) rfl (by rw [hacc]) ?_
  refine WL.callF (vs := [.slice adp b.fin.args.length capp, .int .i64 (v : Int)]) Tryd.func75 (by kernel_rfl) rfl rfl rfl (has16_ret b.fin.args _ (v : Int) (ro := ro) (fun b hb => (hS.snap b hb).1) (SlV.keep ht1 hS.alike (fun _ _ q => q))) ?_
  rintro r w12 ⟨rfl, hbl⟩
  replace hS := hS.grow hbl
  refine WL.move rfl rfl rfl ?_
  cases hg13 : (decide ((v : Int) ∈ b.fin.args))
  ·
   have hg13p : ¬ ((v : Int) ∈ b.fin.args) := by simpa using hg13
   refine WL.fieldAddr fo_59_2 rfl rfl rfl ?_
   refine WL.fieldAddr fo_57_5 rfl rfl rfl ?_
   refine WL.load1 (v := .slice adq b.fin.elses.length capq) one_55 rfl rfl rfl (hS.cell 0 rfl rfl) ?_
   refine WL.move rfl rfl rfl ?_
   refine WL.callF (vs := [.slice adq b.fin.elses.length capq, .int .i64 (v : Int)]) Tryd.func75 (by kernel_rfl) rfl rfl rfl (has16_ret b.fin.elses _ (v : Int) (ro := ro) (fun b hb => (hS.snap b hb).1) (SlV.keep ht2 hS.alike (fun _ _ q => q))) ?_
   rintro r w14 ⟨rfl, hbl⟩
   replace hS := hS.grow hbl
   refine WL.pick (v := .bool (decide ((v : Int) ∈ b.fin.elses))) rfl rfl rfl rfl rfl rfl ?_
   refine WL.assign rfl rfl rfl ?_
   refine WL.nil ?_
   refine N.seq ?_
   refine W.seq ?_
   refine W.seq ?_
   refine W.region ?_
   refine WL.move rfl rfl rfl ?_
   refine WL.move rfl rfl rfl ?_
   cases hg15 : (decide ((v : Int) ∈ b.fin.elses))
   ·
    have hg15p : ¬ ((v : Int) ∈ b.fin.elses) := by simpa using hg15
    refine WL.fieldAddr fo_59_2 rfl rfl rfl ?_
    refine WL.fieldAddr fo_57_0 rfl rfl rfl ?_
    refine WL.load1 (v := .int .i64 b.fin.kind) one_3 rfl rfl rfl (hS.cell 0 rfl rfl) ?_
    refine WL.bin rfl rfl rfl rfl rfl ?_
    refine WL.move rfl rfl rfl ?_
    cases hg16 : (!decide (b.fin.kind = 1))
    ·
     have hg16p : b.fin.kind = 1 := by simpa using hg16
     refine WL.skp rfl rfl ?_
     refine WL.skp rfl rfl ?_
     refine WL.skp rfl rfl ?_
     refine WL.skp rfl rfl ?_
     refine WL.skp rfl rfl ?_
     refine WL.pick (v := .bool false) rfl rfl rfl rfl rfl rfl ?_
     refine WL.pick (v := .bool false) rfl rfl rfl rfl rfl rfl ?_
     refine WL.nil ?_
     refine N.seq ?_
     refine W.condF rfl ?_
     refine W.skip ?_
     refine N.seq ?_
     refine W.region ?_
     refine WL.move rfl rfl rfl ?_
     refine WL.move rfl rfl rfl ?_
     refine WL.buildSlice (ps := [(0, .int .i64 (rlIns 0 v (given16i b v) b.ins))]) (cs := [.int .i64 (rlIns 0 v (given16i b v) b.ins)]) Tryd.underlying55 (tyZero_spec zer_3) rfl rfl rfl rfl (by kernel_rfl) hS ?_
     clear hS; intro w18 b17 hb_b17 hS
     refine WL.append (r := ⟨.slice adva v capva, 3, 1, v, cs⟩) (cs := [.int .i64 (rlIns 0 v (given16i b v) b.ins)]) 8 Tryd.underlying55 (tyZero_spec zer_3) byt_3 rfl rfl rfl rfl rfl rfl rfl rfl rfl hS (by unfold maxLen; simp only; omega) (by simp only; omega) ?_
     clear hS; intro w19 v20 hn_v20 hS
     have hrow : w19.ownsRow w.heap.size 3 1 v20 (v + 1) _ := hS.rows _ List.mem_cons_self
     obtain ⟨av20, cv20, rfl, hc1_v20, hc2_v20, hc3_v20⟩ := row_shape hrow
     clear hrow
     refine WL.assign rfl rfl rfl ?_
     refine WL.nil ?_
     refine N.blk ?_
     refine N.seq ?_
     refine W.region ?_
     refine WL.move rfl rfl rfl ?_
     refine WL.add (c := (v : Int) + 1) rfl rfl rfl rfl (rfl) (by omega) ?_
     refine WL.assign rfl rfl rfl ?_
     refine WL.nil ?_
     have hrl : rl16 b v = (rlIns 0 v (given16i b v) b.ins) := by unfold rl16; rw [if_neg (by simp_all)]
     have hri : inI (rl16 b v) := by have := last16_get hok (v := v) (by omega); have := last16_range hok.p0 (List.mem_of_getElem? this); unfold inI; omega
     exact N.loop (v + 1, .slice av20 (v + 1) cv20, cs ++ ([.int .i64 (rlIns 0 v (given16i b v) b.ins)] : List Value)) ⟨rfl, rfl, rfl, rfl, rfl, trivial⟩ ⟨hS, by omega, by rw [List.range_succ, List.map_append]; exact hch.snoc rfl ⟨by rw [hrl], hri⟩⟩ (by first | omega | (simp only; omega))
    have hg16p : ¬ (b.fin.kind = 1) := by simpa using hg16
    refine WL.fieldAddr fo_59_2 rfl rfl rfl ?_
    refine WL.fieldAddr fo_57_1 rfl rfl rfl ?_
    refine WL.load1 (v := .int .i64 b.fin.a) one_3 rfl rfl rfl (hS.cell 0 rfl rfl) ?_
    refine WL.move rfl rfl rfl ?_
    refine WL.bin rfl rfl rfl rfl rfl ?_
    refine WL.pick (v := .bool (decide (b.fin.a = (v : Int)))) rfl rfl rfl rfl rfl rfl ?_
    refine WL.pick (v := .bool (decide (b.fin.a = (v : Int)))) rfl rfl rfl rfl rfl rfl ?_
    refine WL.nil ?_
    refine N.seq ?_
    refine W.cond rfl (fun hc21 => ?_) (fun hc21 => ?_)
    ·
     have hc21p : b.fin.a = (v : Int) := by simpa using hc21
     refine W.region ?_
     refine WL.fieldAddr fo_59_1 rfl rfl rfl ?_
     refine WL.load1 (v := .slice adi b.ins.length capi) one_54 rfl rfl rfl (hS.cell 0 rfl rfl) ?_
     refine WL.lenSlice Tryd.underlying54 rfl rfl rfl ?_
     refine WL.assign rfl rfl rfl ?_
     refine WL.nil ?_
     refine N.seq ?_
     refine W.region ?_
     refine WL.move rfl rfl rfl ?_
     refine WL.move rfl rfl rfl ?_
     refine WL.buildSlice (ps := [(0, .int .i64 (b.ins.length : Int))]) (cs := [.int .i64 (b.ins.length : Int)]) Tryd.underlying55 (tyZero_spec zer_3) rfl rfl rfl rfl (by kernel_rfl) hS ?_
     clear hS; intro w23 b22 hb_b22 hS
     refine WL.append (r := ⟨.slice adva v capva, 3, 1, v, cs⟩) (cs := [.int .i64 (b.ins.length : Int)]) 8 Tryd.underlying55 (tyZero_spec zer_3) byt_3 rfl rfl rfl rfl rfl rfl rfl rfl rfl hS (by unfold maxLen; simp only; omega) (by simp only; omega) ?_
     clear hS; intro w24 v25 hn_v25 hS
     have hrow : w24.ownsRow w.heap.size 3 1 v25 (v + 1) _ := hS.rows _ List.mem_cons_self
     obtain ⟨av25, cv25, rfl, hc1_v25, hc2_v25, hc3_v25⟩ := row_shape hrow
     clear hrow
     refine WL.assign rfl rfl rfl ?_
     refine WL.nil ?_
     refine N.blk ?_
     refine N.seq ?_
     refine W.region ?_
     refine WL.move rfl rfl rfl ?_
     refine WL.add (c := (v : Int) + 1) rfl rfl rfl rfl (rfl) (by omega) ?_
     refine WL.assign rfl rfl rfl ?_
     refine WL.nil ?_
     have hrl : rl16 b v = (b.ins.length : Int) := by unfold rl16; rw [if_pos (by first | omega | (simp_all; done) | (have := hkne; simp_all; done) | (simp_all; omega))]
     have hri : inI (rl16 b v) := by have := last16_get hok (v := v) (by omega); have := last16_range hok.p0 (List.mem_of_getElem? this); unfold inI; omega
     exact N.loop (v + 1, .slice av25 (v + 1) cv25, cs ++ ([.int .i64 (b.ins.length : Int)] : List Value)) ⟨rfl, rfl, rfl, rfl, rfl, trivial⟩ ⟨hS, by omega, by rw [List.range_succ, List.map_append]; exact hch.snoc rfl ⟨by rw [hrl], hri⟩⟩ (by first | omega | (simp only; omega))
    have hc21p : ¬ (b.fin.a = (v : Int)) := by simpa using hc21
    refine W.skip ?_
    refine N.seq ?_
    refine W.region ?_
    refine WL.move rfl rfl rfl ?_
    refine WL.move rfl rfl rfl ?_
    refine WL.buildSlice (ps := [(0, .int .i64 (rlIns 0 v (given16i b v) b.ins))]) (cs := [.int .i64 (rlIns 0 v (given16i b v) b.ins)]) Tryd.underlying55 (tyZero_spec zer_3) rfl rfl rfl rfl (by kernel_rfl) hS ?_
    clear hS; intro w27 b26 hb_b26 hS
    refine WL.append (r := ⟨.slice adva v capva, 3, 1, v, cs⟩) (cs := [.int .i64 (rlIns 0 v (given16i b v) b.ins)]) 8 Tryd.underlying55 (tyZero_spec zer_3) byt_3 rfl rfl rfl rfl rfl rfl rfl rfl rfl hS (by unfold maxLen; simp only; omega) (by simp only; omega) ?_
    clear hS; intro w28 v29 hn_v29 hS
    have hrow : w28.ownsRow w.heap.size 3 1 v29 (v + 1) _ := hS.rows _ List.mem_cons_self
    obtain ⟨av29, cv29, rfl, hc1_v29, hc2_v29, hc3_v29⟩ := row_shape hrow
    clear hrow
    refine WL.assign rfl rfl rfl ?_
    refine WL.nil ?_
    refine N.blk ?_
    refine N.seq ?_
    refine W.region ?_
    refine WL.move rfl rfl rfl ?_
    refine WL.add (c := (v : Int) + 1) rfl rfl rfl rfl (rfl) (by omega) ?_
    refine WL.assign rfl rfl rfl ?_
    refine WL.nil ?_
    have hrl : rl16 b v = (rlIns 0 v (given16i b v) b.ins) := by unfold rl16; rw [if_neg (by simp_all)]
    have hri : inI (rl16 b v) := by have := last16_get hok (v := v) (by omega); have := last16_range hok.p0 (List.mem_of_getElem? this); unfold inI; omega
    exact N.loop (v + 1, .slice av29 (v + 1) cv29, cs ++ ([.int .i64 (rlIns 0 v (given16i b v) b.ins)] : List Value)) ⟨rfl, rfl, rfl, rfl, rfl, trivial⟩ ⟨hS, by omega, by rw [List.range_succ, List.map_append]; exact hch.snoc rfl ⟨by rw [hrl], hri⟩⟩ (by first | omega | (simp only; omega))
   have hg15p : (v : Int) ∈ b.fin.elses := by simpa using hg15
   refine WL.skp rfl rfl ?_
   refine WL.skp rfl rfl ?_
   refine WL.skp rfl rfl ?_
   refine WL.skp rfl rfl ?_
   refine WL.skp rfl rfl ?_
   refine WL.skp rfl rfl ?_
   refine WL.skp rfl rfl ?_
   refine WL.skp rfl rfl ?_
   refine WL.skp rfl rfl ?_
   refine WL.skp rfl rfl ?_
   refine WL.skp rfl rfl ?_
   refine WL.pick (v := .bool true) rfl rfl rfl rfl rfl rfl ?_
   refine WL.nil ?_
   refine N.seq ?_
   refine W.condT rfl ?_
   refine W.region ?_
   refine WL.fieldAddr fo_59_1 rfl rfl rfl ?_
   refine WL.load1 (v := .slice adi b.ins.length capi) one_54 rfl rfl rfl (hS.cell 0 rfl rfl) ?_
   refine WL.lenSlice Tryd.underlying54 rfl rfl rfl ?_
   refine WL.assign rfl rfl rfl ?_
   refine WL.nil ?_
   refine N.seq ?_
   refine W.region ?_
   refine WL.move rfl rfl rfl ?_
   refine WL.move rfl rfl rfl ?_
   refine WL.buildSlice (ps := [(0, .int .i64 (b.ins.length : Int))]) (cs := [.int .i64 (b.ins.length : Int)]) Tryd.underlying55 (tyZero_spec zer_3) rfl rfl rfl rfl (by kernel_rfl) hS ?_
   clear hS; intro w31 b30 hb_b30 hS
   refine WL.append (r := ⟨.slice adva v capva, 3, 1, v, cs⟩) (cs := [.int .i64 (b.ins.length : Int)]) 8 Tryd.underlying55 (tyZero_spec zer_3) byt_3 rfl rfl rfl rfl rfl rfl rfl rfl rfl hS (by unfold maxLen; simp only; omega) (by simp only; omega) ?_
   clear hS; intro w32 v33 hn_v33 hS
   have hrow : w32.ownsRow w.heap.size 3 1 v33 (v + 1) _ := hS.rows _ List.mem_cons_self
   obtain ⟨av33, cv33, rfl, hc1_v33, hc2_v33, hc3_v33⟩ := row_shape hrow
   clear hrow
   refine WL.assign rfl rfl rfl ?_
   refine WL.nil ?_
   refine N.blk ?_
   refine N.seq ?_
   refine W.region ?_
   refine WL.move rfl rfl rfl ?_
   refine WL.add (c := (v : Int) + 1) rfl rfl rfl rfl (rfl) (by omega) ?_
   refine WL.assign rfl rfl rfl ?_
   refine WL.nil ?_
   have hrl : rl16 b v = (b.ins.length : Int) := by unfold rl16; rw [if_pos (by first | omega | (simp_all; done) | (have := hkne; simp_all; done) | (simp_all; omega))]
   have hri : inI (rl16 b v) := by have := last16_get hok (v := v) (by omega); have := last16_range hok.p0 (List.mem_of_getElem? this); unfold inI; omega
   exact N.loop (v + 1, .slice av33 (v + 1) cv33, cs ++ ([.int .i64 (b.ins.length : Int)] : List Value)) ⟨rfl, rfl, rfl, rfl, rfl, trivial⟩ ⟨hS, by omega, by rw [List.range_succ, List.map_append]; exact hch.snoc rfl ⟨by rw [hrl], hri⟩⟩ (by first | omega | (simp only; omega))
  have hg13p : (v : Int) ∈ b.fin.args := by simpa using hg13
  refine WL.skp rfl rfl ?_
  refine WL.skp rfl rfl ?_
  refine WL.skp rfl rfl ?_
  refine WL.skp rfl rfl ?_
  refine WL.skp rfl rfl ?_
  refine WL.pick (v := .bool true) rfl rfl rfl rfl rfl rfl ?_
  refine WL.assign rfl rfl rfl ?_
  refine WL.nil ?_
  refine N.seq ?_
  refine W.seq ?_
  refine W.seq ?_
  refine W.region ?_
  refine WL.move rfl rfl rfl ?_
  refine WL.move rfl rfl rfl ?_
  refine WL.skp rfl rfl ?_
  refine WL.skp rfl rfl ?_
  refine WL.skp rfl rfl ?_
  refine WL.skp rfl rfl ?_
  refine WL.skp rfl rfl ?_
  refine WL.skp rfl rfl ?_
  refine WL.skp rfl rfl ?_
  refine WL.skp rfl rfl ?_
  refine WL.skp rfl rfl ?_
  refine WL.skp rfl rfl ?_
  refine WL.skp rfl rfl ?_
  refine WL.pick (v := .bool true) rfl rfl rfl rfl rfl rfl ?_
  refine WL.nil ?_
  refine N.seq ?_
  refine W.condT rfl ?_
  refine W.region ?_
  refine WL.fieldAddr fo_59_1 rfl rfl rfl ?_
  refine WL.load1 (v := .slice adi b.ins.length capi) one_54 rfl rfl rfl (hS.cell 0 rfl rfl) ?_
  refine WL.lenSlice Tryd.underlying54 rfl rfl rfl ?_
  refine WL.assign rfl rfl rfl ?_
  refine WL.nil ?_
  refine N.seq ?_
  refine W.region ?_
  refine WL.move rfl rfl rfl ?_
  refine WL.move rfl rfl rfl ?_
  refine WL.buildSlice (ps := [(0, .int .i64 (b.ins.length : Int))]) (cs := [.int .i64 (b.ins.length : Int)]) Tryd.underlying55 (tyZero_spec zer_3) rfl rfl rfl rfl (by kernel_rfl) hS ?_
  clear hS; intro w35 b34 hb_b34 hS
  refine WL.append (r := ⟨.slice adva v capva, 3, 1, v, cs⟩) (cs := [.int .i64 (b.ins.length : Int)]) 8 Tryd.underlying55 (tyZero_spec zer_3) byt_3 rfl rfl rfl rfl rfl rfl rfl rfl rfl hS (by unfold maxLen; simp only; omega) (by simp only; omega) ?_
  clear hS; intro w36 v37 hn_v37 hS
  have hrow : w36.ownsRow w.heap.size 3 1 v37 (v + 1) _ := hS.rows _ List.mem_cons_self
  obtain ⟨av37, cv37, rfl, hc1_v37, hc2_v37, hc3_v37⟩ := row_shape hrow
  clear hrow
  refine WL.assign rfl rfl rfl ?_
  refine WL.nil ?_
  refine N.blk ?_
  refine N.seq ?_
  refine W.region ?_
  refine WL.move rfl rfl rfl ?_
  refine WL.add (c := (v : Int) + 1) rfl rfl rfl rfl (rfl) (by omega) ?_
  refine WL.assign rfl rfl rfl ?_
  refine WL.nil ?_
  have hrl : rl16 b v = (b.ins.length : Int) := by unfold rl16; rw [if_pos (by first | omega | (simp_all; done) | (have := hkne; simp_all; done) | (simp_all; omega))]
  have hri : inI (rl16 b v) := by have := last16_get hok (v := v) (by omega); have := last16_range hok.p0 (List.mem_of_getElem? this); unfold inI; omega
  exact N.loop (v + 1, .slice av37 (v + 1) cv37, cs ++ ([.int .i64 (b.ins.length : Int)] : List Value)) ⟨rfl, rfl, rfl, rfl, rfl, trivial⟩ ⟨hS, by omega, by rw [List.range_succ, List.map_append]; exact hch.snoc rfl ⟨by rw [hrl], hri⟩⟩ (by first | omega | (simp only; omega))
 have hc4p : ¬ ((v : Int) < b.params + (b.ins.length : Int)) := by simpa using hc4
 refine W.exit ?_
 refine X.seq ?_
 refine X.loop ?_
 refine X.blk ?_
 refine N.seq ?_
 refine W.seq ?_
 refine W.region ?_
 refine WL.move rfl rfl rfl ?_
 refine WL.assign rfl rfl rfl ?_
 refine WL.nil ?_
 refine N.seq ?_
 refine Fin.ret1 rfl (v := .slice adva v capva) rfl ?_
 have hve : v = b.params.toNat + b.ins.length := by omega
 rw [hve, rlast16_eq hok] at hch
 refine ⟨row_slv (hS.rows _ List.mem_cons_self) hch (by rw [last16_length]; exact hve) (fun x hx => ?_), hS.below⟩
 exact (hS.keys x (by simp only [keysOf, List.mem_append, List.mem_filterMap]; exact .inr ⟨_, List.mem_cons_self, hx⟩)).imp id (·.1)

end Go.Proofs.YtcmmhfknkldmcaaDoor

namespace Go.Proofs.YtcmmhfknkldmcaaDoor
open Go.RowKit

structure RApart (b : DBlock) (l : List Int) : Prop where
  len : l.length = (last16 b).length
  nn : ∀ (v : Nat) x, l[v]? = some x → 0 ≤ x
  ap : ∀ (v w : Nat) x z, w < v → l[v]? = some x → l[w]? = some x → (last16 b)[w]? = some z → b.params ≤ v ∧ z ≤ v - b.params
/-- What stands between the steps: whose value is needed still holds its slot. -/
structure Inv16 (b : DBlock) (v : Nat) (T : Int → Option Int) (out : List Int) : Prop where
  low : ∀ w : Nat, w < v → (w : Int) < b.params → out[w]? = some (w : Int)
  held : ∀ (w : Nat) x z, w < v → out[w]? = some x → (last16 b)[w]? = some z → ((v : Int) ≤ b.params ∨ (v : Int) - 1 - b.params < z) → T x = some z
  ap : ∀ (u w : Nat) x z, w < u → out[u]? = some x → out[w]? = some x → (last16 b)[w]? = some z → b.params ≤ u ∧ z ≤ u - b.params
theorem inv16 {b : DBlock} (hok : Ok16 b) (v : Nat) (hv : v ≤ (last16 b).length) : Inv16 b v (giveAt16 b v).1 (giveAt16 b v).2 := by
  induction v with
  | zero => exact ⟨fun w h => by omega, fun w x z h => by omega, fun u w x z _ h => by simp [giveAt16] at h⟩
  | succ v ih =>
    obtain ⟨i1, i2, i3⟩ := ih (by omega)
    have hg := given16 hok v (by omega)
    have hlen := hg.len
    have hget : (last16 b).getD v 0 = (last16 b)[v]'(by omega) := by rw [List.getD_eq_getElem?_getD, List.getElem?_eq_getElem (by omega)]; rfl
    have hlv : ∀ z, (last16 b)[v]? = some z → z = (last16 b).getD v 0 := fun z hz => by rw [List.getD_eq_getElem?_getD, hz]; rfl
    rw [giveAt16_succ]
    unfold giveStep16
    have old : ∀ {x f : Int} {w : Nat}, w < v → ((giveAt16 b v).2 ++ [f])[w]? = some x → (giveAt16 b v).2[w]? = some x := fun hw h => by rwa [List.getElem?_append_left (by omega)] at h
    have new : ∀ {x f : Int}, ((giveAt16 b v).2 ++ [f])[v]? = some x → x = f := fun h => by
      rw [List.getElem?_append_right (by omega), hlen, Nat.sub_self] at h; simpa using h.symm
    by_cases hp : (v : Int) < b.params
    · rw [if_pos hp]
      refine ⟨fun w hw hwp => ?_, fun w x z hw hx hz hc => ?_, fun u w x z hwu hu hx hz => ?_⟩
      · by_cases e : w = v
        · subst e; rw [List.getElem?_append_right (by omega), hlen]; simp
        · rw [List.getElem?_append_left (by omega)]; exact i1 w (by omega) hwp
      · simp only [updG]
        by_cases e : w = v
        · subst e; rw [if_pos (new hx), hlv z hz]
        · have hx' := old (by omega) hx
          have h1 := i1 w (by omega) (by omega)
          rw [h1] at hx'; cases hx'
          rw [if_neg (by omega)]
          exact i2 w _ z (by omega) h1 hz (.inl (by omega))
      · by_cases e : u = v
        · subst e
          have h1 := i1 w hwu (by omega)
          have h2 := old hwu hx
          rw [h1] at h2; cases h2
          have := new hu
          omega
        · have hul : u < v := by
            have := (List.getElem?_eq_some_iff.1 hu).1
            rw [List.length_append, List.length_cons, List.length_nil] at this; omega
          exact i3 u w x z hwu (old hul hu) (old (by omega) hx) hz
    · rw [if_neg hp]
      have hf := first16_spec (T := freeG (giveAt16 b v).1 ((v : Int) - b.params)) (n := (last16 b).length) (out := (giveAt16 b v).2) (fun k l h => hg.key k l (freeG_some h).1) (by omega)
      have keep : ∀ (w : Nat) x z, w < v → (giveAt16 b v).2[w]? = some x → (last16 b)[w]? = some z → (v : Int) - b.params < z → freeG (giveAt16 b v).1 ((v : Int) - b.params) x = some z := fun w x z hw hx hz hc => by
        have h1 := i2 w x z hw hx hz (by omega)
        unfold freeG
        rw [h1]
        dsimp only
        rw [if_neg (by omega)]
      refine ⟨fun w hw hwp => ?_, fun w x z hw hx hz hc => ?_, fun u w x z hwu hu hx hz => ?_⟩
      · rw [List.getElem?_append_left (by omega)]; exact i1 w (by omega) hwp
      · simp only [updG]
        by_cases e : w = v
        · subst e; rw [if_pos (new hx), hlv z hz]
        · have h1 := keep w x z (by omega) (old (by omega) hx) hz (by omega)
          rw [if_neg (fun e => by rw [e, hf.1] at h1; cases h1)]
          exact h1
      · by_cases e : u = v
        · subst e
          refine ⟨by omega, ?_⟩
          by_cases hc : (u : Int) - b.params < z
          · have h1 := keep w x z hwu (old hwu hx) hz hc
            rw [new hu, hf.1] at h1; cases h1
          · omega
        · have hul : u < v := by
            have := (List.getElem?_eq_some_iff.1 hu).1
            rw [List.length_append, List.length_cons, List.length_nil] at this; omega
          exact i3 u w x z hwu (old hul hu) (old (by omega) hx) hz
theorem give16_apart {b : DBlock} (hok : Ok16 b) : RApart b (give16 b) := by
  have h := inv16 hok _ (Nat.le_refl _)
  refine ⟨by rw [give16_length hok, last16_length], fun v x hx => ?_, h.ap⟩
  exact ((given16 hok _ (Nat.le_refl _)).out x (List.mem_of_getElem? hx)).1
def iC (op a b : Int) : DInst := ⟨op, a, b, 0, ⟨#[]⟩, []⟩
def bSh16 : DBlock := ⟨0, [iC 1 0 0, iC 1 0 0, iC 2 0 1], ⟨3, 2, 0, [], 0, []⟩⟩
theorem sh16_eq : give16 bSh16 = [0, 1, 0] := by rfl
theorem ok16_sh : Ok16 bSh16 := ⟨by decide, by decide, by decide, by decide, by decide, by decide, by decide, by decide, by decide, by decide⟩
theorem intI {x : Int} (h : -1000 ≤ x ∧ x ≤ 1000) : inI x := by unfold inI; omega
theorem instLit {ro : Nat → Prop} {w : World} (op a b k : Int) (h1 : inI op) (h2 : inI a) (h3 : inI b) (h4 : inU k) : InstC ro w [.int .i64 op, .int .i64 a, .int .i64 b, .int .u64 k, .string ⟨#[]⟩, .slice none 0 0] ⟨op, a, b, k, ⟨#[]⟩, []⟩ :=
  ⟨_, rfl, slv_nil, h1, h2, h3, h4, Nat.zero_le _⟩
theorem termLit {ro : Nat → Prop} {w : World} (k a to els : Int) (h1 : inI k) (h2 : inI a) (h3 : inI to) (h4 : inI els) : TermC ro w [.int .i64 k, .int .i64 a, .int .i64 to, .slice none 0 0, .int .i64 els, .slice none 0 0] ⟨k, a, to, [], els, []⟩ :=
  ⟨_, _, rfl, slv_nil, slv_nil, h1, h2, h3, h4⟩

end Go.Proofs.YtcmmhfknkldmcaaDoor

namespace Go.Proofs.YtcmmhfknkldmcaaDoor
open Go.RowKit

def maxOf (acc : Int) (l : List Int) : Int := l.foldl (fun n s => if s + 1 > n then s + 1 else n) acc
theorem maxOf_snoc (acc : Int) (l : List Int) (x : Int) : maxOf acc (l ++ [x]) = if x + 1 > maxOf acc l then x + 1 else maxOf acc l := by simp [maxOf]
def many16 (f : DFunc) : Int := f.blocks.foldl (fun n b => maxOf n (give16 b)) 0
def manyAt (f : DFunc) (k : Nat) : Int := (f.blocks.take k).foldl (fun n b => maxOf n (give16 b)) 0
theorem manyAt_succ {f : DFunc} {k : Nat} {b : DBlock} (h : f.blocks[k]? = some b) : manyAt f (k + 1) = maxOf (manyAt f k) (give16 b) := by
  unfold manyAt; rw [take_next h, List.foldl_append]; rfl
theorem maxOf_le {acc M : Int} {l : List Int} (ha : acc ≤ M) (h : ∀ x ∈ l, x + 1 ≤ M) : maxOf acc l ≤ M := by
  induction l using snoc_ind with
  | h0 => exact ha
  | h1 l x ih =>
    rw [maxOf_snoc]
    split
    · exact h x (by simp)
    · exact ih fun y hy => h y (List.mem_append_left _ hy)
theorem maxOf_ge {acc : Int} {l : List Int} : acc ≤ maxOf acc l ∧ ∀ x ∈ l, x < maxOf acc l := by
  induction l using snoc_ind with
  | h0 => exact ⟨Int.le_refl _, fun x h => by cases h⟩
  | h1 l x ih =>
    rw [maxOf_snoc]
    refine ⟨by split <;> omega, fun y hy => ?_⟩
    simp only [List.mem_append, List.mem_cons, List.not_mem_nil, or_false] at hy
    rcases hy with hy | hy
    · have := ih.2 y hy; split <;> omega
    · subst hy; split <;> omega
theorem many16_ge {f : DFunc} {b : DBlock} {x : Int} (hb : b ∈ f.blocks) (hx : x ∈ give16 b) : x < many16 f := by
  obtain ⟨k, hk⟩ := List.mem_iff_getElem?.1 hb
  have h1 : x < manyAt f (k + 1) := by rw [manyAt_succ hk]; exact maxOf_ge.2 x hx
  have mono : ∀ (l : List DBlock) (n : Int), n ≤ l.foldl (fun n b => maxOf n (give16 b)) n := fun l => by
    induction l with
    | nil => intro n; exact Int.le_refl _
    | cons c l ih => intro n; exact Int.le_trans maxOf_ge.1 (ih _)
  have h2 : manyAt f (k + 1) ≤ many16 f := by
    have e : f.blocks = f.blocks.take (k + 1) ++ f.blocks.drop (k + 1) := (List.take_append_drop _ _).symm
    unfold many16 manyAt
    conv => rhs; rw [e, List.foldl_append]
    exact mono _ _
  omega
theorem manyAt_le {f : DFunc} {M : Int} (h0 : 0 ≤ M) (k : Nat) (h : ∀ b ∈ f.blocks.take k, ∀ x ∈ give16 b, x + 1 ≤ M) : manyAt f k ≤ M := by
  induction k with
  | zero => exact h0
  | succ k ih =>
    by_cases hk : k < f.blocks.length
    · have hb : f.blocks[k]? = some f.blocks[k] := List.getElem?_eq_getElem hk
      rw [manyAt_succ hb]
      rw [take_next hb] at h
      exact maxOf_le (ih fun b hb => h b (List.mem_append_left _ hb)) (h _ (List.mem_append_right _ (List.mem_singleton.2 rfl)))
    · have e : f.blocks.take (k + 1) = f.blocks.take k := by rw [List.take_of_length_le (by omega), List.take_of_length_le (by omega)]
      rw [e] at h
      have : manyAt f (k + 1) = manyAt f k := by unfold manyAt; rw [e]
      rw [this]; exact ih h
theorem manyAt_full (f : DFunc) : manyAt f f.blocks.length = many16 f := by unfold manyAt many16; rw [List.take_length]
/-- How slots are given: each one is 0, or one more than one that was given before. -/
structure Few16 (b : DBlock) (out : List Int) : Prop where
  step : ∀ (i : Nat) x, out[i]? = some x → 0 ≤ x ∧ x ≤ i ∧ (x = 0 ∨ x - 1 ∈ out.take i)
  low : ∀ (i : Nat) x, out[i]? = some x → (i : Int) < b.params → x = i
theorem few16_at {b : DBlock} (hok : Ok16 b) (v : Nat) (hv : v ≤ (last16 b).length) : Few16 b (giveAt16 b v).2 := by
  induction v with
  | zero => exact ⟨fun i x h => by simp [giveAt16] at h, fun i x h => by simp [giveAt16] at h⟩
  | succ v ih =>
    obtain ⟨i1, i2⟩ := ih (by omega)
    have hg := given16 hok v (by omega)
    have hlen := hg.len
    have hi := inv16 hok v (by omega)
    have key : ∀ f : Int, (∃ F : Nat, f = F ∧ F ≤ v ∧ (F = 0 ∨ ((F : Int) - 1) ∈ (giveAt16 b v).2) ∧ ((v : Int) < b.params → F = v)) → Few16 b ((giveAt16 b v).2 ++ [f]) := fun f ⟨F, hF, h1, h2, h3⟩ => by
      refine ⟨fun i x hx => ?_, fun i x hx hp => ?_⟩
      · by_cases e : i < v
        · rw [List.getElem?_append_left (by omega)] at hx
          rw [List.take_append_of_le_length (by omega)]
          exact i1 i x hx
        · have hiv : i = v := by have := (List.getElem?_eq_some_iff.1 hx).1; rw [List.length_append, List.length_cons, List.length_nil] at this; omega
          subst hiv
          rw [List.getElem?_append_right (by omega), hlen, Nat.sub_self] at hx
          simp only [List.getElem?_cons_zero, Option.some.injEq] at hx
          subst hx
          rw [List.take_append_of_le_length (by omega), List.take_of_length_le (by omega), hF]
          exact ⟨by omega, by omega, h2.imp (fun h => by omega) id⟩
      · by_cases e : i < v
        · rw [List.getElem?_append_left (by omega)] at hx; exact i2 i x hx hp
        · have hiv : i = v := by have := (List.getElem?_eq_some_iff.1 hx).1; rw [List.length_append, List.length_cons, List.length_nil] at this; omega
          subst hiv
          rw [List.getElem?_append_right (by omega), hlen, Nat.sub_self] at hx
          simp only [List.getElem?_cons_zero, Option.some.injEq] at hx
          rw [← hx, hF, h3 hp]
    rw [giveAt16_succ]
    unfold giveStep16
    split
    · rename_i hp
      refine key _ ⟨v, rfl, Nat.le_refl _, ?_, fun _ => rfl⟩
      by_cases e : v = 0
      · exact .inl e
      · have := hi.low (v - 1) (by omega) (by omega)
        right
        have h2 := List.mem_of_getElem? this
        rwa [show ((v - 1 : Nat) : Int) = (v : Int) - 1 by omega] at h2
    · rename_i hp
      have hf := first16_spec (T := freeG (giveAt16 b v).1 ((v : Int) - b.params)) (n := (last16 b).length) (out := (giveAt16 b v).2) (fun k l h => hg.key k l (freeG_some h).1) (by omega)
      have hin : ∀ j : Nat, j < first16 (freeG (giveAt16 b v).1 ((v : Int) - b.params)) (last16 b).length → (j : Int) ∈ (giveAt16 b v).2 := fun j hj => by
        obtain ⟨l, hl⟩ := Option.isSome_iff_exists.1 (hf.2.2 j hj)
        exact hg.key _ l (freeG_some hl).1
      refine key _ ⟨_, rfl, ?_, ?_, fun h => absurd h hp⟩
      · have := nodup_le ((List.range (first16 (freeG (giveAt16 b v).1 ((v : Int) - b.params)) (last16 b).length)).map fun s : Nat => (s : Int)) (giveAt16 b v).2 (List.pairwise_map.2 (List.nodup_range.imp fun h e => h (Int.ofNat.inj e))) fun x hx => by
          obtain ⟨s, hs, rfl⟩ := List.mem_map.1 hx
          exact hin s (List.mem_range.1 hs)
        rw [List.length_map, List.length_range] at this
        omega
      · generalize hFe : first16 (freeG (giveAt16 b v).1 ((v : Int) - b.params)) (last16 b).length = F at hin ⊢
        by_cases e : F = 0
        · exact .inl e
        · right
          have := hin (F - 1) (by omega)
          rwa [show ((F - 1 : Nat) : Int) = (F : Int) - 1 by omega] at this
theorem few16 {b : DBlock} (hok : Ok16 b) : Few16 b (give16 b) := few16_at hok _ (Nat.le_refl _)

set_option maxRecDepth 10000 in
set_option maxHeartbeats 2000000 in
theorem many16_ret (f : DFunc) (cf : List Value) {w : World} {ro : Nat → Prop} (hro : ∀ b, ro b → b < w.heap.size) (hx : FuncC ro w cf f) (hok : ∀ b ∈ f.blocks, Ok16 b) : Ret Tryd.prog 23 #[.agg cf.toArray] w fun v w' => v = .int .i64 (many16 f) ∧ Below w.heap.size w w' := by
 obtain ⟨sbF, rfl, hblF, hnmF, hbdF, hprF⟩ := id hx
 obtain ⟨adbF, capbF, rfl, hbkFa, hbkFb, hbkFc, hbkFd⟩ := id hblF
 have hbkFm : f.blocks.length ≤ 9223372036854775807 := by have h1 := hbkFa; have h2 := hbkFb; unfold maxLen at h2; omega
 refine Ret.enter (P := Tryd.prog) (n := 29) (args := [.agg #[.string f.name, .int .i64 f.bind, .int .i64 f.params, .slice adbF f.blocks.length capbF]]) (σ := [(0, .agg #[.string f.name, .int .i64 f.bind, .int .i64 f.params, .slice adbF f.blocks.length capbF])]) Tryd.func23 rfl rfl rfl rfl ?_
 have hS := St.start (ro := ro) hro
 have hsub : ∀ b, ro b → ro b ∨ w.heap.size ≤ b := fun _ h => .inl h
 have halT : Alike ro w ro w := Alike.refl
 refine W.seq ?_
 refine W.region ?_
 refine WL.box (v := .agg #[.string f.name, .int .i64 f.bind, .int .i64 f.params, .slice adbF f.blocks.length capbF]) (cs := [.string f.name, .int .i64 f.bind, .int .i64 f.params, .slice adbF f.blocks.length capbF]) rfl rfl rfl rfl hS ?_
 clear hS; intro w2 b1 hb_b1 hS
 refine WL.assign rfl rfl rfl ?_
 refine WL.nil ?_
 refine N.seq ?_
 refine W.seq ?_
 refine W.region ?_
 refine WL.assign rfl rfl rfl ?_
 refine WL.nil ?_
 refine N.seq ?_
 refine W.seq ?_
 refine W.seq ?_
 refine W.region ?_
 refine WL.fieldAddr fo_24_3 rfl rfl rfl ?_
 refine WL.load1 (v := .slice adbF f.blocks.length capbF) one_22 rfl rfl rfl (hS.cell 0 rfl rfl) ?_
 refine WL.lenSlice Tryd.underlying22 rfl rfl rfl ?_
 refine WL.move rfl rfl rfl ?_
 refine WL.nil ?_
 refine N.seq ?_
 refine W.block ?_
 refine W.loop (α := Nat × Int × (Nat → Prop) × World) (fun ⟨k, n, R2, ws2⟩ => [(0, .agg #[.string f.name, .int .i64 f.bind, .int .i64 f.params, .slice adbF f.blocks.length capbF]), (1, .pointer (some ⟨b1, 0, none⟩)), (2, .int .i64 0), (3, .int .i64 n), (8, .pointer (some ⟨b1, 3, none⟩)), (9, .slice adbF f.blocks.length capbF), (10, .int .i64 (f.blocks.length : Int)), (11, .int .i64 (k : Int))]) (fun ⟨k, n, R2, ws2⟩ u => St w ws2 u R2 [(b1, .cells #[.string f.name, .int .i64 f.bind, .int .i64 f.params, .slice adbF f.blocks.length capbF] 24 (0, 0))] [] ∧ k ≤ f.blocks.length ∧ n = manyAt f k ∧ (0 ≤ n ∧ n ≤ 3000) ∧ Alike ro w R2 ws2 ∧ (∀ b, R2 b → ro b ∨ w.heap.size ≤ b)) (fun ⟨k, n, R2, ws2⟩ => f.blocks.length - k) (0, 0, ro, w) ⟨rfl, rfl, rfl, rfl, rfl, rfl, rfl, rfl, trivial⟩ ⟨hS, Nat.zero_le _, rfl, by omega, Alike.refl, hsub⟩ ?_
 clear hS
 rintro ⟨k, n, R2, ws2⟩ w3 ⟨hS, hk, hn, hnb, halL0, hsub⟩
 replace halT := halT.trans halL0
 replace hx := hx.keep halL0
 replace hbkFd : Elems R2 ws2 8 (BlockC R2 ws2) adbF f.blocks := hbkFd.keep halL0 (fun _ _ h => h.keep halL0)
 replace hblF : SlV R2 ws2 8 (BlockC R2 ws2) (.slice adbF f.blocks.length capbF) f.blocks := SlV.keep hblF halL0 (fun _ _ h => h.keep halL0)
 refine W.seq ?_
 refine W.region ?_
 refine WL.bin rfl rfl rfl rfl rfl ?_
 refine WL.nil ?_
 refine N.seq ?_
 refine W.seq ?_
 refine W.cond rfl (fun hc4 => ?_) (fun hc4 => ?_)
 ·
  have hc4p : (k : Int) < (f.blocks.length : Int) := by simpa using hc4
  refine W.skip ?_
  refine N.seq ?_
  refine W.seq ?_
  refine W.block ?_
  refine W.seq ?_
  refine W.region ?_
  have hj5 : k < f.blocks.length := by omega
  obtain ⟨x5, hx5⟩ : ∃ zz, f.blocks[k]? = some zz := ⟨_, List.getElem?_eq_getElem hj5⟩
  obtain ⟨b5, o5, cs5, hE5, hr5, hl5, hc5, hQ5⟩ := hbkFd k _ hx5
  obtain ⟨si5, tsx5, rfl, hin5, hfin5, hpar5⟩ := id hQ5
  obtain ⟨adi5, capi5, rfl, hin5a, hin5b, hin5c, hin5d⟩ := id hin5
  have hin5m : x5.ins.length ≤ 9223372036854775807 := by have h1 := hin5a; have h2 := hin5b; unfold maxLen at h2; omega
  obtain ⟨sp5, sq5, rfl, ht15, ht25, htk5, hta5, htt5, hte5⟩ := id hfin5
  obtain ⟨adp5, capp5, rfl, htp5a, htp5b, htp5c, htp5d⟩ := id ht15
  have htp5m : x5.fin.args.length ≤ 9223372036854775807 := by have h1 := htp5a; have h2 := htp5b; unfold maxLen at h2; omega
  obtain ⟨adq5, capq5, rfl, htq5a, htq5b, htq5c, htq5d⟩ := id ht25
  have htq5m : x5.fin.elses.length ≤ 9223372036854775807 := by have h1 := htq5a; have h2 := htq5b; unfold maxLen at h2; omega
  refine WL.indexAddrE (j := k) Tryd.underlying22 isz_59 rfl rfl rfl rfl hj5 hE5 ?_
  refine WL.loadN (cs := [.int .i64 x5.params, .slice adi5 x5.ins.length capi5, .int .i64 x5.fin.kind, .int .i64 x5.fin.a, .int .i64 x5.fin.to, .slice adp5 x5.fin.args.length capp5, .int .i64 x5.fin.els, .slice adq5 x5.fin.elses.length capq5]) agg_59 rfl rfl rfl rfl (hS.roCells hr5 hc5) ?_
  refine WL.alloc (tyZero_spec zer_59) rfl rfl hS ?_
  clear hS; intro w7 b6 hb_b6 hS
  refine WL.store (cs := [.int .i64 x5.params, .slice adi5 x5.ins.length capi5, .int .i64 x5.fin.kind, .int .i64 x5.fin.a, .int .i64 x5.fin.to, .slice adp5 x5.fin.args.length capp5, .int .i64 x5.fin.els, .slice adq5 x5.fin.elses.length capq5]) (c' := #[.int .i64 x5.params, .slice adi5 x5.ins.length capi5, .int .i64 x5.fin.kind, .int .i64 x5.fin.a, .int .i64 x5.fin.to, .slice adp5 x5.fin.args.length capp5, .int .i64 x5.fin.els, .slice adq5 x5.fin.elses.length capq5]) (L' := [(b6, .cells #[.int .i64 x5.params, .slice adi5 x5.ins.length capi5, .int .i64 x5.fin.kind, .int .i64 x5.fin.a, .int .i64 x5.fin.to, .slice adp5 x5.fin.args.length capp5, .int .i64 x5.fin.els, .slice adq5 x5.fin.elses.length capq5] 59 (0, 0)), (b1, .cells #[.string f.name, .int .i64 f.bind, .int .i64 f.params, .slice adbF f.blocks.length capbF] 24 (0, 0))]) 0 rfl rfl rfl rfl siz_59 rfl rfl rfl rfl rfl hS ?_
  clear hS; intro w8 hS
  refine WL.nil ?_
  refine N.seq ?_
  refine W.seq ?_
  refine W.region ?_
  refine WL.loadN (cs := [.int .i64 x5.params, .slice adi5 x5.ins.length capi5, .int .i64 x5.fin.kind, .int .i64 x5.fin.a, .int .i64 x5.fin.to, .slice adp5 x5.fin.args.length capp5, .int .i64 x5.fin.els, .slice adq5 x5.fin.elses.length capq5]) agg_59 rfl rfl rfl rfl (hS.cells 0 (m := 8) rfl rfl) ?_
  refine WL.callF (vs := [.agg #[.int .i64 x5.params, .slice adi5 x5.ins.length capi5, .int .i64 x5.fin.kind, .int .i64 x5.fin.a, .int .i64 x5.fin.to, .slice adp5 x5.fin.args.length capp5, .int .i64 x5.fin.els, .slice adq5 x5.fin.elses.length capq5]]) Tryd.func26 (by kernel_rfl) rfl rfl rfl (give16_ret x5 _ (ro := R2) (fun b hb => (hS.snap b hb).1) (hQ5.keep hS.alike) (hok _ (List.mem_of_getElem? hx5))) ?_
  rintro vl w9 ⟨hvl, hbl⟩
  have hal10 := hS.alikeTo hbl (ro' := (roFrom R2 w8 w9)) (fun b hb => .inl hb)
  replace hsub : ∀ b, (roFrom R2 w8 w9) b → ro b ∨ w.heap.size ≤ b := fun b hb => hb.elim (hsub b) (fun h => .inr (Nat.le_trans hS.below.size h.1))
  replace halT := halT.trans hal10
  replace halL0 := halL0.trans hal10
  replace hx := hx.keep hal10
  replace hbkFd : Elems (roFrom R2 w8 w9) w9 8 (BlockC (roFrom R2 w8 w9) w9) adbF f.blocks := hbkFd.keep hal10 (fun _ _ h => h.keep hal10)
  replace hblF : SlV (roFrom R2 w8 w9) w9 8 (BlockC (roFrom R2 w8 w9) w9) (.slice adbF f.blocks.length capbF) f.blocks := SlV.keep hblF hal10 (fun _ _ h => h.keep hal10)
  replace hQ5 := hQ5.keep hal10
  replace hin5d : Elems (roFrom R2 w8 w9) w9 6 (InstC (roFrom R2 w8 w9) w9) adi5 x5.ins := hin5d.keep hal10 (fun _ _ h => h.keep hal10)
  replace hin5 : SlV (roFrom R2 w8 w9) w9 6 (InstC (roFrom R2 w8 w9) w9) (.slice adi5 x5.ins.length capi5) x5.ins := SlV.keep hin5 hal10 (fun _ _ h => h.keep hal10)
  replace hfin5 := hfin5.keep hal10
  replace htp5d : Elems (roFrom R2 w8 w9) w9 1 IntC adp5 x5.fin.args := htp5d.keep hal10 (fun _ _ h => h)
  replace ht15 : SlV (roFrom R2 w8 w9) w9 1 IntC (.slice adp5 x5.fin.args.length capp5) x5.fin.args := SlV.keep ht15 hal10 (fun _ _ h => h)
  replace htq5d : Elems (roFrom R2 w8 w9) w9 1 IntC adq5 x5.fin.elses := htq5d.keep hal10 (fun _ _ h => h)
  replace ht25 : SlV (roFrom R2 w8 w9) w9 1 IntC (.slice adq5 x5.fin.elses.length capq5) x5.fin.elses := SlV.keep ht25 hal10 (fun _ _ h => h)
  replace hc5 := hc5.keep (hal10 _ hr5).2
  replace hr5 := (hal10 _ hr5).1
  replace hS := hS.readNew hbl
  replace hvl := SlV.keep hvl (ro' := (roFrom R2 w8 w9)) (w' := w9) (Q' := IntC) (fun x hx => ⟨.inr hx, rfl⟩) (fun _ _ h => h)
  obtain ⟨adl, capl, rfl, hvla, hvlb, hvlc, hvld⟩ := id hvl
  have hvlm : (give16 x5).length ≤ 9223372036854775807 := by have h1 := hvla; have h2 := hvlb; unfold maxLen at h2; omega
  have hfew := few16 (hok _ (List.mem_of_getElem? hx5))
  have hgl := give16_length (hok _ (List.mem_of_getElem? hx5))
  have hp1 := (hok _ (List.mem_of_getElem? hx5)).p1; have hp0 := (hok _ (List.mem_of_getElem? hx5)).p0; have hpn := (hok _ (List.mem_of_getElem? hx5)).n
  refine WL.lenSlice Tryd.underlying55 rfl rfl rfl ?_
  refine WL.move rfl rfl rfl ?_
  refine WL.nil ?_
  refine N.seq ?_
  refine W.block ?_
  refine W.loop (α := Nat × Int) (fun ⟨j, q⟩ => [(0, .agg #[.string f.name, .int .i64 f.bind, .int .i64 f.params, .slice adbF f.blocks.length capbF]), (1, .pointer (some ⟨b1, 0, none⟩)), (2, .int .i64 0), (3, .int .i64 q), (5, .pointer (some ⟨b6, 0, none⟩)), (8, .pointer (some ⟨b1, 3, none⟩)), (9, .slice adbF f.blocks.length capbF), (10, .int .i64 (f.blocks.length : Int)), (11, .int .i64 (k : Int)), (12, .bool (decide ((k : Int) < (f.blocks.length : Int)))), (13, .pointer (some ⟨b5, o5 + k * 8, none⟩)), (14, .agg #[.int .i64 x5.params, .slice adi5 x5.ins.length capi5, .int .i64 x5.fin.kind, .int .i64 x5.fin.a, .int .i64 x5.fin.to, .slice adp5 x5.fin.args.length capp5, .int .i64 x5.fin.els, .slice adq5 x5.fin.elses.length capq5]), (15, .agg #[.int .i64 x5.params, .slice adi5 x5.ins.length capi5, .int .i64 x5.fin.kind, .int .i64 x5.fin.a, .int .i64 x5.fin.to, .slice adp5 x5.fin.args.length capp5, .int .i64 x5.fin.els, .slice adq5 x5.fin.elses.length capq5]), (16, .slice adl ((give16 x5).length) capl), (17, .int .i64 ((give16 x5).length : Int)), (18, .int .i64 (j : Int))]) (fun ⟨j, q⟩ u => St w w9 u (roFrom R2 w8 w9) [(b6, .cells #[.int .i64 x5.params, .slice adi5 x5.ins.length capi5, .int .i64 x5.fin.kind, .int .i64 x5.fin.a, .int .i64 x5.fin.to, .slice adp5 x5.fin.args.length capp5, .int .i64 x5.fin.els, .slice adq5 x5.fin.elses.length capq5] 59 (0, 0)), (b1, .cells #[.string f.name, .int .i64 f.bind, .int .i64 f.params, .slice adbF f.blocks.length capbF] 24 (0, 0))] [] ∧ j ≤ (give16 x5).length ∧ q = maxOf n ((give16 x5).take j) ∧ (0 ≤ q ∧ q ≤ 3000)) (fun ⟨j, q⟩ => (give16 x5).length - j) (0, n) ⟨rfl, rfl, rfl, rfl, rfl, rfl, rfl, rfl, rfl, rfl, rfl, rfl, rfl, rfl, rfl, rfl, trivial⟩ ⟨hS, Nat.zero_le _, rfl, hnb⟩ ?_
  clear hS
  rintro ⟨j, q⟩ w11 ⟨hS, hj, hq, hqb⟩
  refine W.seq ?_
  refine W.region ?_
  refine WL.bin rfl rfl rfl rfl rfl ?_
  refine WL.nil ?_
  refine N.seq ?_
  refine W.seq ?_
  refine W.cond rfl (fun hc12 => ?_) (fun hc12 => ?_)
  ·
   have hc12p : (j : Int) < ((give16 x5).length : Int) := by simpa using hc12
   refine W.skip ?_
   refine N.seq ?_
   refine W.seq ?_
   refine W.block ?_
   refine W.seq ?_
   refine W.region ?_
   have hj13 : j < (give16 x5).length := by omega
   obtain ⟨x13, hx13⟩ : ∃ zz, (give16 x5)[j]? = some zz := ⟨_, List.getElem?_eq_getElem hj13⟩
   obtain ⟨b13, o13, cs13, hE13, hr13, hl13, hc13, hQ13⟩ := hvld j _ hx13
   obtain ⟨rfl, hi13⟩ := hQ13
   refine WL.indexAddrE (j := j) Tryd.underlying55 isz_3 rfl rfl rfl rfl hj13 hE13 ?_
   refine WL.load1 (v := .int .i64 x13) one_3 rfl rfl rfl (hS.roCells hr13 hc13 0 _ rfl) ?_
   refine WL.assign rfl rfl rfl ?_
   refine WL.nil ?_
   refine N.seq ?_
   refine W.region ?_
   refine WL.move rfl rfl rfl ?_
   refine WL.move rfl rfl rfl ?_
   have hfa := hfew.step j _ hx13
   refine WL.add (c := x13 + 1) rfl rfl rfl rfl rfl (by omega) ?_
   refine WL.max2 rfl rfl rfl rfl ?_
   refine WL.assign rfl rfl rfl ?_
   refine WL.nil ?_
   refine N.blk ?_
   refine N.seq ?_
   refine W.region ?_
   refine WL.add (c := (j : Int) + 1) rfl rfl rfl rfl (rfl) (by omega) ?_
   refine WL.move rfl rfl rfl ?_
   refine WL.nil ?_
   have hst : maxOf n ((give16 x5).take (j + 1)) = if x13 + 1 > q then x13 + 1 else q := by rw [take_next hx13, maxOf_snoc, ← hq]
   have hfx := hfew.step j _ hx13
   exact N.loop (j + 1, if x13 + 1 > q then x13 + 1 else q) ⟨rfl, rfl, rfl, rfl, rfl, rfl, rfl, rfl, rfl, rfl, rfl, rfl, rfl, rfl, rfl, rfl, trivial⟩ ⟨hS, by omega, hst.symm, by split <;> omega⟩ (by first | omega | (simp only; omega))
  have hc12p : ¬ ((j : Int) < ((give16 x5).length : Int)) := by simpa using hc12
  refine W.exit ?_
  refine X.seq ?_
  refine X.loop ?_
  refine X.blk ?_
  refine N.blk ?_
  refine N.seq ?_
  refine W.region ?_
  refine WL.add (c := (k : Int) + 1) rfl rfl rfl rfl (rfl) (by omega) ?_
  refine WL.move rfl rfl rfl ?_
  refine WL.nil ?_
  have hS := hS.dropN 1
  have hst : manyAt f (k + 1) = q := by rw [manyAt_succ hx5, ← hn, hq, show j = (give16 x5).length by omega, List.take_length]
  exact N.loop (k + 1, q, (roFrom R2 w8 w9), w9) ⟨rfl, rfl, rfl, rfl, rfl, rfl, rfl, rfl, trivial⟩ ⟨hS, by omega, hst.symm, by omega, halL0, hsub⟩ (by first | omega | (simp only; omega))
 have hc4p : ¬ ((k : Int) < (f.blocks.length : Int)) := by simpa using hc4
 refine W.exit ?_
 refine X.seq ?_
 refine X.loop ?_
 refine X.blk ?_
 refine N.seq ?_
 refine W.seq ?_
 refine W.region ?_
 refine WL.move rfl rfl rfl ?_
 refine WL.assign rfl rfl rfl ?_
 refine WL.nil ?_
 refine N.seq ?_
 refine Fin.ret1 rfl (v := .int .i64 n) rfl ?_
 rw [show k = f.blocks.length by omega, manyAt_full] at hn
 exact ⟨by rw [hn], hS.below⟩

end Go.Proofs.YtcmmhfknkldmcaaDoor
