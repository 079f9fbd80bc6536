/-
  Contracts of layer 16 (slot). No condition beyond those that each theorem states.
-/
import Derived.Test.YtcmmhfknkldmcaaDoorS4
namespace Go.Proofs.YtcmmhfknkldmcaaDoor
open Go.RowKit

structure RApart (b : DBlock) (l : List Int) : Prop where
  len : l.length = (last16 b).length
  nn : ∀ (v : Nat) x, l[v]? = some x → 0 ≤ x
  ap : ∀ (v w : Nat) x z, w < v → l[v]? = some x → l[w]? = some x → (last16 b)[w]? = some z → b.params ≤ v ∧ z ≤ v - b.params
/-- What stands between the steps: whose value is needed still holds its slot. -/
structure Inv16 (b : DBlock) (v : Nat) (T : Int → Option Int) (out : List Int) : Prop where
  low : ∀ w : Nat, w < v → (w : Int) < b.params → out[w]? = some (w : Int)
  held : ∀ (w : Nat) x z, w < v → out[w]? = some x → (last16 b)[w]? = some z → ((v : Int) ≤ b.params ∨ (v : Int) - 1 - b.params < z) → T x = some z
  ap : ∀ (u w : Nat) x z, w < u → out[u]? = some x → out[w]? = some x → (last16 b)[w]? = some z → b.params ≤ u ∧ z ≤ u - b.params
theorem inv16 {b : DBlock} (hok : Ok16 b) (v : Nat) (hv : v ≤ (last16 b).length) : Inv16 b v (giveAt16 b v).1 (giveAt16 b v).2 := by
  induction v with
  | zero => exact ⟨fun w h => by omega, fun w x z h => by omega, fun u w x z _ h => by simp [giveAt16] at h⟩
  | succ v ih =>
    obtain ⟨i1, i2, i3⟩ := ih (by omega)
    have hg := given16 hok v (by omega)
    have hlen := hg.len
    have hget : (last16 b).getD v 0 = (last16 b)[v]'(by omega) := by rw [List.getD_eq_getElem?_getD, List.getElem?_eq_getElem (by omega)]; rfl
    have hlv : ∀ z, (last16 b)[v]? = some z → z = (last16 b).getD v 0 := fun z hz => by rw [List.getD_eq_getElem?_getD, hz]; rfl
    rw [giveAt16_succ]
    unfold giveStep16
    have old : ∀ {x f : Int} {w : Nat}, w < v → ((giveAt16 b v).2 ++ [f])[w]? = some x → (giveAt16 b v).2[w]? = some x := fun hw h => by rwa [List.getElem?_append_left (by omega)] at h
    have new : ∀ {x f : Int}, ((giveAt16 b v).2 ++ [f])[v]? = some x → x = f := fun h => by
      rw [List.getElem?_append_right (by omega), hlen, Nat.sub_self] at h; simpa using h.symm
    by_cases hp : (v : Int) < b.params
    · rw [if_pos hp]
      refine ⟨fun w hw hwp => ?_, fun w x z hw hx hz hc => ?_, fun u w x z hwu hu hx hz => ?_⟩
      · by_cases e : w = v
        · subst e; rw [List.getElem?_append_right (by omega), hlen]; simp
        · rw [List.getElem?_append_left (by omega)]; exact i1 w (by omega) hwp
      · simp only [updG]
        by_cases e : w = v
        · subst e; rw [if_pos (new hx), hlv z hz]
        · have hx' := old (by omega) hx
          have h1 := i1 w (by omega) (by omega)
          rw [h1] at hx'; cases hx'
          rw [if_neg (by omega)]
          exact i2 w _ z (by omega) h1 hz (.inl (by omega))
      · by_cases e : u = v
        · subst e
          have h1 := i1 w hwu (by omega)
          have h2 := old hwu hx
          rw [h1] at h2; cases h2
          have := new hu
          omega
        · have hul : u < v := by
            have := (List.getElem?_eq_some_iff.1 hu).1
            rw [List.length_append, List.length_cons, List.length_nil] at this; omega
          exact i3 u w x z hwu (old hul hu) (old (by omega) hx) hz
    · rw [if_neg hp]
      have hf := first16_spec (T := freeG (giveAt16 b v).1 ((v : Int) - b.params)) (n := (last16 b).length) (out := (giveAt16 b v).2) (fun k l h => hg.key k l (freeG_some h).1) (by omega)
      have keep : ∀ (w : Nat) x z, w < v → (giveAt16 b v).2[w]? = some x → (last16 b)[w]? = some z → (v : Int) - b.params < z → freeG (giveAt16 b v).1 ((v : Int) - b.params) x = some z := fun w x z hw hx hz hc => by
        have h1 := i2 w x z hw hx hz (by omega)
        unfold freeG
        rw [h1]
        dsimp only
        rw [if_neg (by omega)]
      refine ⟨fun w hw hwp => ?_, fun w x z hw hx hz hc => ?_, fun u w x z hwu hu hx hz => ?_⟩
      · rw [List.getElem?_append_left (by omega)]; exact i1 w (by omega) hwp
      · simp only [updG]
        by_cases e : w = v
        · subst e; rw [if_pos (new hx), hlv z hz]
        · have h1 := keep w x z (by omega) (old (by omega) hx) hz (by omega)
          rw [if_neg (fun e => by rw [e, hf.1] at h1; cases h1)]
          exact h1
      · by_cases e : u = v
        · subst e
          refine ⟨by omega, ?_⟩
          by_cases hc : (u : Int) - b.params < z
          · have h1 := keep w x z hwu (old hwu hx) hz hc
            rw [new hu, hf.1] at h1; cases h1
          · omega
        · have hul : u < v := by
            have := (List.getElem?_eq_some_iff.1 hu).1
            rw [List.length_append, List.length_cons, List.length_nil] at this; omega
          exact i3 u w x z hwu (old hul hu) (old (by omega) hx) hz
end Go.Proofs.YtcmmhfknkldmcaaDoor

namespace Go.Proofs.YtcmmhfknkldmcaaDoor
open Go.RowKit

def maxOf (acc : Int) (l : List Int) : Int := l.foldl (fun n s => if s + 1 > n then s + 1 else n) acc
theorem maxOf_snoc (acc : Int) (l : List Int) (x : Int) : maxOf acc (l ++ [x]) = if x + 1 > maxOf acc l then x + 1 else maxOf acc l := by simp [maxOf]
def many16 (f : DFunc) : Int := f.blocks.foldl (fun n b => maxOf n (give16 b)) 0
def manyAt (f : DFunc) (k : Nat) : Int := (f.blocks.take k).foldl (fun n b => maxOf n (give16 b)) 0
theorem manyAt_succ {f : DFunc} {k : Nat} {b : DBlock} (h : f.blocks[k]? = some b) : manyAt f (k + 1) = maxOf (manyAt f k) (give16 b) := by
  unfold manyAt; rw [take_next h, List.foldl_append]; rfl
theorem maxOf_le {acc M : Int} {l : List Int} (ha : acc ≤ M) (h : ∀ x ∈ l, x + 1 ≤ M) : maxOf acc l ≤ M := by
  induction l using snoc_ind with
  | h0 => exact ha
  | h1 l x ih =>
    rw [maxOf_snoc]
    split
    · exact h x (by simp)
    · exact ih fun y hy => h y (List.mem_append_left _ hy)
theorem maxOf_ge {acc : Int} {l : List Int} : acc ≤ maxOf acc l ∧ ∀ x ∈ l, x < maxOf acc l := by
  induction l using snoc_ind with
  | h0 => exact ⟨Int.le_refl _, fun x h => by cases h⟩
  | h1 l x ih =>
    rw [maxOf_snoc]
    refine ⟨by split <;> omega, fun y hy => ?_⟩
    simp only [List.mem_append, List.mem_cons, List.not_mem_nil, or_false] at hy
    rcases hy with hy | hy
    · have := ih.2 y hy; split <;> omega
    · subst hy; split <;> omega
theorem many16_ge {f : DFunc} {b : DBlock} {x : Int} (hb : b ∈ f.blocks) (hx : x ∈ give16 b) : x < many16 f := by
  obtain ⟨k, hk⟩ := List.mem_iff_getElem?.1 hb
  have h1 : x < manyAt f (k + 1) := by rw [manyAt_succ hk]; exact maxOf_ge.2 x hx
  have mono : ∀ (l : List DBlock) (n : Int), n ≤ l.foldl (fun n b => maxOf n (give16 b)) n := fun l => by
    induction l with
    | nil => intro n; exact Int.le_refl _
    | cons c l ih => intro n; exact Int.le_trans maxOf_ge.1 (ih _)
  have h2 : manyAt f (k + 1) ≤ many16 f := by
    have e : f.blocks = f.blocks.take (k + 1) ++ f.blocks.drop (k + 1) := (List.take_append_drop _ _).symm
    unfold many16 manyAt
    conv => rhs; rw [e, List.foldl_append]
    exact mono _ _
  omega
theorem manyAt_le {f : DFunc} {M : Int} (h0 : 0 ≤ M) (k : Nat) (h : ∀ b ∈ f.blocks.take k, ∀ x ∈ give16 b, x + 1 ≤ M) : manyAt f k ≤ M := by
  induction k with
  | zero => exact h0
  | succ k ih =>
    by_cases hk : k < f.blocks.length
    · have hb : f.blocks[k]? = some f.blocks[k] := List.getElem?_eq_getElem hk
      rw [manyAt_succ hb]
      rw [take_next hb] at h
      exact maxOf_le (ih fun b hb => h b (List.mem_append_left _ hb)) (h _ (List.mem_append_right _ (List.mem_singleton.2 rfl)))
    · have e : f.blocks.take (k + 1) = f.blocks.take k := by rw [List.take_of_length_le (by omega), List.take_of_length_le (by omega)]
      rw [e] at h
      have : manyAt f (k + 1) = manyAt f k := by unfold manyAt; rw [e]
      rw [this]; exact ih h
theorem manyAt_full (f : DFunc) : manyAt f f.blocks.length = many16 f := by unfold manyAt many16; rw [List.take_length]
/-- How slots are given: each one is 0, or one more than one that was given before. -/
structure Few16 (b : DBlock) (out : List Int) : Prop where
  step : ∀ (i : Nat) x, out[i]? = some x → 0 ≤ x ∧ x ≤ i ∧ (x = 0 ∨ x - 1 ∈ out.take i)
  low : ∀ (i : Nat) x, out[i]? = some x → (i : Int) < b.params → x = i
theorem few16_at {b : DBlock} (hok : Ok16 b) (v : Nat) (hv : v ≤ (last16 b).length) : Few16 b (giveAt16 b v).2 := by
  induction v with
  | zero => exact ⟨fun i x h => by simp [giveAt16] at h, fun i x h => by simp [giveAt16] at h⟩
  | succ v ih =>
    obtain ⟨i1, i2⟩ := ih (by omega)
    have hg := given16 hok v (by omega)
    have hlen := hg.len
    have hi := inv16 hok v (by omega)
    have key : ∀ f : Int, (∃ F : Nat, f = F ∧ F ≤ v ∧ (F = 0 ∨ ((F : Int) - 1) ∈ (giveAt16 b v).2) ∧ ((v : Int) < b.params → F = v)) → Few16 b ((giveAt16 b v).2 ++ [f]) := fun f ⟨F, hF, h1, h2, h3⟩ => by
      refine ⟨fun i x hx => ?_, fun i x hx hp => ?_⟩
      · by_cases e : i < v
        · rw [List.getElem?_append_left (by omega)] at hx
          rw [List.take_append_of_le_length (by omega)]
          exact i1 i x hx
        · have hiv : i = v := by have := (List.getElem?_eq_some_iff.1 hx).1; rw [List.length_append, List.length_cons, List.length_nil] at this; omega
          subst hiv
          rw [List.getElem?_append_right (by omega), hlen, Nat.sub_self] at hx
          simp only [List.getElem?_cons_zero, Option.some.injEq] at hx
          subst hx
          rw [List.take_append_of_le_length (by omega), List.take_of_length_le (by omega), hF]
          exact ⟨by omega, by omega, h2.imp (fun h => by omega) id⟩
      · by_cases e : i < v
        · rw [List.getElem?_append_left (by omega)] at hx; exact i2 i x hx hp
        · have hiv : i = v := by have := (List.getElem?_eq_some_iff.1 hx).1; rw [List.length_append, List.length_cons, List.length_nil] at this; omega
          subst hiv
          rw [List.getElem?_append_right (by omega), hlen, Nat.sub_self] at hx
          simp only [List.getElem?_cons_zero, Option.some.injEq] at hx
          rw [← hx, hF, h3 hp]
    rw [giveAt16_succ]
    unfold giveStep16
    split
    · rename_i hp
      refine key _ ⟨v, rfl, Nat.le_refl _, ?_, fun _ => rfl⟩
      by_cases e : v = 0
      · exact .inl e
      · have := hi.low (v - 1) (by omega) (by omega)
        right
        have h2 := List.mem_of_getElem? this
        rwa [show ((v - 1 : Nat) : Int) = (v : Int) - 1 by omega] at h2
    · rename_i hp
      have hf := first16_spec (T := freeG (giveAt16 b v).1 ((v : Int) - b.params)) (n := (last16 b).length) (out := (giveAt16 b v).2) (fun k l h => hg.key k l (freeG_some h).1) (by omega)
      have hin : ∀ j : Nat, j < first16 (freeG (giveAt16 b v).1 ((v : Int) - b.params)) (last16 b).length → (j : Int) ∈ (giveAt16 b v).2 := fun j hj => by
        obtain ⟨l, hl⟩ := Option.isSome_iff_exists.1 (hf.2.2 j hj)
        exact hg.key _ l (freeG_some hl).1
      refine key _ ⟨_, rfl, ?_, ?_, fun h => absurd h hp⟩
      · have := nodup_le ((List.range (first16 (freeG (giveAt16 b v).1 ((v : Int) - b.params)) (last16 b).length)).map fun s : Nat => (s : Int)) (giveAt16 b v).2 (List.pairwise_map.2 (List.nodup_range.imp fun h e => h (Int.ofNat.inj e))) fun x hx => by
          obtain ⟨s, hs, rfl⟩ := List.mem_map.1 hx
          exact hin s (List.mem_range.1 hs)
        rw [List.length_map, List.length_range] at this
        omega
      · generalize hFe : first16 (freeG (giveAt16 b v).1 ((v : Int) - b.params)) (last16 b).length = F at hin ⊢
        by_cases e : F = 0
        · exact .inl e
        · right
          have := hin (F - 1) (by omega)
          rwa [show ((F - 1 : Nat) : Int) = (F : Int) - 1 by omega] at this
theorem few16 {b : DBlock} (hok : Ok16 b) : Few16 b (give16 b) := few16_at hok _ (Nat.le_refl _)

set_option maxRecDepth 10000 in
set_option maxHeartbeats 2000000 in
theorem many16_ret (f : DFunc) (cf : List Value) {w : World} {ro : Nat → Prop} (hro : ∀ b, ro b → b < w.heap.size) (hx : FuncC ro w cf f) (hok : ∀ b ∈ f.blocks, Ok16 b) : Ret Tryd.prog 23 #[.agg cf.toArray] w fun v w' => v = .int .i64 (many16 f) ∧ Below w.heap.size w w' := by
 obtain ⟨sbF, rfl, hblF, hnmF, hbdF, hprF⟩ := id hx
 obtain ⟨adbF, capbF, rfl, hbkFa, hbkFb, hbkFc, hbkFd⟩ := id hblF
 have hbkFm : f.blocks.length ≤ 9223372036854775807 := by have h1 := hbkFa; have h2 := hbkFb; unfold maxLen at h2; omega
 refine Ret.enter (P := Tryd.prog) (n := 29) (args := [.agg #[.string f.name, .int .i64 f.bind, .int .i64 f.params, .slice adbF f.blocks.length capbF]]) (σ := [(0, .agg #[.string f.name, .int .i64 f.bind, .int .i64 f.params, .slice adbF f.blocks.length capbF])]) Tryd.func23 rfl rfl rfl rfl ?_
 have hS := St.start (ro := ro) hro
 have hsub : ∀ b, ro b → ro b ∨ w.heap.size ≤ b := fun _ h => .inl h
 refine W.seq (W.region ?_)
 refine WL.box (v := .agg #[.string f.name, .int .i64 f.bind, .int .i64 f.params, .slice adbF f.blocks.length capbF]) (cs := [.string f.name, .int .i64 f.bind, .int .i64 f.params, .slice adbF f.blocks.length capbF]) rfl rfl rfl rfl hS ?_
 clear hS; intro w2 b1 hb_b1 hS
 refine WL.assign rfl rfl rfl (WL.nil (N.seq (W.seq (W.region (WL.assign rfl rfl rfl (WL.nil (N.seq (W.seq (W.seq ?_)))))))))
 refine W.region (WL.fieldAddr fo_24_3 rfl rfl rfl (WL.load1 (v := .slice adbF f.blocks.length capbF) one_22 rfl rfl rfl (hS.cell 0 rfl rfl) (WL.lenSlice Tryd.underlying22 rfl rfl rfl (WL.move rfl rfl rfl (WL.nil (N.seq (W.block ?_)))))))
 refine W.loop (α := Nat × Int × (Nat → Prop) × World) (fun ⟨k, n, R2, ws2⟩ => [(2, .int .i64 0), (3, .int .i64 n), (9, .slice adbF f.blocks.length capbF), (10, .int .i64 (f.blocks.length : Int)), (11, .int .i64 (k : Int))]) (fun ⟨k, n, R2, ws2⟩ u => St w ws2 u R2 [(b1, .cells #[.string f.name, .int .i64 f.bind, .int .i64 f.params, .slice adbF f.blocks.length capbF] 24 (0, 0))] [] ∧ k ≤ f.blocks.length ∧ n = manyAt f k ∧ (0 ≤ n ∧ n ≤ 3000) ∧ Alike ro w R2 ws2 ∧ (∀ b, R2 b → ro b ∨ w.heap.size ≤ b)) (fun ⟨k, n, R2, ws2⟩ => f.blocks.length - k) (0, 0, ro, w) ⟨rfl, rfl, rfl, rfl, rfl, trivial⟩ ⟨hS, Nat.zero_le _, rfl, by omega, Alike.refl, hsub⟩ ?_
 clear hS
 rintro ⟨k, n, R2, ws2⟩ w3 ⟨hS, hk, hn, hnb, halL0, hsub⟩
 replace hx := hx.keep halL0
 replace hbkFd := hbkFd.keep halL0 (fun _ _ h => h.keep halL0)
 refine W.seq (W.region (WL.bin rfl rfl rfl rfl rfl (WL.nil (N.seq (W.seq ?_)))))
 refine W.cond rfl (fun hc4 => ?_) (fun hc4 => ?_)
 ·
  have hc4p : (k : Int) < (f.blocks.length : Int) := by simpa using hc4
  refine W.skip (N.seq (W.seq (W.block (W.seq (W.region ?_)))))
  have hj5 : k < f.blocks.length := by omega
  obtain ⟨x5, hx5, b5, o5, cs5, hE5, hr5, _, hc5, hQ5⟩ := opn hbkFd hj5
  obtain ⟨si5, tsx5, rfl, hin5, hfin5, hpar5⟩ := id hQ5
  obtain ⟨adi5, capi5, rfl, hin5a, hin5b, hin5c, hin5d⟩ := id hin5
  have hin5m : x5.ins.length ≤ 9223372036854775807 := by have h1 := hin5a; have h2 := hin5b; unfold maxLen at h2; omega
  obtain ⟨sp5, sq5, rfl, ht15, ht25, htk5, hta5, htt5, hte5⟩ := id hfin5
  obtain ⟨adp5, capp5, rfl, htp5a, htp5b, htp5c, htp5d⟩ := id ht15
  have htp5m : x5.fin.args.length ≤ 9223372036854775807 := by have h1 := htp5a; have h2 := htp5b; unfold maxLen at h2; omega
  obtain ⟨adq5, capq5, rfl, htq5a, htq5b, htq5c, htq5d⟩ := id ht25
  have htq5m : x5.fin.elses.length ≤ 9223372036854775807 := by have h1 := htq5a; have h2 := htq5b; unfold maxLen at h2; omega
  refine WL.indexAddrE (j := k) Tryd.underlying22 isz_59 rfl rfl rfl rfl hj5 hE5 (WL.loadN (cs := [.int .i64 x5.params, .slice adi5 x5.ins.length capi5, .int .i64 x5.fin.kind, .int .i64 x5.fin.a, .int .i64 x5.fin.to, .slice adp5 x5.fin.args.length capp5, .int .i64 x5.fin.els, .slice adq5 x5.fin.elses.length capq5]) agg_59 rfl rfl rfl rfl (hS.roCells hr5 hc5) ?_)
  refine WL.alloc (tyZero_spec zer_59) rfl rfl hS ?_
  clear hS; intro w7 b6 hb_b6 hS
  refine WL.store0 #[.int .i64 x5.params, .slice adi5 x5.ins.length capi5, .int .i64 x5.fin.kind, .int .i64 x5.fin.a, .int .i64 x5.fin.to, .slice adp5 x5.fin.args.length capp5, .int .i64 x5.fin.els, .slice adq5 x5.fin.elses.length capq5] rfl rfl rfl rfl siz_59 rfl rfl rfl hS ?_
  clear hS; intro w8 hS
  refine WL.nil (N.seq (W.seq (W.region (WL.loadN (cs := [.int .i64 x5.params, .slice adi5 x5.ins.length capi5, .int .i64 x5.fin.kind, .int .i64 x5.fin.a, .int .i64 x5.fin.to, .slice adp5 x5.fin.args.length capp5, .int .i64 x5.fin.els, .slice adq5 x5.fin.elses.length capq5]) agg_59 rfl rfl rfl rfl (hS.cells 0 (m := 8) rfl rfl) ?_))))
  refine WL.callF (vs := [.agg #[.int .i64 x5.params, .slice adi5 x5.ins.length capi5, .int .i64 x5.fin.kind, .int .i64 x5.fin.a, .int .i64 x5.fin.to, .slice adp5 x5.fin.args.length capp5, .int .i64 x5.fin.els, .slice adq5 x5.fin.elses.length capq5]]) Tryd.func26 (by kernel_rfl) rfl rfl rfl (give16_ret x5 _ (ro := R2) (fun b hb => (hS.snap b hb).1) (hQ5.keep hS.alike) (hok _ (List.mem_of_getElem? hx5))) ?_
  rintro vl w9 ⟨hvl, hbl⟩
  have hal10 := hS.alikeTo hbl (ro' := (roFrom R2 w8 w9)) (fun b hb => .inl hb)
  replace hsub : ∀ b, (roFrom R2 w8 w9) b → ro b ∨ w.heap.size ≤ b := fun b hb => hb.elim (hsub b) (fun h => .inr (Nat.le_trans hS.below.size h.1))
  replace halL0 := halL0.trans hal10
  replace hx := hx.keep hal10
  replace hS := hS.readNew hbl
  replace hvl := SlV.keep hvl (ro' := (roFrom R2 w8 w9)) (w' := w9) (Q' := IntC) (fun x hx => ⟨.inr hx, rfl⟩) (fun _ _ h => h)
  obtain ⟨adl, capl, rfl, hvla, hvlb, hvlc, hvld⟩ := id hvl
  have hvlm : (give16 x5).length ≤ 9223372036854775807 := by have h1 := hvla; have h2 := hvlb; unfold maxLen at h2; omega
  have hfew := few16 (hok _ (List.mem_of_getElem? hx5))
  have hgl := give16_length (hok _ (List.mem_of_getElem? hx5))
  have hp1 := (hok _ (List.mem_of_getElem? hx5)).p1; have hp0 := (hok _ (List.mem_of_getElem? hx5)).p0; have hpn := (hok _ (List.mem_of_getElem? hx5)).n
  refine WL.lenSlice Tryd.underlying55 rfl rfl rfl (WL.move rfl rfl rfl (WL.nil (N.seq (W.block ?_))))
  refine W.loop (α := Nat × Int) (fun ⟨j, q⟩ => [(2, .int .i64 0), (3, .int .i64 q), (9, .slice adbF f.blocks.length capbF), (10, .int .i64 (f.blocks.length : Int)), (11, .int .i64 (k : Int)), (16, .slice adl ((give16 x5).length) capl), (17, .int .i64 ((give16 x5).length : Int)), (18, .int .i64 (j : Int))]) (fun ⟨j, q⟩ u => St w w9 u (roFrom R2 w8 w9) [(b6, .cells #[.int .i64 x5.params, .slice adi5 x5.ins.length capi5, .int .i64 x5.fin.kind, .int .i64 x5.fin.a, .int .i64 x5.fin.to, .slice adp5 x5.fin.args.length capp5, .int .i64 x5.fin.els, .slice adq5 x5.fin.elses.length capq5] 59 (0, 0)), (b1, .cells #[.string f.name, .int .i64 f.bind, .int .i64 f.params, .slice adbF f.blocks.length capbF] 24 (0, 0))] [] ∧ j ≤ (give16 x5).length ∧ q = maxOf n ((give16 x5).take j) ∧ (0 ≤ q ∧ q ≤ 3000)) (fun ⟨j, q⟩ => (give16 x5).length - j) (0, n) ⟨rfl, rfl, rfl, rfl, rfl, rfl, rfl, rfl, trivial⟩ ⟨hS, Nat.zero_le _, rfl, hnb⟩ ?_
  clear hS
  rintro ⟨j, q⟩ w11 ⟨hS, hj, hq, hqb⟩
  refine W.seq (W.region (WL.bin rfl rfl rfl rfl rfl (WL.nil (N.seq (W.seq ?_)))))
  refine W.cond rfl (fun hc12 => ?_) (fun hc12 => ?_)
  ·
   have hc12p : (j : Int) < ((give16 x5).length : Int) := by simpa using hc12
   refine W.skip (N.seq (W.seq (W.block (W.seq (W.region ?_)))))
   have hj13 : j < (give16 x5).length := by omega
   obtain ⟨x13, hx13, b13, o13, cs13, hE13, hr13, _, hc13, hQ13⟩ := opn hvld hj13
   obtain ⟨rfl, hi13⟩ := hQ13
   refine WL.indexAddrE (j := j) Tryd.underlying55 isz_3 rfl rfl rfl rfl hj13 hE13 (WL.load1 (v := .int .i64 x13) one_3 rfl rfl rfl (hS.roCells hr13 hc13 0 _ rfl) (WL.assign rfl rfl rfl (WL.nil (N.seq (W.region (WL.move rfl rfl rfl (WL.move rfl rfl rfl ?_)))))))
   have hfa := hfew.step j _ hx13
   refine WL.add (c := x13 + 1) rfl rfl rfl rfl rfl (by omega) ?_
   refine WL.max2 rfl rfl rfl rfl ?_
   refine WL.assign rfl rfl rfl (WL.nil (N.blk (N.seq (W.region ?_))))
   refine WL.add (c := (j : Int) + 1) rfl rfl rfl rfl (rfl) (by omega) ?_
   refine WL.move rfl rfl rfl (WL.nil ?_)
   have hst : maxOf n ((give16 x5).take (j + 1)) = if x13 + 1 > q then x13 + 1 else q := by rw [take_next hx13, maxOf_snoc, ← hq]
   have hfx := hfew.step j _ hx13
   exact N.loop (j + 1, if x13 + 1 > q then x13 + 1 else q) ⟨rfl, rfl, rfl, rfl, rfl, rfl, rfl, rfl, trivial⟩ ⟨hS, by omega, hst.symm, by split <;> omega⟩ (by first | omega | (simp only; omega))
  have hc12p : ¬ ((j : Int) < ((give16 x5).length : Int)) := by simpa using hc12
  refine W.exit (X.seq (X.loop (X.blk (N.blk (N.seq (W.region ?_))))))
  refine WL.add (c := (k : Int) + 1) rfl rfl rfl rfl (rfl) (by omega) ?_
  refine WL.move rfl rfl rfl (WL.nil ?_)
  have hS := hS.dropN 1
  have hst : manyAt f (k + 1) = q := by rw [manyAt_succ hx5, ← hn, hq, show j = (give16 x5).length by omega, List.take_length]
  exact N.loop (k + 1, q, (roFrom R2 w8 w9), w9) ⟨rfl, rfl, rfl, rfl, rfl, trivial⟩ ⟨hS, by omega, hst.symm, by omega, halL0, hsub⟩ (by first | omega | (simp only; omega))
 have hc4p : ¬ ((k : Int) < (f.blocks.length : Int)) := by simpa using hc4
 refine W.exit (X.seq (X.loop (X.blk (N.seq (W.seq (W.region (WL.move rfl rfl rfl (WL.assign rfl rfl rfl (WL.nil ?_)))))))))
 refine N.seq ?_
 refine Fin.ret1 rfl (v := .int .i64 n) rfl ?_
 rw [show k = f.blocks.length by omega, manyAt_full] at hn
 exact ⟨by rw [hn], hS.below⟩

end Go.Proofs.YtcmmhfknkldmcaaDoor
