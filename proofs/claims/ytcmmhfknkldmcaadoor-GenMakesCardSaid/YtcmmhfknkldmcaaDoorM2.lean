/-
  Contracts of layer 17 (gen). No condition beyond those that each theorem states.
-/
import Derived.Test.YtcmmhfknkldmcaaDoorG13
namespace Go.Proofs.YtcmmhfknkldmcaaDoor
open Go.RowKit

def rfree16 (b : DBlock) (out : List Int) (s step : Int) (q : Nat) : Bool := (List.range q).all fun w => decide (out.getD w 0 ≠ s) || decide ((last16 b).getD w 0 ≤ step)
theorem rfree16_succ (b : DBlock) (out : List Int) (s step : Int) (q : Nat) : rfree16 b out s step (q + 1) = (rfree16 b out s step q && (decide (out.getD q 0 ≠ s) || decide ((last16 b).getD q 0 ≤ step))) := by
  unfold rfree16; rw [List.range_succ, List.all_append]; simp
theorem getD_of {l : List Int} {i : Nat} {x : Int} (h : l[i]? = some x) : l.getD i 0 = x := by rw [List.getD_eq_getElem?_getD, h]; rfl
theorem key16 {b : DBlock} (hok : Ok16 b) (v : Nat) (hv : v ≤ (last16 b).length) : ∀ k l, (giveAt16 b v).1 k = some l → ∃ w : Nat, w < v ∧ (giveAt16 b v).2[w]? = some k ∧ (last16 b)[w]? = some l := by
  induction v with
  | zero => intro k l h; simp [giveAt16] at h
  | succ v ih =>
    have hg := given16 hok v (by omega)
    have hlen := hg.len
    have hget : (last16 b)[v]? = some ((last16 b).getD v 0) := by rw [List.getD_eq_getElem?_getD, List.getElem?_eq_getElem (by omega)]; rfl
    have old : ∀ {k l x : Int}, (∃ w : Nat, w < v ∧ (giveAt16 b v).2[w]? = some k ∧ (last16 b)[w]? = some l) → ∃ w : Nat, w < v + 1 ∧ ((giveAt16 b v).2 ++ [x])[w]? = some k ∧ (last16 b)[w]? = some l := fun ⟨w, h1, h2, h3⟩ => ⟨w, by omega, by rw [List.getElem?_append_left (by omega)]; exact h2, h3⟩
    have new : ∀ x : Int, ∃ w : Nat, w < v + 1 ∧ ((giveAt16 b v).2 ++ [x])[w]? = some x ∧ (last16 b)[w]? = some ((last16 b).getD v 0) := fun x => ⟨v, by omega, by rw [List.getElem?_append_right (by omega), hlen]; simp, hget⟩
    intro k l h
    rw [giveAt16_succ] at h ⊢
    unfold giveStep16 at h ⊢
    by_cases hp : (v : Int) < b.params
    · rw [if_pos hp] at h ⊢
      simp only [updG] at h
      split at h
      · rename_i e; cases h; rw [e]; exact new _
      · exact old (ih (by omega) k l h)
    · rw [if_neg hp] at h ⊢
      simp only [updG] at h
      split at h
      · rename_i e; cases h; rw [e]; exact new _
      · exact old (ih (by omega) k l (freeG_some h).1)
theorem rfree16_iff {b : DBlock} (hok : Ok16 b) {v s : Nat} (hv : v < (last16 b).length) (hp : ¬ (v : Int) < b.params) :
    rfree16 b (giveAt16 b v).2 (s : Int) ((v : Int) - b.params) v = (freeG (giveAt16 b v).1 ((v : Int) - b.params) (s : Int)).isNone := by
  have hg := given16 hok v (by omega)
  have hlen := hg.len
  rw [Bool.eq_iff_iff]
  constructor
  · intro h
    cases e : freeG (giveAt16 b v).1 ((v : Int) - b.params) (s : Int) with
    | none => rfl
    | some l =>
      exfalso
      obtain ⟨h1, h2⟩ := freeG_some e
      obtain ⟨w, hw, ho, hl⟩ := key16 hok v (by omega) _ _ h1
      have h3 := List.all_eq_true.1 h w (List.mem_range.2 hw)
      rw [getD_of ho, getD_of hl] at h3
      simp at h3
      exact h2 h3
  · intro h
    refine List.all_eq_true.2 fun w hw => ?_
    have hw' := List.mem_range.1 hw
    have hx : (giveAt16 b v).2[w]? = some ((giveAt16 b v).2[w]'(by omega)) := List.getElem?_eq_getElem (by omega)
    have hz : (last16 b)[w]? = some ((last16 b)[w]'(by omega)) := List.getElem?_eq_getElem (by omega)
    generalize (giveAt16 b v).2[w]'(by omega) = x at hx
    generalize (last16 b)[w]'(by omega) = z at hz
    rw [getD_of hx, getD_of hz]
    by_cases hxs : x = (s : Int)
    · by_cases hzs : z ≤ (v : Int) - b.params
      · simp [hzs]
      · exfalso
        have h1 := (inv16 hok v (by omega)).held w x z hw' hx hz (.inr (by omega))
        rw [← hxs] at h
        unfold freeG at h
        rw [h1] at h
        dsimp only at h
        rw [if_neg hzs] at h
        simp at h
    · simp [hxs]

set_option maxRecDepth 10000 in
set_option maxHeartbeats 4000000 in
theorem rgive16_ret (b : DBlock) (cs : List Value) {w : World} {ro : Nat → Prop} (hro : ∀ b, ro b → b < w.heap.size) (hb : BlockC ro w cs b) (hok : Ok16 b) : Ret Tryd.prog 55 #[.agg cs.toArray] w fun v w' => SlV (fun b => w.heap.size ≤ b ∧ b < w'.heap.size) w' 1 IntC v (give16 b) ∧ Below w.heap.size w w' := by
 obtain ⟨si, tsx, rfl, hin, hfin, hpar⟩ := id hb
 obtain ⟨adi, capi, rfl, hina, hinb, hinc, hind⟩ := id hin
 have hinm : b.ins.length ≤ 9223372036854775807 := by have h1 := hina; have h2 := hinb; unfold maxLen at h2; omega
 obtain ⟨sp, sq, rfl, ht1, ht2, htk, hta, htt, hte⟩ := id hfin
 obtain ⟨adp, capp, rfl, htpa, htpb, htpc, htpd⟩ := id ht1
 have htpm : b.fin.args.length ≤ 9223372036854775807 := by have h1 := htpa; have h2 := htpb; unfold maxLen at h2; omega
 obtain ⟨adq, capq, rfl, htqa, htqb, htqc, htqd⟩ := id ht2
 have htqm : b.fin.elses.length ≤ 9223372036854775807 := by have h1 := htqa; have h2 := htqb; unfold maxLen at h2; omega
 refine Ret.enter (P := Tryd.prog) (n := 57) (args := [.agg #[.int .i64 b.params, .slice adi b.ins.length capi, .int .i64 b.fin.kind, .int .i64 b.fin.a, .int .i64 b.fin.to, .slice adp b.fin.args.length capp, .int .i64 b.fin.els, .slice adq b.fin.elses.length capq]]) (σ := [(0, .agg #[.int .i64 b.params, .slice adi b.ins.length capi, .int .i64 b.fin.kind, .int .i64 b.fin.a, .int .i64 b.fin.to, .slice adp b.fin.args.length capp, .int .i64 b.fin.els, .slice adq b.fin.elses.length capq])]) Tryd.func55 rfl rfl rfl rfl ?_
 have hS := St.start (ro := ro) hro
 have hokn := hok.n; have hokp := hok.p0; have hokq := hok.p1
 have hsub : ∀ b, ro b → ro b ∨ w.heap.size ≤ b := fun _ h => .inl h
 refine W.seq (W.region ?_)
 refine WL.box (v := .agg #[.int .i64 b.params, .slice adi b.ins.length capi, .int .i64 b.fin.kind, .int .i64 b.fin.a, .int .i64 b.fin.to, .slice adp b.fin.args.length capp, .int .i64 b.fin.els, .slice adq b.fin.elses.length capq]) (cs := [.int .i64 b.params, .slice adi b.ins.length capi, .int .i64 b.fin.kind, .int .i64 b.fin.a, .int .i64 b.fin.to, .slice adp b.fin.args.length capp, .int .i64 b.fin.els, .slice adq b.fin.elses.length capq]) rfl rfl rfl rfl hS ?_
 clear hS; intro w2 b1 hb_b1 hS
 refine WL.assign rfl rfl rfl (WL.nil (N.seq (W.seq (W.region (WL.loadN (cs := [.int .i64 b.params, .slice adi b.ins.length capi, .int .i64 b.fin.kind, .int .i64 b.fin.a, .int .i64 b.fin.to, .slice adp b.fin.args.length capp, .int .i64 b.fin.els, .slice adq b.fin.elses.length capq]) agg_59 rfl rfl rfl rfl (hS.cells 0 (m := 8) rfl rfl) ?_)))))
 refine WL.callF (vs := [.agg #[.int .i64 b.params, .slice adi b.ins.length capi, .int .i64 b.fin.kind, .int .i64 b.fin.a, .int .i64 b.fin.to, .slice adp b.fin.args.length capp, .int .i64 b.fin.els, .slice adq b.fin.elses.length capq]]) Tryd.func69 (by kernel_rfl) rfl rfl rfl (rlast16_ret b _ (ro := ro) (fun b hb => (hS.snap b hb).1) (hb.keep hS.alike) hok) ?_
 rintro vl w3 ⟨hvl, hbl⟩
 have hal4 := hS.alikeTo hbl (ro' := (roFrom ro w2 w3)) (fun b hb => .inl hb)
 replace hb := hb.keep hal4
 replace hS := hS.readNew hbl
 replace hvl := SlV.keep hvl (ro' := (roFrom ro w2 w3)) (w' := w3) (Q' := IntC) (fun x hx => ⟨.inr hx, rfl⟩) (fun _ _ h => h)
 obtain ⟨adl, capadl, rfl, hvla, hvlb, hvlc, hvld⟩ := id hvl
 have hvlm : (last16 b).length ≤ 9223372036854775807 := by have h1 := hvla; have h2 := hvlb; unfold maxLen at h2; omega
 have hll := last16_length b
 refine WL.assign rfl rfl rfl (WL.nil (N.seq (W.seq (W.region (WL.assign rfl rfl rfl (WL.nil (N.seq (W.seq (W.seq ?_)))))))))
 refine W.region (WL.assign rfl rfl rfl (WL.nil (N.seq (W.block ?_))))
 replace hS := hS.row0 3 1
 refine W.loop (α := Nat × Value × List Value) (fun ⟨v, va, cs⟩ => [(1, .pointer (some ⟨b1, 0, none⟩)), (2, .slice none 0 0), (3, .slice adl ((last16 b).length) capadl), (4, va), (5, .int .i64 (v : Int))]) (fun ⟨v, va, cs⟩ u => St w w3 u (roFrom ro w2 w3) [(b1, .cells #[.int .i64 b.params, .slice adi b.ins.length capi, .int .i64 b.fin.kind, .int .i64 b.fin.a, .int .i64 b.fin.to, .slice adp b.fin.args.length capp, .int .i64 b.fin.els, .slice adq b.fin.elses.length capq] 59 (0, 0))] [⟨va, 3, 1, v, cs⟩] ∧ v ≤ (last16 b).length ∧ Chunks 1 IntC cs (giveAt16 b v).2) (fun ⟨v, va, cs⟩ => (last16 b).length - v) (0, (.slice none 0 0), []) ⟨rfl, rfl, rfl, rfl, rfl, trivial⟩ ⟨hS, Nat.zero_le _, Chunks.nil⟩ ?_
 clear hS
 rintro ⟨v, va, cs⟩ w5 ⟨hS, hv, hch⟩
 have hrow : w5.ownsRow w.heap.size 3 1 va (v) _ := hS.rows _ List.mem_cons_self
 obtain ⟨adva, capva, rfl, hr1va, hr2va, hr3va⟩ := row_shape hrow
 clear hrow
 have hg := given16 hok v hv; have hgl := hg.len
 refine W.seq (W.seq (W.region (WL.move rfl rfl rfl (WL.move rfl rfl rfl (WL.lenSlice Tryd.underlying55 rfl rfl rfl (WL.bin rfl rfl rfl rfl rfl (WL.nil (N.seq ?_))))))))
 refine W.cond rfl (fun hc6 => ?_) (fun hc6 => ?_)
 ·
  have hc6p : (v : Int) < ((last16 b).length : Int) := by simpa using hc6
  refine W.skip (N.seq (W.seq (W.block (W.seq (W.seq (W.region (WL.move rfl rfl rfl (WL.fieldAddr fo_59_0 rfl rfl rfl (WL.load1 (v := .int .i64 b.params) one_3 rfl rfl rfl (hS.cell 0 rfl rfl) ?_)))))))))
  refine WL.bin rfl rfl rfl rfl rfl (WL.nil (N.seq ?_))
  refine W.cond rfl (fun hc7 => ?_) (fun hc7 => ?_)
  ·
   have hc7p : (v : Int) < b.params := by simpa using hc7
   refine W.seq (W.region (WL.move rfl rfl rfl (WL.move rfl rfl rfl ?_)))
   refine WL.buildSlice (ps := [(0, .int .i64 (v : Int))]) (cs := [.int .i64 (v : Int)]) Tryd.underlying55 (tyZero_spec zer_3) rfl rfl rfl rfl (by kernel_rfl) hS ?_
   clear hS; intro w9 b8 hb_b8 hS
   have hle1 : v + 1 ≤ 1000000 := by have := hok.n; omega
   refine WL.append (r := ⟨.slice adva v capva, 3, 1, v, cs⟩) (cs := [.int .i64 (v : Int)]) 8 Tryd.underlying55 (tyZero_spec zer_3) byt_3 rfl rfl rfl rfl rfl rfl rfl rfl rfl hS (by unfold maxLen; simp only; omega) (by simp only; omega) ?_
   clear hS; intro w10 v11 hn_v11 hS
   have hrow : w10.ownsRow w.heap.size 3 1 v11 (v + 1) _ := hS.rows _ List.mem_cons_self
   obtain ⟨av11, cv11, rfl, hc1_v11, hc2_v11, hc3_v11⟩ := row_shape hrow
   clear hrow
   refine WL.assign rfl rfl rfl (WL.nil (N.seq (W.exit (X.seq (X.blk (N.seq (W.region (WL.move rfl rfl rfl ?_))))))))
   refine WL.add (c := (v : Int) + 1) rfl rfl rfl rfl (rfl) (by omega) ?_
   refine WL.assign rfl rfl rfl (WL.nil ?_)
   have hst : (giveAt16 b (v + 1)).2 = (giveAt16 b v).2 ++ [(v : Int)] := by rw [giveAt16_succ]; unfold giveStep16; rw [if_pos (by omega)]
   exact N.loop (v + 1, .slice av11 (v + 1) cv11, cs ++ ([.int .i64 (v : Int)] : List Value)) ⟨rfl, rfl, rfl, rfl, rfl, trivial⟩ ⟨hS, by omega, by rw [hst]; exact hch.snoc rfl ⟨rfl, by unfold inI; omega⟩⟩ (by first | omega | (simp only; omega))
  have hc7p : ¬ ((v : Int) < b.params) := by simpa using hc7
  refine W.skip (N.seq (W.seq (W.region (WL.assign rfl rfl rfl (WL.nil (N.seq (W.seq (W.block ?_))))))))
  obtain ⟨hf1, hf2, hf3⟩ := first16_spec (T := freeG (giveAt16 b v).1 ((v : Int) - b.params)) (n := (last16 b).length) (out := (giveAt16 b v).2) (fun k l h => hg.key k l (freeG_some h).1) (by omega)
  have hgi : given16i b (v : Int) = ((v : Int) - b.params) := by unfold given16i; rw [if_neg (by omega)]
  refine W.loop (α := Nat) (fun (s : Nat) => [(1, .pointer (some ⟨b1, 0, none⟩)), (2, .slice none 0 0), (3, .slice adl ((last16 b).length) capadl), (4, .slice adva v capva), (5, .int .i64 (v : Int)), (6, .int .i64 (s : Int))]) (fun (s : Nat) u => St w w3 u (roFrom ro w2 w3) [(b1, .cells #[.int .i64 b.params, .slice adi b.ins.length capi, .int .i64 b.fin.kind, .int .i64 b.fin.a, .int .i64 b.fin.to, .slice adp b.fin.args.length capp, .int .i64 b.fin.els, .slice adq b.fin.elses.length capq] 59 (0, 0))] [⟨.slice adva v capva, 3, 1, v, cs⟩] ∧ s ≤ first16 (freeG (giveAt16 b v).1 ((v : Int) - b.params)) (last16 b).length) (fun (s : Nat) => first16 (freeG (giveAt16 b v).1 ((v : Int) - b.params)) (last16 b).length - s) 0 ⟨rfl, rfl, rfl, rfl, rfl, rfl, trivial⟩ ⟨hS, Nat.zero_le _⟩ ?_
  clear hS
  rintro s w12 ⟨hS, hs⟩
  refine W.block (W.seq (W.region (WL.assign rfl rfl rfl (WL.nil (N.seq (W.seq (W.seq (W.region (WL.assign rfl rfl rfl ?_)))))))))
  refine WL.nil (N.seq (W.block ?_))
  refine W.loop (α := Nat × Bool) (fun ⟨q, fr⟩ => [(1, .pointer (some ⟨b1, 0, none⟩)), (2, .slice none 0 0), (3, .slice adl ((last16 b).length) capadl), (4, .slice adva v capva), (5, .int .i64 (v : Int)), (6, .int .i64 (s : Int)), (7, .bool fr), (8, .int .i64 (q : Int))]) (fun ⟨q, fr⟩ u => St w w3 u (roFrom ro w2 w3) [(b1, .cells #[.int .i64 b.params, .slice adi b.ins.length capi, .int .i64 b.fin.kind, .int .i64 b.fin.a, .int .i64 b.fin.to, .slice adp b.fin.args.length capp, .int .i64 b.fin.els, .slice adq b.fin.elses.length capq] 59 (0, 0))] [⟨.slice adva v capva, 3, 1, v, cs⟩] ∧ q ≤ v ∧ fr = rfree16 b (giveAt16 b v).2 (s : Int) ((v : Int) - b.params) q) (fun ⟨q, fr⟩ => v - q) (0, true) ⟨rfl, rfl, rfl, rfl, rfl, rfl, rfl, rfl, trivial⟩ ⟨hS, Nat.zero_le _, rfl⟩ ?_
  clear hS
  rintro ⟨q, fr⟩ w13 ⟨hS, hq, hfr⟩
  refine W.seq (W.seq (W.region (WL.move rfl rfl rfl (WL.move rfl rfl rfl (WL.bin rfl rfl rfl rfl rfl (WL.nil (N.seq ?_)))))))
  refine W.cond rfl (fun hc14 => ?_) (fun hc14 => ?_)
  ·
   have hc14p : (q : Int) < (v : Int) := by simpa using hc14
   refine W.skip (N.seq (W.seq (W.block ?_)))
   obtain ⟨gq16, rfl⟩ : ∃ g, adva = some ⟨g, 0, none⟩ := row_some (hS.rows _ (List.mem_of_getElem? (i := 0) rfl)) (by omega)
   have hj15 : q < ((giveAt16 b v).2).length := by omega
   obtain ⟨x15, hx15⟩ : ∃ zz, ((giveAt16 b v).2)[q]? = some zz := ⟨_, List.getElem?_eq_getElem hj15⟩
   have hQ15 := hch.2 q _ hx15
   generalize hk15 : (cs.drop (q * 1)).take 1 = c15 at hQ15
   obtain ⟨rfl, hi15⟩ := hQ15
   rcases (Bool.eq_false_or_eq_true fr).symm with hg17 | hg17
   ·
    refine W.set 7 (v' := .bool false) rfl (by rw [hg17]) ?_
    refine W.drawL (by kernel_rfl) 19 ((.q (.bool false)) :: (.q (.bool false)) :: (.q undef) :: (.q undef) :: (.q undef) :: (.q undef) :: (.q undef) :: (.q undef) :: (.q undef) :: (.q undef) :: (.q undef) :: (.q undef) :: (.q undef) :: (.q undef) :: (.q undef) :: (.q undef) :: (.q undef) :: (.q undef) :: (.q (.bool false)) :: []) (by kernel_rfl) (by kernel_rfl) [(1, .pointer (some ⟨b1, 0, none⟩)), (2, .slice none 0 0), (3, .slice adl ((last16 b).length) capadl), (4, .slice (some ⟨gq16, 0, none⟩) v capva), (5, .int .i64 (v : Int)), (6, .int .i64 (s : Int)), (7, .bool false), (8, .int .i64 (q : Int))] ⟨rfl, rfl, rfl, rfl, rfl, rfl, rfl, rfl, trivial⟩ (by kernel_rfl) hS ?_ ?_
    ·
     refine And.intro (fun β w hS => ?_) ?_
     ·
      refine WL.sub (σ' := [(7, .bool false)]) ⟨rfl, trivial⟩ ?_
      refine WL.move rfl rfl rfl ?_
      exact WL.nil (N.cut () ⟨rfl, trivial⟩ (Below.refl _ _))
     refine And.intro (fun β w hS => ?_) ?_
     ·
      refine WL.sub (σ' := [(30, .bool false)]) ⟨rfl, trivial⟩ ?_
      refine WL.move rfl rfl rfl ?_
      exact WL.nil (N.cut () ⟨rfl, trivial⟩ (Below.refl _ _))
     refine And.intro (fun β w hS => ?_) ?_
     ·
      refine WL.sub (σ' := [(4, .slice (some ⟨gq16, 0, none⟩) v capva), (31, .bool false)]) ⟨rfl, rfl, trivial⟩ ?_
      refine WL.skp rfl rfl ?_
      exact WL.nil (N.cut () ⟨rfl, trivial⟩ (Below.refl _ _))
     refine And.intro (fun β w hS => ?_) ?_
     ·
      refine WL.sub (σ' := [(8, .int .i64 (q : Int)), (31, .bool false)]) ⟨rfl, rfl, trivial⟩ ?_
      refine WL.skp rfl rfl ?_
      exact WL.nil (N.cut () ⟨rfl, trivial⟩ (Below.refl _ _))
     refine And.intro (fun β w hS => ?_) ?_
     ·
      refine WL.sub (σ' := [(31, .bool false), (32, undef), (33, undef)]) ⟨rfl, rfl, rfl, trivial⟩ ?_
      refine WL.skp rfl rfl ?_
      exact WL.nil (N.cut () ⟨rfl, trivial⟩ (Below.refl _ _))
     refine And.intro (fun β w hS => ?_) ?_
     ·
      refine WL.sub (σ' := [(31, .bool false), (34, undef)]) ⟨rfl, rfl, trivial⟩ ?_
      refine WL.skp rfl rfl ?_
      exact WL.nil (N.cut () ⟨rfl, trivial⟩ (Below.refl _ _))
     refine And.intro (fun β w hS => ?_) ?_
     ·
      refine WL.sub (σ' := [(6, .int .i64 (s : Int)), (31, .bool false)]) ⟨rfl, rfl, trivial⟩ ?_
      refine WL.skp rfl rfl ?_
      exact WL.nil (N.cut () ⟨rfl, trivial⟩ (Below.refl _ _))
     refine And.intro (fun β w hS => ?_) ?_
     ·
      refine WL.sub (σ' := [(31, .bool false), (35, undef), (36, undef)]) ⟨rfl, rfl, rfl, trivial⟩ ?_
      refine WL.skp rfl rfl ?_
      exact WL.nil (N.cut () ⟨rfl, trivial⟩ (Below.refl _ _))
     refine And.intro (fun β w hS => ?_) ?_
     ·
      refine WL.sub (σ' := [(31, .bool false), (37, undef)]) ⟨rfl, rfl, trivial⟩ ?_
      refine WL.skp rfl rfl ?_
      exact WL.nil (N.cut () ⟨rfl, trivial⟩ (Below.refl _ _))
     refine And.intro (fun β w hS => ?_) ?_
     ·
      refine WL.sub (σ' := [(3, .slice adl ((last16 b).length) capadl), (38, undef)]) ⟨rfl, rfl, trivial⟩ ?_
      refine WL.skp rfl rfl ?_
      exact WL.nil (N.cut () ⟨rfl, trivial⟩ (Below.refl _ _))
     refine And.intro (fun β w hS => ?_) ?_
     ·
      refine WL.sub (σ' := [(8, .int .i64 (q : Int)), (38, undef)]) ⟨rfl, rfl, trivial⟩ ?_
      refine WL.skp rfl rfl ?_
      exact WL.nil (N.cut () ⟨rfl, trivial⟩ (Below.refl _ _))
     refine And.intro (fun β w hS => ?_) ?_
     ·
      refine WL.sub (σ' := [(38, undef), (39, undef), (40, undef)]) ⟨rfl, rfl, rfl, trivial⟩ ?_
      refine WL.skp rfl rfl ?_
      exact WL.nil (N.cut () ⟨rfl, trivial⟩ (Below.refl _ _))
     refine And.intro (fun β w hS => ?_) ?_
     ·
      refine WL.sub (σ' := [(38, undef), (41, undef)]) ⟨rfl, rfl, trivial⟩ ?_
      refine WL.skp rfl rfl ?_
      exact WL.nil (N.cut () ⟨rfl, trivial⟩ (Below.refl _ _))
     refine And.intro (fun β w hS => ?_) ?_
     ·
      refine WL.sub (σ' := [(1, .pointer (some ⟨b1, 0, none⟩)), (38, undef)]) ⟨rfl, rfl, trivial⟩ ?_
      refine WL.skp rfl rfl ?_
      exact WL.nil (N.cut () ⟨rfl, trivial⟩ (Below.refl _ _))
     refine And.intro (fun β w hS => ?_) ?_
     ·
      refine WL.sub (σ' := [(5, .int .i64 (v : Int)), (38, undef)]) ⟨rfl, rfl, trivial⟩ ?_
      refine WL.skp rfl rfl ?_
      exact WL.nil (N.cut () ⟨rfl, trivial⟩ (Below.refl _ _))
     refine And.intro (fun β w hS => ?_) ?_
     ·
      refine WL.sub (σ' := [(38, undef), (43, undef), (44, undef)]) ⟨rfl, rfl, rfl, trivial⟩ ?_
      refine WL.skp rfl rfl ?_
      exact WL.nil (N.cut () ⟨rfl, trivial⟩ (Below.refl _ _))
     refine And.intro (fun β w hS => ?_) ?_
     ·
      refine WL.sub (σ' := [(38, undef), (42, undef), (45, undef)]) ⟨rfl, rfl, rfl, trivial⟩ ?_
      refine WL.skp rfl rfl ?_
      exact WL.nil (N.cut () ⟨rfl, trivial⟩ (Below.refl _ _))
     refine And.intro (fun β w hS => ?_) ?_
     ·
      refine WL.sub (σ' := [(31, .bool false), (38, undef), (46, undef)]) ⟨rfl, rfl, rfl, trivial⟩ ?_
      refine WL.skp rfl rfl ?_
      exact WL.nil (N.cut () ⟨rfl, trivial⟩ (Below.refl _ _))
     refine And.intro (fun β w hS => ?_) ?_
     ·
      refine WL.sub (σ' := [(31, .bool false), (47, undef)]) ⟨rfl, rfl, trivial⟩ ?_
      refine WL.pick (v := .bool false) rfl rfl rfl rfl rfl rfl ?_
      exact WL.nil (N.cut () ⟨rfl, trivial⟩ (Below.refl _ _))
     trivial
    clear hS; intro w18 β hS
    refine WL.sub (σ' := [(1, .pointer (some ⟨b1, 0, none⟩)), (2, .slice none 0 0), (3, .slice adl ((last16 b).length) capadl), (4, .slice (some ⟨gq16, 0, none⟩) v capva), (5, .int .i64 (v : Int)), (6, .int .i64 (s : Int)), (7, .bool false), (8, .int .i64 (q : Int)), (48, .bool false)]) ⟨rfl, rfl, rfl, rfl, rfl, rfl, rfl, rfl, rfl, trivial⟩ ?_
    refine WL.assign rfl rfl rfl (WL.nil (N.blk (N.seq (W.region (WL.move rfl rfl rfl ?_)))))
    refine WL.add (c := (q : Int) + 1) rfl rfl rfl rfl (rfl) (by omega) ?_
    refine WL.assign rfl rfl rfl (WL.nil ?_)
    have hb2 : (false : Bool) = rfree16 b (giveAt16 b v).2 (s : Int) ((v : Int) - b.params) (q + 1) := by rw [rfree16_succ, ← hfr, getD_of hx15]; simp [hc14p, hg17]
    exact N.loop (q + 1, false) ⟨rfl, rfl, rfl, rfl, rfl, rfl, rfl, rfl, trivial⟩ ⟨hS, by omega, hb2⟩ (by first | omega | (simp only; omega))
   refine W.set 7 (v' := .bool true) rfl (by rw [hg17]) ?_
   rcases (Bool.eq_false_or_eq_true (!decide (x15 = (s : Int)))).symm with hg19 | hg19
   ·
    have hg19p : x15 = (s : Int) := by simpa using hg19
    have hj20 : q < (last16 b).length := by omega
    obtain ⟨x20, hx20, b20, o20, cs20, hE20, hr20, _, hc20, hQ20⟩ := opn hvld hj20
    obtain ⟨rfl, hi20⟩ := hQ20
    refine W.drawL (by kernel_rfl) 19 ((.q (.bool true)) :: (.q (.bool true)) :: (.q (.slice (some ⟨gq16, 0, none⟩) v capva)) :: (.q (.int .i64 (q : Int))) :: (.q (.pointer (some ⟨gq16, 0 + q * 1, none⟩))) :: (.q (.int .i64 x15)) :: (.q (.int .i64 (s : Int))) :: (.q (.bool false)) :: (.q (.bool false)) :: (.q (.slice adl ((last16 b).length) capadl)) :: (.q (.int .i64 (q : Int))) :: (.q (.pointer (some ⟨b20, o20 + q * 1, none⟩))) :: (.q (.int .i64 x20)) :: (.q (.agg #[.int .i64 b.params, .slice adi b.ins.length capi, .int .i64 b.fin.kind, .int .i64 b.fin.a, .int .i64 b.fin.to, .slice adp b.fin.args.length capp, .int .i64 b.fin.els, .slice adq b.fin.elses.length capq])) :: (.q (.int .i64 (v : Int))) :: (.q (.int .i64 ((v : Int) - b.params))) :: (.q (.bool (decide (x20 ≤ ((v : Int) - b.params))))) :: (.q (.bool (decide (x20 ≤ ((v : Int) - b.params))))) :: (.q (.bool (decide (x20 ≤ ((v : Int) - b.params))))) :: []) (by kernel_rfl) (by kernel_rfl) [(1, .pointer (some ⟨b1, 0, none⟩)), (2, .slice none 0 0), (3, .slice adl ((last16 b).length) capadl), (4, .slice (some ⟨gq16, 0, none⟩) v capva), (5, .int .i64 (v : Int)), (6, .int .i64 (s : Int)), (7, .bool true), (8, .int .i64 (q : Int))] ⟨rfl, rfl, rfl, rfl, rfl, rfl, rfl, rfl, trivial⟩ (by kernel_rfl) hS ?_ ?_
    ·
     refine And.intro (fun β w hS => ?_) ?_
     ·
      refine WL.sub (σ' := [(7, .bool true)]) ⟨rfl, trivial⟩ ?_
      refine WL.move rfl rfl rfl ?_
      exact WL.nil (N.cut () ⟨rfl, trivial⟩ (Below.refl _ _))
     refine And.intro (fun β w hS => ?_) ?_
     ·
      refine WL.sub (σ' := [(30, .bool true)]) ⟨rfl, trivial⟩ ?_
      refine WL.move rfl rfl rfl ?_
      exact WL.nil (N.cut () ⟨rfl, trivial⟩ (Below.refl _ _))
     refine And.intro (fun β w hS => ?_) ?_
     ·
      refine WL.sub (σ' := [(4, .slice (some ⟨gq16, 0, none⟩) v capva), (31, .bool true)]) ⟨rfl, rfl, trivial⟩ ?_
      refine WL.move rfl rfl rfl ?_
      exact WL.nil (N.cut () ⟨rfl, trivial⟩ (Below.refl _ _))
     refine And.intro (fun β w hS => ?_) ?_
     ·
      refine WL.sub (σ' := [(8, .int .i64 (q : Int)), (31, .bool true)]) ⟨rfl, rfl, trivial⟩ ?_
      refine WL.move rfl rfl rfl ?_
      exact WL.nil (N.cut () ⟨rfl, trivial⟩ (Below.refl _ _))
     refine And.intro (fun β w hS => ?_) ?_
     ·
      refine WL.sub (σ' := [(31, .bool true), (32, .slice (some ⟨gq16, 0, none⟩) v capva), (33, .int .i64 (q : Int))]) ⟨rfl, rfl, rfl, trivial⟩ ?_
      refine WL.indexAddr (j := q) Tryd.underlying55 isz_3 rfl rfl rfl rfl (by omega) ?_
      exact WL.nil (N.cut () ⟨rfl, trivial⟩ (Below.refl _ _))
     refine And.intro (fun β w hS => ?_) ?_
     ·
      refine WL.sub (σ' := [(31, .bool true), (34, .pointer (some ⟨gq16, 0 + q * 1, none⟩))]) ⟨rfl, rfl, trivial⟩ ?_
      refine WL.load1 (v := .int .i64 x15) one_3 rfl rfl rfl ((hS.rowCells 0 rfl hk15) 0 _ rfl) ?_
      exact WL.nil (N.cut () ⟨rfl, trivial⟩ (Below.refl _ _))
     refine And.intro (fun β w hS => ?_) ?_
     ·
      refine WL.sub (σ' := [(6, .int .i64 (s : Int)), (31, .bool true)]) ⟨rfl, rfl, trivial⟩ ?_
      refine WL.move rfl rfl rfl ?_
      exact WL.nil (N.cut () ⟨rfl, trivial⟩ (Below.refl _ _))
     refine And.intro (fun β w hS => ?_) ?_
     ·
      refine WL.sub (σ' := [(31, .bool true), (35, .int .i64 x15), (36, .int .i64 (s : Int))]) ⟨rfl, rfl, rfl, trivial⟩ ?_
      refine WL.bin rfl rfl rfl rfl rfl ?_
      refine WL.set 37 (v' := .bool false) rfl (by rw [hg19]) ?_
      exact WL.nil (N.cut () ⟨rfl, trivial⟩ (Below.refl _ _))
     refine And.intro (fun β w hS => ?_) ?_
     ·
      refine WL.sub (σ' := [(31, .bool true), (37, .bool false)]) ⟨rfl, rfl, trivial⟩ ?_
      refine WL.move rfl rfl rfl ?_
      exact WL.nil (N.cut () ⟨rfl, trivial⟩ (Below.refl _ _))
     refine And.intro (fun β w hS => ?_) ?_
     ·
      refine WL.sub (σ' := [(3, .slice adl ((last16 b).length) capadl), (38, .bool false)]) ⟨rfl, rfl, trivial⟩ ?_
      refine WL.move rfl rfl rfl ?_
      exact WL.nil (N.cut () ⟨rfl, trivial⟩ (Below.refl _ _))
     refine And.intro (fun β w hS => ?_) ?_
     ·
      refine WL.sub (σ' := [(8, .int .i64 (q : Int)), (38, .bool false)]) ⟨rfl, rfl, trivial⟩ ?_
      refine WL.move rfl rfl rfl ?_
      exact WL.nil (N.cut () ⟨rfl, trivial⟩ (Below.refl _ _))
     refine And.intro (fun β w hS => ?_) ?_
     ·
      refine WL.sub (σ' := [(38, .bool false), (39, .slice adl ((last16 b).length) capadl), (40, .int .i64 (q : Int))]) ⟨rfl, rfl, rfl, trivial⟩ ?_
      refine WL.indexAddrE (j := q) Tryd.underlying55 isz_3 rfl rfl rfl rfl hj20 hE20 ?_
      exact WL.nil (N.cut () ⟨rfl, trivial⟩ (Below.refl _ _))
     refine And.intro (fun β w hS => ?_) ?_
     ·
      refine WL.sub (σ' := [(38, .bool false), (41, .pointer (some ⟨b20, o20 + q * 1, none⟩))]) ⟨rfl, rfl, trivial⟩ ?_
      refine WL.load1 (v := .int .i64 x20) one_3 rfl rfl rfl (hS.roCells hr20 hc20 0 _ rfl) ?_
      exact WL.nil (N.cut () ⟨rfl, trivial⟩ (Below.refl _ _))
     refine And.intro (fun β w hS => ?_) ?_
     ·
      refine WL.sub (σ' := [(1, .pointer (some ⟨b1, 0, none⟩)), (38, .bool false)]) ⟨rfl, rfl, trivial⟩ ?_
      refine WL.loadN (cs := [.int .i64 b.params, .slice adi b.ins.length capi, .int .i64 b.fin.kind, .int .i64 b.fin.a, .int .i64 b.fin.to, .slice adp b.fin.args.length capp, .int .i64 b.fin.els, .slice adq b.fin.elses.length capq]) agg_59 rfl rfl rfl rfl (hS.cells 0 (m := 8) rfl rfl) ?_
      exact WL.nil (N.cut () ⟨rfl, trivial⟩ (Below.refl _ _))
     refine And.intro (fun β w hS => ?_) ?_
     ·
      refine WL.sub (σ' := [(5, .int .i64 (v : Int)), (38, .bool false)]) ⟨rfl, rfl, trivial⟩ ?_
      refine WL.move rfl rfl rfl ?_
      exact WL.nil (N.cut () ⟨rfl, trivial⟩ (Below.refl _ _))
     refine And.intro (fun β w hS => ?_) ?_
     ·
      refine WL.sub (σ' := [(38, .bool false), (43, .agg #[.int .i64 b.params, .slice adi b.ins.length capi, .int .i64 b.fin.kind, .int .i64 b.fin.a, .int .i64 b.fin.to, .slice adp b.fin.args.length capp, .int .i64 b.fin.els, .slice adq b.fin.elses.length capq]), (44, .int .i64 (v : Int))]) ⟨rfl, rfl, rfl, trivial⟩ ?_
      refine WL.callF (vs := [.agg #[.int .i64 b.params, .slice adi b.ins.length capi, .int .i64 b.fin.kind, .int .i64 b.fin.a, .int .i64 b.fin.to, .slice adp b.fin.args.length capp, .int .i64 b.fin.els, .slice adq b.fin.elses.length capq], .int .i64 (v : Int)]) Tryd.func70 (by kernel_rfl) rfl rfl rfl ((by have h := given16_ret b _ (v : Int) (ro := (roFrom ro w2 w3)) (w := w) (fun b hb => (hS.snap b hb).1) (hb.keep hS.alike) ⟨hok.p0, hok.p1⟩ (by omega); rw [hgi] at h; exact h)) ?_
      rintro r w22 ⟨rfl, hbl⟩
      replace hS := hS.grow hbl
      exact WL.nil (N.cut () ⟨rfl, trivial⟩ hbl)
     refine And.intro (fun β w hS => ?_) ?_
     ·
      refine WL.sub (σ' := [(38, .bool false), (42, .int .i64 x20), (45, .int .i64 ((v : Int) - b.params))]) ⟨rfl, rfl, rfl, trivial⟩ ?_
      refine WL.bin rfl rfl rfl rfl rfl ?_
      exact WL.nil (N.cut () ⟨rfl, trivial⟩ (Below.refl _ _))
     refine And.intro (fun β w hS => ?_) ?_
     ·
      refine WL.sub (σ' := [(31, .bool true), (38, .bool false), (46, .bool (decide (x20 ≤ ((v : Int) - b.params))))]) ⟨rfl, rfl, rfl, trivial⟩ ?_
      refine WL.pick (v := .bool (decide (x20 ≤ ((v : Int) - b.params)))) rfl rfl rfl rfl rfl rfl ?_
      exact WL.nil (N.cut () ⟨rfl, trivial⟩ (Below.refl _ _))
     refine And.intro (fun β w hS => ?_) ?_
     ·
      refine WL.sub (σ' := [(31, .bool true), (47, .bool (decide (x20 ≤ ((v : Int) - b.params))))]) ⟨rfl, rfl, trivial⟩ ?_
      refine WL.pick (v := .bool (decide (x20 ≤ ((v : Int) - b.params)))) rfl rfl rfl rfl rfl rfl ?_
      exact WL.nil (N.cut () ⟨rfl, trivial⟩ (Below.refl _ _))
     trivial
    clear hS; intro w23 β hS
    refine WL.sub (σ' := [(1, .pointer (some ⟨b1, 0, none⟩)), (2, .slice none 0 0), (3, .slice adl ((last16 b).length) capadl), (4, .slice (some ⟨gq16, 0, none⟩) v capva), (5, .int .i64 (v : Int)), (6, .int .i64 (s : Int)), (7, .bool true), (8, .int .i64 (q : Int)), (48, .bool (decide (x20 ≤ ((v : Int) - b.params))))]) ⟨rfl, rfl, rfl, rfl, rfl, rfl, rfl, rfl, rfl, trivial⟩ ?_
    refine WL.assign rfl rfl rfl (WL.nil (N.blk (N.seq (W.region (WL.move rfl rfl rfl ?_)))))
    refine WL.add (c := (q : Int) + 1) rfl rfl rfl rfl (rfl) (by omega) ?_
    refine WL.assign rfl rfl rfl (WL.nil ?_)
    have hb2 : (decide (x20 ≤ ((v : Int) - b.params)) : Bool) = rfree16 b (giveAt16 b v).2 (s : Int) ((v : Int) - b.params) (q + 1) := by rw [rfree16_succ, ← hfr, getD_of hx15, getD_of hx20]; simp [hc14p, hg17, hg19p]
    exact N.loop (q + 1, decide (x20 ≤ ((v : Int) - b.params))) ⟨rfl, rfl, rfl, rfl, rfl, rfl, rfl, rfl, trivial⟩ ⟨hS, by omega, hb2⟩ (by first | omega | (simp only; omega))
   have hg19p : ¬ (x15 = (s : Int)) := by simpa using hg19
   refine W.drawL (by kernel_rfl) 19 ((.q (.bool true)) :: (.q (.bool true)) :: (.q (.slice (some ⟨gq16, 0, none⟩) v capva)) :: (.q (.int .i64 (q : Int))) :: (.q (.pointer (some ⟨gq16, 0 + q * 1, none⟩))) :: (.q (.int .i64 x15)) :: (.q (.int .i64 (s : Int))) :: (.q (.bool true)) :: (.q (.bool true)) :: (.q undef) :: (.q undef) :: (.q undef) :: (.q undef) :: (.q undef) :: (.q undef) :: (.q undef) :: (.q undef) :: (.q (.bool true)) :: (.q (.bool true)) :: []) (by kernel_rfl) (by kernel_rfl) [(1, .pointer (some ⟨b1, 0, none⟩)), (2, .slice none 0 0), (3, .slice adl ((last16 b).length) capadl), (4, .slice (some ⟨gq16, 0, none⟩) v capva), (5, .int .i64 (v : Int)), (6, .int .i64 (s : Int)), (7, .bool true), (8, .int .i64 (q : Int))] ⟨rfl, rfl, rfl, rfl, rfl, rfl, rfl, rfl, trivial⟩ (by kernel_rfl) hS ?_ ?_
   ·
    refine And.intro (fun β w hS => ?_) ?_
    ·
     refine WL.sub (σ' := [(7, .bool true)]) ⟨rfl, trivial⟩ ?_
     refine WL.move rfl rfl rfl ?_
     exact WL.nil (N.cut () ⟨rfl, trivial⟩ (Below.refl _ _))
    refine And.intro (fun β w hS => ?_) ?_
    ·
     refine WL.sub (σ' := [(30, .bool true)]) ⟨rfl, trivial⟩ ?_
     refine WL.move rfl rfl rfl ?_
     exact WL.nil (N.cut () ⟨rfl, trivial⟩ (Below.refl _ _))
    refine And.intro (fun β w hS => ?_) ?_
    ·
     refine WL.sub (σ' := [(4, .slice (some ⟨gq16, 0, none⟩) v capva), (31, .bool true)]) ⟨rfl, rfl, trivial⟩ ?_
     refine WL.move rfl rfl rfl ?_
     exact WL.nil (N.cut () ⟨rfl, trivial⟩ (Below.refl _ _))
    refine And.intro (fun β w hS => ?_) ?_
    ·
     refine WL.sub (σ' := [(8, .int .i64 (q : Int)), (31, .bool true)]) ⟨rfl, rfl, trivial⟩ ?_
     refine WL.move rfl rfl rfl ?_
     exact WL.nil (N.cut () ⟨rfl, trivial⟩ (Below.refl _ _))
    refine And.intro (fun β w hS => ?_) ?_
    ·
     refine WL.sub (σ' := [(31, .bool true), (32, .slice (some ⟨gq16, 0, none⟩) v capva), (33, .int .i64 (q : Int))]) ⟨rfl, rfl, rfl, trivial⟩ ?_
     refine WL.indexAddr (j := q) Tryd.underlying55 isz_3 rfl rfl rfl rfl (by omega) ?_
     exact WL.nil (N.cut () ⟨rfl, trivial⟩ (Below.refl _ _))
    refine And.intro (fun β w hS => ?_) ?_
    ·
     refine WL.sub (σ' := [(31, .bool true), (34, .pointer (some ⟨gq16, 0 + q * 1, none⟩))]) ⟨rfl, rfl, trivial⟩ ?_
     refine WL.load1 (v := .int .i64 x15) one_3 rfl rfl rfl ((hS.rowCells 0 rfl hk15) 0 _ rfl) ?_
     exact WL.nil (N.cut () ⟨rfl, trivial⟩ (Below.refl _ _))
    refine And.intro (fun β w hS => ?_) ?_
    ·
     refine WL.sub (σ' := [(6, .int .i64 (s : Int)), (31, .bool true)]) ⟨rfl, rfl, trivial⟩ ?_
     refine WL.move rfl rfl rfl ?_
     exact WL.nil (N.cut () ⟨rfl, trivial⟩ (Below.refl _ _))
    refine And.intro (fun β w hS => ?_) ?_
    ·
     refine WL.sub (σ' := [(31, .bool true), (35, .int .i64 x15), (36, .int .i64 (s : Int))]) ⟨rfl, rfl, rfl, trivial⟩ ?_
     refine WL.bin rfl rfl rfl rfl rfl ?_
     refine WL.set 37 (v' := .bool true) rfl (by rw [hg19]) ?_
     exact WL.nil (N.cut () ⟨rfl, trivial⟩ (Below.refl _ _))
    refine And.intro (fun β w hS => ?_) ?_
    ·
     refine WL.sub (σ' := [(31, .bool true), (37, .bool true)]) ⟨rfl, rfl, trivial⟩ ?_
     refine WL.move rfl rfl rfl ?_
     exact WL.nil (N.cut () ⟨rfl, trivial⟩ (Below.refl _ _))
    refine And.intro (fun β w hS => ?_) ?_
    ·
     refine WL.sub (σ' := [(3, .slice adl ((last16 b).length) capadl), (38, .bool true)]) ⟨rfl, rfl, trivial⟩ ?_
     refine WL.skp rfl rfl ?_
     exact WL.nil (N.cut () ⟨rfl, trivial⟩ (Below.refl _ _))
    refine And.intro (fun β w hS => ?_) ?_
    ·
     refine WL.sub (σ' := [(8, .int .i64 (q : Int)), (38, .bool true)]) ⟨rfl, rfl, trivial⟩ ?_
     refine WL.skp rfl rfl ?_
     exact WL.nil (N.cut () ⟨rfl, trivial⟩ (Below.refl _ _))
    refine And.intro (fun β w hS => ?_) ?_
    ·
     refine WL.sub (σ' := [(38, .bool true), (39, undef), (40, undef)]) ⟨rfl, rfl, rfl, trivial⟩ ?_
     refine WL.skp rfl rfl ?_
     exact WL.nil (N.cut () ⟨rfl, trivial⟩ (Below.refl _ _))
    refine And.intro (fun β w hS => ?_) ?_
    ·
     refine WL.sub (σ' := [(38, .bool true), (41, undef)]) ⟨rfl, rfl, trivial⟩ ?_
     refine WL.skp rfl rfl ?_
     exact WL.nil (N.cut () ⟨rfl, trivial⟩ (Below.refl _ _))
    refine And.intro (fun β w hS => ?_) ?_
    ·
     refine WL.sub (σ' := [(1, .pointer (some ⟨b1, 0, none⟩)), (38, .bool true)]) ⟨rfl, rfl, trivial⟩ ?_
     refine WL.skp rfl rfl ?_
     exact WL.nil (N.cut () ⟨rfl, trivial⟩ (Below.refl _ _))
    refine And.intro (fun β w hS => ?_) ?_
    ·
     refine WL.sub (σ' := [(5, .int .i64 (v : Int)), (38, .bool true)]) ⟨rfl, rfl, trivial⟩ ?_
     refine WL.skp rfl rfl ?_
     exact WL.nil (N.cut () ⟨rfl, trivial⟩ (Below.refl _ _))
    refine And.intro (fun β w hS => ?_) ?_
    ·
     refine WL.sub (σ' := [(38, .bool true), (43, undef), (44, undef)]) ⟨rfl, rfl, rfl, trivial⟩ ?_
     refine WL.skp rfl rfl ?_
     exact WL.nil (N.cut () ⟨rfl, trivial⟩ (Below.refl _ _))
    refine And.intro (fun β w hS => ?_) ?_
    ·
     refine WL.sub (σ' := [(38, .bool true), (42, undef), (45, undef)]) ⟨rfl, rfl, rfl, trivial⟩ ?_
     refine WL.skp rfl rfl ?_
     exact WL.nil (N.cut () ⟨rfl, trivial⟩ (Below.refl _ _))
    refine And.intro (fun β w hS => ?_) ?_
    ·
     refine WL.sub (σ' := [(31, .bool true), (38, .bool true), (46, undef)]) ⟨rfl, rfl, rfl, trivial⟩ ?_
     refine WL.pick (v := .bool true) rfl rfl rfl rfl rfl rfl ?_
     exact WL.nil (N.cut () ⟨rfl, trivial⟩ (Below.refl _ _))
    refine And.intro (fun β w hS => ?_) ?_
    ·
     refine WL.sub (σ' := [(31, .bool true), (47, .bool true)]) ⟨rfl, rfl, trivial⟩ ?_
     refine WL.pick (v := .bool true) rfl rfl rfl rfl rfl rfl ?_
     exact WL.nil (N.cut () ⟨rfl, trivial⟩ (Below.refl _ _))
    trivial
   clear hS; intro w24 β hS
   refine WL.sub (σ' := [(1, .pointer (some ⟨b1, 0, none⟩)), (2, .slice none 0 0), (3, .slice adl ((last16 b).length) capadl), (4, .slice (some ⟨gq16, 0, none⟩) v capva), (5, .int .i64 (v : Int)), (6, .int .i64 (s : Int)), (7, .bool true), (8, .int .i64 (q : Int)), (48, .bool true)]) ⟨rfl, rfl, rfl, rfl, rfl, rfl, rfl, rfl, rfl, trivial⟩ ?_
   refine WL.assign rfl rfl rfl (WL.nil (N.blk (N.seq (W.region (WL.move rfl rfl rfl ?_)))))
   refine WL.add (c := (q : Int) + 1) rfl rfl rfl rfl (rfl) (by omega) ?_
   refine WL.assign rfl rfl rfl (WL.nil ?_)
   have hb2 : (true : Bool) = rfree16 b (giveAt16 b v).2 (s : Int) ((v : Int) - b.params) (q + 1) := by rw [rfree16_succ, ← hfr, getD_of hx15]; simp [hc14p, hg17, hg19p]
   exact N.loop (q + 1, true) ⟨rfl, rfl, rfl, rfl, rfl, rfl, rfl, rfl, trivial⟩ ⟨hS, by omega, hb2⟩ (by first | omega | (simp only; omega))
  have hc14p : ¬ ((q : Int) < (v : Int)) := by simpa using hc14
  refine W.exit (X.seq (X.loop (X.blk (N.seq (W.seq (W.seq (W.region (WL.move rfl rfl rfl (WL.nil ?_)))))))))
  refine N.seq ?_
  refine W.cond rfl (fun hc25 => ?_) (fun hc25 => ?_)
  ·
   have hqe : q = v := by omega
   have hfree : rfree16 b (giveAt16 b v).2 (s : Int) ((v : Int) - b.params) v = true := by have h9 := hfr; rw [hqe] at h9; rw [← h9]; exact hc25
   refine W.exit (X.seq (X.blk_ne rfl (X.loop (X.blk (N.seq (W.region (WL.move rfl rfl rfl (WL.move rfl rfl rfl ?_))))))))
   refine WL.buildSlice (ps := [(0, .int .i64 (s : Int))]) (cs := [.int .i64 (s : Int)]) Tryd.underlying55 (tyZero_spec zer_3) rfl rfl rfl rfl (by kernel_rfl) hS ?_
   clear hS; intro w27 b26 hb_b26 hS
   have hle2 : v + 1 ≤ 1000000 := by have := hok.n; omega
   refine WL.append (r := ⟨.slice adva v capva, 3, 1, v, cs⟩) (cs := [.int .i64 (s : Int)]) 8 Tryd.underlying55 (tyZero_spec zer_3) byt_3 rfl rfl rfl rfl rfl rfl rfl rfl rfl hS (by unfold maxLen; simp only; omega) (by simp only; omega) ?_
   clear hS; intro w28 v29 hn_v29 hS
   have hrow : w28.ownsRow w.heap.size 3 1 v29 (v + 1) _ := hS.rows _ List.mem_cons_self
   obtain ⟨av29, cv29, rfl, hc1_v29, hc2_v29, hc3_v29⟩ := row_shape hrow
   clear hrow
   refine WL.assign rfl rfl rfl (WL.nil (N.blk (N.seq (W.region (WL.move rfl rfl rfl ?_)))))
   refine WL.add (c := (v : Int) + 1) rfl rfl rfl rfl (rfl) (by omega) ?_
   refine WL.assign rfl rfl rfl (WL.nil ?_)
   have hsf : s = first16 (freeG (giveAt16 b v).1 ((v : Int) - b.params)) (last16 b).length := by rcases Nat.lt_or_eq_of_le hs with h | h; exact absurd (hf3 s h) (by have h2 := rfree16_iff hok (v := v) (s := s) (by omega) (by omega); rw [hfree] at h2; intro h3; cases h4 : freeG (giveAt16 b v).1 ((v : Int) - b.params) (s : Int) <;> rw [h4] at h2 h3 <;> simp at h2 h3); exact h
   have hst : (giveAt16 b (v + 1)).2 = (giveAt16 b v).2 ++ [(s : Int)] := by rw [giveAt16_succ]; unfold giveStep16; rw [if_neg (by omega), ← hsf]
   exact N.loop (v + 1, .slice av29 (v + 1) cv29, cs ++ ([.int .i64 (s : Int)] : List Value)) ⟨rfl, rfl, rfl, rfl, rfl, trivial⟩ ⟨hS, by omega, by rw [hst]; exact hch.snoc rfl ⟨rfl, by unfold inI; omega⟩⟩ (by first | omega | (simp only; omega))
  have hqe : q = v := by omega
  have hfree : rfree16 b (giveAt16 b v).2 (s : Int) ((v : Int) - b.params) v = false := by have h9 := hfr; rw [hqe] at h9; rw [← h9]; exact by simpa using hc25
  refine W.skip (N.seq (W.region (WL.move rfl rfl rfl ?_)))
  refine WL.add (c := (s : Int) + 1) rfl rfl rfl rfl (rfl) (by omega) ?_
  refine WL.assign rfl rfl rfl (WL.nil (N.blk ?_))
  have hne : s ≠ first16 (freeG (giveAt16 b v).1 ((v : Int) - b.params)) (last16 b).length := by intro e; have h2 := rfree16_iff hok (v := v) (s := s) (by omega) (by omega); rw [hfree, e, hf1] at h2; simp at h2
  exact N.loop (s + 1) ⟨rfl, rfl, rfl, rfl, rfl, rfl, trivial⟩ ⟨hS, by omega⟩ (by first | omega | (simp only; omega))
 have hc6p : ¬ ((v : Int) < ((last16 b).length : Int)) := by simpa using hc6
 refine W.exit (X.seq (X.loop (X.blk (N.seq (W.seq (W.region (WL.move rfl rfl rfl (WL.assign rfl rfl rfl (WL.nil ?_)))))))))
 refine N.seq ?_
 refine Fin.ret1 rfl (v := .slice adva v capva) rfl ?_
 have e : v = (last16 b).length := by omega
 rw [e, show (giveAt16 b (last16 b).length).2 = give16 b from rfl] at hch
 refine ⟨row_slv (hS.rows _ List.mem_cons_self) hch (by rw [give16_length hok]; simp only; omega) (fun x hx => ?_), hS.below⟩
 exact (hS.keys x (by simp only [keysOf, List.mem_append, List.mem_filterMap]; exact .inr ⟨_, List.mem_cons_self, hx⟩)).imp id (·.1)

set_option maxRecDepth 10000 in
set_option maxHeartbeats 4000000 in
theorem rmany16_ret (f : DFunc) (cf : List Value) {w : World} {ro : Nat → Prop} (hro : ∀ b, ro b → b < w.heap.size) (hx : FuncC ro w cf f) (hok : ∀ b ∈ f.blocks, Ok16 b) : Ret Tryd.prog 53 #[.agg cf.toArray] w fun v w' => v = .int .i64 (many16 f) ∧ Below w.heap.size w w' := by
 obtain ⟨sbF, rfl, hblF, hnmF, hbdF, hprF⟩ := id hx
 obtain ⟨adbF, capbF, rfl, hbkFa, hbkFb, hbkFc, hbkFd⟩ := id hblF
 have hbkFm : f.blocks.length ≤ 9223372036854775807 := by have h1 := hbkFa; have h2 := hbkFb; unfold maxLen at h2; omega
 refine Ret.enter (P := Tryd.prog) (n := 38) (args := [.agg #[.string f.name, .int .i64 f.bind, .int .i64 f.params, .slice adbF f.blocks.length capbF]]) (σ := [(0, .agg #[.string f.name, .int .i64 f.bind, .int .i64 f.params, .slice adbF f.blocks.length capbF])]) Tryd.func53 rfl rfl rfl rfl ?_
 have hS := St.start (ro := ro) hro
 have hsub : ∀ b, ro b → ro b ∨ w.heap.size ≤ b := fun _ h => .inl h
 refine W.seq (W.region ?_)
 refine WL.box (v := .agg #[.string f.name, .int .i64 f.bind, .int .i64 f.params, .slice adbF f.blocks.length capbF]) (cs := [.string f.name, .int .i64 f.bind, .int .i64 f.params, .slice adbF f.blocks.length capbF]) rfl rfl rfl rfl hS ?_
 clear hS; intro w2 b1 hb_b1 hS
 refine WL.assign rfl rfl rfl (WL.nil (N.seq (W.seq (W.region (WL.assign rfl rfl rfl (WL.nil (N.seq (W.seq (W.seq ?_)))))))))
 refine W.region (WL.assign rfl rfl rfl (WL.nil (N.seq (W.block ?_))))
 refine W.loop (α := Nat × Int × (Nat → Prop) × World) (fun ⟨k, n, R2, ws2⟩ => [(1, .pointer (some ⟨b1, 0, none⟩)), (2, .int .i64 0), (3, .int .i64 n), (4, .int .i64 (k : Int))]) (fun ⟨k, n, R2, ws2⟩ u => St w ws2 u R2 [(b1, .cells #[.string f.name, .int .i64 f.bind, .int .i64 f.params, .slice adbF f.blocks.length capbF] 24 (0, 0))] [] ∧ k ≤ f.blocks.length ∧ n = manyAt f k ∧ (0 ≤ n ∧ n ≤ 3000) ∧ Alike ro w R2 ws2 ∧ (∀ b, R2 b → ro b ∨ w.heap.size ≤ b)) (fun ⟨k, n, R2, ws2⟩ => f.blocks.length - k) (0, 0, ro, w) ⟨rfl, rfl, rfl, rfl, trivial⟩ ⟨hS, Nat.zero_le _, rfl, by omega, Alike.refl, hsub⟩ ?_
 clear hS
 rintro ⟨k, n, R2, ws2⟩ w3 ⟨hS, hk, hn, hnb, halL0, hsub⟩
 replace hx := hx.keep halL0
 replace hbkFd := hbkFd.keep halL0 (fun _ _ h => h.keep halL0)
 refine W.seq (W.seq (W.region (WL.move rfl rfl rfl (WL.fieldAddr fo_24_3 rfl rfl rfl (WL.load1 (v := .slice adbF f.blocks.length capbF) one_22 rfl rfl rfl (hS.cell 0 rfl rfl) (WL.lenSlice Tryd.underlying22 rfl rfl rfl (WL.bin rfl rfl rfl rfl rfl (WL.nil (N.seq ?_)))))))))
 refine W.cond rfl (fun hc4 => ?_) (fun hc4 => ?_)
 ·
  have hc4p : (k : Int) < (f.blocks.length : Int) := by simpa using hc4
  refine W.skip (N.seq (W.seq (W.block (W.seq (W.region (WL.fieldAddr fo_24_3 rfl rfl rfl (WL.load1 (v := .slice adbF f.blocks.length capbF) one_22 rfl rfl rfl (hS.cell 0 rfl rfl) (WL.move rfl rfl rfl ?_))))))))
  have hj5 : k < f.blocks.length := by omega
  obtain ⟨x5, hx5, b5, o5, cs5, hE5, hr5, _, hc5, hQ5⟩ := opn hbkFd hj5
  obtain ⟨si5, tsx5, rfl, hin5, hfin5, hpar5⟩ := id hQ5
  obtain ⟨adi5, capi5, rfl, hin5a, hin5b, hin5c, hin5d⟩ := id hin5
  have hin5m : x5.ins.length ≤ 9223372036854775807 := by have h1 := hin5a; have h2 := hin5b; unfold maxLen at h2; omega
  obtain ⟨sp5, sq5, rfl, ht15, ht25, htk5, hta5, htt5, hte5⟩ := id hfin5
  obtain ⟨adp5, capp5, rfl, htp5a, htp5b, htp5c, htp5d⟩ := id ht15
  have htp5m : x5.fin.args.length ≤ 9223372036854775807 := by have h1 := htp5a; have h2 := htp5b; unfold maxLen at h2; omega
  obtain ⟨adq5, capq5, rfl, htq5a, htq5b, htq5c, htq5d⟩ := id ht25
  have htq5m : x5.fin.elses.length ≤ 9223372036854775807 := by have h1 := htq5a; have h2 := htq5b; unfold maxLen at h2; omega
  refine WL.indexAddrE (j := k) Tryd.underlying22 isz_59 rfl rfl rfl rfl hj5 hE5 (WL.loadN (cs := [.int .i64 x5.params, .slice adi5 x5.ins.length capi5, .int .i64 x5.fin.kind, .int .i64 x5.fin.a, .int .i64 x5.fin.to, .slice adp5 x5.fin.args.length capp5, .int .i64 x5.fin.els, .slice adq5 x5.fin.elses.length capq5]) agg_59 rfl rfl rfl rfl (hS.roCells hr5 hc5) ?_)
  refine WL.callF (vs := [.agg #[.int .i64 x5.params, .slice adi5 x5.ins.length capi5, .int .i64 x5.fin.kind, .int .i64 x5.fin.a, .int .i64 x5.fin.to, .slice adp5 x5.fin.args.length capp5, .int .i64 x5.fin.els, .slice adq5 x5.fin.elses.length capq5]]) Tryd.func55 (by kernel_rfl) rfl rfl rfl (rgive16_ret x5 _ (ro := R2) (fun b hb => (hS.snap b hb).1) (hQ5.keep hS.alike) (hok _ (List.mem_of_getElem? hx5))) ?_
  rintro vl w6 ⟨hvl, hbl⟩
  have hal7 := hS.alikeTo hbl (ro' := (roFrom R2 w3 w6)) (fun b hb => .inl hb)
  replace hsub : ∀ b, (roFrom R2 w3 w6) b → ro b ∨ w.heap.size ≤ b := fun b hb => hb.elim (hsub b) (fun h => .inr (Nat.le_trans hS.below.size h.1))
  replace halL0 := halL0.trans hal7
  replace hx := hx.keep hal7
  replace hS := hS.readNew hbl
  replace hvl := SlV.keep hvl (ro' := (roFrom R2 w3 w6)) (w' := w6) (Q' := IntC) (fun x hx => ⟨.inr hx, rfl⟩) (fun _ _ h => h)
  obtain ⟨adl, capadl, rfl, hvla, hvlb, hvlc, hvld⟩ := id hvl
  have hvlm : (give16 x5).length ≤ 9223372036854775807 := by have h1 := hvla; have h2 := hvlb; unfold maxLen at h2; omega
  have hfew := few16 (hok _ (List.mem_of_getElem? hx5)); have hgl := give16_length (hok _ (List.mem_of_getElem? hx5)); have hp1 := (hok _ (List.mem_of_getElem? hx5)).p1; have hp0 := (hok _ (List.mem_of_getElem? hx5)).p0; have hpn := (hok _ (List.mem_of_getElem? hx5)).n
  refine WL.assign rfl rfl rfl (WL.nil (N.seq (W.seq (W.region (WL.assign rfl rfl rfl (WL.nil (N.seq (W.block ?_))))))))
  refine W.loop (α := Nat × Int) (fun ⟨j, q⟩ => [(1, .pointer (some ⟨b1, 0, none⟩)), (2, .int .i64 0), (3, .int .i64 q), (4, .int .i64 (k : Int)), (5, .slice adl ((give16 x5).length) capadl), (6, .int .i64 (j : Int))]) (fun ⟨j, q⟩ u => St w w6 u (roFrom R2 w3 w6) [(b1, .cells #[.string f.name, .int .i64 f.bind, .int .i64 f.params, .slice adbF f.blocks.length capbF] 24 (0, 0))] [] ∧ j ≤ (give16 x5).length ∧ q = maxOf n ((give16 x5).take j) ∧ (0 ≤ q ∧ q ≤ 3000)) (fun ⟨j, q⟩ => (give16 x5).length - j) (0, n) ⟨rfl, rfl, rfl, rfl, rfl, rfl, trivial⟩ ⟨hS, Nat.zero_le _, rfl, hnb⟩ ?_
  clear hS
  rintro ⟨j, q⟩ w8 ⟨hS, hj, hq, hqb⟩
  refine W.seq (W.seq (W.region (WL.move rfl rfl rfl (WL.move rfl rfl rfl (WL.lenSlice Tryd.underlying55 rfl rfl rfl (WL.bin rfl rfl rfl rfl rfl (WL.nil (N.seq ?_))))))))
  refine W.cond rfl (fun hc9 => ?_) (fun hc9 => ?_)
  ·
   have hc9p : (j : Int) < ((give16 x5).length : Int) := by simpa using hc9
   refine W.skip (N.seq (W.seq (W.block (W.seq (W.region (WL.move rfl rfl rfl (WL.move rfl rfl rfl ?_)))))))
   have hj10 : j < (give16 x5).length := by omega
   obtain ⟨x10, hx10, b10, o10, cs10, hE10, hr10, _, hc10, hQ10⟩ := opn hvld hj10
   obtain ⟨rfl, hi10⟩ := hQ10
   refine WL.indexAddrE (j := j) Tryd.underlying55 isz_3 rfl rfl rfl rfl hj10 hE10 (WL.load1 (v := .int .i64 x10) one_3 rfl rfl rfl (hS.roCells hr10 hc10 0 _ rfl) (WL.move rfl rfl rfl (WL.bin rfl rfl rfl rfl rfl (WL.nil (N.seq ?_)))))
   refine W.cond rfl (fun hc11 => ?_) (fun hc11 => ?_)
   ·
    have hc11p : q ≤ x10 := by simpa using hc11
    refine W.region (WL.move rfl rfl rfl (WL.move rfl rfl rfl (WL.indexAddrE (j := j) Tryd.underlying55 isz_3 rfl rfl rfl rfl hj10 hE10 (WL.load1 (v := .int .i64 x10) one_3 rfl rfl rfl (hS.roCells hr10 hc10 0 _ rfl) ?_))))
    have hfa := hfew.step j _ hx10
    refine WL.add (c := x10 + 1) rfl rfl rfl rfl rfl (by omega) ?_
    refine WL.assign rfl rfl rfl (WL.nil (N.blk (N.seq (W.region (WL.move rfl rfl rfl ?_)))))
    refine WL.add (c := (j : Int) + 1) rfl rfl rfl rfl (rfl) (by omega) ?_
    refine WL.assign rfl rfl rfl (WL.nil ?_)
    have hst : maxOf n ((give16 x5).take (j + 1)) = x10 + 1 := by rw [take_next hx10, maxOf_snoc, ← hq]; rw [if_pos (by omega)]
    have hfx := hfew.step j _ hx10
    exact N.loop (j + 1, x10 + 1) ⟨rfl, rfl, rfl, rfl, rfl, rfl, trivial⟩ ⟨hS, by omega, hst.symm, by omega⟩ (by first | omega | (simp only; omega))
   have hc11p : ¬ (q ≤ x10) := by simpa using hc11
   refine W.skip (N.blk (N.seq (W.region (WL.move rfl rfl rfl ?_))))
   refine WL.add (c := (j : Int) + 1) rfl rfl rfl rfl (rfl) (by omega) ?_
   refine WL.assign rfl rfl rfl (WL.nil ?_)
   have hst : maxOf n ((give16 x5).take (j + 1)) = q := by rw [take_next hx10, maxOf_snoc, ← hq]; rw [if_neg (by omega)]
   have hfx := hfew.step j _ hx10
   exact N.loop (j + 1, q) ⟨rfl, rfl, rfl, rfl, rfl, rfl, trivial⟩ ⟨hS, by omega, hst.symm, by omega⟩ (by first | omega | (simp only; omega))
  have hc9p : ¬ ((j : Int) < ((give16 x5).length : Int)) := by simpa using hc9
  refine W.exit (X.seq (X.loop (X.blk (N.blk (N.seq (W.region (WL.move rfl rfl rfl ?_)))))))
  refine WL.add (c := (k : Int) + 1) rfl rfl rfl rfl (rfl) (by omega) ?_
  refine WL.assign rfl rfl rfl (WL.nil ?_)
  have hst : manyAt f (k + 1) = q := by rw [manyAt_succ hx5, ← hn, hq, show j = (give16 x5).length by omega, List.take_length]
  exact N.loop (k + 1, q, (roFrom R2 w3 w6), w6) ⟨rfl, rfl, rfl, rfl, trivial⟩ ⟨hS, by omega, hst.symm, by omega, halL0, hsub⟩ (by first | omega | (simp only; omega))
 have hc4p : ¬ ((k : Int) < (f.blocks.length : Int)) := by simpa using hc4
 refine W.exit (X.seq (X.loop (X.blk (N.seq (W.seq (W.region (WL.move rfl rfl rfl (WL.assign rfl rfl rfl (WL.nil ?_)))))))))
 refine N.seq ?_
 refine Fin.ret1 rfl (v := .int .i64 n) rfl ?_
 rw [show k = f.blocks.length by omega, manyAt_full] at hn
 exact ⟨by rw [hn], hS.below⟩

set_option maxRecDepth 10000 in
set_option maxHeartbeats 4000000 in
theorem rframe17_ret (f : DFunc) (cf : List Value) {w : World} {ro : Nat → Prop} (hro : ∀ b, ro b → b < w.heap.size) (hx : FuncC ro w cf f) (hok : OkG f) : Ret Tryd.prog 52 #[.agg cf.toArray] w fun v w' => v = .int .i64 (frame17 f) ∧ Below w.heap.size w w' := by
 obtain ⟨sbF, rfl, hblF, hnmF, hbdF, hprF⟩ := id hx
 obtain ⟨adbF, capbF, rfl, hbkFa, hbkFb, hbkFc, hbkFd⟩ := id hblF
 have hbkFm : f.blocks.length ≤ 9223372036854775807 := by have h1 := hbkFa; have h2 := hbkFb; unfold maxLen at h2; omega
 refine Ret.enter (P := Tryd.prog) (n := 14) (args := [.agg #[.string f.name, .int .i64 f.bind, .int .i64 f.params, .slice adbF f.blocks.length capbF]]) (σ := [(0, .agg #[.string f.name, .int .i64 f.bind, .int .i64 f.params, .slice adbF f.blocks.length capbF])]) Tryd.func52 rfl rfl rfl rfl ?_
 have hS := St.start (ro := ro) hro
 refine W.seq (W.region ?_)
 refine WL.box (v := .agg #[.string f.name, .int .i64 f.bind, .int .i64 f.params, .slice adbF f.blocks.length capbF]) (cs := [.string f.name, .int .i64 f.bind, .int .i64 f.params, .slice adbF f.blocks.length capbF]) rfl rfl rfl rfl hS ?_
 clear hS; intro w2 b1 hb_b1 hS
 refine WL.assign rfl rfl rfl (WL.nil (N.seq (W.seq (W.region (WL.loadN (cs := [.string f.name, .int .i64 f.bind, .int .i64 f.params, .slice adbF f.blocks.length capbF]) agg_24 rfl rfl rfl rfl (hS.cells 0 (m := 4) rfl rfl) ?_)))))
 refine WL.callF (vs := [.agg #[.string f.name, .int .i64 f.bind, .int .i64 f.params, .slice adbF f.blocks.length capbF]]) Tryd.func53 (by kernel_rfl) rfl rfl rfl (rmany16_ret f _ (ro := ro) (fun b hb => (hS.snap b hb).1) (hx.keep hS.alike) hok.ok) ?_
 rintro v w3 ⟨rfl, hbl⟩
 replace hS := hS.grow hbl
 have hm38 := many16_38 hok; have hfi := frame_in hok
 refine WL.mul (c := 8 * (many16 f)) rfl rfl rfl rfl (rfl) (by omega) ?_
 refine WL.add (c := 56 + (8 * (many16 f))) rfl rfl rfl rfl (rfl) (by omega) ?_
 refine WL.assign rfl rfl rfl (WL.nil (N.seq (W.seq (W.block ?_))))
 refine W.loop (α := Int) (fun (n : Int) => [(2, .int .i64 0), (3, .int .i64 n)]) (fun (n : Int) u => St w w u ro [(b1, .cells #[.string f.name, .int .i64 f.bind, .int .i64 f.params, .slice adbF f.blocks.length capbF] 24 (0, 0))] [] ∧ n ≤ frame17 f ∧ 56 + 8 * many16 f ≤ n) (fun (n : Int) => (frame17 f - n).toNat) (56 + 8 * many16 f) ⟨rfl, rfl, trivial⟩ ⟨hS, by unfold frame17; omega, Int.le_refl _⟩ ?_
 clear hS
 rintro n w4 ⟨hS, hn1, hn2⟩
 refine W.seq (W.seq (W.region (WL.move rfl rfl rfl ?_)))
 refine WL.remC rfl rfl rfl rfl (by decide) ?_
 refine WL.bin rfl rfl rfl rfl rfl (WL.nil (N.seq ?_))
 refine W.cond rfl (fun hc5 => ?_) (fun hc5 => ?_)
 ·
  have hc5p : ¬ (n.tmod 16 = 0) := by simpa using hc5
  refine W.skip (N.seq (W.block (W.region (WL.move rfl rfl rfl ?_))))
  refine WL.add (c := n + 1) rfl rfl rfl rfl (rfl) (by omega) ?_
  refine WL.assign rfl rfl rfl (WL.nil (N.blk ?_))
  have hz : ¬ n % 16 = 0 := by have h := hc5p; rw [Int.tmod_eq_emod_of_nonneg (by omega)] at h; simpa using h
  exact N.loop (n + 1) ⟨rfl, rfl, trivial⟩ ⟨hS, by unfold frame17 at *; omega, by omega⟩ (by first | omega | (simp only; omega) | (unfold frame17 at *; omega))
 have hc5p : n.tmod 16 = 0 := by simpa using hc5
 refine W.exit (X.seq (X.loop (X.blk (N.seq (W.seq (W.region (WL.move rfl rfl rfl (WL.assign rfl rfl rfl (WL.nil ?_)))))))))
 refine N.seq ?_
 refine Fin.ret1 rfl (v := .int .i64 n) rfl ?_
 have hz := hc5p
 rw [Int.tmod_eq_emod_of_nonneg (by omega)] at hz
 have hz2 : n % 16 = 0 := by simpa using hz
 exact ⟨by rw [show n = frame17 f by unfold frame17 at *; omega], hS.below⟩

end Go.Proofs.YtcmmhfknkldmcaaDoor
