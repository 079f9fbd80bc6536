/-
  Contracts of layer 16 (slot). No condition beyond those that each theorem states.
-/
import Derived.Test.YtcmmhfknkldmcaaDoorS3
namespace Go.Proofs.YtcmmhfknkldmcaaDoor
open Go.RowKit

theorem use16_get {us : List Int} {step : Int} {l : List Int} {v : Nat} (hv : v < us.length) (hl : ∀ x ∈ l, 0 ≤ x) : (use16 us step l)[v]? = if (v : Int) ∈ l then some step else us[v]? := by
  induction l using snoc_ind with
  | h0 => simp [use16]
  | h1 l x ih =>
    have ih := ih fun y hy => hl y (List.mem_append_left _ hy)
    have hx := hl x (by simp)
    rw [use16_snoc, List.getElem?_set, use16_length]
    by_cases e : x.toNat = v
    · rw [if_pos e, if_pos (show x.toNat < us.length by omega), if_pos (by simp; right; omega)]
    · rw [if_neg e, ih]
      have : ((v : Int) ∈ l ++ [x]) ↔ (v : Int) ∈ l := by simp; omega
      by_cases h : (v : Int) ∈ l
      · rw [if_pos h, if_pos (this.2 h)]
      · rw [if_neg h, if_neg (fun h' => h (this.1 h'))]
def given16i (b : DBlock) (v : Int) : Int := if v < b.params then -1 else v - b.params
def rlIns : Nat → Int → Int → List DInst → Int
  | _, _, acc, [] => acc
  | i, v, acc, x :: r => rlIns (i + 1) v (if v ∈ uses5 x then (i : Int) else acc) r
theorem rlIns_snoc : ∀ (l : List DInst) (i : Nat) (v acc : Int) (x : DInst), rlIns i v acc (l ++ [x]) = if v ∈ uses5 x then ((i + l.length : Nat) : Int) else rlIns i v acc l
  | [], i, v, acc, x => by simp [rlIns]
  | y :: r, i, v, acc, x => by
    rw [List.cons_append, rlIns, rlIns_snoc r (i + 1) v _ x, rlIns, List.length_cons, show i + 1 + r.length = i + (r.length + 1) by omega]
def rl16 (b : DBlock) (v : Nat) : Int := if ((v : Int) ∈ b.fin.args ∨ (v : Int) ∈ b.fin.elses) ∨ (b.fin.kind ≠ 1 ∧ b.fin.a = (v : Int)) then (b.ins.length : Int) else rlIns 0 v (given16i b v) b.ins
theorem useIns16_get {v : Nat} : ∀ (l : List DInst) (i : Nat) (us : List Int) (acc : Int), v < us.length → us[v]? = some acc → (∀ x ∈ l, ∀ y ∈ uses5 x, 0 ≤ y) → (useIns16 i us l)[v]? = some (rlIns i v acc l)
  | [], _, _, _, _, h, _ => h
  | x :: r, i, us, acc, hv, h, hl => by
    rw [useIns16, rlIns]
    refine useIns16_get r (i + 1) _ _ (by rw [use16_length]; exact hv) ?_ fun y hy => hl y (List.mem_cons_of_mem _ hy)
    rw [use16_get hv (hl x List.mem_cons_self)]
    split
    · rfl
    · exact h
theorem last16_get {b : DBlock} (hok : Ok16 b) {v : Nat} (hv : v < b.params.toNat + b.ins.length) : (last16 b)[v]? = some (rl16 b v) := by
  have h0 : (base16 b)[v]? = some (given16i b v) := by
    unfold base16
    rw [List.getElem?_map, List.getElem?_range hv]
    have := hok.p0
    simp only [Option.map_some, ini16, given16i, Option.some.injEq]
    split <;> split <;> omega
  have h1 := useIns16_get b.ins 0 (base16 b) _ (by rw [base16_length]; exact hv) h0 fun x hx y hy => (hok.uses x hx y hy).1
  have h2 := use16_get (us := useIns16 0 (base16 b) b.ins) (step := b.ins.length) (l := b.fin.args) (v := v) (by rw [useIns16_length, base16_length]; exact hv) fun x hx => (hok.ta x hx).1
  have h3 := use16_get (us := use16 (useIns16 0 (base16 b) b.ins) b.ins.length b.fin.args) (step := b.ins.length) (l := b.fin.elses) (v := v) (by rw [use16_length, useIns16_length, base16_length]; exact hv) fun x hx => (hok.te x hx).1
  rw [h2, h1] at h3
  unfold last16 rl16; dsimp only
  by_cases hk : b.fin.kind = 1
  · rw [if_pos hk, h3]
    by_cases ha : (v : Int) ∈ b.fin.args <;> by_cases he : (v : Int) ∈ b.fin.elses <;> simp [ha, he, hk]
  · rw [if_neg hk]
    have h4 := use16_get (us := use16 (use16 (useIns16 0 (base16 b) b.ins) b.ins.length b.fin.args) b.ins.length b.fin.elses) (step := b.ins.length) (l := [b.fin.a]) (v := v) (by rw [use16_length, use16_length, useIns16_length, base16_length]; exact hv) fun x hx => by
      simp only [List.mem_cons, List.not_mem_nil, or_false] at hx; rw [hx]; exact (hok.tv hk).1
    rw [h4, h3]
    by_cases hav : b.fin.a = (v : Int)
    · simp [hav, hk]
    · have hav' : ¬ (v : Int) = b.fin.a := fun e => hav e.symm
      by_cases ha : (v : Int) ∈ b.fin.args <;> by_cases he : (v : Int) ∈ b.fin.elses <;> simp [ha, he, hav, hav']
theorem rlast16_eq {b : DBlock} (hok : Ok16 b) : (List.range (b.params.toNat + b.ins.length)).map (rl16 b) = last16 b := by
  apply List.ext_getElem?
  intro v
  by_cases hv : v < b.params.toNat + b.ins.length
  · rw [last16_get hok hv, List.getElem?_map, List.getElem?_range hv]; rfl
  · rw [List.getElem?_eq_none (by simpa using hv), List.getElem?_eq_none (by rw [last16_length]; omega)]

theorem has16_ret (xs : List Int) (vx : Value) (n : Int) {w : World} {ro : Nat → Prop} (hro : ∀ b, ro b → b < w.heap.size) (hx : SlV ro w 1 IntC vx xs) : Ret Tryd.prog 75 #[vx, .int .i64 n] w fun v w' => v = .bool (decide (n ∈ xs)) ∧ Below w.heap.size w w' := by
 obtain ⟨ad, cap, rfl, haa, hab, hac, had⟩ := id hx
 have ham : xs.length ≤ 9223372036854775807 := by have h1 := haa; have h2 := hab; unfold maxLen at h2; omega
 refine Ret.enter (P := Tryd.prog) (n := 18) (args := [.slice ad xs.length cap, .int .i64 n]) (σ := [(0, .slice ad xs.length cap), (1, .int .i64 n)]) Tryd.func75 rfl rfl rfl rfl ?_
 have hS := St.start (ro := ro) hro
 refine W.seq (W.region (WL.assign rfl rfl rfl (WL.nil (N.seq (W.seq (W.seq (W.region (WL.assign rfl rfl rfl (WL.nil ?_)))))))))
 refine N.seq (W.block ?_)
 refine W.loop (α := Nat) (fun (k : Nat) => [(0, .slice ad xs.length cap), (1, .int .i64 n), (5, .int .i64 (k : Int))]) (fun (k : Nat) u => St w w u ro [] [] ∧ k ≤ xs.length ∧ n ∉ xs.take k) (fun (k : Nat) => xs.length - k) 0 ⟨rfl, rfl, rfl, trivial⟩ ⟨hS, Nat.zero_le _, by simp⟩ ?_
 clear hS
 rintro k w1 ⟨hS, hk, htk⟩
 refine W.seq (W.seq (W.region (WL.move rfl rfl rfl (WL.move rfl rfl rfl (WL.lenSlice Tryd.underlying55 rfl rfl rfl (WL.bin rfl rfl rfl rfl rfl (WL.nil (N.seq ?_))))))))
 refine W.cond rfl (fun hc2 => ?_) (fun hc2 => ?_)
 ·
  have hc2p : (k : Int) < (xs.length : Int) := by simpa using hc2
  refine W.skip (N.seq (W.seq (W.block (W.seq (W.region (WL.move rfl rfl rfl (WL.move rfl rfl rfl ?_)))))))
  have hj3 : k < xs.length := by omega
  obtain ⟨x3, hx3, b3, o3, cs3, hE3, hr3, _, hc3, hQ3⟩ := opn had hj3
  obtain ⟨rfl, hi3⟩ := hQ3
  refine WL.indexAddrE (j := k) Tryd.underlying55 isz_3 rfl rfl rfl rfl hj3 hE3 (WL.load1 (v := .int .i64 x3) one_3 rfl rfl rfl (hS.roCells hr3 hc3 0 _ rfl) (WL.move rfl rfl rfl (WL.bin rfl rfl rfl rfl rfl (WL.nil (N.seq ?_)))))
  refine W.cond rfl (fun hc4 => ?_) (fun hc4 => ?_)
  ·
   have hc4p : x3 = n := by simpa using hc4
   refine W.seq (W.region (WL.assign rfl rfl rfl (WL.nil (N.seq ?_))))
   refine Fin.ret1 rfl (v := .bool true) rfl ?_
   have e : n ∈ xs := by have := List.mem_of_getElem? hx3; rw [hc4p] at this; exact this
   exact ⟨by rw [decide_eq_true e], hS.below⟩
  have hc4p : ¬ (x3 = n) := by simpa using hc4
  refine W.skip (N.blk (N.seq (W.region (WL.move rfl rfl rfl ?_))))
  refine WL.add (c := (k : Int) + 1) rfl rfl rfl rfl (rfl) (by omega) ?_
  refine WL.assign rfl rfl rfl (WL.nil ?_)
  have htk2 : n ∉ xs.take (k + 1) := by rw [take_next hx3]; simp only [List.mem_append, List.mem_cons, List.not_mem_nil, or_false]; exact fun h => h.elim htk (fun e => hc4p e.symm)
  exact N.loop (k + 1) ⟨rfl, rfl, rfl, trivial⟩ ⟨hS, by omega, htk2⟩ (by first | omega | (simp only; omega))
 have hc2p : ¬ ((k : Int) < (xs.length : Int)) := by simpa using hc2
 refine W.exit (X.seq (X.loop (X.blk (N.seq (W.seq (W.region (WL.assign rfl rfl rfl (WL.nil (N.seq ?_)))))))))
 refine Fin.ret1 rfl (v := .bool false) rfl ?_
 have e : k = xs.length := by omega
 rw [e, List.take_length] at htk
 exact ⟨by rw [decide_eq_false htk], hS.below⟩

theorem given16_ret (b : DBlock) (cs : List Value) (v : Int) {w : World} {ro : Nat → Prop} (hro : ∀ b, ro b → b < w.heap.size) (hb : BlockC ro w cs b) (hp : 0 ≤ b.params ∧ b.params ≤ 1000) (hv : 0 ≤ v ∧ v ≤ 1000000) : Ret Tryd.prog 70 #[.agg cs.toArray, .int .i64 v] w fun r w' => r = .int .i64 (given16i b v) ∧ Below w.heap.size w w' := by
 obtain ⟨si, tsx, rfl, hin, hfin, hpar⟩ := id hb
 obtain ⟨adi, capi, rfl, hina, hinb, hinc, hind⟩ := id hin
 have hinm : b.ins.length ≤ 9223372036854775807 := by have h1 := hina; have h2 := hinb; unfold maxLen at h2; omega
 obtain ⟨sp, sq, rfl, ht1, ht2, htk, hta, htt, hte⟩ := id hfin
 obtain ⟨adp, capp, rfl, htpa, htpb, htpc, htpd⟩ := id ht1
 have htpm : b.fin.args.length ≤ 9223372036854775807 := by have h1 := htpa; have h2 := htpb; unfold maxLen at h2; omega
 obtain ⟨adq, capq, rfl, htqa, htqb, htqc, htqd⟩ := id ht2
 have htqm : b.fin.elses.length ≤ 9223372036854775807 := by have h1 := htqa; have h2 := htqb; unfold maxLen at h2; omega
 refine Ret.enter (P := Tryd.prog) (n := 13) (args := [.agg #[.int .i64 b.params, .slice adi b.ins.length capi, .int .i64 b.fin.kind, .int .i64 b.fin.a, .int .i64 b.fin.to, .slice adp b.fin.args.length capp, .int .i64 b.fin.els, .slice adq b.fin.elses.length capq], .int .i64 v]) (σ := [(0, .agg #[.int .i64 b.params, .slice adi b.ins.length capi, .int .i64 b.fin.kind, .int .i64 b.fin.a, .int .i64 b.fin.to, .slice adp b.fin.args.length capp, .int .i64 b.fin.els, .slice adq b.fin.elses.length capq]), (1, .int .i64 v)]) Tryd.func70 rfl rfl rfl rfl ?_
 have hS := St.start (ro := ro) hro
 refine W.seq (W.region ?_)
 refine WL.box (v := .agg #[.int .i64 b.params, .slice adi b.ins.length capi, .int .i64 b.fin.kind, .int .i64 b.fin.a, .int .i64 b.fin.to, .slice adp b.fin.args.length capp, .int .i64 b.fin.els, .slice adq b.fin.elses.length capq]) (cs := [.int .i64 b.params, .slice adi b.ins.length capi, .int .i64 b.fin.kind, .int .i64 b.fin.a, .int .i64 b.fin.to, .slice adp b.fin.args.length capp, .int .i64 b.fin.els, .slice adq b.fin.elses.length capq]) rfl rfl rfl rfl hS ?_
 clear hS; intro w2 b1 hb_b1 hS
 refine WL.assign rfl rfl rfl (WL.nil (N.seq (W.seq (W.seq (W.region (WL.move rfl rfl rfl (WL.fieldAddr fo_59_0 rfl rfl rfl (WL.load1 (v := .int .i64 b.params) one_3 rfl rfl rfl (hS.cell 0 rfl rfl) (WL.bin rfl rfl rfl rfl rfl ?_)))))))))
 refine WL.nil (N.seq ?_)
 refine W.cond rfl (fun hc3 => ?_) (fun hc3 => ?_)
 ·
  have hc3p : v < b.params := by simpa using hc3
  refine W.seq (W.region (WL.assign rfl rfl rfl (WL.nil (N.seq ?_))))
  refine Fin.ret1 rfl (v := .int .i64 (-1)) rfl ?_
  refine ⟨?_, hS.below⟩
  unfold given16i
  rw [if_pos (by omega)]
 have hc3p : ¬ (v < b.params) := by simpa using hc3
 refine W.skip (N.seq (W.seq (W.region (WL.move rfl rfl rfl (WL.fieldAddr fo_59_0 rfl rfl rfl (WL.load1 (v := .int .i64 b.params) one_3 rfl rfl rfl (hS.cell 0 rfl rfl) ?_))))))
 refine WL.sub_ (c := v - b.params) rfl rfl rfl rfl (rfl) (by omega) ?_
 refine WL.assign rfl rfl rfl (WL.nil (N.seq ?_))
 refine Fin.ret1 rfl (v := .int .i64 (v - b.params)) rfl ?_
 refine ⟨?_, hS.below⟩
 unfold given16i
 rw [if_neg (by omega)]

set_option maxRecDepth 10000 in
set_option maxHeartbeats 2000000 in
theorem rlast16_ret (b : DBlock) (cs : List Value) {w : World} {ro : Nat → Prop} (hro : ∀ b, ro b → b < w.heap.size) (hb : BlockC ro w cs b) (hok : Ok16 b) : Ret Tryd.prog 69 #[.agg cs.toArray] w fun v w' => SlV (fun b => w.heap.size ≤ b ∧ b < w'.heap.size) w' 1 IntC v (last16 b) ∧ Below w.heap.size w w' := by
 obtain ⟨si, tsx, rfl, hin, hfin, hpar⟩ := id hb
 obtain ⟨adi, capi, rfl, hina, hinb, hinc, hind⟩ := id hin
 have hinm : b.ins.length ≤ 9223372036854775807 := by have h1 := hina; have h2 := hinb; unfold maxLen at h2; omega
 obtain ⟨sp, sq, rfl, ht1, ht2, htk, hta, htt, hte⟩ := id hfin
 obtain ⟨adp, capp, rfl, htpa, htpb, htpc, htpd⟩ := id ht1
 have htpm : b.fin.args.length ≤ 9223372036854775807 := by have h1 := htpa; have h2 := htpb; unfold maxLen at h2; omega
 obtain ⟨adq, capq, rfl, htqa, htqb, htqc, htqd⟩ := id ht2
 have htqm : b.fin.elses.length ≤ 9223372036854775807 := by have h1 := htqa; have h2 := htqb; unfold maxLen at h2; omega
 refine Ret.enter (P := Tryd.prog) (n := 73) (args := [.agg #[.int .i64 b.params, .slice adi b.ins.length capi, .int .i64 b.fin.kind, .int .i64 b.fin.a, .int .i64 b.fin.to, .slice adp b.fin.args.length capp, .int .i64 b.fin.els, .slice adq b.fin.elses.length capq]]) (σ := [(0, .agg #[.int .i64 b.params, .slice adi b.ins.length capi, .int .i64 b.fin.kind, .int .i64 b.fin.a, .int .i64 b.fin.to, .slice adp b.fin.args.length capp, .int .i64 b.fin.els, .slice adq b.fin.elses.length capq])]) Tryd.func69 rfl rfl rfl rfl ?_
 have hS := St.start (ro := ro) hro
 have hokn := hok.n; have hokp := hok.p0; have hokq := hok.p1
 refine W.seq (W.region ?_)
 refine WL.box (v := .agg #[.int .i64 b.params, .slice adi b.ins.length capi, .int .i64 b.fin.kind, .int .i64 b.fin.a, .int .i64 b.fin.to, .slice adp b.fin.args.length capp, .int .i64 b.fin.els, .slice adq b.fin.elses.length capq]) (cs := [.int .i64 b.params, .slice adi b.ins.length capi, .int .i64 b.fin.kind, .int .i64 b.fin.a, .int .i64 b.fin.to, .slice adp b.fin.args.length capp, .int .i64 b.fin.els, .slice adq b.fin.elses.length capq]) rfl rfl rfl rfl hS ?_
 clear hS; intro w2 b1 hb_b1 hS
 refine WL.assign rfl rfl rfl (WL.nil (N.seq (W.seq (W.region (WL.assign rfl rfl rfl (WL.nil (N.seq (W.seq (W.seq ?_)))))))))
 refine W.region (WL.assign rfl rfl rfl (WL.nil (N.seq (W.block ?_))))
 replace hS := hS.row0 3 1
 refine W.loop (α := Nat × Value × List Value) (fun ⟨v, va, cs⟩ => [(1, .pointer (some ⟨b1, 0, none⟩)), (2, .slice none 0 0), (3, va), (4, .int .i64 (v : Int))]) (fun ⟨v, va, cs⟩ u => St w w u ro [(b1, .cells #[.int .i64 b.params, .slice adi b.ins.length capi, .int .i64 b.fin.kind, .int .i64 b.fin.a, .int .i64 b.fin.to, .slice adp b.fin.args.length capp, .int .i64 b.fin.els, .slice adq b.fin.elses.length capq] 59 (0, 0))] [⟨va, 3, 1, v, cs⟩] ∧ v ≤ b.params.toNat + b.ins.length ∧ Chunks 1 IntC cs ((List.range v).map (rl16 b))) (fun ⟨v, va, cs⟩ => b.params.toNat + b.ins.length - v) (0, (.slice none 0 0), []) ⟨rfl, rfl, rfl, rfl, trivial⟩ ⟨hS, Nat.zero_le _, Chunks.nil⟩ ?_
 clear hS
 rintro ⟨v, va, cs⟩ w3 ⟨hS, hv, hch⟩
 have hrow : w3.ownsRow w.heap.size 3 1 va (v) _ := hS.rows _ List.mem_cons_self
 obtain ⟨adva, capva, rfl, hr1va, hr2va, hr3va⟩ := row_shape hrow
 clear hrow
 refine W.seq (W.seq (W.region (WL.move rfl rfl rfl (WL.fieldAddr fo_59_0 rfl rfl rfl (WL.load1 (v := .int .i64 b.params) one_3 rfl rfl rfl (hS.cell 0 rfl rfl) (WL.fieldAddr fo_59_1 rfl rfl rfl (WL.load1 (v := .slice adi b.ins.length capi) one_54 rfl rfl rfl (hS.cell 0 rfl rfl) (WL.lenSlice Tryd.underlying54 rfl rfl rfl ?_))))))))
 refine WL.add (c := b.params + (b.ins.length : Int)) rfl rfl rfl rfl (rfl) (by omega) ?_
 refine WL.bin rfl rfl rfl rfl rfl (WL.nil (N.seq ?_))
 refine W.cond rfl (fun hc4 => ?_) (fun hc4 => ?_)
 ·
  have hc4p : (v : Int) < b.params + (b.ins.length : Int) := by simpa using hc4
  refine W.skip (N.seq (W.seq (W.block (W.seq (W.region (WL.loadN (cs := [.int .i64 b.params, .slice adi b.ins.length capi, .int .i64 b.fin.kind, .int .i64 b.fin.a, .int .i64 b.fin.to, .slice adp b.fin.args.length capp, .int .i64 b.fin.els, .slice adq b.fin.elses.length capq]) agg_59 rfl rfl rfl rfl (hS.cells 0 (m := 8) rfl rfl) (WL.move rfl rfl rfl ?_)))))))
  refine WL.callF (vs := [.agg #[.int .i64 b.params, .slice adi b.ins.length capi, .int .i64 b.fin.kind, .int .i64 b.fin.a, .int .i64 b.fin.to, .slice adp b.fin.args.length capp, .int .i64 b.fin.els, .slice adq b.fin.elses.length capq], .int .i64 (v : Int)]) Tryd.func70 (by kernel_rfl) rfl rfl rfl (given16_ret b _ (v : Int) (ro := ro) (fun b hb => (hS.snap b hb).1) (hb.keep hS.alike) ⟨hok.p0, hok.p1⟩ (by omega)) ?_
  rintro r w5 ⟨rfl, hbl⟩
  replace hS := hS.grow hbl
  refine WL.assign rfl rfl rfl (WL.nil (N.seq (W.seq (W.seq (W.region (WL.assign rfl rfl rfl (WL.nil (N.seq (W.block ?_)))))))))
  refine W.loop (α := Nat × Int) (fun ⟨k, acc⟩ => [(1, .pointer (some ⟨b1, 0, none⟩)), (2, .slice none 0 0), (3, .slice adva v capva), (4, .int .i64 (v : Int)), (5, .int .i64 acc), (6, .int .i64 (k : Int))]) (fun ⟨k, acc⟩ u => St w w u ro [(b1, .cells #[.int .i64 b.params, .slice adi b.ins.length capi, .int .i64 b.fin.kind, .int .i64 b.fin.a, .int .i64 b.fin.to, .slice adp b.fin.args.length capp, .int .i64 b.fin.els, .slice adq b.fin.elses.length capq] 59 (0, 0))] [⟨.slice adva v capva, 3, 1, v, cs⟩] ∧ k ≤ b.ins.length ∧ acc = rlIns 0 v (given16i b v) (b.ins.take k)) (fun ⟨k, acc⟩ => b.ins.length - k) (0, given16i b v) ⟨rfl, rfl, rfl, rfl, rfl, rfl, trivial⟩ ⟨hS, Nat.zero_le _, rfl⟩ ?_
  clear hS
  rintro ⟨k, acc⟩ w6 ⟨hS, hk, hacc⟩
  refine W.seq (W.seq (W.region (WL.move rfl rfl rfl (WL.fieldAddr fo_59_1 rfl rfl rfl (WL.load1 (v := .slice adi b.ins.length capi) one_54 rfl rfl rfl (hS.cell 0 rfl rfl) (WL.lenSlice Tryd.underlying54 rfl rfl rfl (WL.bin rfl rfl rfl rfl rfl (WL.nil (N.seq ?_)))))))))
  refine W.cond rfl (fun hc7 => ?_) (fun hc7 => ?_)
  ·
   have hc7p : (k : Int) < (b.ins.length : Int) := by simpa using hc7
   refine W.skip (N.seq (W.seq (W.block (W.seq (W.region (WL.fieldAddr fo_59_1 rfl rfl rfl (WL.load1 (v := .slice adi b.ins.length capi) one_54 rfl rfl rfl (hS.cell 0 rfl rfl) (WL.move rfl rfl rfl ?_))))))))
   have hj8 : k < b.ins.length := by omega
   obtain ⟨x8, hx8, b8, o8, cs8, hE8, hr8, _, hc8, hQ8⟩ := opn hind hj8
   have hQk8 := hQ8
   obtain ⟨sv8, rfl, hs8, ho8, ha8, hb8, hk8, hn8⟩ := hQ8
   obtain ⟨ad8, cap8, rfl, hs8a, hs8b, hs8c, hs8d⟩ := id hs8
   have hs8m : x8.args.length ≤ 9223372036854775807 := by have h1 := hs8a; have h2 := hs8b; unfold maxLen at h2; omega
   refine WL.indexAddrE (j := k) Tryd.underlying54 isz_69 rfl rfl rfl rfl hj8 hE8 (WL.loadN (cs := [.int .i64 x8.op, .int .i64 x8.a, .int .i64 x8.b, .int .u64 x8.k, .string x8.name, .slice ad8 x8.args.length cap8]) agg_69 rfl rfl rfl rfl (hS.roCells hr8 hc8) ?_)
   refine WL.callF (vs := [.agg #[.int .i64 x8.op, .int .i64 x8.a, .int .i64 x8.b, .int .u64 x8.k, .string x8.name, .slice ad8 x8.args.length cap8]]) Tryd.func60 (by kernel_rfl) rfl rfl rfl (uses5_ret x8 _ (ro := ro) (fun b hb => (hS.snap b hb).1) (hQk8.keep hS.alike) (by have := hok.args _ (List.mem_of_getElem? hx8); omega)) ?_
   rintro vu w9 ⟨hus, hbl⟩
   replace hS := hS.grow hbl
   refine WL.move rfl rfl rfl ?_
   refine WL.callF (vs := [vu, .int .i64 (v : Int)]) Tryd.func75 (by kernel_rfl) rfl rfl rfl (has16_ret (uses5 x8) _ (v : Int) (ro := fun b => w6.heap.size ≤ b ∧ b < w9.heap.size) (fun _ h => h.2) hus) ?_
   rintro r w10 ⟨rfl, hbl⟩
   replace hS := hS.grow hbl
   refine WL.assign rfl rfl rfl (WL.nil (N.seq (W.seq (W.region (WL.move rfl rfl rfl (WL.nil (N.seq ?_)))))))
   refine W.cond rfl (fun hc11 => ?_) (fun hc11 => ?_)
   ·
    have hc11p : (v : Int) ∈ uses5 x8 := by simpa using hc11
    refine W.region (WL.move rfl rfl rfl (WL.assign rfl rfl rfl (WL.nil (N.blk (N.seq (W.region (WL.move rfl rfl rfl ?_)))))))
    refine WL.add (c := (k : Int) + 1) rfl rfl rfl rfl (rfl) (by omega) ?_
    refine WL.assign rfl rfl rfl (WL.nil ?_)
    have hst : rlIns 0 v (given16i b v) (b.ins.take (k + 1)) = (k : Int) := by rw [take_next hx8, rlIns_snoc, List.length_take, Nat.min_eq_left (by omega), Nat.zero_add, if_pos hc11p]
    exact N.loop (k + 1, (k : Int)) ⟨rfl, rfl, rfl, rfl, rfl, rfl, trivial⟩ ⟨hS, by omega, by rw [hst]⟩ (by first | omega | (simp only; omega))
   have hc11p : ¬ ((v : Int) ∈ uses5 x8) := by simpa using hc11
   refine W.skip (N.blk (N.seq (W.region (WL.move rfl rfl rfl ?_))))
   refine WL.add (c := (k : Int) + 1) rfl rfl rfl rfl (rfl) (by omega) ?_
   refine WL.assign rfl rfl rfl (WL.nil ?_)
   have hst : rlIns 0 v (given16i b v) (b.ins.take (k + 1)) = rlIns 0 v (given16i b v) (b.ins.take k) := by rw [take_next hx8, rlIns_snoc, List.length_take, Nat.min_eq_left (by omega), Nat.zero_add, if_neg hc11p]
   exact N.loop (k + 1, acc) ⟨rfl, rfl, rfl, rfl, rfl, rfl, trivial⟩ ⟨hS, by omega, by rw [hst]; exact hacc⟩ (by first | omega | (simp only; omega))
  have hc7p : ¬ ((k : Int) < (b.ins.length : Int)) := by simpa using hc7
  refine W.exit (X.seq (X.loop (X.blk (N.seq (W.seq (W.region (WL.fieldAddr fo_59_2 rfl rfl rfl (WL.fieldAddr fo_57_3 rfl rfl rfl (WL.load1 (v := .slice adp b.fin.args.length capp) one_55 rfl rfl rfl (hS.cell 0 rfl rfl) ?_)))))))))
  refine WL.move rfl rfl rfl ?_
  have hke : k = b.ins.length := by omega
  rw [hke, List.take_length] at hacc
  refine WL.set 5 (v' := .int .i64 (rlIns 0 v (given16i b v) b.ins)) rfl (by rw [hacc]) ?_
  refine WL.callF (vs := [.slice adp b.fin.args.length capp, .int .i64 (v : Int)]) Tryd.func75 (by kernel_rfl) rfl rfl rfl (has16_ret b.fin.args _ (v : Int) (ro := ro) (fun b hb => (hS.snap b hb).1) (SlV.keep ht1 hS.alike (fun _ _ q => q))) ?_
  rintro r w12 ⟨rfl, hbl⟩
  replace hS := hS.grow hbl
  refine WL.move rfl rfl rfl ?_
  cases hg13 : (decide ((v : Int) ∈ b.fin.args))
  ·
   have hg13p : ¬ ((v : Int) ∈ b.fin.args) := by simpa using hg13
   refine WL.fieldAddr fo_59_2 rfl rfl rfl (WL.fieldAddr fo_57_5 rfl rfl rfl (WL.load1 (v := .slice adq b.fin.elses.length capq) one_55 rfl rfl rfl (hS.cell 0 rfl rfl) (WL.move rfl rfl rfl ?_)))
   refine WL.callF (vs := [.slice adq b.fin.elses.length capq, .int .i64 (v : Int)]) Tryd.func75 (by kernel_rfl) rfl rfl rfl (has16_ret b.fin.elses _ (v : Int) (ro := ro) (fun b hb => (hS.snap b hb).1) (SlV.keep ht2 hS.alike (fun _ _ q => q))) ?_
   rintro r w14 ⟨rfl, hbl⟩
   replace hS := hS.grow hbl
   refine WL.pick (v := .bool (decide ((v : Int) ∈ b.fin.elses))) rfl rfl rfl rfl rfl rfl (WL.assign rfl rfl rfl (WL.nil (N.seq (W.seq (W.seq (W.region (WL.move rfl rfl rfl (WL.move rfl rfl rfl ?_))))))))
   cases hg15 : (decide ((v : Int) ∈ b.fin.elses))
   ·
    have hg15p : ¬ ((v : Int) ∈ b.fin.elses) := by simpa using hg15
    refine WL.fieldAddr fo_59_2 rfl rfl rfl (WL.fieldAddr fo_57_0 rfl rfl rfl (WL.load1 (v := .int .i64 b.fin.kind) one_3 rfl rfl rfl (hS.cell 0 rfl rfl) (WL.bin rfl rfl rfl rfl rfl (WL.move rfl rfl rfl ?_))))
    cases hg16 : (!decide (b.fin.kind = 1))
    ·
     have hg16p : b.fin.kind = 1 := by simpa using hg16
     refine WL.skp rfl rfl (WL.skp rfl rfl (WL.skp rfl rfl (WL.skp rfl rfl (WL.skp rfl rfl (WL.pick (v := .bool false) rfl rfl rfl rfl rfl rfl (WL.pick (v := .bool false) rfl rfl rfl rfl rfl rfl (WL.nil (N.seq (W.condF rfl ?_)))))))))
     refine W.skip (N.seq (W.region (WL.move rfl rfl rfl (WL.move rfl rfl rfl ?_))))
     refine WL.buildSlice (ps := [(0, .int .i64 (rlIns 0 v (given16i b v) b.ins))]) (cs := [.int .i64 (rlIns 0 v (given16i b v) b.ins)]) Tryd.underlying55 (tyZero_spec zer_3) rfl rfl rfl rfl (by kernel_rfl) hS ?_
     clear hS; intro w18 b17 hb_b17 hS
     refine WL.append (r := ⟨.slice adva v capva, 3, 1, v, cs⟩) (cs := [.int .i64 (rlIns 0 v (given16i b v) b.ins)]) 8 Tryd.underlying55 (tyZero_spec zer_3) byt_3 rfl rfl rfl rfl rfl rfl rfl rfl rfl hS (by unfold maxLen; simp only; omega) (by simp only; omega) ?_
     clear hS; intro w19 v20 hn_v20 hS
     have hrow : w19.ownsRow w.heap.size 3 1 v20 (v + 1) _ := hS.rows _ List.mem_cons_self
     obtain ⟨av20, cv20, rfl, hc1_v20, hc2_v20, hc3_v20⟩ := row_shape hrow
     clear hrow
     refine WL.assign rfl rfl rfl (WL.nil (N.blk (N.seq (W.region (WL.move rfl rfl rfl ?_)))))
     refine WL.add (c := (v : Int) + 1) rfl rfl rfl rfl (rfl) (by omega) ?_
     refine WL.assign rfl rfl rfl (WL.nil ?_)
     have hrl : rl16 b v = (rlIns 0 v (given16i b v) b.ins) := by unfold rl16; rw [if_neg (by simp_all)]
     have hri : inI (rl16 b v) := by have := last16_get hok (v := v) (by omega); have := last16_range hok.p0 (List.mem_of_getElem? this); unfold inI; omega
     exact N.loop (v + 1, .slice av20 (v + 1) cv20, cs ++ ([.int .i64 (rlIns 0 v (given16i b v) b.ins)] : List Value)) ⟨rfl, rfl, rfl, rfl, trivial⟩ ⟨hS, by omega, by rw [List.range_succ, List.map_append]; exact hch.snoc rfl ⟨by rw [hrl], hri⟩⟩ (by first | omega | (simp only; omega))
    have hg16p : ¬ (b.fin.kind = 1) := by simpa using hg16
    refine WL.fieldAddr fo_59_2 rfl rfl rfl (WL.fieldAddr fo_57_1 rfl rfl rfl (WL.load1 (v := .int .i64 b.fin.a) one_3 rfl rfl rfl (hS.cell 0 rfl rfl) (WL.move rfl rfl rfl (WL.bin rfl rfl rfl rfl rfl (WL.pick (v := .bool (decide (b.fin.a = (v : Int)))) rfl rfl rfl rfl rfl rfl (WL.pick (v := .bool (decide (b.fin.a = (v : Int)))) rfl rfl rfl rfl rfl rfl (WL.nil (N.seq ?_))))))))
    refine W.cond rfl (fun hc21 => ?_) (fun hc21 => ?_)
    ·
     have hc21p : b.fin.a = (v : Int) := by simpa using hc21
     refine W.region (WL.fieldAddr fo_59_1 rfl rfl rfl (WL.load1 (v := .slice adi b.ins.length capi) one_54 rfl rfl rfl (hS.cell 0 rfl rfl) (WL.lenSlice Tryd.underlying54 rfl rfl rfl (WL.assign rfl rfl rfl (WL.nil (N.seq (W.region (WL.move rfl rfl rfl (WL.move rfl rfl rfl ?_)))))))))
     refine WL.buildSlice (ps := [(0, .int .i64 (b.ins.length : Int))]) (cs := [.int .i64 (b.ins.length : Int)]) Tryd.underlying55 (tyZero_spec zer_3) rfl rfl rfl rfl (by kernel_rfl) hS ?_
     clear hS; intro w23 b22 hb_b22 hS
     refine WL.append (r := ⟨.slice adva v capva, 3, 1, v, cs⟩) (cs := [.int .i64 (b.ins.length : Int)]) 8 Tryd.underlying55 (tyZero_spec zer_3) byt_3 rfl rfl rfl rfl rfl rfl rfl rfl rfl hS (by unfold maxLen; simp only; omega) (by simp only; omega) ?_
     clear hS; intro w24 v25 hn_v25 hS
     have hrow : w24.ownsRow w.heap.size 3 1 v25 (v + 1) _ := hS.rows _ List.mem_cons_self
     obtain ⟨av25, cv25, rfl, hc1_v25, hc2_v25, hc3_v25⟩ := row_shape hrow
     clear hrow
     refine WL.assign rfl rfl rfl (WL.nil (N.blk (N.seq (W.region (WL.move rfl rfl rfl ?_)))))
     refine WL.add (c := (v : Int) + 1) rfl rfl rfl rfl (rfl) (by omega) ?_
     refine WL.assign rfl rfl rfl (WL.nil ?_)
     have hrl : rl16 b v = (b.ins.length : Int) := by unfold rl16; rw [if_pos (by first | omega | (simp_all; done) | (have := hkne; simp_all; done) | (simp_all; omega))]
     have hri : inI (rl16 b v) := by have := last16_get hok (v := v) (by omega); have := last16_range hok.p0 (List.mem_of_getElem? this); unfold inI; omega
     exact N.loop (v + 1, .slice av25 (v + 1) cv25, cs ++ ([.int .i64 (b.ins.length : Int)] : List Value)) ⟨rfl, rfl, rfl, rfl, trivial⟩ ⟨hS, by omega, by rw [List.range_succ, List.map_append]; exact hch.snoc rfl ⟨by rw [hrl], hri⟩⟩ (by first | omega | (simp only; omega))
    have hc21p : ¬ (b.fin.a = (v : Int)) := by simpa using hc21
    refine W.skip (N.seq (W.region (WL.move rfl rfl rfl (WL.move rfl rfl rfl ?_))))
    refine WL.buildSlice (ps := [(0, .int .i64 (rlIns 0 v (given16i b v) b.ins))]) (cs := [.int .i64 (rlIns 0 v (given16i b v) b.ins)]) Tryd.underlying55 (tyZero_spec zer_3) rfl rfl rfl rfl (by kernel_rfl) hS ?_
    clear hS; intro w27 b26 hb_b26 hS
    refine WL.append (r := ⟨.slice adva v capva, 3, 1, v, cs⟩) (cs := [.int .i64 (rlIns 0 v (given16i b v) b.ins)]) 8 Tryd.underlying55 (tyZero_spec zer_3) byt_3 rfl rfl rfl rfl rfl rfl rfl rfl rfl hS (by unfold maxLen; simp only; omega) (by simp only; omega) ?_
    clear hS; intro w28 v29 hn_v29 hS
    have hrow : w28.ownsRow w.heap.size 3 1 v29 (v + 1) _ := hS.rows _ List.mem_cons_self
    obtain ⟨av29, cv29, rfl, hc1_v29, hc2_v29, hc3_v29⟩ := row_shape hrow
    clear hrow
    refine WL.assign rfl rfl rfl (WL.nil (N.blk (N.seq (W.region (WL.move rfl rfl rfl ?_)))))
    refine WL.add (c := (v : Int) + 1) rfl rfl rfl rfl (rfl) (by omega) ?_
    refine WL.assign rfl rfl rfl (WL.nil ?_)
    have hrl : rl16 b v = (rlIns 0 v (given16i b v) b.ins) := by unfold rl16; rw [if_neg (by simp_all)]
    have hri : inI (rl16 b v) := by have := last16_get hok (v := v) (by omega); have := last16_range hok.p0 (List.mem_of_getElem? this); unfold inI; omega
    exact N.loop (v + 1, .slice av29 (v + 1) cv29, cs ++ ([.int .i64 (rlIns 0 v (given16i b v) b.ins)] : List Value)) ⟨rfl, rfl, rfl, rfl, trivial⟩ ⟨hS, by omega, by rw [List.range_succ, List.map_append]; exact hch.snoc rfl ⟨by rw [hrl], hri⟩⟩ (by first | omega | (simp only; omega))
   have hg15p : (v : Int) ∈ b.fin.elses := by simpa using hg15
   refine WL.skp rfl rfl (WL.skp rfl rfl (WL.skp rfl rfl (WL.skp rfl rfl (WL.skp rfl rfl (WL.skp rfl rfl (WL.skp rfl rfl (WL.skp rfl rfl (WL.skp rfl rfl (WL.skp rfl rfl ?_)))))))))
   refine WL.skp rfl rfl (WL.pick (v := .bool true) rfl rfl rfl rfl rfl rfl (WL.nil (N.seq (W.condT rfl (W.region (WL.fieldAddr fo_59_1 rfl rfl rfl (WL.load1 (v := .slice adi b.ins.length capi) one_54 rfl rfl rfl (hS.cell 0 rfl rfl) (WL.lenSlice Tryd.underlying54 rfl rfl rfl (WL.assign rfl rfl rfl ?_)))))))))
   refine WL.nil (N.seq (W.region (WL.move rfl rfl rfl (WL.move rfl rfl rfl ?_))))
   refine WL.buildSlice (ps := [(0, .int .i64 (b.ins.length : Int))]) (cs := [.int .i64 (b.ins.length : Int)]) Tryd.underlying55 (tyZero_spec zer_3) rfl rfl rfl rfl (by kernel_rfl) hS ?_
   clear hS; intro w31 b30 hb_b30 hS
   refine WL.append (r := ⟨.slice adva v capva, 3, 1, v, cs⟩) (cs := [.int .i64 (b.ins.length : Int)]) 8 Tryd.underlying55 (tyZero_spec zer_3) byt_3 rfl rfl rfl rfl rfl rfl rfl rfl rfl hS (by unfold maxLen; simp only; omega) (by simp only; omega) ?_
   clear hS; intro w32 v33 hn_v33 hS
   have hrow : w32.ownsRow w.heap.size 3 1 v33 (v + 1) _ := hS.rows _ List.mem_cons_self
   obtain ⟨av33, cv33, rfl, hc1_v33, hc2_v33, hc3_v33⟩ := row_shape hrow
   clear hrow
   refine WL.assign rfl rfl rfl (WL.nil (N.blk (N.seq (W.region (WL.move rfl rfl rfl ?_)))))
   refine WL.add (c := (v : Int) + 1) rfl rfl rfl rfl (rfl) (by omega) ?_
   refine WL.assign rfl rfl rfl (WL.nil ?_)
   have hrl : rl16 b v = (b.ins.length : Int) := by unfold rl16; rw [if_pos (by first | omega | (simp_all; done) | (have := hkne; simp_all; done) | (simp_all; omega))]
   have hri : inI (rl16 b v) := by have := last16_get hok (v := v) (by omega); have := last16_range hok.p0 (List.mem_of_getElem? this); unfold inI; omega
   exact N.loop (v + 1, .slice av33 (v + 1) cv33, cs ++ ([.int .i64 (b.ins.length : Int)] : List Value)) ⟨rfl, rfl, rfl, rfl, trivial⟩ ⟨hS, by omega, by rw [List.range_succ, List.map_append]; exact hch.snoc rfl ⟨by rw [hrl], hri⟩⟩ (by first | omega | (simp only; omega))
  have hg13p : (v : Int) ∈ b.fin.args := by simpa using hg13
  refine WL.skp rfl rfl (WL.skp rfl rfl (WL.skp rfl rfl (WL.skp rfl rfl (WL.skp rfl rfl (WL.pick (v := .bool true) rfl rfl rfl rfl rfl rfl (WL.assign rfl rfl rfl (WL.nil (N.seq (W.seq ?_)))))))))
  refine W.seq (W.region (WL.move rfl rfl rfl (WL.move rfl rfl rfl (WL.skp rfl rfl (WL.skp rfl rfl (WL.skp rfl rfl (WL.skp rfl rfl (WL.skp rfl rfl (WL.skp rfl rfl ?_)))))))))
  refine WL.skp rfl rfl (WL.skp rfl rfl (WL.skp rfl rfl (WL.skp rfl rfl (WL.skp rfl rfl (WL.pick (v := .bool true) rfl rfl rfl rfl rfl rfl (WL.nil (N.seq (W.condT rfl (W.region ?_)))))))))
  refine WL.fieldAddr fo_59_1 rfl rfl rfl (WL.load1 (v := .slice adi b.ins.length capi) one_54 rfl rfl rfl (hS.cell 0 rfl rfl) (WL.lenSlice Tryd.underlying54 rfl rfl rfl (WL.assign rfl rfl rfl (WL.nil (N.seq (W.region (WL.move rfl rfl rfl (WL.move rfl rfl rfl ?_))))))))
  refine WL.buildSlice (ps := [(0, .int .i64 (b.ins.length : Int))]) (cs := [.int .i64 (b.ins.length : Int)]) Tryd.underlying55 (tyZero_spec zer_3) rfl rfl rfl rfl (by kernel_rfl) hS ?_
  clear hS; intro w35 b34 hb_b34 hS
  refine WL.append (r := ⟨.slice adva v capva, 3, 1, v, cs⟩) (cs := [.int .i64 (b.ins.length : Int)]) 8 Tryd.underlying55 (tyZero_spec zer_3) byt_3 rfl rfl rfl rfl rfl rfl rfl rfl rfl hS (by unfold maxLen; simp only; omega) (by simp only; omega) ?_
  clear hS; intro w36 v37 hn_v37 hS
  have hrow : w36.ownsRow w.heap.size 3 1 v37 (v + 1) _ := hS.rows _ List.mem_cons_self
  obtain ⟨av37, cv37, rfl, hc1_v37, hc2_v37, hc3_v37⟩ := row_shape hrow
  clear hrow
  refine WL.assign rfl rfl rfl (WL.nil (N.blk (N.seq (W.region (WL.move rfl rfl rfl ?_)))))
  refine WL.add (c := (v : Int) + 1) rfl rfl rfl rfl (rfl) (by omega) ?_
  refine WL.assign rfl rfl rfl (WL.nil ?_)
  have hrl : rl16 b v = (b.ins.length : Int) := by unfold rl16; rw [if_pos (by first | omega | (simp_all; done) | (have := hkne; simp_all; done) | (simp_all; omega))]
  have hri : inI (rl16 b v) := by have := last16_get hok (v := v) (by omega); have := last16_range hok.p0 (List.mem_of_getElem? this); unfold inI; omega
  exact N.loop (v + 1, .slice av37 (v + 1) cv37, cs ++ ([.int .i64 (b.ins.length : Int)] : List Value)) ⟨rfl, rfl, rfl, rfl, trivial⟩ ⟨hS, by omega, by rw [List.range_succ, List.map_append]; exact hch.snoc rfl ⟨by rw [hrl], hri⟩⟩ (by first | omega | (simp only; omega))
 have hc4p : ¬ ((v : Int) < b.params + (b.ins.length : Int)) := by simpa using hc4
 refine W.exit (X.seq (X.loop (X.blk (N.seq (W.seq (W.region (WL.move rfl rfl rfl (WL.assign rfl rfl rfl (WL.nil ?_)))))))))
 refine N.seq ?_
 refine Fin.ret1 rfl (v := .slice adva v capva) rfl ?_
 have hve : v = b.params.toNat + b.ins.length := by omega
 rw [hve, rlast16_eq hok] at hch
 refine ⟨row_slv (hS.rows _ List.mem_cons_self) hch (by rw [last16_length]; exact hve) (fun x hx => ?_), hS.below⟩
 exact (hS.keys x (by simp only [keysOf, List.mem_append, List.mem_filterMap]; exact .inr ⟨_, List.mem_cons_self, hx⟩)).imp id (·.1)

end Go.Proofs.YtcmmhfknkldmcaaDoor
