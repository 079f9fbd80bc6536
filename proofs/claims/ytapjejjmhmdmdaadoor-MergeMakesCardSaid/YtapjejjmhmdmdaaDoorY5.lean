/-
  Contracts of layer 9 (resolve). No condition beyond those that each theorem states.
-/
import Derived.Test.YtapjejjmhmdmdaaDoorY4
namespace Go.Proofs.YtapjejjmhmdmdaaDoor
open Go.RowKit
theorem agg_60 : tyAgg Tryd.prog 60 6 = true := by kernel_rfl
theorem fo_60_2 : fOff Tryd.prog 60 2 2 = true := by kernel_rfl
theorem fo_60_3 : fOff Tryd.prog 60 3 3 = true := by kernel_rfl
theorem fo_60_4 : fOff Tryd.prog 60 4 4 = true := by kernel_rfl
theorem fo_60_5 : fOff Tryd.prog 60 5 5 = true := by kernel_rfl
set_option maxRecDepth 10000 in
set_option maxHeartbeats 4000000 in
theorem rof_ret (xs : List DItem) (t : ByteArray) (vx : Value) {w : World} {ro : Nat → Prop} (hro : ∀ b, ro b → b < w.heap.size) (hx : SlV ro w 6 ItemC vx xs) (hxl : xs.length ≤ 1048576) : Ret Tryd.prog 69 #[vx, .string t] w fun v w' => SlV (fun b => w.heap.size ≤ b ∧ b < w'.heap.size) w' 6 ItemC v (xs.filter fun x => decide (x.name = t)) ∧ Below w.heap.size w w' := by
 obtain ⟨ad, cap, rfl, haa, hab, hac, had⟩ := id hx
 have ham : xs.length ≤ 9223372036854775807 := by have h1 := haa; have h2 := hab; unfold maxLen at h2; omega
 refine Ret.enter (P := Tryd.prog) (n := 28) (args := [.slice ad xs.length cap, .string t]) (σ := [(0, .slice ad xs.length cap), (1, .string t)]) Tryd.func69 rfl rfl rfl rfl ?_
 have hS := St.start (ro := ro) hro
 refine W.seq (W.region (WL.assign rfl rfl rfl (WL.nil (N.seq (W.seq (W.region (WL.assign rfl rfl rfl (WL.nil (N.seq ?_)))))))))
 refine W.seq (W.seq (W.region (WL.assign rfl rfl rfl (WL.nil (N.seq (W.block ?_))))))
 replace hS := hS.row0 60 6
 refine W.loop (α := Nat × Value × List Value × Nat) (fun ⟨i, v, cs, q⟩ => [(0, .slice ad xs.length cap), (1, .string t), (4, .slice none 0 0), (5, v), (6, .int .i64 (i : Int))]) (fun ⟨i, v, cs, q⟩ u => St w w u ro [] [⟨v, 60, 6, q, cs⟩] ∧ i ≤ xs.length ∧ Chunks 6 ItemC cs ((xs.take i).filter fun x => decide (x.name = t)) ∧ q = ((xs.take i).filter fun x => decide (x.name = t)).length) (fun ⟨i, v, cs, q⟩ => xs.length - i) (0, (.slice none 0 0), [], 0) ⟨rfl, rfl, rfl, rfl, rfl, trivial⟩ ⟨hS, Nat.zero_le _, Chunks.nil, rfl⟩ ?_
 clear hS
 rintro ⟨i, v, cs, q⟩ w1 ⟨hS, hi, hch, hq⟩
 have hrow : w1.ownsRow w.heap.size 60 6 v (q) _ := hS.rows _ List.mem_cons_self
 obtain ⟨adv, capv, rfl, hr1v, hr2v, hr3v⟩ := row_shape hrow
 clear hrow
 refine W.seq (W.seq (W.region (WL.move rfl rfl rfl (WL.move rfl rfl rfl (WL.lenSlice Tryd.underlying57 rfl rfl rfl (WL.bin rfl rfl rfl rfl rfl (WL.nil (N.seq ?_))))))))
 refine W.cond rfl (fun hc2 => ?_) (fun hc2 => ?_)
 ·
  have hc2p : (i : Int) < (xs.length : Int) := by simpa using hc2
  refine W.skip (N.seq (W.seq (W.block (W.seq (W.region (WL.move rfl rfl rfl (WL.move rfl rfl rfl ?_)))))))
  have hj3 : i < xs.length := by omega
  obtain ⟨x3, hx3⟩ : ∃ zz, xs[i]? = some zz := ⟨_, List.getElem?_eq_getElem hj3⟩
  obtain ⟨b3, o3, cs3, hE3, hr3, hl3, hc3, hQ3⟩ := had i _ hx3
  obtain ⟨rfl, hin3, him3, hip3⟩ := hQ3
  refine WL.indexAddrE (j := i) Tryd.underlying57 isz_60 rfl rfl rfl rfl hj3 hE3 (WL.fieldAddr fo_60_0 rfl rfl rfl (WL.load1 (v := .string x3.name) one_9 rfl rfl rfl (hS.roCells hr3 hc3 0 _ rfl) (WL.move rfl rfl rfl (WL.eqStr rfl rfl rfl rfl (WL.nil (N.seq ?_))))))
  refine W.cond rfl (fun hc4 => ?_) (fun hc4 => ?_)
  ·
   have hc4p : x3.name = t := by simpa using hc4
   refine W.region (WL.move rfl rfl rfl (WL.move rfl rfl rfl (WL.move rfl rfl rfl (WL.indexAddrE (j := i) Tryd.underlying57 isz_60 rfl rfl rfl rfl hj3 hE3 (WL.loadN (cs := [.string x3.name, .int .i64 x3.mod, .bool x3.fn, .int .i64 x3.params, .bool x3.here, .bool x3.strong]) agg_60 rfl rfl rfl rfl (hS.roCells hr3 hc3) ?_)))))
   refine WL.buildSlice (ps := [(0, .agg #[.string x3.name, .int .i64 x3.mod, .bool x3.fn, .int .i64 x3.params, .bool x3.here, .bool x3.strong])]) (cs := [.string x3.name, .int .i64 x3.mod, .bool x3.fn, .int .i64 x3.params, .bool x3.here, .bool x3.strong]) Tryd.underlying57 (tyZero_spec zer_60) rfl rfl rfl rfl (by kernel_rfl) hS ?_
   clear hS; intro w6 b5 hb_b5 hS
   have hle : q + 1 ≤ 1048577 := by have h := List.length_filter_le (fun x => decide (x.name = t)) (xs.take i); have h2 := List.length_take_le i xs; omega
   refine WL.append (r := ⟨.slice adv q capv, 60, 6, q, cs⟩) (cs := [.string x3.name, .int .i64 x3.mod, .bool x3.fn, .int .i64 x3.params, .bool x3.here, .bool x3.strong]) 48 Tryd.underlying57 (tyZero_spec zer_60) byt_60 rfl rfl rfl rfl rfl rfl rfl rfl rfl hS (by unfold maxLen; simp only; omega) (by simp only; omega) ?_
   clear hS; intro w7 v8 hn_v8 hS
   have hrow : w7.ownsRow w.heap.size 60 6 v8 (q + 1) _ := hS.rows _ List.mem_cons_self
   obtain ⟨av8, cv8, rfl, hc1_v8, hc2_v8, hc3_v8⟩ := row_shape hrow
   clear hrow
   refine WL.assign rfl rfl rfl (WL.nil (N.blk (N.seq (W.region (WL.move rfl rfl rfl ?_)))))
   refine WL.add (c := (i : Int) + 1) rfl rfl rfl rfl (rfl) (by omega) ?_
   refine WL.assign rfl rfl rfl (WL.nil ?_)
   have hch9 : Chunks 6 ItemC (cs ++ ([.string x3.name, .int .i64 x3.mod, .bool x3.fn, .int .i64 x3.params, .bool x3.here, .bool x3.strong] : List Value)) ((xs.take (i + 1)).filter fun x => decide (x.name = t)) := by rw [take_next hx3, List.filter_append, show [x3].filter (fun x => decide (x.name = t)) = [x3] by simp [hc4p]]; exact hch.snoc rfl ⟨rfl, hin3, him3, hip3⟩
   have hq9 : q + 1 = ((xs.take (i + 1)).filter fun x => decide (x.name = t)).length := by rw [take_next hx3, List.filter_append, show [x3].filter (fun x => decide (x.name = t)) = [x3] by simp [hc4p], List.length_append, ← hq]; rfl
   exact N.loop (i + 1, .slice av8 (q + 1) cv8, cs ++ ([.string x3.name, .int .i64 x3.mod, .bool x3.fn, .int .i64 x3.params, .bool x3.here, .bool x3.strong] : List Value), q + 1) ⟨rfl, rfl, rfl, rfl, rfl, trivial⟩ ⟨hS, by omega, hch9, hq9⟩ (by first | omega | (simp only; omega))
  have hc4p : ¬ (x3.name = t) := by simpa using hc4
  refine W.skip (N.blk (N.seq (W.region (WL.move rfl rfl rfl ?_))))
  refine WL.add (c := (i : Int) + 1) rfl rfl rfl rfl (rfl) (by omega) ?_
  refine WL.assign rfl rfl rfl (WL.nil ?_)
  exact N.loop (i + 1, .slice adv q capv, cs, q) ⟨rfl, rfl, rfl, rfl, rfl, trivial⟩ ⟨hS, by omega, by rw [take_next hx3, List.filter_append, show [x3].filter (fun x => decide (x.name = t)) = [] by simp [hc4p], List.append_nil]; exact hch, by rw [take_next hx3, List.filter_append, show [x3].filter (fun x => decide (x.name = t)) = [] by simp [hc4p], List.append_nil]; exact hq⟩ (by first | omega | (simp only; omega))
 have hc2p : ¬ ((i : Int) < (xs.length : Int)) := by simpa using hc2
 refine W.exit (X.seq (X.loop (X.blk (N.seq (W.seq (W.region (WL.move rfl rfl rfl (WL.assign rfl rfl rfl (WL.nil ?_)))))))))
 refine N.seq ?_
 refine Fin.ret1 rfl (v := .slice adv q capv) rfl ?_
 have e : i = xs.length := by omega
 rw [e, List.take_length] at hch hq
 refine ⟨row_slv (hS.rows _ List.mem_cons_self) hch hq (fun x hx => ?_), hS.below⟩
 exact (hS.keys x (by simp only [keysOf, List.mem_append, List.mem_filterMap]; exact .inr ⟨_, List.mem_cons_self, hx⟩)).imp id (·.1)

def cnt9 (p : DItem → Bool) (g : List DItem) : Int := ((g.filter p).length : Int)
theorem cnt9_next {p : DItem → Bool} {g : List DItem} {k : Nat} {x : DItem} (h : g[k]? = some x) : cnt9 p (g.take (k + 1)) = cnt9 p (g.take k) + if p x = true then 1 else 0 := by
  unfold cnt9; rw [take_next h, List.filter_append, List.length_append]
  by_cases hp : p x = true
  · simp [hp]
  · simp [hp]
theorem cnt9_le (p : DItem → Bool) (g : List DItem) (k : Nat) : 0 ≤ cnt9 p (g.take k) ∧ cnt9 p (g.take k) ≤ (k : Int) := by
  unfold cnt9
  have h1 := List.length_filter_le p (g.take k)
  have h2 := List.length_take_le k g
  omega
theorem cnt9_any (p : DItem → Bool) (g : List DItem) : g.any p = decide (0 < cnt9 p g) := by
  unfold cnt9
  rw [Bool.eq_iff_iff, List.any_eq_true]
  simp only [decide_eq_true_eq]
  constructor
  · rintro ⟨x, hx, hp⟩
    have := List.length_pos_of_mem (List.mem_filter.2 ⟨hx, hp⟩)
    omega
  · intro h
    have h2 : 0 < (g.filter p).length := by omega
    obtain ⟨x, hx⟩ := List.exists_mem_of_length_pos h2
    exact ⟨x, (List.mem_filter.1 hx).1, (List.mem_filter.1 hx).2⟩
def wB9 (x : DItem) : Bool := x.strong
def wrong9 (g : List DItem) : Int := if oddG g = true then 10 else if 1 < many9 g then 9 else if missing9 g = true then 8 else 0
theorem wrong9_end {g : List DItem} (ho : oddG g = false) : wrong9 g = if 1 < cnt9 sB9 g then 9 else if cnt9 hB9 g = 0 ∧ 0 < cnt9 wB9 g then 8 else 0 := by
  unfold wrong9
  rw [ho, if_neg (by decide)]
  show (if 1 < cnt9 sB9 g then (9 : Int) else _) = _
  have e : (missing9 g = true) ↔ (cnt9 hB9 g = 0 ∧ 0 < cnt9 wB9 g) := by
    unfold missing9
    rw [cnt9_any hB9, show (g.any fun x => x.strong) = g.any wB9 from rfl, cnt9_any wB9]
    have := cnt9_le hB9 g g.length
    rw [List.take_length] at this
    simp only [Bool.and_eq_true, Bool.not_eq_true', decide_eq_false_iff_not, decide_eq_true_eq]
    constructor <;> rintro ⟨h1, h2⟩ <;> exact ⟨by omega, h2⟩
  by_cases h : missing9 g = true
  · rw [if_pos h, if_pos (e.1 h)]
  · rw [if_neg h, if_neg (fun hc => h (e.2 hc))]

set_option maxRecDepth 10000 in
set_option maxHeartbeats 4000000 in
theorem rwrong_ret (g : List DItem) (vx : Value) {w : World} {ro : Nat → Prop} (hro : ∀ b, ro b → b < w.heap.size) (hx : SlV ro w 6 ItemC vx g) : Ret Tryd.prog 68 #[vx] w fun v w' => v = .int .i64 (wrong9 g) ∧ Below w.heap.size w w' := by
 obtain ⟨ad, cap, rfl, haa, hab, hac, had⟩ := id hx
 have ham : g.length ≤ 9223372036854775807 := by have h1 := haa; have h2 := hab; unfold maxLen at h2; omega
 refine Ret.enter (P := Tryd.prog) (n := 71) (args := [.slice ad g.length cap]) (σ := [(0, .slice ad g.length cap)]) Tryd.func68 rfl rfl rfl rfl ?_
 have hS := St.start (ro := ro) hro
 refine W.seq (W.region (WL.assign rfl rfl rfl (WL.nil (N.seq (W.seq (W.region (WL.assign rfl rfl rfl (WL.nil (N.seq ?_)))))))))
 refine W.seq (W.region (WL.assign rfl rfl rfl (WL.nil (N.seq (W.seq (W.region (WL.assign rfl rfl rfl (WL.nil (N.seq ?_)))))))))
 refine W.seq (W.seq (W.region (WL.assign rfl rfl rfl (WL.nil (N.seq (W.block ?_))))))
 refine W.loop (α := Nat × Int × Int × Int) (fun ⟨k, cs, ch, cw⟩ => [(0, .slice ad g.length cap), (3, .int .i64 cs), (4, .int .i64 ch), (5, .int .i64 cw), (6, .int .i64 (k : Int))]) (fun ⟨k, cs, ch, cw⟩ u => St w w u ro [] [] ∧ k ≤ g.length ∧ (g.take k).any (odd9 (g.getD 0 item0)) = false ∧ cs = cnt9 sB9 (g.take k) ∧ ch = cnt9 hB9 (g.take k) ∧ cw = cnt9 wB9 (g.take k)) (fun ⟨k, cs, ch, cw⟩ => g.length - k) (0, 0, 0, 0) ⟨rfl, rfl, rfl, rfl, rfl, trivial⟩ ⟨hS, Nat.zero_le _, rfl, rfl, rfl, rfl⟩ ?_
 clear hS
 rintro ⟨k, cs, ch, cw⟩ w1 ⟨hS, hk, hno, hcs, hch, hcw⟩
 refine W.seq (W.seq (W.region (WL.move rfl rfl rfl (WL.move rfl rfl rfl (WL.lenSlice Tryd.underlying57 rfl rfl rfl (WL.bin rfl rfl rfl rfl rfl (WL.nil (N.seq ?_))))))))
 refine W.cond rfl (fun hc2 => ?_) (fun hc2 => ?_)
 ·
  have hc2p : (k : Int) < (g.length : Int) := by simpa using hc2
  refine W.skip (N.seq (W.seq (W.block (W.seq (W.seq ?_)))))
  have hj3 : k < g.length := by omega
  obtain ⟨x3, hx3⟩ : ∃ zz, g[k]? = some zz := ⟨_, List.getElem?_eq_getElem hj3⟩
  obtain ⟨b3, o3, cs3, hE3, hr3, hl3, hc3, hQ3⟩ := had k _ hx3
  obtain ⟨rfl, hin3, him3, hip3⟩ := hQ3
  have hj4 : 0 < g.length := by omega
  obtain ⟨x4, hx4⟩ : ∃ zz, g[0]? = some zz := ⟨_, List.getElem?_eq_getElem hj4⟩
  obtain ⟨b4, o4, cs4, hE4, hr4, hl4, hc4, hQ4⟩ := had 0 _ hx4
  obtain ⟨rfl, hin4, him4, hip4⟩ := hQ4
  have hb1 := cnt9_le sB9 g k; have hb2 := cnt9_le hB9 g k; have hb3 := cnt9_le wB9 g k
  rcases (Bool.eq_false_or_eq_true (x3.fn != x4.fn)).symm with hg5 | hg5
  ·
   refine W.drawL (by kernel_rfl) 22 ((.q (.slice ad g.length cap)) :: (.q (.int .i64 (k : Int))) :: (.q (.pointer (some ⟨b3, o3 + k * 6, none⟩))) :: (.q (.pointer (some ⟨b3, o3 + k * 6 + 2, none⟩))) :: (.q (.bool x3.fn)) :: (.q (.slice ad g.length cap)) :: (.q (.pointer (some ⟨b4, o4 + 0 * 6, none⟩))) :: (.q (.pointer (some ⟨b4, o4 + 0 * 6 + 2, none⟩))) :: (.q (.bool x4.fn)) :: (.q (.bool false)) :: (.q (.bool false)) :: (.q (.slice ad g.length cap)) :: (.q (.int .i64 (k : Int))) :: (.q (.pointer (some ⟨b3, o3 + k * 6, none⟩))) :: (.q (.pointer (some ⟨b3, o3 + k * 6 + 3, none⟩))) :: (.q (.int .i64 x3.params)) :: (.q (.slice ad g.length cap)) :: (.q (.pointer (some ⟨b4, o4 + 0 * 6, none⟩))) :: (.q (.pointer (some ⟨b4, o4 + 0 * 6 + 3, none⟩))) :: (.q (.int .i64 x4.params)) :: (.q (.bool (!decide (x3.params = x4.params)))) :: (.q (.bool (!decide (x3.params = x4.params)))) :: []) (by kernel_rfl) (by kernel_rfl) [(0, .slice ad g.length cap), (3, .int .i64 cs), (4, .int .i64 ch), (5, .int .i64 cw), (6, .int .i64 (k : Int))] ⟨rfl, rfl, rfl, rfl, rfl, trivial⟩ (by kernel_rfl) hS ?_ ?_
   ·
    refine And.intro (fun β w hS => ?_) ?_
    ·
     refine WL.sub (σ' := [(0, .slice ad g.length cap)]) ⟨rfl, trivial⟩ ?_
     refine WL.move rfl rfl rfl ?_
     exact WL.nil (N.cut () ⟨rfl, trivial⟩ (Below.refl _ _))
    refine And.intro (fun β w hS => ?_) ?_
    ·
     refine WL.sub (σ' := [(6, .int .i64 (k : Int))]) ⟨rfl, trivial⟩ ?_
     refine WL.move rfl rfl rfl ?_
     exact WL.nil (N.cut () ⟨rfl, trivial⟩ (Below.refl _ _))
    refine And.intro (fun β w hS => ?_) ?_
    ·
     refine WL.sub (σ' := [(13, .slice ad g.length cap), (14, .int .i64 (k : Int))]) ⟨rfl, rfl, trivial⟩ ?_
     refine WL.indexAddrE (j := k) Tryd.underlying57 isz_60 rfl rfl rfl rfl hj3 hE3 ?_
     exact WL.nil (N.cut () ⟨rfl, trivial⟩ (Below.refl _ _))
    refine And.intro (fun β w hS => ?_) ?_
    ·
     refine WL.sub (σ' := [(15, .pointer (some ⟨b3, o3 + k * 6, none⟩))]) ⟨rfl, trivial⟩ ?_
     refine WL.fieldAddr fo_60_2 rfl rfl rfl ?_
     exact WL.nil (N.cut () ⟨rfl, trivial⟩ (Below.refl _ _))
    refine And.intro (fun β w hS => ?_) ?_
    ·
     refine WL.sub (σ' := [(16, .pointer (some ⟨b3, o3 + k * 6 + 2, none⟩))]) ⟨rfl, trivial⟩ ?_
     refine WL.load1 (v := .bool x3.fn) one_4 rfl rfl rfl (hS.roCells hr3 hc3 2 _ rfl) ?_
     exact WL.nil (N.cut () ⟨rfl, trivial⟩ (Below.refl _ _))
    refine And.intro (fun β w hS => ?_) ?_
    ·
     refine WL.sub (σ' := [(0, .slice ad g.length cap)]) ⟨rfl, trivial⟩ ?_
     refine WL.move rfl rfl rfl ?_
     exact WL.nil (N.cut () ⟨rfl, trivial⟩ (Below.refl _ _))
    refine And.intro (fun β w hS => ?_) ?_
    ·
     refine WL.sub (σ' := [(18, .slice ad g.length cap)]) ⟨rfl, trivial⟩ ?_
     refine WL.indexAddrE (j := 0) Tryd.underlying57 isz_60 rfl rfl rfl rfl hj4 hE4 ?_
     exact WL.nil (N.cut () ⟨rfl, trivial⟩ (Below.refl _ _))
    refine And.intro (fun β w hS => ?_) ?_
    ·
     refine WL.sub (σ' := [(19, .pointer (some ⟨b4, o4 + 0 * 6, none⟩))]) ⟨rfl, trivial⟩ ?_
     refine WL.fieldAddr fo_60_2 rfl rfl rfl ?_
     exact WL.nil (N.cut () ⟨rfl, trivial⟩ (Below.refl _ _))
    refine And.intro (fun β w hS => ?_) ?_
    ·
     refine WL.sub (σ' := [(20, .pointer (some ⟨b4, o4 + 0 * 6 + 2, none⟩))]) ⟨rfl, trivial⟩ ?_
     refine WL.load1 (v := .bool x4.fn) one_4 rfl rfl rfl (hS.roCells hr4 hc4 2 _ rfl) ?_
     exact WL.nil (N.cut () ⟨rfl, trivial⟩ (Below.refl _ _))
    refine And.intro (fun β w hS => ?_) ?_
    ·
     refine WL.sub (σ' := [(17, .bool x3.fn), (21, .bool x4.fn)]) ⟨rfl, rfl, trivial⟩ ?_
     refine WL.neBool Tryd.underlying4 rfl rfl rfl rfl ?_
     refine WL.set 22 (v' := .bool false) rfl (by rw [hg5]) ?_
     exact WL.nil (N.cut () ⟨rfl, trivial⟩ (Below.refl _ _))
    refine And.intro (fun β w hS => ?_) ?_
    ·
     refine WL.sub (σ' := [(22, .bool false)]) ⟨rfl, trivial⟩ ?_
     refine WL.move rfl rfl rfl ?_
     exact WL.nil (N.cut () ⟨rfl, trivial⟩ (Below.refl _ _))
    refine And.intro (fun β w hS => ?_) ?_
    ·
     refine WL.sub (σ' := [(0, .slice ad g.length cap), (23, .bool false)]) ⟨rfl, rfl, trivial⟩ ?_
     refine WL.move rfl rfl rfl ?_
     exact WL.nil (N.cut () ⟨rfl, trivial⟩ (Below.refl _ _))
    refine And.intro (fun β w hS => ?_) ?_
    ·
     refine WL.sub (σ' := [(6, .int .i64 (k : Int)), (23, .bool false)]) ⟨rfl, rfl, trivial⟩ ?_
     refine WL.move rfl rfl rfl ?_
     exact WL.nil (N.cut () ⟨rfl, trivial⟩ (Below.refl _ _))
    refine And.intro (fun β w hS => ?_) ?_
    ·
     refine WL.sub (σ' := [(23, .bool false), (24, .slice ad g.length cap), (25, .int .i64 (k : Int))]) ⟨rfl, rfl, rfl, trivial⟩ ?_
     refine WL.indexAddrE (j := k) Tryd.underlying57 isz_60 rfl rfl rfl rfl hj3 hE3 ?_
     exact WL.nil (N.cut () ⟨rfl, trivial⟩ (Below.refl _ _))
    refine And.intro (fun β w hS => ?_) ?_
    ·
     refine WL.sub (σ' := [(23, .bool false), (26, .pointer (some ⟨b3, o3 + k * 6, none⟩))]) ⟨rfl, rfl, trivial⟩ ?_
     refine WL.fieldAddr fo_60_3 rfl rfl rfl ?_
     exact WL.nil (N.cut () ⟨rfl, trivial⟩ (Below.refl _ _))
    refine And.intro (fun β w hS => ?_) ?_
    ·
     refine WL.sub (σ' := [(23, .bool false), (27, .pointer (some ⟨b3, o3 + k * 6 + 3, none⟩))]) ⟨rfl, rfl, trivial⟩ ?_
     refine WL.load1 (v := .int .i64 x3.params) one_3 rfl rfl rfl (hS.roCells hr3 hc3 3 _ rfl) ?_
     exact WL.nil (N.cut () ⟨rfl, trivial⟩ (Below.refl _ _))
    refine And.intro (fun β w hS => ?_) ?_
    ·
     refine WL.sub (σ' := [(0, .slice ad g.length cap), (23, .bool false)]) ⟨rfl, rfl, trivial⟩ ?_
     refine WL.move rfl rfl rfl ?_
     exact WL.nil (N.cut () ⟨rfl, trivial⟩ (Below.refl _ _))
    refine And.intro (fun β w hS => ?_) ?_
    ·
     refine WL.sub (σ' := [(23, .bool false), (29, .slice ad g.length cap)]) ⟨rfl, rfl, trivial⟩ ?_
     refine WL.indexAddrE (j := 0) Tryd.underlying57 isz_60 rfl rfl rfl rfl hj4 hE4 ?_
     exact WL.nil (N.cut () ⟨rfl, trivial⟩ (Below.refl _ _))
    refine And.intro (fun β w hS => ?_) ?_
    ·
     refine WL.sub (σ' := [(23, .bool false), (30, .pointer (some ⟨b4, o4 + 0 * 6, none⟩))]) ⟨rfl, rfl, trivial⟩ ?_
     refine WL.fieldAddr fo_60_3 rfl rfl rfl ?_
     exact WL.nil (N.cut () ⟨rfl, trivial⟩ (Below.refl _ _))
    refine And.intro (fun β w hS => ?_) ?_
    ·
     refine WL.sub (σ' := [(23, .bool false), (31, .pointer (some ⟨b4, o4 + 0 * 6 + 3, none⟩))]) ⟨rfl, rfl, trivial⟩ ?_
     refine WL.load1 (v := .int .i64 x4.params) one_3 rfl rfl rfl (hS.roCells hr4 hc4 3 _ rfl) ?_
     exact WL.nil (N.cut () ⟨rfl, trivial⟩ (Below.refl _ _))
    refine And.intro (fun β w hS => ?_) ?_
    ·
     refine WL.sub (σ' := [(23, .bool false), (28, .int .i64 x3.params), (32, .int .i64 x4.params)]) ⟨rfl, rfl, rfl, trivial⟩ ?_
     refine WL.bin rfl rfl rfl rfl rfl ?_
     exact WL.nil (N.cut () ⟨rfl, trivial⟩ (Below.refl _ _))
    refine And.intro (fun β w hS => ?_) ?_
    ·
     refine WL.sub (σ' := [(23, .bool false), (33, .bool (!decide (x3.params = x4.params)))]) ⟨rfl, rfl, trivial⟩ ?_
     refine WL.pick (v := .bool (!decide (x3.params = x4.params))) rfl rfl rfl rfl rfl rfl ?_
     exact WL.nil (N.cut () ⟨rfl, trivial⟩ (Below.refl _ _))
    trivial
   clear hS; intro w6 β hS
   refine WL.sub (σ' := [(0, .slice ad g.length cap), (3, .int .i64 cs), (4, .int .i64 ch), (5, .int .i64 cw), (6, .int .i64 (k : Int)), (34, .bool (!decide (x3.params = x4.params)))]) (Sub.ofEq (by kernel_rfl)) ?_
   refine WL.nil (N.seq ?_)
   refine W.cond rfl (fun hc7 => ?_) (fun hc7 => ?_)
   ·
    have hc7p : ¬ (x3.params = x4.params) := by simpa using hc7
    refine W.seq (W.region (WL.assign rfl rfl rfl (WL.nil (N.seq ?_))))
    refine Fin.ret1 rfl (v := .int .i64 10) rfl ?_
    have hgd : g.getD 0 item0 = x4 := by rw [List.getD_eq_getElem?_getD, hx4]; rfl
    have ho : oddG g = true := List.any_eq_true.2 ⟨x3, List.mem_of_getElem? hx3, by show odd9 _ _ = true; rw [hgd]; simp [odd9, hc2p, hg5, hc7p]⟩
    exact ⟨by unfold wrong9; rw [if_pos ho], hS.below⟩
   have hc7p : x3.params = x4.params := by simpa using hc7
   refine W.skip (N.seq (W.seq (W.seq (W.region (WL.move rfl rfl rfl (WL.move rfl rfl rfl (WL.indexAddrE (j := k) Tryd.underlying57 isz_60 rfl rfl rfl rfl hj3 hE3 (WL.fieldAddr fo_60_4 rfl rfl rfl (WL.load1 (v := .bool x3.here) one_4 rfl rfl rfl (hS.roCells hr3 hc3 4 _ rfl) ?_)))))))))
   refine WL.nil (N.seq ?_)
   refine W.cond rfl (fun hc8 => ?_) (fun hc8 => ?_)
   ·
    refine W.region (WL.move rfl rfl rfl ?_)
    refine WL.add (c := ch + 1) rfl rfl rfl rfl (rfl) (by omega) ?_
    refine WL.assign rfl rfl rfl (WL.nil (N.seq (W.seq (W.seq (W.region (WL.move rfl rfl rfl (WL.move rfl rfl rfl (WL.indexAddrE (j := k) Tryd.underlying57 isz_60 rfl rfl rfl rfl hj3 hE3 (WL.fieldAddr fo_60_4 rfl rfl rfl ?_)))))))))
    refine WL.load1 (v := .bool x3.here) one_4 rfl rfl rfl (hS.roCells hr3 hc3 4 _ rfl) ?_
    refine WL.set 46 (v' := .bool true) rfl (by rw [hc8]) ?_
    refine WL.move rfl rfl rfl (WL.move rfl rfl rfl (WL.move rfl rfl rfl (WL.indexAddrE (j := k) Tryd.underlying57 isz_60 rfl rfl rfl rfl hj3 hE3 (WL.fieldAddr fo_60_5 rfl rfl rfl (WL.load1 (v := .bool x3.strong) one_4 rfl rfl rfl (hS.roCells hr3 hc3 5 _ rfl) (WL.pick (v := .bool x3.strong) rfl rfl rfl rfl rfl rfl (WL.nil (N.seq ?_))))))))
    refine W.cond rfl (fun hc9 => ?_) (fun hc9 => ?_)
    ·
     refine W.region (WL.move rfl rfl rfl ?_)
     refine WL.add (c := cs + 1) rfl rfl rfl rfl (rfl) (by omega) ?_
     refine WL.assign rfl rfl rfl (WL.nil (N.seq (W.seq (W.region (WL.move rfl rfl rfl (WL.move rfl rfl rfl (WL.indexAddrE (j := k) Tryd.underlying57 isz_60 rfl rfl rfl rfl hj3 hE3 (WL.fieldAddr fo_60_5 rfl rfl rfl (WL.load1 (v := .bool x3.strong) one_4 rfl rfl rfl (hS.roCells hr3 hc3 5 _ rfl) ?_)))))))))
     refine WL.set 60 (v' := .bool true) rfl (by rw [hc9]) ?_
     refine WL.nil (N.seq (W.condT rfl (W.region (WL.move rfl rfl rfl ?_))))
     refine WL.add (c := cw + 1) rfl rfl rfl rfl (rfl) (by omega) ?_
     refine WL.assign rfl rfl rfl (WL.nil (N.blk (N.seq (W.region (WL.move rfl rfl rfl ?_)))))
     refine WL.add (c := (k : Int) + 1) rfl rfl rfl rfl (rfl) (by omega) ?_
     refine WL.assign rfl rfl rfl (WL.nil ?_)
     have hgd : g.getD 0 item0 = x4 := by rw [List.getD_eq_getElem?_getD, hx4]; rfl
     have hno2 : (g.take (k + 1)).any (odd9 (g.getD 0 item0)) = false := by rw [take_next hx3, List.any_append, hno, hgd]; simp [odd9, hc2p, hg5, hc7p, hc8, hc9]
     exact N.loop (k + 1, cs + 1, ch + 1, cw + 1) ⟨rfl, rfl, rfl, rfl, rfl, trivial⟩ ⟨hS, by omega, hno2, by rw [cnt9_next hx3, ← hcs]; simp [sB9, hc2p, hg5, hc7p, hc8, hc9], by rw [cnt9_next hx3, ← hch]; simp [hB9, hc2p, hg5, hc7p, hc8, hc9], by rw [cnt9_next hx3, ← hcw]; simp [wB9, hc2p, hg5, hc7p, hc8, hc9]⟩ (by first | omega | (simp only; omega))
    refine W.skip (N.seq (W.seq (W.region (WL.move rfl rfl rfl (WL.move rfl rfl rfl (WL.indexAddrE (j := k) Tryd.underlying57 isz_60 rfl rfl rfl rfl hj3 hE3 (WL.fieldAddr fo_60_5 rfl rfl rfl (WL.load1 (v := .bool x3.strong) one_4 rfl rfl rfl (hS.roCells hr3 hc3 5 _ rfl) ?_))))))))
    refine WL.set 60 (v' := .bool false) rfl (by rw [hc9]) ?_
    refine WL.nil (N.seq (W.condF rfl (W.skip (N.blk (N.seq (W.region (WL.move rfl rfl rfl ?_)))))))
    refine WL.add (c := (k : Int) + 1) rfl rfl rfl rfl (rfl) (by omega) ?_
    refine WL.assign rfl rfl rfl (WL.nil ?_)
    have hgd : g.getD 0 item0 = x4 := by rw [List.getD_eq_getElem?_getD, hx4]; rfl
    have hno2 : (g.take (k + 1)).any (odd9 (g.getD 0 item0)) = false := by rw [take_next hx3, List.any_append, hno, hgd]; simp [odd9, hc2p, hg5, hc7p, hc8, hc9]
    exact N.loop (k + 1, cs, ch + 1, cw) ⟨rfl, rfl, rfl, rfl, rfl, trivial⟩ ⟨hS, by omega, hno2, by rw [cnt9_next hx3, ← hcs]; simp [sB9, hc2p, hg5, hc7p, hc8, hc9], by rw [cnt9_next hx3, ← hch]; simp [hB9, hc2p, hg5, hc7p, hc8, hc9], by rw [cnt9_next hx3, ← hcw]; simp [wB9, hc2p, hg5, hc7p, hc8, hc9]⟩ (by first | omega | (simp only; omega))
   refine W.skip (N.seq (W.seq (W.seq (W.region (WL.move rfl rfl rfl (WL.move rfl rfl rfl (WL.indexAddrE (j := k) Tryd.underlying57 isz_60 rfl rfl rfl rfl hj3 hE3 (WL.fieldAddr fo_60_4 rfl rfl rfl (WL.load1 (v := .bool x3.here) one_4 rfl rfl rfl (hS.roCells hr3 hc3 4 _ rfl) ?_)))))))))
   refine WL.set 46 (v' := .bool false) rfl (by rw [hc8]) ?_
   refine WL.move rfl rfl rfl (WL.skp rfl rfl (WL.skp rfl rfl (WL.skp rfl rfl (WL.skp rfl rfl (WL.skp rfl rfl (WL.pick (v := .bool false) rfl rfl rfl rfl rfl rfl (WL.nil (N.seq (W.condF rfl ?_)))))))))
   refine W.skip (N.seq (W.seq (W.region (WL.move rfl rfl rfl (WL.move rfl rfl rfl (WL.indexAddrE (j := k) Tryd.underlying57 isz_60 rfl rfl rfl rfl hj3 hE3 (WL.fieldAddr fo_60_5 rfl rfl rfl (WL.load1 (v := .bool x3.strong) one_4 rfl rfl rfl (hS.roCells hr3 hc3 5 _ rfl) (WL.nil ?_)))))))))
   refine N.seq ?_
   refine W.cond rfl (fun hc10 => ?_) (fun hc10 => ?_)
   ·
    refine W.region (WL.move rfl rfl rfl ?_)
    refine WL.add (c := cw + 1) rfl rfl rfl rfl (rfl) (by omega) ?_
    refine WL.assign rfl rfl rfl (WL.nil (N.blk (N.seq (W.region (WL.move rfl rfl rfl ?_)))))
    refine WL.add (c := (k : Int) + 1) rfl rfl rfl rfl (rfl) (by omega) ?_
    refine WL.assign rfl rfl rfl (WL.nil ?_)
    have hgd : g.getD 0 item0 = x4 := by rw [List.getD_eq_getElem?_getD, hx4]; rfl
    have hno2 : (g.take (k + 1)).any (odd9 (g.getD 0 item0)) = false := by rw [take_next hx3, List.any_append, hno, hgd]; simp [odd9, hc2p, hg5, hc7p, hc8, hc10]
    exact N.loop (k + 1, cs, ch, cw + 1) ⟨rfl, rfl, rfl, rfl, rfl, trivial⟩ ⟨hS, by omega, hno2, by rw [cnt9_next hx3, ← hcs]; simp [sB9, hc2p, hg5, hc7p, hc8, hc10], by rw [cnt9_next hx3, ← hch]; simp [hB9, hc2p, hg5, hc7p, hc8, hc10], by rw [cnt9_next hx3, ← hcw]; simp [wB9, hc2p, hg5, hc7p, hc8, hc10]⟩ (by first | omega | (simp only; omega))
   refine W.skip (N.blk (N.seq (W.region (WL.move rfl rfl rfl ?_))))
   refine WL.add (c := (k : Int) + 1) rfl rfl rfl rfl (rfl) (by omega) ?_
   refine WL.assign rfl rfl rfl (WL.nil ?_)
   have hgd : g.getD 0 item0 = x4 := by rw [List.getD_eq_getElem?_getD, hx4]; rfl
   have hno2 : (g.take (k + 1)).any (odd9 (g.getD 0 item0)) = false := by rw [take_next hx3, List.any_append, hno, hgd]; simp [odd9, hc2p, hg5, hc7p, hc8, hc10]
   exact N.loop (k + 1, cs, ch, cw) ⟨rfl, rfl, rfl, rfl, rfl, trivial⟩ ⟨hS, by omega, hno2, by rw [cnt9_next hx3, ← hcs]; simp [sB9, hc2p, hg5, hc7p, hc8, hc10], by rw [cnt9_next hx3, ← hch]; simp [hB9, hc2p, hg5, hc7p, hc8, hc10], by rw [cnt9_next hx3, ← hcw]; simp [wB9, hc2p, hg5, hc7p, hc8, hc10]⟩ (by first | omega | (simp only; omega))
  refine W.drawL (by kernel_rfl) 22 ((.q (.slice ad g.length cap)) :: (.q (.int .i64 (k : Int))) :: (.q (.pointer (some ⟨b3, o3 + k * 6, none⟩))) :: (.q (.pointer (some ⟨b3, o3 + k * 6 + 2, none⟩))) :: (.q (.bool x3.fn)) :: (.q (.slice ad g.length cap)) :: (.q (.pointer (some ⟨b4, o4 + 0 * 6, none⟩))) :: (.q (.pointer (some ⟨b4, o4 + 0 * 6 + 2, none⟩))) :: (.q (.bool x4.fn)) :: (.q (.bool true)) :: (.q (.bool true)) :: (.q undef) :: (.q undef) :: (.q undef) :: (.q undef) :: (.q undef) :: (.q undef) :: (.q undef) :: (.q undef) :: (.q undef) :: (.q undef) :: (.q (.bool true)) :: []) (by kernel_rfl) (by kernel_rfl) [(0, .slice ad g.length cap), (3, .int .i64 cs), (4, .int .i64 ch), (5, .int .i64 cw), (6, .int .i64 (k : Int))] ⟨rfl, rfl, rfl, rfl, rfl, trivial⟩ (by kernel_rfl) hS ?_ ?_
  ·
   refine And.intro (fun β w hS => ?_) ?_
   ·
    refine WL.sub (σ' := [(0, .slice ad g.length cap)]) ⟨rfl, trivial⟩ ?_
    refine WL.move rfl rfl rfl ?_
    exact WL.nil (N.cut () ⟨rfl, trivial⟩ (Below.refl _ _))
   refine And.intro (fun β w hS => ?_) ?_
   ·
    refine WL.sub (σ' := [(6, .int .i64 (k : Int))]) ⟨rfl, trivial⟩ ?_
    refine WL.move rfl rfl rfl ?_
    exact WL.nil (N.cut () ⟨rfl, trivial⟩ (Below.refl _ _))
   refine And.intro (fun β w hS => ?_) ?_
   ·
    refine WL.sub (σ' := [(13, .slice ad g.length cap), (14, .int .i64 (k : Int))]) ⟨rfl, rfl, trivial⟩ ?_
    refine WL.indexAddrE (j := k) Tryd.underlying57 isz_60 rfl rfl rfl rfl hj3 hE3 ?_
    exact WL.nil (N.cut () ⟨rfl, trivial⟩ (Below.refl _ _))
   refine And.intro (fun β w hS => ?_) ?_
   ·
    refine WL.sub (σ' := [(15, .pointer (some ⟨b3, o3 + k * 6, none⟩))]) ⟨rfl, trivial⟩ ?_
    refine WL.fieldAddr fo_60_2 rfl rfl rfl ?_
    exact WL.nil (N.cut () ⟨rfl, trivial⟩ (Below.refl _ _))
   refine And.intro (fun β w hS => ?_) ?_
   ·
    refine WL.sub (σ' := [(16, .pointer (some ⟨b3, o3 + k * 6 + 2, none⟩))]) ⟨rfl, trivial⟩ ?_
    refine WL.load1 (v := .bool x3.fn) one_4 rfl rfl rfl (hS.roCells hr3 hc3 2 _ rfl) ?_
    exact WL.nil (N.cut () ⟨rfl, trivial⟩ (Below.refl _ _))
   refine And.intro (fun β w hS => ?_) ?_
   ·
    refine WL.sub (σ' := [(0, .slice ad g.length cap)]) ⟨rfl, trivial⟩ ?_
    refine WL.move rfl rfl rfl ?_
    exact WL.nil (N.cut () ⟨rfl, trivial⟩ (Below.refl _ _))
   refine And.intro (fun β w hS => ?_) ?_
   ·
    refine WL.sub (σ' := [(18, .slice ad g.length cap)]) ⟨rfl, trivial⟩ ?_
    refine WL.indexAddrE (j := 0) Tryd.underlying57 isz_60 rfl rfl rfl rfl hj4 hE4 ?_
    exact WL.nil (N.cut () ⟨rfl, trivial⟩ (Below.refl _ _))
   refine And.intro (fun β w hS => ?_) ?_
   ·
    refine WL.sub (σ' := [(19, .pointer (some ⟨b4, o4 + 0 * 6, none⟩))]) ⟨rfl, trivial⟩ ?_
    refine WL.fieldAddr fo_60_2 rfl rfl rfl ?_
    exact WL.nil (N.cut () ⟨rfl, trivial⟩ (Below.refl _ _))
   refine And.intro (fun β w hS => ?_) ?_
   ·
    refine WL.sub (σ' := [(20, .pointer (some ⟨b4, o4 + 0 * 6 + 2, none⟩))]) ⟨rfl, trivial⟩ ?_
    refine WL.load1 (v := .bool x4.fn) one_4 rfl rfl rfl (hS.roCells hr4 hc4 2 _ rfl) ?_
    exact WL.nil (N.cut () ⟨rfl, trivial⟩ (Below.refl _ _))
   refine And.intro (fun β w hS => ?_) ?_
   ·
    refine WL.sub (σ' := [(17, .bool x3.fn), (21, .bool x4.fn)]) ⟨rfl, rfl, trivial⟩ ?_
    refine WL.neBool Tryd.underlying4 rfl rfl rfl rfl ?_
    refine WL.set 22 (v' := .bool true) rfl (by rw [hg5]) ?_
    exact WL.nil (N.cut () ⟨rfl, trivial⟩ (Below.refl _ _))
   refine And.intro (fun β w hS => ?_) ?_
   ·
    refine WL.sub (σ' := [(22, .bool true)]) ⟨rfl, trivial⟩ ?_
    refine WL.move rfl rfl rfl ?_
    exact WL.nil (N.cut () ⟨rfl, trivial⟩ (Below.refl _ _))
   refine And.intro (fun β w hS => ?_) ?_
   ·
    refine WL.sub (σ' := [(0, .slice ad g.length cap), (23, .bool true)]) ⟨rfl, rfl, trivial⟩ ?_
    refine WL.skp rfl rfl ?_
    exact WL.nil (N.cut () ⟨rfl, trivial⟩ (Below.refl _ _))
   refine And.intro (fun β w hS => ?_) ?_
   ·
    refine WL.sub (σ' := [(6, .int .i64 (k : Int)), (23, .bool true)]) ⟨rfl, rfl, trivial⟩ ?_
    refine WL.skp rfl rfl ?_
    exact WL.nil (N.cut () ⟨rfl, trivial⟩ (Below.refl _ _))
   refine And.intro (fun β w hS => ?_) ?_
   ·
    refine WL.sub (σ' := [(23, .bool true), (24, undef), (25, undef)]) ⟨rfl, rfl, rfl, trivial⟩ ?_
    refine WL.skp rfl rfl ?_
    exact WL.nil (N.cut () ⟨rfl, trivial⟩ (Below.refl _ _))
   refine And.intro (fun β w hS => ?_) ?_
   ·
    refine WL.sub (σ' := [(23, .bool true), (26, undef)]) ⟨rfl, rfl, trivial⟩ ?_
    refine WL.skp rfl rfl ?_
    exact WL.nil (N.cut () ⟨rfl, trivial⟩ (Below.refl _ _))
   refine And.intro (fun β w hS => ?_) ?_
   ·
    refine WL.sub (σ' := [(23, .bool true), (27, undef)]) ⟨rfl, rfl, trivial⟩ ?_
    refine WL.skp rfl rfl ?_
    exact WL.nil (N.cut () ⟨rfl, trivial⟩ (Below.refl _ _))
   refine And.intro (fun β w hS => ?_) ?_
   ·
    refine WL.sub (σ' := [(0, .slice ad g.length cap), (23, .bool true)]) ⟨rfl, rfl, trivial⟩ ?_
    refine WL.skp rfl rfl ?_
    exact WL.nil (N.cut () ⟨rfl, trivial⟩ (Below.refl _ _))
   refine And.intro (fun β w hS => ?_) ?_
   ·
    refine WL.sub (σ' := [(23, .bool true), (29, undef)]) ⟨rfl, rfl, trivial⟩ ?_
    refine WL.skp rfl rfl ?_
    exact WL.nil (N.cut () ⟨rfl, trivial⟩ (Below.refl _ _))
   refine And.intro (fun β w hS => ?_) ?_
   ·
    refine WL.sub (σ' := [(23, .bool true), (30, undef)]) ⟨rfl, rfl, trivial⟩ ?_
    refine WL.skp rfl rfl ?_
    exact WL.nil (N.cut () ⟨rfl, trivial⟩ (Below.refl _ _))
   refine And.intro (fun β w hS => ?_) ?_
   ·
    refine WL.sub (σ' := [(23, .bool true), (31, undef)]) ⟨rfl, rfl, trivial⟩ ?_
    refine WL.skp rfl rfl ?_
    exact WL.nil (N.cut () ⟨rfl, trivial⟩ (Below.refl _ _))
   refine And.intro (fun β w hS => ?_) ?_
   ·
    refine WL.sub (σ' := [(23, .bool true), (28, undef), (32, undef)]) ⟨rfl, rfl, rfl, trivial⟩ ?_
    refine WL.skp rfl rfl ?_
    exact WL.nil (N.cut () ⟨rfl, trivial⟩ (Below.refl _ _))
   refine And.intro (fun β w hS => ?_) ?_
   ·
    refine WL.sub (σ' := [(23, .bool true), (33, undef)]) ⟨rfl, rfl, trivial⟩ ?_
    refine WL.pick (v := .bool true) rfl rfl rfl rfl rfl rfl ?_
    exact WL.nil (N.cut () ⟨rfl, trivial⟩ (Below.refl _ _))
   trivial
  clear hS; intro w11 β hS
  refine WL.sub (σ' := [(0, .slice ad g.length cap), (3, .int .i64 cs), (4, .int .i64 ch), (5, .int .i64 cw), (6, .int .i64 (k : Int)), (34, .bool true)]) (Sub.ofEq (by kernel_rfl)) ?_
  refine WL.nil (N.seq (W.condT rfl (W.seq (W.region (WL.assign rfl rfl rfl (WL.nil (N.seq ?_)))))))
  refine Fin.ret1 rfl (v := .int .i64 10) rfl ?_
  have hgd : g.getD 0 item0 = x4 := by rw [List.getD_eq_getElem?_getD, hx4]; rfl
  have ho : oddG g = true := List.any_eq_true.2 ⟨x3, List.mem_of_getElem? hx3, by show odd9 _ _ = true; rw [hgd]; simp [odd9, hc2p, hg5]⟩
  exact ⟨by unfold wrong9; rw [if_pos ho], hS.below⟩
 have hc2p : ¬ ((k : Int) < (g.length : Int)) := by simpa using hc2
 refine W.exit (X.seq (X.loop (X.blk (N.seq (W.seq (W.seq (W.region (WL.move rfl rfl rfl (WL.bin rfl rfl rfl rfl rfl ?_)))))))))
 refine WL.nil (N.seq ?_)
 refine W.cond rfl (fun hc12 => ?_) (fun hc12 => ?_)
 ·
  have hc12p : 1 < cs := by simpa using hc12
  refine W.seq (W.region (WL.assign rfl rfl rfl (WL.nil (N.seq ?_))))
  refine Fin.ret1 rfl (v := .int .i64 9) rfl ?_
  have e : k = g.length := by omega
  rw [e, List.take_length] at hno hcs hch hcw
  have hbz := hS.below
  clear hS
  refine ⟨?_, hbz⟩
  rw [wrong9_end (show oddG g = false from hno), ← hcs, ← hch, ← hcw]
  rw [if_pos (by omega)]
 have hc12p : ¬ (1 < cs) := by simpa using hc12
 refine W.skip (N.seq (W.seq (W.seq (W.region (WL.move rfl rfl rfl (WL.bin rfl rfl rfl rfl rfl (WL.move rfl rfl rfl ?_)))))))
 rcases (Bool.eq_false_or_eq_true (decide (ch = 0))).symm with hg13 | hg13
 ·
  refine WL.set 66 (v' := .bool false) rfl (by rw [hg13]) ?_
  refine WL.set 67 (v' := .bool false) rfl (by rw [hg13]) ?_
  have hg13p : ¬ (ch = 0) := by simpa using hg13
  refine WL.skp rfl rfl (WL.skp rfl rfl (WL.pick (v := .bool false) rfl rfl rfl rfl rfl rfl (WL.nil (N.seq (W.condF rfl (W.skip (N.seq (W.seq (W.region ?_)))))))))
  refine WL.assign rfl rfl rfl (WL.nil (N.seq ?_))
  refine Fin.ret1 rfl (v := .int .i64 0) rfl ?_
  have e : k = g.length := by omega
  rw [e, List.take_length] at hno hcs hch hcw
  have hbz := hS.below
  clear hS
  refine ⟨?_, hbz⟩
  rw [wrong9_end (show oddG g = false from hno), ← hcs, ← hch, ← hcw]
  rw [if_neg (by omega), if_neg (by omega)]
 refine WL.set 66 (v' := .bool true) rfl (by rw [hg13]) ?_
 refine WL.set 67 (v' := .bool true) rfl (by rw [hg13]) ?_
 have hg13p : ch = 0 := by simpa using hg13
 refine WL.move rfl rfl rfl (WL.bin rfl rfl rfl rfl rfl (WL.pick (v := .bool (decide (0 < cw))) rfl rfl rfl rfl rfl rfl (WL.nil (N.seq ?_))))
 refine W.cond rfl (fun hc14 => ?_) (fun hc14 => ?_)
 ·
  have hc14p : 0 < cw := by simpa using hc14
  refine W.seq (W.region (WL.assign rfl rfl rfl (WL.nil (N.seq ?_))))
  refine Fin.ret1 rfl (v := .int .i64 8) rfl ?_
  have e : k = g.length := by omega
  rw [e, List.take_length] at hno hcs hch hcw
  have hbz := hS.below
  clear hS
  refine ⟨?_, hbz⟩
  rw [wrong9_end (show oddG g = false from hno), ← hcs, ← hch, ← hcw]
  rw [if_neg (by omega), if_pos (by omega)]
 have hc14p : ¬ (0 < cw) := by simpa using hc14
 refine W.skip (N.seq (W.seq (W.region (WL.assign rfl rfl rfl (WL.nil (N.seq ?_))))))
 refine Fin.ret1 rfl (v := .int .i64 0) rfl ?_
 have e : k = g.length := by omega
 rw [e, List.take_length] at hno hcs hch hcw
 have hbz := hS.below
 clear hS
 refine ⟨?_, hbz⟩
 rw [wrong9_end (show oddG g = false from hno), ← hcs, ← hch, ← hcw]
 rw [if_neg (by omega), if_neg (by omega)]

end Go.Proofs.YtapjejjmhmdmdaaDoor
