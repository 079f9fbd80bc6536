/-
  Contracts of layer 9 (resolve). No condition beyond those that each theorem states.
-/
import Derived.Test.YtapjejjmhmdmdaaDoorY5
namespace Go.Proofs.YtapjejjmhmdmdaaDoor
open Go.RowKit
theorem fo_60_1 : fOff Tryd.prog 60 1 1 = true := by kernel_rfl
theorem fo_66_3 : fOff Tryd.prog 66 3 3 = true := by kernel_rfl
theorem getD_at {g : List DItem} {k : Nat} {x : DItem} (h : g[k]? = some x) : g.getD k item0 = x := by rw [List.getD_eq_getElem?_getD, h]; rfl
theorem rdef_here {g : List DItem} {md : Int} {hh : Bool} (h1 : hh = true → md = (g.getD (ixI hB9 g).toNat item0).mod ∧ 0 ≤ ixI hB9 g) (h2 : hh = false → md = (g.getD 0 item0).mod ∧ g.findIdx? hB9 = none) : hh = decide (0 ≤ ixI hB9 g) := by
  cases hh with
  | true => exact (decide_eq_true (h1 rfl).2).symm
  | false => rw [find_end (h2 rfl).2]; rfl
theorem rdef_end {g : List DItem} {md : Int} {hh : Bool} (h1 : hh = true → md = (g.getD (ixI hB9 g).toNat item0).mod ∧ 0 ≤ ixI hB9 g) (h2 : hh = false → md = (g.getD 0 item0).mod ∧ g.findIdx? hB9 = none) (hs : g.findIdx? sB9 = none) :
    def9 g = ⟨(g.getD 0 item0).name, md, (g.getD 0 item0).fn, true, hh⟩ := by
  unfold def9
  rw [← rdef_here h1 h2, find_end hs]
  have e : (g.getD (di9 g) item0).mod = md := by
    unfold di9
    cases hh with
    | true => rw [if_neg (by have := (h1 rfl).2; omega), if_pos (by rw [find_end hs]; decide), (h1 rfl).1]
    | false => rw [if_pos (by rw [find_end (h2 rfl).2]; decide), (h2 rfl).1]
  rw [e]; rfl
theorem rdef_strong {g : List DItem} {md : Int} {hh : Bool} {k : Nat} {x : DItem} (h1 : hh = true → md = (g.getD (ixI hB9 g).toNat item0).mod ∧ 0 ≤ ixI hB9 g) (h2 : hh = false → md = (g.getD 0 item0).mod ∧ g.findIdx? hB9 = none) (hno : (g.take k).findIdx? sB9 = none) (hx : g[k]? = some x) (hp : sB9 x = true) :
    def9 g = ⟨(g.getD 0 item0).name, x.mod, (g.getD 0 item0).fn, false, hh⟩ := by
  have hk := find_here hno hx hp
  have hh' : hB9 x = true := by unfold sB9 at hp; unfold hB9; simp at hp; exact hp.1
  have hany : ¬ ixI hB9 g < 0 := by
    have h3 := ixI_neg hB9 g
    intro hc
    rw [decide_eq_true hc] at h3
    have h4 := List.any_eq_true.2 ⟨x, List.mem_of_getElem? hx, hh'⟩
    rw [h4] at h3; cases h3
  unfold def9
  rw [← rdef_here h1 h2, hk]
  have e : di9 g = k := by unfold di9; rw [if_neg hany, if_neg (by rw [hk]; omega), hk]; rfl
  rw [e, getD_at hx, decide_eq_false (by omega)]

set_option maxRecDepth 10000 in
set_option maxHeartbeats 4000000 in
theorem rdef_ret (g : List DItem) (vx : Value) {w : World} {ro : Nat → Prop} (hro : ∀ b, ro b → b < w.heap.size) (hx : SlV ro w 6 ItemC vx g) (hg0 : 0 < g.length) : Ret Tryd.prog 70 #[vx] w fun v w' => v = defV (def9 g) ∧ Below w.heap.size w w' := by
 obtain ⟨ad, cap, rfl, haa, hab, hac, had⟩ := id hx
 have ham : g.length ≤ 9223372036854775807 := by have h1 := haa; have h2 := hab; unfold maxLen at h2; omega
 refine Ret.enter (P := Tryd.prog) (n := 69) (args := [.slice ad g.length cap]) (σ := [(0, .slice ad g.length cap)]) Tryd.func70 rfl rfl rfl rfl ?_
 have hS := St.start (ro := ro) hro
 refine W.seq (W.region ?_)
 refine WL.alloc (tyZero_spec zer_66) rfl rfl hS ?_
 clear hS; intro w2 b1 hb_b1 hS
 refine WL.nil (N.seq (W.seq ?_))
 have hj3 : 0 < g.length := hg0
 obtain ⟨x3, hx3⟩ : ∃ zz, g[0]? = some zz := ⟨_, List.getElem?_eq_getElem hj3⟩
 obtain ⟨b3, o3, cs3, hE3, hr3, hl3, hc3, hQ3⟩ := had 0 _ hx3
 obtain ⟨rfl, hin3, him3, hip3⟩ := hQ3
 refine W.drawL (by kernel_rfl) 14 ((.q (.slice ad g.length cap)) :: (.q (.pointer (some ⟨b3, o3 + 0 * 6, none⟩))) :: (.q (.pointer (some ⟨b3, o3 + 0 * 6, none⟩))) :: (.q (.string x3.name)) :: (.q (.slice ad g.length cap)) :: (.q (.pointer (some ⟨b3, o3 + 0 * 6, none⟩))) :: (.q (.pointer (some ⟨b3, o3 + 0 * 6 + 1, none⟩))) :: (.q (.int .i64 x3.mod)) :: (.q (.slice ad g.length cap)) :: (.q (.pointer (some ⟨b3, o3 + 0 * 6, none⟩))) :: (.q (.pointer (some ⟨b3, o3 + 0 * 6 + 2, none⟩))) :: (.q (.bool x3.fn)) :: (.q (.agg #[.string x3.name, .int .i64 x3.mod, .bool x3.fn, .bool true, .bool false])) :: (.a 66 [.string ⟨#[]⟩, .int .i64 0, .bool false, .bool false, .bool false]) :: []) (by kernel_rfl) (by kernel_rfl) [(0, .slice ad g.length cap), (2, .pointer (some ⟨b1, 0, none⟩))] ⟨rfl, rfl, trivial⟩ (by kernel_rfl) hS ?_ ?_
 ·
  refine And.intro (fun β w hS => ?_) ?_
  ·
   refine WL.sub (σ' := [(0, .slice ad g.length cap)]) ⟨rfl, trivial⟩ ?_
   refine WL.move rfl rfl rfl ?_
   exact WL.nil (N.cut () ⟨rfl, trivial⟩ (Below.refl _ _))
  refine And.intro (fun β w hS => ?_) ?_
  ·
   refine WL.sub (σ' := [(6, .slice ad g.length cap)]) ⟨rfl, trivial⟩ ?_
   refine WL.indexAddrE (j := 0) Tryd.underlying57 isz_60 rfl rfl rfl rfl hj3 hE3 ?_
   exact WL.nil (N.cut () ⟨rfl, trivial⟩ (Below.refl _ _))
  refine And.intro (fun β w hS => ?_) ?_
  ·
   refine WL.sub (σ' := [(7, .pointer (some ⟨b3, o3 + 0 * 6, none⟩))]) ⟨rfl, trivial⟩ ?_
   refine WL.fieldAddr fo_60_0 rfl rfl rfl ?_
   exact WL.nil (N.cut () ⟨rfl, trivial⟩ (Below.refl _ _))
  refine And.intro (fun β w hS => ?_) ?_
  ·
   refine WL.sub (σ' := [(8, .pointer (some ⟨b3, o3 + 0 * 6, none⟩))]) ⟨rfl, trivial⟩ ?_
   refine WL.load1 (v := .string x3.name) one_9 rfl rfl rfl (hS.roCells hr3 hc3 0 _ rfl) ?_
   exact WL.nil (N.cut () ⟨rfl, trivial⟩ (Below.refl _ _))
  refine And.intro (fun β w hS => ?_) ?_
  ·
   refine WL.sub (σ' := [(0, .slice ad g.length cap)]) ⟨rfl, trivial⟩ ?_
   refine WL.move rfl rfl rfl ?_
   exact WL.nil (N.cut () ⟨rfl, trivial⟩ (Below.refl _ _))
  refine And.intro (fun β w hS => ?_) ?_
  ·
   refine WL.sub (σ' := [(10, .slice ad g.length cap)]) ⟨rfl, trivial⟩ ?_
   refine WL.indexAddrE (j := 0) Tryd.underlying57 isz_60 rfl rfl rfl rfl hj3 hE3 ?_
   exact WL.nil (N.cut () ⟨rfl, trivial⟩ (Below.refl _ _))
  refine And.intro (fun β w hS => ?_) ?_
  ·
   refine WL.sub (σ' := [(11, .pointer (some ⟨b3, o3 + 0 * 6, none⟩))]) ⟨rfl, trivial⟩ ?_
   refine WL.fieldAddr fo_60_1 rfl rfl rfl ?_
   exact WL.nil (N.cut () ⟨rfl, trivial⟩ (Below.refl _ _))
  refine And.intro (fun β w hS => ?_) ?_
  ·
   refine WL.sub (σ' := [(12, .pointer (some ⟨b3, o3 + 0 * 6 + 1, none⟩))]) ⟨rfl, trivial⟩ ?_
   refine WL.load1 (v := .int .i64 x3.mod) one_3 rfl rfl rfl (hS.roCells hr3 hc3 1 _ rfl) ?_
   exact WL.nil (N.cut () ⟨rfl, trivial⟩ (Below.refl _ _))
  refine And.intro (fun β w hS => ?_) ?_
  ·
   refine WL.sub (σ' := [(0, .slice ad g.length cap)]) ⟨rfl, trivial⟩ ?_
   refine WL.move rfl rfl rfl ?_
   exact WL.nil (N.cut () ⟨rfl, trivial⟩ (Below.refl _ _))
  refine And.intro (fun β w hS => ?_) ?_
  ·
   refine WL.sub (σ' := [(14, .slice ad g.length cap)]) ⟨rfl, trivial⟩ ?_
   refine WL.indexAddrE (j := 0) Tryd.underlying57 isz_60 rfl rfl rfl rfl hj3 hE3 ?_
   exact WL.nil (N.cut () ⟨rfl, trivial⟩ (Below.refl _ _))
  refine And.intro (fun β w hS => ?_) ?_
  ·
   refine WL.sub (σ' := [(15, .pointer (some ⟨b3, o3 + 0 * 6, none⟩))]) ⟨rfl, trivial⟩ ?_
   refine WL.fieldAddr fo_60_2 rfl rfl rfl ?_
   exact WL.nil (N.cut () ⟨rfl, trivial⟩ (Below.refl _ _))
  refine And.intro (fun β w hS => ?_) ?_
  ·
   refine WL.sub (σ' := [(16, .pointer (some ⟨b3, o3 + 0 * 6 + 2, none⟩))]) ⟨rfl, trivial⟩ ?_
   refine WL.load1 (v := .bool x3.fn) one_4 rfl rfl rfl (hS.roCells hr3 hc3 2 _ rfl) ?_
   exact WL.nil (N.cut () ⟨rfl, trivial⟩ (Below.refl _ _))
  refine And.intro (fun β w hS => ?_) ?_
  ·
   refine WL.sub (σ' := [(9, .string x3.name), (13, .int .i64 x3.mod), (17, .bool x3.fn)]) ⟨rfl, rfl, rfl, trivial⟩ ?_
   refine WL.build (ps := [(0, .string x3.name), (1, .int .i64 x3.mod), (2, .bool x3.fn), (3, .bool true)]) (cs := [.string x3.name, .int .i64 x3.mod, .bool x3.fn, .bool true, .bool false]) rfl rfl rfl (by kernel_rfl) ?_
   exact WL.nil (N.cut () ⟨rfl, trivial⟩ (Below.refl _ _))
  refine And.intro ⟨rfl, rfl, tyZero_spec zer_66⟩ ?_
  trivial
 clear hS; intro w4 β hS
 obtain ⟨b5, hb5⟩ : ∃ x, β 13 = x := ⟨_, rfl⟩
 replace hS : St w w w4 ro [(b5, .cells #[.string ⟨#[]⟩, .int .i64 0, .bool false, .bool false, .bool false] 66 (0, 0)), (b1, .cells #[.string ⟨#[]⟩, .int .i64 0, .bool false, .bool false, .bool false] 66 (0, 0))] [] := by rw [← hb5]; exact hS
 refine WL.sub (σ' := [(0, .slice ad g.length cap), (2, .pointer (some ⟨b1, 0, none⟩)), (3, .pointer (some ⟨b5, 0, none⟩)), (18, .agg #[.string x3.name, .int .i64 x3.mod, .bool x3.fn, .bool true, .bool false])]) ⟨rfl, rfl, by rw [← hb5]; rfl, rfl, trivial⟩ ?_
 refine WL.store (L' := [(b5, .cells #[.string x3.name, .int .i64 x3.mod, .bool x3.fn, .bool true, .bool false] 66 (0, 0)), (b1, .cells #[.string ⟨#[]⟩, .int .i64 0, .bool false, .bool false, .bool false] 66 (0, 0))]) 0 rfl rfl rfl rfl siz_66 rfl rfl rfl rfl rfl hS ?_
 clear hS; intro w6 hS
 refine WL.nil (N.seq (W.seq (W.seq (W.region (WL.assign rfl rfl rfl (WL.nil (N.seq (W.block ?_))))))))
 have hgd : g.getD 0 item0 = x3 := getD_at hx3
 refine W.loop (α := Nat × Int × Bool) (fun ⟨k, md, hh⟩ => [(0, .slice ad g.length cap), (2, .pointer (some ⟨b1, 0, none⟩)), (3, .pointer (some ⟨b5, 0, none⟩)), (4, .int .i64 (k : Int))]) (fun ⟨k, md, hh⟩ u => St w w u ro [(b5, .cells #[.string x3.name, .int .i64 md, .bool x3.fn, .bool true, .bool hh] 66 (0, 0)), (b1, .cells #[.string ⟨#[]⟩, .int .i64 0, .bool false, .bool false, .bool false] 66 (0, 0))] [] ∧ k ≤ g.length ∧ (hh = true → md = (g.getD (ixI hB9 g).toNat item0).mod ∧ 0 ≤ ixI hB9 g) ∧ (hh = false → md = (g.getD 0 item0).mod ∧ (g.take k).findIdx? hB9 = none)) (fun ⟨k, md, hh⟩ => g.length - k) (0, x3.mod, false) ⟨rfl, rfl, rfl, rfl, trivial⟩ ⟨hS, Nat.zero_le _, (fun h => by cases h), (fun _ => ⟨by rw [hgd], rfl⟩)⟩ ?_
 clear hS
 rintro ⟨k, md, hh⟩ w7 ⟨hS, hk, hF1, hF2⟩
 refine W.seq (W.seq (W.region (WL.move rfl rfl rfl (WL.move rfl rfl rfl (WL.lenSlice Tryd.underlying57 rfl rfl rfl (WL.bin rfl rfl rfl rfl rfl (WL.nil (N.seq ?_))))))))
 refine W.cond rfl (fun hc8 => ?_) (fun hc8 => ?_)
 ·
  have hc8p : (k : Int) < (g.length : Int) := by simpa using hc8
  refine W.skip (N.seq (W.seq (W.block (W.seq (W.region (WL.move rfl rfl rfl (WL.move rfl rfl rfl ?_)))))))
  have hj9 : k < g.length := by omega
  obtain ⟨x9, hx9⟩ : ∃ zz, g[k]? = some zz := ⟨_, List.getElem?_eq_getElem hj9⟩
  obtain ⟨b9, o9, cs9, hE9, hr9, hl9, hc9, hQ9⟩ := had k _ hx9
  obtain ⟨rfl, hin9, him9, hip9⟩ := hQ9
  refine WL.indexAddrE (j := k) Tryd.underlying57 isz_60 rfl rfl rfl rfl hj9 hE9 (WL.fieldAddr fo_60_4 rfl rfl rfl (WL.load1 (v := .bool x9.here) one_4 rfl rfl rfl (hS.roCells hr9 hc9 4 _ rfl) (WL.move rfl rfl rfl ?_)))
  rcases (Bool.eq_false_or_eq_true x9.here).symm with hg10 | hg10
  ·
   refine WL.set 29 (v' := .bool false) rfl (by rw [hg10]) ?_
   refine WL.set 30 (v' := .bool false) rfl (by rw [hg10]) ?_
   refine WL.skp rfl rfl (WL.skp rfl rfl (WL.skp rfl rfl (WL.pick (v := .bool false) rfl rfl rfl rfl rfl rfl (WL.nil (N.seq (W.condF rfl (W.skip (N.blk (N.seq ?_)))))))))
   refine W.region (WL.move rfl rfl rfl ?_)
   refine WL.add (c := (k : Int) + 1) rfl rfl rfl rfl (rfl) (by omega) ?_
   refine WL.assign rfl rfl rfl (WL.nil ?_)
   exact N.loop (k + 1, md, hh) ⟨rfl, rfl, rfl, rfl, trivial⟩ ⟨hS, by omega, hF1, fun h => ⟨(hF2 h).1, find_next (hF2 h).2 hx9 hg10⟩⟩ (by first | omega | (simp only; omega))
  refine WL.set 29 (v' := .bool true) rfl (by rw [hg10]) ?_
  refine WL.set 30 (v' := .bool true) rfl (by rw [hg10]) ?_
  refine WL.fieldAddr fo_66_4 rfl rfl rfl (WL.load1 (v := .bool hh) one_4 rfl rfl rfl (hS.cell 0 rfl rfl) (WL.not rfl rfl rfl (WL.pick (v := .bool (!hh)) rfl rfl rfl rfl rfl rfl (WL.nil (N.seq ?_)))))
  refine W.cond rfl (fun hc11 => ?_) (fun hc11 => ?_)
  ·
   have hno0 := hF2 (by simpa using hc11)
   refine W.seq (W.region (WL.move rfl rfl rfl (WL.move rfl rfl rfl (WL.indexAddrE (j := k) Tryd.underlying57 isz_60 rfl rfl rfl rfl hj9 hE9 (WL.fieldAddr fo_60_1 rfl rfl rfl (WL.load1 (v := .int .i64 x9.mod) one_3 rfl rfl rfl (hS.roCells hr9 hc9 1 _ rfl) (WL.fieldAddr fo_66_1 rfl rfl rfl ?_)))))))
   refine WL.store (L' := [(b5, .cells #[.string x3.name, .int .i64 x9.mod, .bool x3.fn, .bool true, .bool hh] 66 (0, 0)), (b1, .cells #[.string ⟨#[]⟩, .int .i64 0, .bool false, .bool false, .bool false] 66 (0, 0))]) 0 rfl rfl rfl rfl siz_3 rfl rfl rfl rfl rfl hS ?_
   clear hS; intro w12 hS
   refine WL.nil (N.seq (W.region (WL.fieldAddr fo_66_4 rfl rfl rfl ?_)))
   refine WL.store (L' := [(b5, .cells #[.string x3.name, .int .i64 x9.mod, .bool x3.fn, .bool true, .bool true] 66 (0, 0)), (b1, .cells #[.string ⟨#[]⟩, .int .i64 0, .bool false, .bool false, .bool false] 66 (0, 0))]) 0 rfl rfl rfl rfl siz_4 rfl rfl rfl rfl rfl hS ?_
   clear hS; intro w13 hS
   refine WL.nil (N.blk (N.seq (W.region (WL.move rfl rfl rfl ?_))))
   refine WL.add (c := (k : Int) + 1) rfl rfl rfl rfl (rfl) (by omega) ?_
   refine WL.assign rfl rfl rfl (WL.nil ?_)
   exact N.loop (k + 1, x9.mod, true) ⟨rfl, rfl, rfl, rfl, trivial⟩ ⟨hS, by omega, fun _ => ⟨by rw [find_here hno0.2 hx9 hg10, Int.toNat_natCast, getD_at hx9], by rw [find_here hno0.2 hx9 hg10]; omega⟩, (fun h => by cases h)⟩ (by first | omega | (simp only; omega))
  refine W.skip (N.blk (N.seq (W.region (WL.move rfl rfl rfl ?_))))
  refine WL.add (c := (k : Int) + 1) rfl rfl rfl rfl (rfl) (by omega) ?_
  refine WL.assign rfl rfl rfl (WL.nil ?_)
  exact N.loop (k + 1, md, hh) ⟨rfl, rfl, rfl, rfl, trivial⟩ ⟨hS, by omega, hF1, (fun h => by have h2 := hc11; rw [h] at h2; cases h2)⟩ (by first | omega | (simp only; omega))
 have hc8p : ¬ ((k : Int) < (g.length : Int)) := by simpa using hc8
 refine W.exit (X.seq (X.loop (X.blk (N.seq (W.seq (W.seq (W.region (WL.assign rfl rfl rfl (WL.nil ?_)))))))))
 refine N.seq (W.block ?_)
 have ek : k = g.length := by omega
 rw [ek, List.take_length] at hF2
 refine W.loop (α := Nat) (fun (j : Nat) => [(0, .slice ad g.length cap), (2, .pointer (some ⟨b1, 0, none⟩)), (3, .pointer (some ⟨b5, 0, none⟩)), (5, .int .i64 (j : Int))]) (fun (j : Nat) u => St w w u ro [(b5, .cells #[.string x3.name, .int .i64 md, .bool x3.fn, .bool true, .bool hh] 66 (0, 0)), (b1, .cells #[.string ⟨#[]⟩, .int .i64 0, .bool false, .bool false, .bool false] 66 (0, 0))] [] ∧ j ≤ g.length ∧ (g.take j).findIdx? sB9 = none) (fun (j : Nat) => g.length - j) 0 ⟨rfl, rfl, rfl, rfl, trivial⟩ ⟨hS, Nat.zero_le _, rfl⟩ ?_
 clear hS
 rintro j w14 ⟨hS, hj, hnos⟩
 refine W.seq (W.seq (W.region (WL.move rfl rfl rfl (WL.move rfl rfl rfl (WL.lenSlice Tryd.underlying57 rfl rfl rfl (WL.bin rfl rfl rfl rfl rfl (WL.nil (N.seq ?_))))))))
 refine W.cond rfl (fun hc15 => ?_) (fun hc15 => ?_)
 ·
  have hc15p : (j : Int) < (g.length : Int) := by simpa using hc15
  refine W.skip (N.seq (W.seq (W.block (W.seq (W.region (WL.move rfl rfl rfl (WL.move rfl rfl rfl ?_)))))))
  have hj16 : j < g.length := by omega
  obtain ⟨x16, hx16⟩ : ∃ zz, g[j]? = some zz := ⟨_, List.getElem?_eq_getElem hj16⟩
  obtain ⟨b16, o16, cs16, hE16, hr16, hl16, hc16, hQ16⟩ := had j _ hx16
  obtain ⟨rfl, hin16, him16, hip16⟩ := hQ16
  refine WL.indexAddrE (j := j) Tryd.underlying57 isz_60 rfl rfl rfl rfl hj16 hE16 (WL.fieldAddr fo_60_4 rfl rfl rfl (WL.load1 (v := .bool x16.here) one_4 rfl rfl rfl (hS.roCells hr16 hc16 4 _ rfl) (WL.move rfl rfl rfl ?_)))
  rcases (Bool.eq_false_or_eq_true x16.here).symm with hg17 | hg17
  ·
   refine WL.set 52 (v' := .bool false) rfl (by rw [hg17]) ?_
   refine WL.set 53 (v' := .bool false) rfl (by rw [hg17]) ?_
   refine WL.skp rfl rfl (WL.skp rfl rfl (WL.skp rfl rfl (WL.skp rfl rfl (WL.skp rfl rfl (WL.pick (v := .bool false) rfl rfl rfl rfl rfl rfl (WL.nil (N.seq (W.condF rfl (W.skip ?_)))))))))
   refine N.blk (N.seq (W.region (WL.move rfl rfl rfl ?_)))
   refine WL.add (c := (j : Int) + 1) rfl rfl rfl rfl (rfl) (by omega) ?_
   refine WL.assign rfl rfl rfl (WL.nil ?_)
   exact N.loop (j + 1) ⟨rfl, rfl, rfl, rfl, trivial⟩ ⟨hS, by omega, find_next hnos hx16 (by simp [sB9, hc15p, hg17])⟩ (by first | omega | (simp only; omega))
  refine WL.set 52 (v' := .bool true) rfl (by rw [hg17]) ?_
  refine WL.set 53 (v' := .bool true) rfl (by rw [hg17]) ?_
  refine WL.move rfl rfl rfl (WL.move rfl rfl rfl (WL.indexAddrE (j := j) Tryd.underlying57 isz_60 rfl rfl rfl rfl hj16 hE16 (WL.fieldAddr fo_60_5 rfl rfl rfl (WL.load1 (v := .bool x16.strong) one_4 rfl rfl rfl (hS.roCells hr16 hc16 5 _ rfl) (WL.pick (v := .bool x16.strong) rfl rfl rfl rfl rfl rfl (WL.nil (N.seq ?_)))))))
  refine W.cond rfl (fun hc18 => ?_) (fun hc18 => ?_)
  ·
   refine W.seq (W.region (WL.move rfl rfl rfl (WL.move rfl rfl rfl (WL.indexAddrE (j := j) Tryd.underlying57 isz_60 rfl rfl rfl rfl hj16 hE16 (WL.fieldAddr fo_60_1 rfl rfl rfl (WL.load1 (v := .int .i64 x16.mod) one_3 rfl rfl rfl (hS.roCells hr16 hc16 1 _ rfl) (WL.fieldAddr fo_66_1 rfl rfl rfl ?_)))))))
   refine WL.store (L' := [(b5, .cells #[.string x3.name, .int .i64 x16.mod, .bool x3.fn, .bool true, .bool hh] 66 (0, 0)), (b1, .cells #[.string ⟨#[]⟩, .int .i64 0, .bool false, .bool false, .bool false] 66 (0, 0))]) 0 rfl rfl rfl rfl siz_3 rfl rfl rfl rfl rfl hS ?_
   clear hS; intro w19 hS
   refine WL.nil (N.seq (W.seq (W.region (WL.fieldAddr fo_66_3 rfl rfl rfl ?_))))
   refine WL.store (L' := [(b5, .cells #[.string x3.name, .int .i64 x16.mod, .bool x3.fn, .bool false, .bool hh] 66 (0, 0)), (b1, .cells #[.string ⟨#[]⟩, .int .i64 0, .bool false, .bool false, .bool false] 66 (0, 0))]) 0 rfl rfl rfl rfl siz_4 rfl rfl rfl rfl rfl hS ?_
   clear hS; intro w20 hS
   refine WL.nil (N.seq (W.seq (W.region (WL.loadN (cs := [.string x3.name, .int .i64 x16.mod, .bool x3.fn, .bool false, .bool hh]) agg_66 rfl rfl rfl rfl (hS.cells 0 (m := 5) rfl rfl) ?_))))
   refine WL.store (L' := [(b5, .cells #[.string x3.name, .int .i64 x16.mod, .bool x3.fn, .bool false, .bool hh] 66 (0, 0)), (b1, .cells #[.string x3.name, .int .i64 x16.mod, .bool x3.fn, .bool false, .bool hh] 66 (0, 0))]) 1 rfl rfl rfl rfl siz_66 rfl rfl rfl rfl rfl hS ?_
   clear hS; intro w21 hS
   refine WL.nil (N.seq ?_)
   refine Fin.retC rfl (v := .agg #[.string x3.name, .int .i64 x16.mod, .bool x3.fn, .bool false, .bool hh]) rfl (tyAgg_run agg_66 (cs := [.string x3.name, .int .i64 x16.mod, .bool x3.fn, .bool false, .bool hh]) rfl (hS.cells 1 (m := 5) rfl rfl)) ?_
   have e := rdef_strong hF1 hF2 hnos hx16 (by simp [sB9, hg17, hc18])
   exact ⟨by rw [e, hgd]; rfl, hS.below⟩
  refine W.skip (N.blk (N.seq (W.region (WL.move rfl rfl rfl ?_))))
  refine WL.add (c := (j : Int) + 1) rfl rfl rfl rfl (rfl) (by omega) ?_
  refine WL.assign rfl rfl rfl (WL.nil ?_)
  exact N.loop (j + 1) ⟨rfl, rfl, rfl, rfl, trivial⟩ ⟨hS, by omega, find_next hnos hx16 (by simp [sB9, hc15p, hg17, hc18])⟩ (by first | omega | (simp only; omega))
 have hc15p : ¬ ((j : Int) < (g.length : Int)) := by simpa using hc15
 refine W.exit (X.seq (X.loop (X.blk (N.seq (W.seq (W.region (WL.loadN (cs := [.string x3.name, .int .i64 md, .bool x3.fn, .bool true, .bool hh]) agg_66 rfl rfl rfl rfl (hS.cells 0 (m := 5) rfl rfl) ?_)))))))
 refine WL.store (L' := [(b5, .cells #[.string x3.name, .int .i64 md, .bool x3.fn, .bool true, .bool hh] 66 (0, 0)), (b1, .cells #[.string x3.name, .int .i64 md, .bool x3.fn, .bool true, .bool hh] 66 (0, 0))]) 1 rfl rfl rfl rfl siz_66 rfl rfl rfl rfl rfl hS ?_
 clear hS; intro w22 hS
 refine WL.nil (N.seq ?_)
 refine Fin.retC rfl (v := .agg #[.string x3.name, .int .i64 md, .bool x3.fn, .bool true, .bool hh]) rfl (tyAgg_run agg_66 (cs := [.string x3.name, .int .i64 md, .bool x3.fn, .bool true, .bool hh]) rfl (hS.cells 1 (m := 5) rfl rfl)) ?_
 have ej : j = g.length := by omega
 rw [ej, List.take_length] at hnos
 have e := rdef_end hF1 hF2 hnos
 exact ⟨by rw [e, hgd]; rfl, hS.below⟩

end Go.Proofs.YtapjejjmhmdmdaaDoor
