/-
  Contracts of what is right (marlineref05). No condition beyond those that each theorem states.
-/
import Derived.Test.YtcmmhfknkldmcaaDoorR5c
namespace Go.Proofs.YtcmmhfknkldmcaaDoor
open Go.RowKit
theorem fo_24_0 : fOff Tryd.prog 24 0 0 = true := by kernel_rfl
theorem fo_24_1 : fOff Tryd.prog 24 1 1 = true := by kernel_rfl
theorem fo_24_2 : fOff Tryd.prog 24 2 2 = true := by kernel_rfl
def func5 (f : DFunc) : Bool :=
  if name5 f.name = false ∨ f.bind < 1 ∨ 3 < f.bind ∨ f.params < 0 ∨ 6 < f.params ∨ 16 < f.blocks.length then false
  else match f.blocks with
  | [] => decide (f.bind ≠ 1)
  | b :: _ => decide (b.params = f.params) && f.blocks.all (block5 f)

theorem func5_ret (f : DFunc) (cf : List Value) {w : World} {ro : Nat → Prop} (hro : ∀ b, ro b → b < w.heap.size) (hx : FuncC ro w cf f) (hok : okFunc f) : Ret Tryd.prog 9 #[.agg cf.toArray] w fun v w' => v = .bool (func5 f) ∧ Below w.heap.size w w' := by
 obtain ⟨sb, rfl, hbl, hnm, hbd, hpr⟩ := id hx
 obtain ⟨adb, capb, rfl, hbka, hbkb, hbkc, hbkd⟩ := id hbl
 have hbkm : f.blocks.length ≤ 9223372036854775807 := by have h1 := hbka; have h2 := hbkb; unfold maxLen at h2; omega
 refine Ret.enter (P := Tryd.prog) (n := 64) (args := [.agg #[.string f.name, .int .i64 f.bind, .int .i64 f.params, .slice adb f.blocks.length capb]]) (σ := [(0, .agg #[.string f.name, .int .i64 f.bind, .int .i64 f.params, .slice adb f.blocks.length capb])]) Tryd.func9 rfl rfl rfl rfl ?_
 have hS := St.start (ro := ro) hro
 refine W.seq (W.region ?_)
 refine WL.box (v := .agg #[.string f.name, .int .i64 f.bind, .int .i64 f.params, .slice adb f.blocks.length capb]) (cs := [.string f.name, .int .i64 f.bind, .int .i64 f.params, .slice adb f.blocks.length capb]) rfl rfl rfl rfl hS ?_
 clear hS; intro w2 b1 hb_b1 hS
 refine WL.assign rfl rfl rfl (WL.nil (N.seq (W.seq (W.region (WL.fieldAddr fo_24_0 rfl rfl rfl (WL.load1 (v := .string f.name) one_9 rfl rfl rfl (hS.cell 0 rfl rfl) ?_))))))
 refine WL.callF (vs := [.string f.name]) Tryd.func21 (by kernel_rfl) rfl rfl rfl (name5_ret f.name hnm (ro := ro) (fun b hb => (hS.snap b hb).1)) ?_
 rintro v w3 ⟨rfl, hbl⟩
 replace hS := hS.grow hbl
 obtain ⟨un, hun⟩ : ∃ u, u = name5 f.name := ⟨_, rfl⟩
 rw [← hun]
 refine WL.assign rfl rfl rfl (WL.nil (N.seq (W.seq (W.seq (W.region (WL.move rfl rfl rfl (WL.not rfl rfl rfl (WL.move rfl rfl rfl ?_))))))))
 cases hg4 : (!un)
 ·
  refine WL.fieldAddr fo_24_1 rfl rfl rfl (WL.load1 (v := .int .i64 f.bind) one_3 rfl rfl rfl (hS.cell 0 rfl rfl) (WL.bin rfl rfl rfl rfl rfl (WL.pick (v := .bool (decide (f.bind < 1))) rfl rfl rfl rfl rfl rfl (WL.move rfl rfl rfl ?_))))
  cases hg5 : (decide (f.bind < 1))
  ·
   have hg5p : ¬ (f.bind < 1) := by simpa using hg5
   refine WL.fieldAddr fo_24_1 rfl rfl rfl (WL.load1 (v := .int .i64 f.bind) one_3 rfl rfl rfl (hS.cell 0 rfl rfl) (WL.bin rfl rfl rfl rfl rfl (WL.pick (v := .bool (decide (3 < f.bind))) rfl rfl rfl rfl rfl rfl (WL.move rfl rfl rfl ?_))))
   cases hg6 : (decide (3 < f.bind))
   ·
    have hg6p : ¬ (3 < f.bind) := by simpa using hg6
    refine WL.fieldAddr fo_24_2 rfl rfl rfl (WL.load1 (v := .int .i64 f.params) one_3 rfl rfl rfl (hS.cell 0 rfl rfl) (WL.bin rfl rfl rfl rfl rfl (WL.pick (v := .bool (decide (f.params < 0))) rfl rfl rfl rfl rfl rfl (WL.move rfl rfl rfl ?_))))
    cases hg7 : (decide (f.params < 0))
    ·
     have hg7p : ¬ (f.params < 0) := by simpa using hg7
     refine WL.fieldAddr fo_24_2 rfl rfl rfl (WL.load1 (v := .int .i64 f.params) one_3 rfl rfl rfl (hS.cell 0 rfl rfl) (WL.bin rfl rfl rfl rfl rfl (WL.pick (v := .bool (decide (6 < f.params))) rfl rfl rfl rfl rfl rfl (WL.move rfl rfl rfl ?_))))
     cases hg8 : (decide (6 < f.params))
     ·
      have hg8p : ¬ (6 < f.params) := by simpa using hg8
      refine WL.fieldAddr fo_24_3 rfl rfl rfl (WL.load1 (v := .slice adb f.blocks.length capb) one_22 rfl rfl rfl (hS.cell 0 rfl rfl) (WL.lenSlice Tryd.underlying22 rfl rfl rfl (WL.bin rfl rfl rfl rfl rfl (WL.pick (v := .bool (decide (16 < (f.blocks.length : Int)))) rfl rfl rfl rfl rfl rfl (WL.nil (N.seq ?_))))))
      refine W.cond rfl (fun hc9 => ?_) (fun hc9 => ?_)
      ·
       have hc9p : 16 < (f.blocks.length : Int) := by simpa using hc9
       refine W.seq (W.region (WL.assign rfl rfl rfl (WL.nil (N.seq ?_))))
       refine Fin.ret1 rfl (v := .bool false) rfl ?_
       have hbz := hS.below
       clear hS
       refine ⟨?_, hbz⟩
       congr 1
       rw [func5, if_pos (by clear hx hbl; rw [← hun]; first | omega | (simp_all; done) | (rintro (h | h | h | h | h | h) <;> first | omega | (simp_all; done)))]
      have hc9p : ¬ (16 < (f.blocks.length : Int)) := by simpa using hc9
      refine W.skip (N.seq (W.seq (W.seq (W.region (WL.fieldAddr fo_24_3 rfl rfl rfl (WL.load1 (v := .slice adb f.blocks.length capb) one_22 rfl rfl rfl (hS.cell 0 rfl rfl) (WL.lenSlice Tryd.underlying22 rfl rfl rfl (WL.bin rfl rfl rfl rfl rfl (WL.nil ?_)))))))))
      refine N.seq ?_
      refine W.cond rfl (fun hc10 => ?_) (fun hc10 => ?_)
      ·
       have hc10p : (f.blocks.length : Int) = 0 := by simpa using hc10
       refine W.seq (W.region (WL.fieldAddr fo_24_1 rfl rfl rfl (WL.load1 (v := .int .i64 f.bind) one_3 rfl rfl rfl (hS.cell 0 rfl rfl) (WL.bin rfl rfl rfl rfl rfl (WL.assign rfl rfl rfl (WL.nil (N.seq ?_)))))))
       refine Fin.ret1 rfl (v := .bool (!decide (f.bind = 1))) rfl ?_
       have hbz := hS.below
       clear hS
       refine ⟨?_, hbz⟩
       congr 1
       have he : f.blocks = [] := List.eq_nil_of_length_eq_zero (by omega)
       rw [func5, if_neg (by clear hx hbl; rw [← hun]; first | omega | (simp_all; done) | (rintro (h | h | h | h | h | h) <;> first | omega | (simp_all; done))), he]
       clear hx hbl; first | (simp_all; done) | (rw [Bool.eq_iff_iff]; simp only [decide_eq_true_eq, Bool.not_eq_true', decide_eq_false_iff_not]; omega)
      have hc10p : ¬ ((f.blocks.length : Int) = 0) := by simpa using hc10
      refine W.skip (N.seq (W.seq (W.seq ?_)))
      have hj11 : 0 < f.blocks.length := by omega
      obtain ⟨x11, hx11, b11, o11, cs11, hE11, hr11, _, hc11, hQ11⟩ := opn hbkd hj11
      obtain ⟨si11, tsx11, rfl, hin11, hfin11, hpar11⟩ := id hQ11
      obtain ⟨adi11, capi11, rfl, hin11a, hin11b, hin11c, hin11d⟩ := id hin11
      have hin11m : x11.ins.length ≤ 9223372036854775807 := by have h1 := hin11a; have h2 := hin11b; unfold maxLen at h2; omega
      obtain ⟨sp11, sq11, rfl, ht111, ht211, htk11, hta11, htt11, hte11⟩ := id hfin11
      obtain ⟨adp11, capp11, rfl, htp11a, htp11b, htp11c, htp11d⟩ := id ht111
      have htp11m : x11.fin.args.length ≤ 9223372036854775807 := by have h1 := htp11a; have h2 := htp11b; unfold maxLen at h2; omega
      obtain ⟨adq11, capq11, rfl, htq11a, htq11b, htq11c, htq11d⟩ := id ht211
      have htq11m : x11.fin.elses.length ≤ 9223372036854775807 := by have h1 := htq11a; have h2 := htq11b; unfold maxLen at h2; omega
      refine W.drawL (by kernel_rfl) 8 ((.q (.pointer (some ⟨b1, 3, none⟩))) :: (.q (.slice adb f.blocks.length capb)) :: (.q (.pointer (some ⟨b11, o11 + 0 * 8, none⟩))) :: (.q (.pointer (some ⟨b11, o11 + 0 * 8, none⟩))) :: (.q (.int .i64 x11.params)) :: (.q (.pointer (some ⟨b1, 2, none⟩))) :: (.q (.int .i64 f.params)) :: (.q (.bool (!decide (x11.params = f.params)))) :: []) (by kernel_rfl) (by kernel_rfl) [(1, .pointer (some ⟨b1, 0, none⟩)), (2, .bool false)] ⟨rfl, rfl, trivial⟩ (by kernel_rfl) hS ?_ ?_
      ·
       refine And.intro (fun β w hS => ?_) ?_
       ·
        refine WL.sub (σ' := [(1, .pointer (some ⟨b1, 0, none⟩))]) ⟨rfl, trivial⟩ ?_
        refine WL.fieldAddr fo_24_3 rfl rfl rfl ?_
        exact WL.nil (N.cut () ⟨rfl, trivial⟩ (Below.refl _ _))
       refine And.intro (fun β w hS => ?_) ?_
       ·
        refine WL.sub (σ' := [(44, .pointer (some ⟨b1, 3, none⟩))]) ⟨rfl, trivial⟩ ?_
        refine WL.load1 (v := .slice adb f.blocks.length capb) one_22 rfl rfl rfl (hS.cell 0 rfl rfl) ?_
        exact WL.nil (N.cut () ⟨rfl, trivial⟩ (Below.refl _ _))
       refine And.intro (fun β w hS => ?_) ?_
       ·
        refine WL.sub (σ' := [(45, .slice adb f.blocks.length capb)]) ⟨rfl, trivial⟩ ?_
        refine WL.indexAddrE (j := 0) Tryd.underlying22 isz_59 rfl rfl rfl rfl hj11 hE11 ?_
        exact WL.nil (N.cut () ⟨rfl, trivial⟩ (Below.refl _ _))
       refine And.intro (fun β w hS => ?_) ?_
       ·
        refine WL.sub (σ' := [(46, .pointer (some ⟨b11, o11 + 0 * 8, none⟩))]) ⟨rfl, trivial⟩ ?_
        refine WL.fieldAddr fo_59_0 rfl rfl rfl ?_
        exact WL.nil (N.cut () ⟨rfl, trivial⟩ (Below.refl _ _))
       refine And.intro (fun β w hS => ?_) ?_
       ·
        refine WL.sub (σ' := [(47, .pointer (some ⟨b11, o11 + 0 * 8, none⟩))]) ⟨rfl, trivial⟩ ?_
        refine WL.load1 (v := .int .i64 x11.params) one_3 rfl rfl rfl (hS.roCells hr11 hc11 0 _ rfl) ?_
        exact WL.nil (N.cut () ⟨rfl, trivial⟩ (Below.refl _ _))
       refine And.intro (fun β w hS => ?_) ?_
       ·
        refine WL.sub (σ' := [(1, .pointer (some ⟨b1, 0, none⟩))]) ⟨rfl, trivial⟩ ?_
        refine WL.fieldAddr fo_24_2 rfl rfl rfl ?_
        exact WL.nil (N.cut () ⟨rfl, trivial⟩ (Below.refl _ _))
       refine And.intro (fun β w hS => ?_) ?_
       ·
        refine WL.sub (σ' := [(49, .pointer (some ⟨b1, 2, none⟩))]) ⟨rfl, trivial⟩ ?_
        refine WL.load1 (v := .int .i64 f.params) one_3 rfl rfl rfl (hS.cell 0 rfl rfl) ?_
        exact WL.nil (N.cut () ⟨rfl, trivial⟩ (Below.refl _ _))
       refine And.intro (fun β w hS => ?_) ?_
       ·
        refine WL.sub (σ' := [(48, .int .i64 x11.params), (50, .int .i64 f.params)]) ⟨rfl, rfl, trivial⟩ ?_
        refine WL.bin rfl rfl rfl rfl rfl ?_
        exact WL.nil (N.cut () ⟨rfl, trivial⟩ (Below.refl _ _))
       trivial
      clear hS; intro w12 β hS
      refine WL.sub (σ' := [(1, .pointer (some ⟨b1, 0, none⟩)), (2, .bool false), (51, .bool (!decide (x11.params = f.params)))]) ⟨rfl, rfl, rfl, trivial⟩ ?_
      refine WL.nil (N.seq ?_)
      refine W.cond rfl (fun hc13 => ?_) (fun hc13 => ?_)
      ·
       have hc13p : ¬ (x11.params = f.params) := by simpa using hc13
       refine W.seq (W.region (WL.assign rfl rfl rfl (WL.nil (N.seq ?_))))
       refine Fin.ret1 rfl (v := .bool false) rfl ?_
       have hbz := hS.below
       clear hS
       refine ⟨?_, hbz⟩
       congr 1
       obtain ⟨b0, r0, he⟩ : ∃ b r, f.blocks = b :: r := by
                  cases e : f.blocks with
                  | nil => rw [e] at hx11; simp at hx11
                  | cons b r => exact ⟨b, r, rfl⟩
       have hb0 : b0 = x11 := by rw [he] at hx11; simpa using hx11
       subst hb0
       have hf : func5 f = (decide (b0.params = f.params) && f.blocks.all (block5 f)) := by
                  rw [func5, if_neg (by clear hx hbl; rw [← hun]; first | omega | (simp_all; done) | (rintro (h | h | h | h | h | h) <;> first | omega | (simp_all; done)))]
                  split
                  ·
                   rename_i e; rw [he] at e; cases e
                  rename_i e; rw [he] at e; cases e; rfl
       rw [hf]
       rw [decide_eq_false (by omega)]; rfl
      have hc13p : x11.params = f.params := by simpa using hc13
      refine W.skip (N.seq (W.seq (W.seq (W.region (WL.assign rfl rfl rfl (WL.nil (N.seq (W.block ?_))))))))
      refine W.loop (α := Nat) (fun (k : Nat) => [(1, .pointer (some ⟨b1, 0, none⟩)), (4, .int .i64 (k : Int))]) (fun (k : Nat) u => St w w u ro [(b1, .cells #[.string f.name, .int .i64 f.bind, .int .i64 f.params, .slice adb f.blocks.length capb] 24 (0, 0))] [] ∧ k ≤ f.blocks.length ∧ (f.blocks.take k).all (block5 f) = true) (fun (k : Nat) => f.blocks.length - k) 0 ⟨rfl, rfl, trivial⟩ ⟨hS, Nat.zero_le _, by simp⟩ ?_
      clear hS
      rintro k w14 ⟨hS, hk, htk⟩
      refine W.seq (W.seq (W.region (WL.move rfl rfl rfl (WL.fieldAddr fo_24_3 rfl rfl rfl (WL.load1 (v := .slice adb f.blocks.length capb) one_22 rfl rfl rfl (hS.cell 0 rfl rfl) (WL.lenSlice Tryd.underlying22 rfl rfl rfl (WL.bin rfl rfl rfl rfl rfl (WL.nil (N.seq ?_)))))))))
      refine W.cond rfl (fun hc15 => ?_) (fun hc15 => ?_)
      ·
       have hc15p : (k : Int) < (f.blocks.length : Int) := by simpa using hc15
       refine W.skip (N.seq (W.seq (W.block (W.seq (W.region (WL.loadN (cs := [.string f.name, .int .i64 f.bind, .int .i64 f.params, .slice adb f.blocks.length capb]) agg_24 rfl rfl rfl rfl (hS.cells 0 (m := 4) rfl rfl) (WL.move rfl rfl rfl ?_)))))))
       refine WL.callF (vs := [.agg #[.string f.name, .int .i64 f.bind, .int .i64 f.params, .slice adb f.blocks.length capb], .int .i64 (k : Int)]) Tryd.func22 (by kernel_rfl) rfl rfl rfl (block5_ret f _ k (ro := ro) (fun b hb => (hS.snap b hb).1) (FuncC.keep hx hS.alike) hok (by omega)) ?_
       rintro v w17 ⟨b16, hb16, rfl, hbl⟩
       replace hS := hS.grow hbl
       refine WL.assign rfl rfl rfl (WL.nil (N.seq (W.seq (W.region (WL.move rfl rfl rfl (WL.not rfl rfl rfl (WL.nil (N.seq ?_))))))))
       refine W.cond rfl (fun hc18 => ?_) (fun hc18 => ?_)
       ·
        refine W.seq (W.region (WL.assign rfl rfl rfl (WL.nil (N.seq ?_))))
        refine Fin.ret1 rfl (v := .bool false) rfl ?_
        have hbz := hS.below
        clear hS
        refine ⟨?_, hbz⟩
        congr 1
        obtain ⟨b0, r0, he⟩ : ∃ b r, f.blocks = b :: r := by
                     cases e : f.blocks with
                     | nil => rw [e] at hx11; simp at hx11
                     | cons b r => exact ⟨b, r, rfl⟩
        have hb0 : b0 = x11 := by rw [he] at hx11; simpa using hx11
        subst hb0
        have hf : func5 f = (decide (b0.params = f.params) && f.blocks.all (block5 f)) := by
                     rw [func5, if_neg (by clear hx hbl; rw [← hun]; first | omega | (simp_all; done) | (rintro (h | h | h | h | h | h) <;> first | omega | (simp_all; done)))]
                     split
                     ·
                      rename_i e; rw [he] at e; cases e
                     rename_i e; rw [he] at e; cases e; rfl
        rw [hf]
        have hn : f.blocks.all (block5 f) = false := by rw [List.all_eq_false]; exact ⟨b16, List.mem_of_getElem? hb16, by simpa using hc18⟩
        rw [hn, Bool.and_false]
       refine W.skip (N.blk (N.seq (W.region (WL.move rfl rfl rfl ?_))))
       refine WL.add (c := (k : Int) + 1) rfl rfl rfl rfl (rfl) (by omega) ?_
       refine WL.assign rfl rfl rfl (WL.nil ?_)
       have htk2 : (f.blocks.take (k + 1)).all (block5 f) = true := by rw [take_next hb16, List.all_append, htk]; simpa using hc18
       exact N.loop (k + 1) ⟨rfl, rfl, trivial⟩ ⟨hS, by omega, htk2⟩ (by first | omega | (simp only; omega))
      have hc15p : ¬ ((k : Int) < (f.blocks.length : Int)) := by simpa using hc15
      refine W.exit (X.seq (X.loop (X.blk (N.seq (W.seq (W.region (WL.assign rfl rfl rfl (WL.nil (N.seq ?_)))))))))
      refine Fin.ret1 rfl (v := .bool true) rfl ?_
      have hbz := hS.below
      clear hS
      refine ⟨?_, hbz⟩
      congr 1
      obtain ⟨b0, r0, he⟩ : ∃ b r, f.blocks = b :: r := by
                  cases e : f.blocks with
                  | nil => rw [e] at hx11; simp at hx11
                  | cons b r => exact ⟨b, r, rfl⟩
      have hb0 : b0 = x11 := by rw [he] at hx11; simpa using hx11
      subst hb0
      have hf : func5 f = (decide (b0.params = f.params) && f.blocks.all (block5 f)) := by
                  rw [func5, if_neg (by clear hx hbl; rw [← hun]; first | omega | (simp_all; done) | (rintro (h | h | h | h | h | h) <;> first | omega | (simp_all; done)))]
                  split
                  ·
                   rename_i e; rw [he] at e; cases e
                  rename_i e; rw [he] at e; cases e; rfl
      rw [hf]
      have hke : k = f.blocks.length := by omega
      rw [hke, List.take_length] at htk
      rw [htk, decide_eq_true (by omega)]; rfl
     have hg8p : 6 < f.params := by simpa using hg8
     refine WL.skp rfl rfl (WL.skp rfl rfl (WL.skp rfl rfl (WL.skp rfl rfl (WL.pick (v := .bool true) rfl rfl rfl rfl rfl rfl (WL.nil (N.seq (W.condT rfl (W.seq (W.region ?_)))))))))
     refine WL.assign rfl rfl rfl (WL.nil (N.seq ?_))
     refine Fin.ret1 rfl (v := .bool false) rfl ?_
     have hbz := hS.below
     clear hS
     refine ⟨?_, hbz⟩
     congr 1
     rw [func5, if_pos (by clear hx hbl; rw [← hun]; first | omega | (simp_all; done) | (rintro (h | h | h | h | h | h) <;> first | omega | (simp_all; done)))]
    have hg7p : f.params < 0 := by simpa using hg7
    refine WL.skp rfl rfl (WL.skp rfl rfl (WL.skp rfl rfl (WL.pick (v := .bool true) rfl rfl rfl rfl rfl rfl (WL.move rfl rfl rfl (WL.skp rfl rfl (WL.skp rfl rfl (WL.skp rfl rfl (WL.skp rfl rfl (WL.pick (v := .bool true) rfl rfl rfl rfl rfl rfl ?_)))))))))
    refine WL.nil (N.seq (W.condT rfl (W.seq (W.region (WL.assign rfl rfl rfl (WL.nil (N.seq ?_)))))))
    refine Fin.ret1 rfl (v := .bool false) rfl ?_
    have hbz := hS.below
    clear hS
    refine ⟨?_, hbz⟩
    congr 1
    rw [func5, if_pos (by clear hx hbl; rw [← hun]; first | omega | (simp_all; done) | (rintro (h | h | h | h | h | h) <;> first | omega | (simp_all; done)))]
   have hg6p : 3 < f.bind := by simpa using hg6
   refine WL.skp rfl rfl (WL.skp rfl rfl (WL.skp rfl rfl (WL.pick (v := .bool true) rfl rfl rfl rfl rfl rfl (WL.move rfl rfl rfl (WL.skp rfl rfl (WL.skp rfl rfl (WL.skp rfl rfl (WL.pick (v := .bool true) rfl rfl rfl rfl rfl rfl (WL.move rfl rfl rfl ?_)))))))))
   refine WL.skp rfl rfl (WL.skp rfl rfl (WL.skp rfl rfl (WL.skp rfl rfl (WL.pick (v := .bool true) rfl rfl rfl rfl rfl rfl (WL.nil (N.seq (W.condT rfl (W.seq (W.region ?_)))))))))
   refine WL.assign rfl rfl rfl (WL.nil (N.seq ?_))
   refine Fin.ret1 rfl (v := .bool false) rfl ?_
   have hbz := hS.below
   clear hS
   refine ⟨?_, hbz⟩
   congr 1
   rw [func5, if_pos (by clear hx hbl; rw [← hun]; first | omega | (simp_all; done) | (rintro (h | h | h | h | h | h) <;> first | omega | (simp_all; done)))]
  have hg5p : f.bind < 1 := by simpa using hg5
  refine WL.skp rfl rfl (WL.skp rfl rfl (WL.skp rfl rfl (WL.pick (v := .bool true) rfl rfl rfl rfl rfl rfl (WL.move rfl rfl rfl (WL.skp rfl rfl (WL.skp rfl rfl (WL.skp rfl rfl (WL.pick (v := .bool true) rfl rfl rfl rfl rfl rfl (WL.move rfl rfl rfl ?_)))))))))
  refine WL.skp rfl rfl (WL.skp rfl rfl (WL.skp rfl rfl (WL.pick (v := .bool true) rfl rfl rfl rfl rfl rfl (WL.move rfl rfl rfl (WL.skp rfl rfl (WL.skp rfl rfl (WL.skp rfl rfl (WL.skp rfl rfl (WL.pick (v := .bool true) rfl rfl rfl rfl rfl rfl ?_)))))))))
  refine WL.nil (N.seq (W.condT rfl (W.seq (W.region (WL.assign rfl rfl rfl (WL.nil (N.seq ?_)))))))
  refine Fin.ret1 rfl (v := .bool false) rfl ?_
  have hbz := hS.below
  clear hS
  refine ⟨?_, hbz⟩
  congr 1
  rw [func5, if_pos (by clear hx hbl; rw [← hun]; first | omega | (simp_all; done) | (rintro (h | h | h | h | h | h) <;> first | omega | (simp_all; done)))]
 refine WL.skp rfl rfl (WL.skp rfl rfl (WL.skp rfl rfl (WL.pick (v := .bool true) rfl rfl rfl rfl rfl rfl (WL.move rfl rfl rfl (WL.skp rfl rfl (WL.skp rfl rfl (WL.skp rfl rfl (WL.pick (v := .bool true) rfl rfl rfl rfl rfl rfl (WL.move rfl rfl rfl ?_)))))))))
 refine WL.skp rfl rfl (WL.skp rfl rfl (WL.skp rfl rfl (WL.pick (v := .bool true) rfl rfl rfl rfl rfl rfl (WL.move rfl rfl rfl (WL.skp rfl rfl (WL.skp rfl rfl (WL.skp rfl rfl (WL.pick (v := .bool true) rfl rfl rfl rfl rfl rfl (WL.move rfl rfl rfl ?_)))))))))
 refine WL.skp rfl rfl (WL.skp rfl rfl (WL.skp rfl rfl (WL.skp rfl rfl (WL.pick (v := .bool true) rfl rfl rfl rfl rfl rfl (WL.nil (N.seq (W.condT rfl (W.seq (W.region ?_)))))))))
 refine WL.assign rfl rfl rfl (WL.nil (N.seq ?_))
 refine Fin.ret1 rfl (v := .bool false) rfl ?_
 have hbz := hS.below
 clear hS
 refine ⟨?_, hbz⟩
 congr 1
 rw [func5, if_pos (by clear hx hbl; rw [← hun]; first | omega | (simp_all; done) | (rintro (h | h | h | h | h | h) <;> first | omega | (simp_all; done)))]

end Go.Proofs.YtcmmhfknkldmcaaDoor
