/-
  Contracts of layer 10 (merge). No condition beyond those that each theorem states.
-/
import Derived.Test.YtapjejjmhmdmdaaDoorZ4
namespace Go.Proofs.YtapjejjmhmdmdaaDoor
open Go.RowKit
theorem isz_40 : (Tryd.prog.info? 40).map (·.size) = some 1 := by kernel_rfl
set_option maxRecDepth 10000 in
set_option maxHeartbeats 4000000 in
theorem mergeApart_ret (ms : List DMod) (vx : Value) {w : World} {ro : Nat → Prop} (hro : ∀ b, ro b → b < w.heap.size) (hx : SlV ro w 2 (ModC ro w) vx ms) (hpw : PowT ro w) (hokm : ∀ m ∈ ms, okMod m) : Ret Tryd.prog 3 #[vx] w fun v w' => v = .bool true ∧ Below w.heap.size w w' := by
 have hxo := hx
 obtain ⟨adl, capl, rfl, hla, hlb, hlc, hld⟩ := hxo
 have hlm : ms.length ≤ 9223372036854775807 := slv_len hx
 refine Ret.enter (P := Tryd.prog) (n := 161) (args := [.slice adl ms.length capl]) (σ := [(0, .slice adl ms.length capl)]) Tryd.func3 rfl rfl rfl rfl ?_
 have hS := St.start (ro := ro) hro
 have hsub : ∀ b, ro b → ro b ∨ w.heap.size ≤ b := fun _ h => .inl h
 have halT : Alike ro w ro w := Alike.refl
 refine W.seq ?_
 refine W.region ?_
 refine WL.assign rfl rfl rfl ?_
 refine WL.nil ?_
 refine N.seq ?_
 refine W.seq ?_
 refine W.region ?_
 refine WL.callF (vs := []) Tryd.func9 (by kernel_rfl) rfl rfl rfl (shown10_ret (ro := ro) (fun b hb => (hS.snap b hb).1) (hpw.keep hS.alike)) ?_
 rintro v w1 ⟨rfl, hbl⟩
 replace hS := hS.grow hbl
 refine WL.assign rfl rfl rfl ?_
 refine WL.nil ?_
 refine N.seq ?_
 refine W.seq ?_
 refine W.region ?_
 refine WL.move rfl rfl rfl ?_
 refine WL.callF (vs := [.slice adl ms.length capl]) Tryd.func10 (by kernel_rfl) rfl rfl rfl (right10_ret ms _ (ro := ro) (fun b hb => (hS.snap b hb).1) (SlV.keep hx hS.alike (fun _ _ q => q.keep hS.alike)) hokm) ?_
 rintro v w2 ⟨rfl, hbl⟩
 replace hS := hS.grow hbl
 refine WL.assign rfl rfl rfl ?_
 refine WL.nil ?_
 refine N.seq ?_
 refine W.seq ?_
 refine W.seq ?_
 refine W.region ?_
 refine WL.move rfl rfl rfl ?_
 refine WL.not rfl rfl rfl ?_
 refine WL.move rfl rfl rfl ?_
 rcases (Bool.eq_false_or_eq_true (!(ms.all fun m => decide (check5 m = 0)))).symm with hg3 | hg3
 ·
  refine WL.set 20 (v' := .bool false) rfl (by rw [hg3]) ?_
  refine WL.set 21 (v' := .bool false) rfl (by rw [hg3]) ?_
  refine WL.move rfl rfl rfl ?_
  refine WL.lenSlice Tryd.underlying22 rfl rfl rfl ?_
  refine WL.bin rfl rfl rfl rfl rfl ?_
  refine WL.pick (v := .bool (decide (16 < (ms.length : Int)))) rfl rfl rfl rfl rfl rfl ?_
  refine WL.nil ?_
  refine N.seq ?_
  refine W.cond rfl (fun hc4 => ?_) (fun hc4 => ?_)
  ·
   have hc4p : 16 < (ms.length : Int) := by simpa using hc4
   refine W.seq ?_
   refine W.region ?_
   refine WL.move rfl rfl rfl ?_
   refine WL.assign rfl rfl rfl ?_
   refine WL.nil ?_
   refine N.seq ?_
   refine Fin.ret1 rfl (v := .bool true) rfl ?_
   exact ⟨rfl, hS.below⟩
  have hc4p : ¬ (16 < (ms.length : Int)) := by simpa using hc4
  refine W.skip ?_
  refine N.seq ?_
  refine W.seq ?_
  refine W.region ?_
  refine WL.move rfl rfl rfl ?_
  have hrt : ∀ m ∈ ms, check5 m = 0 := fun m hm => by have h := hg3; simp only [Bool.not_eq_false', Bool.not_eq_true, List.all_eq_true, decide_eq_true_eq, Bool.not_eq_true', Bool.not_eq_false] at h; exact h m hm
  have hml : ms.length ≤ 16 := by omega
  have hit : ∀ m ∈ ms, (its10 m).length ≤ 32 := fun m hm => its_small (hrt m hm)
  have hmx : (items9 ms).length ≤ 1048576 := Nat.le_trans (items_few hrt hml) (by decide)
  have hns := fun x hx9 => (items_ok hx x hx9).1
  refine WL.callF (vs := [.slice adl ms.length capl]) Tryd.func11 (by kernel_rfl) rfl rfl rfl (rNames_ret ms _ (ro := ro) (fun b hb => (hS.snap b hb).1) (SlV.keep hx hS.alike (fun _ _ q => q.keep hS.alike)) hmx) ?_
  rintro vn w5 ⟨hnv, hbl⟩
  have hal6 := hS.alikeTo hbl (ro' := (roFrom ro w2 w5)) (fun b hb => .inl hb)
  replace hsub : ∀ b, (roFrom ro w2 w5) b → ro b ∨ w.heap.size ≤ b := fun b hb => hb.elim (hsub b) (fun h => .inr (Nat.le_trans hS.below.size h.1))
  replace halT := halT.trans hal6
  replace hld : Elems (roFrom ro w2 w5) w5 2 (ModC (roFrom ro w2 w5) w5) adl ms := hld.keep hal6 (fun _ _ h => h.keep hal6)
  replace hx : SlV (roFrom ro w2 w5) w5 2 (ModC (roFrom ro w2 w5) w5) (.slice adl ms.length capl) ms := SlV.keep hx hal6 (fun _ _ h => h.keep hal6)
  replace hpw := hpw.keep hal6
  replace hS := hS.readNew hbl
  obtain ⟨ns, hns2⟩ : ∃ ns, ns = nms9 (items9 ms) := ⟨_, rfl⟩
  rw [← hns2] at hnv
  replace hnv := SlV.keep hnv (ro' := (roFrom ro w2 w5)) (w' := w5) (Q' := StrC) (fun x hx => ⟨.inr hx, rfl⟩) (fun _ _ h => h)
  obtain ⟨adn, capn, rfl, hna, hnb, hnc, hnd⟩ := id hnv
  have hnm : ns.length ≤ 9223372036854775807 := by have h1 := hna; have h2 := hnb; unfold maxLen at h2; omega
  refine WL.assign rfl rfl rfl ?_
  refine WL.nil ?_
  refine N.seq ?_
  refine W.seq ?_
  refine W.region ?_
  refine WL.move rfl rfl rfl ?_
  refine WL.callF (vs := [.slice adl ms.length capl]) Tryd.func12 (by kernel_rfl) rfl rfl rfl (names10_ret ms _ (ro := (roFrom ro w2 w5)) (fun b hb => (hS.snap b hb).1) (SlV.keep hx hS.alike (fun _ _ q => q.keep hS.alike)) (hpw.keep hS.alike) hml hit hmx hns) ?_
  rintro va w7 ⟨hav, hbl⟩
  have hal8 := hS.alikeTo hbl (ro' := (roFrom (roFrom ro w2 w5) w5 w7)) (fun b hb => .inl hb)
  replace hsub : ∀ b, (roFrom (roFrom ro w2 w5) w5 w7) b → ro b ∨ w.heap.size ≤ b := fun b hb => hb.elim (hsub b) (fun h => .inr (Nat.le_trans hS.below.size h.1))
  replace halT := halT.trans hal8
  replace hld : Elems (roFrom (roFrom ro w2 w5) w5 w7) w7 2 (ModC (roFrom (roFrom ro w2 w5) w5 w7) w7) adl ms := hld.keep hal8 (fun _ _ h => h.keep hal8)
  replace hx : SlV (roFrom (roFrom ro w2 w5) w5 w7) w7 2 (ModC (roFrom (roFrom ro w2 w5) w5 w7) w7) (.slice adl ms.length capl) ms := SlV.keep hx hal8 (fun _ _ h => h.keep hal8)
  replace hpw := hpw.keep hal8
  replace hnd : Elems (roFrom (roFrom ro w2 w5) w5 w7) w7 1 StrC adn ns := hnd.keep hal8 (fun _ _ h => h)
  replace hnv : SlV (roFrom (roFrom ro w2 w5) w5 w7) w7 1 StrC (.slice adn ns.length capn) ns := SlV.keep hnv hal8 (fun _ _ h => h)
  replace hS := hS.readNew hbl
  obtain ⟨gs, hgs2⟩ : ∃ gs, gs = (nam10 ns ms).1 := ⟨_, rfl⟩
  rw [← hns2, ← hgs2] at hav
  obtain ⟨ada, capa, rfl, haa, hab, hac, had⟩ := id hav
  have ham : gs.length ≤ 9223372036854775807 := by have h1 := haa; have h2 := hab; unfold maxLen at h2; omega
  have hnl : ns.length ≤ 1048576 := by rw [hns2]; exact Nat.le_trans (nms9_length _) hmx
  have hgl : gs.length = ms.length := by rw [hgs2]; exact (nam10_num hnl ms hit).2
  refine WL.assign rfl rfl rfl ?_
  refine WL.nil ?_
  refine N.seq ?_
  refine W.seq ?_
  refine W.seq ?_
  refine W.region ?_
  refine WL.move rfl rfl rfl ?_
  refine WL.lenSlice Tryd.underlying27 rfl rfl rfl ?_
  refine WL.move rfl rfl rfl ?_
  refine WL.lenSlice Tryd.underlying22 rfl rfl rfl ?_
  refine WL.bin rfl rfl rfl rfl rfl ?_
  refine WL.set 35 (v' := .bool false) rfl (by rw [hgl]; simp) ?_
  refine WL.nil ?_
  refine N.seq ?_
  refine W.condF rfl ?_
  refine W.skip ?_
  refine N.seq ?_
  refine W.seq ?_
  refine W.region ?_
  refine WL.assign rfl rfl rfl ?_
  refine WL.nil ?_
  refine N.seq ?_
  refine W.seq ?_
  refine W.seq ?_
  refine W.region ?_
  refine WL.assign rfl rfl rfl ?_
  refine WL.nil ?_
  refine N.seq ?_
  refine W.block ?_
  replace hS := hS.row0 9 1
  refine W.loop (α := Nat × Value × List Value × Nat × List ByteArray) (fun ⟨i, v, cs, q, hs⟩ => [(0, .slice adl ms.length capl), (3, .bool true), (4, .bool (ms.all fun m => decide (check5 m = 0))), (5, .slice adn ns.length capn), (6, .slice ada gs.length capa), (7, v), (8, .int .i64 (i : Int)), (16, .bool true), (17, .slice adl ms.length capl), (18, .bool (ms.all fun m => decide (check5 m = 0))), (19, .bool (ms.all fun m => decide (check5 m = 0))), (20, .bool false), (21, .bool false), (22, .slice adl ms.length capl), (23, .int .i64 (ms.length : Int)), (24, .bool (decide (16 < (ms.length : Int)))), (25, .bool (decide (16 < (ms.length : Int)))), (27, .slice adl ms.length capl), (28, .slice adn ns.length capn), (29, .slice adl ms.length capl), (30, .slice ada gs.length capa), (31, .slice ada gs.length capa), (32, .int .i64 (gs.length : Int)), (33, .slice adl ms.length capl), (34, .int .i64 (ms.length : Int)), (35, .bool false)]) (fun ⟨i, v, cs, q, hs⟩ u => St w w7 u (roFrom (roFrom ro w2 w5) w5 w7) [] [⟨v, 9, 1, q, cs⟩] ∧ i ≤ ms.length ∧ Chunks 1 StrC cs hs ∧ q = hs.length ∧ q ≤ i * 32 ∧ ∀ s ∈ hs, ∃ j, s = dot10 j ∧ j < (nam10 ns (ms.take i)).2) (fun ⟨i, v, cs, q, hs⟩ => ms.length - i) (0, (.slice none 0 0), [], 0, []) ⟨rfl, rfl, rfl, rfl, rfl, rfl, rfl, rfl, rfl, rfl, rfl, rfl, rfl, rfl, rfl, rfl, rfl, rfl, rfl, rfl, rfl, rfl, rfl, rfl, rfl, rfl, trivial⟩ ⟨hS, Nat.zero_le _, Chunks.nil, rfl, Nat.zero_le _, fun s hs => by cases hs⟩ ?_
  clear hS
  rintro ⟨i, v, cs, q, hs⟩ w9 ⟨hS, hi, hch, hq, hqi, hhs⟩
  have hrow : w9.ownsRow w.heap.size 9 1 v (q) _ := hS.rows _ List.mem_cons_self
  obtain ⟨adv, capv, rfl, hr1v, hr2v, hr3v⟩ := row_shape hrow
  clear hrow
  refine W.seq ?_
  refine W.seq ?_
  refine W.region ?_
  refine WL.move rfl rfl rfl ?_
  refine WL.move rfl rfl rfl ?_
  refine WL.lenSlice Tryd.underlying22 rfl rfl rfl ?_
  refine WL.bin rfl rfl rfl rfl rfl ?_
  refine WL.nil ?_
  refine N.seq ?_
  refine W.cond rfl (fun hc10 => ?_) (fun hc10 => ?_)
  ·
   have hc10p : (i : Int) < (ms.length : Int) := by simpa using hc10
   refine W.skip ?_
   refine N.seq ?_
   refine W.seq ?_
   refine W.block ?_
   refine W.seq ?_
   refine W.region ?_
   refine WL.assign rfl rfl rfl ?_
   refine WL.nil ?_
   refine N.seq ?_
   refine W.block ?_
   have hj11 : i < ms.length := by omega
   obtain ⟨x11, hx11⟩ : ∃ zz, ms[i]? = some zz := ⟨_, List.getElem?_eq_getElem hj11⟩
   obtain ⟨b11, o11, cs11, hE11, hr11, hl11, hc11, hQ11⟩ := hld i _ hx11
   obtain ⟨sf11, sg11, rfl, hfs11, hgs11⟩ := id hQ11
   obtain ⟨adf11, capf11, rfl, hfs11a, hfs11b, hfs11c, hfs11d⟩ := id hfs11
   have hfs11m : x11.funcs.length ≤ 9223372036854775807 := by have h1 := hfs11a; have h2 := hfs11b; unfold maxLen at h2; omega
   obtain ⟨adg11, capg11, rfl, hgs11a, hgs11b, hgs11c, hgs11d⟩ := id hgs11
   have hgs11m : x11.globs.length ≤ 9223372036854775807 := by have h1 := hgs11a; have h2 := hgs11b; unfold maxLen at h2; omega
   have hkl := hit x11 (List.mem_of_getElem? hx11)
   rw [its_len] at hkl
   refine W.loop (α := Nat × Value × List Value × Nat × List ByteArray) (fun ⟨k, v1, cs1, q1, hs1⟩ => [(0, .slice adl ms.length capl), (3, .bool true), (4, .bool (ms.all fun m => decide (check5 m = 0))), (5, .slice adn ns.length capn), (6, .slice ada gs.length capa), (7, v1), (8, .int .i64 (i : Int)), (9, .int .i64 (k : Int)), (16, .bool true), (17, .slice adl ms.length capl), (18, .bool (ms.all fun m => decide (check5 m = 0))), (19, .bool (ms.all fun m => decide (check5 m = 0))), (20, .bool false), (21, .bool false), (22, .slice adl ms.length capl), (23, .int .i64 (ms.length : Int)), (24, .bool (decide (16 < (ms.length : Int)))), (25, .bool (decide (16 < (ms.length : Int)))), (27, .slice adl ms.length capl), (28, .slice adn ns.length capn), (29, .slice adl ms.length capl), (30, .slice ada gs.length capa), (31, .slice ada gs.length capa), (32, .int .i64 (gs.length : Int)), (33, .slice adl ms.length capl), (34, .int .i64 (ms.length : Int)), (35, .bool false), (36, .int .i64 (i : Int)), (37, .slice adl ms.length capl), (38, .int .i64 (ms.length : Int)), (39, .bool (decide ((i : Int) < (ms.length : Int))))]) (fun ⟨k, v1, cs1, q1, hs1⟩ u => St w w7 u (roFrom (roFrom ro w2 w5) w5 w7) [] [⟨v1, 9, 1, q1, cs1⟩] ∧ k ≤ x11.funcs.length + x11.globs.length ∧ Chunks 1 StrC cs1 hs1 ∧ q1 = hs1.length ∧ q1 ≤ i * 32 + k ∧ ∀ s ∈ hs1, ∃ j, s = dot10 j ∧ j < (mod10 ns (nam10 ns (ms.take i)).2 ((its10 x11).take k)).2) (fun ⟨k, v1, cs1, q1, hs1⟩ => x11.funcs.length + x11.globs.length - k) (0, .slice adv q capv, cs, q, hs) ⟨rfl, rfl, rfl, rfl, rfl, rfl, rfl, rfl, rfl, rfl, rfl, rfl, rfl, rfl, rfl, rfl, rfl, rfl, rfl, rfl, rfl, rfl, rfl, rfl, rfl, rfl, rfl, rfl, rfl, rfl, rfl, trivial⟩ ⟨hS, Nat.zero_le _, hch, hq, by omega, hhs⟩ ?_
   clear hS
   rintro ⟨k, v1, cs1, q1, hs1⟩ w12 ⟨hS, hk, hch1, hq1, hqi1, hhs1⟩
   have hrow : w12.ownsRow w.heap.size 9 1 v1 (q1) _ := hS.rows _ List.mem_cons_self
   obtain ⟨adv1, capv1, rfl, hr1v1, hr2v1, hr3v1⟩ := row_shape hrow
   clear hrow
   refine W.seq ?_
   refine W.seq ?_
   refine W.drawL (by kernel_rfl) 15 ((.q (.int .i64 (k : Int))) :: (.q (.slice adl ms.length capl)) :: (.q (.int .i64 (i : Int))) :: (.q (.pointer (some ⟨b11, o11 + i * 2, none⟩))) :: (.q (.pointer (some ⟨b11, o11 + i * 2, none⟩))) :: (.q (.slice adf11 x11.funcs.length capf11)) :: (.q (.int .i64 (x11.funcs.length : Int))) :: (.q (.slice adl ms.length capl)) :: (.q (.int .i64 (i : Int))) :: (.q (.pointer (some ⟨b11, o11 + i * 2, none⟩))) :: (.q (.pointer (some ⟨b11, o11 + i * 2 + 1, none⟩))) :: (.q (.slice adg11 x11.globs.length capg11)) :: (.q (.int .i64 (x11.globs.length : Int))) :: (.q (.int .i64 ((x11.funcs.length : Int) + (x11.globs.length : Int)))) :: (.q (.bool (decide ((k : Int) < (x11.funcs.length : Int) + (x11.globs.length : Int))))) :: []) (by kernel_rfl) (by kernel_rfl) [(0, .slice adl ms.length capl), (3, .bool true), (4, .bool (ms.all fun m => decide (check5 m = 0))), (5, .slice adn ns.length capn), (6, .slice ada gs.length capa), (7, .slice adv1 q1 capv1), (8, .int .i64 (i : Int)), (9, .int .i64 (k : Int)), (16, .bool true), (17, .slice adl ms.length capl), (18, .bool (ms.all fun m => decide (check5 m = 0))), (19, .bool (ms.all fun m => decide (check5 m = 0))), (20, .bool false), (21, .bool false), (22, .slice adl ms.length capl), (23, .int .i64 (ms.length : Int)), (24, .bool (decide (16 < (ms.length : Int)))), (25, .bool (decide (16 < (ms.length : Int)))), (27, .slice adl ms.length capl), (28, .slice adn ns.length capn), (29, .slice adl ms.length capl), (30, .slice ada gs.length capa), (31, .slice ada gs.length capa), (32, .int .i64 (gs.length : Int)), (33, .slice adl ms.length capl), (34, .int .i64 (ms.length : Int)), (35, .bool false), (36, .int .i64 (i : Int)), (37, .slice adl ms.length capl), (38, .int .i64 (ms.length : Int)), (39, .bool (decide ((i : Int) < (ms.length : Int))))] ⟨rfl, rfl, rfl, rfl, rfl, rfl, rfl, rfl, rfl, rfl, rfl, rfl, rfl, rfl, rfl, rfl, rfl, rfl, rfl, rfl, rfl, rfl, rfl, rfl, rfl, rfl, rfl, rfl, rfl, rfl, rfl, trivial⟩ (by kernel_rfl) hS ?_ ?_
   ·
    refine And.intro (fun β w hS => ?_) ?_
    ·
     refine WL.sub (σ' := [(9, .int .i64 (k : Int))]) ⟨rfl, trivial⟩ ?_
     refine WL.move rfl rfl rfl ?_
     exact WL.nil (N.cut () ⟨rfl, trivial⟩ (Below.refl _ _))
    refine And.intro (fun β w hS => ?_) ?_
    ·
     refine WL.sub (σ' := [(0, .slice adl ms.length capl)]) ⟨rfl, trivial⟩ ?_
     refine WL.move rfl rfl rfl ?_
     exact WL.nil (N.cut () ⟨rfl, trivial⟩ (Below.refl _ _))
    refine And.intro (fun β w hS => ?_) ?_
    ·
     refine WL.sub (σ' := [(8, .int .i64 (i : Int))]) ⟨rfl, trivial⟩ ?_
     refine WL.move rfl rfl rfl ?_
     exact WL.nil (N.cut () ⟨rfl, trivial⟩ (Below.refl _ _))
    refine And.intro (fun β w hS => ?_) ?_
    ·
     refine WL.sub (σ' := [(43, .slice adl ms.length capl), (44, .int .i64 (i : Int))]) ⟨rfl, rfl, trivial⟩ ?_
     refine WL.indexAddrE (j := i) Tryd.underlying22 isz_32 rfl rfl rfl rfl hj11 hE11 ?_
     exact WL.nil (N.cut () ⟨rfl, trivial⟩ (Below.refl _ _))
    refine And.intro (fun β w hS => ?_) ?_
    ·
     refine WL.sub (σ' := [(45, .pointer (some ⟨b11, o11 + i * 2, none⟩))]) ⟨rfl, trivial⟩ ?_
     refine WL.fieldAddr fo_32_0 rfl rfl rfl ?_
     exact WL.nil (N.cut () ⟨rfl, trivial⟩ (Below.refl _ _))
    refine And.intro (fun β w hS => ?_) ?_
    ·
     refine WL.sub (σ' := [(46, .pointer (some ⟨b11, o11 + i * 2, none⟩))]) ⟨rfl, trivial⟩ ?_
     refine WL.load1 (v := .slice adf11 x11.funcs.length capf11) one_29 rfl rfl rfl (hS.roCells hr11 hc11 0 _ rfl) ?_
     exact WL.nil (N.cut () ⟨rfl, trivial⟩ (Below.refl _ _))
    refine And.intro (fun β w hS => ?_) ?_
    ·
     refine WL.sub (σ' := [(47, .slice adf11 x11.funcs.length capf11)]) ⟨rfl, trivial⟩ ?_
     refine WL.lenSlice Tryd.underlying29 rfl rfl rfl ?_
     exact WL.nil (N.cut () ⟨rfl, trivial⟩ (Below.refl _ _))
    refine And.intro (fun β w hS => ?_) ?_
    ·
     refine WL.sub (σ' := [(0, .slice adl ms.length capl)]) ⟨rfl, trivial⟩ ?_
     refine WL.move rfl rfl rfl ?_
     exact WL.nil (N.cut () ⟨rfl, trivial⟩ (Below.refl _ _))
    refine And.intro (fun β w hS => ?_) ?_
    ·
     refine WL.sub (σ' := [(8, .int .i64 (i : Int))]) ⟨rfl, trivial⟩ ?_
     refine WL.move rfl rfl rfl ?_
     exact WL.nil (N.cut () ⟨rfl, trivial⟩ (Below.refl _ _))
    refine And.intro (fun β w hS => ?_) ?_
    ·
     refine WL.sub (σ' := [(49, .slice adl ms.length capl), (50, .int .i64 (i : Int))]) ⟨rfl, rfl, trivial⟩ ?_
     refine WL.indexAddrE (j := i) Tryd.underlying22 isz_32 rfl rfl rfl rfl hj11 hE11 ?_
     exact WL.nil (N.cut () ⟨rfl, trivial⟩ (Below.refl _ _))
    refine And.intro (fun β w hS => ?_) ?_
    ·
     refine WL.sub (σ' := [(51, .pointer (some ⟨b11, o11 + i * 2, none⟩))]) ⟨rfl, trivial⟩ ?_
     refine WL.fieldAddr fo_32_1 rfl rfl rfl ?_
     exact WL.nil (N.cut () ⟨rfl, trivial⟩ (Below.refl _ _))
    refine And.intro (fun β w hS => ?_) ?_
    ·
     refine WL.sub (σ' := [(52, .pointer (some ⟨b11, o11 + i * 2 + 1, none⟩))]) ⟨rfl, trivial⟩ ?_
     refine WL.load1 (v := .slice adg11 x11.globs.length capg11) one_30 rfl rfl rfl (hS.roCells hr11 hc11 1 _ rfl) ?_
     exact WL.nil (N.cut () ⟨rfl, trivial⟩ (Below.refl _ _))
    refine And.intro (fun β w hS => ?_) ?_
    ·
     refine WL.sub (σ' := [(53, .slice adg11 x11.globs.length capg11)]) ⟨rfl, trivial⟩ ?_
     refine WL.lenSlice Tryd.underlying30 rfl rfl rfl ?_
     exact WL.nil (N.cut () ⟨rfl, trivial⟩ (Below.refl _ _))
    refine And.intro (fun β w hS => ?_) ?_
    ·
     refine WL.sub (σ' := [(48, .int .i64 (x11.funcs.length : Int)), (54, .int .i64 (x11.globs.length : Int))]) ⟨rfl, rfl, trivial⟩ ?_
     refine WL.add (c := (x11.funcs.length : Int) + (x11.globs.length : Int)) rfl rfl rfl rfl (rfl) (by omega) ?_
     exact WL.nil (N.cut () ⟨rfl, trivial⟩ (Below.refl _ _))
    refine And.intro (fun β w hS => ?_) ?_
    ·
     refine WL.sub (σ' := [(42, .int .i64 (k : Int)), (55, .int .i64 ((x11.funcs.length : Int) + (x11.globs.length : Int)))]) ⟨rfl, rfl, trivial⟩ ?_
     refine WL.bin rfl rfl rfl rfl rfl ?_
     exact WL.nil (N.cut () ⟨rfl, trivial⟩ (Below.refl _ _))
    trivial
   clear hS; intro w13 β hS
   refine WL.sub (σ' := [(0, .slice adl ms.length capl), (3, .bool true), (4, .bool (ms.all fun m => decide (check5 m = 0))), (5, .slice adn ns.length capn), (6, .slice ada gs.length capa), (7, .slice adv1 q1 capv1), (8, .int .i64 (i : Int)), (9, .int .i64 (k : Int)), (16, .bool true), (17, .slice adl ms.length capl), (18, .bool (ms.all fun m => decide (check5 m = 0))), (19, .bool (ms.all fun m => decide (check5 m = 0))), (20, .bool false), (21, .bool false), (22, .slice adl ms.length capl), (23, .int .i64 (ms.length : Int)), (24, .bool (decide (16 < (ms.length : Int)))), (25, .bool (decide (16 < (ms.length : Int)))), (27, .slice adl ms.length capl), (28, .slice adn ns.length capn), (29, .slice adl ms.length capl), (30, .slice ada gs.length capa), (31, .slice ada gs.length capa), (32, .int .i64 (gs.length : Int)), (33, .slice adl ms.length capl), (34, .int .i64 (ms.length : Int)), (35, .bool false), (36, .int .i64 (i : Int)), (37, .slice adl ms.length capl), (38, .int .i64 (ms.length : Int)), (39, .bool (decide ((i : Int) < (ms.length : Int)))), (42, .int .i64 (k : Int)), (43, .slice adl ms.length capl), (44, .int .i64 (i : Int)), (45, .pointer (some ⟨b11, o11 + i * 2, none⟩)), (46, .pointer (some ⟨b11, o11 + i * 2, none⟩)), (47, .slice adf11 x11.funcs.length capf11), (48, .int .i64 (x11.funcs.length : Int)), (49, .slice adl ms.length capl), (50, .int .i64 (i : Int)), (51, .pointer (some ⟨b11, o11 + i * 2, none⟩)), (52, .pointer (some ⟨b11, o11 + i * 2 + 1, none⟩)), (53, .slice adg11 x11.globs.length capg11), (54, .int .i64 (x11.globs.length : Int)), (55, .int .i64 ((x11.funcs.length : Int) + (x11.globs.length : Int))), (56, .bool (decide ((k : Int) < (x11.funcs.length : Int) + (x11.globs.length : Int))))]) (Sub.ofEq (by kernel_rfl)) ?_
   refine WL.nil ?_
   refine N.seq ?_
   refine W.cond rfl (fun hc14 => ?_) (fun hc14 => ?_)
   ·
    have hc14p : (k : Int) < (x11.funcs.length : Int) + (x11.globs.length : Int) := by simpa using hc14
    refine W.skip ?_
    refine N.seq ?_
    refine W.seq ?_
    refine W.block ?_
    refine W.seq ?_
    refine W.region ?_
    refine WL.assign rfl rfl rfl ?_
    refine WL.nil ?_
    refine N.seq ?_
    refine W.seq ?_
    refine W.region ?_
    refine WL.assign rfl rfl rfl ?_
    refine WL.nil ?_
    refine N.seq ?_
    refine W.cut (α := ByteArray × Int) (fun ⟨nm, bi⟩ => [(0, .slice adl ms.length capl), (3, .bool true), (4, .bool (ms.all fun m => decide (check5 m = 0))), (5, .slice adn ns.length capn), (6, .slice ada gs.length capa), (7, .slice adv1 q1 capv1), (8, .int .i64 (i : Int)), (9, .int .i64 (k : Int)), (10, .string nm), (11, .int .i64 bi), (16, .bool true), (17, .slice adl ms.length capl), (18, .bool (ms.all fun m => decide (check5 m = 0))), (19, .bool (ms.all fun m => decide (check5 m = 0))), (20, .bool false), (21, .bool false), (22, .slice adl ms.length capl), (23, .int .i64 (ms.length : Int)), (24, .bool (decide (16 < (ms.length : Int)))), (25, .bool (decide (16 < (ms.length : Int)))), (27, .slice adl ms.length capl), (28, .slice adn ns.length capn), (29, .slice adl ms.length capl), (30, .slice ada gs.length capa), (31, .slice ada gs.length capa), (32, .int .i64 (gs.length : Int)), (33, .slice adl ms.length capl), (34, .int .i64 (ms.length : Int)), (35, .bool false), (36, .int .i64 (i : Int)), (37, .slice adl ms.length capl), (38, .int .i64 (ms.length : Int)), (39, .bool (decide ((i : Int) < (ms.length : Int)))), (42, .int .i64 (k : Int)), (43, .slice adl ms.length capl), (44, .int .i64 (i : Int)), (45, .pointer (some ⟨b11, o11 + i * 2, none⟩)), (46, .pointer (some ⟨b11, o11 + i * 2, none⟩)), (47, .slice adf11 x11.funcs.length capf11), (48, .int .i64 (x11.funcs.length : Int)), (49, .slice adl ms.length capl), (50, .int .i64 (i : Int)), (51, .pointer (some ⟨b11, o11 + i * 2, none⟩)), (52, .pointer (some ⟨b11, o11 + i * 2 + 1, none⟩)), (53, .slice adg11 x11.globs.length capg11), (54, .int .i64 (x11.globs.length : Int)), (55, .int .i64 ((x11.funcs.length : Int) + (x11.globs.length : Int))), (56, .bool (decide ((k : Int) < (x11.funcs.length : Int) + (x11.globs.length : Int))))]) (fun ⟨nm, bi⟩ u => St w w7 u (roFrom (roFrom ro w2 w5) w5 w7) [] [⟨.slice adv1 q1 capv1, 9, 1, q1, cs1⟩] ∧ (its10 x11)[k]? = some (nm, bi)) ?_ ?_
    ·
     refine W.seq ?_
     refine W.region ?_
     refine WL.move rfl rfl rfl ?_
     refine WL.move rfl rfl rfl ?_
     refine WL.move rfl rfl rfl ?_
     refine WL.indexAddrE (j := i) Tryd.underlying22 isz_32 rfl rfl rfl rfl hj11 hE11 ?_
     refine WL.fieldAddr fo_32_0 rfl rfl rfl ?_
     refine WL.load1 (v := .slice adf11 x11.funcs.length capf11) one_29 rfl rfl rfl (hS.roCells hr11 hc11 0 _ rfl) ?_
     refine WL.lenSlice Tryd.underlying29 rfl rfl rfl ?_
     refine WL.bin rfl rfl rfl rfl rfl ?_
     refine WL.nil ?_
     refine N.seq ?_
     refine W.cond rfl (fun hc15 => ?_) (fun hc15 => ?_)
     ·
      have hc15p : (k : Int) < (x11.funcs.length : Int) := by simpa using hc15
      refine W.seq ?_
      refine W.region ?_
      refine WL.move rfl rfl rfl ?_
      refine WL.move rfl rfl rfl ?_
      refine WL.indexAddrE (j := i) Tryd.underlying22 isz_32 rfl rfl rfl rfl hj11 hE11 ?_
      refine WL.fieldAddr fo_32_0 rfl rfl rfl ?_
      refine WL.load1 (v := .slice adf11 x11.funcs.length capf11) one_29 rfl rfl rfl (hS.roCells hr11 hc11 0 _ rfl) ?_
      refine WL.move rfl rfl rfl ?_
      have hj16 : k < x11.funcs.length := by omega
      obtain ⟨x16, hx16⟩ : ∃ zz, x11.funcs[k]? = some zz := ⟨_, List.getElem?_eq_getElem hj16⟩
      obtain ⟨b16, o16, cs16, hE16, hr16, hl16, hc16, hQ16⟩ := hfs11d k _ hx16
      obtain ⟨sb16, rfl, hbl16, hnm16, hbd16, hpr16⟩ := id hQ16
      obtain ⟨adb16, capb16, rfl, hbk16a, hbk16b, hbk16c, hbk16d⟩ := id hbl16
      have hbk16m : x16.blocks.length ≤ 9223372036854775807 := by have h1 := hbk16a; have h2 := hbk16b; unfold maxLen at h2; omega
      refine WL.indexAddrE (j := k) Tryd.underlying29 isz_35 rfl rfl rfl rfl hj16 hE16 ?_
      refine WL.fieldAddr fo_35_0 rfl rfl rfl ?_
      refine WL.load1 (v := .string x16.name) one_9 rfl rfl rfl (hS.roCells hr16 hc16 0 _ rfl) ?_
      refine WL.assign rfl rfl rfl ?_
      refine WL.nil ?_
      refine N.seq ?_
      refine W.region ?_
      refine WL.move rfl rfl rfl ?_
      refine WL.move rfl rfl rfl ?_
      refine WL.indexAddrE (j := i) Tryd.underlying22 isz_32 rfl rfl rfl rfl hj11 hE11 ?_
      refine WL.fieldAddr fo_32_0 rfl rfl rfl ?_
      refine WL.load1 (v := .slice adf11 x11.funcs.length capf11) one_29 rfl rfl rfl (hS.roCells hr11 hc11 0 _ rfl) ?_
      refine WL.move rfl rfl rfl ?_
      refine WL.indexAddrE (j := k) Tryd.underlying29 isz_35 rfl rfl rfl rfl hj16 hE16 ?_
      refine WL.fieldAddr fo_35_1 rfl rfl rfl ?_
      refine WL.load1 (v := .int .i64 x16.bind) one_3 rfl rfl rfl (hS.roCells hr16 hc16 1 _ rfl) ?_
      refine WL.assign rfl rfl rfl ?_
      refine WL.nil ?_
      exact N.cut (x16.name, x16.bind) ⟨rfl, rfl, rfl, rfl, rfl, rfl, rfl, rfl, rfl, rfl, rfl, rfl, rfl, rfl, rfl, rfl, rfl, rfl, rfl, rfl, rfl, rfl, rfl, rfl, rfl, rfl, rfl, rfl, rfl, rfl, rfl, rfl, rfl, rfl, rfl, rfl, rfl, rfl, rfl, rfl, rfl, rfl, rfl, rfl, rfl, rfl, rfl, rfl, trivial⟩ ⟨hS, its_f hx16⟩
     have hc15p : ¬ ((k : Int) < (x11.funcs.length : Int)) := by simpa using hc15
     refine W.seq ?_
     have hj17 : k - x11.funcs.length < x11.globs.length := by omega
     obtain ⟨x17, hx17⟩ : ∃ zz, x11.globs[k - x11.funcs.length]? = some zz := ⟨_, List.getElem?_eq_getElem hj17⟩
     obtain ⟨b17, o17, cs17, hE17, hr17, hl17, hc17, hQ17⟩ := hgs11d (k - x11.funcs.length) _ hx17
     obtain ⟨rfl, hgn17, hgb17, hgi17⟩ := hQ17
     refine W.drawL (by kernel_rfl) 16 ((.q (.slice adl ms.length capl)) :: (.q (.int .i64 (i : Int))) :: (.q (.pointer (some ⟨b11, o11 + i * 2, none⟩))) :: (.q (.pointer (some ⟨b11, o11 + i * 2 + 1, none⟩))) :: (.q (.slice adg11 x11.globs.length capg11)) :: (.q (.int .i64 (k : Int))) :: (.q (.slice adl ms.length capl)) :: (.q (.int .i64 (i : Int))) :: (.q (.pointer (some ⟨b11, o11 + i * 2, none⟩))) :: (.q (.pointer (some ⟨b11, o11 + i * 2, none⟩))) :: (.q (.slice adf11 x11.funcs.length capf11)) :: (.q (.int .i64 (x11.funcs.length : Int))) :: (.q (.int .i64 ((k : Int) - (x11.funcs.length : Int)))) :: (.q (.pointer (some ⟨b17, o17 + (k - x11.funcs.length) * 4, none⟩))) :: (.q (.pointer (some ⟨b17, o17 + (k - x11.funcs.length) * 4, none⟩))) :: (.q (.string x17.name)) :: []) (by kernel_rfl) (by kernel_rfl) [(0, .slice adl ms.length capl), (3, .bool true), (4, .bool (ms.all fun m => decide (check5 m = 0))), (5, .slice adn ns.length capn), (6, .slice ada gs.length capa), (7, .slice adv1 q1 capv1), (8, .int .i64 (i : Int)), (9, .int .i64 (k : Int)), (10, .string ⟨#[]⟩), (11, .int .i64 0), (16, .bool true), (17, .slice adl ms.length capl), (18, .bool (ms.all fun m => decide (check5 m = 0))), (19, .bool (ms.all fun m => decide (check5 m = 0))), (20, .bool false), (21, .bool false), (22, .slice adl ms.length capl), (23, .int .i64 (ms.length : Int)), (24, .bool (decide (16 < (ms.length : Int)))), (25, .bool (decide (16 < (ms.length : Int)))), (27, .slice adl ms.length capl), (28, .slice adn ns.length capn), (29, .slice adl ms.length capl), (30, .slice ada gs.length capa), (31, .slice ada gs.length capa), (32, .int .i64 (gs.length : Int)), (33, .slice adl ms.length capl), (34, .int .i64 (ms.length : Int)), (35, .bool false), (36, .int .i64 (i : Int)), (37, .slice adl ms.length capl), (38, .int .i64 (ms.length : Int)), (39, .bool (decide ((i : Int) < (ms.length : Int)))), (42, .int .i64 (k : Int)), (43, .slice adl ms.length capl), (44, .int .i64 (i : Int)), (45, .pointer (some ⟨b11, o11 + i * 2, none⟩)), (46, .pointer (some ⟨b11, o11 + i * 2, none⟩)), (47, .slice adf11 x11.funcs.length capf11), (48, .int .i64 (x11.funcs.length : Int)), (49, .slice adl ms.length capl), (50, .int .i64 (i : Int)), (51, .pointer (some ⟨b11, o11 + i * 2, none⟩)), (52, .pointer (some ⟨b11, o11 + i * 2 + 1, none⟩)), (53, .slice adg11 x11.globs.length capg11), (54, .int .i64 (x11.globs.length : Int)), (55, .int .i64 ((x11.funcs.length : Int) + (x11.globs.length : Int))), (56, .bool (decide ((k : Int) < (x11.funcs.length : Int) + (x11.globs.length : Int)))), (59, .int .i64 (k : Int)), (60, .slice adl ms.length capl), (61, .int .i64 (i : Int)), (62, .pointer (some ⟨b11, o11 + i * 2, none⟩)), (63, .pointer (some ⟨b11, o11 + i * 2, none⟩)), (64, .slice adf11 x11.funcs.length capf11), (65, .int .i64 (x11.funcs.length : Int)), (66, .bool (decide ((k : Int) < (x11.funcs.length : Int))))] ⟨rfl, rfl, rfl, rfl, rfl, rfl, rfl, rfl, rfl, rfl, rfl, rfl, rfl, rfl, rfl, rfl, rfl, rfl, rfl, rfl, rfl, rfl, rfl, rfl, rfl, rfl, rfl, rfl, rfl, rfl, rfl, rfl, rfl, rfl, rfl, rfl, rfl, rfl, rfl, rfl, rfl, rfl, rfl, rfl, rfl, rfl, rfl, rfl, rfl, rfl, rfl, rfl, rfl, rfl, rfl, rfl, trivial⟩ (by kernel_rfl) hS ?_ ?_
     ·
      refine And.intro (fun β w hS => ?_) ?_
      ·
       refine WL.sub (σ' := [(0, .slice adl ms.length capl)]) ⟨rfl, trivial⟩ ?_
       refine WL.move rfl rfl rfl ?_
       exact WL.nil (N.cut () ⟨rfl, trivial⟩ (Below.refl _ _))
      refine And.intro (fun β w hS => ?_) ?_
      ·
       refine WL.sub (σ' := [(8, .int .i64 (i : Int))]) ⟨rfl, trivial⟩ ?_
       refine WL.move rfl rfl rfl ?_
       exact WL.nil (N.cut () ⟨rfl, trivial⟩ (Below.refl _ _))
      refine And.intro (fun β w hS => ?_) ?_
      ·
       refine WL.sub (σ' := [(85, .slice adl ms.length capl), (86, .int .i64 (i : Int))]) ⟨rfl, rfl, trivial⟩ ?_
       refine WL.indexAddrE (j := i) Tryd.underlying22 isz_32 rfl rfl rfl rfl hj11 hE11 ?_
       exact WL.nil (N.cut () ⟨rfl, trivial⟩ (Below.refl _ _))
      refine And.intro (fun β w hS => ?_) ?_
      ·
       refine WL.sub (σ' := [(87, .pointer (some ⟨b11, o11 + i * 2, none⟩))]) ⟨rfl, trivial⟩ ?_
       refine WL.fieldAddr fo_32_1 rfl rfl rfl ?_
       exact WL.nil (N.cut () ⟨rfl, trivial⟩ (Below.refl _ _))
      refine And.intro (fun β w hS => ?_) ?_
      ·
       refine WL.sub (σ' := [(88, .pointer (some ⟨b11, o11 + i * 2 + 1, none⟩))]) ⟨rfl, trivial⟩ ?_
       refine WL.load1 (v := .slice adg11 x11.globs.length capg11) one_30 rfl rfl rfl (hS.roCells hr11 hc11 1 _ rfl) ?_
       exact WL.nil (N.cut () ⟨rfl, trivial⟩ (Below.refl _ _))
      refine And.intro (fun β w hS => ?_) ?_
      ·
       refine WL.sub (σ' := [(9, .int .i64 (k : Int))]) ⟨rfl, trivial⟩ ?_
       refine WL.move rfl rfl rfl ?_
       exact WL.nil (N.cut () ⟨rfl, trivial⟩ (Below.refl _ _))
      refine And.intro (fun β w hS => ?_) ?_
      ·
       refine WL.sub (σ' := [(0, .slice adl ms.length capl)]) ⟨rfl, trivial⟩ ?_
       refine WL.move rfl rfl rfl ?_
       exact WL.nil (N.cut () ⟨rfl, trivial⟩ (Below.refl _ _))
      refine And.intro (fun β w hS => ?_) ?_
      ·
       refine WL.sub (σ' := [(8, .int .i64 (i : Int))]) ⟨rfl, trivial⟩ ?_
       refine WL.move rfl rfl rfl ?_
       exact WL.nil (N.cut () ⟨rfl, trivial⟩ (Below.refl _ _))
      refine And.intro (fun β w hS => ?_) ?_
      ·
       refine WL.sub (σ' := [(91, .slice adl ms.length capl), (92, .int .i64 (i : Int))]) ⟨rfl, rfl, trivial⟩ ?_
       refine WL.indexAddrE (j := i) Tryd.underlying22 isz_32 rfl rfl rfl rfl hj11 hE11 ?_
       exact WL.nil (N.cut () ⟨rfl, trivial⟩ (Below.refl _ _))
      refine And.intro (fun β w hS => ?_) ?_
      ·
       refine WL.sub (σ' := [(93, .pointer (some ⟨b11, o11 + i * 2, none⟩))]) ⟨rfl, trivial⟩ ?_
       refine WL.fieldAddr fo_32_0 rfl rfl rfl ?_
       exact WL.nil (N.cut () ⟨rfl, trivial⟩ (Below.refl _ _))
      refine And.intro (fun β w hS => ?_) ?_
      ·
       refine WL.sub (σ' := [(94, .pointer (some ⟨b11, o11 + i * 2, none⟩))]) ⟨rfl, trivial⟩ ?_
       refine WL.load1 (v := .slice adf11 x11.funcs.length capf11) one_29 rfl rfl rfl (hS.roCells hr11 hc11 0 _ rfl) ?_
       exact WL.nil (N.cut () ⟨rfl, trivial⟩ (Below.refl _ _))
      refine And.intro (fun β w hS => ?_) ?_
      ·
       refine WL.sub (σ' := [(95, .slice adf11 x11.funcs.length capf11)]) ⟨rfl, trivial⟩ ?_
       refine WL.lenSlice Tryd.underlying29 rfl rfl rfl ?_
       exact WL.nil (N.cut () ⟨rfl, trivial⟩ (Below.refl _ _))
      refine And.intro (fun β w hS => ?_) ?_
      ·
       refine WL.sub (σ' := [(90, .int .i64 (k : Int)), (96, .int .i64 (x11.funcs.length : Int))]) ⟨rfl, rfl, trivial⟩ ?_
       refine WL.sub_ (c := (k : Int) - (x11.funcs.length : Int)) rfl rfl rfl rfl (rfl) (by omega) ?_
       exact WL.nil (N.cut () ⟨rfl, trivial⟩ (Below.refl _ _))
      refine And.intro (fun β w hS => ?_) ?_
      ·
       refine WL.sub (σ' := [(89, .slice adg11 x11.globs.length capg11), (97, .int .i64 ((k : Int) - (x11.funcs.length : Int)))]) ⟨rfl, rfl, trivial⟩ ?_
       refine WL.set 97 (v' := .int .i64 ((k - x11.funcs.length : Nat) : Int)) rfl (by rw [Int.ofNat_sub (by omega)]) ?_
       refine WL.indexAddrE (j := k - x11.funcs.length) Tryd.underlying30 isz_38 rfl rfl rfl rfl hj17 hE17 ?_
       exact WL.nil (N.cut () ⟨rfl, trivial⟩ (Below.refl _ _))
      refine And.intro (fun β w hS => ?_) ?_
      ·
       refine WL.sub (σ' := [(98, .pointer (some ⟨b17, o17 + (k - x11.funcs.length) * 4, none⟩))]) ⟨rfl, trivial⟩ ?_
       refine WL.fieldAddr fo_38_0 rfl rfl rfl ?_
       exact WL.nil (N.cut () ⟨rfl, trivial⟩ (Below.refl _ _))
      refine And.intro (fun β w hS => ?_) ?_
      ·
       refine WL.sub (σ' := [(99, .pointer (some ⟨b17, o17 + (k - x11.funcs.length) * 4, none⟩))]) ⟨rfl, trivial⟩ ?_
       refine WL.load1 (v := .string x17.name) one_9 rfl rfl rfl (hS.roCells hr17 hc17 0 _ rfl) ?_
       exact WL.nil (N.cut () ⟨rfl, trivial⟩ (Below.refl _ _))
      trivial
     clear hS; intro w18 β hS
     refine WL.sub (σ' := [(0, .slice adl ms.length capl), (3, .bool true), (4, .bool (ms.all fun m => decide (check5 m = 0))), (5, .slice adn ns.length capn), (6, .slice ada gs.length capa), (7, .slice adv1 q1 capv1), (8, .int .i64 (i : Int)), (9, .int .i64 (k : Int)), (10, .string ⟨#[]⟩), (11, .int .i64 0), (16, .bool true), (17, .slice adl ms.length capl), (18, .bool (ms.all fun m => decide (check5 m = 0))), (19, .bool (ms.all fun m => decide (check5 m = 0))), (20, .bool false), (21, .bool false), (22, .slice adl ms.length capl), (23, .int .i64 (ms.length : Int)), (24, .bool (decide (16 < (ms.length : Int)))), (25, .bool (decide (16 < (ms.length : Int)))), (27, .slice adl ms.length capl), (28, .slice adn ns.length capn), (29, .slice adl ms.length capl), (30, .slice ada gs.length capa), (31, .slice ada gs.length capa), (32, .int .i64 (gs.length : Int)), (33, .slice adl ms.length capl), (34, .int .i64 (ms.length : Int)), (35, .bool false), (36, .int .i64 (i : Int)), (37, .slice adl ms.length capl), (38, .int .i64 (ms.length : Int)), (39, .bool (decide ((i : Int) < (ms.length : Int)))), (42, .int .i64 (k : Int)), (43, .slice adl ms.length capl), (44, .int .i64 (i : Int)), (45, .pointer (some ⟨b11, o11 + i * 2, none⟩)), (46, .pointer (some ⟨b11, o11 + i * 2, none⟩)), (47, .slice adf11 x11.funcs.length capf11), (48, .int .i64 (x11.funcs.length : Int)), (49, .slice adl ms.length capl), (50, .int .i64 (i : Int)), (51, .pointer (some ⟨b11, o11 + i * 2, none⟩)), (52, .pointer (some ⟨b11, o11 + i * 2 + 1, none⟩)), (53, .slice adg11 x11.globs.length capg11), (54, .int .i64 (x11.globs.length : Int)), (55, .int .i64 ((x11.funcs.length : Int) + (x11.globs.length : Int))), (56, .bool (decide ((k : Int) < (x11.funcs.length : Int) + (x11.globs.length : Int)))), (59, .int .i64 (k : Int)), (60, .slice adl ms.length capl), (61, .int .i64 (i : Int)), (62, .pointer (some ⟨b11, o11 + i * 2, none⟩)), (63, .pointer (some ⟨b11, o11 + i * 2, none⟩)), (64, .slice adf11 x11.funcs.length capf11), (65, .int .i64 (x11.funcs.length : Int)), (66, .bool (decide ((k : Int) < (x11.funcs.length : Int)))), (85, .slice adl ms.length capl), (86, .int .i64 (i : Int)), (87, .pointer (some ⟨b11, o11 + i * 2, none⟩)), (88, .pointer (some ⟨b11, o11 + i * 2 + 1, none⟩)), (89, .slice adg11 x11.globs.length capg11), (90, .int .i64 (k : Int)), (91, .slice adl ms.length capl), (92, .int .i64 (i : Int)), (93, .pointer (some ⟨b11, o11 + i * 2, none⟩)), (94, .pointer (some ⟨b11, o11 + i * 2, none⟩)), (95, .slice adf11 x11.funcs.length capf11), (96, .int .i64 (x11.funcs.length : Int)), (97, .int .i64 ((k : Int) - (x11.funcs.length : Int))), (98, .pointer (some ⟨b17, o17 + (k - x11.funcs.length) * 4, none⟩)), (99, .pointer (some ⟨b17, o17 + (k - x11.funcs.length) * 4, none⟩)), (100, .string x17.name)]) (Sub.ofEq (by kernel_rfl)) ?_
     refine WL.assign rfl rfl rfl ?_
     refine WL.nil ?_
     refine N.seq ?_
     refine W.drawL (by kernel_rfl) 16 ((.q (.slice adl ms.length capl)) :: (.q (.int .i64 (i : Int))) :: (.q (.pointer (some ⟨b11, o11 + i * 2, none⟩))) :: (.q (.pointer (some ⟨b11, o11 + i * 2 + 1, none⟩))) :: (.q (.slice adg11 x11.globs.length capg11)) :: (.q (.int .i64 (k : Int))) :: (.q (.slice adl ms.length capl)) :: (.q (.int .i64 (i : Int))) :: (.q (.pointer (some ⟨b11, o11 + i * 2, none⟩))) :: (.q (.pointer (some ⟨b11, o11 + i * 2, none⟩))) :: (.q (.slice adf11 x11.funcs.length capf11)) :: (.q (.int .i64 (x11.funcs.length : Int))) :: (.q (.int .i64 ((k : Int) - (x11.funcs.length : Int)))) :: (.q (.pointer (some ⟨b17, o17 + (k - x11.funcs.length) * 4, none⟩))) :: (.q (.pointer (some ⟨b17, o17 + (k - x11.funcs.length) * 4 + 1, none⟩))) :: (.q (.int .i64 x17.bind)) :: []) (by kernel_rfl) (by kernel_rfl) [(0, .slice adl ms.length capl), (3, .bool true), (4, .bool (ms.all fun m => decide (check5 m = 0))), (5, .slice adn ns.length capn), (6, .slice ada gs.length capa), (7, .slice adv1 q1 capv1), (8, .int .i64 (i : Int)), (9, .int .i64 (k : Int)), (10, .string x17.name), (11, .int .i64 0), (16, .bool true), (17, .slice adl ms.length capl), (18, .bool (ms.all fun m => decide (check5 m = 0))), (19, .bool (ms.all fun m => decide (check5 m = 0))), (20, .bool false), (21, .bool false), (22, .slice adl ms.length capl), (23, .int .i64 (ms.length : Int)), (24, .bool (decide (16 < (ms.length : Int)))), (25, .bool (decide (16 < (ms.length : Int)))), (27, .slice adl ms.length capl), (28, .slice adn ns.length capn), (29, .slice adl ms.length capl), (30, .slice ada gs.length capa), (31, .slice ada gs.length capa), (32, .int .i64 (gs.length : Int)), (33, .slice adl ms.length capl), (34, .int .i64 (ms.length : Int)), (35, .bool false), (36, .int .i64 (i : Int)), (37, .slice adl ms.length capl), (38, .int .i64 (ms.length : Int)), (39, .bool (decide ((i : Int) < (ms.length : Int)))), (42, .int .i64 (k : Int)), (43, .slice adl ms.length capl), (44, .int .i64 (i : Int)), (45, .pointer (some ⟨b11, o11 + i * 2, none⟩)), (46, .pointer (some ⟨b11, o11 + i * 2, none⟩)), (47, .slice adf11 x11.funcs.length capf11), (48, .int .i64 (x11.funcs.length : Int)), (49, .slice adl ms.length capl), (50, .int .i64 (i : Int)), (51, .pointer (some ⟨b11, o11 + i * 2, none⟩)), (52, .pointer (some ⟨b11, o11 + i * 2 + 1, none⟩)), (53, .slice adg11 x11.globs.length capg11), (54, .int .i64 (x11.globs.length : Int)), (55, .int .i64 ((x11.funcs.length : Int) + (x11.globs.length : Int))), (56, .bool (decide ((k : Int) < (x11.funcs.length : Int) + (x11.globs.length : Int)))), (59, .int .i64 (k : Int)), (60, .slice adl ms.length capl), (61, .int .i64 (i : Int)), (62, .pointer (some ⟨b11, o11 + i * 2, none⟩)), (63, .pointer (some ⟨b11, o11 + i * 2, none⟩)), (64, .slice adf11 x11.funcs.length capf11), (65, .int .i64 (x11.funcs.length : Int)), (66, .bool (decide ((k : Int) < (x11.funcs.length : Int)))), (85, .slice adl ms.length capl), (86, .int .i64 (i : Int)), (87, .pointer (some ⟨b11, o11 + i * 2, none⟩)), (88, .pointer (some ⟨b11, o11 + i * 2 + 1, none⟩)), (89, .slice adg11 x11.globs.length capg11), (90, .int .i64 (k : Int)), (91, .slice adl ms.length capl), (92, .int .i64 (i : Int)), (93, .pointer (some ⟨b11, o11 + i * 2, none⟩)), (94, .pointer (some ⟨b11, o11 + i * 2, none⟩)), (95, .slice adf11 x11.funcs.length capf11), (96, .int .i64 (x11.funcs.length : Int)), (97, .int .i64 ((k : Int) - (x11.funcs.length : Int))), (98, .pointer (some ⟨b17, o17 + (k - x11.funcs.length) * 4, none⟩)), (99, .pointer (some ⟨b17, o17 + (k - x11.funcs.length) * 4, none⟩)), (100, .string x17.name)] ⟨rfl, rfl, rfl, rfl, rfl, rfl, rfl, rfl, rfl, rfl, rfl, rfl, rfl, rfl, rfl, rfl, rfl, rfl, rfl, rfl, rfl, rfl, rfl, rfl, rfl, rfl, rfl, rfl, rfl, rfl, rfl, rfl, rfl, rfl, rfl, rfl, rfl, rfl, rfl, rfl, rfl, rfl, rfl, rfl, rfl, rfl, rfl, rfl, rfl, rfl, rfl, rfl, rfl, rfl, rfl, rfl, rfl, rfl, rfl, rfl, rfl, rfl, rfl, rfl, rfl, rfl, rfl, rfl, rfl, rfl, rfl, rfl, trivial⟩ (by kernel_rfl) hS ?_ ?_
     ·
      refine And.intro (fun β w hS => ?_) ?_
      ·
       refine WL.sub (σ' := [(0, .slice adl ms.length capl)]) ⟨rfl, trivial⟩ ?_
       refine WL.move rfl rfl rfl ?_
       exact WL.nil (N.cut () ⟨rfl, trivial⟩ (Below.refl _ _))
      refine And.intro (fun β w hS => ?_) ?_
      ·
       refine WL.sub (σ' := [(8, .int .i64 (i : Int))]) ⟨rfl, trivial⟩ ?_
       refine WL.move rfl rfl rfl ?_
       exact WL.nil (N.cut () ⟨rfl, trivial⟩ (Below.refl _ _))
      refine And.intro (fun β w hS => ?_) ?_
      ·
       refine WL.sub (σ' := [(101, .slice adl ms.length capl), (102, .int .i64 (i : Int))]) ⟨rfl, rfl, trivial⟩ ?_
       refine WL.indexAddrE (j := i) Tryd.underlying22 isz_32 rfl rfl rfl rfl hj11 hE11 ?_
       exact WL.nil (N.cut () ⟨rfl, trivial⟩ (Below.refl _ _))
      refine And.intro (fun β w hS => ?_) ?_
      ·
       refine WL.sub (σ' := [(103, .pointer (some ⟨b11, o11 + i * 2, none⟩))]) ⟨rfl, trivial⟩ ?_
       refine WL.fieldAddr fo_32_1 rfl rfl rfl ?_
       exact WL.nil (N.cut () ⟨rfl, trivial⟩ (Below.refl _ _))
      refine And.intro (fun β w hS => ?_) ?_
      ·
       refine WL.sub (σ' := [(104, .pointer (some ⟨b11, o11 + i * 2 + 1, none⟩))]) ⟨rfl, trivial⟩ ?_
       refine WL.load1 (v := .slice adg11 x11.globs.length capg11) one_30 rfl rfl rfl (hS.roCells hr11 hc11 1 _ rfl) ?_
       exact WL.nil (N.cut () ⟨rfl, trivial⟩ (Below.refl _ _))
      refine And.intro (fun β w hS => ?_) ?_
      ·
       refine WL.sub (σ' := [(9, .int .i64 (k : Int))]) ⟨rfl, trivial⟩ ?_
       refine WL.move rfl rfl rfl ?_
       exact WL.nil (N.cut () ⟨rfl, trivial⟩ (Below.refl _ _))
      refine And.intro (fun β w hS => ?_) ?_
      ·
       refine WL.sub (σ' := [(0, .slice adl ms.length capl)]) ⟨rfl, trivial⟩ ?_
       refine WL.move rfl rfl rfl ?_
       exact WL.nil (N.cut () ⟨rfl, trivial⟩ (Below.refl _ _))
      refine And.intro (fun β w hS => ?_) ?_
      ·
       refine WL.sub (σ' := [(8, .int .i64 (i : Int))]) ⟨rfl, trivial⟩ ?_
       refine WL.move rfl rfl rfl ?_
       exact WL.nil (N.cut () ⟨rfl, trivial⟩ (Below.refl _ _))
      refine And.intro (fun β w hS => ?_) ?_
      ·
       refine WL.sub (σ' := [(107, .slice adl ms.length capl), (108, .int .i64 (i : Int))]) ⟨rfl, rfl, trivial⟩ ?_
       refine WL.indexAddrE (j := i) Tryd.underlying22 isz_32 rfl rfl rfl rfl hj11 hE11 ?_
       exact WL.nil (N.cut () ⟨rfl, trivial⟩ (Below.refl _ _))
      refine And.intro (fun β w hS => ?_) ?_
      ·
       refine WL.sub (σ' := [(109, .pointer (some ⟨b11, o11 + i * 2, none⟩))]) ⟨rfl, trivial⟩ ?_
       refine WL.fieldAddr fo_32_0 rfl rfl rfl ?_
       exact WL.nil (N.cut () ⟨rfl, trivial⟩ (Below.refl _ _))
      refine And.intro (fun β w hS => ?_) ?_
      ·
       refine WL.sub (σ' := [(110, .pointer (some ⟨b11, o11 + i * 2, none⟩))]) ⟨rfl, trivial⟩ ?_
       refine WL.load1 (v := .slice adf11 x11.funcs.length capf11) one_29 rfl rfl rfl (hS.roCells hr11 hc11 0 _ rfl) ?_
       exact WL.nil (N.cut () ⟨rfl, trivial⟩ (Below.refl _ _))
      refine And.intro (fun β w hS => ?_) ?_
      ·
       refine WL.sub (σ' := [(111, .slice adf11 x11.funcs.length capf11)]) ⟨rfl, trivial⟩ ?_
       refine WL.lenSlice Tryd.underlying29 rfl rfl rfl ?_
       exact WL.nil (N.cut () ⟨rfl, trivial⟩ (Below.refl _ _))
      refine And.intro (fun β w hS => ?_) ?_
      ·
       refine WL.sub (σ' := [(106, .int .i64 (k : Int)), (112, .int .i64 (x11.funcs.length : Int))]) ⟨rfl, rfl, trivial⟩ ?_
       refine WL.sub_ (c := (k : Int) - (x11.funcs.length : Int)) rfl rfl rfl rfl (rfl) (by omega) ?_
       exact WL.nil (N.cut () ⟨rfl, trivial⟩ (Below.refl _ _))
      refine And.intro (fun β w hS => ?_) ?_
      ·
       refine WL.sub (σ' := [(105, .slice adg11 x11.globs.length capg11), (113, .int .i64 ((k : Int) - (x11.funcs.length : Int)))]) ⟨rfl, rfl, trivial⟩ ?_
       refine WL.set 113 (v' := .int .i64 ((k - x11.funcs.length : Nat) : Int)) rfl (by rw [Int.ofNat_sub (by omega)]) ?_
       refine WL.indexAddrE (j := k - x11.funcs.length) Tryd.underlying30 isz_38 rfl rfl rfl rfl hj17 hE17 ?_
       exact WL.nil (N.cut () ⟨rfl, trivial⟩ (Below.refl _ _))
      refine And.intro (fun β w hS => ?_) ?_
      ·
       refine WL.sub (σ' := [(114, .pointer (some ⟨b17, o17 + (k - x11.funcs.length) * 4, none⟩))]) ⟨rfl, trivial⟩ ?_
       refine WL.fieldAddr fo_38_1 rfl rfl rfl ?_
       exact WL.nil (N.cut () ⟨rfl, trivial⟩ (Below.refl _ _))
      refine And.intro (fun β w hS => ?_) ?_
      ·
       refine WL.sub (σ' := [(115, .pointer (some ⟨b17, o17 + (k - x11.funcs.length) * 4 + 1, none⟩))]) ⟨rfl, trivial⟩ ?_
       refine WL.load1 (v := .int .i64 x17.bind) one_3 rfl rfl rfl (hS.roCells hr17 hc17 1 _ rfl) ?_
       exact WL.nil (N.cut () ⟨rfl, trivial⟩ (Below.refl _ _))
      trivial
     clear hS; intro w19 β hS
     refine WL.sub (σ' := [(0, .slice adl ms.length capl), (3, .bool true), (4, .bool (ms.all fun m => decide (check5 m = 0))), (5, .slice adn ns.length capn), (6, .slice ada gs.length capa), (7, .slice adv1 q1 capv1), (8, .int .i64 (i : Int)), (9, .int .i64 (k : Int)), (10, .string x17.name), (11, .int .i64 0), (16, .bool true), (17, .slice adl ms.length capl), (18, .bool (ms.all fun m => decide (check5 m = 0))), (19, .bool (ms.all fun m => decide (check5 m = 0))), (20, .bool false), (21, .bool false), (22, .slice adl ms.length capl), (23, .int .i64 (ms.length : Int)), (24, .bool (decide (16 < (ms.length : Int)))), (25, .bool (decide (16 < (ms.length : Int)))), (27, .slice adl ms.length capl), (28, .slice adn ns.length capn), (29, .slice adl ms.length capl), (30, .slice ada gs.length capa), (31, .slice ada gs.length capa), (32, .int .i64 (gs.length : Int)), (33, .slice adl ms.length capl), (34, .int .i64 (ms.length : Int)), (35, .bool false), (36, .int .i64 (i : Int)), (37, .slice adl ms.length capl), (38, .int .i64 (ms.length : Int)), (39, .bool (decide ((i : Int) < (ms.length : Int)))), (42, .int .i64 (k : Int)), (43, .slice adl ms.length capl), (44, .int .i64 (i : Int)), (45, .pointer (some ⟨b11, o11 + i * 2, none⟩)), (46, .pointer (some ⟨b11, o11 + i * 2, none⟩)), (47, .slice adf11 x11.funcs.length capf11), (48, .int .i64 (x11.funcs.length : Int)), (49, .slice adl ms.length capl), (50, .int .i64 (i : Int)), (51, .pointer (some ⟨b11, o11 + i * 2, none⟩)), (52, .pointer (some ⟨b11, o11 + i * 2 + 1, none⟩)), (53, .slice adg11 x11.globs.length capg11), (54, .int .i64 (x11.globs.length : Int)), (55, .int .i64 ((x11.funcs.length : Int) + (x11.globs.length : Int))), (56, .bool (decide ((k : Int) < (x11.funcs.length : Int) + (x11.globs.length : Int)))), (59, .int .i64 (k : Int)), (60, .slice adl ms.length capl), (61, .int .i64 (i : Int)), (62, .pointer (some ⟨b11, o11 + i * 2, none⟩)), (63, .pointer (some ⟨b11, o11 + i * 2, none⟩)), (64, .slice adf11 x11.funcs.length capf11), (65, .int .i64 (x11.funcs.length : Int)), (66, .bool (decide ((k : Int) < (x11.funcs.length : Int)))), (85, .slice adl ms.length capl), (86, .int .i64 (i : Int)), (87, .pointer (some ⟨b11, o11 + i * 2, none⟩)), (88, .pointer (some ⟨b11, o11 + i * 2 + 1, none⟩)), (89, .slice adg11 x11.globs.length capg11), (90, .int .i64 (k : Int)), (91, .slice adl ms.length capl), (92, .int .i64 (i : Int)), (93, .pointer (some ⟨b11, o11 + i * 2, none⟩)), (94, .pointer (some ⟨b11, o11 + i * 2, none⟩)), (95, .slice adf11 x11.funcs.length capf11), (96, .int .i64 (x11.funcs.length : Int)), (97, .int .i64 ((k : Int) - (x11.funcs.length : Int))), (98, .pointer (some ⟨b17, o17 + (k - x11.funcs.length) * 4, none⟩)), (99, .pointer (some ⟨b17, o17 + (k - x11.funcs.length) * 4, none⟩)), (100, .string x17.name), (101, .slice adl ms.length capl), (102, .int .i64 (i : Int)), (103, .pointer (some ⟨b11, o11 + i * 2, none⟩)), (104, .pointer (some ⟨b11, o11 + i * 2 + 1, none⟩)), (105, .slice adg11 x11.globs.length capg11), (106, .int .i64 (k : Int)), (107, .slice adl ms.length capl), (108, .int .i64 (i : Int)), (109, .pointer (some ⟨b11, o11 + i * 2, none⟩)), (110, .pointer (some ⟨b11, o11 + i * 2, none⟩)), (111, .slice adf11 x11.funcs.length capf11), (112, .int .i64 (x11.funcs.length : Int)), (113, .int .i64 ((k : Int) - (x11.funcs.length : Int))), (114, .pointer (some ⟨b17, o17 + (k - x11.funcs.length) * 4, none⟩)), (115, .pointer (some ⟨b17, o17 + (k - x11.funcs.length) * 4 + 1, none⟩)), (116, .int .i64 x17.bind)]) (Sub.ofEq (by kernel_rfl)) ?_
     refine WL.assign rfl rfl rfl ?_
     refine WL.nil ?_
     have hat := its_g (m := x11) hx17
     rw [show x11.funcs.length + (k - x11.funcs.length) = k by omega] at hat
     exact N.cut (x17.name, x17.bind) ⟨rfl, rfl, rfl, rfl, rfl, rfl, rfl, rfl, rfl, rfl, rfl, rfl, rfl, rfl, rfl, rfl, rfl, rfl, rfl, rfl, rfl, rfl, rfl, rfl, rfl, rfl, rfl, rfl, rfl, rfl, rfl, rfl, rfl, rfl, rfl, rfl, rfl, rfl, rfl, rfl, rfl, rfl, rfl, rfl, rfl, rfl, rfl, rfl, trivial⟩ ⟨hS, hat⟩
    clear hS
    rintro ⟨nm, bi⟩ w20 ⟨hS, hat⟩
    refine W.seq ?_
    have hga : gs[i]? = some (mod10 ns (nam10 ns (ms.take i)).2 (its10 x11)).1 := by rw [hgs2]; exact nam10_at hx11
    have hon := its_once (hrt x11 (List.mem_of_getElem? hx11))
    have hj21 : i < gs.length := (List.getElem?_eq_some_iff.1 hga).1
    have hx21 := hga
    obtain ⟨b21, o21, cs21, hE21, hr21, hl21, hc21, hQ21⟩ := had i _ hga
    have hQk21 := hQ21
    obtain ⟨bmp21, esm21, ckm21, cm21, rfl, hrm21, hmp21, hMm21⟩ := id hQ21
    by_cases hbi : bi = 1
    ·
     obtain ⟨hg1, hg2⟩ := mod10_at (t := ns) (n := (nam10 ns (ms.take i)).2) hon hat hbi
     obtain ⟨Lk, hLk⟩ : ∃ Lk, Lk = loc10 ns (mod10 ns (nam10 ns (ms.take i)).2 ((its10 x11).take k)).2 := ⟨_, rfl⟩
     rw [← hLk] at hg1 hg2
     have hnum := mod10_num hnl (nam10 ns (ms.take i)).2 ((its10 x11).take k)
     have hnu0 := nam10_num hnl (ms.take i) (fun m hm => hit m (List.mem_of_mem_take hm))
     have hlb0 := loc10_bounds ns (mod10 ns (nam10 ns (ms.take i)).2 ((its10 x11).take k)).2
     rw [List.length_take] at hnum hnu0
     have hdl : (dot10 Lk).size ≤ maxLen := Nat.le_trans (dot10_le Lk (by omega)) (by decide)
     have hbd : decide (bi = 1) = true := by simp [hbi]
     refine W.region ?_
     refine WL.move rfl rfl rfl ?_
     refine WL.move rfl rfl rfl ?_
     refine WL.indexAddrE (j := i) Tryd.underlying27 isz_40 rfl rfl rfl rfl hj21 hE21 ?_
     refine WL.load1 (v := .map (some bmp21)) one_40 rfl rfl rfl (hS.roCells hr21 hc21 0 _ rfl) ?_
     refine WL.move rfl rfl rfl ?_
     refine WL.mapGetOk (c := ((mod10 ns (nam10 ns (ms.take i)).2 (its10 x11)).1 nm).isSome) nm keyE_str Tryd.underlying40 Tryd.underlying9 zb_9 hMm21 rfl rfl rfl rfl ((hS.snap _ hrm21).2.trans hmp21) (v := .string (((mod10 ns (nam10 ns (ms.take i)).2 (its10 x11)).1 nm).getD ⟨#[]⟩)) (by cases (mod10 ns (nam10 ns (ms.take i)).2 (its10 x11)).1 nm <;> rfl) rfl ?_
     refine WL.move rfl rfl rfl ?_
     refine WL.extract (v := .string (((mod10 ns (nam10 ns (ms.take i)).2 (its10 x11)).1 nm).getD ⟨#[]⟩)) rfl rfl rfl rfl ?_
     refine WL.set 124 (v' := .string (dot10 Lk)) rfl (by rw [hg1]; rfl) ?_
     refine WL.extract (v := .bool (((mod10 ns (nam10 ns (ms.take i)).2 (its10 x11)).1 nm).isSome)) rfl rfl rfl rfl ?_
     refine WL.set 125 (v' := .bool true) rfl (by rw [hg1]; rfl) ?_
     refine WL.assign rfl rfl rfl ?_
     refine WL.assign rfl rfl rfl ?_
     refine WL.nil ?_
     refine N.seq ?_
     refine W.seq ?_
     refine W.seq ?_
     refine W.region ?_
     refine WL.move rfl rfl rfl ?_
     refine WL.move rfl rfl rfl ?_
     refine WL.bin rfl rfl rfl rfl rfl ?_
     refine WL.set 128 (v' := .bool true) rfl (by rw [hbd]) ?_
     refine WL.neBool Tryd.underlying4 rfl rfl rfl rfl ?_
     refine WL.set 129 (v' := .bool false) rfl rfl ?_
     refine WL.nil ?_
     refine N.seq ?_
     refine W.condF rfl ?_
     refine W.skip ?_
     refine N.seq ?_
     refine W.seq ?_
     refine W.seq ?_
     refine W.region ?_
     refine WL.move rfl rfl rfl ?_
     refine WL.not rfl rfl rfl ?_
     refine WL.set 131 (v' := .bool false) rfl rfl ?_
     refine WL.nil ?_
     refine N.seq ?_
     refine W.condF rfl ?_
     refine W.skip ?_
     refine N.seq ?_
     refine W.seq ?_
     refine W.seq ?_
     refine W.region ?_
     refine WL.assign rfl rfl rfl ?_
     refine WL.nil ?_
     refine N.seq ?_
     refine W.block ?_
     refine W.loop (α := Nat) (fun (j : Nat) => [(0, .slice adl ms.length capl), (3, .bool true), (4, .bool (ms.all fun m => decide (check5 m = 0))), (5, .slice adn ns.length capn), (6, .slice ada gs.length capa), (7, .slice adv1 q1 capv1), (8, .int .i64 (i : Int)), (9, .int .i64 (k : Int)), (10, .string nm), (11, .int .i64 bi), (12, .string (dot10 Lk)), (13, .bool true), (14, .int .i64 (j : Int)), (16, .bool true), (17, .slice adl ms.length capl), (18, .bool (ms.all fun m => decide (check5 m = 0))), (19, .bool (ms.all fun m => decide (check5 m = 0))), (20, .bool false), (21, .bool false), (22, .slice adl ms.length capl), (23, .int .i64 (ms.length : Int)), (24, .bool (decide (16 < (ms.length : Int)))), (25, .bool (decide (16 < (ms.length : Int)))), (27, .slice adl ms.length capl), (28, .slice adn ns.length capn), (29, .slice adl ms.length capl), (30, .slice ada gs.length capa), (31, .slice ada gs.length capa), (32, .int .i64 (gs.length : Int)), (33, .slice adl ms.length capl), (34, .int .i64 (ms.length : Int)), (35, .bool false), (36, .int .i64 (i : Int)), (37, .slice adl ms.length capl), (38, .int .i64 (ms.length : Int)), (39, .bool (decide ((i : Int) < (ms.length : Int)))), (42, .int .i64 (k : Int)), (43, .slice adl ms.length capl), (44, .int .i64 (i : Int)), (45, .pointer (some ⟨b11, o11 + i * 2, none⟩)), (46, .pointer (some ⟨b11, o11 + i * 2, none⟩)), (47, .slice adf11 x11.funcs.length capf11), (48, .int .i64 (x11.funcs.length : Int)), (49, .slice adl ms.length capl), (50, .int .i64 (i : Int)), (51, .pointer (some ⟨b11, o11 + i * 2, none⟩)), (52, .pointer (some ⟨b11, o11 + i * 2 + 1, none⟩)), (53, .slice adg11 x11.globs.length capg11), (54, .int .i64 (x11.globs.length : Int)), (55, .int .i64 ((x11.funcs.length : Int) + (x11.globs.length : Int))), (56, .bool (decide ((k : Int) < (x11.funcs.length : Int) + (x11.globs.length : Int)))), (117, .tuple #[.string (((mod10 ns (nam10 ns (ms.take i)).2 (its10 x11)).1 nm).getD ⟨#[]⟩), .bool (((mod10 ns (nam10 ns (ms.take i)).2 (its10 x11)).1 nm).isSome)]), (118, .slice ada gs.length capa), (119, .int .i64 (i : Int)), (120, .pointer (some ⟨b21, o21 + i * 1, none⟩)), (121, .map (some bmp21)), (122, .string nm), (123, .tuple #[.string (((mod10 ns (nam10 ns (ms.take i)).2 (its10 x11)).1 nm).getD ⟨#[]⟩), .bool (((mod10 ns (nam10 ns (ms.take i)).2 (its10 x11)).1 nm).isSome)]), (124, .string (dot10 Lk)), (125, .bool true), (126, .bool true), (127, .int .i64 bi), (128, .bool true), (129, .bool false), (130, .bool true), (131, .bool false)]) (fun (j : Nat) u => St w w7 u (roFrom (roFrom ro w2 w5) w5 w7) [] [⟨.slice adv1 q1 capv1, 9, 1, q1, cs1⟩] ∧ j ≤ ns.length) (fun (j : Nat) => ns.length - j) 0 ⟨rfl, rfl, rfl, rfl, rfl, rfl, rfl, rfl, rfl, rfl, rfl, rfl, rfl, rfl, rfl, rfl, rfl, rfl, rfl, rfl, rfl, rfl, rfl, rfl, rfl, rfl, rfl, rfl, rfl, rfl, rfl, rfl, rfl, rfl, rfl, rfl, rfl, rfl, rfl, rfl, rfl, rfl, rfl, rfl, rfl, rfl, rfl, rfl, rfl, rfl, rfl, rfl, rfl, rfl, rfl, rfl, rfl, rfl, rfl, rfl, rfl, rfl, rfl, rfl, rfl, rfl, trivial⟩ ⟨hS, Nat.zero_le _⟩ ?_
     clear hS
     rintro j w22 ⟨hS, hj⟩
     refine W.seq ?_
     refine W.seq ?_
     refine W.region ?_
     refine WL.move rfl rfl rfl ?_
     refine WL.move rfl rfl rfl ?_
     refine WL.lenSlice Tryd.underlying25 rfl rfl rfl ?_
     refine WL.bin rfl rfl rfl rfl rfl ?_
     refine WL.nil ?_
     refine N.seq ?_
     refine W.cond rfl (fun hc23 => ?_) (fun hc23 => ?_)
     ·
      have hc23p : (j : Int) < (ns.length : Int) := by simpa using hc23
      refine W.skip ?_
      refine N.seq ?_
      refine W.seq ?_
      refine W.block ?_
      refine W.seq ?_
      refine W.region ?_
      refine WL.move rfl rfl rfl ?_
      refine WL.move rfl rfl rfl ?_
      have hj24 : j < ns.length := by omega
      obtain ⟨x24, hx24⟩ : ∃ zz, ns[j]? = some zz := ⟨_, List.getElem?_eq_getElem hj24⟩
      obtain ⟨b24, o24, cs24, hE24, hr24, hl24, hc24, hQ24⟩ := hnd j _ hx24
      obtain ⟨rfl, hsz24⟩ := hQ24
      refine WL.indexAddrE (j := j) Tryd.underlying25 isz_9 rfl rfl rfl rfl hj24 hE24 ?_
      refine WL.load1 (v := .string x24) one_9 rfl rfl rfl (hS.roCells hr24 hc24 0 _ rfl) ?_
      refine WL.move rfl rfl rfl ?_
      refine WL.eqStr rfl rfl rfl rfl ?_
      refine WL.nil ?_
      refine N.seq ?_
      refine W.cond rfl (fun hc25 => ?_) (fun hc25 => ?_)
      ·
       have hc25p : x24 = (dot10 Lk) := by simpa using hc25
       exact absurd (by rw [hLk, ← hLk, ← hc25p]; exact List.mem_of_getElem? hx24) (show ¬ dot10 Lk ∈ ns by rw [hLk]; exact loc10_not ns _)
      have hc25p : ¬ (x24 = (dot10 Lk)) := by simpa using hc25
      refine W.skip ?_
      refine N.blk ?_
      refine N.seq ?_
      refine W.region ?_
      refine WL.move rfl rfl rfl ?_
      refine WL.add (c := (j : Int) + 1) rfl rfl rfl rfl (rfl) (by omega) ?_
      refine WL.assign rfl rfl rfl ?_
      refine WL.nil ?_
      exact N.loop (j + 1) ⟨rfl, rfl, rfl, rfl, rfl, rfl, rfl, rfl, rfl, rfl, rfl, rfl, rfl, rfl, rfl, rfl, rfl, rfl, rfl, rfl, rfl, rfl, rfl, rfl, rfl, rfl, rfl, rfl, rfl, rfl, rfl, rfl, rfl, rfl, rfl, rfl, rfl, rfl, rfl, rfl, rfl, rfl, rfl, rfl, rfl, rfl, rfl, rfl, rfl, rfl, rfl, rfl, rfl, rfl, rfl, rfl, rfl, rfl, rfl, rfl, rfl, rfl, rfl, rfl, rfl, rfl, trivial⟩ ⟨hS, by omega⟩ (by first | omega | (simp only; omega))
     have hc23p : ¬ ((j : Int) < (ns.length : Int)) := by simpa using hc23
     refine W.exit ?_
     refine X.seq ?_
     refine X.loop ?_
     refine X.blk ?_
     refine N.seq ?_
     refine W.seq ?_
     refine W.seq ?_
     refine W.region ?_
     refine WL.assign rfl rfl rfl ?_
     refine WL.nil ?_
     refine N.seq ?_
     refine W.block ?_
     refine W.loop (α := Nat) (fun (z : Nat) => [(0, .slice adl ms.length capl), (3, .bool true), (4, .bool (ms.all fun m => decide (check5 m = 0))), (5, .slice adn ns.length capn), (6, .slice ada gs.length capa), (7, .slice adv1 q1 capv1), (8, .int .i64 (i : Int)), (9, .int .i64 (k : Int)), (10, .string nm), (11, .int .i64 bi), (12, .string (dot10 Lk)), (13, .bool true), (14, .int .i64 (j : Int)), (15, .int .i64 (z : Int)), (16, .bool true), (17, .slice adl ms.length capl), (18, .bool (ms.all fun m => decide (check5 m = 0))), (19, .bool (ms.all fun m => decide (check5 m = 0))), (20, .bool false), (21, .bool false), (22, .slice adl ms.length capl), (23, .int .i64 (ms.length : Int)), (24, .bool (decide (16 < (ms.length : Int)))), (25, .bool (decide (16 < (ms.length : Int)))), (27, .slice adl ms.length capl), (28, .slice adn ns.length capn), (29, .slice adl ms.length capl), (30, .slice ada gs.length capa), (31, .slice ada gs.length capa), (32, .int .i64 (gs.length : Int)), (33, .slice adl ms.length capl), (34, .int .i64 (ms.length : Int)), (35, .bool false), (36, .int .i64 (i : Int)), (37, .slice adl ms.length capl), (38, .int .i64 (ms.length : Int)), (39, .bool (decide ((i : Int) < (ms.length : Int)))), (42, .int .i64 (k : Int)), (43, .slice adl ms.length capl), (44, .int .i64 (i : Int)), (45, .pointer (some ⟨b11, o11 + i * 2, none⟩)), (46, .pointer (some ⟨b11, o11 + i * 2, none⟩)), (47, .slice adf11 x11.funcs.length capf11), (48, .int .i64 (x11.funcs.length : Int)), (49, .slice adl ms.length capl), (50, .int .i64 (i : Int)), (51, .pointer (some ⟨b11, o11 + i * 2, none⟩)), (52, .pointer (some ⟨b11, o11 + i * 2 + 1, none⟩)), (53, .slice adg11 x11.globs.length capg11), (54, .int .i64 (x11.globs.length : Int)), (55, .int .i64 ((x11.funcs.length : Int) + (x11.globs.length : Int))), (56, .bool (decide ((k : Int) < (x11.funcs.length : Int) + (x11.globs.length : Int)))), (117, .tuple #[.string (((mod10 ns (nam10 ns (ms.take i)).2 (its10 x11)).1 nm).getD ⟨#[]⟩), .bool (((mod10 ns (nam10 ns (ms.take i)).2 (its10 x11)).1 nm).isSome)]), (118, .slice ada gs.length capa), (119, .int .i64 (i : Int)), (120, .pointer (some ⟨b21, o21 + i * 1, none⟩)), (121, .map (some bmp21)), (122, .string nm), (123, .tuple #[.string (((mod10 ns (nam10 ns (ms.take i)).2 (its10 x11)).1 nm).getD ⟨#[]⟩), .bool (((mod10 ns (nam10 ns (ms.take i)).2 (its10 x11)).1 nm).isSome)]), (124, .string (dot10 Lk)), (125, .bool true), (126, .bool true), (127, .int .i64 bi), (128, .bool true), (129, .bool false), (130, .bool true), (131, .bool false), (132, .int .i64 (j : Int)), (133, .slice adn ns.length capn), (134, .int .i64 (ns.length : Int)), (135, .bool (decide ((j : Int) < (ns.length : Int))))]) (fun (z : Nat) u => St w w7 u (roFrom (roFrom ro w2 w5) w5 w7) [] [⟨.slice adv1 q1 capv1, 9, 1, q1, cs1⟩] ∧ z ≤ q1) (fun (z : Nat) => q1 - z) 0 ⟨rfl, rfl, rfl, rfl, rfl, rfl, rfl, rfl, rfl, rfl, rfl, rfl, rfl, rfl, rfl, rfl, rfl, rfl, rfl, rfl, rfl, rfl, rfl, rfl, rfl, rfl, rfl, rfl, rfl, rfl, rfl, rfl, rfl, rfl, rfl, rfl, rfl, rfl, rfl, rfl, rfl, rfl, rfl, rfl, rfl, rfl, rfl, rfl, rfl, rfl, rfl, rfl, rfl, rfl, rfl, rfl, rfl, rfl, rfl, rfl, rfl, rfl, rfl, rfl, rfl, rfl, rfl, rfl, rfl, rfl, rfl, trivial⟩ ⟨hS, Nat.zero_le _⟩ ?_
     clear hS
     rintro z w26 ⟨hS, hz⟩
     refine W.seq ?_
     refine W.seq ?_
     refine W.region ?_
     refine WL.move rfl rfl rfl ?_
     refine WL.move rfl rfl rfl ?_
     refine WL.lenSlice Tryd.underlying25 rfl rfl rfl ?_
     refine WL.bin rfl rfl rfl rfl rfl ?_
     refine WL.nil ?_
     refine N.seq ?_
     refine W.cond rfl (fun hc27 => ?_) (fun hc27 => ?_)
     ·
      have hc27p : (z : Int) < (q1 : Int) := by simpa using hc27
      refine W.skip ?_
      refine N.seq ?_
      refine W.seq ?_
      refine W.block ?_
      refine W.seq ?_
      obtain ⟨gq29, rfl⟩ : ∃ g, adv1 = some ⟨g, 0, none⟩ := row_some (hS.rows _ (List.mem_of_getElem? (i := 0) rfl)) (by omega)
      have hj28 : z < hs1.length := by omega
      obtain ⟨x28, hx28⟩ : ∃ zz, hs1[z]? = some zz := ⟨_, List.getElem?_eq_getElem hj28⟩
      have hQ28 := hch1.2 z _ hx28
      generalize hk28 : (cs1.drop (z * 1)).take 1 = c28 at hQ28
      obtain ⟨rfl, hsz28⟩ := hQ28
      refine W.region ?_
      refine WL.move rfl rfl rfl ?_
      refine WL.move rfl rfl rfl ?_
      refine WL.indexAddr (j := z) Tryd.underlying25 isz_9 rfl rfl rfl rfl (by omega) ?_
      refine WL.load1 (v := .string x28) one_9 rfl rfl rfl ((hS.rowCells 0 rfl hk28) 0 _ rfl) ?_
      refine WL.move rfl rfl rfl ?_
      refine WL.eqStr rfl rfl rfl rfl ?_
      refine WL.nil ?_
      refine N.seq ?_
      refine W.cond rfl (fun hc30 => ?_) (fun hc30 => ?_)
      ·
       have hc30p : x28 = (dot10 Lk) := by simpa using hc30
       obtain ⟨j9, hj1, hj2⟩ := hhs1 _ (List.mem_of_getElem? hx28)
       exact absurd (dot10_inj (hj1.symm.trans hc30p)) (by omega)
      have hc30p : ¬ (x28 = (dot10 Lk)) := by simpa using hc30
      refine W.skip ?_
      refine N.blk ?_
      refine N.seq ?_
      refine W.region ?_
      refine WL.move rfl rfl rfl ?_
      refine WL.add (c := (z : Int) + 1) rfl rfl rfl rfl (rfl) (by omega) ?_
      refine WL.assign rfl rfl rfl ?_
      refine WL.nil ?_
      exact N.loop (z + 1) ⟨rfl, rfl, rfl, rfl, rfl, rfl, rfl, rfl, rfl, rfl, rfl, rfl, rfl, rfl, rfl, rfl, rfl, rfl, rfl, rfl, rfl, rfl, rfl, rfl, rfl, rfl, rfl, rfl, rfl, rfl, rfl, rfl, rfl, rfl, rfl, rfl, rfl, rfl, rfl, rfl, rfl, rfl, rfl, rfl, rfl, rfl, rfl, rfl, rfl, rfl, rfl, rfl, rfl, rfl, rfl, rfl, rfl, rfl, rfl, rfl, rfl, rfl, rfl, rfl, rfl, rfl, rfl, rfl, rfl, rfl, rfl, trivial⟩ ⟨hS, by omega⟩ (by first | omega | (simp only; omega))
     have hc27p : ¬ ((z : Int) < (q1 : Int)) := by simpa using hc27
     refine W.exit ?_
     refine X.seq ?_
     refine X.loop ?_
     refine X.blk ?_
     refine N.seq ?_
     refine W.region ?_
     refine WL.move rfl rfl rfl ?_
     refine WL.move rfl rfl rfl ?_
     refine WL.buildSlice (ps := [(0, .string (dot10 Lk))]) (cs := [.string (dot10 Lk)]) Tryd.underlying25 (tyZero_spec zer_9) rfl rfl rfl rfl (by kernel_rfl) hS ?_
     clear hS; intro w32 b31 hb_b31 hS
     have hle : q1 + 1 ≤ 1048577 := by omega
     refine WL.append (r := ⟨.slice adv1 q1 capv1, 9, 1, q1, cs1⟩) (cs := [.string (dot10 Lk)]) 16 Tryd.underlying25 (tyZero_spec zer_9) byt_9 rfl rfl rfl rfl rfl rfl rfl rfl rfl hS (by unfold maxLen; simp only; omega) (by simp only; omega) ?_
     clear hS; intro w33 v34 hn_v34 hS
     have hrow : w33.ownsRow w.heap.size 9 1 v34 (q1 + 1) _ := hS.rows _ List.mem_cons_self
     obtain ⟨av34, cv34, rfl, hc1_v34, hc2_v34, hc3_v34⟩ := row_shape hrow
     clear hrow
     refine WL.assign rfl rfl rfl ?_
     refine WL.nil ?_
     refine N.blk ?_
     refine N.seq ?_
     refine W.region ?_
     refine WL.move rfl rfl rfl ?_
     refine WL.add (c := (k : Int) + 1) rfl rfl rfl rfl (rfl) (by omega) ?_
     refine WL.assign rfl rfl rfl ?_
     refine WL.nil ?_
     have hhs2 : ∀ s ∈ hs1 ++ [dot10 Lk], ∃ j, s = dot10 j ∧ j < (mod10 ns (nam10 ns (ms.take i)).2 ((its10 x11).take (k + 1))).2 := by
      rw [hg2]; intro s hs9
      rcases List.mem_append.1 hs9 with h | h
      ·
       obtain ⟨j, h1, h2⟩ := hhs1 s h; exact ⟨j, h1, by have := (loc10_bounds ns (mod10 ns (nam10 ns (ms.take i)).2 ((its10 x11).take k)).2).1; omega⟩
      exact ⟨Lk, List.mem_singleton.1 h, by omega⟩
     exact N.loop (k + 1, .slice av34 (q1 + 1) cv34, cs1 ++ ([.string (dot10 Lk)] : List Value), q1 + 1, hs1 ++ [dot10 Lk]) ⟨rfl, rfl, rfl, rfl, rfl, rfl, rfl, rfl, rfl, rfl, rfl, rfl, rfl, rfl, rfl, rfl, rfl, rfl, rfl, rfl, rfl, rfl, rfl, rfl, rfl, rfl, rfl, rfl, rfl, rfl, rfl, trivial⟩ ⟨hS, by omega, hch1.snoc rfl ⟨rfl, hdl⟩, by rw [List.length_append, ← hq1]; rfl, by omega, hhs2⟩ (by first | omega | (simp only; omega))
    have hg1 := mod10_none (t := ns) (n := (nam10 ns (ms.take i)).2) hon hat hbi
    have hbd : decide (bi = 1) = false := by simp [hbi]
    refine W.region ?_
    refine WL.move rfl rfl rfl ?_
    refine WL.move rfl rfl rfl ?_
    refine WL.indexAddrE (j := i) Tryd.underlying27 isz_40 rfl rfl rfl rfl hj21 hE21 ?_
    refine WL.load1 (v := .map (some bmp21)) one_40 rfl rfl rfl (hS.roCells hr21 hc21 0 _ rfl) ?_
    refine WL.move rfl rfl rfl ?_
    refine WL.mapGetOk (c := ((mod10 ns (nam10 ns (ms.take i)).2 (its10 x11)).1 nm).isSome) nm keyE_str Tryd.underlying40 Tryd.underlying9 zb_9 hMm21 rfl rfl rfl rfl ((hS.snap _ hrm21).2.trans hmp21) (v := .string (((mod10 ns (nam10 ns (ms.take i)).2 (its10 x11)).1 nm).getD ⟨#[]⟩)) (by cases (mod10 ns (nam10 ns (ms.take i)).2 (its10 x11)).1 nm <;> rfl) rfl ?_
    refine WL.move rfl rfl rfl ?_
    refine WL.extract (v := .string (((mod10 ns (nam10 ns (ms.take i)).2 (its10 x11)).1 nm).getD ⟨#[]⟩)) rfl rfl rfl rfl ?_
    refine WL.set 124 (v' := .string ⟨#[]⟩) rfl (by rw [hg1]; rfl) ?_
    refine WL.extract (v := .bool (((mod10 ns (nam10 ns (ms.take i)).2 (its10 x11)).1 nm).isSome)) rfl rfl rfl rfl ?_
    refine WL.set 125 (v' := .bool false) rfl (by rw [hg1]; rfl) ?_
    refine WL.assign rfl rfl rfl ?_
    refine WL.assign rfl rfl rfl ?_
    refine WL.nil ?_
    refine N.seq ?_
    refine W.seq ?_
    refine W.seq ?_
    refine W.region ?_
    refine WL.move rfl rfl rfl ?_
    refine WL.move rfl rfl rfl ?_
    refine WL.bin rfl rfl rfl rfl rfl ?_
    refine WL.set 128 (v' := .bool false) rfl (by rw [hbd]) ?_
    refine WL.neBool Tryd.underlying4 rfl rfl rfl rfl ?_
    refine WL.set 129 (v' := .bool false) rfl rfl ?_
    refine WL.nil ?_
    refine N.seq ?_
    refine W.condF rfl ?_
    refine W.skip ?_
    refine N.seq ?_
    refine W.seq ?_
    refine W.seq ?_
    refine W.region ?_
    refine WL.move rfl rfl rfl ?_
    refine WL.not rfl rfl rfl ?_
    refine WL.set 131 (v' := .bool true) rfl rfl ?_
    refine WL.nil ?_
    refine N.seq ?_
    refine W.condT rfl ?_
    refine W.exit ?_
    refine X.seq ?_
    refine X.blk ?_
    refine N.seq ?_
    refine W.region ?_
    refine WL.move rfl rfl rfl ?_
    refine WL.add (c := (k : Int) + 1) rfl rfl rfl rfl (rfl) (by omega) ?_
    refine WL.assign rfl rfl rfl ?_
    refine WL.nil ?_
    exact N.loop (k + 1, .slice adv1 q1 capv1, cs1, q1, hs1) ⟨rfl, rfl, rfl, rfl, rfl, rfl, rfl, rfl, rfl, rfl, rfl, rfl, rfl, rfl, rfl, rfl, rfl, rfl, rfl, rfl, rfl, rfl, rfl, rfl, rfl, rfl, rfl, rfl, rfl, rfl, rfl, trivial⟩ ⟨hS, by omega, hch1, hq1, by omega, by rw [mod10_next hat, give10_no1 hbi]; exact hhs1⟩ (by first | omega | (simp only; omega))
   have hc14p : ¬ ((k : Int) < (x11.funcs.length : Int) + (x11.globs.length : Int)) := by simpa using hc14
   refine W.exit ?_
   refine X.seq ?_
   refine X.loop ?_
   refine X.blk ?_
   refine N.blk ?_
   refine N.seq ?_
   refine W.region ?_
   refine WL.move rfl rfl rfl ?_
   refine WL.add (c := (i : Int) + 1) rfl rfl rfl rfl (rfl) (by omega) ?_
   refine WL.assign rfl rfl rfl ?_
   refine WL.nil ?_
   have hke : k = (its10 x11).length := by rw [its_len]; omega
   have hkl := hit x11 (List.mem_of_getElem? hx11)
   have hhs2 : ∀ s ∈ hs1, ∃ j, s = dot10 j ∧ j < (nam10 ns (ms.take (i + 1))).2 := by rw [nam10_next hx11]; rw [hke, List.take_length] at hhs1; exact hhs1
   exact N.loop (i + 1, .slice adv1 q1 capv1, cs1, q1, hs1) ⟨rfl, rfl, rfl, rfl, rfl, rfl, rfl, rfl, rfl, rfl, rfl, rfl, rfl, rfl, rfl, rfl, rfl, rfl, rfl, rfl, rfl, rfl, rfl, rfl, rfl, rfl, trivial⟩ ⟨hS, by omega, hch1, hq1, by omega, hhs2⟩ (by first | omega | (simp only; omega))
  have hc10p : ¬ ((i : Int) < (ms.length : Int)) := by simpa using hc10
  refine W.exit ?_
  refine X.seq ?_
  refine X.loop ?_
  refine X.blk ?_
  refine N.seq ?_
  refine W.seq ?_
  refine W.region ?_
  refine WL.move rfl rfl rfl ?_
  refine WL.assign rfl rfl rfl ?_
  refine WL.nil ?_
  refine N.seq ?_
  refine Fin.ret1 rfl (v := .bool true) rfl ?_
  exact ⟨rfl, hS.below⟩
 refine WL.set 20 (v' := .bool true) rfl (by rw [hg3]) ?_
 refine WL.set 21 (v' := .bool true) rfl (by rw [hg3]) ?_
 refine WL.skp rfl rfl ?_
 refine WL.skp rfl rfl ?_
 refine WL.skp rfl rfl ?_
 refine WL.pick (v := .bool true) rfl rfl rfl rfl rfl rfl ?_
 refine WL.nil ?_
 refine N.seq ?_
 refine W.condT rfl ?_
 refine W.seq ?_
 refine W.region ?_
 refine WL.move rfl rfl rfl ?_
 refine WL.assign rfl rfl rfl ?_
 refine WL.nil ?_
 refine N.seq ?_
 refine Fin.ret1 rfl (v := .bool true) rfl ?_
 exact ⟨rfl, hS.below⟩

end Go.Proofs.YtapjejjmhmdmdaaDoor
