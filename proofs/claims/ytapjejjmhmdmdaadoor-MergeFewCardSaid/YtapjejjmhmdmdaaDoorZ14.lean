/-
  Contracts of layer 10 (merge). No condition beyond those that each theorem states.
-/
import Derived.Test.YtapjejjmhmdmdaaDoorZ12
namespace Go.Proofs.YtapjejjmhmdmdaaDoor
open Go.RowKit

set_option maxRecDepth 10000 in
set_option maxHeartbeats 4000000 in
theorem mergeFew_ret (ms : List DMod) (ks : List ByteArray) (vx vk : Value) {w : World} {ro : Nat → Prop} (hro : ∀ b, ro b → b < w.heap.size) (hx : SlV ro w 2 (ModC ro w) vx ms) (hk : SlV ro w 1 StrC vk ks) (hpw : PowT ro w) (hokm : ∀ m ∈ ms, okMod m) : Ret Tryd.prog 8 #[vx, vk] w fun v w' => v = .bool true ∧ Below w.heap.size w w' := by
 have hxo := hx
 obtain ⟨adl, capl, rfl, hla, hlb, hlc, hld⟩ := hxo
 have hlm : ms.length ≤ 9223372036854775807 := slv_len hx
 obtain ⟨adk, capk, rfl, hk0a, hk0b, hk0c, hk0d⟩ := id hk
 have hk0m : ks.length ≤ 9223372036854775807 := by have h1 := hk0a; have h2 := hk0b; unfold maxLen at h2; omega
 refine Ret.enter (P := Tryd.prog) (n := 94) (args := [.slice adl ms.length capl, .slice adk ks.length capk]) (σ := [(0, .slice adl ms.length capl), (1, .slice adk ks.length capk)]) Tryd.func8 rfl rfl rfl rfl ?_
 have hS := St.start (ro := ro) hro
 have hsub : ∀ b, ro b → ro b ∨ w.heap.size ≤ b := fun _ h => .inl h
 have halT : Alike ro w ro w := Alike.refl
 refine W.seq ?_
 refine W.region ?_
 refine WL.assign rfl rfl rfl ?_
 refine WL.nil ?_
 refine N.seq ?_
 refine W.seq ?_
 refine W.region ?_
 refine WL.callF (vs := []) Tryd.func9 (by kernel_rfl) rfl rfl rfl (shown10_ret (ro := ro) (fun b hb => (hS.snap b hb).1) (hpw.keep hS.alike)) ?_
 rintro v w1 ⟨rfl, hbl⟩
 replace hS := hS.grow hbl
 refine WL.assign rfl rfl rfl ?_
 refine WL.nil ?_
 refine N.seq ?_
 refine W.seq ?_
 refine W.region ?_
 refine WL.move rfl rfl rfl ?_
 refine WL.callF (vs := [.slice adl ms.length capl]) Tryd.func10 (by kernel_rfl) rfl rfl rfl (right10_ret ms _ (ro := ro) (fun b hb => (hS.snap b hb).1) (SlV.keep hx hS.alike (fun _ _ q => q.keep hS.alike)) hokm) ?_
 rintro v w2 ⟨rfl, hbl⟩
 replace hS := hS.grow hbl
 refine WL.assign rfl rfl rfl ?_
 refine WL.nil ?_
 refine N.seq ?_
 refine W.seq ?_
 refine W.region ?_
 refine WL.move rfl rfl rfl ?_
 refine WL.move rfl rfl rfl ?_
 refine WL.callF (vs := [.slice adl ms.length capl, .slice adk ks.length capk]) Tryd.func13 (by kernel_rfl) rfl rfl rfl (few10_ret ms ks _ _ (ro := ro) (fun b hb => (hS.snap b hb).1) (SlV.keep hx hS.alike (fun _ _ q => q.keep hS.alike)) (SlV.keep hk hS.alike (fun _ _ q => q))) ?_
 rintro v w3 ⟨rfl, hbl⟩
 replace hS := hS.grow hbl
 refine WL.assign rfl rfl rfl ?_
 refine WL.nil ?_
 refine N.seq ?_
 refine W.seq ?_
 refine W.seq ?_
 refine W.region ?_
 refine WL.move rfl rfl rfl ?_
 refine WL.not rfl rfl rfl ?_
 refine WL.move rfl rfl rfl ?_
 rcases (Bool.eq_false_or_eq_true (!(ms.all fun m => decide (check5 m = 0)))).symm with hg4 | hg4
 ·
  refine WL.set 21 (v' := .bool false) rfl (by rw [hg4]) ?_
  refine WL.set 22 (v' := .bool false) rfl (by rw [hg4]) ?_
  refine WL.move rfl rfl rfl ?_
  refine WL.not rfl rfl rfl ?_
  refine WL.pick (v := .bool (!(fewB ms ks))) rfl rfl rfl rfl rfl rfl ?_
  refine WL.nil ?_
  refine N.seq ?_
  refine W.cond rfl (fun hc5 => ?_) (fun hc5 => ?_)
  ·
   refine W.seq ?_
   refine W.region ?_
   refine WL.move rfl rfl rfl ?_
   refine WL.assign rfl rfl rfl ?_
   refine WL.nil ?_
   refine N.seq ?_
   refine Fin.ret1 rfl (v := .bool true) rfl ?_
   exact ⟨rfl, hS.below⟩
  refine W.skip ?_
  refine N.seq ?_
  refine W.seq ?_
  refine W.region ?_
  refine WL.move rfl rfl rfl ?_
  refine WL.move rfl rfl rfl ?_
  have hrt : ∀ m ∈ ms, check5 m = 0 := fun m hm => by have h := hg4; simp only [Bool.not_eq_false', Bool.not_eq_true, List.all_eq_true, decide_eq_true_eq, Bool.not_eq_true', Bool.not_eq_false] at h; exact h m hm
  have hfw : ms.length ≤ 16 ∧ ks.length ≤ 16 := fewB_iff.1 (by simpa using hc5)
  obtain ⟨hml, hkl⟩ := hfw
  refine WL.callF (vs := [.slice adl ms.length capl, .slice adk ks.length capk]) Tryd.func14 (by kernel_rfl) rfl rfl rfl (all10_ret ms ks _ _ (ro := ro) (fun b hb => (hS.snap b hb).1) (SlV.keep hx hS.alike (fun _ _ q => q.keep hS.alike)) (SlV.keep hk hS.alike (fun _ _ q => q)) (hpw.keep hS.alike) hrt hml) ?_
  rintro v w6 ⟨csm, rfl, hmr, hbl⟩
  have hal7 := hS.alikeTo hbl (ro' := (roFrom ro w3 w6)) (fun b hb => .inl hb)
  replace hsub : ∀ b, (roFrom ro w3 w6) b → ro b ∨ w.heap.size ≤ b := fun b hb => hb.elim (hsub b) (fun h => .inr (Nat.le_trans hS.below.size h.1))
  replace halT := halT.trans hal7
  replace hld : Elems (roFrom ro w3 w6) w6 2 (ModC (roFrom ro w3 w6) w6) adl ms := hld.keep hal7 (fun _ _ h => h.keep hal7)
  replace hx : SlV (roFrom ro w3 w6) w6 2 (ModC (roFrom ro w3 w6) w6) (.slice adl ms.length capl) ms := SlV.keep hx hal7 (fun _ _ h => h.keep hal7)
  replace hk0d : Elems (roFrom ro w3 w6) w6 1 StrC adk ks := hk0d.keep hal7 (fun _ _ h => h)
  replace hk : SlV (roFrom ro w3 w6) w6 1 StrC (.slice adk ks.length capk) ks := SlV.keep hk hal7 (fun _ _ h => h)
  replace hpw := hpw.keep hal7
  replace hS := hS.readNew hbl
  obtain ⟨M, hM0⟩ : ∃ M, M = (merge10 ms ks).1 := ⟨_, rfl⟩
  rw [← hM0] at hmr
  obtain ⟨sfR, sgR, rfl, hfsR, hgsR⟩ := id hmr
  obtain ⟨adfR, capfR, rfl, hfsRa, hfsRb, hfsRc, hfsRd⟩ := id hfsR
  have hfsRm : M.funcs.length ≤ 9223372036854775807 := by have h1 := hfsRa; have h2 := hfsRb; unfold maxLen at h2; omega
  obtain ⟨adgR, capgR, rfl, hgsRa, hgsRb, hgsRc, hgsRd⟩ := id hgsR
  have hgsRm : M.globs.length ≤ 9223372036854775807 := by have h1 := hgsRa; have h2 := hgsRb; unfold maxLen at h2; omega
  refine WL.move rfl rfl rfl ?_
  refine WL.extract (v := .agg #[.slice adfR M.funcs.length capfR, .slice adgR M.globs.length capgR]) rfl rfl rfl rfl ?_
  refine WL.extract (v := .int .i64 ((merge10 ms ks).2)) rfl rfl rfl rfl ?_
  refine WL.alloc (tyZero_spec zer_32) rfl rfl hS ?_
  clear hS; intro w9 b8 hb_b8 hS
  refine WL.store (cs := [.slice adfR M.funcs.length capfR, .slice adgR M.globs.length capgR]) (c' := #[.slice adfR M.funcs.length capfR, .slice adgR M.globs.length capgR]) (L' := [(b8, .cells #[.slice adfR M.funcs.length capfR, .slice adgR M.globs.length capgR] 32 (0, 0))]) 0 rfl rfl rfl rfl siz_32 rfl rfl rfl rfl rfl hS ?_
  clear hS; intro w10 hS
  refine WL.assign rfl rfl rfl ?_
  refine WL.nil ?_
  refine N.seq ?_
  refine W.seq ?_
  refine W.seq ?_
  refine W.region ?_
  refine WL.move rfl rfl rfl ?_
  refine WL.bin rfl rfl rfl rfl rfl ?_
  refine WL.nil ?_
  refine N.seq ?_
  refine W.cond rfl (fun hc11 => ?_) (fun hc11 => ?_)
  ·
   have hc11p : ¬ ((merge10 ms ks).2 = 0) := by simpa using hc11
   refine W.seq ?_
   refine W.region ?_
   refine WL.move rfl rfl rfl ?_
   refine WL.assign rfl rfl rfl ?_
   refine WL.nil ?_
   refine N.seq ?_
   refine Fin.ret1 rfl (v := .bool true) rfl ?_
   exact ⟨rfl, hS.below⟩
  have hc11p : (merge10 ms ks).2 = 0 := by simpa using hc11
  refine W.skip ?_
  refine N.seq ?_
  refine W.seq ?_
  refine W.region ?_
  refine WL.assign rfl rfl rfl ?_
  refine WL.nil ?_
  refine N.seq ?_
  refine W.seq ?_
  refine W.seq ?_
  refine W.region ?_
  refine WL.assign rfl rfl rfl ?_
  refine WL.nil ?_
  refine N.seq ?_
  refine W.block ?_
  have hm0 : (merge10 ms ks).2 = 0 := by simpa using hc11p
  have hF := out10_facts hrt hm0
  rw [← hM0] at hF
  obtain ⟨hfm, hgm⟩ := hF.few
  have hsz : ∀ k, k ≤ ms.length → ((ms.take k).map fun m => m.funcs.length + m.globs.length).sum ≤ k * 32 := fun k _ => by have h := zip10_sum (ms := ms) (gs := List.replicate ms.length (fun _ => none)) (fun m hm => its_small (hrt m hm)) k; have e := congrArg (List.take k) (zip10_fst (ms := ms) (gs := List.replicate ms.length (fun _ => none)) (by simp)); rw [← List.map_take] at e; rw [← e, List.map_map]; exact h
  refine W.loop (α := Nat × Nat) (fun ⟨i, q⟩ => [(0, .slice adl ms.length capl), (1, .slice adk ks.length capk), (4, .bool false), (5, .bool true), (6, .bool (ms.all fun m => decide (check5 m = 0))), (7, .bool (fewB ms ks)), (8, .pointer (some ⟨b8, 0, none⟩)), (9, .int .i64 ((merge10 ms ks).2)), (10, .int .i64 (q : Int)), (11, .int .i64 (i : Int)), (14, .bool true), (15, .slice adl ms.length capl), (16, .bool (ms.all fun m => decide (check5 m = 0))), (17, .slice adl ms.length capl), (18, .slice adk ks.length capk), (19, .bool (fewB ms ks)), (20, .bool (ms.all fun m => decide (check5 m = 0))), (21, .bool false), (22, .bool false), (23, .bool (fewB ms ks)), (24, .bool (!(fewB ms ks))), (25, .bool (!(fewB ms ks))), (27, .tuple #[.agg #[.slice adfR M.funcs.length capfR, .slice adgR M.globs.length capgR], .int .i64 ((merge10 ms ks).2)]), (28, .slice adl ms.length capl), (29, .slice adk ks.length capk), (30, .tuple #[.agg #[.slice adfR M.funcs.length capfR, .slice adgR M.globs.length capgR], .int .i64 ((merge10 ms ks).2)]), (31, .agg #[.slice adfR M.funcs.length capfR, .slice adgR M.globs.length capgR]), (32, .int .i64 ((merge10 ms ks).2)), (33, .int .i64 ((merge10 ms ks).2)), (34, .bool (!decide ((merge10 ms ks).2 = 0)))]) (fun ⟨i, q⟩ u => St w w6 u (roFrom ro w3 w6) [(b8, .cells #[.slice adfR M.funcs.length capfR, .slice adgR M.globs.length capgR] 32 (0, 0))] [] ∧ i ≤ ms.length ∧ q = ((ms.take i).map fun m => m.funcs.length + m.globs.length).sum) (fun ⟨i, q⟩ => ms.length - i) (0, 0) ⟨rfl, rfl, rfl, rfl, rfl, rfl, rfl, rfl, rfl, rfl, rfl, rfl, rfl, rfl, rfl, rfl, rfl, rfl, rfl, rfl, rfl, rfl, rfl, rfl, rfl, rfl, rfl, rfl, rfl, rfl, trivial⟩ ⟨hS, Nat.zero_le _, rfl⟩ ?_
  clear hS
  rintro ⟨i, q⟩ w12 ⟨hS, hi, hq⟩
  have hqb := hsz i hi
  rw [← hq] at hqb
  refine W.seq ?_
  refine W.seq ?_
  refine W.region ?_
  refine WL.move rfl rfl rfl ?_
  refine WL.move rfl rfl rfl ?_
  refine WL.lenSlice Tryd.underlying22 rfl rfl rfl ?_
  refine WL.bin rfl rfl rfl rfl rfl ?_
  refine WL.nil ?_
  refine N.seq ?_
  refine W.cond rfl (fun hc13 => ?_) (fun hc13 => ?_)
  ·
   have hc13p : (i : Int) < (ms.length : Int) := by simpa using hc13
   refine W.skip ?_
   refine N.seq ?_
   refine W.seq ?_
   refine W.block ?_
   have hj14 : i < ms.length := by omega
   obtain ⟨x14, hx14⟩ : ∃ zz, ms[i]? = some zz := ⟨_, List.getElem?_eq_getElem hj14⟩
   obtain ⟨b14, o14, cs14, hE14, hr14, hl14, hc14, hQ14⟩ := hld i _ hx14
   obtain ⟨sf14, sg14, rfl, hfs14, hgs14⟩ := id hQ14
   obtain ⟨adf14, capf14, rfl, hfs14a, hfs14b, hfs14c, hfs14d⟩ := id hfs14
   have hfs14m : x14.funcs.length ≤ 9223372036854775807 := by have h1 := hfs14a; have h2 := hfs14b; unfold maxLen at h2; omega
   obtain ⟨adg14, capg14, rfl, hgs14a, hgs14b, hgs14c, hgs14d⟩ := id hgs14
   have hgs14m : x14.globs.length ≤ 9223372036854775807 := by have h1 := hgs14a; have h2 := hgs14b; unfold maxLen at h2; omega
   have hcks := check5_all (hrt x14 (List.mem_of_getElem? hx14))
   have hcf := hcks.1; have hcg := hcks.2.1
   refine W.drawL (by kernel_rfl) 15 ((.q (.int .i64 (q : Int))) :: (.q (.slice adl ms.length capl)) :: (.q (.int .i64 (i : Int))) :: (.q (.pointer (some ⟨b14, o14 + i * 2, none⟩))) :: (.q (.pointer (some ⟨b14, o14 + i * 2, none⟩))) :: (.q (.slice adf14 x14.funcs.length capf14)) :: (.q (.int .i64 (x14.funcs.length : Int))) :: (.q (.int .i64 ((q : Int) + (x14.funcs.length : Int)))) :: (.q (.slice adl ms.length capl)) :: (.q (.int .i64 (i : Int))) :: (.q (.pointer (some ⟨b14, o14 + i * 2, none⟩))) :: (.q (.pointer (some ⟨b14, o14 + i * 2 + 1, none⟩))) :: (.q (.slice adg14 x14.globs.length capg14)) :: (.q (.int .i64 (x14.globs.length : Int))) :: (.q (.int .i64 (((q : Int) + (x14.funcs.length : Int)) + (x14.globs.length : Int)))) :: []) (by kernel_rfl) (by kernel_rfl) [(0, .slice adl ms.length capl), (1, .slice adk ks.length capk), (4, .bool false), (5, .bool true), (6, .bool (ms.all fun m => decide (check5 m = 0))), (7, .bool (fewB ms ks)), (8, .pointer (some ⟨b8, 0, none⟩)), (9, .int .i64 ((merge10 ms ks).2)), (10, .int .i64 (q : Int)), (11, .int .i64 (i : Int)), (14, .bool true), (15, .slice adl ms.length capl), (16, .bool (ms.all fun m => decide (check5 m = 0))), (17, .slice adl ms.length capl), (18, .slice adk ks.length capk), (19, .bool (fewB ms ks)), (20, .bool (ms.all fun m => decide (check5 m = 0))), (21, .bool false), (22, .bool false), (23, .bool (fewB ms ks)), (24, .bool (!(fewB ms ks))), (25, .bool (!(fewB ms ks))), (27, .tuple #[.agg #[.slice adfR M.funcs.length capfR, .slice adgR M.globs.length capgR], .int .i64 ((merge10 ms ks).2)]), (28, .slice adl ms.length capl), (29, .slice adk ks.length capk), (30, .tuple #[.agg #[.slice adfR M.funcs.length capfR, .slice adgR M.globs.length capgR], .int .i64 ((merge10 ms ks).2)]), (31, .agg #[.slice adfR M.funcs.length capfR, .slice adgR M.globs.length capgR]), (32, .int .i64 ((merge10 ms ks).2)), (33, .int .i64 ((merge10 ms ks).2)), (34, .bool (!decide ((merge10 ms ks).2 = 0))), (36, .int .i64 (i : Int)), (37, .slice adl ms.length capl), (38, .int .i64 (ms.length : Int)), (39, .bool (decide ((i : Int) < (ms.length : Int))))] ⟨rfl, rfl, rfl, rfl, rfl, rfl, rfl, rfl, rfl, rfl, rfl, rfl, rfl, rfl, rfl, rfl, rfl, rfl, rfl, rfl, rfl, rfl, rfl, rfl, rfl, rfl, rfl, rfl, rfl, rfl, rfl, rfl, rfl, rfl, trivial⟩ (by kernel_rfl) hS ?_ ?_
   ·
    refine And.intro (fun β w hS => ?_) ?_
    ·
     refine WL.sub (σ' := [(10, .int .i64 (q : Int))]) ⟨rfl, trivial⟩ ?_
     refine WL.move rfl rfl rfl ?_
     exact WL.nil (N.cut () ⟨rfl, trivial⟩ (Below.refl _ _))
    refine And.intro (fun β w hS => ?_) ?_
    ·
     refine WL.sub (σ' := [(0, .slice adl ms.length capl)]) ⟨rfl, trivial⟩ ?_
     refine WL.move rfl rfl rfl ?_
     exact WL.nil (N.cut () ⟨rfl, trivial⟩ (Below.refl _ _))
    refine And.intro (fun β w hS => ?_) ?_
    ·
     refine WL.sub (σ' := [(11, .int .i64 (i : Int))]) ⟨rfl, trivial⟩ ?_
     refine WL.move rfl rfl rfl ?_
     exact WL.nil (N.cut () ⟨rfl, trivial⟩ (Below.refl _ _))
    refine And.intro (fun β w hS => ?_) ?_
    ·
     refine WL.sub (σ' := [(43, .slice adl ms.length capl), (44, .int .i64 (i : Int))]) ⟨rfl, rfl, trivial⟩ ?_
     refine WL.indexAddrE (j := i) Tryd.underlying22 isz_32 rfl rfl rfl rfl hj14 hE14 ?_
     exact WL.nil (N.cut () ⟨rfl, trivial⟩ (Below.refl _ _))
    refine And.intro (fun β w hS => ?_) ?_
    ·
     refine WL.sub (σ' := [(45, .pointer (some ⟨b14, o14 + i * 2, none⟩))]) ⟨rfl, trivial⟩ ?_
     refine WL.fieldAddr fo_32_0 rfl rfl rfl ?_
     exact WL.nil (N.cut () ⟨rfl, trivial⟩ (Below.refl _ _))
    refine And.intro (fun β w hS => ?_) ?_
    ·
     refine WL.sub (σ' := [(46, .pointer (some ⟨b14, o14 + i * 2, none⟩))]) ⟨rfl, trivial⟩ ?_
     refine WL.load1 (v := .slice adf14 x14.funcs.length capf14) one_29 rfl rfl rfl (hS.roCells hr14 hc14 0 _ rfl) ?_
     exact WL.nil (N.cut () ⟨rfl, trivial⟩ (Below.refl _ _))
    refine And.intro (fun β w hS => ?_) ?_
    ·
     refine WL.sub (σ' := [(47, .slice adf14 x14.funcs.length capf14)]) ⟨rfl, trivial⟩ ?_
     refine WL.lenSlice Tryd.underlying29 rfl rfl rfl ?_
     exact WL.nil (N.cut () ⟨rfl, trivial⟩ (Below.refl _ _))
    refine And.intro (fun β w hS => ?_) ?_
    ·
     refine WL.sub (σ' := [(42, .int .i64 (q : Int)), (48, .int .i64 (x14.funcs.length : Int))]) ⟨rfl, rfl, trivial⟩ ?_
     refine WL.add (c := (q : Int) + (x14.funcs.length : Int)) rfl rfl rfl rfl (rfl) (by omega) ?_
     exact WL.nil (N.cut () ⟨rfl, trivial⟩ (Below.refl _ _))
    refine And.intro (fun β w hS => ?_) ?_
    ·
     refine WL.sub (σ' := [(0, .slice adl ms.length capl)]) ⟨rfl, trivial⟩ ?_
     refine WL.move rfl rfl rfl ?_
     exact WL.nil (N.cut () ⟨rfl, trivial⟩ (Below.refl _ _))
    refine And.intro (fun β w hS => ?_) ?_
    ·
     refine WL.sub (σ' := [(11, .int .i64 (i : Int))]) ⟨rfl, trivial⟩ ?_
     refine WL.move rfl rfl rfl ?_
     exact WL.nil (N.cut () ⟨rfl, trivial⟩ (Below.refl _ _))
    refine And.intro (fun β w hS => ?_) ?_
    ·
     refine WL.sub (σ' := [(50, .slice adl ms.length capl), (51, .int .i64 (i : Int))]) ⟨rfl, rfl, trivial⟩ ?_
     refine WL.indexAddrE (j := i) Tryd.underlying22 isz_32 rfl rfl rfl rfl hj14 hE14 ?_
     exact WL.nil (N.cut () ⟨rfl, trivial⟩ (Below.refl _ _))
    refine And.intro (fun β w hS => ?_) ?_
    ·
     refine WL.sub (σ' := [(52, .pointer (some ⟨b14, o14 + i * 2, none⟩))]) ⟨rfl, trivial⟩ ?_
     refine WL.fieldAddr fo_32_1 rfl rfl rfl ?_
     exact WL.nil (N.cut () ⟨rfl, trivial⟩ (Below.refl _ _))
    refine And.intro (fun β w hS => ?_) ?_
    ·
     refine WL.sub (σ' := [(53, .pointer (some ⟨b14, o14 + i * 2 + 1, none⟩))]) ⟨rfl, trivial⟩ ?_
     refine WL.load1 (v := .slice adg14 x14.globs.length capg14) one_30 rfl rfl rfl (hS.roCells hr14 hc14 1 _ rfl) ?_
     exact WL.nil (N.cut () ⟨rfl, trivial⟩ (Below.refl _ _))
    refine And.intro (fun β w hS => ?_) ?_
    ·
     refine WL.sub (σ' := [(54, .slice adg14 x14.globs.length capg14)]) ⟨rfl, trivial⟩ ?_
     refine WL.lenSlice Tryd.underlying30 rfl rfl rfl ?_
     exact WL.nil (N.cut () ⟨rfl, trivial⟩ (Below.refl _ _))
    refine And.intro (fun β w hS => ?_) ?_
    ·
     refine WL.sub (σ' := [(49, .int .i64 ((q : Int) + (x14.funcs.length : Int))), (55, .int .i64 (x14.globs.length : Int))]) ⟨rfl, rfl, trivial⟩ ?_
     refine WL.add (c := ((q : Int) + (x14.funcs.length : Int)) + (x14.globs.length : Int)) rfl rfl rfl rfl (rfl) (by omega) ?_
     exact WL.nil (N.cut () ⟨rfl, trivial⟩ (Below.refl _ _))
    trivial
   clear hS; intro w15 β hS
   refine WL.sub (σ' := [(0, .slice adl ms.length capl), (1, .slice adk ks.length capk), (4, .bool false), (5, .bool true), (6, .bool (ms.all fun m => decide (check5 m = 0))), (7, .bool (fewB ms ks)), (8, .pointer (some ⟨b8, 0, none⟩)), (9, .int .i64 ((merge10 ms ks).2)), (10, .int .i64 (q : Int)), (11, .int .i64 (i : Int)), (14, .bool true), (15, .slice adl ms.length capl), (16, .bool (ms.all fun m => decide (check5 m = 0))), (17, .slice adl ms.length capl), (18, .slice adk ks.length capk), (19, .bool (fewB ms ks)), (20, .bool (ms.all fun m => decide (check5 m = 0))), (21, .bool false), (22, .bool false), (23, .bool (fewB ms ks)), (24, .bool (!(fewB ms ks))), (25, .bool (!(fewB ms ks))), (27, .tuple #[.agg #[.slice adfR M.funcs.length capfR, .slice adgR M.globs.length capgR], .int .i64 ((merge10 ms ks).2)]), (28, .slice adl ms.length capl), (29, .slice adk ks.length capk), (30, .tuple #[.agg #[.slice adfR M.funcs.length capfR, .slice adgR M.globs.length capgR], .int .i64 ((merge10 ms ks).2)]), (31, .agg #[.slice adfR M.funcs.length capfR, .slice adgR M.globs.length capgR]), (32, .int .i64 ((merge10 ms ks).2)), (33, .int .i64 ((merge10 ms ks).2)), (34, .bool (!decide ((merge10 ms ks).2 = 0))), (36, .int .i64 (i : Int)), (37, .slice adl ms.length capl), (38, .int .i64 (ms.length : Int)), (39, .bool (decide ((i : Int) < (ms.length : Int)))), (42, .int .i64 (q : Int)), (43, .slice adl ms.length capl), (44, .int .i64 (i : Int)), (45, .pointer (some ⟨b14, o14 + i * 2, none⟩)), (46, .pointer (some ⟨b14, o14 + i * 2, none⟩)), (47, .slice adf14 x14.funcs.length capf14), (48, .int .i64 (x14.funcs.length : Int)), (49, .int .i64 ((q : Int) + (x14.funcs.length : Int))), (50, .slice adl ms.length capl), (51, .int .i64 (i : Int)), (52, .pointer (some ⟨b14, o14 + i * 2, none⟩)), (53, .pointer (some ⟨b14, o14 + i * 2 + 1, none⟩)), (54, .slice adg14 x14.globs.length capg14), (55, .int .i64 (x14.globs.length : Int)), (56, .int .i64 (((q : Int) + (x14.funcs.length : Int)) + (x14.globs.length : Int)))]) (Sub.ofEq (by kernel_rfl)) ?_
   refine WL.assign rfl rfl rfl ?_
   refine WL.nil ?_
   refine N.blk ?_
   refine N.seq ?_
   refine W.region ?_
   refine WL.move rfl rfl rfl ?_
   refine WL.add (c := (i : Int) + 1) rfl rfl rfl rfl (rfl) (by omega) ?_
   refine WL.assign rfl rfl rfl ?_
   refine WL.nil ?_
   have hq9 : q + x14.funcs.length + x14.globs.length = ((ms.take (i + 1)).map fun m => m.funcs.length + m.globs.length).sum := by rw [take_next hx14, List.map_append, List.sum_append, ← hq]; simp [Nat.add_assoc]
   exact N.loop (i + 1, q + x14.funcs.length + x14.globs.length) ⟨rfl, rfl, rfl, rfl, rfl, rfl, rfl, rfl, rfl, rfl, rfl, rfl, rfl, rfl, rfl, rfl, rfl, rfl, rfl, rfl, rfl, rfl, rfl, rfl, rfl, rfl, rfl, rfl, rfl, rfl, trivial⟩ ⟨hS, by omega, hq9⟩ (by first | omega | (simp only; omega))
  have hc13p : ¬ ((i : Int) < (ms.length : Int)) := by simpa using hc13
  refine W.exit ?_
  refine X.seq ?_
  refine X.loop ?_
  refine X.blk ?_
  refine N.seq ?_
  refine W.seq ?_
  refine W.seq ?_
  refine W.region ?_
  refine WL.assign rfl rfl rfl ?_
  refine WL.nil ?_
  refine N.seq ?_
  refine W.block ?_
  refine W.loop (α := Nat) (fun (j : Nat) => [(0, .slice adl ms.length capl), (1, .slice adk ks.length capk), (5, .bool true), (6, .bool (ms.all fun m => decide (check5 m = 0))), (7, .bool (fewB ms ks)), (8, .pointer (some ⟨b8, 0, none⟩)), (9, .int .i64 ((merge10 ms ks).2)), (10, .int .i64 (q : Int)), (11, .int .i64 (i : Int)), (12, .int .i64 (j : Int)), (14, .bool true), (15, .slice adl ms.length capl), (16, .bool (ms.all fun m => decide (check5 m = 0))), (17, .slice adl ms.length capl), (18, .slice adk ks.length capk), (19, .bool (fewB ms ks)), (20, .bool (ms.all fun m => decide (check5 m = 0))), (21, .bool false), (22, .bool false), (23, .bool (fewB ms ks)), (24, .bool (!(fewB ms ks))), (25, .bool (!(fewB ms ks))), (27, .tuple #[.agg #[.slice adfR M.funcs.length capfR, .slice adgR M.globs.length capgR], .int .i64 ((merge10 ms ks).2)]), (28, .slice adl ms.length capl), (29, .slice adk ks.length capk), (30, .tuple #[.agg #[.slice adfR M.funcs.length capfR, .slice adgR M.globs.length capgR], .int .i64 ((merge10 ms ks).2)]), (31, .agg #[.slice adfR M.funcs.length capfR, .slice adgR M.globs.length capgR]), (32, .int .i64 ((merge10 ms ks).2)), (33, .int .i64 ((merge10 ms ks).2)), (34, .bool (!decide ((merge10 ms ks).2 = 0))), (36, .int .i64 (i : Int)), (37, .slice adl ms.length capl), (38, .int .i64 (ms.length : Int)), (39, .bool (decide ((i : Int) < (ms.length : Int))))]) (fun (j : Nat) u => St w w6 u (roFrom ro w3 w6) [(b8, .cells #[.slice adfR M.funcs.length capfR, .slice adgR M.globs.length capgR] 32 (0, 0))] [] ∧ j ≤ M.funcs.length) (fun (j : Nat) => M.funcs.length - j) 0 ⟨rfl, rfl, rfl, rfl, rfl, rfl, rfl, rfl, rfl, rfl, rfl, rfl, rfl, rfl, rfl, rfl, rfl, rfl, rfl, rfl, rfl, rfl, rfl, rfl, rfl, rfl, rfl, rfl, rfl, rfl, rfl, rfl, rfl, rfl, trivial⟩ ⟨hS, Nat.zero_le _⟩ ?_
  clear hS
  rintro j w16 ⟨hS, hj⟩
  refine W.seq ?_
  refine W.seq ?_
  refine W.region ?_
  refine WL.move rfl rfl rfl ?_
  refine WL.fieldAddr fo_32_0 rfl rfl rfl ?_
  refine WL.load1 (v := .slice adfR M.funcs.length capfR) one_29 rfl rfl rfl (hS.cell 0 rfl rfl) ?_
  refine WL.lenSlice Tryd.underlying29 rfl rfl rfl ?_
  refine WL.bin rfl rfl rfl rfl rfl ?_
  refine WL.nil ?_
  refine N.seq ?_
  refine W.cond rfl (fun hc17 => ?_) (fun hc17 => ?_)
  ·
   have hc17p : (j : Int) < (M.funcs.length : Int) := by simpa using hc17
   refine W.skip ?_
   refine N.seq ?_
   refine W.seq ?_
   refine W.block ?_
   refine W.seq ?_
   refine W.region ?_
   refine WL.assign rfl rfl rfl ?_
   refine WL.nil ?_
   refine N.seq ?_
   refine W.block ?_
   refine W.loop (α := Nat) (fun (z : Nat) => [(0, .slice adl ms.length capl), (1, .slice adk ks.length capk), (5, .bool true), (6, .bool (ms.all fun m => decide (check5 m = 0))), (7, .bool (fewB ms ks)), (8, .pointer (some ⟨b8, 0, none⟩)), (9, .int .i64 ((merge10 ms ks).2)), (10, .int .i64 (q : Int)), (11, .int .i64 (i : Int)), (12, .int .i64 (j : Int)), (13, .int .i64 (z : Int)), (14, .bool true), (15, .slice adl ms.length capl), (16, .bool (ms.all fun m => decide (check5 m = 0))), (17, .slice adl ms.length capl), (18, .slice adk ks.length capk), (19, .bool (fewB ms ks)), (20, .bool (ms.all fun m => decide (check5 m = 0))), (21, .bool false), (22, .bool false), (23, .bool (fewB ms ks)), (24, .bool (!(fewB ms ks))), (25, .bool (!(fewB ms ks))), (27, .tuple #[.agg #[.slice adfR M.funcs.length capfR, .slice adgR M.globs.length capgR], .int .i64 ((merge10 ms ks).2)]), (28, .slice adl ms.length capl), (29, .slice adk ks.length capk), (30, .tuple #[.agg #[.slice adfR M.funcs.length capfR, .slice adgR M.globs.length capgR], .int .i64 ((merge10 ms ks).2)]), (31, .agg #[.slice adfR M.funcs.length capfR, .slice adgR M.globs.length capgR]), (32, .int .i64 ((merge10 ms ks).2)), (33, .int .i64 ((merge10 ms ks).2)), (34, .bool (!decide ((merge10 ms ks).2 = 0))), (36, .int .i64 (i : Int)), (37, .slice adl ms.length capl), (38, .int .i64 (ms.length : Int)), (39, .bool (decide ((i : Int) < (ms.length : Int)))), (57, .int .i64 (j : Int)), (58, .pointer (some ⟨b8, 0, none⟩)), (59, .slice adfR M.funcs.length capfR), (60, .int .i64 (M.funcs.length : Int)), (61, .bool (decide ((j : Int) < (M.funcs.length : Int))))]) (fun (z : Nat) u => St w w6 u (roFrom ro w3 w6) [(b8, .cells #[.slice adfR M.funcs.length capfR, .slice adgR M.globs.length capgR] 32 (0, 0))] [] ∧ z ≤ j) (fun (z : Nat) => j - z) 0 ⟨rfl, rfl, rfl, rfl, rfl, rfl, rfl, rfl, rfl, rfl, rfl, rfl, rfl, rfl, rfl, rfl, rfl, rfl, rfl, rfl, rfl, rfl, rfl, rfl, rfl, rfl, rfl, rfl, rfl, rfl, rfl, rfl, rfl, rfl, rfl, rfl, rfl, rfl, rfl, rfl, trivial⟩ ⟨hS, Nat.zero_le _⟩ ?_
   clear hS
   rintro z w18 ⟨hS, hz⟩
   refine W.seq ?_
   refine W.seq ?_
   refine W.region ?_
   refine WL.move rfl rfl rfl ?_
   refine WL.move rfl rfl rfl ?_
   refine WL.bin rfl rfl rfl rfl rfl ?_
   refine WL.nil ?_
   refine N.seq ?_
   refine W.cond rfl (fun hc19 => ?_) (fun hc19 => ?_)
   ·
    have hc19p : (z : Int) < (j : Int) := by simpa using hc19
    refine W.skip ?_
    refine N.seq ?_
    refine W.seq ?_
    refine W.block ?_
    refine W.seq ?_
    have hj20 : j < M.funcs.length := by omega
    obtain ⟨x20, hx20⟩ : ∃ zz, M.funcs[j]? = some zz := ⟨_, List.getElem?_eq_getElem hj20⟩
    obtain ⟨b20, o20, cs20, hE20, hr20, hl20, hc20, hQ20⟩ := hfsRd j _ hx20
    obtain ⟨sb20, rfl, hbl20, hnm20, hbd20, hpr20⟩ := id hQ20
    obtain ⟨adb20, capb20, rfl, hbk20a, hbk20b, hbk20c, hbk20d⟩ := id hbl20
    have hbk20m : x20.blocks.length ≤ 9223372036854775807 := by have h1 := hbk20a; have h2 := hbk20b; unfold maxLen at h2; omega
    have hj21 : z < M.funcs.length := by omega
    obtain ⟨x21, hx21⟩ : ∃ zz, M.funcs[z]? = some zz := ⟨_, List.getElem?_eq_getElem hj21⟩
    obtain ⟨b21, o21, cs21, hE21, hr21, hl21, hc21, hQ21⟩ := hfsRd z _ hx21
    obtain ⟨sb21, rfl, hbl21, hnm21, hbd21, hpr21⟩ := id hQ21
    obtain ⟨adb21, capb21, rfl, hbk21a, hbk21b, hbk21c, hbk21d⟩ := id hbl21
    have hbk21m : x21.blocks.length ≤ 9223372036854775807 := by have h1 := hbk21a; have h2 := hbk21b; unfold maxLen at h2; omega
    refine W.drawL (by kernel_rfl) 13 ((.q (.pointer (some ⟨b8, 0, none⟩))) :: (.q (.slice adfR M.funcs.length capfR)) :: (.q (.int .i64 (j : Int))) :: (.q (.pointer (some ⟨b20, o20 + j * 4, none⟩))) :: (.q (.pointer (some ⟨b20, o20 + j * 4, none⟩))) :: (.q (.string x20.name)) :: (.q (.pointer (some ⟨b8, 0, none⟩))) :: (.q (.slice adfR M.funcs.length capfR)) :: (.q (.int .i64 (z : Int))) :: (.q (.pointer (some ⟨b21, o21 + z * 4, none⟩))) :: (.q (.pointer (some ⟨b21, o21 + z * 4, none⟩))) :: (.q (.string x21.name)) :: (.q (.bool false)) :: []) (by kernel_rfl) (by kernel_rfl) [(0, .slice adl ms.length capl), (1, .slice adk ks.length capk), (5, .bool true), (6, .bool (ms.all fun m => decide (check5 m = 0))), (7, .bool (fewB ms ks)), (8, .pointer (some ⟨b8, 0, none⟩)), (9, .int .i64 ((merge10 ms ks).2)), (10, .int .i64 (q : Int)), (11, .int .i64 (i : Int)), (12, .int .i64 (j : Int)), (13, .int .i64 (z : Int)), (14, .bool true), (15, .slice adl ms.length capl), (16, .bool (ms.all fun m => decide (check5 m = 0))), (17, .slice adl ms.length capl), (18, .slice adk ks.length capk), (19, .bool (fewB ms ks)), (20, .bool (ms.all fun m => decide (check5 m = 0))), (21, .bool false), (22, .bool false), (23, .bool (fewB ms ks)), (24, .bool (!(fewB ms ks))), (25, .bool (!(fewB ms ks))), (27, .tuple #[.agg #[.slice adfR M.funcs.length capfR, .slice adgR M.globs.length capgR], .int .i64 ((merge10 ms ks).2)]), (28, .slice adl ms.length capl), (29, .slice adk ks.length capk), (30, .tuple #[.agg #[.slice adfR M.funcs.length capfR, .slice adgR M.globs.length capgR], .int .i64 ((merge10 ms ks).2)]), (31, .agg #[.slice adfR M.funcs.length capfR, .slice adgR M.globs.length capgR]), (32, .int .i64 ((merge10 ms ks).2)), (33, .int .i64 ((merge10 ms ks).2)), (34, .bool (!decide ((merge10 ms ks).2 = 0))), (36, .int .i64 (i : Int)), (37, .slice adl ms.length capl), (38, .int .i64 (ms.length : Int)), (39, .bool (decide ((i : Int) < (ms.length : Int)))), (57, .int .i64 (j : Int)), (58, .pointer (some ⟨b8, 0, none⟩)), (59, .slice adfR M.funcs.length capfR), (60, .int .i64 (M.funcs.length : Int)), (61, .bool (decide ((j : Int) < (M.funcs.length : Int)))), (64, .int .i64 (z : Int)), (65, .int .i64 (j : Int)), (66, .bool (decide ((z : Int) < (j : Int))))] ⟨rfl, rfl, rfl, rfl, rfl, rfl, rfl, rfl, rfl, rfl, rfl, rfl, rfl, rfl, rfl, rfl, rfl, rfl, rfl, rfl, rfl, rfl, rfl, rfl, rfl, rfl, rfl, rfl, rfl, rfl, rfl, rfl, rfl, rfl, rfl, rfl, rfl, rfl, rfl, rfl, rfl, rfl, rfl, trivial⟩ (by kernel_rfl) hS ?_ ?_
    ·
     refine And.intro (fun β w hS => ?_) ?_
     ·
      refine WL.sub (σ' := [(8, .pointer (some ⟨b8, 0, none⟩))]) ⟨rfl, trivial⟩ ?_
      refine WL.fieldAddr fo_32_0 rfl rfl rfl ?_
      exact WL.nil (N.cut () ⟨rfl, trivial⟩ (Below.refl _ _))
     refine And.intro (fun β w hS => ?_) ?_
     ·
      refine WL.sub (σ' := [(69, .pointer (some ⟨b8, 0, none⟩))]) ⟨rfl, trivial⟩ ?_
      refine WL.load1 (v := .slice adfR M.funcs.length capfR) one_29 rfl rfl rfl (hS.cell 0 rfl rfl) ?_
      exact WL.nil (N.cut () ⟨rfl, trivial⟩ (Below.refl _ _))
     refine And.intro (fun β w hS => ?_) ?_
     ·
      refine WL.sub (σ' := [(12, .int .i64 (j : Int))]) ⟨rfl, trivial⟩ ?_
      refine WL.move rfl rfl rfl ?_
      exact WL.nil (N.cut () ⟨rfl, trivial⟩ (Below.refl _ _))
     refine And.intro (fun β w hS => ?_) ?_
     ·
      refine WL.sub (σ' := [(70, .slice adfR M.funcs.length capfR), (71, .int .i64 (j : Int))]) ⟨rfl, rfl, trivial⟩ ?_
      refine WL.indexAddrE (j := j) Tryd.underlying29 isz_35 rfl rfl rfl rfl hj20 hE20 ?_
      exact WL.nil (N.cut () ⟨rfl, trivial⟩ (Below.refl _ _))
     refine And.intro (fun β w hS => ?_) ?_
     ·
      refine WL.sub (σ' := [(72, .pointer (some ⟨b20, o20 + j * 4, none⟩))]) ⟨rfl, trivial⟩ ?_
      refine WL.fieldAddr fo_35_0 rfl rfl rfl ?_
      exact WL.nil (N.cut () ⟨rfl, trivial⟩ (Below.refl _ _))
     refine And.intro (fun β w hS => ?_) ?_
     ·
      refine WL.sub (σ' := [(73, .pointer (some ⟨b20, o20 + j * 4, none⟩))]) ⟨rfl, trivial⟩ ?_
      refine WL.load1 (v := .string x20.name) one_9 rfl rfl rfl (hS.roCells hr20 hc20 0 _ rfl) ?_
      exact WL.nil (N.cut () ⟨rfl, trivial⟩ (Below.refl _ _))
     refine And.intro (fun β w hS => ?_) ?_
     ·
      refine WL.sub (σ' := [(8, .pointer (some ⟨b8, 0, none⟩))]) ⟨rfl, trivial⟩ ?_
      refine WL.fieldAddr fo_32_0 rfl rfl rfl ?_
      exact WL.nil (N.cut () ⟨rfl, trivial⟩ (Below.refl _ _))
     refine And.intro (fun β w hS => ?_) ?_
     ·
      refine WL.sub (σ' := [(75, .pointer (some ⟨b8, 0, none⟩))]) ⟨rfl, trivial⟩ ?_
      refine WL.load1 (v := .slice adfR M.funcs.length capfR) one_29 rfl rfl rfl (hS.cell 0 rfl rfl) ?_
      exact WL.nil (N.cut () ⟨rfl, trivial⟩ (Below.refl _ _))
     refine And.intro (fun β w hS => ?_) ?_
     ·
      refine WL.sub (σ' := [(13, .int .i64 (z : Int))]) ⟨rfl, trivial⟩ ?_
      refine WL.move rfl rfl rfl ?_
      exact WL.nil (N.cut () ⟨rfl, trivial⟩ (Below.refl _ _))
     refine And.intro (fun β w hS => ?_) ?_
     ·
      refine WL.sub (σ' := [(76, .slice adfR M.funcs.length capfR), (77, .int .i64 (z : Int))]) ⟨rfl, rfl, trivial⟩ ?_
      refine WL.indexAddrE (j := z) Tryd.underlying29 isz_35 rfl rfl rfl rfl hj21 hE21 ?_
      exact WL.nil (N.cut () ⟨rfl, trivial⟩ (Below.refl _ _))
     refine And.intro (fun β w hS => ?_) ?_
     ·
      refine WL.sub (σ' := [(78, .pointer (some ⟨b21, o21 + z * 4, none⟩))]) ⟨rfl, trivial⟩ ?_
      refine WL.fieldAddr fo_35_0 rfl rfl rfl ?_
      exact WL.nil (N.cut () ⟨rfl, trivial⟩ (Below.refl _ _))
     refine And.intro (fun β w hS => ?_) ?_
     ·
      refine WL.sub (σ' := [(79, .pointer (some ⟨b21, o21 + z * 4, none⟩))]) ⟨rfl, trivial⟩ ?_
      refine WL.load1 (v := .string x21.name) one_9 rfl rfl rfl (hS.roCells hr21 hc21 0 _ rfl) ?_
      exact WL.nil (N.cut () ⟨rfl, trivial⟩ (Below.refl _ _))
     refine And.intro (fun β w hS => ?_) ?_
     ·
      refine WL.sub (σ' := [(74, .string x20.name), (80, .string x21.name)]) ⟨rfl, rfl, trivial⟩ ?_
      refine WL.eqStr rfl rfl rfl rfl ?_
      refine WL.set 81 (v' := .bool false) rfl (congrArg Value.bool (show (decide (x20.name = x21.name)) = false from decide_eq_false (fun e => absurd (name_once hF.nodup hx20 hx21 e) (by omega)))) ?_
      exact WL.nil (N.cut () ⟨rfl, trivial⟩ (Below.refl _ _))
     trivial
    clear hS; intro w22 β hS
    refine WL.sub (σ' := [(0, .slice adl ms.length capl), (1, .slice adk ks.length capk), (5, .bool true), (6, .bool (ms.all fun m => decide (check5 m = 0))), (7, .bool (fewB ms ks)), (8, .pointer (some ⟨b8, 0, none⟩)), (9, .int .i64 ((merge10 ms ks).2)), (10, .int .i64 (q : Int)), (11, .int .i64 (i : Int)), (12, .int .i64 (j : Int)), (13, .int .i64 (z : Int)), (14, .bool true), (15, .slice adl ms.length capl), (16, .bool (ms.all fun m => decide (check5 m = 0))), (17, .slice adl ms.length capl), (18, .slice adk ks.length capk), (19, .bool (fewB ms ks)), (20, .bool (ms.all fun m => decide (check5 m = 0))), (21, .bool false), (22, .bool false), (23, .bool (fewB ms ks)), (24, .bool (!(fewB ms ks))), (25, .bool (!(fewB ms ks))), (27, .tuple #[.agg #[.slice adfR M.funcs.length capfR, .slice adgR M.globs.length capgR], .int .i64 ((merge10 ms ks).2)]), (28, .slice adl ms.length capl), (29, .slice adk ks.length capk), (30, .tuple #[.agg #[.slice adfR M.funcs.length capfR, .slice adgR M.globs.length capgR], .int .i64 ((merge10 ms ks).2)]), (31, .agg #[.slice adfR M.funcs.length capfR, .slice adgR M.globs.length capgR]), (32, .int .i64 ((merge10 ms ks).2)), (33, .int .i64 ((merge10 ms ks).2)), (34, .bool (!decide ((merge10 ms ks).2 = 0))), (36, .int .i64 (i : Int)), (37, .slice adl ms.length capl), (38, .int .i64 (ms.length : Int)), (39, .bool (decide ((i : Int) < (ms.length : Int)))), (57, .int .i64 (j : Int)), (58, .pointer (some ⟨b8, 0, none⟩)), (59, .slice adfR M.funcs.length capfR), (60, .int .i64 (M.funcs.length : Int)), (61, .bool (decide ((j : Int) < (M.funcs.length : Int)))), (64, .int .i64 (z : Int)), (65, .int .i64 (j : Int)), (66, .bool (decide ((z : Int) < (j : Int)))), (69, .pointer (some ⟨b8, 0, none⟩)), (70, .slice adfR M.funcs.length capfR), (71, .int .i64 (j : Int)), (72, .pointer (some ⟨b20, o20 + j * 4, none⟩)), (73, .pointer (some ⟨b20, o20 + j * 4, none⟩)), (74, .string x20.name), (75, .pointer (some ⟨b8, 0, none⟩)), (76, .slice adfR M.funcs.length capfR), (77, .int .i64 (z : Int)), (78, .pointer (some ⟨b21, o21 + z * 4, none⟩)), (79, .pointer (some ⟨b21, o21 + z * 4, none⟩)), (80, .string x21.name), (81, .bool false)]) (Sub.ofEq (by kernel_rfl)) ?_
    refine WL.nil ?_
    refine N.seq ?_
    refine W.condF rfl ?_
    refine W.skip ?_
    refine N.blk ?_
    refine N.seq ?_
    refine W.region ?_
    refine WL.move rfl rfl rfl ?_
    refine WL.add (c := (z : Int) + 1) rfl rfl rfl rfl (rfl) (by omega) ?_
    refine WL.assign rfl rfl rfl ?_
    refine WL.nil ?_
    exact N.loop (z + 1) ⟨rfl, rfl, rfl, rfl, rfl, rfl, rfl, rfl, rfl, rfl, rfl, rfl, rfl, rfl, rfl, rfl, rfl, rfl, rfl, rfl, rfl, rfl, rfl, rfl, rfl, rfl, rfl, rfl, rfl, rfl, rfl, rfl, rfl, rfl, rfl, rfl, rfl, rfl, rfl, rfl, trivial⟩ ⟨hS, by omega⟩ (by first | omega | (simp only; omega))
   have hc19p : ¬ ((z : Int) < (j : Int)) := by simpa using hc19
   refine W.exit ?_
   refine X.seq ?_
   refine X.loop ?_
   refine X.blk ?_
   refine N.blk ?_
   refine N.seq ?_
   refine W.region ?_
   refine WL.move rfl rfl rfl ?_
   refine WL.add (c := (j : Int) + 1) rfl rfl rfl rfl (rfl) (by omega) ?_
   refine WL.assign rfl rfl rfl ?_
   refine WL.nil ?_
   exact N.loop (j + 1) ⟨rfl, rfl, rfl, rfl, rfl, rfl, rfl, rfl, rfl, rfl, rfl, rfl, rfl, rfl, rfl, rfl, rfl, rfl, rfl, rfl, rfl, rfl, rfl, rfl, rfl, rfl, rfl, rfl, rfl, rfl, rfl, rfl, rfl, rfl, trivial⟩ ⟨hS, by omega⟩ (by first | omega | (simp only; omega))
  have hc17p : ¬ ((j : Int) < (M.funcs.length : Int)) := by simpa using hc17
  refine W.exit ?_
  refine X.seq ?_
  refine X.loop ?_
  refine X.blk ?_
  refine N.seq ?_
  refine W.seq ?_
  refine W.region ?_
  refine WL.move rfl rfl rfl ?_
  refine WL.move rfl rfl rfl ?_
  refine WL.fieldAddr fo_32_0 rfl rfl rfl ?_
  refine WL.load1 (v := .slice adfR M.funcs.length capfR) one_29 rfl rfl rfl (hS.cell 0 rfl rfl) ?_
  refine WL.lenSlice Tryd.underlying29 rfl rfl rfl ?_
  refine WL.fieldAddr fo_32_1 rfl rfl rfl ?_
  refine WL.load1 (v := .slice adgR M.globs.length capgR) one_30 rfl rfl rfl (hS.cell 0 rfl rfl) ?_
  refine WL.lenSlice Tryd.underlying30 rfl rfl rfl ?_
  refine WL.add (c := (M.funcs.length : Int) + (M.globs.length : Int)) rfl rfl rfl rfl (rfl) (by omega) ?_
  refine WL.move rfl rfl rfl ?_
  refine WL.bin rfl rfl rfl rfl rfl ?_
  refine WL.set 92 (v' := .bool true) rfl (congrArg Value.bool (show (decide ((M.funcs.length : Int) + (M.globs.length : Int) ≤ (q : Int))) = true from decide_eq_true (by have h1 := hF.sum; have h2 : i = ms.length := (by omega); rw [h2, List.take_length] at hq; omega))) ?_
  refine WL.pick (v := .bool true) rfl rfl rfl rfl rfl rfl ?_
  refine WL.assign rfl rfl rfl ?_
  refine WL.nil ?_
  refine N.seq ?_
  refine Fin.ret1 rfl (v := .bool true) rfl ?_
  exact ⟨rfl, hS.below⟩
 refine WL.set 21 (v' := .bool true) rfl (by rw [hg4]) ?_
 refine WL.set 22 (v' := .bool true) rfl (by rw [hg4]) ?_
 refine WL.skp rfl rfl ?_
 refine WL.skp rfl rfl ?_
 refine WL.pick (v := .bool true) rfl rfl rfl rfl rfl rfl ?_
 refine WL.nil ?_
 refine N.seq ?_
 refine W.condT rfl ?_
 refine W.seq ?_
 refine W.region ?_
 refine WL.move rfl rfl rfl ?_
 refine WL.assign rfl rfl rfl ?_
 refine WL.nil ?_
 refine N.seq ?_
 refine Fin.ret1 rfl (v := .bool true) rfl ?_
 exact ⟨rfl, hS.below⟩

end Go.Proofs.YtapjejjmhmdmdaaDoor
