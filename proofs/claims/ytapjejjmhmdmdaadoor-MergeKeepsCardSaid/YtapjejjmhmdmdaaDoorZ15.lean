/-
  Contracts of layer 10 (merge). No condition beyond those that each theorem states.
-/
import Derived.Test.YtapjejjmhmdmdaaDoorZ12
namespace Go.Proofs.YtapjejjmhmdmdaaDoor
open Go.RowKit

set_option maxRecDepth 10000 in
set_option maxHeartbeats 4000000 in
theorem mergeKeeps_ret (ms : List DMod) (ks : List ByteArray) (vx vk : Value) {w : World} {ro : Nat → Prop} (hro : ∀ b, ro b → b < w.heap.size) (hx : SlV ro w 2 (ModC ro w) vx ms) (hk : SlV ro w 1 StrC vk ks) (hpw : PowT ro w) (hokm : ∀ m ∈ ms, okMod m) : Ret Tryd.prog 6 #[vx, vk] w fun v w' => v = .bool true ∧ Below w.heap.size w w' := by
 have hxo := hx
 obtain ⟨adl, capl, rfl, hla, hlb, hlc, hld⟩ := hxo
 have hlm : ms.length ≤ 9223372036854775807 := slv_len hx
 obtain ⟨adk, capk, rfl, hk0a, hk0b, hk0c, hk0d⟩ := id hk
 have hk0m : ks.length ≤ 9223372036854775807 := by have h1 := hk0a; have h2 := hk0b; unfold maxLen at h2; omega
 refine Ret.enter (P := Tryd.prog) (n := 134) (args := [.slice adl ms.length capl, .slice adk ks.length capk]) (σ := [(0, .slice adl ms.length capl), (1, .slice adk ks.length capk)]) Tryd.func6 rfl rfl rfl rfl ?_
 have hS := St.start (ro := ro) hro
 have hsub : ∀ b, ro b → ro b ∨ w.heap.size ≤ b := fun _ h => .inl h
 have halT : Alike ro w ro w := Alike.refl
 refine W.seq ?_
 refine W.region ?_
 refine WL.assign rfl rfl rfl ?_
 refine WL.nil ?_
 refine N.seq ?_
 refine W.seq ?_
 refine W.region ?_
 refine WL.callF (vs := []) Tryd.func9 (by kernel_rfl) rfl rfl rfl (shown10_ret (ro := ro) (fun b hb => (hS.snap b hb).1) (hpw.keep hS.alike)) ?_
 rintro v w1 ⟨rfl, hbl⟩
 replace hS := hS.grow hbl
 refine WL.assign rfl rfl rfl ?_
 refine WL.nil ?_
 refine N.seq ?_
 refine W.seq ?_
 refine W.region ?_
 refine WL.move rfl rfl rfl ?_
 refine WL.callF (vs := [.slice adl ms.length capl]) Tryd.func10 (by kernel_rfl) rfl rfl rfl (right10_ret ms _ (ro := ro) (fun b hb => (hS.snap b hb).1) (SlV.keep hx hS.alike (fun _ _ q => q.keep hS.alike)) hokm) ?_
 rintro v w2 ⟨rfl, hbl⟩
 replace hS := hS.grow hbl
 refine WL.assign rfl rfl rfl ?_
 refine WL.nil ?_
 refine N.seq ?_
 refine W.seq ?_
 refine W.region ?_
 refine WL.move rfl rfl rfl ?_
 refine WL.move rfl rfl rfl ?_
 refine WL.callF (vs := [.slice adl ms.length capl, .slice adk ks.length capk]) Tryd.func13 (by kernel_rfl) rfl rfl rfl (few10_ret ms ks _ _ (ro := ro) (fun b hb => (hS.snap b hb).1) (SlV.keep hx hS.alike (fun _ _ q => q.keep hS.alike)) (SlV.keep hk hS.alike (fun _ _ q => q))) ?_
 rintro v w3 ⟨rfl, hbl⟩
 replace hS := hS.grow hbl
 refine WL.assign rfl rfl rfl ?_
 refine WL.nil ?_
 refine N.seq ?_
 refine W.seq ?_
 refine W.seq ?_
 refine W.region ?_
 refine WL.move rfl rfl rfl ?_
 refine WL.not rfl rfl rfl ?_
 refine WL.move rfl rfl rfl ?_
 rcases (Bool.eq_false_or_eq_true (!(ms.all fun m => decide (check5 m = 0)))).symm with hg4 | hg4
 ·
  refine WL.set 24 (v' := .bool false) rfl (by rw [hg4]) ?_
  refine WL.set 25 (v' := .bool false) rfl (by rw [hg4]) ?_
  refine WL.move rfl rfl rfl ?_
  refine WL.not rfl rfl rfl ?_
  refine WL.pick (v := .bool (!(fewB ms ks))) rfl rfl rfl rfl rfl rfl ?_
  refine WL.nil ?_
  refine N.seq ?_
  refine W.cond rfl (fun hc5 => ?_) (fun hc5 => ?_)
  ·
   refine W.seq ?_
   refine W.region ?_
   refine WL.move rfl rfl rfl ?_
   refine WL.assign rfl rfl rfl ?_
   refine WL.nil ?_
   refine N.seq ?_
   refine Fin.ret1 rfl (v := .bool true) rfl ?_
   exact ⟨rfl, hS.below⟩
  refine W.skip ?_
  refine N.seq ?_
  refine W.seq ?_
  refine W.region ?_
  refine WL.move rfl rfl rfl ?_
  refine WL.move rfl rfl rfl ?_
  have hrt : ∀ m ∈ ms, check5 m = 0 := fun m hm => by have h := hg4; simp only [Bool.not_eq_false', Bool.not_eq_true, List.all_eq_true, decide_eq_true_eq, Bool.not_eq_true', Bool.not_eq_false] at h; exact h m hm
  have hfw : ms.length ≤ 16 ∧ ks.length ≤ 16 := fewB_iff.1 (by simpa using hc5)
  obtain ⟨hml, hkl⟩ := hfw
  refine WL.callF (vs := [.slice adl ms.length capl, .slice adk ks.length capk]) Tryd.func14 (by kernel_rfl) rfl rfl rfl (all10_ret ms ks _ _ (ro := ro) (fun b hb => (hS.snap b hb).1) (SlV.keep hx hS.alike (fun _ _ q => q.keep hS.alike)) (SlV.keep hk hS.alike (fun _ _ q => q)) (hpw.keep hS.alike) hrt hml) ?_
  rintro v w6 ⟨csm, rfl, hmr, hbl⟩
  have hal7 := hS.alikeTo hbl (ro' := (roFrom ro w3 w6)) (fun b hb => .inl hb)
  replace hsub : ∀ b, (roFrom ro w3 w6) b → ro b ∨ w.heap.size ≤ b := fun b hb => hb.elim (hsub b) (fun h => .inr (Nat.le_trans hS.below.size h.1))
  replace halT := halT.trans hal7
  replace hld : Elems (roFrom ro w3 w6) w6 2 (ModC (roFrom ro w3 w6) w6) adl ms := hld.keep hal7 (fun _ _ h => h.keep hal7)
  replace hx : SlV (roFrom ro w3 w6) w6 2 (ModC (roFrom ro w3 w6) w6) (.slice adl ms.length capl) ms := SlV.keep hx hal7 (fun _ _ h => h.keep hal7)
  replace hk0d : Elems (roFrom ro w3 w6) w6 1 StrC adk ks := hk0d.keep hal7 (fun _ _ h => h)
  replace hk : SlV (roFrom ro w3 w6) w6 1 StrC (.slice adk ks.length capk) ks := SlV.keep hk hal7 (fun _ _ h => h)
  replace hpw := hpw.keep hal7
  replace hS := hS.readNew hbl
  obtain ⟨M, hM0⟩ : ∃ M, M = (merge10 ms ks).1 := ⟨_, rfl⟩
  rw [← hM0] at hmr
  obtain ⟨sfR, sgR, rfl, hfsR, hgsR⟩ := id hmr
  obtain ⟨adfR, capfR, rfl, hfsRa, hfsRb, hfsRc, hfsRd⟩ := id hfsR
  have hfsRm : M.funcs.length ≤ 9223372036854775807 := by have h1 := hfsRa; have h2 := hfsRb; unfold maxLen at h2; omega
  obtain ⟨adgR, capgR, rfl, hgsRa, hgsRb, hgsRc, hgsRd⟩ := id hgsR
  have hgsRm : M.globs.length ≤ 9223372036854775807 := by have h1 := hgsRa; have h2 := hgsRb; unfold maxLen at h2; omega
  refine WL.move rfl rfl rfl ?_
  refine WL.extract (v := .agg #[.slice adfR M.funcs.length capfR, .slice adgR M.globs.length capgR]) rfl rfl rfl rfl ?_
  refine WL.extract (v := .int .i64 ((merge10 ms ks).2)) rfl rfl rfl rfl ?_
  refine WL.alloc (tyZero_spec zer_32) rfl rfl hS ?_
  clear hS; intro w9 b8 hb_b8 hS
  refine WL.store (cs := [.slice adfR M.funcs.length capfR, .slice adgR M.globs.length capgR]) (c' := #[.slice adfR M.funcs.length capfR, .slice adgR M.globs.length capgR]) (L' := [(b8, .cells #[.slice adfR M.funcs.length capfR, .slice adgR M.globs.length capgR] 32 (0, 0))]) 0 rfl rfl rfl rfl siz_32 rfl rfl rfl rfl rfl hS ?_
  clear hS; intro w10 hS
  refine WL.assign rfl rfl rfl ?_
  refine WL.nil ?_
  refine N.seq ?_
  refine W.seq ?_
  refine W.seq ?_
  refine W.region ?_
  refine WL.move rfl rfl rfl ?_
  refine WL.bin rfl rfl rfl rfl rfl ?_
  refine WL.nil ?_
  refine N.seq ?_
  refine W.cond rfl (fun hc11 => ?_) (fun hc11 => ?_)
  ·
   have hc11p : ¬ ((merge10 ms ks).2 = 0) := by simpa using hc11
   refine W.seq ?_
   refine W.region ?_
   refine WL.move rfl rfl rfl ?_
   refine WL.assign rfl rfl rfl ?_
   refine WL.nil ?_
   refine N.seq ?_
   refine Fin.ret1 rfl (v := .bool true) rfl ?_
   exact ⟨rfl, hS.below⟩
  have hc11p : (merge10 ms ks).2 = 0 := by simpa using hc11
  refine W.skip ?_
  refine N.seq ?_
  refine W.seq ?_
  refine W.seq ?_
  refine W.region ?_
  refine WL.assign rfl rfl rfl ?_
  refine WL.nil ?_
  refine N.seq ?_
  refine W.block ?_
  have hm0 : (merge10 ms ks).2 = 0 := by simpa using hc11p
  have hF := out10_facts hrt hm0
  rw [← hM0] at hF
  obtain ⟨hfm, hgm⟩ := hF.few
  refine W.loop (α := Nat) (fun (i : Nat) => [(0, .slice adl ms.length capl), (1, .slice adk ks.length capk), (5, .bool true), (6, .bool (ms.all fun m => decide (check5 m = 0))), (7, .bool (fewB ms ks)), (8, .pointer (some ⟨b8, 0, none⟩)), (9, .int .i64 ((merge10 ms ks).2)), (10, .int .i64 (i : Int)), (17, .bool true), (18, .slice adl ms.length capl), (19, .bool (ms.all fun m => decide (check5 m = 0))), (20, .slice adl ms.length capl), (21, .slice adk ks.length capk), (22, .bool (fewB ms ks)), (23, .bool (ms.all fun m => decide (check5 m = 0))), (24, .bool false), (25, .bool false), (26, .bool (fewB ms ks)), (27, .bool (!(fewB ms ks))), (28, .bool (!(fewB ms ks))), (30, .tuple #[.agg #[.slice adfR M.funcs.length capfR, .slice adgR M.globs.length capgR], .int .i64 ((merge10 ms ks).2)]), (31, .slice adl ms.length capl), (32, .slice adk ks.length capk), (33, .tuple #[.agg #[.slice adfR M.funcs.length capfR, .slice adgR M.globs.length capgR], .int .i64 ((merge10 ms ks).2)]), (34, .agg #[.slice adfR M.funcs.length capfR, .slice adgR M.globs.length capgR]), (35, .int .i64 ((merge10 ms ks).2)), (36, .int .i64 ((merge10 ms ks).2)), (37, .bool (!decide ((merge10 ms ks).2 = 0)))]) (fun (i : Nat) u => St w w6 u (roFrom ro w3 w6) [(b8, .cells #[.slice adfR M.funcs.length capfR, .slice adgR M.globs.length capgR] 32 (0, 0))] [] ∧ i ≤ ks.length) (fun (i : Nat) => ks.length - i) 0 ⟨rfl, rfl, rfl, rfl, rfl, rfl, rfl, rfl, rfl, rfl, rfl, rfl, rfl, rfl, rfl, rfl, rfl, rfl, rfl, rfl, rfl, rfl, rfl, rfl, rfl, rfl, rfl, rfl, trivial⟩ ⟨hS, Nat.zero_le _⟩ ?_
  clear hS
  rintro i w12 ⟨hS, hi⟩
  refine W.seq ?_
  refine W.seq ?_
  refine W.region ?_
  refine WL.move rfl rfl rfl ?_
  refine WL.move rfl rfl rfl ?_
  refine WL.lenSlice Tryd.underlying25 rfl rfl rfl ?_
  refine WL.bin rfl rfl rfl rfl rfl ?_
  refine WL.nil ?_
  refine N.seq ?_
  refine W.cond rfl (fun hc13 => ?_) (fun hc13 => ?_)
  ·
   have hc13p : (i : Int) < (ks.length : Int) := by simpa using hc13
   refine W.skip ?_
   refine N.seq ?_
   refine W.seq ?_
   refine W.block ?_
   refine W.seq ?_
   have hj14 : i < ks.length := by omega
   obtain ⟨x14, hx14⟩ : ∃ zz, ks[i]? = some zz := ⟨_, List.getElem?_eq_getElem hj14⟩
   obtain ⟨b14, o14, cs14, hE14, hr14, hl14, hc14, hQ14⟩ := hk0d i _ hx14
   obtain ⟨rfl, hsz14⟩ := hQ14
   have hsk := List.mem_of_getElem? hx14
   have hkp := hF.kept _ hsk
   refine W.drawL (by kernel_rfl) 6 ((.q (.agg #[.slice adfR M.funcs.length capfR, .slice adgR M.globs.length capgR])) :: (.q (.slice adk ks.length capk)) :: (.q (.int .i64 (i : Int))) :: (.q (.pointer (some ⟨b14, o14 + i * 1, none⟩))) :: (.q (.string x14)) :: (.q (.int .i64 (find5 (fnames M) x14))) :: []) (by kernel_rfl) (by kernel_rfl) [(0, .slice adl ms.length capl), (1, .slice adk ks.length capk), (5, .bool true), (6, .bool (ms.all fun m => decide (check5 m = 0))), (7, .bool (fewB ms ks)), (8, .pointer (some ⟨b8, 0, none⟩)), (9, .int .i64 ((merge10 ms ks).2)), (10, .int .i64 (i : Int)), (17, .bool true), (18, .slice adl ms.length capl), (19, .bool (ms.all fun m => decide (check5 m = 0))), (20, .slice adl ms.length capl), (21, .slice adk ks.length capk), (22, .bool (fewB ms ks)), (23, .bool (ms.all fun m => decide (check5 m = 0))), (24, .bool false), (25, .bool false), (26, .bool (fewB ms ks)), (27, .bool (!(fewB ms ks))), (28, .bool (!(fewB ms ks))), (30, .tuple #[.agg #[.slice adfR M.funcs.length capfR, .slice adgR M.globs.length capgR], .int .i64 ((merge10 ms ks).2)]), (31, .slice adl ms.length capl), (32, .slice adk ks.length capk), (33, .tuple #[.agg #[.slice adfR M.funcs.length capfR, .slice adgR M.globs.length capgR], .int .i64 ((merge10 ms ks).2)]), (34, .agg #[.slice adfR M.funcs.length capfR, .slice adgR M.globs.length capgR]), (35, .int .i64 ((merge10 ms ks).2)), (36, .int .i64 ((merge10 ms ks).2)), (37, .bool (!decide ((merge10 ms ks).2 = 0))), (39, .int .i64 (i : Int)), (40, .slice adk ks.length capk), (41, .int .i64 (ks.length : Int)), (42, .bool (decide ((i : Int) < (ks.length : Int))))] ⟨rfl, rfl, rfl, rfl, rfl, rfl, rfl, rfl, rfl, rfl, rfl, rfl, rfl, rfl, rfl, rfl, rfl, rfl, rfl, rfl, rfl, rfl, rfl, rfl, rfl, rfl, rfl, rfl, rfl, rfl, rfl, rfl, trivial⟩ (by kernel_rfl) hS ?_ ?_
   ·
    refine And.intro (fun β w hS => ?_) ?_
    ·
     refine WL.sub (σ' := [(8, .pointer (some ⟨b8, 0, none⟩))]) ⟨rfl, trivial⟩ ?_
     refine WL.loadN (cs := [.slice adfR M.funcs.length capfR, .slice adgR M.globs.length capgR]) agg_32 rfl rfl rfl rfl (hS.cells 0 (m := 2) rfl rfl) ?_
     exact WL.nil (N.cut () ⟨rfl, trivial⟩ (Below.refl _ _))
    refine And.intro (fun β w hS => ?_) ?_
    ·
     refine WL.sub (σ' := [(1, .slice adk ks.length capk)]) ⟨rfl, trivial⟩ ?_
     refine WL.move rfl rfl rfl ?_
     exact WL.nil (N.cut () ⟨rfl, trivial⟩ (Below.refl _ _))
    refine And.intro (fun β w hS => ?_) ?_
    ·
     refine WL.sub (σ' := [(10, .int .i64 (i : Int))]) ⟨rfl, trivial⟩ ?_
     refine WL.move rfl rfl rfl ?_
     exact WL.nil (N.cut () ⟨rfl, trivial⟩ (Below.refl _ _))
    refine And.intro (fun β w hS => ?_) ?_
    ·
     refine WL.sub (σ' := [(46, .slice adk ks.length capk), (47, .int .i64 (i : Int))]) ⟨rfl, rfl, trivial⟩ ?_
     refine WL.indexAddrE (j := i) Tryd.underlying25 isz_9 rfl rfl rfl rfl hj14 hE14 ?_
     exact WL.nil (N.cut () ⟨rfl, trivial⟩ (Below.refl _ _))
    refine And.intro (fun β w hS => ?_) ?_
    ·
     refine WL.sub (σ' := [(48, .pointer (some ⟨b14, o14 + i * 1, none⟩))]) ⟨rfl, trivial⟩ ?_
     refine WL.load1 (v := .string x14) one_9 rfl rfl rfl (hS.roCells hr14 hc14 0 _ rfl) ?_
     exact WL.nil (N.cut () ⟨rfl, trivial⟩ (Below.refl _ _))
    refine And.intro (fun β w hS => ?_) ?_
    ·
     refine WL.sub (σ' := [(45, .agg #[.slice adfR M.funcs.length capfR, .slice adgR M.globs.length capgR]), (49, .string x14)]) ⟨rfl, rfl, trivial⟩ ?_
     refine WL.callF (vs := [.agg #[.slice adfR M.funcs.length capfR, .slice adgR M.globs.length capgR], .string x14]) Tryd.func18 (by kernel_rfl) rfl rfl rfl (findfnames_ret M _ x14 (ro := (roFrom ro w3 w6)) (fun b hb => (hS.snap b hb).1) (hmr.keep hS.alike)) ?_
     rintro v w16 ⟨rfl, hbl⟩
     replace hS := hS.grow hbl
     exact WL.nil (N.cut () ⟨rfl, trivial⟩ hbl)
    trivial
   clear hS; intro w17 β hS
   refine WL.sub (σ' := [(0, .slice adl ms.length capl), (1, .slice adk ks.length capk), (5, .bool true), (6, .bool (ms.all fun m => decide (check5 m = 0))), (7, .bool (fewB ms ks)), (8, .pointer (some ⟨b8, 0, none⟩)), (9, .int .i64 ((merge10 ms ks).2)), (10, .int .i64 (i : Int)), (17, .bool true), (18, .slice adl ms.length capl), (19, .bool (ms.all fun m => decide (check5 m = 0))), (20, .slice adl ms.length capl), (21, .slice adk ks.length capk), (22, .bool (fewB ms ks)), (23, .bool (ms.all fun m => decide (check5 m = 0))), (24, .bool false), (25, .bool false), (26, .bool (fewB ms ks)), (27, .bool (!(fewB ms ks))), (28, .bool (!(fewB ms ks))), (30, .tuple #[.agg #[.slice adfR M.funcs.length capfR, .slice adgR M.globs.length capgR], .int .i64 ((merge10 ms ks).2)]), (31, .slice adl ms.length capl), (32, .slice adk ks.length capk), (33, .tuple #[.agg #[.slice adfR M.funcs.length capfR, .slice adgR M.globs.length capgR], .int .i64 ((merge10 ms ks).2)]), (34, .agg #[.slice adfR M.funcs.length capfR, .slice adgR M.globs.length capgR]), (35, .int .i64 ((merge10 ms ks).2)), (36, .int .i64 ((merge10 ms ks).2)), (37, .bool (!decide ((merge10 ms ks).2 = 0))), (39, .int .i64 (i : Int)), (40, .slice adk ks.length capk), (41, .int .i64 (ks.length : Int)), (42, .bool (decide ((i : Int) < (ks.length : Int)))), (45, .agg #[.slice adfR M.funcs.length capfR, .slice adgR M.globs.length capgR]), (46, .slice adk ks.length capk), (47, .int .i64 (i : Int)), (48, .pointer (some ⟨b14, o14 + i * 1, none⟩)), (49, .string x14), (50, .int .i64 (find5 (fnames M) x14))]) (Sub.ofEq (by kernel_rfl)) ?_
   refine WL.assign rfl rfl rfl ?_
   refine WL.nil ?_
   refine N.seq ?_
   refine W.seq ?_
   refine W.drawL (by kernel_rfl) 6 ((.q (.agg #[.slice adfR M.funcs.length capfR, .slice adgR M.globs.length capgR])) :: (.q (.slice adk ks.length capk)) :: (.q (.int .i64 (i : Int))) :: (.q (.pointer (some ⟨b14, o14 + i * 1, none⟩))) :: (.q (.string x14)) :: (.q (.int .i64 (find5 (gnames M) x14))) :: []) (by kernel_rfl) (by kernel_rfl) [(0, .slice adl ms.length capl), (1, .slice adk ks.length capk), (5, .bool true), (6, .bool (ms.all fun m => decide (check5 m = 0))), (7, .bool (fewB ms ks)), (8, .pointer (some ⟨b8, 0, none⟩)), (9, .int .i64 ((merge10 ms ks).2)), (10, .int .i64 (i : Int)), (11, .int .i64 (find5 (fnames M) x14)), (17, .bool true), (18, .slice adl ms.length capl), (19, .bool (ms.all fun m => decide (check5 m = 0))), (20, .slice adl ms.length capl), (21, .slice adk ks.length capk), (22, .bool (fewB ms ks)), (23, .bool (ms.all fun m => decide (check5 m = 0))), (24, .bool false), (25, .bool false), (26, .bool (fewB ms ks)), (27, .bool (!(fewB ms ks))), (28, .bool (!(fewB ms ks))), (30, .tuple #[.agg #[.slice adfR M.funcs.length capfR, .slice adgR M.globs.length capgR], .int .i64 ((merge10 ms ks).2)]), (31, .slice adl ms.length capl), (32, .slice adk ks.length capk), (33, .tuple #[.agg #[.slice adfR M.funcs.length capfR, .slice adgR M.globs.length capgR], .int .i64 ((merge10 ms ks).2)]), (34, .agg #[.slice adfR M.funcs.length capfR, .slice adgR M.globs.length capgR]), (35, .int .i64 ((merge10 ms ks).2)), (36, .int .i64 ((merge10 ms ks).2)), (37, .bool (!decide ((merge10 ms ks).2 = 0))), (39, .int .i64 (i : Int)), (40, .slice adk ks.length capk), (41, .int .i64 (ks.length : Int)), (42, .bool (decide ((i : Int) < (ks.length : Int)))), (45, .agg #[.slice adfR M.funcs.length capfR, .slice adgR M.globs.length capgR]), (46, .slice adk ks.length capk), (47, .int .i64 (i : Int)), (48, .pointer (some ⟨b14, o14 + i * 1, none⟩)), (49, .string x14), (50, .int .i64 (find5 (fnames M) x14))] ⟨rfl, rfl, rfl, rfl, rfl, rfl, rfl, rfl, rfl, rfl, rfl, rfl, rfl, rfl, rfl, rfl, rfl, rfl, rfl, rfl, rfl, rfl, rfl, rfl, rfl, rfl, rfl, rfl, rfl, rfl, rfl, rfl, rfl, rfl, rfl, rfl, rfl, rfl, rfl, trivial⟩ (by kernel_rfl) hS ?_ ?_
   ·
    refine And.intro (fun β w hS => ?_) ?_
    ·
     refine WL.sub (σ' := [(8, .pointer (some ⟨b8, 0, none⟩))]) ⟨rfl, trivial⟩ ?_
     refine WL.loadN (cs := [.slice adfR M.funcs.length capfR, .slice adgR M.globs.length capgR]) agg_32 rfl rfl rfl rfl (hS.cells 0 (m := 2) rfl rfl) ?_
     exact WL.nil (N.cut () ⟨rfl, trivial⟩ (Below.refl _ _))
    refine And.intro (fun β w hS => ?_) ?_
    ·
     refine WL.sub (σ' := [(1, .slice adk ks.length capk)]) ⟨rfl, trivial⟩ ?_
     refine WL.move rfl rfl rfl ?_
     exact WL.nil (N.cut () ⟨rfl, trivial⟩ (Below.refl _ _))
    refine And.intro (fun β w hS => ?_) ?_
    ·
     refine WL.sub (σ' := [(10, .int .i64 (i : Int))]) ⟨rfl, trivial⟩ ?_
     refine WL.move rfl rfl rfl ?_
     exact WL.nil (N.cut () ⟨rfl, trivial⟩ (Below.refl _ _))
    refine And.intro (fun β w hS => ?_) ?_
    ·
     refine WL.sub (σ' := [(52, .slice adk ks.length capk), (53, .int .i64 (i : Int))]) ⟨rfl, rfl, trivial⟩ ?_
     refine WL.indexAddrE (j := i) Tryd.underlying25 isz_9 rfl rfl rfl rfl hj14 hE14 ?_
     exact WL.nil (N.cut () ⟨rfl, trivial⟩ (Below.refl _ _))
    refine And.intro (fun β w hS => ?_) ?_
    ·
     refine WL.sub (σ' := [(54, .pointer (some ⟨b14, o14 + i * 1, none⟩))]) ⟨rfl, trivial⟩ ?_
     refine WL.load1 (v := .string x14) one_9 rfl rfl rfl (hS.roCells hr14 hc14 0 _ rfl) ?_
     exact WL.nil (N.cut () ⟨rfl, trivial⟩ (Below.refl _ _))
    refine And.intro (fun β w hS => ?_) ?_
    ·
     refine WL.sub (σ' := [(51, .agg #[.slice adfR M.funcs.length capfR, .slice adgR M.globs.length capgR]), (55, .string x14)]) ⟨rfl, rfl, trivial⟩ ?_
     refine WL.callF (vs := [.agg #[.slice adfR M.funcs.length capfR, .slice adgR M.globs.length capgR], .string x14]) Tryd.func19 (by kernel_rfl) rfl rfl rfl (findgnames_ret M _ x14 (ro := (roFrom ro w3 w6)) (fun b hb => (hS.snap b hb).1) (hmr.keep hS.alike)) ?_
     rintro v w19 ⟨rfl, hbl⟩
     replace hS := hS.grow hbl
     exact WL.nil (N.cut () ⟨rfl, trivial⟩ hbl)
    trivial
   clear hS; intro w20 β hS
   refine WL.sub (σ' := [(0, .slice adl ms.length capl), (1, .slice adk ks.length capk), (5, .bool true), (6, .bool (ms.all fun m => decide (check5 m = 0))), (7, .bool (fewB ms ks)), (8, .pointer (some ⟨b8, 0, none⟩)), (9, .int .i64 ((merge10 ms ks).2)), (10, .int .i64 (i : Int)), (11, .int .i64 (find5 (fnames M) x14)), (17, .bool true), (18, .slice adl ms.length capl), (19, .bool (ms.all fun m => decide (check5 m = 0))), (20, .slice adl ms.length capl), (21, .slice adk ks.length capk), (22, .bool (fewB ms ks)), (23, .bool (ms.all fun m => decide (check5 m = 0))), (24, .bool false), (25, .bool false), (26, .bool (fewB ms ks)), (27, .bool (!(fewB ms ks))), (28, .bool (!(fewB ms ks))), (30, .tuple #[.agg #[.slice adfR M.funcs.length capfR, .slice adgR M.globs.length capgR], .int .i64 ((merge10 ms ks).2)]), (31, .slice adl ms.length capl), (32, .slice adk ks.length capk), (33, .tuple #[.agg #[.slice adfR M.funcs.length capfR, .slice adgR M.globs.length capgR], .int .i64 ((merge10 ms ks).2)]), (34, .agg #[.slice adfR M.funcs.length capfR, .slice adgR M.globs.length capgR]), (35, .int .i64 ((merge10 ms ks).2)), (36, .int .i64 ((merge10 ms ks).2)), (37, .bool (!decide ((merge10 ms ks).2 = 0))), (39, .int .i64 (i : Int)), (40, .slice adk ks.length capk), (41, .int .i64 (ks.length : Int)), (42, .bool (decide ((i : Int) < (ks.length : Int)))), (45, .agg #[.slice adfR M.funcs.length capfR, .slice adgR M.globs.length capgR]), (46, .slice adk ks.length capk), (47, .int .i64 (i : Int)), (48, .pointer (some ⟨b14, o14 + i * 1, none⟩)), (49, .string x14), (50, .int .i64 (find5 (fnames M) x14)), (51, .agg #[.slice adfR M.funcs.length capfR, .slice adgR M.globs.length capgR]), (52, .slice adk ks.length capk), (53, .int .i64 (i : Int)), (54, .pointer (some ⟨b14, o14 + i * 1, none⟩)), (55, .string x14), (56, .int .i64 (find5 (gnames M) x14))]) (Sub.ofEq (by kernel_rfl)) ?_
   refine WL.assign rfl rfl rfl ?_
   refine WL.nil ?_
   refine N.seq ?_
   refine W.seq ?_
   refine W.region ?_
   refine WL.move rfl rfl rfl ?_
   refine WL.bin rfl rfl rfl rfl rfl ?_
   refine WL.move rfl rfl rfl ?_
   rcases (Bool.eq_false_or_eq_true (decide (find5 (fnames M) x14 < 0))).symm with hg21 | hg21
   ·
    refine WL.set 58 (v' := .bool false) rfl (by rw [hg21]) ?_
    refine WL.set 59 (v' := .bool false) rfl (by rw [hg21]) ?_
    have hg21p : ¬ (find5 (fnames M) x14 < 0) := by simpa using hg21
    refine WL.skp rfl rfl ?_
    refine WL.skp rfl rfl ?_
    refine WL.pick (v := .bool false) rfl rfl rfl rfl rfl rfl ?_
    refine WL.move rfl rfl rfl ?_
    refine WL.move rfl rfl rfl ?_
    refine WL.bin rfl rfl rfl rfl rfl ?_
    refine WL.move rfl rfl rfl ?_
    rcases (Bool.eq_false_or_eq_true (decide (0 ≤ find5 (fnames M) x14))).symm with hg22 | hg22
    ·
     refine WL.set 65 (v' := .bool false) rfl (by rw [hg22]) ?_
     refine WL.set 66 (v' := .bool false) rfl (by rw [hg22]) ?_
     have hg22p : ¬ (0 ≤ find5 (fnames M) x14) := by simpa using hg22
     refine WL.skp rfl rfl ?_
     refine WL.skp rfl rfl ?_
     refine WL.skp rfl rfl ?_
     refine WL.skp rfl rfl ?_
     refine WL.skp rfl rfl ?_
     refine WL.skp rfl rfl ?_
     refine WL.skp rfl rfl ?_
     refine WL.pick (v := .bool false) rfl rfl rfl rfl rfl rfl ?_
     refine WL.pick (v := .bool false) rfl rfl rfl rfl rfl rfl ?_
     refine WL.move rfl rfl rfl ?_
     refine WL.move rfl rfl rfl ?_
     refine WL.bin rfl rfl rfl rfl rfl ?_
     refine WL.move rfl rfl rfl ?_
     rcases (Bool.eq_false_or_eq_true (decide (0 ≤ find5 (gnames M) x14))).symm with hg23 | hg23
     ·
      refine WL.set 78 (v' := .bool false) rfl (by rw [hg23]) ?_
      refine WL.set 79 (v' := .bool false) rfl (by rw [hg23]) ?_
      have hg23p : ¬ (0 ≤ find5 (gnames M) x14) := by simpa using hg23
      refine WL.skp rfl rfl ?_
      refine WL.skp rfl rfl ?_
      refine WL.skp rfl rfl ?_
      refine WL.skp rfl rfl ?_
      refine WL.skp rfl rfl ?_
      refine WL.skp rfl rfl ?_
      refine WL.skp rfl rfl ?_
      refine WL.pick (v := .bool false) rfl rfl rfl rfl rfl rfl ?_
      refine WL.pick (v := .bool false) rfl rfl rfl rfl rfl rfl ?_
      refine WL.nil ?_
      refine N.seq ?_
      refine W.condF rfl ?_
      refine W.skip ?_
      refine N.blk ?_
      refine N.seq ?_
      refine W.region ?_
      refine WL.move rfl rfl rfl ?_
      refine WL.add (c := (i : Int) + 1) rfl rfl rfl rfl (rfl) (by omega) ?_
      refine WL.assign rfl rfl rfl ?_
      refine WL.nil ?_
      exact N.loop (i + 1) ⟨rfl, rfl, rfl, rfl, rfl, rfl, rfl, rfl, rfl, rfl, rfl, rfl, rfl, rfl, rfl, rfl, rfl, rfl, rfl, rfl, rfl, rfl, rfl, rfl, rfl, rfl, rfl, rfl, trivial⟩ ⟨hS, by omega⟩ (by first | omega | (simp only; omega))
     refine WL.set 78 (v' := .bool true) rfl (by rw [hg23]) ?_
     refine WL.set 79 (v' := .bool true) rfl (by rw [hg23]) ?_
     have hg23p : 0 ≤ find5 (gnames M) x14 := by simpa using hg23
     refine WL.fieldAddr fo_32_1 rfl rfl rfl ?_
     refine WL.load1 (v := .slice adgR M.globs.length capgR) one_30 rfl rfl rfl (hS.cell 0 rfl rfl) ?_
     refine WL.move rfl rfl rfl ?_
     refine WL.set 82 (v' := .int .i64 (((find5 (gnames M) x14).toNat : Nat) : Int)) rfl (by rw [Int.toNat_of_nonneg hg23p]) ?_
     have hj24 : (find5 (gnames M) x14).toNat < M.globs.length := find_ltG hg23p
     obtain ⟨x24, hx24⟩ : ∃ zz, M.globs[(find5 (gnames M) x14).toNat]? = some zz := ⟨_, List.getElem?_eq_getElem hj24⟩
     obtain ⟨b24, o24, cs24, hE24, hr24, hl24, hc24, hQ24⟩ := hgsRd ((find5 (gnames M) x14).toNat) _ hx24
     obtain ⟨rfl, hgn24, hgb24, hgi24⟩ := hQ24
     refine WL.indexAddrE (j := (find5 (gnames M) x14).toNat) Tryd.underlying30 isz_38 rfl rfl rfl rfl hj24 hE24 ?_
     refine WL.fieldAddr fo_38_1 rfl rfl rfl ?_
     refine WL.load1 (v := .int .i64 x24.bind) one_3 rfl rfl rfl (hS.roCells hr24 hc24 1 _ rfl) ?_
     refine WL.bin rfl rfl rfl rfl rfl ?_
     have hb24 : x24.bind = 2 := hF.keptG _ hsk _ (List.mem_of_getElem? hx24) (find_atG hg23p hx24)
     refine WL.set 86 (v' := .bool false) rfl (by simp [hb24]) ?_
     refine WL.pick (v := .bool false) rfl rfl rfl rfl rfl rfl ?_
     refine WL.pick (v := .bool false) rfl rfl rfl rfl rfl rfl ?_
     refine WL.nil ?_
     refine N.seq ?_
     refine W.condF rfl ?_
     refine W.skip ?_
     refine N.blk ?_
     refine N.seq ?_
     refine W.region ?_
     refine WL.move rfl rfl rfl ?_
     refine WL.add (c := (i : Int) + 1) rfl rfl rfl rfl (rfl) (by omega) ?_
     refine WL.assign rfl rfl rfl ?_
     refine WL.nil ?_
     exact N.loop (i + 1) ⟨rfl, rfl, rfl, rfl, rfl, rfl, rfl, rfl, rfl, rfl, rfl, rfl, rfl, rfl, rfl, rfl, rfl, rfl, rfl, rfl, rfl, rfl, rfl, rfl, rfl, rfl, rfl, rfl, trivial⟩ ⟨hS, by omega⟩ (by first | omega | (simp only; omega))
    refine WL.set 65 (v' := .bool true) rfl (by rw [hg22]) ?_
    refine WL.set 66 (v' := .bool true) rfl (by rw [hg22]) ?_
    have hg22p : 0 ≤ find5 (fnames M) x14 := by simpa using hg22
    refine WL.fieldAddr fo_32_0 rfl rfl rfl ?_
    refine WL.load1 (v := .slice adfR M.funcs.length capfR) one_29 rfl rfl rfl (hS.cell 0 rfl rfl) ?_
    refine WL.move rfl rfl rfl ?_
    refine WL.set 69 (v' := .int .i64 (((find5 (fnames M) x14).toNat : Nat) : Int)) rfl (by rw [Int.toNat_of_nonneg hg22p]) ?_
    have hj25 : (find5 (fnames M) x14).toNat < M.funcs.length := find_ltF hg22p
    obtain ⟨x25, hx25⟩ : ∃ zz, M.funcs[(find5 (fnames M) x14).toNat]? = some zz := ⟨_, List.getElem?_eq_getElem hj25⟩
    obtain ⟨b25, o25, cs25, hE25, hr25, hl25, hc25, hQ25⟩ := hfsRd ((find5 (fnames M) x14).toNat) _ hx25
    obtain ⟨sb25, rfl, hbl25, hnm25, hbd25, hpr25⟩ := id hQ25
    obtain ⟨adb25, capb25, rfl, hbk25a, hbk25b, hbk25c, hbk25d⟩ := id hbl25
    have hbk25m : x25.blocks.length ≤ 9223372036854775807 := by have h1 := hbk25a; have h2 := hbk25b; unfold maxLen at h2; omega
    refine WL.indexAddrE (j := (find5 (fnames M) x14).toNat) Tryd.underlying29 isz_35 rfl rfl rfl rfl hj25 hE25 ?_
    refine WL.fieldAddr fo_35_1 rfl rfl rfl ?_
    refine WL.load1 (v := .int .i64 x25.bind) one_3 rfl rfl rfl (hS.roCells hr25 hc25 1 _ rfl) ?_
    refine WL.bin rfl rfl rfl rfl rfl ?_
    have hb25 : x25.bind = 2 := hF.keptF _ hsk _ (List.mem_of_getElem? hx25) (find_atF hg22p hx25)
    refine WL.set 73 (v' := .bool false) rfl (by simp [hb25]) ?_
    refine WL.pick (v := .bool false) rfl rfl rfl rfl rfl rfl ?_
    refine WL.pick (v := .bool false) rfl rfl rfl rfl rfl rfl ?_
    refine WL.move rfl rfl rfl ?_
    refine WL.move rfl rfl rfl ?_
    refine WL.bin rfl rfl rfl rfl rfl ?_
    refine WL.move rfl rfl rfl ?_
    rcases (Bool.eq_false_or_eq_true (decide (0 ≤ find5 (gnames M) x14))).symm with hg26 | hg26
    ·
     refine WL.set 78 (v' := .bool false) rfl (by rw [hg26]) ?_
     refine WL.set 79 (v' := .bool false) rfl (by rw [hg26]) ?_
     have hg26p : ¬ (0 ≤ find5 (gnames M) x14) := by simpa using hg26
     refine WL.skp rfl rfl ?_
     refine WL.skp rfl rfl ?_
     refine WL.skp rfl rfl ?_
     refine WL.skp rfl rfl ?_
     refine WL.skp rfl rfl ?_
     refine WL.skp rfl rfl ?_
     refine WL.skp rfl rfl ?_
     refine WL.pick (v := .bool false) rfl rfl rfl rfl rfl rfl ?_
     refine WL.pick (v := .bool false) rfl rfl rfl rfl rfl rfl ?_
     refine WL.nil ?_
     refine N.seq ?_
     refine W.condF rfl ?_
     refine W.skip ?_
     refine N.blk ?_
     refine N.seq ?_
     refine W.region ?_
     refine WL.move rfl rfl rfl ?_
     refine WL.add (c := (i : Int) + 1) rfl rfl rfl rfl (rfl) (by omega) ?_
     refine WL.assign rfl rfl rfl ?_
     refine WL.nil ?_
     exact N.loop (i + 1) ⟨rfl, rfl, rfl, rfl, rfl, rfl, rfl, rfl, rfl, rfl, rfl, rfl, rfl, rfl, rfl, rfl, rfl, rfl, rfl, rfl, rfl, rfl, rfl, rfl, rfl, rfl, rfl, rfl, trivial⟩ ⟨hS, by omega⟩ (by first | omega | (simp only; omega))
    refine WL.set 78 (v' := .bool true) rfl (by rw [hg26]) ?_
    refine WL.set 79 (v' := .bool true) rfl (by rw [hg26]) ?_
    have hg26p : 0 ≤ find5 (gnames M) x14 := by simpa using hg26
    refine WL.fieldAddr fo_32_1 rfl rfl rfl ?_
    refine WL.load1 (v := .slice adgR M.globs.length capgR) one_30 rfl rfl rfl (hS.cell 0 rfl rfl) ?_
    refine WL.move rfl rfl rfl ?_
    refine WL.set 82 (v' := .int .i64 (((find5 (gnames M) x14).toNat : Nat) : Int)) rfl (by rw [Int.toNat_of_nonneg hg26p]) ?_
    have hj27 : (find5 (gnames M) x14).toNat < M.globs.length := find_ltG hg26p
    obtain ⟨x27, hx27⟩ : ∃ zz, M.globs[(find5 (gnames M) x14).toNat]? = some zz := ⟨_, List.getElem?_eq_getElem hj27⟩
    obtain ⟨b27, o27, cs27, hE27, hr27, hl27, hc27, hQ27⟩ := hgsRd ((find5 (gnames M) x14).toNat) _ hx27
    obtain ⟨rfl, hgn27, hgb27, hgi27⟩ := hQ27
    refine WL.indexAddrE (j := (find5 (gnames M) x14).toNat) Tryd.underlying30 isz_38 rfl rfl rfl rfl hj27 hE27 ?_
    refine WL.fieldAddr fo_38_1 rfl rfl rfl ?_
    refine WL.load1 (v := .int .i64 x27.bind) one_3 rfl rfl rfl (hS.roCells hr27 hc27 1 _ rfl) ?_
    refine WL.bin rfl rfl rfl rfl rfl ?_
    have hb27 : x27.bind = 2 := hF.keptG _ hsk _ (List.mem_of_getElem? hx27) (find_atG hg26p hx27)
    refine WL.set 86 (v' := .bool false) rfl (by simp [hb27]) ?_
    refine WL.pick (v := .bool false) rfl rfl rfl rfl rfl rfl ?_
    refine WL.pick (v := .bool false) rfl rfl rfl rfl rfl rfl ?_
    refine WL.nil ?_
    refine N.seq ?_
    refine W.condF rfl ?_
    refine W.skip ?_
    refine N.blk ?_
    refine N.seq ?_
    refine W.region ?_
    refine WL.move rfl rfl rfl ?_
    refine WL.add (c := (i : Int) + 1) rfl rfl rfl rfl (rfl) (by omega) ?_
    refine WL.assign rfl rfl rfl ?_
    refine WL.nil ?_
    exact N.loop (i + 1) ⟨rfl, rfl, rfl, rfl, rfl, rfl, rfl, rfl, rfl, rfl, rfl, rfl, rfl, rfl, rfl, rfl, rfl, rfl, rfl, rfl, rfl, rfl, rfl, rfl, rfl, rfl, rfl, rfl, trivial⟩ ⟨hS, by omega⟩ (by first | omega | (simp only; omega))
   refine WL.set 58 (v' := .bool true) rfl (by rw [hg21]) ?_
   refine WL.set 59 (v' := .bool true) rfl (by rw [hg21]) ?_
   have hg21p : find5 (fnames M) x14 < 0 := by simpa using hg21
   refine WL.move rfl rfl rfl ?_
   refine WL.bin rfl rfl rfl rfl rfl ?_
   refine WL.pick (v := .bool (decide (find5 (gnames M) x14 < 0))) rfl rfl rfl rfl rfl rfl ?_
   refine WL.move rfl rfl rfl ?_
   rcases (Bool.eq_false_or_eq_true (decide (find5 (gnames M) x14 < 0))).symm with hg28 | hg28
   ·
    refine WL.set 61 (v' := .bool false) rfl (by rw [hg28]) ?_
    refine WL.set 62 (v' := .bool false) rfl (by rw [hg28]) ?_
    refine WL.set 63 (v' := .bool false) rfl (by rw [hg28]) ?_
    have hg28p : ¬ (find5 (gnames M) x14 < 0) := by simpa using hg28
    refine WL.move rfl rfl rfl ?_
    refine WL.bin rfl rfl rfl rfl rfl ?_
    refine WL.move rfl rfl rfl ?_
    rcases (Bool.eq_false_or_eq_true (decide (0 ≤ find5 (fnames M) x14))).symm with hg29 | hg29
    ·
     refine WL.set 65 (v' := .bool false) rfl (by rw [hg29]) ?_
     refine WL.set 66 (v' := .bool false) rfl (by rw [hg29]) ?_
     have hg29p : ¬ (0 ≤ find5 (fnames M) x14) := by simpa using hg29
     refine WL.skp rfl rfl ?_
     refine WL.skp rfl rfl ?_
     refine WL.skp rfl rfl ?_
     refine WL.skp rfl rfl ?_
     refine WL.skp rfl rfl ?_
     refine WL.skp rfl rfl ?_
     refine WL.skp rfl rfl ?_
     refine WL.pick (v := .bool false) rfl rfl rfl rfl rfl rfl ?_
     refine WL.pick (v := .bool false) rfl rfl rfl rfl rfl rfl ?_
     refine WL.move rfl rfl rfl ?_
     refine WL.move rfl rfl rfl ?_
     refine WL.bin rfl rfl rfl rfl rfl ?_
     refine WL.move rfl rfl rfl ?_
     rcases (Bool.eq_false_or_eq_true (decide (0 ≤ find5 (gnames M) x14))).symm with hg30 | hg30
     ·
      refine WL.set 78 (v' := .bool false) rfl (by rw [hg30]) ?_
      refine WL.set 79 (v' := .bool false) rfl (by rw [hg30]) ?_
      have hg30p : ¬ (0 ≤ find5 (gnames M) x14) := by simpa using hg30
      refine WL.skp rfl rfl ?_
      refine WL.skp rfl rfl ?_
      refine WL.skp rfl rfl ?_
      refine WL.skp rfl rfl ?_
      refine WL.skp rfl rfl ?_
      refine WL.skp rfl rfl ?_
      refine WL.skp rfl rfl ?_
      refine WL.pick (v := .bool false) rfl rfl rfl rfl rfl rfl ?_
      refine WL.pick (v := .bool false) rfl rfl rfl rfl rfl rfl ?_
      refine WL.nil ?_
      refine N.seq ?_
      refine W.condF rfl ?_
      refine W.skip ?_
      refine N.blk ?_
      refine N.seq ?_
      refine W.region ?_
      refine WL.move rfl rfl rfl ?_
      refine WL.add (c := (i : Int) + 1) rfl rfl rfl rfl (rfl) (by omega) ?_
      refine WL.assign rfl rfl rfl ?_
      refine WL.nil ?_
      exact N.loop (i + 1) ⟨rfl, rfl, rfl, rfl, rfl, rfl, rfl, rfl, rfl, rfl, rfl, rfl, rfl, rfl, rfl, rfl, rfl, rfl, rfl, rfl, rfl, rfl, rfl, rfl, rfl, rfl, rfl, rfl, trivial⟩ ⟨hS, by omega⟩ (by first | omega | (simp only; omega))
     refine WL.set 78 (v' := .bool true) rfl (by rw [hg30]) ?_
     refine WL.set 79 (v' := .bool true) rfl (by rw [hg30]) ?_
     have hg30p : 0 ≤ find5 (gnames M) x14 := by simpa using hg30
     refine WL.fieldAddr fo_32_1 rfl rfl rfl ?_
     refine WL.load1 (v := .slice adgR M.globs.length capgR) one_30 rfl rfl rfl (hS.cell 0 rfl rfl) ?_
     refine WL.move rfl rfl rfl ?_
     refine WL.set 82 (v' := .int .i64 (((find5 (gnames M) x14).toNat : Nat) : Int)) rfl (by rw [Int.toNat_of_nonneg hg30p]) ?_
     have hj31 : (find5 (gnames M) x14).toNat < M.globs.length := find_ltG hg30p
     obtain ⟨x31, hx31⟩ : ∃ zz, M.globs[(find5 (gnames M) x14).toNat]? = some zz := ⟨_, List.getElem?_eq_getElem hj31⟩
     obtain ⟨b31, o31, cs31, hE31, hr31, hl31, hc31, hQ31⟩ := hgsRd ((find5 (gnames M) x14).toNat) _ hx31
     obtain ⟨rfl, hgn31, hgb31, hgi31⟩ := hQ31
     refine WL.indexAddrE (j := (find5 (gnames M) x14).toNat) Tryd.underlying30 isz_38 rfl rfl rfl rfl hj31 hE31 ?_
     refine WL.fieldAddr fo_38_1 rfl rfl rfl ?_
     refine WL.load1 (v := .int .i64 x31.bind) one_3 rfl rfl rfl (hS.roCells hr31 hc31 1 _ rfl) ?_
     refine WL.bin rfl rfl rfl rfl rfl ?_
     have hb31 : x31.bind = 2 := hF.keptG _ hsk _ (List.mem_of_getElem? hx31) (find_atG hg30p hx31)
     refine WL.set 86 (v' := .bool false) rfl (by simp [hb31]) ?_
     refine WL.pick (v := .bool false) rfl rfl rfl rfl rfl rfl ?_
     refine WL.pick (v := .bool false) rfl rfl rfl rfl rfl rfl ?_
     refine WL.nil ?_
     refine N.seq ?_
     refine W.condF rfl ?_
     refine W.skip ?_
     refine N.blk ?_
     refine N.seq ?_
     refine W.region ?_
     refine WL.move rfl rfl rfl ?_
     refine WL.add (c := (i : Int) + 1) rfl rfl rfl rfl (rfl) (by omega) ?_
     refine WL.assign rfl rfl rfl ?_
     refine WL.nil ?_
     exact N.loop (i + 1) ⟨rfl, rfl, rfl, rfl, rfl, rfl, rfl, rfl, rfl, rfl, rfl, rfl, rfl, rfl, rfl, rfl, rfl, rfl, rfl, rfl, rfl, rfl, rfl, rfl, rfl, rfl, rfl, rfl, trivial⟩ ⟨hS, by omega⟩ (by first | omega | (simp only; omega))
    refine WL.set 65 (v' := .bool true) rfl (by rw [hg29]) ?_
    refine WL.set 66 (v' := .bool true) rfl (by rw [hg29]) ?_
    have hg29p : 0 ≤ find5 (fnames M) x14 := by simpa using hg29
    refine WL.fieldAddr fo_32_0 rfl rfl rfl ?_
    refine WL.load1 (v := .slice adfR M.funcs.length capfR) one_29 rfl rfl rfl (hS.cell 0 rfl rfl) ?_
    refine WL.move rfl rfl rfl ?_
    refine WL.set 69 (v' := .int .i64 (((find5 (fnames M) x14).toNat : Nat) : Int)) rfl (by rw [Int.toNat_of_nonneg hg29p]) ?_
    have hj32 : (find5 (fnames M) x14).toNat < M.funcs.length := find_ltF hg29p
    obtain ⟨x32, hx32⟩ : ∃ zz, M.funcs[(find5 (fnames M) x14).toNat]? = some zz := ⟨_, List.getElem?_eq_getElem hj32⟩
    obtain ⟨b32, o32, cs32, hE32, hr32, hl32, hc32, hQ32⟩ := hfsRd ((find5 (fnames M) x14).toNat) _ hx32
    obtain ⟨sb32, rfl, hbl32, hnm32, hbd32, hpr32⟩ := id hQ32
    obtain ⟨adb32, capb32, rfl, hbk32a, hbk32b, hbk32c, hbk32d⟩ := id hbl32
    have hbk32m : x32.blocks.length ≤ 9223372036854775807 := by have h1 := hbk32a; have h2 := hbk32b; unfold maxLen at h2; omega
    refine WL.indexAddrE (j := (find5 (fnames M) x14).toNat) Tryd.underlying29 isz_35 rfl rfl rfl rfl hj32 hE32 ?_
    refine WL.fieldAddr fo_35_1 rfl rfl rfl ?_
    refine WL.load1 (v := .int .i64 x32.bind) one_3 rfl rfl rfl (hS.roCells hr32 hc32 1 _ rfl) ?_
    refine WL.bin rfl rfl rfl rfl rfl ?_
    have hb32 : x32.bind = 2 := hF.keptF _ hsk _ (List.mem_of_getElem? hx32) (find_atF hg29p hx32)
    refine WL.set 73 (v' := .bool false) rfl (by simp [hb32]) ?_
    refine WL.pick (v := .bool false) rfl rfl rfl rfl rfl rfl ?_
    refine WL.pick (v := .bool false) rfl rfl rfl rfl rfl rfl ?_
    refine WL.move rfl rfl rfl ?_
    refine WL.move rfl rfl rfl ?_
    refine WL.bin rfl rfl rfl rfl rfl ?_
    refine WL.move rfl rfl rfl ?_
    rcases (Bool.eq_false_or_eq_true (decide (0 ≤ find5 (gnames M) x14))).symm with hg33 | hg33
    ·
     refine WL.set 78 (v' := .bool false) rfl (by rw [hg33]) ?_
     refine WL.set 79 (v' := .bool false) rfl (by rw [hg33]) ?_
     have hg33p : ¬ (0 ≤ find5 (gnames M) x14) := by simpa using hg33
     refine WL.skp rfl rfl ?_
     refine WL.skp rfl rfl ?_
     refine WL.skp rfl rfl ?_
     refine WL.skp rfl rfl ?_
     refine WL.skp rfl rfl ?_
     refine WL.skp rfl rfl ?_
     refine WL.skp rfl rfl ?_
     refine WL.pick (v := .bool false) rfl rfl rfl rfl rfl rfl ?_
     refine WL.pick (v := .bool false) rfl rfl rfl rfl rfl rfl ?_
     refine WL.nil ?_
     refine N.seq ?_
     refine W.condF rfl ?_
     refine W.skip ?_
     refine N.blk ?_
     refine N.seq ?_
     refine W.region ?_
     refine WL.move rfl rfl rfl ?_
     refine WL.add (c := (i : Int) + 1) rfl rfl rfl rfl (rfl) (by omega) ?_
     refine WL.assign rfl rfl rfl ?_
     refine WL.nil ?_
     exact N.loop (i + 1) ⟨rfl, rfl, rfl, rfl, rfl, rfl, rfl, rfl, rfl, rfl, rfl, rfl, rfl, rfl, rfl, rfl, rfl, rfl, rfl, rfl, rfl, rfl, rfl, rfl, rfl, rfl, rfl, rfl, trivial⟩ ⟨hS, by omega⟩ (by first | omega | (simp only; omega))
    refine WL.set 78 (v' := .bool true) rfl (by rw [hg33]) ?_
    refine WL.set 79 (v' := .bool true) rfl (by rw [hg33]) ?_
    have hg33p : 0 ≤ find5 (gnames M) x14 := by simpa using hg33
    refine WL.fieldAddr fo_32_1 rfl rfl rfl ?_
    refine WL.load1 (v := .slice adgR M.globs.length capgR) one_30 rfl rfl rfl (hS.cell 0 rfl rfl) ?_
    refine WL.move rfl rfl rfl ?_
    refine WL.set 82 (v' := .int .i64 (((find5 (gnames M) x14).toNat : Nat) : Int)) rfl (by rw [Int.toNat_of_nonneg hg33p]) ?_
    have hj34 : (find5 (gnames M) x14).toNat < M.globs.length := find_ltG hg33p
    obtain ⟨x34, hx34⟩ : ∃ zz, M.globs[(find5 (gnames M) x14).toNat]? = some zz := ⟨_, List.getElem?_eq_getElem hj34⟩
    obtain ⟨b34, o34, cs34, hE34, hr34, hl34, hc34, hQ34⟩ := hgsRd ((find5 (gnames M) x14).toNat) _ hx34
    obtain ⟨rfl, hgn34, hgb34, hgi34⟩ := hQ34
    refine WL.indexAddrE (j := (find5 (gnames M) x14).toNat) Tryd.underlying30 isz_38 rfl rfl rfl rfl hj34 hE34 ?_
    refine WL.fieldAddr fo_38_1 rfl rfl rfl ?_
    refine WL.load1 (v := .int .i64 x34.bind) one_3 rfl rfl rfl (hS.roCells hr34 hc34 1 _ rfl) ?_
    refine WL.bin rfl rfl rfl rfl rfl ?_
    have hb34 : x34.bind = 2 := hF.keptG _ hsk _ (List.mem_of_getElem? hx34) (find_atG hg33p hx34)
    refine WL.set 86 (v' := .bool false) rfl (by simp [hb34]) ?_
    refine WL.pick (v := .bool false) rfl rfl rfl rfl rfl rfl ?_
    refine WL.pick (v := .bool false) rfl rfl rfl rfl rfl rfl ?_
    refine WL.nil ?_
    refine N.seq ?_
    refine W.condF rfl ?_
    refine W.skip ?_
    refine N.blk ?_
    refine N.seq ?_
    refine W.region ?_
    refine WL.move rfl rfl rfl ?_
    refine WL.add (c := (i : Int) + 1) rfl rfl rfl rfl (rfl) (by omega) ?_
    refine WL.assign rfl rfl rfl ?_
    refine WL.nil ?_
    exact N.loop (i + 1) ⟨rfl, rfl, rfl, rfl, rfl, rfl, rfl, rfl, rfl, rfl, rfl, rfl, rfl, rfl, rfl, rfl, rfl, rfl, rfl, rfl, rfl, rfl, rfl, rfl, rfl, rfl, rfl, rfl, trivial⟩ ⟨hS, by omega⟩ (by first | omega | (simp only; omega))
   refine WL.set 61 (v' := .bool true) rfl (by rw [hg28]) ?_
   refine WL.set 62 (v' := .bool true) rfl (by rw [hg28]) ?_
   refine WL.set 63 (v' := .bool true) rfl (by rw [hg28]) ?_
   have hg28p : find5 (gnames M) x14 < 0 := by simpa using hg28
   exact absurd hkp (by omega)
  have hc13p : ¬ ((i : Int) < (ks.length : Int)) := by simpa using hc13
  refine W.exit ?_
  refine X.seq ?_
  refine X.loop ?_
  refine X.blk ?_
  refine N.seq ?_
  refine W.seq ?_
  refine W.seq ?_
  refine W.region ?_
  refine WL.assign rfl rfl rfl ?_
  refine WL.nil ?_
  refine N.seq ?_
  refine W.block ?_
  refine W.loop (α := Nat) (fun (j : Nat) => [(0, .slice adl ms.length capl), (1, .slice adk ks.length capk), (5, .bool true), (6, .bool (ms.all fun m => decide (check5 m = 0))), (7, .bool (fewB ms ks)), (8, .pointer (some ⟨b8, 0, none⟩)), (9, .int .i64 ((merge10 ms ks).2)), (10, .int .i64 (i : Int)), (13, .int .i64 (j : Int)), (17, .bool true), (18, .slice adl ms.length capl), (19, .bool (ms.all fun m => decide (check5 m = 0))), (20, .slice adl ms.length capl), (21, .slice adk ks.length capk), (22, .bool (fewB ms ks)), (23, .bool (ms.all fun m => decide (check5 m = 0))), (24, .bool false), (25, .bool false), (26, .bool (fewB ms ks)), (27, .bool (!(fewB ms ks))), (28, .bool (!(fewB ms ks))), (30, .tuple #[.agg #[.slice adfR M.funcs.length capfR, .slice adgR M.globs.length capgR], .int .i64 ((merge10 ms ks).2)]), (31, .slice adl ms.length capl), (32, .slice adk ks.length capk), (33, .tuple #[.agg #[.slice adfR M.funcs.length capfR, .slice adgR M.globs.length capgR], .int .i64 ((merge10 ms ks).2)]), (34, .agg #[.slice adfR M.funcs.length capfR, .slice adgR M.globs.length capgR]), (35, .int .i64 ((merge10 ms ks).2)), (36, .int .i64 ((merge10 ms ks).2)), (37, .bool (!decide ((merge10 ms ks).2 = 0))), (39, .int .i64 (i : Int)), (40, .slice adk ks.length capk), (41, .int .i64 (ks.length : Int)), (42, .bool (decide ((i : Int) < (ks.length : Int))))]) (fun (j : Nat) u => St w w6 u (roFrom ro w3 w6) [(b8, .cells #[.slice adfR M.funcs.length capfR, .slice adgR M.globs.length capgR] 32 (0, 0))] [] ∧ j ≤ M.funcs.length) (fun (j : Nat) => M.funcs.length - j) 0 ⟨rfl, rfl, rfl, rfl, rfl, rfl, rfl, rfl, rfl, rfl, rfl, rfl, rfl, rfl, rfl, rfl, rfl, rfl, rfl, rfl, rfl, rfl, rfl, rfl, rfl, rfl, rfl, rfl, rfl, rfl, rfl, rfl, rfl, trivial⟩ ⟨hS, Nat.zero_le _⟩ ?_
  clear hS
  rintro j w35 ⟨hS, hj⟩
  refine W.seq ?_
  refine W.seq ?_
  refine W.region ?_
  refine WL.move rfl rfl rfl ?_
  refine WL.fieldAddr fo_32_0 rfl rfl rfl ?_
  refine WL.load1 (v := .slice adfR M.funcs.length capfR) one_29 rfl rfl rfl (hS.cell 0 rfl rfl) ?_
  refine WL.lenSlice Tryd.underlying29 rfl rfl rfl ?_
  refine WL.bin rfl rfl rfl rfl rfl ?_
  refine WL.nil ?_
  refine N.seq ?_
  refine W.cond rfl (fun hc36 => ?_) (fun hc36 => ?_)
  ·
   have hc36p : (j : Int) < (M.funcs.length : Int) := by simpa using hc36
   refine W.skip ?_
   refine N.seq ?_
   refine W.seq ?_
   refine W.block ?_
   refine W.seq ?_
   refine W.region ?_
   refine WL.fieldAddr fo_32_0 rfl rfl rfl ?_
   refine WL.load1 (v := .slice adfR M.funcs.length capfR) one_29 rfl rfl rfl (hS.cell 0 rfl rfl) ?_
   refine WL.move rfl rfl rfl ?_
   have hj37 : j < M.funcs.length := by omega
   obtain ⟨x37, hx37⟩ : ∃ zz, M.funcs[j]? = some zz := ⟨_, List.getElem?_eq_getElem hj37⟩
   obtain ⟨b37, o37, cs37, hE37, hr37, hl37, hc37, hQ37⟩ := hfsRd j _ hx37
   obtain ⟨sb37, rfl, hbl37, hnm37, hbd37, hpr37⟩ := id hQ37
   obtain ⟨adb37, capb37, rfl, hbk37a, hbk37b, hbk37c, hbk37d⟩ := id hbl37
   have hbk37m : x37.blocks.length ≤ 9223372036854775807 := by have h1 := hbk37a; have h2 := hbk37b; unfold maxLen at h2; omega
   refine WL.indexAddrE (j := j) Tryd.underlying29 isz_35 rfl rfl rfl rfl hj37 hE37 ?_
   refine WL.fieldAddr fo_35_0 rfl rfl rfl ?_
   refine WL.load1 (v := .string x37.name) one_9 rfl rfl rfl (hS.roCells hr37 hc37 0 _ rfl) ?_
   refine WL.assign rfl rfl rfl ?_
   refine WL.nil ?_
   refine N.seq ?_
   refine W.seq ?_
   refine W.region ?_
   refine WL.move rfl rfl rfl ?_
   refine WL.eqStr rfl rfl rfl rfl ?_
   refine WL.assign rfl rfl rfl ?_
   refine WL.nil ?_
   refine N.seq ?_
   refine W.seq ?_
   refine W.seq ?_
   refine W.region ?_
   refine WL.assign rfl rfl rfl ?_
   refine WL.nil ?_
   refine N.seq ?_
   refine W.block ?_
   refine W.loop (α := Nat × Bool) (fun ⟨z, b⟩ => [(0, .slice adl ms.length capl), (1, .slice adk ks.length capk), (5, .bool true), (6, .bool (ms.all fun m => decide (check5 m = 0))), (7, .bool (fewB ms ks)), (8, .pointer (some ⟨b8, 0, none⟩)), (9, .int .i64 ((merge10 ms ks).2)), (10, .int .i64 (i : Int)), (13, .int .i64 (j : Int)), (14, .string x37.name), (15, .bool b), (16, .int .i64 (z : Int)), (17, .bool true), (18, .slice adl ms.length capl), (19, .bool (ms.all fun m => decide (check5 m = 0))), (20, .slice adl ms.length capl), (21, .slice adk ks.length capk), (22, .bool (fewB ms ks)), (23, .bool (ms.all fun m => decide (check5 m = 0))), (24, .bool false), (25, .bool false), (26, .bool (fewB ms ks)), (27, .bool (!(fewB ms ks))), (28, .bool (!(fewB ms ks))), (30, .tuple #[.agg #[.slice adfR M.funcs.length capfR, .slice adgR M.globs.length capgR], .int .i64 ((merge10 ms ks).2)]), (31, .slice adl ms.length capl), (32, .slice adk ks.length capk), (33, .tuple #[.agg #[.slice adfR M.funcs.length capfR, .slice adgR M.globs.length capgR], .int .i64 ((merge10 ms ks).2)]), (34, .agg #[.slice adfR M.funcs.length capfR, .slice adgR M.globs.length capgR]), (35, .int .i64 ((merge10 ms ks).2)), (36, .int .i64 ((merge10 ms ks).2)), (37, .bool (!decide ((merge10 ms ks).2 = 0))), (39, .int .i64 (i : Int)), (40, .slice adk ks.length capk), (41, .int .i64 (ks.length : Int)), (42, .bool (decide ((i : Int) < (ks.length : Int)))), (89, .int .i64 (j : Int)), (90, .pointer (some ⟨b8, 0, none⟩)), (91, .slice adfR M.funcs.length capfR), (92, .int .i64 (M.funcs.length : Int)), (93, .bool (decide ((j : Int) < (M.funcs.length : Int)))), (96, .pointer (some ⟨b8, 0, none⟩)), (97, .slice adfR M.funcs.length capfR), (98, .int .i64 (j : Int)), (99, .pointer (some ⟨b37, o37 + j * 4, none⟩)), (100, .pointer (some ⟨b37, o37 + j * 4, none⟩)), (101, .string x37.name), (102, .string x37.name), (103, .bool (decide (x37.name = ⟨#[109, 97, 105, 110]⟩)))]) (fun ⟨z, b⟩ u => St w w6 u (roFrom ro w3 w6) [(b8, .cells #[.slice adfR M.funcs.length capfR, .slice adgR M.globs.length capgR] 32 (0, 0))] [] ∧ z ≤ ks.length ∧ b = (decide (x37.name = mainB) || (ks.take z).any fun k => decide (k = x37.name))) (fun ⟨z, b⟩ => ks.length - z) (0, (decide (x37.name = ⟨#[109, 97, 105, 110]⟩))) ⟨rfl, rfl, rfl, rfl, rfl, rfl, rfl, rfl, rfl, rfl, rfl, rfl, rfl, rfl, rfl, rfl, rfl, rfl, rfl, rfl, rfl, rfl, rfl, rfl, rfl, rfl, rfl, rfl, rfl, rfl, rfl, rfl, rfl, rfl, rfl, rfl, rfl, rfl, rfl, rfl, rfl, rfl, rfl, rfl, rfl, rfl, rfl, rfl, rfl, trivial⟩ ⟨hS, Nat.zero_le _, by simp; rfl⟩ ?_
   clear hS
   rintro ⟨z, b⟩ w38 ⟨hS, hz, hb⟩
   refine W.seq ?_
   refine W.seq ?_
   refine W.region ?_
   refine WL.move rfl rfl rfl ?_
   refine WL.move rfl rfl rfl ?_
   refine WL.lenSlice Tryd.underlying25 rfl rfl rfl ?_
   refine WL.bin rfl rfl rfl rfl rfl ?_
   refine WL.nil ?_
   refine N.seq ?_
   refine W.cond rfl (fun hc39 => ?_) (fun hc39 => ?_)
   ·
    have hc39p : (z : Int) < (ks.length : Int) := by simpa using hc39
    refine W.skip ?_
    refine N.seq ?_
    refine W.seq ?_
    refine W.block ?_
    refine W.region ?_
    refine WL.move rfl rfl rfl ?_
    refine WL.move rfl rfl rfl ?_
    rcases (Bool.eq_false_or_eq_true b).symm with hg40 | hg40
    ·
     refine WL.set 15 (v' := .bool false) rfl (by rw [hg40]) ?_
     refine WL.set 110 (v' := .bool false) rfl (by rw [hg40]) ?_
     refine WL.set 111 (v' := .bool false) rfl (by rw [hg40]) ?_
     refine WL.move rfl rfl rfl ?_
     refine WL.move rfl rfl rfl ?_
     have hj41 : z < ks.length := by omega
     obtain ⟨x41, hx41⟩ : ∃ zz, ks[z]? = some zz := ⟨_, List.getElem?_eq_getElem hj41⟩
     obtain ⟨b41, o41, cs41, hE41, hr41, hl41, hc41, hQ41⟩ := hk0d z _ hx41
     obtain ⟨rfl, hsz41⟩ := hQ41
     refine WL.indexAddrE (j := z) Tryd.underlying25 isz_9 rfl rfl rfl rfl hj41 hE41 ?_
     refine WL.load1 (v := .string x41) one_9 rfl rfl rfl (hS.roCells hr41 hc41 0 _ rfl) ?_
     refine WL.move rfl rfl rfl ?_
     refine WL.eqStr rfl rfl rfl rfl ?_
     refine WL.pick (v := .bool (decide (x41 = x37.name))) rfl rfl rfl rfl rfl rfl ?_
     refine WL.assign rfl rfl rfl ?_
     refine WL.nil ?_
     refine N.blk ?_
     refine N.seq ?_
     refine W.region ?_
     refine WL.move rfl rfl rfl ?_
     refine WL.add (c := (z : Int) + 1) rfl rfl rfl rfl (rfl) (by omega) ?_
     refine WL.assign rfl rfl rfl ?_
     refine WL.nil ?_
     have hb9 : (decide (x41 = x37.name) : Bool) = (decide (x37.name = mainB) || (ks.take (z + 1)).any fun k => decide (k = x37.name)) := by rw [take_next hx41, List.any_append, ← Bool.or_assoc, ← hb]; simp [hg40]
     exact N.loop (z + 1, (decide (x41 = x37.name))) ⟨rfl, rfl, rfl, rfl, rfl, rfl, rfl, rfl, rfl, rfl, rfl, rfl, rfl, rfl, rfl, rfl, rfl, rfl, rfl, rfl, rfl, rfl, rfl, rfl, rfl, rfl, rfl, rfl, rfl, rfl, rfl, rfl, rfl, rfl, rfl, rfl, rfl, rfl, rfl, rfl, rfl, rfl, rfl, rfl, rfl, rfl, rfl, rfl, rfl, trivial⟩ ⟨hS, by omega, hb9⟩ (by first | omega | (simp only; omega))
    refine WL.set 15 (v' := .bool true) rfl (by rw [hg40]) ?_
    refine WL.set 110 (v' := .bool true) rfl (by rw [hg40]) ?_
    refine WL.set 111 (v' := .bool true) rfl (by rw [hg40]) ?_
    refine WL.skp rfl rfl ?_
    refine WL.skp rfl rfl ?_
    refine WL.skp rfl rfl ?_
    refine WL.skp rfl rfl ?_
    refine WL.skp rfl rfl ?_
    refine WL.skp rfl rfl ?_
    refine WL.pick (v := .bool true) rfl rfl rfl rfl rfl rfl ?_
    refine WL.assign rfl rfl rfl ?_
    refine WL.nil ?_
    refine N.blk ?_
    refine N.seq ?_
    refine W.region ?_
    refine WL.move rfl rfl rfl ?_
    refine WL.add (c := (z : Int) + 1) rfl rfl rfl rfl (rfl) (by omega) ?_
    refine WL.assign rfl rfl rfl ?_
    refine WL.nil ?_
    have hj42 : z < ks.length := by omega
    obtain ⟨x42, hx42⟩ : ∃ zz, ks[z]? = some zz := ⟨_, List.getElem?_eq_getElem hj42⟩
    obtain ⟨b42, o42, cs42, hE42, hr42, hl42, hc42, hQ42⟩ := hk0d z _ hx42
    obtain ⟨rfl, hsz42⟩ := hQ42
    have hb9 : (true : Bool) = (decide (x37.name = mainB) || (ks.take (z + 1)).any fun k => decide (k = x37.name)) := by rw [take_next hx42, List.any_append, ← Bool.or_assoc, ← hb]; simp [hg40]
    exact N.loop (z + 1, true) ⟨rfl, rfl, rfl, rfl, rfl, rfl, rfl, rfl, rfl, rfl, rfl, rfl, rfl, rfl, rfl, rfl, rfl, rfl, rfl, rfl, rfl, rfl, rfl, rfl, rfl, rfl, rfl, rfl, rfl, rfl, rfl, rfl, rfl, rfl, rfl, rfl, rfl, rfl, rfl, rfl, rfl, rfl, rfl, rfl, rfl, rfl, rfl, rfl, rfl, trivial⟩ ⟨hS, by omega, hb9⟩ (by first | omega | (simp only; omega))
   have hc39p : ¬ ((z : Int) < (ks.length : Int)) := by simpa using hc39
   refine W.exit ?_
   refine X.seq ?_
   refine X.loop ?_
   refine X.blk ?_
   refine N.seq ?_
   refine W.seq ?_
   refine W.region ?_
   refine WL.fieldAddr fo_32_0 rfl rfl rfl ?_
   refine WL.load1 (v := .slice adfR M.funcs.length capfR) one_29 rfl rfl rfl (hS.cell 0 rfl rfl) ?_
   refine WL.move rfl rfl rfl ?_
   refine WL.indexAddrE (j := j) Tryd.underlying29 isz_35 rfl rfl rfl rfl hj37 hE37 ?_
   refine WL.fieldAddr fo_35_1 rfl rfl rfl ?_
   refine WL.load1 (v := .int .i64 x37.bind) one_3 rfl rfl rfl (hS.roCells hr37 hc37 1 _ rfl) ?_
   refine WL.bin rfl rfl rfl rfl rfl ?_
   refine WL.move rfl rfl rfl ?_
   refine WL.neBool Tryd.underlying4 rfl rfl rfl rfl ?_
   refine WL.set 127 (v' := .bool false) rfl (by rw [hb, show z = ks.length by omega, List.take_length, ← hF.bind _ (List.mem_of_getElem? hx37)]; simp) ?_
   refine WL.nil ?_
   refine N.seq ?_
   refine W.condF rfl ?_
   refine W.skip ?_
   refine N.blk ?_
   refine N.seq ?_
   refine W.region ?_
   refine WL.move rfl rfl rfl ?_
   refine WL.add (c := (j : Int) + 1) rfl rfl rfl rfl (rfl) (by omega) ?_
   refine WL.assign rfl rfl rfl ?_
   refine WL.nil ?_
   exact N.loop (j + 1) ⟨rfl, rfl, rfl, rfl, rfl, rfl, rfl, rfl, rfl, rfl, rfl, rfl, rfl, rfl, rfl, rfl, rfl, rfl, rfl, rfl, rfl, rfl, rfl, rfl, rfl, rfl, rfl, rfl, rfl, rfl, rfl, rfl, rfl, trivial⟩ ⟨hS, by omega⟩ (by first | omega | (simp only; omega))
  have hc36p : ¬ ((j : Int) < (M.funcs.length : Int)) := by simpa using hc36
  refine W.exit ?_
  refine X.seq ?_
  refine X.loop ?_
  refine X.blk ?_
  refine N.seq ?_
  refine W.seq ?_
  refine W.region ?_
  refine WL.move rfl rfl rfl ?_
  refine WL.move rfl rfl rfl ?_
  refine WL.loadN (cs := [.slice adfR M.funcs.length capfR, .slice adgR M.globs.length capgR]) agg_32 rfl rfl rfl rfl (hS.cells 0 (m := 2) rfl rfl) ?_
  refine WL.callF (vs := [.agg #[.slice adfR M.funcs.length capfR, .slice adgR M.globs.length capgR], .string ⟨#[109, 97, 105, 110]⟩]) Tryd.func18 (by kernel_rfl) rfl rfl rfl (findfnames_ret M _ ⟨#[109, 97, 105, 110]⟩ (ro := (roFrom ro w3 w6)) (fun b hb => (hS.snap b hb).1) (hmr.keep hS.alike)) ?_
  rintro v w43 ⟨rfl, hbl⟩
  replace hS := hS.grow hbl
  refine WL.bin rfl rfl rfl rfl rfl ?_
  refine WL.set 132 (v' := .bool true) rfl (congrArg Value.bool (show (decide (0 ≤ find5 (fnames M) ⟨#[109, 97, 105, 110]⟩)) = true from decide_eq_true hF.main)) ?_
  refine WL.pick (v := .bool true) rfl rfl rfl rfl rfl rfl ?_
  refine WL.assign rfl rfl rfl ?_
  refine WL.nil ?_
  refine N.seq ?_
  refine Fin.ret1 rfl (v := .bool true) rfl ?_
  exact ⟨rfl, hS.below⟩
 refine WL.set 24 (v' := .bool true) rfl (by rw [hg4]) ?_
 refine WL.set 25 (v' := .bool true) rfl (by rw [hg4]) ?_
 refine WL.skp rfl rfl ?_
 refine WL.skp rfl rfl ?_
 refine WL.pick (v := .bool true) rfl rfl rfl rfl rfl rfl ?_
 refine WL.nil ?_
 refine N.seq ?_
 refine W.condT rfl ?_
 refine W.seq ?_
 refine W.region ?_
 refine WL.move rfl rfl rfl ?_
 refine WL.assign rfl rfl rfl ?_
 refine WL.nil ?_
 refine N.seq ?_
 refine Fin.ret1 rfl (v := .bool true) rfl ?_
 exact ⟨rfl, hS.below⟩

end Go.Proofs.YtapjejjmhmdmdaaDoor
