/-
  Contracts of layer 17 (gen). No condition beyond those that each theorem states.
-/
import Derived.Test.YtcmmhfknkldmcaaDoorG9
namespace Go.Proofs.YtcmmhfknkldmcaaDoor
open Go.RowKit
theorem agg_30 : tyAgg Tryd.prog 30 3 = true := by kernel_rfl
theorem isz_1 : (Tryd.prog.info? 1).map (·.size) = some 1 := by kernel_rfl
theorem one_1 : tyOne Tryd.prog 1 = true := by kernel_rfl
theorem siz_30 : tySize Tryd.prog 30 3 = true := by kernel_rfl
theorem zer_30 : tyZero Tryd.prog 30 = some [.string ⟨#[]⟩, .slice none 0 0, .slice none 0 0] := by kernel_rfl
theorem head17_len (fr : Int) (n : Nat) : (head17 fr n).length = 2 + n := by unfold head17 headP; simp; omega
theorem head17_next (fr : Int) (n : Nat) : head17 fr (n + 1) = head17 fr n ++ [sv (10 + (n : Int)) (n : Int)] := by unfold head17; rw [headP_next, List.append_assoc]
set_option maxRecDepth 10000 in
set_option maxHeartbeats 4000000 in
theorem func_ret (f : DFunc) (cf : List Value) {w : World} {ro : Nat → Prop} (hro : ∀ b, ro b → b < w.heap.size) (hx : FuncC ro w cf f) (hok : OkG f) (hr0 : ro 0) (hc0 : CellsAt w 0 0 [.int .i64 0, .int .i64 0, .int .i64 1, .int .i64 2, .int .i64 9, .int .i64 8, .int .i64 7, .int .i64 5, .int .i64 3, .int .i64 6, .int .i64 4, .int .i64 2]) : Ret Tryd.prog 10 #[.agg cf.toArray] w fun v w' => ∃ so sr, v = .agg #[.string f.name, so, sr] ∧ w'.ownsRow w.heap.size 36 5 so (func17 f).ops.length (oCells (func17 f).ops) ∧ w'.ownsRow w.heap.size 34 3 sr (func17 f).rels.length (rCells (func17 f).rels) ∧ (∀ b, so.ownBlock = some b → w.heap.size ≤ b ∧ b < w'.heap.size) ∧ (∀ b, sr.ownBlock = some b → w.heap.size ≤ b ∧ b < w'.heap.size) ∧ Below w.heap.size w w' := by
 obtain ⟨sbF, rfl, hblF, hnmF, hbdF, hprF⟩ := id hx
 obtain ⟨adbF, capbF, rfl, hbkFa, hbkFb, hbkFc, hbkFd⟩ := id hblF
 have hbkFm : f.blocks.length ≤ 9223372036854775807 := by have h1 := hbkFa; have h2 := hbkFb; unfold maxLen at h2; omega
 refine Ret.enter (P := Tryd.prog) (n := 111) (args := [.agg #[.string f.name, .int .i64 f.bind, .int .i64 f.params, .slice adbF f.blocks.length capbF]]) (σ := [(0, .agg #[.string f.name, .int .i64 f.bind, .int .i64 f.params, .slice adbF f.blocks.length capbF])]) Tryd.func10 rfl rfl rfl rfl ?_
 have hS := St.start (ro := ro) hro
 have hm38 := many16_38 hok; have hfrm := frame_in hok; have hpa0 := hok.p0; have hpa1 := hok.p1; have hbl16 := hok.bl
 have hsub : ∀ b, ro b → ro b ∨ w.heap.size ≤ b := fun _ h => .inl h
 replace hS := hS.row0 1 1
 replace hS := hS.row0 3 1
 replace hS := hS.row0 34 3
 replace hS := hS.row0 36 5
 refine W.seq (W.region ?_)
 refine WL.box (v := .agg #[.string f.name, .int .i64 f.bind, .int .i64 f.params, .slice adbF f.blocks.length capbF]) (cs := [.string f.name, .int .i64 f.bind, .int .i64 f.params, .slice adbF f.blocks.length capbF]) rfl rfl rfl rfl hS ?_
 clear hS; intro w1 b1 hb_b1 hS
 refine WL.alloc (tyZero_spec zer_30) rfl rfl hS ?_
 clear hS; intro w2 b2 hb_b2 hS
 refine WL.nil (N.seq (W.seq ?_))
 refine W.drawA0 (S := fun u => True) (by kernel_rfl) (fun w3 hbd => ?_)
 replace hS := hS.grow hbd
 refine WA.conv (fuel' := 9 + 2) (listed' := (lb 11 0)) (by kernel_rfl) (by kernel_rfl) (WA.phaseI [(0, (fun v _ => v = .agg #[.string f.name, .int .i64 f.bind, .int .i64 f.params, .slice adbF f.blocks.length capbF])), (1, (fun v _ => v = .agg #[.string f.name, .int .i64 f.bind, .int .i64 f.params, .slice adbF f.blocks.length capbF])), (2, (fun v _ => v = .int .i64 (many16 f))), (3, (fun v _ => v = .agg #[.string f.name, .int .i64 f.bind, .int .i64 f.params, .slice adbF f.blocks.length capbF])), (4, (fun v _ => v = .int .i64 (frame17 f))), (5, (fun v _ => v = .pointer (some ⟨b1, 0, none⟩))), (6, (fun v _ => v = .string f.name)), (7, (fun v _ => v = .agg #[.string f.name, .slice none 0 0, .slice none 0 0])), (8, (fun v _ => v = .agg #[.string f.name, .int .i64 f.bind, .int .i64 f.params, .slice adbF f.blocks.length capbF, .int .i64 (many16 f), .int .i64 (frame17 f), .string f.name, .slice none 0 0, .slice none 0 0, .slice none 0 0, .slice none 0 0]))] (by kernel_rfl) [(1, .pointer (some ⟨b1, 0, none⟩)), (2, .pointer (some ⟨b2, 0, none⟩))] ⟨rfl, rfl, trivial⟩ (by kernel_rfl) ⟨stays_eq, stays_eq, stays_eq, stays_eq, stays_eq, stays_eq, stays_eq, stays_eq, stays_eq, trivial⟩ ?_ (fun _ _ => trivial) ?_)
 ·
  refine ⟨fun β wd hb hD => ⟨_, rfl, ?_⟩, ?_⟩
  ·
   have hS := hS.grow hb
   refine WL.loadN (cs := [.string f.name, .int .i64 f.bind, .int .i64 f.params, .slice adbF f.blocks.length capbF]) agg_24 rfl rfl rfl rfl (hS.cells 1 (m := 4) rfl rfl) ?_
   exact WL.nil (N.cut _ ⟨rfl, trivial⟩ ⟨(Below.refl _ _), rfl⟩)
  refine ⟨fun β wd hb hD => ⟨_, rfl, ?_⟩, ?_⟩
  ·
   have hS := hS.grow hb
   refine WL.loadN (cs := [.string f.name, .int .i64 f.bind, .int .i64 f.params, .slice adbF f.blocks.length capbF]) agg_24 rfl rfl rfl rfl (hS.cells 1 (m := 4) rfl rfl) ?_
   exact WL.nil (N.cut _ ⟨rfl, trivial⟩ ⟨(Below.refl _ _), rfl⟩)
  refine ⟨fun β wd hb hD => ⟨_, rfl, ?_⟩, ?_⟩
  ·
   obtain ⟨hp1, _⟩ := hD
   replace hp1 : β 1 = .agg #[.string f.name, .int .i64 f.bind, .int .i64 f.params, .slice adbF f.blocks.length capbF] := hp1
   refine WL.sub (σ' := [(13, .agg #[.string f.name, .int .i64 f.bind, .int .i64 f.params, .slice adbF f.blocks.length capbF])]) ⟨congrArg some hp1, trivial⟩ ?_
   have hS := hS.grow hb
   refine WL.callF (vs := [.agg #[.string f.name, .int .i64 f.bind, .int .i64 f.params, .slice adbF f.blocks.length capbF]]) Tryd.func23 (by kernel_rfl) rfl rfl rfl (many16_ret f _ (ro := ro) (fun b hb => (hS.snap b hb).1) (hx.keep hS.alike) hok.ok) ?_
   rintro v w6 ⟨rfl, hbl⟩
   replace hS := hS.grow hbl
   exact WL.nil (N.cut _ ⟨rfl, trivial⟩ ⟨hbl, rfl⟩)
  refine ⟨fun β wd hb hD => ⟨_, rfl, ?_⟩, ?_⟩
  ·
   have hS := hS.grow hb
   refine WL.loadN (cs := [.string f.name, .int .i64 f.bind, .int .i64 f.params, .slice adbF f.blocks.length capbF]) agg_24 rfl rfl rfl rfl (hS.cells 1 (m := 4) rfl rfl) ?_
   exact WL.nil (N.cut _ ⟨rfl, trivial⟩ ⟨(Below.refl _ _), rfl⟩)
  refine ⟨fun β wd hb hD => ⟨_, rfl, ?_⟩, ?_⟩
  ·
   obtain ⟨hp3, _, _⟩ := hD
   replace hp3 : β 3 = .agg #[.string f.name, .int .i64 f.bind, .int .i64 f.params, .slice adbF f.blocks.length capbF] := hp3
   refine WL.sub (σ' := [(15, .agg #[.string f.name, .int .i64 f.bind, .int .i64 f.params, .slice adbF f.blocks.length capbF])]) ⟨congrArg some hp3, trivial⟩ ?_
   have hS := hS.grow hb
   refine WL.callF (vs := [.agg #[.string f.name, .int .i64 f.bind, .int .i64 f.params, .slice adbF f.blocks.length capbF]]) Tryd.func13 (by kernel_rfl) rfl rfl rfl (frame_ret f _ (ro := ro) (fun b hb => (hS.snap b hb).1) (hx.keep hS.alike) hok) ?_
   rintro v w7 ⟨rfl, hbl⟩
   replace hS := hS.grow hbl
   exact WL.nil (N.cut _ ⟨rfl, trivial⟩ ⟨hbl, rfl⟩)
  refine ⟨fun β wd hb hD => ⟨_, rfl, ?_⟩, ?_⟩
  ·
   have hS := hS.grow hb
   refine WL.fieldAddr fo_24_0 rfl rfl rfl ?_
   exact WL.nil (N.cut _ ⟨rfl, trivial⟩ ⟨(Below.refl _ _), rfl⟩)
  refine ⟨fun β wd hb hD => ⟨_, rfl, ?_⟩, ?_⟩
  ·
   obtain ⟨hp5, _⟩ := hD
   replace hp5 : β 5 = .pointer (some ⟨b1, 0, none⟩) := hp5
   refine WL.sub (σ' := [(17, .pointer (some ⟨b1, 0, none⟩))]) ⟨congrArg some hp5, trivial⟩ ?_
   have hS := hS.grow hb
   refine WL.load1 (v := .string f.name) one_9 rfl rfl rfl (hS.cell 1 rfl rfl) ?_
   exact WL.nil (N.cut _ ⟨rfl, trivial⟩ ⟨(Below.refl _ _), rfl⟩)
  refine ⟨fun β wd hb hD => ⟨_, rfl, ?_⟩, ?_⟩
  ·
   obtain ⟨hp6, _⟩ := hD
   replace hp6 : β 6 = .string f.name := hp6
   refine WL.sub (σ' := [(18, .string f.name)]) ⟨congrArg some hp6, trivial⟩ ?_
   have hS := hS.grow hb
   refine WL.build (ps := [(0, .string f.name)]) (cs := [.string f.name, .slice none 0 0, .slice none 0 0]) rfl rfl rfl (by kernel_rfl) ?_
   exact WL.nil (N.cut _ ⟨rfl, trivial⟩ ⟨(Below.refl _ _), rfl⟩)
  refine ⟨fun β wd hb hD => ⟨_, rfl, ?_⟩, ?_⟩
  ·
   obtain ⟨hp0, hp2, hp4, hp7, _⟩ := hD
   replace hp0 : β 0 = .agg #[.string f.name, .int .i64 f.bind, .int .i64 f.params, .slice adbF f.blocks.length capbF] := hp0
   replace hp2 : β 2 = .int .i64 (many16 f) := hp2
   replace hp4 : β 4 = .int .i64 (frame17 f) := hp4
   replace hp7 : β 7 = .agg #[.string f.name, .slice none 0 0, .slice none 0 0] := hp7
   refine WL.sub (σ' := [(12, .agg #[.string f.name, .int .i64 f.bind, .int .i64 f.params, .slice adbF f.blocks.length capbF]), (14, .int .i64 (many16 f)), (16, .int .i64 (frame17 f)), (19, .agg #[.string f.name, .slice none 0 0, .slice none 0 0])]) ⟨congrArg some hp0, congrArg some hp2, congrArg some hp4, congrArg some hp7, trivial⟩ ?_
   have hS := hS.grow hb
   refine WL.build (ps := [(0, .agg #[.string f.name, .int .i64 f.bind, .int .i64 f.params, .slice adbF f.blocks.length capbF]), (1, .int .i64 (many16 f)), (2, .int .i64 (frame17 f)), (3, .agg #[.string f.name, .slice none 0 0, .slice none 0 0])]) (cs := [.string f.name, .int .i64 f.bind, .int .i64 f.params, .slice adbF f.blocks.length capbF, .int .i64 (many16 f), .int .i64 (frame17 f), .string f.name, .slice none 0 0, .slice none 0 0, .slice none 0 0, .slice none 0 0]) rfl rfl rfl (by kernel_rfl) ?_
   exact WL.nil (N.cut _ ⟨rfl, trivial⟩ ⟨(Below.refl _ _), rfl⟩)
  trivial
 intro β w8 hb hD
 obtain ⟨hp0, hp1, hp2, hp3, hp4, hp5, hp6, hp7, hp8, _⟩ := hD
 refine WA.sub (σ' := [(1, .pointer (some ⟨b1, 0, none⟩)), (2, .pointer (some ⟨b2, 0, none⟩)), (20, .agg #[.string f.name, .int .i64 f.bind, .int .i64 f.params, .slice adbF f.blocks.length capbF, .int .i64 (many16 f), .int .i64 (frame17 f), .string f.name, .slice none 0 0, .slice none 0 0, .slice none 0 0, .slice none 0 0])]) ⟨rfl, rfl, congrArg some (show β 8 = .agg #[.string f.name, .int .i64 f.bind, .int .i64 f.params, .slice adbF f.blocks.length capbF, .int .i64 (many16 f), .int .i64 (frame17 f), .string f.name, .slice none 0 0, .slice none 0 0, .slice none 0 0, .slice none 0 0] from hp8), trivial⟩ ?_
 have hSd := hS
 replace hS := hS.grow hb
 refine WA.conv (fuel' := 1 + 1) (listed' := (lb 11 511)) (by kernel_rfl) (by kernel_rfl) (WA.stepS 9 (by kernel_rfl) rfl ?_)
 refine WL.box (v := .agg #[.string f.name, .int .i64 f.bind, .int .i64 f.params, .slice adbF f.blocks.length capbF, .int .i64 (many16 f), .int .i64 (frame17 f), .string f.name, .slice none 0 0, .slice none 0 0, .slice none 0 0, .slice none 0 0]) (cs := [.string f.name, .int .i64 f.bind, .int .i64 f.params, .slice adbF f.blocks.length capbF, .int .i64 (many16 f), .int .i64 (frame17 f), .string f.name, .slice none 0 0, .slice none 0 0, .slice none 0 0, .slice none 0 0]) rfl rfl rfl rfl hS ?_
 clear hS; intro w9 bm hb_bm hS
 refine WL.nil (N.restS trivial ?_)
 refine WA.conv (fuel' := 0 + 1) (listed' := (lb 11 1023)) (by kernel_rfl) (by kernel_rfl) (WA.stepS 10 (by kernel_rfl) rfl ?_)
 refine WL.assign rfl rfl rfl ?_
 refine WL.nil (N.restS trivial ?_)
 refine WA.doneN (by kernel_rfl) ?_
 refine N.seq (W.seq (W.region (WL.move rfl rfl rfl (WL.move rfl rfl rfl (WL.nilPtr rfl rfl rfl (WL.fieldAddr fo_64_2 rfl rfl rfl (WL.load1 (v := .int .i64 (frame17 f)) one_3 rfl rfl rfl (hS.cell 0 rfl rfl) ?_)))))))
 refine WL.neg rfl rfl rfl ?_
 refine WL.set 27 (v' := .int .i64 (0 - frame17 f)) rfl (congrArg _ (by rw [wrap64 (by omega)])) ?_
 refine WL.build (ps := [(0, .int .i64 12), (1, .int .i64 2), (2, .int .i64 2), (4, .int .i64 (0 - frame17 f))]) (cs := [.int .i64 12, .int .i64 2, .int .i64 2, .int .i64 0, .int .i64 (0 - frame17 f)]) rfl rfl rfl (by kernel_rfl) ?_
 refine WL.build (ps := [(0, .int .i64 21), (2, .int .i64 2), (3, .int .i64 1)]) (cs := [.int .i64 21, .int .i64 0, .int .i64 2, .int .i64 1, .int .i64 0]) rfl rfl rfl (by kernel_rfl) ?_
 refine WL.buildSlice (ps := [(0, .agg #[.int .i64 12, .int .i64 2, .int .i64 2, .int .i64 0, .int .i64 (0 - frame17 f)]), (1, .agg #[.int .i64 21, .int .i64 0, .int .i64 2, .int .i64 1, .int .i64 0])]) (cs := [.int .i64 12, .int .i64 2, .int .i64 2, .int .i64 0, .int .i64 (0 - frame17 f), .int .i64 21, .int .i64 0, .int .i64 2, .int .i64 1, .int .i64 0]) Tryd.underlying27 (tyZero_spec zer_36) rfl rfl rfl rfl (by kernel_rfl) hS ?_
 clear hS; intro w11 b10 hb_b10 hS
 replace hS := hS.perm ((List.Perm.swap _ _ _))
 refine WL.callF (vs := [.pointer (some ⟨bm, 0, none⟩), .slice (some ⟨b10, 0, none⟩) 2 2]) Tryd.func24 (by kernel_rfl) rfl rfl rfl (put_ret (some ⟨b10, 0, none⟩) 2 2 [.int .i64 12, .int .i64 2, .int .i64 2, .int .i64 0, .int .i64 (0 - frame17 f), .int .i64 21, .int .i64 0, .int .i64 2, .int .i64 1, .int .i64 0] rfl (fun e => by cases e) (fun b off e => by cases e; exact hS.cells 1 (m := 10) rfl rfl) (fun a e _ => by cases e; rfl) (by intro u hu; simp only [List.mem_cons, List.not_mem_nil, or_false] at hu; rcases hu with rfl | rfl | rfl | rfl | rfl | rfl | rfl | rfl | rfl | rfl <;> rfl) (by first | omega | (simp only; omega)) hS) ?_
 clear hS; rintro v w12 ⟨rfl, vo13, hS⟩
 replace hS := hS.perm ((List.Perm.swap _ _ _))
 replace hS := hS.dropN 1
 refine WL.nil (N.seq (W.seq (W.seq (W.region (WL.fieldAddr fo_24_2 rfl rfl rfl (WL.load1 (v := .int .i64 f.params) one_3 rfl rfl rfl (hS.cell 2 rfl rfl) (WL.move rfl rfl rfl (WL.nil (N.seq ?_)))))))))
 refine W.block ?_
 replace hS := hS.perm ((List.Perm.cons _ (List.Perm.swap _ _ _)))
 have hS0 : St w w w12 ro [(bm, .cells #[.string f.name, .int .i64 f.bind, .int .i64 f.params, .slice adbF f.blocks.length capbF, .int .i64 (many16 f), .int .i64 (frame17 f), .string f.name, vo13, .slice none 0 0, .slice none 0 0, .slice none 0 0] 64 (0, 0)), (b1, .cells #[.string f.name, .int .i64 f.bind, .int .i64 f.params, .slice adbF f.blocks.length capbF] 24 (0, 0)), (b2, .cells #[.string ⟨#[]⟩, .slice none 0 0, .slice none 0 0] 30 (0, 0))] [⟨vo13, 36, 5, (head17 (frame17 f) 0).length, (oCells (head17 (frame17 f) 0))⟩, ⟨.slice none 0 0, 34, 3, 0, []⟩, ⟨.slice none 0 0, 3, 1, 0, []⟩, ⟨.slice none 0 0, 1, 1, 0, []⟩] := by have h := hS; simpa [head17, headP, oCells, opL] using h
 refine W.loop (α := Nat × Value) (fun ⟨p, v1⟩ => [(1, .pointer (some ⟨b1, 0, none⟩)), (2, .pointer (some ⟨b2, 0, none⟩)), (3, .pointer (some ⟨bm, 0, none⟩)), (33, .int .i64 f.params), (34, .int .i64 (p : Int))]) (fun ⟨p, v1⟩ u => St w w u ro [(bm, .cells #[.string f.name, .int .i64 f.bind, .int .i64 f.params, .slice adbF f.blocks.length capbF, .int .i64 (many16 f), .int .i64 (frame17 f), .string f.name, v1, .slice none 0 0, .slice none 0 0, .slice none 0 0] 64 (0, 0)), (b1, .cells #[.string f.name, .int .i64 f.bind, .int .i64 f.params, .slice adbF f.blocks.length capbF] 24 (0, 0)), (b2, .cells #[.string ⟨#[]⟩, .slice none 0 0, .slice none 0 0] 30 (0, 0))] [⟨v1, 36, 5, (head17 (frame17 f) p).length, (oCells (head17 (frame17 f) p))⟩, ⟨.slice none 0 0, 34, 3, 0, []⟩, ⟨.slice none 0 0, 3, 1, 0, []⟩, ⟨.slice none 0 0, 1, 1, 0, []⟩] ∧ (p : Int) ≤ f.params) (fun ⟨p, v1⟩ => f.params.toNat - p) (0, vo13) ⟨rfl, rfl, rfl, rfl, rfl, trivial⟩ ⟨hS0, (by omega)⟩ ?_
 clear hS
 rintro ⟨p, v1⟩ w14 ⟨hS, hpl⟩
 have hhl := head17_len (frame17 f) p
 refine W.seq (W.region (WL.bin rfl rfl rfl rfl rfl (WL.nil (N.seq (W.seq ?_)))))
 refine W.cond rfl (fun hc15 => ?_) (fun hc15 => ?_)
 ·
  have hc15p : (p : Int) < f.params := by simpa using hc15
  refine W.skip (N.seq (W.seq (W.block (W.seq (W.region (WL.move rfl rfl rfl (WL.assign rfl rfl rfl (WL.nil (N.seq ?_)))))))))
  refine W.region (WL.move rfl rfl rfl (WL.move rfl rfl rfl ?_))
  refine WL.add (c := 10 + (p : Int)) rfl rfl rfl rfl (rfl) (by omega) ?_
  refine WL.move rfl rfl rfl ?_
  refine WL.callF (vs := [.pointer (some ⟨bm, 0, none⟩), .int .i64 (10 + (p : Int)), .int .i64 (p : Int)]) Tryd.func25 (by kernel_rfl) rfl rfl rfl (save_ret (10 + (p : Int)) (p : Int) (by omega) (by first | omega | (simp only; omega)) hS) ?_
  clear hS; rintro v w16 ⟨rfl, vo17, hS⟩
  refine WL.nil (N.blk (N.seq (W.region ?_)))
  refine WL.add (c := (p : Int) + 1) rfl rfl rfl rfl (rfl) (by omega) ?_
  refine WL.move rfl rfl rfl (WL.nil ?_)
  replace hS := hS.rw0 (show (⟨vo17, 36, 5, (head17 (frame17 f) (p + 1)).length, (oCells (head17 (frame17 f) (p + 1)))⟩ : Row) = ⟨vo17, 36, 5, (head17 (frame17 f) p).length + 1, (oCells (head17 (frame17 f) p)) ++ oCells [sv (10 + (p : Int)) (p : Int)]⟩ by rw [head17_next]; simp [oCells])
  exact N.loop (p + 1, vo17) ⟨rfl, rfl, rfl, rfl, rfl, trivial⟩ ⟨hS, by omega⟩ (by first | omega | (simp only; omega))
 have hc15p : ¬ ((p : Int) < f.params) := by simpa using hc15
 refine W.exit (X.seq (X.loop (X.blk (N.seq (W.seq (W.seq (W.region (WL.fieldAddr fo_24_3 rfl rfl rfl (WL.load1 (v := .slice adbF f.blocks.length capbF) one_22 rfl rfl rfl (hS.cell 1 rfl rfl) ?_)))))))))
 refine WL.lenSlice Tryd.underlying22 rfl rfl rfl (WL.move rfl rfl rfl (WL.nil (N.seq (W.block ?_))))
 have hpe : p = f.params.toNat := by omega
 subst hpe
 have hS0 : St w w w14 ro [(bm, .cells #[.string f.name, .int .i64 f.bind, .int .i64 f.params, .slice adbF f.blocks.length capbF, .int .i64 (many16 f), .int .i64 (frame17 f), .string f.name, v1, .slice none 0 0, .slice none 0 0, .slice none 0 0] 64 (0, 0)), (b1, .cells #[.string f.name, .int .i64 f.bind, .int .i64 f.params, .slice adbF f.blocks.length capbF] 24 (0, 0)), (b2, .cells #[.string ⟨#[]⟩, .slice none 0 0, .slice none 0 0] 30 (0, 0))] [⟨v1, 36, 5, (gAt f 0).ops.length, (oCells (gAt f 0).ops)⟩, ⟨.slice none 0 0, 34, 3, (gAt f 0).rels.length, (rCells (gAt f 0).rels)⟩, ⟨.slice none 0 0, 3, 1, (gAt f 0).starts.length, (iCells (gAt f 0).starts)⟩, ⟨.slice none 0 0, 1, 1, ([] : List Value).length, ([] : List Value)⟩] := hS
 refine W.loop (α := Nat × Value × Value × Value × Value × (List (Nat × Obj)) × List Value × (Nat → Prop) × World) (fun ⟨k, vo, vr, vs, vj, Lk, cjs, R2, ws2⟩ => [(2, .pointer (some ⟨b2, 0, none⟩)), (3, .pointer (some ⟨bm, 0, none⟩)), (44, .slice adbF f.blocks.length capbF), (45, .int .i64 (f.blocks.length : Int)), (46, .int .i64 (k : Int))]) (fun ⟨k, vo, vr, vs, vj, Lk, cjs, R2, ws2⟩ u => St w ws2 u R2 ((bm, .cells #[.string f.name, .int .i64 f.bind, .int .i64 f.params, .slice adbF f.blocks.length capbF, .int .i64 (many16 f), .int .i64 (frame17 f), .string f.name, vo, vr, vs, vj] 64 (0, 0)) :: (b1, .cells #[.string f.name, .int .i64 f.bind, .int .i64 f.params, .slice adbF f.blocks.length capbF] 24 (0, 0)) :: (b2, .cells #[.string ⟨#[]⟩, .slice none 0 0, .slice none 0 0] 30 (0, 0)) :: Lk) [⟨vo, 36, 5, (gAt f k).ops.length, (oCells (gAt f k).ops)⟩, ⟨vr, 34, 3, (gAt f k).rels.length, (rCells (gAt f k).rels)⟩, ⟨vs, 3, 1, (gAt f k).starts.length, (iCells (gAt f k).starts)⟩, ⟨vj, 1, 1, cjs.length, cjs⟩] ∧ k ≤ f.blocks.length ∧ JmpsOk Lk bm cjs (gAt f k).jumps ∧ Alike ro w R2 ws2 ∧ (∀ b, R2 b → ro b ∨ w.heap.size ≤ b)) (fun ⟨k, vo, vr, vs, vj, Lk, cjs, R2, ws2⟩ => f.blocks.length - k) (0, v1, .slice none 0 0, .slice none 0 0, .slice none 0 0, [], [], ro, w) ⟨rfl, rfl, rfl, rfl, rfl, trivial⟩ ⟨hS0, Nat.zero_le _, trivial, Alike.refl, hsub⟩ ?_
 clear hS
 rintro ⟨k, vo, vr, vs, vj, Lk, cjs, R2, ws2⟩ w18 ⟨hS, hk, hjm, halL1, hsub⟩
 replace hx := hx.keep halL1
 replace hbkFd := hbkFd.keep halL1 (fun _ _ h => h.keep halL1)
 replace hc0 := hc0.keep (halL1 _ hr0).2
 replace hr0 := (halL1 _ hr0).1
 obtain ⟨hg1, hg2, hg3, hg4⟩ := gAt_len hok k hk; have hcl := hjm.len
 refine W.seq (W.region (WL.bin rfl rfl rfl rfl rfl (WL.nil (N.seq (W.seq ?_)))))
 refine W.cond rfl (fun hc19 => ?_) (fun hc19 => ?_)
 ·
  have hc19p : (k : Int) < (f.blocks.length : Int) := by simpa using hc19
  refine W.skip (N.seq (W.seq (W.block (W.seq (W.region ?_)))))
  have hj20 : k < f.blocks.length := by omega
  obtain ⟨x20, hx20, b20, o20, cs20, hE20, hr20, _, hc20, hQ20⟩ := opn hbkFd hj20
  obtain ⟨si20, tsx20, rfl, hin20, hfin20, hpar20⟩ := id hQ20
  obtain ⟨adi20, capi20, rfl, hin20a, hin20b, hin20c, hin20d⟩ := id hin20
  have hin20m : x20.ins.length ≤ 9223372036854775807 := by have h1 := hin20a; have h2 := hin20b; unfold maxLen at h2; omega
  obtain ⟨sp20, sq20, rfl, ht120, ht220, htk20, hta20, htt20, hte20⟩ := id hfin20
  obtain ⟨adp20, capp20, rfl, htp20a, htp20b, htp20c, htp20d⟩ := id ht120
  have htp20m : x20.fin.args.length ≤ 9223372036854775807 := by have h1 := htp20a; have h2 := htp20b; unfold maxLen at h2; omega
  obtain ⟨adq20, capq20, rfl, htq20a, htq20b, htq20c, htq20d⟩ := id ht220
  have htq20m : x20.fin.elses.length ≤ 9223372036854775807 := by have h1 := htq20a; have h2 := htq20b; unfold maxLen at h2; omega
  refine WL.indexAddrE (j := k) Tryd.underlying22 isz_59 rfl rfl rfl rfl hj20 hE20 (WL.loadN (cs := [.int .i64 x20.params, .slice adi20 x20.ins.length capi20, .int .i64 x20.fin.kind, .int .i64 x20.fin.a, .int .i64 x20.fin.to, .slice adp20 x20.fin.args.length capp20, .int .i64 x20.fin.els, .slice adq20 x20.fin.elses.length capq20]) agg_59 rfl rfl rfl rfl (hS.roCells hr20 hc20) ?_)
  refine WL.alloc (tyZero_spec zer_59) rfl rfl hS ?_
  clear hS; intro w21 b6 hb_b6 hS
  refine WL.store0 #[.int .i64 x20.params, .slice adi20 x20.ins.length capi20, .int .i64 x20.fin.kind, .int .i64 x20.fin.a, .int .i64 x20.fin.to, .slice adp20 x20.fin.args.length capp20, .int .i64 x20.fin.els, .slice adq20 x20.fin.elses.length capq20] rfl rfl rfl rfl siz_59 rfl rfl rfl hS ?_
  clear hS; intro w22 hS
  refine WL.nil (N.seq (W.seq ?_))
  have hrow : w22.ownsRow w.heap.size 36 5 vo ((gAt f k).ops.length) _ := hS.rows _ List.mem_cons_self
  obtain ⟨advo, capvo, rfl, hr1vo, hr2vo, hr3vo⟩ := row_shape hrow
  clear hrow
  have hrow : w22.ownsRow w.heap.size 3 1 vs ((gAt f k).starts.length) _ := hS.rows _ (List.mem_of_getElem? (i := 2) rfl)
  obtain ⟨advs, capvs, rfl, hr1vs, hr2vs, hr3vs⟩ := row_shape hrow
  clear hrow
  refine W.drawA0 (S := fun u => True) (by kernel_rfl) (fun w23 hbd => ?_)
  replace hS := hS.grow hbd
  refine WA.conv (fuel' := 15 + 1) (listed' := (lb 16 0)) (by kernel_rfl) (by kernel_rfl) (WA.take 0 (v := .pointer (some ⟨bm, 0, none⟩)) rfl rfl (by kernel_rfl) (by kernel_rfl) (by kernel_rfl) (fin_no_panic _) rfl (exec_move rfl) trivial ?_)
  refine WA.conv (fuel' := 11 + 4) (listed' := (lb 16 1)) (by kernel_rfl) (by kernel_rfl) (WA.phaseI [(1, (fun v _ => v = .pointer (some ⟨bm, 0, none⟩))), (2, (fun v _ => v = .pointer (some ⟨bm, 0, none⟩))), (3, (fun v _ => v = .pointer (some ⟨bm, 9, none⟩))), (4, (fun v _ => v = .slice advs ((gAt f k).starts.length) capvs)), (5, (fun v _ => v = .pointer (some ⟨bm, 0, none⟩))), (6, (fun v _ => v = .pointer (some ⟨bm, 0, none⟩))), (7, (fun v _ => v = .pointer (some ⟨bm, 6, none⟩))), (8, (fun v _ => v = .pointer (some ⟨bm, 7, none⟩))), (9, (fun v _ => v = .slice advo ((gAt f k).ops.length) capvo)), (10, (fun v _ => v = .int .i64 (((gAt f k).ops.length : Nat) : Int))), (11, (fun v u => ∃ b, v = .slice (some ⟨b, 0, none⟩) 1 1 ∧ u.heap[b]? = some (.cells [.int .i64 ((gAt f k).ops.length : Int)].toArray 3 (0, 0))))] (by kernel_rfl) [(2, .pointer (some ⟨b2, 0, none⟩)), (3, .pointer (some ⟨bm, 0, none⟩)), (6, .pointer (some ⟨b6, 0, none⟩)), (44, .slice adbF f.blocks.length capbF), (45, .int .i64 (f.blocks.length : Int)), (46, .int .i64 (k : Int)), (50, .pointer (some ⟨bm, 0, none⟩))] ⟨rfl, rfl, rfl, rfl, rfl, rfl, rfl, trivial⟩ (by kernel_rfl) ⟨stays_eq, stays_eq, stays_eq, stays_eq, stays_eq, stays_eq, stays_eq, stays_eq, stays_eq, stays_eq, (fun v u u2 h hb => h.elim fun b h => ⟨b, h.1, (hb.block b (Array.getElem?_eq_some_iff.1 h.2).1).trans h.2⟩), trivial⟩ ?_ (fun _ _ => trivial) ?_)
  ·
   refine ⟨fun β wd hb hD => ⟨_, rfl, ?_⟩, ?_⟩
   ·
    have hS := hS.grow hb
    refine WL.move rfl rfl rfl ?_
    exact WL.nil (N.cut _ ⟨rfl, trivial⟩ ⟨(Below.refl _ _), rfl⟩)
   refine ⟨fun β wd hb hD => ⟨_, rfl, ?_⟩, ?_⟩
   ·
    obtain ⟨hp1, _⟩ := hD
    replace hp1 : β 1 = .pointer (some ⟨bm, 0, none⟩) := hp1
    refine WL.sub (σ' := [(51, .pointer (some ⟨bm, 0, none⟩))]) ⟨congrArg some hp1, trivial⟩ ?_
    have hS := hS.grow hb
    refine WL.nilPtr rfl rfl rfl ?_
    exact WL.nil (N.cut _ ⟨rfl, trivial⟩ ⟨(Below.refl _ _), rfl⟩)
   refine ⟨fun β wd hb hD => ⟨_, rfl, ?_⟩, ?_⟩
   ·
    obtain ⟨hp2, _⟩ := hD
    replace hp2 : β 2 = .pointer (some ⟨bm, 0, none⟩) := hp2
    refine WL.sub (σ' := [(52, .pointer (some ⟨bm, 0, none⟩))]) ⟨congrArg some hp2, trivial⟩ ?_
    have hS := hS.grow hb
    refine WL.fieldAddr fo_64_4 rfl rfl rfl ?_
    exact WL.nil (N.cut _ ⟨rfl, trivial⟩ ⟨(Below.refl _ _), rfl⟩)
   refine ⟨fun β wd hb hD => ⟨_, rfl, ?_⟩, ?_⟩
   ·
    obtain ⟨hp3, _⟩ := hD
    replace hp3 : β 3 = .pointer (some ⟨bm, 9, none⟩) := hp3
    refine WL.sub (σ' := [(53, .pointer (some ⟨bm, 9, none⟩))]) ⟨congrArg some hp3, trivial⟩ ?_
    have hS := hS.grow hb
    refine WL.load1 (v := .slice advs ((gAt f k).starts.length) capvs) one_55 rfl rfl rfl (hS.cell 1 rfl rfl) ?_
    exact WL.nil (N.cut _ ⟨rfl, trivial⟩ ⟨(Below.refl _ _), rfl⟩)
   refine ⟨fun β wd hb hD => ⟨_, rfl, ?_⟩, ?_⟩
   ·
    have hS := hS.grow hb
    refine WL.move rfl rfl rfl ?_
    exact WL.nil (N.cut _ ⟨rfl, trivial⟩ ⟨(Below.refl _ _), rfl⟩)
   refine ⟨fun β wd hb hD => ⟨_, rfl, ?_⟩, ?_⟩
   ·
    obtain ⟨hp5, _⟩ := hD
    replace hp5 : β 5 = .pointer (some ⟨bm, 0, none⟩) := hp5
    refine WL.sub (σ' := [(55, .pointer (some ⟨bm, 0, none⟩))]) ⟨congrArg some hp5, trivial⟩ ?_
    have hS := hS.grow hb
    refine WL.nilPtr rfl rfl rfl ?_
    exact WL.nil (N.cut _ ⟨rfl, trivial⟩ ⟨(Below.refl _ _), rfl⟩)
   refine ⟨fun β wd hb hD => ⟨_, rfl, ?_⟩, ?_⟩
   ·
    obtain ⟨hp6, _⟩ := hD
    replace hp6 : β 6 = .pointer (some ⟨bm, 0, none⟩) := hp6
    refine WL.sub (σ' := [(56, .pointer (some ⟨bm, 0, none⟩))]) ⟨congrArg some hp6, trivial⟩ ?_
    have hS := hS.grow hb
    refine WL.fieldAddr fo_64_3 rfl rfl rfl ?_
    exact WL.nil (N.cut _ ⟨rfl, trivial⟩ ⟨(Below.refl _ _), rfl⟩)
   refine ⟨fun β wd hb hD => ⟨_, rfl, ?_⟩, ?_⟩
   ·
    obtain ⟨hp7, _⟩ := hD
    replace hp7 : β 7 = .pointer (some ⟨bm, 6, none⟩) := hp7
    refine WL.sub (σ' := [(57, .pointer (some ⟨bm, 6, none⟩))]) ⟨congrArg some hp7, trivial⟩ ?_
    have hS := hS.grow hb
    refine WL.fieldAddr fo_30_1 rfl rfl rfl ?_
    exact WL.nil (N.cut _ ⟨rfl, trivial⟩ ⟨(Below.refl _ _), rfl⟩)
   refine ⟨fun β wd hb hD => ⟨_, rfl, ?_⟩, ?_⟩
   ·
    obtain ⟨hp8, _⟩ := hD
    replace hp8 : β 8 = .pointer (some ⟨bm, 7, none⟩) := hp8
    refine WL.sub (σ' := [(58, .pointer (some ⟨bm, 7, none⟩))]) ⟨congrArg some hp8, trivial⟩ ?_
    have hS := hS.grow hb
    refine WL.load1 (v := .slice advo ((gAt f k).ops.length) capvo) one_27 rfl rfl rfl (hS.cell 1 rfl rfl) ?_
    exact WL.nil (N.cut _ ⟨rfl, trivial⟩ ⟨(Below.refl _ _), rfl⟩)
   refine ⟨fun β wd hb hD => ⟨_, rfl, ?_⟩, ?_⟩
   ·
    obtain ⟨hp9, _⟩ := hD
    replace hp9 : β 9 = .slice advo ((gAt f k).ops.length) capvo := hp9
    refine WL.sub (σ' := [(59, .slice advo ((gAt f k).ops.length) capvo)]) ⟨congrArg some hp9, trivial⟩ ?_
    have hS := hS.grow hb
    refine WL.lenSlice Tryd.underlying27 rfl rfl rfl ?_
    exact WL.nil (N.cut _ ⟨rfl, trivial⟩ ⟨(Below.refl _ _), rfl⟩)
   refine ⟨fun β wd hb hD => ⟨_, rfl, ?_⟩, ?_⟩
   ·
    obtain ⟨hp10, _⟩ := hD
    replace hp10 : β 10 = .int .i64 (((gAt f k).ops.length : Nat) : Int) := hp10
    refine WL.sub (σ' := [(60, .int .i64 (((gAt f k).ops.length : Nat) : Int))]) ⟨congrArg some hp10, trivial⟩ ?_
    have hS := hS.grow hb
    have hX := St.start (w := wd) (ro := fun z => z < wd.heap.size) (fun _ h => h)
    refine WL.buildSlice (ps := [(0, .int .i64 (((gAt f k).ops.length : Nat) : Int))]) (cs := [.int .i64 (((gAt f k).ops.length : Nat) : Int)]) Tryd.underlying55 (tyZero_spec zer_3) rfl rfl rfl rfl (by kernel_rfl) hX ?_
    clear hX; intro w25 b24 hb_b24 hX
    exact WL.nil (N.cut _ ⟨rfl, trivial⟩ ⟨hX.below, ⟨_, rfl, hX.own _ List.mem_cons_self⟩⟩)
   trivial
  intro β w26 hb hD
  obtain ⟨hp1, hp2, hp3, hp4, hp5, hp6, hp7, hp8, hp9, hp10, hp11, _⟩ := hD
  refine WA.sub (σ' := [(2, .pointer (some ⟨b2, 0, none⟩)), (3, .pointer (some ⟨bm, 0, none⟩)), (6, .pointer (some ⟨b6, 0, none⟩)), (44, .slice adbF f.blocks.length capbF), (45, .int .i64 (f.blocks.length : Int)), (46, .int .i64 (k : Int)), (50, .pointer (some ⟨bm, 0, none⟩)), (54, .slice advs ((gAt f k).starts.length) capvs), (61, (β 11))]) ⟨rfl, rfl, rfl, rfl, rfl, rfl, rfl, congrArg some (show β 4 = .slice advs ((gAt f k).starts.length) capvs from hp4), rfl, trivial⟩ ?_
  have hSd := hS
  replace hS := hS.grow hb
  replace hp11 : (fun v u => ∃ b, v = .slice (some ⟨b, 0, none⟩) 1 1 ∧ u.heap[b]? = some (.cells [.int .i64 ((gAt f k).ops.length : Int)].toArray 3 (0, 0))) (β 11) w26 := hp11
  generalize β 11 = z11 at hp11 ⊢
  refine WA.conv (fuel' := 3 + 1) (listed' := (lb 16 4095)) (by kernel_rfl) (by kernel_rfl) (WA.stepS 12 (by kernel_rfl) rfl ?_)
  obtain ⟨bq11, rfl, hbq11⟩ := hp11
  have hcq11 := cellsAt_block hbq11
  replace hS := hS.permR (((List.Perm.cons _ (List.Perm.swap _ _ _))).trans ((List.Perm.swap _ _ _)))
  refine WL.appendRo (r := ⟨.slice advs ((gAt f k).starts.length) capvs, 3, 1, (gAt f k).starts.length, (iCells (gAt f k).starts)⟩) (news := [.int .i64 ((gAt f k).ops.length : Int)]) 8 Tryd.underlying55 (tyZero_spec zer_3) byt_3 rfl rfl rfl rfl rfl rfl (fun e => by cases e) (fun b off e => by cases e; exact hcq11) (fun a e _ => by cases e; rfl) ?_ rfl rfl hS (by simp only; unfold maxLen; omega) (by simp only; omega) ?_
  ·
   intro u hu; simp only [List.mem_cons, List.not_mem_nil, or_false] at hu; rcases hu with rfl <;> rfl
  clear hS; intro w27 v28 hS hnn
  have hrow : w27.ownsRow w.heap.size 3 1 v28 ((gAt f k).starts.length + 1) _ := hS.rows _ List.mem_cons_self
  obtain ⟨av28, cv28, rfl, hc1_v28, hc2_v28, hc3_v28⟩ := row_shape hrow
  clear hrow
  refine WL.nil (N.restS trivial ?_)
  refine WA.conv (fuel' := 2 + 1) (listed' := (lb 16 8191)) (by kernel_rfl) (by kernel_rfl) (WA.stepS 13 (by kernel_rfl) rfl ?_)
  refine WL.nilPtr rfl rfl rfl ?_
  refine WL.nil (N.restS trivial ?_)
  refine WA.conv (fuel' := 1 + 1) (listed' := (lb 16 16383)) (by kernel_rfl) (by kernel_rfl) (WA.stepS 14 (by kernel_rfl) rfl ?_)
  refine WL.fieldAddr fo_64_4 rfl rfl rfl ?_
  refine WL.nil (N.restS trivial ?_)
  refine WA.conv (fuel' := 0 + 1) (listed' := (lb 16 32767)) (by kernel_rfl) (by kernel_rfl) (WA.stepS 15 (by kernel_rfl) rfl ?_)
  refine WL.store1 #[.string f.name, .int .i64 f.bind, .int .i64 f.params, .slice adbF f.blocks.length capbF, .int .i64 (many16 f), .int .i64 (frame17 f), .string f.name, .slice advo ((gAt f k).ops.length) capvo, vr, .slice av28 ((gAt f k).starts.length + 1) cv28, vj] rfl rfl rfl rfl siz_55 rfl rfl rfl hS ?_
  clear hS; intro w29 hS
  refine WL.nil (N.restS trivial ?_)
  refine WA.doneN (by kernel_rfl) ?_
  refine N.seq (W.seq ?_)
  replace hS := hS.permR (((List.Perm.swap _ _ _)).trans ((List.Perm.cons _ (List.Perm.swap _ _ _))))
  replace hS := hS.perm ((List.Perm.swap _ _ _))
  have hst0 : iCells (gAt f k).starts ++ [.int .i64 ((gAt f k).ops.length : Int)] = iCells ((gAt f k).starts ++ [((gAt f k).ops.length : Int)]) := by rw [iCells_app]; rfl
  rw [hst0] at hS
  refine W.region (WL.loadN (cs := [.int .i64 x20.params, .slice adi20 x20.ins.length capi20, .int .i64 x20.fin.kind, .int .i64 x20.fin.a, .int .i64 x20.fin.to, .slice adp20 x20.fin.args.length capp20, .int .i64 x20.fin.els, .slice adq20 x20.fin.elses.length capq20]) agg_59 rfl rfl rfl rfl (hS.cells 1 (m := 8) rfl rfl) ?_)
  refine WL.callF (vs := [.agg #[.int .i64 x20.params, .slice adi20 x20.ins.length capi20, .int .i64 x20.fin.kind, .int .i64 x20.fin.a, .int .i64 x20.fin.to, .slice adp20 x20.fin.args.length capp20, .int .i64 x20.fin.els, .slice adq20 x20.fin.elses.length capq20]]) Tryd.func26 (by kernel_rfl) rfl rfl rfl (give16_ret x20 _ (ro := R2) (fun b hb => (hS.snap b hb).1) (hQ20.keep hS.alike) (hok.ok _ (List.mem_of_getElem? hx20))) ?_
  rintro vl w30 ⟨hvl, hbl⟩
  have hal31 := hS.alikeTo hbl (ro' := (roFrom R2 w29 w30)) (fun b hb => .inl hb)
  replace hsub : ∀ b, (roFrom R2 w29 w30) b → ro b ∨ w.heap.size ≤ b := fun b hb => hb.elim (hsub b) (fun h => .inr (Nat.le_trans hS.below.size h.1))
  replace halL1 := halL1.trans hal31
  replace hx := hx.keep hal31
  replace hin20d := hin20d.keep hal31 (fun _ _ h => h.keep hal31)
  replace hfin20 := hfin20.keep hal31
  replace hc0 := hc0.keep (hal31 _ hr0).2
  replace hr0 := (hal31 _ hr0).1
  replace hS := hS.readNew hbl
  replace hvl := SlV.keep hvl (ro' := (roFrom R2 w29 w30)) (w' := w30) (Q' := IntC) (fun x hx => ⟨.inr hx, rfl⟩) (fun _ _ h => h)
  obtain ⟨adl, capl, rfl, hvla, hvlb, hvlc, hvld⟩ := id hvl
  have hvlm : (give16 x20).length ≤ 9223372036854775807 := by have h1 := hvla; have h2 := hvlb; unfold maxLen at h2; omega
  have hbm_ := List.mem_of_getElem? hx20
  have hgl := give16_length (hok.ok _ hbm_); have hpb := hok.pb _ hbm_; have hb0 := (hok.ok _ hbm_).p0; have hsb := give16_small hok hbm_
  refine WL.assign rfl rfl rfl (WL.nil (N.seq (W.seq (W.seq (W.region (WL.fieldAddr fo_59_1 rfl rfl rfl (WL.load1 (v := .slice adi20 x20.ins.length capi20) one_54 rfl rfl rfl (hS.cell 1 rfl rfl) (WL.lenSlice Tryd.underlying54 rfl rfl rfl (WL.move rfl rfl rfl ?_)))))))))
  refine WL.nil (N.seq (W.block ?_))
  have hS0 : St w w30 w30 (roFrom R2 w29 w30) ((bm, .cells #[.string f.name, .int .i64 f.bind, .int .i64 f.params, .slice adbF f.blocks.length capbF, .int .i64 (many16 f), .int .i64 (frame17 f), .string f.name, .slice advo ((gAt f k).ops.length) capvo, vr, .slice av28 ((gAt f k).starts.length + 1) cv28, vj] 64 (0, 0)) :: (b6, .cells #[.int .i64 x20.params, .slice adi20 x20.ins.length capi20, .int .i64 x20.fin.kind, .int .i64 x20.fin.a, .int .i64 x20.fin.to, .slice adp20 x20.fin.args.length capp20, .int .i64 x20.fin.els, .slice adq20 x20.fin.elses.length capq20] 59 (0, 0)) :: (b1, .cells #[.string f.name, .int .i64 f.bind, .int .i64 f.params, .slice adbF f.blocks.length capbF] 24 (0, 0)) :: (b2, .cells #[.string ⟨#[]⟩, .slice none 0 0, .slice none 0 0] 30 (0, 0)) :: Lk) [⟨.slice advo ((gAt f k).ops.length) capvo, 36, 5, (iAt f x20 k 0).1.length, (oCells (iAt f x20 k 0).1)⟩, ⟨vr, 34, 3, (iAt f x20 k 0).2.length, (rCells (iAt f x20 k 0).2)⟩, ⟨.slice av28 ((gAt f k).starts.length + 1) cv28, 3, 1, (gAt f k).starts.length + 1, (iCells ((gAt f k).starts ++ [((gAt f k).ops.length : Int)]))⟩, ⟨vj, 1, 1, cjs.length, cjs⟩] := hS
  refine W.loop (α := Nat × Value × Value) (fun ⟨i, v1, v2⟩ => [(2, .pointer (some ⟨b2, 0, none⟩)), (3, .pointer (some ⟨bm, 0, none⟩)), (6, .pointer (some ⟨b6, 0, none⟩)), (7, .slice adl ((give16 x20).length) capl), (44, .slice adbF f.blocks.length capbF), (45, .int .i64 (f.blocks.length : Int)), (46, .int .i64 (k : Int)), (68, .slice adi20 x20.ins.length capi20), (69, .int .i64 (x20.ins.length : Int)), (70, .int .i64 (i : Int))]) (fun ⟨i, v1, v2⟩ u => St w w30 u (roFrom R2 w29 w30) ((bm, .cells #[.string f.name, .int .i64 f.bind, .int .i64 f.params, .slice adbF f.blocks.length capbF, .int .i64 (many16 f), .int .i64 (frame17 f), .string f.name, v1, v2, .slice av28 ((gAt f k).starts.length + 1) cv28, vj] 64 (0, 0)) :: (b6, .cells #[.int .i64 x20.params, .slice adi20 x20.ins.length capi20, .int .i64 x20.fin.kind, .int .i64 x20.fin.a, .int .i64 x20.fin.to, .slice adp20 x20.fin.args.length capp20, .int .i64 x20.fin.els, .slice adq20 x20.fin.elses.length capq20] 59 (0, 0)) :: (b1, .cells #[.string f.name, .int .i64 f.bind, .int .i64 f.params, .slice adbF f.blocks.length capbF] 24 (0, 0)) :: (b2, .cells #[.string ⟨#[]⟩, .slice none 0 0, .slice none 0 0] 30 (0, 0)) :: Lk) [⟨v1, 36, 5, (iAt f x20 k i).1.length, (oCells (iAt f x20 k i).1)⟩, ⟨v2, 34, 3, (iAt f x20 k i).2.length, (rCells (iAt f x20 k i).2)⟩, ⟨.slice av28 ((gAt f k).starts.length + 1) cv28, 3, 1, (gAt f k).starts.length + 1, (iCells ((gAt f k).starts ++ [((gAt f k).ops.length : Int)]))⟩, ⟨vj, 1, 1, cjs.length, cjs⟩] ∧ i ≤ x20.ins.length) (fun ⟨i, v1, v2⟩ => x20.ins.length - i) (0, .slice advo ((gAt f k).ops.length) capvo, vr) ⟨rfl, rfl, rfl, rfl, rfl, rfl, rfl, rfl, rfl, rfl, trivial⟩ ⟨hS0, Nat.zero_le _⟩ ?_
  clear hS
  rintro ⟨i, v1, v2⟩ w32 ⟨hS, hil⟩
  obtain ⟨hil1, hil2, hil3⟩ := iAt_len hok hx20 hil
  refine W.seq (W.region (WL.bin rfl rfl rfl rfl rfl (WL.nil (N.seq (W.seq ?_)))))
  refine W.cond rfl (fun hc33 => ?_) (fun hc33 => ?_)
  ·
   have hc33p : (i : Int) < (x20.ins.length : Int) := by simpa using hc33
   refine W.skip (N.seq (W.seq (W.block (W.seq (W.region (WL.move rfl rfl rfl ?_))))))
   have hj34 : i < x20.ins.length := by omega
   obtain ⟨x34, hx34, b34, o34, cs34, hE34, hr34, _, hc34, hQ34⟩ := opn hin20d hj34
   have hQk34 := hQ34
   obtain ⟨sv34, rfl, hs34, ho34, ha34, hb34, hk34, hn34⟩ := hQ34
   obtain ⟨ad34, cap34, rfl, hs34a, hs34b, hs34c, hs34d⟩ := id hs34
   have hs34m : x34.args.length ≤ 9223372036854775807 := by have h1 := hs34a; have h2 := hs34b; unfold maxLen at h2; omega
   refine WL.indexAddrE (j := i) Tryd.underlying54 isz_69 rfl rfl rfl rfl hj34 hE34 (WL.loadN (cs := [.int .i64 x34.op, .int .i64 x34.a, .int .i64 x34.b, .int .u64 x34.k, .string x34.name, .slice ad34 x34.args.length cap34]) agg_69 rfl rfl rfl rfl (hS.roCells hr34 hc34) ?_)
   refine WL.alloc (tyZero_spec zer_69) rfl rfl hS ?_
   clear hS; intro w35 b9 hb_b9 hS
   refine WL.assign rfl rfl rfl ?_
   refine WL.store0 #[.int .i64 x34.op, .int .i64 x34.a, .int .i64 x34.b, .int .u64 x34.k, .string x34.name, .slice ad34 x34.args.length cap34] rfl rfl rfl rfl siz_69 rfl rfl rfl hS ?_
   clear hS; intro w36 hS
   refine WL.nil (N.seq ?_)
   have hj38 : x20.params.toNat + i < (give16 x20).length := by omega
   obtain ⟨x38, hx38, b38, o38, cs38, hE38, hr38, _, hc38, hQ38⟩ := opn hvld hj38
   obtain ⟨rfl, hi38⟩ := hQ38
   refine W.drawA0 (S := fun u => CellsAt u b9 (0) [.int .i64 x34.op, .int .i64 x34.a, .int .i64 x34.b, .int .u64 x34.k, .string x34.name, .slice ad34 x34.args.length cap34] ∧ CellsAt u b6 (0) [.int .i64 x20.params] ∧ CellsAt u b38 (o38 + (x20.params.toNat + i) * 1) [.int .i64 x38]) (by kernel_rfl) (fun w37 hbd => ?_)
   replace hS := hS.grow hbd
   refine WA.conv (fuel' := 12 + 1) (listed' := (lb 13 0)) (by kernel_rfl) (by kernel_rfl) (WA.take 0 (v := .pointer (some ⟨bm, 0, none⟩)) rfl rfl (by kernel_rfl) (by kernel_rfl) (by kernel_rfl) (fin_no_panic _) rfl (exec_move rfl) ⟨(hS.cells 0 (m := 6) rfl rfl), (hS.cells 2 (off := 0) (m := 1) rfl rfl), (hS.roCells hr38 hc38)⟩ ?_)
   refine WA.conv (fuel' := 11 + 1) (listed' := (lb 13 1)) (by kernel_rfl) (by kernel_rfl) (WA.take 1 (v := .pointer (some ⟨bm, 0, none⟩)) rfl rfl (by kernel_rfl) (by kernel_rfl) (by kernel_rfl) (fin_no_panic _) rfl (exec_move rfl) ⟨(hS.cells 0 (m := 6) rfl rfl), (hS.cells 2 (off := 0) (m := 1) rfl rfl), (hS.roCells hr38 hc38)⟩ ?_)
   refine WA.conv (fuel' := 10 + 1) (listed' := (lb 13 3)) (by kernel_rfl) (by kernel_rfl) (WA.take 2 (v := .slice adl ((give16 x20).length) capl) rfl rfl (by kernel_rfl) (by kernel_rfl) (by kernel_rfl) (fin_no_panic _) rfl (exec_move rfl) ⟨(hS.cells 0 (m := 6) rfl rfl), (hS.cells 2 (off := 0) (m := 1) rfl rfl), (hS.roCells hr38 hc38)⟩ ?_)
   refine WA.conv (fuel' := 9 + 1) (listed' := (lb 13 7)) (by kernel_rfl) (by kernel_rfl) (WA.take 3 (v := .agg #[.int .i64 x34.op, .int .i64 x34.a, .int .i64 x34.b, .int .u64 x34.k, .string x34.name, .slice ad34 x34.args.length cap34]) rfl rfl (by kernel_rfl) (by kernel_rfl) (by kernel_rfl) (fin_no_panic _) rfl (exec_loadN agg_69 rfl rfl (fun u hs => hs.1)) ⟨(hS.cells 0 (m := 6) rfl rfl), (hS.cells 2 (off := 0) (m := 1) rfl rfl), (hS.roCells hr38 hc38)⟩ ?_)
   refine WA.conv (fuel' := 8 + 1) (listed' := (lb 13 15)) (by kernel_rfl) (by kernel_rfl) (WA.take 5 (v := .slice adl ((give16 x20).length) capl) rfl rfl (by kernel_rfl) (by kernel_rfl) (by kernel_rfl) (fin_no_panic _) rfl (exec_move rfl) ⟨(hS.cells 0 (m := 6) rfl rfl), (hS.cells 2 (off := 0) (m := 1) rfl rfl), (hS.roCells hr38 hc38)⟩ ?_)
   refine WA.conv (fuel' := 7 + 1) (listed' := (lb 13 47)) (by kernel_rfl) (by kernel_rfl) (WA.take 6 (v := .pointer (some ⟨b6, 0, none⟩)) rfl rfl (by kernel_rfl) (by kernel_rfl) (by kernel_rfl) (fin_no_panic _) rfl (exec_fieldAddr fo_59_0 rfl) ⟨(hS.cells 0 (m := 6) rfl rfl), (hS.cells 2 (off := 0) (m := 1) rfl rfl), (hS.roCells hr38 hc38)⟩ ?_)
   refine WA.conv (fuel' := 6 + 1) (listed' := (lb 13 111)) (by kernel_rfl) (by kernel_rfl) (WA.take 7 (v := .int .i64 x20.params) rfl rfl (by kernel_rfl) (by kernel_rfl) (by kernel_rfl) (fin_no_panic _) rfl (exec_load1 one_3 rfl (fun u hs => hs.2.1 0 _ rfl)) ⟨(hS.cells 0 (m := 6) rfl rfl), (hS.cells 2 (off := 0) (m := 1) rfl rfl), (hS.roCells hr38 hc38)⟩ ?_)
   refine WA.conv (fuel' := 5 + 1) (listed' := (lb 13 239)) (by kernel_rfl) (by kernel_rfl) (WA.take 8 (v := .int .i64 (i : Int)) rfl rfl (by kernel_rfl) (by kernel_rfl) (by kernel_rfl) (fin_no_panic _) rfl (exec_move rfl) ⟨(hS.cells 0 (m := 6) rfl rfl), (hS.cells 2 (off := 0) (m := 1) rfl rfl), (hS.roCells hr38 hc38)⟩ ?_)
   refine WA.conv (fuel' := 4 + 1) (listed' := (lb 13 495)) (by kernel_rfl) (by kernel_rfl) (WA.take 9 (v := .int .i64 ((x20.params.toNat + i : Nat) : Int)) rfl rfl (by kernel_rfl) (by kernel_rfl) (by kernel_rfl) (fin_no_panic _) rfl (exec_add rfl rfl (by omega) (by omega)) ⟨(hS.cells 0 (m := 6) rfl rfl), (hS.cells 2 (off := 0) (m := 1) rfl rfl), (hS.roCells hr38 hc38)⟩ ?_)
   refine WA.conv (fuel' := 3 + 1) (listed' := (lb 13 1007)) (by kernel_rfl) (by kernel_rfl) (WA.take 10 (v := .pointer (some ⟨b38, o38 + (x20.params.toNat + i) * 1, none⟩)) rfl rfl (by kernel_rfl) (by kernel_rfl) (by kernel_rfl) (fin_no_panic _) rfl (exec_indexAddrE Tryd.underlying55 isz_3 hE38 rfl rfl hj38) ⟨(hS.cells 0 (m := 6) rfl rfl), (hS.cells 2 (off := 0) (m := 1) rfl rfl), (hS.roCells hr38 hc38)⟩ ?_)
   refine WA.conv (fuel' := 2 + 1) (listed' := (lb 13 2031)) (by kernel_rfl) (by kernel_rfl) (WA.take 11 (v := .int .i64 x38) rfl rfl (by kernel_rfl) (by kernel_rfl) (by kernel_rfl) (fin_no_panic _) rfl (exec_load1 one_3 rfl (fun u hs => hs.2.2 0 _ rfl)) ⟨(hS.cells 0 (m := 6) rfl rfl), (hS.cells 2 (off := 0) (m := 1) rfl rfl), (hS.roCells hr38 hc38)⟩ ?_)
   refine WA.conv (fuel' := 1 + 1) (listed' := (lb 13 4079)) (by kernel_rfl) (by kernel_rfl) (WA.stepS 4 (by kernel_rfl) rfl ?_)
   have hslA : slotAt (give16 x20) (x20.params + (i : Int)) = x38 := slotAt_some (by rw [show (x20.params + (i : Int)).toNat = x20.params.toNat + i by omega]; exact hx38)
   have hxm := List.mem_of_getElem? hx34; have hks := hok.ks _ hbm_ _ hxm; have huse := (hok.ok _ hbm_).uses _ hxm; rw [← hgl] at huse
   replace hS := hS.perm ((List.Perm.swap _ _ _))
   refine WL.callF (vs := [.pointer (some ⟨bm, 0, none⟩), .slice adl ((give16 x20).length) capl, .agg #[.int .i64 x34.op, .int .i64 x34.a, .int .i64 x34.b, .int .u64 x34.k, .string x34.name, .slice ad34 x34.args.length cap34]]) Tryd.func27 (by kernel_rfl) rfl rfl rfl (gives_ret (give16 x20) _ x34 _ hvl hQk34 huse ⟨hks.2.1, hks.2.2.1⟩ hks.2.2.2.1 (fun z hz => by have := hsb z hz; omega) hr0 hc0 (by omega) (by omega) hS) ?_
   clear hS; rintro v w39 ⟨rfl, vo40, vr41, hS⟩
   have hgv := give17_len (no := (iAt f x20 k i).1.length) (slots := give16 x20) hks.2.2.2.1 hks.1; have hsb3 := hsb _ (List.mem_of_getElem? hx38)
   refine WL.nil (N.restS ⟨(hS.cells 1 (m := 6) rfl rfl), (hS.cells 2 (off := 0) (m := 1) rfl rfl), (hS.roCells hr38 hc38)⟩ ?_)
   refine WA.conv (fuel' := 0 + 1) (listed' := (lb 13 4095)) (by kernel_rfl) (by kernel_rfl) (WA.stepS 12 (by kernel_rfl) rfl ?_)
   refine WL.callF (vs := [.pointer (some ⟨bm, 0, none⟩), .int .i64 ((give17 (iAt f x20 k i).1.length (give16 x20) x34).2.2), .int .i64 x38]) Tryd.func25 (by kernel_rfl) rfl rfl rfl (save_ret ((give17 (iAt f x20 k i).1.length (give16 x20) x34).2.2) x38 (by omega) (by first | omega | (simp only; omega)) hS) ?_
   clear hS; rintro v w42 ⟨rfl, vo43, hS⟩
   refine WL.nil (N.restS ⟨(hS.cells 1 (m := 6) rfl rfl), (hS.cells 2 (off := 0) (m := 1) rfl rfl), (hS.roCells hr38 hc38)⟩ ?_)
   refine WA.doneN (by kernel_rfl) ?_
   refine N.blk (N.seq (W.region ?_))
   refine WL.add (c := (i : Int) + 1) rfl rfl rfl rfl (rfl) (by omega) ?_
   refine WL.move rfl rfl rfl (WL.nil ?_)
   replace hS := hS.perm ((List.Perm.swap _ _ _))
   replace hS := hS.dropN 1
   replace hS := hS.rw0 (show (⟨vo43, 36, 5, (iAt f x20 k (i + 1)).1.length, (oCells (iAt f x20 k (i + 1)).1)⟩ : Row) = ⟨vo43, 36, 5, (iAt f x20 k i).1.length + (give17 (iAt f x20 k i).1.length (give16 x20) x34).1.length + 1, (oCells (iAt f x20 k i).1 ++ oCells (give17 (iAt f x20 k i).1.length (give16 x20) x34).1) ++ oCells [sv ((give17 (iAt f x20 k i).1.length (give16 x20) x34).2.2) x38]⟩ by rw [iAt_next hx34]; simp [insStep, oCells_app, rCells_app, hslA, Nat.add_assoc])
   replace hS := hS.rw1 (show (⟨vr41, 34, 3, (iAt f x20 k (i + 1)).2.length, (rCells (iAt f x20 k (i + 1)).2)⟩ : Row) = ⟨vr41, 34, 3, (iAt f x20 k i).2.length + (give17 (iAt f x20 k i).1.length (give16 x20) x34).2.1.length, (rCells (iAt f x20 k i).2 ++ rCells (give17 (iAt f x20 k i).1.length (give16 x20) x34).2.1)⟩ by rw [iAt_next hx34]; simp [insStep, oCells_app, rCells_app, hslA, Nat.add_assoc])
   exact N.loop (i + 1, vo43, vr41) ⟨rfl, rfl, rfl, rfl, rfl, rfl, rfl, rfl, rfl, rfl, trivial⟩ ⟨hS, by omega⟩ (by first | omega | (simp only; omega))
  have hc33p : ¬ ((i : Int) < (x20.ins.length : Int)) := by simpa using hc33
  refine W.exit (X.seq (X.loop (X.blk (N.seq ?_))))
  have hie : i = x20.ins.length := by omega
  subst hie
  refine W.region (WL.move rfl rfl rfl (WL.move rfl rfl rfl (WL.fieldAddr fo_59_2 rfl rfl rfl (WL.loadN (cs := [.int .i64 x20.fin.kind, .int .i64 x20.fin.a, .int .i64 x20.fin.to, .slice adp20 x20.fin.args.length capp20, .int .i64 x20.fin.els, .slice adq20 x20.fin.elses.length capq20]) agg_57 rfl rfl rfl rfl (hS.cells 1 (m := 6) rfl rfl) ?_))))
  replace hS := hS.permR (((List.Perm.cons _ (List.Perm.cons _ (List.Perm.swap _ _ _)))).trans ((List.Perm.cons _ (List.Perm.swap _ _ _))))
  have htm := hok.tm _ hbm_; have h16 := hok.ok _ hbm_; have hta := h16.ta; have hte := h16.te; have htv := h16.tv; rw [← hgl] at hta hte htv
  refine WL.callF (vs := [.pointer (some ⟨bm, 0, none⟩), .slice adl ((give16 x20).length) capl, .agg #[.int .i64 x20.fin.kind, .int .i64 x20.fin.a, .int .i64 x20.fin.to, .slice adp20 x20.fin.args.length capp20, .int .i64 x20.fin.els, .slice adq20 x20.fin.elses.length capq20]]) Tryd.func28 (by kernel_rfl) rfl rfl rfl (end_ret (give16 x20) _ x20.fin _ hvl hfin20 htm.1 hta hte htv htm.2.1 htm.2.2 (fun z hz => by have := hsb z hz; omega) (by omega) (by omega) (by omega) hS) ?_
  clear hS; rintro v w44 ⟨rfl, vo45, vj46, Lj, cj2, hJ, hS⟩
  replace hS := hS.mid
  replace hS := hS.permR (((List.Perm.cons _ (List.Perm.swap _ _ _))).trans ((List.Perm.cons _ (List.Perm.cons _ (List.Perm.swap _ _ _)))))
  replace hS := hS.rw0 (show (⟨vo45, 36, 5, (gAt f (k + 1)).ops.length, (oCells (gAt f (k + 1)).ops)⟩ : Row) = ⟨vo45, 36, 5, (iAt f x20 k x20.ins.length).1.length + (end17 (iAt f x20 k x20.ins.length).1.length (give16 x20) (many16 f) (frame17 f) x20.fin).1.length, ((oCells (iAt f x20 k x20.ins.length).1) ++ oCells (end17 (iAt f x20 k x20.ins.length).1.length (give16 x20) (many16 f) (frame17 f) x20.fin).1)⟩ by rw [blkAt hx20] <;> simp [oCells_app, rCells_app, iCells_app])
  replace hS := hS.rw1 (show (⟨v2, 34, 3, (gAt f (k + 1)).rels.length, (rCells (gAt f (k + 1)).rels)⟩ : Row) = ⟨v2, 34, 3, (iAt f x20 k x20.ins.length).2.length, (rCells (iAt f x20 k x20.ins.length).2)⟩ by rw [blkAt hx20] <;> simp [oCells_app, rCells_app, iCells_app])
  replace hS := hS.rw2 (show (⟨.slice av28 ((gAt f k).starts.length + 1) cv28, 3, 1, (gAt f (k + 1)).starts.length, (iCells (gAt f (k + 1)).starts)⟩ : Row) = ⟨.slice av28 ((gAt f k).starts.length + 1) cv28, 3, 1, (gAt f k).starts.length + 1, (iCells ((gAt f k).starts ++ [((gAt f k).ops.length : Int)]))⟩ by rw [blkAt hx20] <;> simp [oCells_app, rCells_app, iCells_app])
  replace hS := hS.rw3 (show (⟨vj46, 1, 1, (cjs ++ cj2).length, (cjs ++ cj2)⟩ : Row) = ⟨vj46, 1, 1, cjs.length + cj2.length, (cjs ++ cj2)⟩ by simp)
  have hjm2 : JmpsOk (Lj ++ Lk) bm (cjs ++ cj2) (gAt f (k + 1)).jumps := by rw [blkAt hx20]; exact (hjm.mono fun p hp => List.mem_append_right _ hp).app (hJ.mono fun p hp => List.mem_append_left _ hp)
  refine WL.nil (N.blk (N.seq (W.region ?_)))
  refine WL.add (c := (k : Int) + 1) rfl rfl rfl rfl (rfl) (by omega) ?_
  refine WL.move rfl rfl rfl (WL.nil ?_)
  exact N.loop (k + 1, vo45, v2, .slice av28 ((gAt f k).starts.length + 1) cv28, vj46, (Lj ++ Lk), (cjs ++ cj2), (roFrom R2 w29 w30), w30) ⟨rfl, rfl, rfl, rfl, rfl, trivial⟩ ⟨hS, by omega, hjm2, halL1, hsub⟩ (by first | omega | (simp only; omega))
 have hc19p : ¬ ((k : Int) < (f.blocks.length : Int)) := by simpa using hc19
 refine W.exit (X.seq (X.loop (X.blk (N.seq (W.seq (W.seq ?_))))))
 have hke : k = f.blocks.length := by omega
 subst hke
 replace hS : St w ws2 w18 R2 ((bm, .cells #[.string f.name, .int .i64 f.bind, .int .i64 f.params, .slice adbF f.blocks.length capbF, .int .i64 (many16 f), .int .i64 (frame17 f), .string f.name, vo, vr, vs, vj] 64 (0, 0)) :: (b1, .cells #[.string f.name, .int .i64 f.bind, .int .i64 f.params, .slice adbF f.blocks.length capbF] 24 (0, 0)) :: (b2, .cells #[.string ⟨#[]⟩, .slice none 0 0, .slice none 0 0] 30 (0, 0)) :: Lk) [⟨vo, 36, 5, (gFull f).ops.length, (oCells (gFull f).ops)⟩, ⟨vr, 34, 3, (gFull f).rels.length, (rCells (gFull f).rels)⟩, ⟨vs, 3, 1, (gFull f).starts.length, (iCells (gFull f).starts)⟩, ⟨vj, 1, 1, cjs.length, cjs⟩] := hS
 replace hg1 : (gFull f).ops.length ≤ 8 + 437 * f.blocks.length := hg1; replace hjm : JmpsOk Lk bm cjs (gFull f).jumps := hjm; have hcl2 : cjs.length = (gFull f).jumps.length := hjm.len
 have hrow : w18.ownsRow w.heap.size 1 1 vj (cjs.length) _ := hS.rows _ (List.mem_of_getElem? (i := 3) rfl)
 obtain ⟨advj, capvj, rfl, hr1vj, hr2vj, hr3vj⟩ := row_shape hrow
 clear hrow
 refine W.region (WL.move rfl rfl rfl (WL.nilPtr rfl rfl rfl (WL.fieldAddr fo_64_5 rfl rfl rfl (WL.load1 (v := .slice advj cjs.length capvj) one_62 rfl rfl rfl (hS.cell 0 rfl rfl) (WL.lenSlice Tryd.underlying62 rfl rfl rfl (WL.move rfl rfl rfl (WL.nil (N.seq (W.block ?_)))))))))
 have hS0 : St w ws2 w18 R2 ((bm, .cells #[.string f.name, .int .i64 f.bind, .int .i64 f.params, .slice adbF f.blocks.length capbF, .int .i64 (many16 f), .int .i64 (frame17 f), .string f.name, vo, vr, vs, .slice advj cjs.length capvj] 64 (0, 0)) :: (b1, .cells #[.string f.name, .int .i64 f.bind, .int .i64 f.params, .slice adbF f.blocks.length capbF] 24 (0, 0)) :: (b2, .cells #[.string ⟨#[]⟩, .slice none 0 0, .slice none 0 0] 30 (0, 0)) :: Lk) [⟨vo, 36, 5, (gFull f).ops.length, (oCells (jumpAll (gFull f).starts (gFull f).ops ((gFull f).jumps.take 0)))⟩, ⟨vr, 34, 3, (gFull f).rels.length, (rCells (gFull f).rels)⟩, ⟨vs, 3, 1, (gFull f).starts.length, (iCells (gFull f).starts)⟩, ⟨.slice advj cjs.length capvj, 1, 1, cjs.length, cjs⟩] := hS
 have hjl : JmpsOk ((bm, .cells #[.string f.name, .int .i64 f.bind, .int .i64 f.params, .slice adbF f.blocks.length capbF, .int .i64 (many16 f), .int .i64 (frame17 f), .string f.name, vo, vr, vs, .slice advj cjs.length capvj] 64 (0, 0)) :: (b1, .cells #[.string f.name, .int .i64 f.bind, .int .i64 f.params, .slice adbF f.blocks.length capbF] 24 (0, 0)) :: (b2, .cells #[.string ⟨#[]⟩, .slice none 0 0, .slice none 0 0] 30 (0, 0)) :: Lk) bm cjs (gFull f).jumps := hjm.mono fun p hp => List.mem_cons_of_mem _ (List.mem_cons_of_mem _ (List.mem_cons_of_mem _ hp))
 refine W.loop (α := Nat) (fun (q : Nat) => [(2, .pointer (some ⟨b2, 0, none⟩)), (3, .pointer (some ⟨bm, 0, none⟩)), (98, .slice advj cjs.length capvj), (99, .int .i64 (cjs.length : Int)), (100, .int .i64 (q : Int))]) (fun (q : Nat) u => St w ws2 u R2 ((bm, .cells #[.string f.name, .int .i64 f.bind, .int .i64 f.params, .slice adbF f.blocks.length capbF, .int .i64 (many16 f), .int .i64 (frame17 f), .string f.name, vo, vr, vs, .slice advj cjs.length capvj] 64 (0, 0)) :: (b1, .cells #[.string f.name, .int .i64 f.bind, .int .i64 f.params, .slice adbF f.blocks.length capbF] 24 (0, 0)) :: (b2, .cells #[.string ⟨#[]⟩, .slice none 0 0, .slice none 0 0] 30 (0, 0)) :: Lk) [⟨vo, 36, 5, (gFull f).ops.length, (oCells (jumpAll (gFull f).starts (gFull f).ops ((gFull f).jumps.take q)))⟩, ⟨vr, 34, 3, (gFull f).rels.length, (rCells (gFull f).rels)⟩, ⟨vs, 3, 1, (gFull f).starts.length, (iCells (gFull f).starts)⟩, ⟨.slice advj cjs.length capvj, 1, 1, cjs.length, cjs⟩] ∧ q ≤ cjs.length) (fun (q : Nat) => cjs.length - q) 0 ⟨rfl, rfl, rfl, rfl, rfl, trivial⟩ ⟨hS0, Nat.zero_le _⟩ ?_
 clear hS
 rintro q w47 ⟨hS, hq⟩
 refine W.seq (W.region (WL.bin rfl rfl rfl rfl rfl (WL.nil (N.seq (W.seq ?_)))))
 refine W.cond rfl (fun hc48 => ?_) (fun hc48 => ?_)
 ·
  have hc48p : (q : Int) < (cjs.length : Int) := by simpa using hc48
  refine W.skip (N.seq (W.seq (W.block (W.seq ?_))))
  have hjc := hjl.chunks
  obtain ⟨gq50, rfl⟩ : ∃ g, advj = some ⟨g, 0, none⟩ := row_some (hS.rows _ (List.mem_of_getElem? (i := 3) rfl)) (by omega)
  have hj49 : q < ((gFull f).jumps).length := by omega
  obtain ⟨x49, hx49⟩ : ∃ zz, ((gFull f).jumps)[q]? = some zz := ⟨_, List.getElem?_eq_getElem hj49⟩
  have hQ49 := hjc.2 q _ hx49
  generalize hk49 : (cjs.drop (q * 1)).take 1 = c49 at hQ49
  obtain ⟨vJ49, rfl, hjo49⟩ := hQ49
  have hjp49 := hjo49
  obtain ⟨bT49, bA49, bW49, rfl, _⟩ := hjp49
  refine W.region ?_
  refine WL.indexAddr (j := q) Tryd.underlying62 isz_1 rfl rfl rfl rfl (by omega) ?_
  refine WL.load1 (v := .func (.func 66) #[] #[.pointer (some ⟨bT49, 0, none⟩), .pointer (some ⟨bA49, 0, none⟩), .pointer (some ⟨bW49, 0, none⟩)]) one_1 rfl rfl rfl ((hS.rowCells 3 rfl hk49) 0 _ rfl) (WL.assign rfl rfl rfl (WL.nil (N.seq (W.region (WL.move rfl rfl rfl ?_)))))
  have hjt := tgt_in hok (List.mem_of_getElem? hx49); have hjin := (gAt_jumps hok f.blocks.length (Nat.le_refl _)).1 _ (List.mem_of_getElem? hx49)
  have hjl2 : x49.1 < (gFull f).ops.length := hjin.2.1
  have hjal := jumpAll_len (gFull f).starts (gFull f).ops ((gFull f).jumps.take q)
  refine WL.callV (vs := []) (cs := #[.pointer (some ⟨bT49, 0, none⟩), .pointer (some ⟨bA49, 0, none⟩), .pointer (some ⟨bW49, 0, none⟩)]) Tryd.func66 (by kernel_rfl) rfl rfl rfl rfl (jump_one bT49 bA49 bW49 x49 hjo49 List.mem_cons_self hjal.symm (by omega) (by omega) (by omega) (fun t et => by have h := hjin.2.2; rw [et] at h; exact ⟨h.1, starts_at hok h⟩) (List.mem_of_getElem? (i := 1) rfl) hS) ?_
  rintro v w51 ⟨rfl, hS⟩
  refine WL.nil (N.blk (N.seq (W.region ?_)))
  refine WL.add (c := (q : Int) + 1) rfl rfl rfl rfl (rfl) (by omega) ?_
  refine WL.move rfl rfl rfl (WL.nil ?_)
  replace hS := hS.rw0 (show (⟨vo, 36, 5, (gFull f).ops.length, (oCells (jumpAll (gFull f).starts (gFull f).ops ((gFull f).jumps.take (q + 1))))⟩ : Row) = ⟨vo, 36, 5, (gFull f).ops.length, (oCells (setJ (gFull f).starts (jumpAll (gFull f).starts (gFull f).ops ((gFull f).jumps.take q)) x49))⟩ by rw [jumpAll_next hx49])
  exact N.loop (q + 1) ⟨rfl, rfl, rfl, rfl, rfl, trivial⟩ ⟨hS, by omega⟩ (by first | omega | (simp only; omega))
 have hc48p : ¬ ((q : Int) < (cjs.length : Int)) := by simpa using hc48
 refine W.exit (X.seq (X.loop (X.blk (N.seq (W.seq ?_)))))
 have hrow : w47.ownsRow w.heap.size 36 5 vo ((gFull f).ops.length) _ := hS.rows _ List.mem_cons_self
 obtain ⟨advo, capvo, rfl, hr1vo, hr2vo, hr3vo⟩ := row_shape hrow
 clear hrow
 have hrow : w47.ownsRow w.heap.size 34 3 vr ((gFull f).rels.length) _ := hS.rows _ (List.mem_cons_of_mem _ List.mem_cons_self)
 obtain ⟨advr, capvr, rfl, hr1vr, hr2vr, hr3vr⟩ := row_shape hrow
 clear hrow
 refine W.region (WL.move rfl rfl rfl (WL.nilPtr rfl rfl rfl (WL.fieldAddr fo_64_3 rfl rfl rfl (WL.loadN (cs := [.string f.name, .slice advo ((gFull f).ops.length) capvo, .slice advr ((gFull f).rels.length) capvr]) agg_30 rfl rfl rfl rfl (hS.cells 0 (m := 3) rfl rfl) ?_))))
 refine WL.store2 #[.string f.name, .slice advo ((gFull f).ops.length) capvo, .slice advr ((gFull f).rels.length) capvr] rfl rfl rfl rfl siz_30 rfl rfl rfl hS ?_
 clear hS; intro w52 hS
 refine WL.nil (N.seq ?_)
 refine Fin.retC rfl (v := .agg #[.string f.name, .slice advo ((gFull f).ops.length) capvo, .slice advr ((gFull f).rels.length) capvr]) rfl (tyAgg_run agg_30 (cs := [.string f.name, .slice advo ((gFull f).ops.length) capvo, .slice advr ((gFull f).rels.length) capvr]) rfl (hS.cells 2 (m := 3) rfl rfl)) ?_
 have hqe : q = (gFull f).jumps.length := by omega
 rw [hqe, List.take_length] at hS
 have hfl : (func17 f).ops.length = (gFull f).ops.length := jumpAll_len _ _ _
 have hr1 := hS.rows _ (List.mem_of_getElem? (i := 0) rfl)
 have hr2 := hS.rows _ (List.mem_of_getElem? (i := 1) rfl)
 refine ⟨_, _, rfl, ?_, hr2, (fun b hb => by have h := hS.keys b (by simp only [keysOf, List.mem_append, List.mem_filterMap]; exact .inr ⟨_, List.mem_of_getElem? (i := 0) rfl, hb⟩); exact ⟨h.1, h.2.1⟩), (fun b hb => by have h := hS.keys b (by simp only [keysOf, List.mem_append, List.mem_filterMap]; exact .inr ⟨_, List.mem_of_getElem? (i := 1) rfl, hb⟩); exact ⟨h.1, h.2.1⟩), hS.below⟩
 rw [hfl]; exact hr1

end Go.Proofs.YtcmmhfknkldmcaaDoor
