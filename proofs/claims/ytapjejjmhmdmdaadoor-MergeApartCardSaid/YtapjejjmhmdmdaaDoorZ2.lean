/-
  Contracts of layer 10 (merge). No condition beyond those that each theorem states.
-/
import Derived.Test.YtapjejjmhmdmdaaDoorZ1
import Derived.Test.YtapjejjmhmdmdaaDoorP2
import Derived.Test.YtapjejjmhmdmdaaDoorA27
import Derived.Test.YtapjejjmhmdmdaaDoorA28
namespace Go.Proofs.YtapjejjmhmdmdaaDoor
open Go.RowKit
theorem one_40 : tyOne Tryd.prog 40 = true := by kernel_rfl
theorem siz_3 : tySize Tryd.prog 3 1 = true := by kernel_rfl
theorem zb_9 : (Tryd.prog.info? 9).bind (·.zero) = some (.string ⟨#[]⟩) := by kernel_rfl
def MapC (ro : Nat → Prop) (w : World) (cs : List Value) (g : Ren) : Prop := ∃ b es ck c, cs = [.map (some b)] ∧ ro b ∧ w.heap[b]? = some (.map es ck) ∧ MapG kS kS es ck c g
theorem MapC.keep {ro ro' : Nat → Prop} {w w' : World} {cs : List Value} {g : Ren} (h : MapC ro w cs g) (ha : Alike ro w ro' w') : MapC ro' w' cs g := by
  obtain ⟨b, es, ck, c, h1, h2, h3, h4⟩ := h
  exact ⟨b, es, ck, c, h1, (ha b h2).1, (ha b h2).2.trans h3, h4⟩

theorem give10_ret {w0 ws w : World} {ro : Nat → Prop} {L : List (Nat × Obj)} {Rs : List Row} (bt bm bn bk : Nat) (es : Array MapEntry) (ck c nn : Nat) (g : Ren) (xs : List ByteArray) (vx : Value) (t : ByteArray) (bi : Int) (hS : St w0 ws w ro ((bt, .cells #[.map (some bm)] 40 (0, 0)) :: (bm, .map es ck) :: (bn, .cells #[.int .i64 (nn : Int)] 3 (0, 0)) :: (bk, .cells #[vx] 25 (0, 0)) :: L) Rs) (hM : MapG kS kS es ck c g) (hx : SlV ro ws 1 StrC vx xs) (hpw : PowT ro ws) (hn : nn + xs.length ≤ 9223372036854775800) : Ret Tryd.prog 25 #[.string t, .int .i64 bi, .pointer (some ⟨bt, 0, none⟩), .pointer (some ⟨bn, 0, none⟩), .pointer (some ⟨bk, 0, none⟩)] w fun v w' => v = .tuple #[] ∧ ∃ es' ck', MapG kS kS es' ck' (c + 1) (give10 xs (g, nn) (t, bi)).1 ∧ St w0 ws w' ro ((bt, .cells #[.map (some bm)] 40 (0, 0)) :: (bm, .map es' ck') :: (bn, .cells #[.int .i64 ((give10 xs (g, nn) (t, bi)).2 : Int)] 3 (0, 0)) :: (bk, .cells #[vx] 25 (0, 0)) :: L) Rs := by
 have hxl : xs.length ≤ 9223372036854775807 := slv_len hx
 refine Ret.enter (P := Tryd.prog) (n := 29) (args := [.string t, .int .i64 bi, .pointer (some ⟨bt, 0, none⟩), .pointer (some ⟨bn, 0, none⟩), .pointer (some ⟨bk, 0, none⟩)]) (σ := [(0, .string t), (1, .int .i64 bi), (2, .pointer (some ⟨bt, 0, none⟩)), (3, .pointer (some ⟨bn, 0, none⟩)), (4, .pointer (some ⟨bk, 0, none⟩))]) Tryd.func25 rfl rfl rfl rfl ?_
 refine W.seq ?_
 refine W.region ?_
 refine WL.load1 (v := .map (some bm)) one_40 rfl rfl rfl (hS.cell 0 rfl rfl) ?_
 refine WL.move rfl rfl rfl ?_
 refine WL.mapGetOk (c := (g t).isSome) t keyE_str Tryd.underlying40 Tryd.underlying9 zb_9 hM rfl rfl rfl rfl (hS.own _ (List.mem_of_getElem? (i := 1) rfl)) (v := .string ((g t).getD ⟨#[]⟩)) (by cases g t <;> rfl) rfl ?_
 refine WL.move rfl rfl rfl ?_
 refine WL.extract (v := .string ((g t).getD ⟨#[]⟩)) rfl rfl rfl rfl ?_
 refine WL.extract (v := .bool ((g t).isSome)) rfl rfl rfl rfl ?_
 refine WL.assign rfl rfl rfl ?_
 refine WL.assign rfl rfl rfl ?_
 refine WL.nil ?_
 refine N.seq ?_
 refine W.seq ?_
 refine W.region ?_
 refine WL.move rfl rfl rfl ?_
 refine WL.bin rfl rfl rfl rfl rfl ?_
 refine WL.move rfl rfl rfl ?_
 cases hg1 : (decide (bi = 1))
 ·
  have hg1p : ¬ (bi = 1) := by simpa using hg1
  refine WL.skp rfl rfl ?_
  refine WL.skp rfl rfl ?_
  refine WL.pick (v := .bool false) rfl rfl rfl rfl rfl rfl ?_
  refine WL.nil ?_
  refine N.seq ?_
  refine W.condF rfl ?_
  refine W.skip ?_
  refine Fin.end0 rfl ?_
  rw [give10_no1 (x := (t, bi)) hg1p]
  exact ⟨rfl, es, ck, hM.mono (by omega), hS⟩
 have hg1p : bi = 1 := by simpa using hg1
 refine WL.move rfl rfl rfl ?_
 refine WL.not rfl rfl rfl ?_
 refine WL.pick (v := .bool (!((g t).isSome))) rfl rfl rfl rfl rfl rfl ?_
 refine WL.nil ?_
 refine N.seq ?_
 refine W.cond rfl (fun hc2 => ?_) (fun hc2 => ?_)
 ·
  refine W.drawA0 (S := fun u => CellsAt u bt (0) [.map (some bm)]) (by kernel_rfl) (fun w3 hbd => ?_)
  replace hS := hS.grow hbd
  refine WA.conv (fuel' := 9 + 1) (listed' := #[false, false, false, false, false, false, false, false, false, false]) (by kernel_rfl) (by kernel_rfl) (WA.take 0 (v := .map (some bm)) rfl rfl (by kernel_rfl) (by kernel_rfl) (by kernel_rfl) (fin_no_panic _) rfl (exec_load1 one_40 rfl (fun u hs => hs 0 _ rfl)) (hS.cells 0 (m := 1) rfl rfl) ?_)
  refine WA.conv (fuel' := 8 + 1) (listed' := #[true, false, false, false, false, false, false, false, false, false]) (by kernel_rfl) (by kernel_rfl) (WA.take 1 (v := .string t) rfl rfl (by kernel_rfl) (by kernel_rfl) (by kernel_rfl) (fin_no_panic _) rfl (exec_move rfl) (hS.cells 0 (m := 1) rfl rfl) ?_)
  refine WA.conv (fuel' := ([(2, .int .i64 (nn : Int)), (3, vx)] : List (Nat × Value)).length + 6) (listed' := #[true, true, false, false, false, false, false, false, false, false]) (by kernel_rfl) (by kernel_rfl) (WA.quiet [(2, .int .i64 (nn : Int)), (3, vx)] (by kernel_rfl) [(0, .string t), (1, .int .i64 bi), (2, .pointer (some ⟨bt, 0, none⟩)), (3, .pointer (some ⟨bn, 0, none⟩)), (4, .pointer (some ⟨bk, 0, none⟩)), (7, .string ((g t).getD ⟨#[]⟩)), (8, .bool ((g t).isSome)), (9, .tuple #[.string ((g t).getD ⟨#[]⟩), .bool ((g t).isSome)]), (10, .map (some bm)), (11, .string t), (12, .tuple #[.string ((g t).getD ⟨#[]⟩), .bool ((g t).isSome)]), (13, .string ((g t).getD ⟨#[]⟩)), (14, .bool ((g t).isSome)), (15, .int .i64 bi), (16, .bool true), (17, .bool true), (18, .bool ((g t).isSome)), (19, .bool (!((g t).isSome))), (20, .bool (!((g t).isSome))), (22, .map (some bm)), (23, .string t)] ⟨rfl, rfl, rfl, rfl, rfl, rfl, rfl, rfl, rfl, rfl, rfl, rfl, rfl, rfl, rfl, rfl, rfl, rfl, rfl, rfl, rfl, trivial⟩ (by kernel_rfl) ?_ (hS.cells 0 (m := 1) rfl rfl) ?_)
  ·
   refine ⟨⟨_, rfl, ?_⟩, ?_⟩
   ·
    refine WL.sub (σ' := [(3, .pointer (some ⟨bn, 0, none⟩))]) ⟨rfl, trivial⟩ ?_
    refine WL.load1 (v := .int .i64 (nn : Int)) one_3 rfl rfl rfl (hS.cell 2 rfl rfl) ?_
    exact WL.nil (N.cut () ⟨rfl, trivial⟩ rfl)
   refine ⟨⟨_, rfl, ?_⟩, ?_⟩
   ·
    refine WL.sub (σ' := [(4, .pointer (some ⟨bk, 0, none⟩))]) ⟨rfl, trivial⟩ ?_
    refine WL.load1 (v := vx) one_25 rfl rfl rfl (hS.cell 3 rfl rfl) ?_
    exact WL.nil (N.cut () ⟨rfl, trivial⟩ rfl)
   trivial
  refine WA.sub (σ' := [(0, .string t), (1, .int .i64 bi), (2, .pointer (some ⟨bt, 0, none⟩)), (3, .pointer (some ⟨bn, 0, none⟩)), (4, .pointer (some ⟨bk, 0, none⟩)), (7, .string ((g t).getD ⟨#[]⟩)), (8, .bool ((g t).isSome)), (9, .tuple #[.string ((g t).getD ⟨#[]⟩), .bool ((g t).isSome)]), (10, .map (some bm)), (11, .string t), (12, .tuple #[.string ((g t).getD ⟨#[]⟩), .bool ((g t).isSome)]), (13, .string ((g t).getD ⟨#[]⟩)), (14, .bool ((g t).isSome)), (15, .int .i64 bi), (16, .bool true), (17, .bool true), (18, .bool ((g t).isSome)), (19, .bool (!((g t).isSome))), (20, .bool (!((g t).isSome))), (22, .map (some bm)), (23, .string t), (24, .int .i64 (nn : Int)), (25, vx)]) ⟨rfl, rfl, rfl, rfl, rfl, rfl, rfl, rfl, rfl, rfl, rfl, rfl, rfl, rfl, rfl, rfl, rfl, rfl, rfl, rfl, rfl, rfl, rfl, trivial⟩ ?_
  refine WA.conv (fuel' := 5 + 1) (listed' := #[true, true, true, true, false, false, false, false, false, false]) (by kernel_rfl) (by kernel_rfl) (WA.stepS 4 (by kernel_rfl) rfl ?_)
  refine WL.callF (vs := [.int .i64 (nn : Int), vx]) Tryd.func21 (by kernel_rfl) rfl rfl rfl (local_ret nn xs _ (ro := ro) (fun b hb => (hS.snap b hb).1) (SlV.keep hx hS.alike (fun _ _ q => q)) (hpw.keep hS.alike) (by omega)) ?_
  rintro v w4 ⟨rfl, hbl⟩
  replace hS := hS.grow hbl
  refine WL.nil (N.restS (hS.cells 0 (m := 1) rfl rfl) ?_)
  refine WA.conv (fuel' := 4 + 1) (listed' := #[true, true, true, true, true, false, false, false, false, false]) (by kernel_rfl) (by kernel_rfl) (WA.stepS 5 (by kernel_rfl) rfl ?_)
  refine WL.move rfl rfl rfl ?_
  refine WL.nil (N.restS (hS.cells 0 (m := 1) rfl rfl) ?_)
  refine WA.conv (fuel' := 3 + 1) (listed' := #[true, true, true, true, true, true, false, false, false, false]) (by kernel_rfl) (by kernel_rfl) (WA.take 7 (v := .int .i64 ((loc10 xs nn : Nat) + 1 : Int)) rfl rfl (by kernel_rfl) (by kernel_rfl) (by kernel_rfl) (fin_no_panic _) rfl (exec_extract rfl rfl) (hS.cells 0 (m := 1) rfl rfl) ?_)
  refine WA.conv (fuel' := 2 + 1) (listed' := #[true, true, true, true, true, true, false, true, false, false]) (by kernel_rfl) (by kernel_rfl) (WA.stepS 6 (by kernel_rfl) rfl ?_)
  refine WL.extract (v := .string (dot10 (loc10 xs nn))) rfl rfl rfl rfl ?_
  refine WL.nil (N.restS (hS.cells 0 (m := 1) rfl rfl) ?_)
  refine WA.conv (fuel' := 1 + 1) (listed' := #[true, true, true, true, true, true, true, true, false, false]) (by kernel_rfl) (by kernel_rfl) (WA.stepS 8 (by kernel_rfl) rfl ?_)
  refine WL.mapPut 1 t (dot10 (loc10 xs nn)) keyE_str Tryd.underlying40 Tryd.underlying9 hM rfl rfl rfl rfl rfl hS ?_
  clear hS; intro w6 es5 ck5 hM5 hS
  refine WL.nil (N.restS (hS.cells 0 (m := 1) rfl rfl) ?_)
  refine WA.conv (fuel' := 0 + 1) (listed' := #[true, true, true, true, true, true, true, true, true, false]) (by kernel_rfl) (by kernel_rfl) (WA.stepS 9 (by kernel_rfl) rfl ?_)
  refine WL.store (cs := [.int .i64 ((loc10 xs nn : Nat) + 1 : Int)]) (c' := #[.int .i64 ((loc10 xs nn : Nat) + 1 : Int)]) (L' := ((bt, .cells #[.map (some bm)] 40 (0, 0)) :: (bm, .map es5 ck5) :: (bn, .cells #[.int .i64 ((loc10 xs nn : Nat) + 1 : Int)] 3 (0, 0)) :: (bk, .cells #[vx] 25 (0, 0)) :: L)) 2 rfl rfl rfl rfl siz_3 rfl rfl rfl rfl rfl hS ?_
  clear hS; intro w7 hS
  refine WL.nil (N.restS (hS.cells 0 (m := 1) rfl rfl) ?_)
  refine WA.doneN (by kernel_rfl) ?_
  refine Fin.end0 rfl ?_
  have hsm : (g t).isSome = false := by simpa using hc2
  rw [give10_yes (x := (t, bi)) hg1p hsm]
  exact ⟨rfl, es5, ck5, hM5, hS⟩
 refine W.skip ?_
 refine Fin.end0 rfl ?_
 have hsm : (g t).isSome = true := by simpa using hc2
 rw [give10_no2 (x := (t, bi)) hsm]
 exact ⟨rfl, es, ck, hM.mono (by omega), hS⟩

end Go.Proofs.YtapjejjmhmdmdaaDoor
