/-
  Contracts of layer 9 (resolve). No condition beyond those that each theorem states.
-/
import Derived.Test.YtapjejjmhmdmdaaDoorQ1
namespace Go.Proofs.YtapjejjmhmdmdaaDoor
open Go.RowKit
theorem byt_9 : (Tryd.prog.info? 9).map (·.bytes) = some 16 := by kernel_rfl
theorem fo_110_0 : fOff Tryd.prog 110 0 0 = true := by kernel_rfl
theorem one_25 : tyOne Tryd.prog 25 = true := by kernel_rfl
theorem one_72 : tyOne Tryd.prog 72 = true := by kernel_rfl
theorem siz_110 : tySize Tryd.prog 110 6 = true := by kernel_rfl
theorem siz_25 : tySize Tryd.prog 25 1 = true := by kernel_rfl
theorem siz_72 : tySize Tryd.prog 72 1 = true := by kernel_rfl
theorem zb_4 : (Tryd.prog.info? 4).bind (·.zero) = some (.bool false) := by kernel_rfl
theorem zer_110 : tyZero Tryd.prog 110 = some [.string ⟨#[]⟩, .int .i64 0, .bool false, .int .i64 0, .bool false, .bool false] := by kernel_rfl
theorem zer_25 : tyZero Tryd.prog 25 = some [.slice none 0 0] := by kernel_rfl
theorem zer_72 : tyZero Tryd.prog 72 = some [.map none] := by kernel_rfl
theorem zer_9 : tyZero Tryd.prog 9 = some [.string ⟨#[]⟩] := by kernel_rfl
instance decMemB (s : ByteArray) (l : List ByteArray) : Decidable (s ∈ l) := decidable_of_iff (l.any (fun y => decide (y = s)) = true) (by simp)
def nms9 (xs : List DItem) : List ByteArray := xs.foldl (fun (out : List ByteArray) (x : DItem) => if x.name ∈ out then out else out ++ [x.name]) []
theorem nms9_snoc (xs : List DItem) (x : DItem) : nms9 (xs ++ [x]) = if x.name ∈ nms9 xs then nms9 xs else nms9 xs ++ [x.name] := by unfold nms9; rw [List.foldl_append]; rfl
theorem nms9_length (xs : List DItem) : (nms9 xs).length ≤ xs.length := by
  induction xs using snoc_ind with
  | h0 => exact Nat.le_refl _
  | h1 l x ih => rw [nms9_snoc]; split <;> simp only [List.length_append, List.length_cons, List.length_nil] <;> omega
def had9 (xs : List DItem) : ByteArray → Option Bool := fun s => if s ∈ nms9 xs then some true else none
theorem had9_snoc (xs : List DItem) (x : DItem) : updG (had9 xs) x.name true = had9 (xs ++ [x]) := by
  funext s
  simp only [updG, had9, nms9_snoc]
  by_cases h : s = x.name
  · subst h
    rw [if_pos rfl]
    by_cases hx : x.name ∈ nms9 xs
    · rw [if_pos hx, if_pos hx]
    · rw [if_neg hx, if_pos (by simp)]
  · rw [if_neg h]
    by_cases hx : x.name ∈ nms9 xs
    · rw [if_pos hx]
    · rw [if_neg hx]
      by_cases hs : s ∈ nms9 xs
      · rw [if_pos hs, if_pos (List.mem_append_left _ hs)]
      · rw [if_neg hs, if_neg (by simp [hs, h])]
theorem had9_get (xs : List DItem) (s : ByteArray) : (had9 xs s).getD false = decide (s ∈ nms9 xs) := by
  unfold had9; split <;> simp_all

theorem names_ret (ms : List DMod) (vx : Value) {w : World} {ro : Nat → Prop} (hro : ∀ b, ro b → b < w.heap.size) (hx : SlV ro w 2 (ModC ro w) vx ms) (hmx : (items9 ms).length ≤ 1048576) (hns : ∀ x ∈ items9 ms, x.name.size ≤ maxLen) : Ret Tryd.prog 24 #[vx] w fun v w' => SlV (fun b => w.heap.size ≤ b ∧ b < w'.heap.size) w' 1 StrC v (nms9 (items9 ms)) ∧ Below w.heap.size w w' := by
 refine Ret.enterM (P := Tryd.prog) (n := 24) (args := [vx]) (σ := [(0, vx)]) Tryd.func24 rfl rfl rfl rfl ?_
 have hS := St.start (ro := ro) hro
 refine W.seq (W.region (WL.assign rfl rfl rfl (WL.nil (N.seq (W.seq (W.region ?_))))))
 refine WL.alloc (tyZero_spec zer_25) rfl rfl hS ?_
 clear hS; intro w2 b1 hb_b1 hS
 refine WL.nil (N.seq (W.seq (W.region ?_)))
 refine WL.makeMap rfl rfl hS ?_
 clear hS; intro w4 b3 hS
 refine WL.alloc (tyZero_spec zer_72) rfl rfl hS ?_
 clear hS; intro w6 b5 hb_b5 hS
 refine WL.store (L' := [(b5, .cells #[.map (some b3)] 72 (0, 0)), (b3, .map #[] 0), (b1, .cells #[.slice none 0 0] 25 (0, 0))]) 0 rfl rfl rfl rfl siz_72 rfl rfl rfl rfl rfl hS ?_
 clear hS; intro w7 hS
 refine WL.nil (N.seq (W.seq (W.seq (W.region (WL.move rfl rfl rfl ?_)))))
 refine WL.callF (vs := [vx]) Tryd.func47 (by kernel_rfl) rfl rfl rfl (items_ret ms _ hro hx (w0 := w) (w := w7) hS.below) ?_
 rintro v w8 ⟨bl, rfl, hit, hbl⟩
 replace hS := hS.grow hbl
 refine WL.nil (N.seq (W.block ?_))
 have hbm : b3 < w8.heap.size := (Array.getElem?_eq_some_iff.1 (hS.own _ (List.mem_of_getElem? (i := 1) rfl))).1
 replace hS := hS.row0 9 1
 refine W.ofX ?_
 have hlow0 := hS.below.size
 have hTy : ∀ (pre : List DItem) (x : Array MapEntry × Nat × Value × List Value), (fun (pre : List DItem) ⟨es, ck, v, cs⟩ => MapG kS kB es ck pre.length (had9 pre) ∧ Chunks 1 StrC cs (nms9 pre)) pre x → TyOk 32 w8.heap.size ((fun (pre : List DItem) ⟨es, ck, v, cs⟩ => [(b5, .cells #[.map (some b3)] 72 (0, 0)), (b3, .map es ck), (b1, .cells #[v] 25 (0, 0))]) pre x) ((fun (pre : List DItem) ⟨es, ck, v, cs⟩ => [⟨v, 9, 1, (nms9 pre).length, cs⟩]) pre x) := fun pre ⟨es, ck, v, cs⟩ hF => ⟨by simp only [List.mem_cons, List.not_mem_nil, or_false]; rintro p (rfl | rfl | rfl) <;> first | exact .inl ⟨_, _, _, rfl, by decide⟩ | exact .inr ⟨hbm, rfl⟩, by simp only [List.mem_cons, List.not_mem_nil, or_false]; rintro r rfl; simp⟩
 refine WX.range (γ := Array MapEntry × Nat × Value × List Value) (xs := items9 ms) rfl Tryd.func80 (by kernel_rfl) rfl hit (fun pre ⟨es, ck, v, cs⟩ => [(b5, .cells #[.map (some b3)] 72 (0, 0)), (b3, .map es ck), (b1, .cells #[v] 25 (0, 0))]) (fun pre ⟨es, ck, v, cs⟩ => [⟨v, 9, 1, (nms9 pre).length, cs⟩]) (fun pre ⟨es, ck, v, cs⟩ => MapG kS kB es ck pre.length (had9 pre) ∧ Chunks 1 StrC cs (nms9 pre)) (#[], 0, .slice none 0 0, []) ⟨MapG.empty, Chunks.nil⟩ hS hTy ?_ ?_
 ·
  rintro l pre e ⟨es, ck, v, cs⟩ A ⟨hM, hch⟩ hpre hS
  have hlen : pre.length + 1 ≤ (items9 ms).length := by have h := hpre.length_le; simpa using h
  have hlow := hS.below.size
  refine ⟨Nat, fun bx => [(3, .pointer (some ⟨b1, 0, none⟩)), (4, .pointer (some ⟨b5, 0, none⟩)), (5, .pointer (some ⟨bx, 0, none⟩))], fun bx => [(bx, .cells #[.string e.name, .int .i64 e.mod, .bool e.fn, .int .i64 e.params, .bool e.here, .bool e.strong] 110 (0, 0)), (b5, .cells #[.map (some b3)] 72 (0, 0)), (b3, .map es ck), (b1, .cells #[v] 25 (0, 0))], fun bx => [⟨v, 9, 1, (nms9 pre).length, cs⟩], fun bx => ⟨by simp only [List.mem_cons, List.not_mem_nil, or_false]; rintro p (rfl | rfl | rfl | rfl) <;> first | exact .inl ⟨_, _, _, rfl, by decide⟩ | exact .inr ⟨hbm, rfl⟩, by simp only [List.mem_cons, List.not_mem_nil, or_false]; rintro r rfl; simp⟩, ?_, ?_⟩
  ·
   refine WX.region (α := Nat) (fun bx => [(3, .pointer (some ⟨b1, 0, none⟩)), (4, .pointer (some ⟨b5, 0, none⟩)), (5, .pointer (some ⟨bx, 0, none⟩))]) (fun bx u => St w A u (othK A [(b5, .cells #[.map (some b3)] 72 (0, 0)), (b3, .map es ck), (b1, .cells #[v] 25 (0, 0))] [⟨v, 9, 1, (nms9 pre).length, cs⟩]) [(bx, .cells #[.string e.name, .int .i64 e.mod, .bool e.fn, .int .i64 e.params, .bool e.here, .bool e.strong] 110 (0, 0)), (b5, .cells #[.map (some b3)] 72 (0, 0)), (b3, .map es ck), (b1, .cells #[v] 25 (0, 0))] [⟨v, 9, 1, (nms9 pre).length, cs⟩]) rfl ?_ ?_
   ·
    refine WL.alloc (tyZero_spec zer_110) rfl rfl hS ?_
    clear hS; intro w10 b9 hb_b9 hS
    refine WL.store (L' := [(b9, .cells #[.string e.name, .int .i64 e.mod, .bool e.fn, .int .i64 e.params, .bool e.here, .bool e.strong] 110 (0, 0)), (b5, .cells #[.map (some b3)] 72 (0, 0)), (b3, .map es ck), (b1, .cells #[v] 25 (0, 0))]) 0 rfl rfl rfl rfl siz_110 rfl rfl rfl rfl rfl hS ?_
    clear hS; intro w11 hS
    refine WL.nil ?_
    exact N.cut b9 ⟨rfl, rfl, rfl, trivial⟩ hS
   intro bx wz hS
   exact NX.cut bx ⟨rfl, rfl, rfl, trivial⟩ hS
  clear hS hlow; intro bx A hS
  have hlow := hS.below.size
  refine WX.block ?_
  refine WX.cut (α := Value × List Value) (fun ⟨v2, cs2⟩ => [(3, .pointer (some ⟨b1, 0, none⟩)), (4, .pointer (some ⟨b5, 0, none⟩)), (5, .pointer (some ⟨bx, 0, none⟩))]) (fun ⟨v2, cs2⟩ u => St w A u (othK A [(bx, .cells #[.string e.name, .int .i64 e.mod, .bool e.fn, .int .i64 e.params, .bool e.here, .bool e.strong] 110 (0, 0)), (b5, .cells #[.map (some b3)] 72 (0, 0)), (b3, .map es ck), (b1, .cells #[v] 25 (0, 0))] [⟨v, 9, 1, (nms9 pre).length, cs⟩]) [(bx, .cells #[.string e.name, .int .i64 e.mod, .bool e.fn, .int .i64 e.params, .bool e.here, .bool e.strong] 110 (0, 0)), (b5, .cells #[.map (some b3)] 72 (0, 0)), (b3, .map es ck), (b1, .cells #[v2] 25 (0, 0))] [⟨v2, 9, 1, (nms9 (pre ++ [e])).length, cs2⟩] ∧ Chunks 1 StrC cs2 (nms9 (pre ++ [e]))) ?_ ?_
  ·
   refine WX.seq ?_
   refine WX.region (α := Unit) (fun _ => [(3, .pointer (some ⟨b1, 0, none⟩)), (4, .pointer (some ⟨b5, 0, none⟩)), (5, .pointer (some ⟨bx, 0, none⟩)), (10, .map (some b3)), (11, .pointer (some ⟨bx, 0, none⟩)), (12, .string e.name), (13, .bool (((had9 pre) e.name).getD false)), (14, .bool (!(((had9 pre) e.name).getD false)))]) (fun _ u => St w A u (othK A [(bx, .cells #[.string e.name, .int .i64 e.mod, .bool e.fn, .int .i64 e.params, .bool e.here, .bool e.strong] 110 (0, 0)), (b5, .cells #[.map (some b3)] 72 (0, 0)), (b3, .map es ck), (b1, .cells #[v] 25 (0, 0))] [⟨v, 9, 1, (nms9 pre).length, cs⟩]) [(bx, .cells #[.string e.name, .int .i64 e.mod, .bool e.fn, .int .i64 e.params, .bool e.here, .bool e.strong] 110 (0, 0)), (b5, .cells #[.map (some b3)] 72 (0, 0)), (b3, .map es ck), (b1, .cells #[v] 25 (0, 0))] [⟨v, 9, 1, (nms9 pre).length, cs⟩]) rfl ?_ ?_
   ·
    refine WL.load1 (v := .map (some b3)) one_72 rfl rfl rfl (hS.cell 1 rfl rfl) (WL.fieldAddr fo_110_0 rfl rfl rfl (WL.load1 (v := .string e.name) one_9 rfl rfl rfl (hS.cell 0 rfl rfl) ?_))
    refine WL.mapGet e.name keyE_str Tryd.underlying72 Tryd.underlying9 zb_4 hM rfl rfl rfl rfl (hS.own _ (List.mem_of_getElem? (i := 2) rfl)) (v := .bool (((had9 pre) e.name).getD false)) (by cases (had9 pre) e.name <;> rfl) ?_
    refine WL.not rfl rfl rfl (WL.nil ?_)
    exact N.cut () ⟨rfl, rfl, rfl, rfl, rfl, rfl, rfl, rfl, trivial⟩ hS
   clear hS
   rintro ⟨⟩ w12 hS
   refine NX.seq ?_
   refine WX.cond rfl (fun hc13 => ?_) (fun hc13 => ?_)
   ·
    refine WX.region (α := Value × List Value) (fun ⟨v2, cs2⟩ => [(3, .pointer (some ⟨b1, 0, none⟩)), (4, .pointer (some ⟨b5, 0, none⟩)), (5, .pointer (some ⟨bx, 0, none⟩)), (10, .map (some b3)), (11, .pointer (some ⟨bx, 0, none⟩)), (12, .string e.name), (13, .bool (((had9 pre) e.name).getD false)), (14, .bool (!(((had9 pre) e.name).getD false)))]) (fun ⟨v2, cs2⟩ u => St w A u (othK A [(bx, .cells #[.string e.name, .int .i64 e.mod, .bool e.fn, .int .i64 e.params, .bool e.here, .bool e.strong] 110 (0, 0)), (b5, .cells #[.map (some b3)] 72 (0, 0)), (b3, .map es ck), (b1, .cells #[v] 25 (0, 0))] [⟨v, 9, 1, (nms9 pre).length, cs⟩]) [(bx, .cells #[.string e.name, .int .i64 e.mod, .bool e.fn, .int .i64 e.params, .bool e.here, .bool e.strong] 110 (0, 0)), (b5, .cells #[.map (some b3)] 72 (0, 0)), (b3, .map es ck), (b1, .cells #[v2] 25 (0, 0))] [⟨v2, 9, 1, (nms9 (pre ++ [e])).length, cs2⟩] ∧ Chunks 1 StrC cs2 (nms9 (pre ++ [e]))) rfl ?_ ?_
    ·
     refine WL.load1 (v := v) one_25 rfl rfl rfl (hS.cell 3 rfl rfl) (WL.fieldAddr fo_110_0 rfl rfl rfl (WL.load1 (v := .string e.name) one_9 rfl rfl rfl (hS.cell 0 rfl rfl) ?_))
     refine WL.buildSlice (ps := [(0, .string e.name)]) (cs := [.string e.name]) Tryd.underlying25 (tyZero_spec zer_9) rfl rfl rfl rfl (by kernel_rfl) hS ?_
     clear hS; intro w15 b14 hb_b14 hS
     refine WL.append (r := ⟨v, 9, 1, (nms9 pre).length, cs⟩) (cs := [.string e.name]) 16 Tryd.underlying25 (tyZero_spec zer_9) byt_9 rfl rfl rfl rfl rfl rfl rfl rfl rfl hS (by have h := nms9_length pre; simp only; unfold maxLen; omega) (by have h := nms9_length pre; simp only; omega) ?_
     clear hS; intro w16 v17 hn_v17 hS
     have hrow : w16.ownsRow w.heap.size 9 1 v17 ((nms9 pre).length + 1) _ := hS.rows _ List.mem_cons_self
     obtain ⟨av17, cv17, rfl, hc1_v17, hc2_v17, hc3_v17⟩ := row_shape hrow
     clear hrow
     refine WL.store (L' := [(bx, .cells #[.string e.name, .int .i64 e.mod, .bool e.fn, .int .i64 e.params, .bool e.here, .bool e.strong] 110 (0, 0)), (b5, .cells #[.map (some b3)] 72 (0, 0)), (b3, .map es ck), (b1, .cells #[.slice av17 ((nms9 pre).length + 1) cv17] 25 (0, 0))]) 3 rfl rfl rfl rfl siz_25 rfl rfl rfl rfl rfl hS ?_
     clear hS; intro w18 hS
     refine WL.nil ?_
     have hin : ¬ e.name ∈ nms9 pre := by simpa [had9_get] using hc13
     have hch2 : Chunks 1 StrC (cs ++ ([.string e.name] : List Value)) (nms9 (pre ++ [e])) := by rw [nms9_snoc, if_neg hin]; exact hch.snoc rfl ⟨rfl, hns e (hpre.subset (by simp))⟩
     have hnl : (nms9 (pre ++ [e])).length = (nms9 pre).length + 1 := by rw [nms9_snoc, if_neg hin]; simp
     exact N.cut (.slice av17 ((nms9 pre).length + 1) cv17, cs ++ ([.string e.name] : List Value)) ⟨rfl, rfl, rfl, rfl, rfl, rfl, rfl, rfl, trivial⟩ ⟨(by rw [hnl]; exact hS), hch2⟩
    clear hS
    rintro ⟨v2, cs2⟩ w19 ⟨hS, hch2⟩
    exact NX.cut (v2, cs2) ⟨rfl, rfl, rfl, trivial⟩ ⟨hS, hch2⟩
   refine WX.skip ?_
   have hin : e.name ∈ nms9 pre := by simpa [had9_get] using hc13
   have hnm : nms9 (pre ++ [e]) = nms9 pre := by rw [nms9_snoc, if_pos hin]
   have hch2 : Chunks 1 StrC cs (nms9 (pre ++ [e])) := by rw [hnm]; exact hch
   exact NX.cut (v, cs) ⟨rfl, rfl, rfl, trivial⟩ ⟨(by rw [hnm]; exact hS), hch2⟩
  clear hS
  rintro ⟨v2, cs2⟩ w20 ⟨hS, hch2⟩
  refine WX.region (α := Array MapEntry × Nat) (fun ⟨es3, ck3⟩ => [(3, .pointer (some ⟨b1, 0, none⟩)), (4, .pointer (some ⟨b5, 0, none⟩)), (5, .pointer (some ⟨bx, 0, none⟩))]) (fun ⟨es3, ck3⟩ u => St w A u (othK A [(bx, .cells #[.string e.name, .int .i64 e.mod, .bool e.fn, .int .i64 e.params, .bool e.here, .bool e.strong] 110 (0, 0)), (b5, .cells #[.map (some b3)] 72 (0, 0)), (b3, .map es ck), (b1, .cells #[v] 25 (0, 0))] [⟨v, 9, 1, (nms9 pre).length, cs⟩]) [(bx, .cells #[.string e.name, .int .i64 e.mod, .bool e.fn, .int .i64 e.params, .bool e.here, .bool e.strong] 110 (0, 0)), (b5, .cells #[.map (some b3)] 72 (0, 0)), (b3, .map es3 ck3), (b1, .cells #[v2] 25 (0, 0))] [⟨v2, 9, 1, (nms9 (pre ++ [e])).length, cs2⟩] ∧ MapG kS kB es3 ck3 (pre.length + 1) (updG (had9 pre) e.name true)) rfl ?_ ?_
  ·
   refine WL.load1 (v := .map (some b3)) one_72 rfl rfl rfl (hS.cell 1 rfl rfl) (WL.fieldAddr fo_110_0 rfl rfl rfl (WL.load1 (v := .string e.name) one_9 rfl rfl rfl (hS.cell 0 rfl rfl) ?_))
   refine WL.mapPut 2 e.name true keyE_str Tryd.underlying72 Tryd.underlying9 hM rfl rfl rfl rfl rfl hS ?_
   clear hS; intro w22 es21 ck21 hM21 hS
   refine WL.nil ?_
   exact N.cut (es21, ck21) ⟨rfl, rfl, rfl, trivial⟩ ⟨hS, hM21⟩
  clear hS
  rintro ⟨es3, ck3⟩ w23 ⟨hS, hM3⟩
  have hM4 : MapG kS kB es3 ck3 (pre ++ [e]).length (had9 (pre ++ [e])) := by rw [← had9_snoc, List.length_append]; exact hM3
  refine NX.blk ?_
  replace hS := hS.dropN 1
  exact NX.cut (es3, ck3, v2, cs2) trivial ⟨⟨hM4, hch2⟩, hS⟩
 rintro D W ⟨es, ck, v, cs⟩ ⟨hM, hch⟩ hS hDw hD
 refine NX.blk (NX.seq (WX.seq ?_))
 refine WX.region (α := Unit) (fun _ => [(2, v), (3, .pointer (some ⟨b1, 0, none⟩)), (4, .pointer (some ⟨b5, 0, none⟩)), (23, v)]) (fun _ u => St w w u ro [(b5, .cells #[.map (some b3)] 72 (0, 0)), (b3, .map es ck), (b1, .cells #[v] 25 (0, 0))] [⟨v, 9, 1, (nms9 (items9 ms)).length, cs⟩] ∧ u.heap[D]? = some (.deferred (some []))) rfl ?_ ?_
 ·
  refine WL.load1 (v := v) one_25 rfl rfl rfl (hS.cell 2 rfl rfl) (WL.assign rfl rfl rfl (WL.nil ?_))
  exact N.cut () ⟨rfl, rfl, rfl, rfl, trivial⟩ ⟨hS, hD⟩
 clear hS
 rintro ⟨⟩ w24 ⟨hS, hD⟩
 refine NX.seq ?_
 refine FinM.ret1 rfl rfl hD ?_
 have hS2 := hS.record (grownBy_putObj' _ D (.deferred none)) (Bd := w8.heap.size) hlow0 (fun q e => by cases e; exact ⟨hDw, _, hD, rfl⟩) (fun b hb => Nat.lt_of_lt_of_le (hro b hb) hlow0) (hTy (items9 ms) (es, ck, v, cs) ⟨hM, hch⟩).cells
 refine ⟨row_slv (hS2.rows _ List.mem_cons_self) hch rfl (fun b hb => ?_), hS2.below⟩
 exact (hS2.keys b (by simp only [keysOf, List.mem_append, List.mem_filterMap]; exact .inr ⟨_, List.mem_cons_self, hb⟩)).imp id (·.1)

end Go.Proofs.YtapjejjmhmdmdaaDoor
