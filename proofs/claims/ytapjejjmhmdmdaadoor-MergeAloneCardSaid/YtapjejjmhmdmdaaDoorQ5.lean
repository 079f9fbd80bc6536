/-
  Contracts of layer 9 (resolve). No condition beyond those that each theorem states.
-/
import Derived.Test.YtapjejjmhmdmdaaDoorN1
import Derived.Test.YtapjejjmhmdmdaaDoorA20
import Derived.Test.YtapjejjmhmdmdaaDoorZ6
namespace Go.Proofs.YtapjejjmhmdmdaaDoor
open Go.RowKit
theorem agg_110 : tyAgg Tryd.prog 110 6 = true := by kernel_rfl
theorem byt_110 : (Tryd.prog.info? 110).map (·.bytes) = some 48 := by kernel_rfl
theorem byt_115 : (Tryd.prog.info? 115).map (·.bytes) = some 24 := by kernel_rfl
theorem isz_115 : (Tryd.prog.info? 115).map (·.size) = some 1 := by kernel_rfl
theorem one_111 : tyOne Tryd.prog 111 = true := by kernel_rfl
theorem one_115 : tyOne Tryd.prog 115 = true := by kernel_rfl
theorem one_141 : tyOne Tryd.prog 141 = true := by kernel_rfl
theorem siz_111 : tySize Tryd.prog 111 1 = true := by kernel_rfl
theorem siz_115 : tySize Tryd.prog 115 1 = true := by kernel_rfl
theorem siz_141 : tySize Tryd.prog 141 1 = true := by kernel_rfl
theorem zb_3 : (Tryd.prog.info? 3).bind (·.zero) = some (.int .i64 0) := by kernel_rfl
theorem zer_111 : tyZero Tryd.prog 111 = some [.slice none 0 0] := by kernel_rfl
theorem zer_115 : tyZero Tryd.prog 115 = some [.slice none 0 0] := by kernel_rfl
theorem zer_141 : tyZero Tryd.prog 141 = some [.map none] := by kernel_rfl
theorem chunks_groups {e : Nat} {ro : Nat → Prop} {w : World} {base : Nat} : ∀ {GR : List Row} {gs : List (List DItem)}, RG e GR gs → (∀ r ∈ GR, w.ownsRow base r.e r.sz r.v r.n r.xs) → (∀ r ∈ GR, ∀ b, r.v.ownBlock = some b → ro b) → Chunks 1 (GroupC ro w) (GR.map (·.v)) gs := by
  intro GR gs hRG hown hro
  refine ⟨by rw [List.length_map, hRG.1]; omega, fun j g hg => ?_⟩
  have hj : j < GR.length := by rw [hRG.1]; exact (List.getElem?_eq_some_iff.1 hg).1
  obtain ⟨h1, h2, h3, h4⟩ := hRG.2 j _ g (List.getElem?_eq_getElem hj) hg
  have hr := hown _ (List.getElem_mem hj)
  rw [h2] at hr
  have e : ((GR.map (·.v)).drop (j * 1)).take 1 = [(GR[j]).v] := by
    rw [Nat.mul_one, ← List.map_drop, List.drop_eq_getElem_cons hj]; rfl
  rw [e]
  exact ⟨_, rfl, row_slv hr h4 h3 (hro _ (List.getElem_mem hj))⟩

theorem groups_ret (ms : List DMod) (vx : Value) {w : World} {ro : Nat → Prop} (hro : ∀ b, ro b → b < w.heap.size) (hx : SlV ro w 2 (ModC ro w) vx ms) (hmx : (items9 ms).length ≤ 1048576) (hit0 : ∀ x ∈ items9 ms, x.name.size ≤ maxLen ∧ inI x.mod ∧ inI x.params) : Ret Tryd.prog 48 #[vx] w fun v w' => SlV (fun b => w.heap.size ≤ b ∧ b < w'.heap.size) w' 1 (GroupC (fun b => w.heap.size ≤ b ∧ b < w'.heap.size) w') v (grp9 (items9 ms)) ∧ Below w.heap.size w w' := by
 refine Ret.enterM (P := Tryd.prog) (n := 41) (args := [vx]) (σ := [(0, vx)]) Tryd.func48 rfl rfl rfl rfl ?_
 have hS := St.start (ro := ro) hro
 refine W.seq (W.region (WL.assign rfl rfl rfl (WL.nil (N.seq (W.seq (W.region ?_))))))
 refine WL.makeMap rfl rfl hS ?_
 clear hS; intro w2 b1 hS
 refine WL.alloc (tyZero_spec zer_141) rfl rfl hS ?_
 clear hS; intro w4 b3 hb_b3 hS
 refine WL.store (L' := [(b3, .cells #[.map (some b1)] 141 (0, 0)), (b1, .map #[] 0)]) 0 rfl rfl rfl rfl siz_141 rfl rfl rfl rfl rfl hS ?_
 clear hS; intro w5 hS
 refine WL.nil (N.seq (W.seq (W.region ?_)))
 refine WL.alloc (tyZero_spec zer_111) rfl rfl hS ?_
 clear hS; intro w7 b6 hb_b6 hS
 refine WL.nil (N.seq (W.seq (W.seq (W.region (WL.move rfl rfl rfl ?_)))))
 refine WL.callF (vs := [vx]) Tryd.func47 (by kernel_rfl) rfl rfl rfl (items_ret ms _ hro hx (w0 := w) (w := w7) hS.below) ?_
 rintro v w8 ⟨bl, rfl, hit, hbl⟩
 replace hS := hS.grow hbl
 refine WL.nil (N.seq (W.block ?_))
 have hbm : b1 < w8.heap.size := (Array.getElem?_eq_some_iff.1 (hS.own _ (List.mem_of_getElem? (i := 2) rfl))).1
 replace hS := hS.row0 115 1
 refine W.ofX ?_
 have hlow0 := hS.below.size
 have hTy : ∀ (pre : List DItem) (x : Array MapEntry × Nat × Value × List Row), (fun (pre : List DItem) ⟨es, ck, V, GR⟩ => MapG kS kI es ck pre.length (at9 pre) ∧ RG 110 GR (grp9 pre)) pre x → TyOk 32 w8.heap.size ((fun (pre : List DItem) ⟨es, ck, V, GR⟩ => [(b6, .cells #[V] 111 (0, 0)), (b3, .cells #[.map (some b1)] 141 (0, 0)), (b1, .map es ck)]) pre x) ((fun (pre : List DItem) ⟨es, ck, V, GR⟩ => (⟨V, 115, 1, (nms9 pre).length, (GR.map (·.v))⟩ :: GR)) pre x) := fun pre ⟨es, ck, V, GR⟩ hF => ⟨by simp only [List.mem_cons, List.not_mem_nil, or_false]; rintro p (rfl | rfl | rfl) <;> first | exact .inl ⟨_, _, _, rfl, by decide⟩ | exact .inr ⟨hbm, rfl⟩, fun r hr => (List.mem_cons.1 hr).elim (fun e => by subst e; simp) (fun hr => by rw [hF.2.type r hr]; decide)⟩
 refine WX.range (γ := Array MapEntry × Nat × Value × List Row) (xs := items9 ms) rfl Tryd.func80 (by kernel_rfl) rfl hit (fun pre ⟨es, ck, V, GR⟩ => [(b6, .cells #[V] 111 (0, 0)), (b3, .cells #[.map (some b1)] 141 (0, 0)), (b1, .map es ck)]) (fun pre ⟨es, ck, V, GR⟩ => (⟨V, 115, 1, (nms9 pre).length, (GR.map (·.v))⟩ :: GR)) (fun pre ⟨es, ck, V, GR⟩ => MapG kS kI es ck pre.length (at9 pre) ∧ RG 110 GR (grp9 pre)) (#[], 0, .slice none 0 0, []) ⟨MapG.empty, RG.nil _⟩ hS hTy ?_ ?_
 ·
  rintro l pre e ⟨es, ck, V, GR⟩ A ⟨hM, hRG⟩ hpre hS
  have hlen : pre.length + 1 ≤ (items9 ms).length := by have h := hpre.length_le; simpa using h
  have hlow := hS.below.size
  refine ⟨Nat, fun bx => [(3, .pointer (some ⟨b3, 0, none⟩)), (4, .pointer (some ⟨b6, 0, none⟩)), (5, .pointer (some ⟨bx, 0, none⟩))], fun bx => [(bx, .cells #[.string e.name, .int .i64 e.mod, .bool e.fn, .int .i64 e.params, .bool e.here, .bool e.strong] 110 (0, 0)), (b6, .cells #[V] 111 (0, 0)), (b3, .cells #[.map (some b1)] 141 (0, 0)), (b1, .map es ck)], fun bx => (⟨V, 115, 1, (nms9 pre).length, (GR.map (·.v))⟩ :: GR), fun bx => ⟨by simp only [List.mem_cons, List.not_mem_nil, or_false]; rintro p (rfl | rfl | rfl | rfl) <;> first | exact .inl ⟨_, _, _, rfl, by decide⟩ | exact .inr ⟨hbm, rfl⟩, fun r hr => (List.mem_cons.1 hr).elim (fun e => by subst e; simp) (fun hr => by rw [(⟨hM, hRG⟩ : _ ∧ _).2.type r hr]; decide)⟩, ?_, ?_⟩
  ·
   refine WX.region (α := Nat) (fun bx => [(3, .pointer (some ⟨b3, 0, none⟩)), (4, .pointer (some ⟨b6, 0, none⟩)), (5, .pointer (some ⟨bx, 0, none⟩))]) (fun bx u => St w A u (othK A [(b6, .cells #[V] 111 (0, 0)), (b3, .cells #[.map (some b1)] 141 (0, 0)), (b1, .map es ck)] (⟨V, 115, 1, (nms9 pre).length, (GR.map (·.v))⟩ :: GR)) [(bx, .cells #[.string e.name, .int .i64 e.mod, .bool e.fn, .int .i64 e.params, .bool e.here, .bool e.strong] 110 (0, 0)), (b6, .cells #[V] 111 (0, 0)), (b3, .cells #[.map (some b1)] 141 (0, 0)), (b1, .map es ck)] (⟨V, 115, 1, (nms9 pre).length, (GR.map (·.v))⟩ :: GR)) rfl ?_ ?_
   ·
    refine WL.alloc (tyZero_spec zer_110) rfl rfl hS ?_
    clear hS; intro w10 b9 hb_b9 hS
    refine WL.store (L' := [(b9, .cells #[.string e.name, .int .i64 e.mod, .bool e.fn, .int .i64 e.params, .bool e.here, .bool e.strong] 110 (0, 0)), (b6, .cells #[V] 111 (0, 0)), (b3, .cells #[.map (some b1)] 141 (0, 0)), (b1, .map es ck)]) 0 rfl rfl rfl rfl siz_110 rfl rfl rfl rfl rfl hS ?_
    clear hS; intro w11 hS
    refine WL.nil ?_
    exact N.cut b9 ⟨rfl, rfl, rfl, trivial⟩ hS
   intro bx wz hS
   exact NX.cut bx ⟨rfl, rfl, rfl, trivial⟩ hS
  clear hS hlow; intro bx A hS
  have hlow := hS.below.size
  have hrow : A.ownsRow w.heap.size 115 1 V (nms9 pre).length _ := hS.rows _ List.mem_cons_self
  obtain ⟨adV, capV, rfl, hV1, hV2, hV3⟩ := row_shape hrow
  clear hrow
  refine WX.block (WX.seq ?_)
  refine WX.region (α := Unit) (fun _ => [(3, .pointer (some ⟨b3, 0, none⟩)), (4, .pointer (some ⟨b6, 0, none⟩)), (5, .pointer (some ⟨bx, 0, none⟩)), (6, .int .i64 (((at9 pre) e.name).getD 0)), (7, .bool (((at9 pre) e.name).isSome)), (12, .tuple #[.int .i64 (((at9 pre) e.name).getD 0), .bool (((at9 pre) e.name).isSome)]), (13, .map (some b1)), (14, .pointer (some ⟨bx, 0, none⟩)), (15, .string e.name), (16, .tuple #[.int .i64 (((at9 pre) e.name).getD 0), .bool (((at9 pre) e.name).isSome)]), (17, .int .i64 (((at9 pre) e.name).getD 0)), (18, .bool (((at9 pre) e.name).isSome))]) (fun _ u => St w A u (othK A [(bx, .cells #[.string e.name, .int .i64 e.mod, .bool e.fn, .int .i64 e.params, .bool e.here, .bool e.strong] 110 (0, 0)), (b6, .cells #[.slice adV ((nms9 pre).length) capV] 111 (0, 0)), (b3, .cells #[.map (some b1)] 141 (0, 0)), (b1, .map es ck)] (⟨.slice adV ((nms9 pre).length) capV, 115, 1, (nms9 pre).length, (GR.map (·.v))⟩ :: GR)) [(bx, .cells #[.string e.name, .int .i64 e.mod, .bool e.fn, .int .i64 e.params, .bool e.here, .bool e.strong] 110 (0, 0)), (b6, .cells #[.slice adV ((nms9 pre).length) capV] 111 (0, 0)), (b3, .cells #[.map (some b1)] 141 (0, 0)), (b1, .map es ck)] (⟨.slice adV ((nms9 pre).length) capV, 115, 1, (nms9 pre).length, (GR.map (·.v))⟩ :: GR)) rfl ?_ ?_
  ·
   refine WL.load1 (v := .map (some b1)) one_141 rfl rfl rfl (hS.cell 2 rfl rfl) (WL.fieldAddr fo_110_0 rfl rfl rfl (WL.load1 (v := .string e.name) one_9 rfl rfl rfl (hS.cell 0 rfl rfl) ?_))
   refine WL.mapGetOk (c := ((at9 pre) e.name).isSome) e.name keyE_str Tryd.underlying141 Tryd.underlying9 zb_3 hM rfl rfl rfl rfl (hS.own _ (List.mem_of_getElem? (i := 3) rfl)) (v := .int .i64 (((at9 pre) e.name).getD 0)) (by cases (at9 pre) e.name <;> rfl) rfl ?_
   refine WL.move rfl rfl rfl (WL.extract (v := .int .i64 (((at9 pre) e.name).getD 0)) rfl rfl rfl rfl (WL.extract (v := .bool (((at9 pre) e.name).isSome)) rfl rfl rfl rfl (WL.assign rfl rfl rfl (WL.assign rfl rfl rfl (WL.nil ?_)))))
   exact N.cut () ⟨rfl, rfl, rfl, rfl, rfl, rfl, rfl, rfl, rfl, rfl, rfl, rfl, trivial⟩ hS
  clear hS
  rintro ⟨⟩ w12 hS
  refine NX.seq ?_
  refine WX.cut (α := Array MapEntry × Nat × Value × List Row × Nat × List (List DItem) × List DItem) (fun ⟨es2, ck2, V2, GR2, i, gs1, gi⟩ => [(3, .pointer (some ⟨b3, 0, none⟩)), (4, .pointer (some ⟨b6, 0, none⟩)), (5, .pointer (some ⟨bx, 0, none⟩)), (6, .int .i64 (i : Int)), (7, .bool (((at9 pre) e.name).isSome)), (12, .tuple #[.int .i64 (((at9 pre) e.name).getD 0), .bool (((at9 pre) e.name).isSome)]), (13, .map (some b1)), (14, .pointer (some ⟨bx, 0, none⟩)), (15, .string e.name), (16, .tuple #[.int .i64 (((at9 pre) e.name).getD 0), .bool (((at9 pre) e.name).isSome)]), (17, .int .i64 (((at9 pre) e.name).getD 0)), (18, .bool (((at9 pre) e.name).isSome))]) (fun ⟨es2, ck2, V2, GR2, i, gs1, gi⟩ u => St w A u (othK A [(bx, .cells #[.string e.name, .int .i64 e.mod, .bool e.fn, .int .i64 e.params, .bool e.here, .bool e.strong] 110 (0, 0)), (b6, .cells #[.slice adV ((nms9 pre).length) capV] 111 (0, 0)), (b3, .cells #[.map (some b1)] 141 (0, 0)), (b1, .map es ck)] (⟨.slice adV ((nms9 pre).length) capV, 115, 1, (nms9 pre).length, (GR.map (·.v))⟩ :: GR)) [(bx, .cells #[.string e.name, .int .i64 e.mod, .bool e.fn, .int .i64 e.params, .bool e.here, .bool e.strong] 110 (0, 0)), (b6, .cells #[V2] 111 (0, 0)), (b3, .cells #[.map (some b1)] 141 (0, 0)), (b1, .map es2 ck2)] (⟨V2, 115, 1, gs1.length, (GR2.map (·.v))⟩ :: GR2) ∧ MapG kS kI es2 ck2 (pre.length + 1) (at9 (pre ++ [e])) ∧ RG 110 GR2 gs1 ∧ gs1[i]? = some gi ∧ grp9 (pre ++ [e]) = gs1.set i (gi ++ [e]) ∧ gi.length ≤ pre.length) ?_ ?_
  ·
   refine WX.seq ?_
   refine WX.region (α := Unit) (fun _ => [(3, .pointer (some ⟨b3, 0, none⟩)), (4, .pointer (some ⟨b6, 0, none⟩)), (5, .pointer (some ⟨bx, 0, none⟩)), (6, .int .i64 (((at9 pre) e.name).getD 0)), (7, .bool (((at9 pre) e.name).isSome)), (12, .tuple #[.int .i64 (((at9 pre) e.name).getD 0), .bool (((at9 pre) e.name).isSome)]), (13, .map (some b1)), (14, .pointer (some ⟨bx, 0, none⟩)), (15, .string e.name), (16, .tuple #[.int .i64 (((at9 pre) e.name).getD 0), .bool (((at9 pre) e.name).isSome)]), (17, .int .i64 (((at9 pre) e.name).getD 0)), (18, .bool (((at9 pre) e.name).isSome)), (19, .bool (((at9 pre) e.name).isSome)), (20, .bool (!(((at9 pre) e.name).isSome)))]) (fun _ u => St w A u (othK A [(bx, .cells #[.string e.name, .int .i64 e.mod, .bool e.fn, .int .i64 e.params, .bool e.here, .bool e.strong] 110 (0, 0)), (b6, .cells #[.slice adV ((nms9 pre).length) capV] 111 (0, 0)), (b3, .cells #[.map (some b1)] 141 (0, 0)), (b1, .map es ck)] (⟨.slice adV ((nms9 pre).length) capV, 115, 1, (nms9 pre).length, (GR.map (·.v))⟩ :: GR)) [(bx, .cells #[.string e.name, .int .i64 e.mod, .bool e.fn, .int .i64 e.params, .bool e.here, .bool e.strong] 110 (0, 0)), (b6, .cells #[.slice adV ((nms9 pre).length) capV] 111 (0, 0)), (b3, .cells #[.map (some b1)] 141 (0, 0)), (b1, .map es ck)] (⟨.slice adV ((nms9 pre).length) capV, 115, 1, (nms9 pre).length, (GR.map (·.v))⟩ :: GR)) rfl ?_ ?_
   ·
    refine WL.move rfl rfl rfl (WL.not rfl rfl rfl (WL.nil ?_))
    exact N.cut () ⟨rfl, rfl, rfl, rfl, rfl, rfl, rfl, rfl, rfl, rfl, rfl, rfl, rfl, rfl, trivial⟩ hS
   clear hS
   rintro ⟨⟩ w13 hS
   refine NX.seq ?_
   refine WX.cond rfl (fun hc14 => ?_) (fun hc14 => ?_)
   ·
    refine WX.seq ?_
    refine WX.region (α := Unit) (fun _ => [(3, .pointer (some ⟨b3, 0, none⟩)), (4, .pointer (some ⟨b6, 0, none⟩)), (5, .pointer (some ⟨bx, 0, none⟩)), (6, .int .i64 ((nms9 pre).length : Int)), (7, .bool (((at9 pre) e.name).isSome)), (12, .tuple #[.int .i64 (((at9 pre) e.name).getD 0), .bool (((at9 pre) e.name).isSome)]), (13, .map (some b1)), (14, .pointer (some ⟨bx, 0, none⟩)), (15, .string e.name), (16, .tuple #[.int .i64 (((at9 pre) e.name).getD 0), .bool (((at9 pre) e.name).isSome)]), (17, .int .i64 (((at9 pre) e.name).getD 0)), (18, .bool (((at9 pre) e.name).isSome)), (19, .bool (((at9 pre) e.name).isSome)), (20, .bool (!(((at9 pre) e.name).isSome))), (21, .slice adV ((nms9 pre).length) capV), (22, .int .i64 ((nms9 pre).length : Int))]) (fun _ u => St w A u (othK A [(bx, .cells #[.string e.name, .int .i64 e.mod, .bool e.fn, .int .i64 e.params, .bool e.here, .bool e.strong] 110 (0, 0)), (b6, .cells #[.slice adV ((nms9 pre).length) capV] 111 (0, 0)), (b3, .cells #[.map (some b1)] 141 (0, 0)), (b1, .map es ck)] (⟨.slice adV ((nms9 pre).length) capV, 115, 1, (nms9 pre).length, (GR.map (·.v))⟩ :: GR)) [(bx, .cells #[.string e.name, .int .i64 e.mod, .bool e.fn, .int .i64 e.params, .bool e.here, .bool e.strong] 110 (0, 0)), (b6, .cells #[.slice adV ((nms9 pre).length) capV] 111 (0, 0)), (b3, .cells #[.map (some b1)] 141 (0, 0)), (b1, .map es ck)] (⟨.slice adV ((nms9 pre).length) capV, 115, 1, (nms9 pre).length, (GR.map (·.v))⟩ :: GR)) rfl ?_ ?_
    ·
     refine WL.load1 (v := .slice adV ((nms9 pre).length) capV) one_111 rfl rfl rfl (hS.cell 1 rfl rfl) (WL.lenSlice Tryd.underlying111 rfl rfl rfl (WL.assign rfl rfl rfl (WL.nil ?_)))
     exact N.cut () ⟨rfl, rfl, rfl, rfl, rfl, rfl, rfl, rfl, rfl, rfl, rfl, rfl, rfl, rfl, rfl, rfl, trivial⟩ hS
    clear hS
    rintro ⟨⟩ w15 hS
    refine NX.seq (WX.seq ?_)
    refine WX.region (α := Array MapEntry × Nat) (fun ⟨es3, ck3⟩ => [(3, .pointer (some ⟨b3, 0, none⟩)), (4, .pointer (some ⟨b6, 0, none⟩)), (5, .pointer (some ⟨bx, 0, none⟩)), (6, .int .i64 ((nms9 pre).length : Int)), (7, .bool (((at9 pre) e.name).isSome)), (12, .tuple #[.int .i64 (((at9 pre) e.name).getD 0), .bool (((at9 pre) e.name).isSome)]), (13, .map (some b1)), (14, .pointer (some ⟨bx, 0, none⟩)), (15, .string e.name), (16, .tuple #[.int .i64 (((at9 pre) e.name).getD 0), .bool (((at9 pre) e.name).isSome)]), (17, .int .i64 (((at9 pre) e.name).getD 0)), (18, .bool (((at9 pre) e.name).isSome)), (19, .bool (((at9 pre) e.name).isSome)), (20, .bool (!(((at9 pre) e.name).isSome))), (21, .slice adV ((nms9 pre).length) capV), (22, .int .i64 ((nms9 pre).length : Int))]) (fun ⟨es3, ck3⟩ u => St w A u (othK A [(bx, .cells #[.string e.name, .int .i64 e.mod, .bool e.fn, .int .i64 e.params, .bool e.here, .bool e.strong] 110 (0, 0)), (b6, .cells #[.slice adV ((nms9 pre).length) capV] 111 (0, 0)), (b3, .cells #[.map (some b1)] 141 (0, 0)), (b1, .map es ck)] (⟨.slice adV ((nms9 pre).length) capV, 115, 1, (nms9 pre).length, (GR.map (·.v))⟩ :: GR)) [(bx, .cells #[.string e.name, .int .i64 e.mod, .bool e.fn, .int .i64 e.params, .bool e.here, .bool e.strong] 110 (0, 0)), (b6, .cells #[.slice adV ((nms9 pre).length) capV] 111 (0, 0)), (b3, .cells #[.map (some b1)] 141 (0, 0)), (b1, .map es3 ck3)] (⟨.slice adV ((nms9 pre).length) capV, 115, 1, (nms9 pre).length, (GR.map (·.v))⟩ :: GR) ∧ MapG kS kI es3 ck3 (pre.length + 1) (updG (at9 pre) e.name ((nms9 pre).length : Int))) rfl ?_ ?_
    ·
     refine WL.load1 (v := .map (some b1)) one_141 rfl rfl rfl (hS.cell 2 rfl rfl) (WL.fieldAddr fo_110_0 rfl rfl rfl (WL.load1 (v := .string e.name) one_9 rfl rfl rfl (hS.cell 0 rfl rfl) (WL.move rfl rfl rfl ?_)))
     refine WL.mapPut 3 e.name ((nms9 pre).length : Int) keyE_str Tryd.underlying141 Tryd.underlying9 hM rfl rfl rfl rfl rfl hS ?_
     clear hS; intro w17 es16 ck16 hM16 hS
     refine WL.nil ?_
     exact N.cut (es16, ck16) ⟨rfl, rfl, rfl, rfl, rfl, rfl, rfl, rfl, rfl, rfl, rfl, rfl, rfl, rfl, rfl, rfl, trivial⟩ ⟨hS, hM16⟩
    clear hS
    rintro ⟨es3, ck3⟩ w18 ⟨hS, hM3⟩
    refine NX.seq ?_
    refine WX.region (α := Value) (fun (V3 : Value) => [(3, .pointer (some ⟨b3, 0, none⟩)), (4, .pointer (some ⟨b6, 0, none⟩)), (5, .pointer (some ⟨bx, 0, none⟩)), (6, .int .i64 ((nms9 pre).length : Int)), (7, .bool (((at9 pre) e.name).isSome)), (12, .tuple #[.int .i64 (((at9 pre) e.name).getD 0), .bool (((at9 pre) e.name).isSome)]), (13, .map (some b1)), (14, .pointer (some ⟨bx, 0, none⟩)), (15, .string e.name), (16, .tuple #[.int .i64 (((at9 pre) e.name).getD 0), .bool (((at9 pre) e.name).isSome)]), (17, .int .i64 (((at9 pre) e.name).getD 0)), (18, .bool (((at9 pre) e.name).isSome)), (19, .bool (((at9 pre) e.name).isSome)), (20, .bool (!(((at9 pre) e.name).isSome))), (21, .slice adV ((nms9 pre).length) capV), (22, .int .i64 ((nms9 pre).length : Int))]) (fun (V3 : Value) u => St w A u (othK A [(bx, .cells #[.string e.name, .int .i64 e.mod, .bool e.fn, .int .i64 e.params, .bool e.here, .bool e.strong] 110 (0, 0)), (b6, .cells #[.slice adV ((nms9 pre).length) capV] 111 (0, 0)), (b3, .cells #[.map (some b1)] 141 (0, 0)), (b1, .map es ck)] (⟨.slice adV ((nms9 pre).length) capV, 115, 1, (nms9 pre).length, (GR.map (·.v))⟩ :: GR)) [(bx, .cells #[.string e.name, .int .i64 e.mod, .bool e.fn, .int .i64 e.params, .bool e.here, .bool e.strong] 110 (0, 0)), (b6, .cells #[V3] 111 (0, 0)), (b3, .cells #[.map (some b1)] 141 (0, 0)), (b1, .map es3 ck3)] (⟨V3, 115, 1, ((nms9 pre).length + 1), (GR.map (·.v) ++ [.slice none 0 0])⟩ :: GR)) rfl ?_ ?_
    ·
     refine WL.load1 (v := .slice adV ((nms9 pre).length) capV) one_111 rfl rfl rfl (hS.cell 1 rfl rfl) ?_
     refine WL.buildSlice (ps := [(0, .slice none 0 0)]) (cs := [.slice none 0 0]) Tryd.underlying111 (tyZero_spec zer_115) rfl rfl rfl rfl (by kernel_rfl) hS ?_
     clear hS; intro w20 b19 hb_b19 hS
     refine WL.append (r := ⟨.slice adV ((nms9 pre).length) capV, 115, 1, (nms9 pre).length, (GR.map (·.v))⟩) (cs := [.slice none 0 0]) 24 Tryd.underlying111 (tyZero_spec zer_115) byt_115 rfl rfl rfl rfl rfl rfl rfl rfl rfl hS (by have h := nms9_length pre; simp only; unfold maxLen; omega) (by have h := nms9_length pre; simp only; omega) ?_
     clear hS; intro w21 v22 hn_v22 hS
     have hrow : w21.ownsRow w.heap.size 115 1 v22 ((nms9 pre).length + 1) _ := hS.rows _ List.mem_cons_self
     obtain ⟨av22, cv22, rfl, hc1_v22, hc2_v22, hc3_v22⟩ := row_shape hrow
     clear hrow
     refine WL.store (L' := [(bx, .cells #[.string e.name, .int .i64 e.mod, .bool e.fn, .int .i64 e.params, .bool e.here, .bool e.strong] 110 (0, 0)), (b6, .cells #[.slice av22 ((nms9 pre).length + 1) cv22] 111 (0, 0)), (b3, .cells #[.map (some b1)] 141 (0, 0)), (b1, .map es3 ck3)]) 1 rfl rfl rfl rfl siz_111 rfl rfl rfl rfl rfl hS ?_
     clear hS; intro w23 hS
     refine WL.nil ?_
     exact N.cut (.slice av22 ((nms9 pre).length + 1) cv22) ⟨rfl, rfl, rfl, rfl, rfl, rfl, rfl, rfl, rfl, rfl, rfl, rfl, rfl, rfl, rfl, rfl, trivial⟩ hS
    clear hS
    rintro V3 w24 hS
    have hin : ¬ e.name ∈ nms9 pre := by simpa [at9_isSome] using hc14
    obtain ⟨ha, hg2, hn2, hat⟩ := grp9_new hin
    replace hS := hS.row0 110 6
    replace hS := hS.permR ((List.Perm.swap _ _ GR).trans ((List.perm_append_singleton _ GR).symm.cons _))
    have hln : (grp9 pre ++ [[]]).length = (nms9 pre).length + 1 := by simp [grp9_length]
    exact NX.cut (es3, ck3, V3, (GR ++ [⟨.slice none 0 0, 110, 6, 0, []⟩]), (nms9 pre).length, (grp9 pre ++ [[]]), []) ⟨rfl, rfl, rfl, rfl, rfl, rfl, rfl, rfl, rfl, rfl, rfl, rfl, trivial⟩ ⟨(by rw [hln, List.map_append]; exact hS), (by rw [← hat]; exact hM3), hRG.snoc, (by rw [← grp9_length, List.getElem?_append_right (Nat.le_refl _), Nat.sub_self]; rfl), hg2, (Nat.zero_le _)⟩
   refine WX.skip ?_
   have hin : e.name ∈ nms9 pre := by simpa [at9_isSome] using hc14
   obtain ⟨i, gi, ha, hi, hg, hg2, hn2, hat⟩ := grp9_old hin
   have hgl : gi.length ≤ pre.length := grp9_le hg
   exact NX.cut (es, ck, .slice adV ((nms9 pre).length) capV, GR, i, (grp9 pre), gi) ⟨rfl, rfl, rfl, by rw [ha]; rfl, rfl, rfl, rfl, rfl, rfl, rfl, rfl, rfl, trivial⟩ ⟨(by rw [grp9_length]; exact hS), (by rw [hat]; exact hM.mono (by omega)), hRG, hg, hg2, hgl⟩
  clear hS
  rintro ⟨es2, ck2, V2, GR2, i, gs1, gi⟩ w25 ⟨hS, hM2, hRG2, hgi, hgs, hgl⟩
  have hrow : w25.ownsRow w.heap.size 115 1 V2 gs1.length _ := hS.rows _ List.mem_cons_self
  have hilt : i < gs1.length := (List.getElem?_eq_some_iff.1 hgi).1
  obtain ⟨adV2, capV2, hV2e, hW1, hW2, hW3⟩ := row_shape hrow
  subst hV2e
  have hes := hit0 e (hpre.subset (by simp))
  obtain ⟨gO, rfl⟩ := row_some hrow (by omega)
  clear hrow
  obtain ⟨ri, hri⟩ : ∃ r, GR2[i]? = some r := ⟨_, List.getElem?_eq_getElem (by rw [hRG2.1]; exact hilt)⟩
  have hil2 : i < GR2.length := (List.getElem?_eq_some_iff.1 hri).1
  obtain ⟨hre, hrs, hrn, hrch⟩ := hRG2.2 i ri gi hri hgi
  refine WX.drawA (α := List Row) (fun u => u.cell? ⟨b6, 0, none⟩ = some (.slice (some ⟨gO, 0, none⟩) gs1.length capV2) ∧ CellsAt u bx 0 [.string e.name, .int .i64 e.mod, .bool e.fn, .int .i64 e.params, .bool e.here, .bool e.strong]) (fun GR3 => [(3, .pointer (some ⟨b3, 0, none⟩)), (4, .pointer (some ⟨b6, 0, none⟩)), (5, .pointer (some ⟨bx, 0, none⟩)), (6, .int .i64 (i : Int))]) (fun GR3 u => St w A u (othK A [(bx, .cells #[.string e.name, .int .i64 e.mod, .bool e.fn, .int .i64 e.params, .bool e.here, .bool e.strong] 110 (0, 0)), (b6, .cells #[.slice adV ((nms9 pre).length) capV] 111 (0, 0)), (b3, .cells #[.map (some b1)] 141 (0, 0)), (b1, .map es ck)] (⟨.slice adV ((nms9 pre).length) capV, 115, 1, (nms9 pre).length, (GR.map (·.v))⟩ :: GR)) [(bx, .cells #[.string e.name, .int .i64 e.mod, .bool e.fn, .int .i64 e.params, .bool e.here, .bool e.strong] 110 (0, 0)), (b6, .cells #[.slice (some ⟨gO, 0, none⟩) gs1.length capV2] 111 (0, 0)), (b3, .cells #[.map (some b1)] 141 (0, 0)), (b1, .map es2 ck2)] (⟨.slice (some ⟨gO, 0, none⟩) gs1.length capV2, 115, 1, gs1.length, (GR3.map (·.v))⟩ :: GR3) ∧ RG 110 GR3 (gs1.set i (gi ++ [e]))) (by kernel_rfl) rfl (fun wd hbd => ?_) ?_
  ·
   replace hS := hS.grow hbd
   clear hbd
   have hSd : (fun u => u.cell? ⟨b6, 0, none⟩ = some (.slice (some ⟨gO, 0, none⟩) gs1.length capV2) ∧ CellsAt u bx 0 [.string e.name, .int .i64 e.mod, .bool e.fn, .int .i64 e.params, .bool e.here, .bool e.strong]) wd := ⟨hS.cell 1 rfl rfl, hS.cells 0 (m := 6) rfl rfl⟩
   refine WA.take 0 (v := .slice (some ⟨gO, 0, none⟩) gs1.length capV2) rfl rfl (by kernel_rfl) (by kernel_rfl) (by kernel_rfl) (fun _ _ _ h => h) rfl (exec_load1 one_111 rfl (fun _ h => h.1)) hSd ?_
   refine WA.take 1 (v := .int .i64 (i : Int)) rfl rfl (by kernel_rfl) (by kernel_rfl) (by kernel_rfl) (fun _ _ _ h => h) rfl (exec_move rfl) hSd ?_
   refine WA.take 2 (v := .slice (some ⟨gO, 0, none⟩) gs1.length capV2) rfl rfl (by kernel_rfl) (by kernel_rfl) (by kernel_rfl) (fun _ _ _ h => h) rfl (exec_load1 one_111 rfl (fun _ h => h.1)) hSd ?_
   refine WA.take 3 (v := .int .i64 (i : Int)) rfl rfl (by kernel_rfl) (by kernel_rfl) (by kernel_rfl) (fun _ _ _ h => h) rfl (exec_move rfl) hSd ?_
   refine WA.take 4 (v := .pointer (some ⟨gO, 0 + i * 1, none⟩)) rfl rfl (by kernel_rfl) (by kernel_rfl) (by kernel_rfl) (fun _ _ _ h => h) rfl (exec_indexAddr Tryd.underlying111 isz_115 rfl rfl hilt) hSd ?_
   refine WA.take 6 (v := .agg #[.string e.name, .int .i64 e.mod, .bool e.fn, .int .i64 e.params, .bool e.here, .bool e.strong]) rfl rfl (by kernel_rfl) (by kernel_rfl) (by kernel_rfl) (fun _ _ _ h => h) rfl (exec_loadN agg_110 rfl rfl (fun _ h => h.2)) hSd ?_
   refine WA.two 5 7 (fun _ : Unit => [(3, .pointer (some ⟨b3, 0, none⟩)), (4, .pointer (some ⟨b6, 0, none⟩)), (5, .pointer (some ⟨bx, 0, none⟩)), (6, .int .i64 (i : Int)), (30, .slice (some ⟨gO, 0, none⟩) gs1.length capV2), (31, .int .i64 (i : Int)), (34, .pointer (some ⟨gO, 0 + i * 1, none⟩)), (35, ri.v), (36, .agg #[.string e.name, .int .i64 e.mod, .bool e.fn, .int .i64 e.params, .bool e.here, .bool e.strong])]) (fun _ u => St w A u (othK A [(bx, .cells #[.string e.name, .int .i64 e.mod, .bool e.fn, .int .i64 e.params, .bool e.here, .bool e.strong] 110 (0, 0)), (b6, .cells #[.slice adV ((nms9 pre).length) capV] 111 (0, 0)), (b3, .cells #[.map (some b1)] 141 (0, 0)), (b1, .map es ck)] (⟨.slice adV ((nms9 pre).length) capV, 115, 1, (nms9 pre).length, (GR.map (·.v))⟩ :: GR)) [(bx, .cells #[.string e.name, .int .i64 e.mod, .bool e.fn, .int .i64 e.params, .bool e.here, .bool e.strong] 110 (0, 0)), (b6, .cells #[.slice (some ⟨gO, 0, none⟩) gs1.length capV2] 111 (0, 0)), (b3, .cells #[.map (some b1)] 141 (0, 0)), (b1, .map es2 ck2)] (⟨.slice (some ⟨gO, 0, none⟩) gs1.length capV2, 115, 1, gs1.length, (GR2.map (·.v))⟩ :: GR2)) (fun bk : Nat => [(3, .pointer (some ⟨b3, 0, none⟩)), (4, .pointer (some ⟨b6, 0, none⟩)), (5, .pointer (some ⟨bx, 0, none⟩)), (6, .int .i64 (i : Int)), (30, .slice (some ⟨gO, 0, none⟩) gs1.length capV2), (31, .int .i64 (i : Int)), (34, .pointer (some ⟨gO, 0 + i * 1, none⟩)), (36, .agg #[.string e.name, .int .i64 e.mod, .bool e.fn, .int .i64 e.params, .bool e.here, .bool e.strong]), (37, .slice (some ⟨bk, 0, none⟩) 1 1)]) (fun bk u => St w A u (othK A [(bx, .cells #[.string e.name, .int .i64 e.mod, .bool e.fn, .int .i64 e.params, .bool e.here, .bool e.strong] 110 (0, 0)), (b6, .cells #[.slice adV ((nms9 pre).length) capV] 111 (0, 0)), (b3, .cells #[.map (some b1)] 141 (0, 0)), (b1, .map es ck)] (⟨.slice adV ((nms9 pre).length) capV, 115, 1, (nms9 pre).length, (GR.map (·.v))⟩ :: GR)) [(bk, .cells #[.string e.name, .int .i64 e.mod, .bool e.fn, .int .i64 e.params, .bool e.here, .bool e.strong] 110 (0, 0)), (bx, .cells #[.string e.name, .int .i64 e.mod, .bool e.fn, .int .i64 e.params, .bool e.here, .bool e.strong] 110 (0, 0)), (b6, .cells #[.slice (some ⟨gO, 0, none⟩) gs1.length capV2] 111 (0, 0)), (b3, .cells #[.map (some b1)] 141 (0, 0)), (b1, .map es2 ck2)] (⟨.slice (some ⟨gO, 0, none⟩) gs1.length capV2, 115, 1, gs1.length, (GR2.map (·.v))⟩ :: GR2)) (by kernel_rfl) rfl rfl ?_ ?_ ?_ ?_
   ·
    refine WL.load1 (v := ri.v) one_115 rfl rfl rfl (row_cell (hS.rows _ List.mem_cons_self) (by rw [List.getElem?_map, hri]; rfl)) ?_
    exact WL.nil (N.cut () ⟨rfl, rfl, rfl, rfl, rfl, rfl, rfl, rfl, rfl, trivial⟩ hS)
   ·
    rintro ⟨⟩ w5 hS
    refine ⟨⟨hS.cell 1 rfl rfl, hS.cells 0 (m := 6) rfl rfl⟩, ?_⟩
    refine WA.one 7 (fun bk : Nat => [(3, .pointer (some ⟨b3, 0, none⟩)), (4, .pointer (some ⟨b6, 0, none⟩)), (5, .pointer (some ⟨bx, 0, none⟩)), (6, .int .i64 (i : Int)), (30, .slice (some ⟨gO, 0, none⟩) gs1.length capV2), (31, .int .i64 (i : Int)), (34, .pointer (some ⟨gO, 0 + i * 1, none⟩)), (35, ri.v), (36, .agg #[.string e.name, .int .i64 e.mod, .bool e.fn, .int .i64 e.params, .bool e.here, .bool e.strong]), (37, .slice (some ⟨bk, 0, none⟩) 1 1)]) (fun bk u => St w A u (othK A [(bx, .cells #[.string e.name, .int .i64 e.mod, .bool e.fn, .int .i64 e.params, .bool e.here, .bool e.strong] 110 (0, 0)), (b6, .cells #[.slice adV ((nms9 pre).length) capV] 111 (0, 0)), (b3, .cells #[.map (some b1)] 141 (0, 0)), (b1, .map es ck)] (⟨.slice adV ((nms9 pre).length) capV, 115, 1, (nms9 pre).length, (GR.map (·.v))⟩ :: GR)) [(bk, .cells #[.string e.name, .int .i64 e.mod, .bool e.fn, .int .i64 e.params, .bool e.here, .bool e.strong] 110 (0, 0)), (bx, .cells #[.string e.name, .int .i64 e.mod, .bool e.fn, .int .i64 e.params, .bool e.here, .bool e.strong] 110 (0, 0)), (b6, .cells #[.slice (some ⟨gO, 0, none⟩) gs1.length capV2] 111 (0, 0)), (b3, .cells #[.map (some b1)] 141 (0, 0)), (b1, .map es2 ck2)] (⟨.slice (some ⟨gO, 0, none⟩) gs1.length capV2, 115, 1, gs1.length, (GR2.map (·.v))⟩ :: GR2)) (by kernel_rfl) rfl ?_ ?_
    ·
     refine WL.buildSlice (ps := [(0, .agg #[.string e.name, .int .i64 e.mod, .bool e.fn, .int .i64 e.params, .bool e.here, .bool e.strong])]) (cs := [.string e.name, .int .i64 e.mod, .bool e.fn, .int .i64 e.params, .bool e.here, .bool e.strong]) Tryd.underlying115 (tyZero_spec zer_110) rfl rfl rfl rfl (by kernel_rfl) hS ?_
     clear hS; intro wz bk hbk hS
     exact WL.nil (N.cut bk ⟨rfl, rfl, rfl, rfl, rfl, rfl, rfl, rfl, rfl, rfl, trivial⟩ hS)
    rintro bk w7 hS
    refine ⟨⟨hS.cell 2 rfl rfl, hS.cells 1 (m := 6) rfl rfl⟩, ?_⟩
    refine WA.one 8 (fun v' : Value => [(3, .pointer (some ⟨b3, 0, none⟩)), (4, .pointer (some ⟨b6, 0, none⟩)), (5, .pointer (some ⟨bx, 0, none⟩)), (6, .int .i64 (i : Int)), (30, .slice (some ⟨gO, 0, none⟩) gs1.length capV2), (31, .int .i64 (i : Int)), (34, .pointer (some ⟨gO, 0 + i * 1, none⟩)), (35, ri.v), (36, .agg #[.string e.name, .int .i64 e.mod, .bool e.fn, .int .i64 e.params, .bool e.here, .bool e.strong]), (37, .slice (some ⟨bk, 0, none⟩) 1 1), (38, v')]) (fun v' u => St w A u (othK A [(bx, .cells #[.string e.name, .int .i64 e.mod, .bool e.fn, .int .i64 e.params, .bool e.here, .bool e.strong] 110 (0, 0)), (b6, .cells #[.slice adV ((nms9 pre).length) capV] 111 (0, 0)), (b3, .cells #[.map (some b1)] 141 (0, 0)), (b1, .map es ck)] (⟨.slice adV ((nms9 pre).length) capV, 115, 1, (nms9 pre).length, (GR.map (·.v))⟩ :: GR)) [(bx, .cells #[.string e.name, .int .i64 e.mod, .bool e.fn, .int .i64 e.params, .bool e.here, .bool e.strong] 110 (0, 0)), (b6, .cells #[.slice (some ⟨gO, 0, none⟩) gs1.length capV2] 111 (0, 0)), (b3, .cells #[.map (some b1)] 141 (0, 0)), (b1, .map es2 ck2)] (⟨v', 110, 6, ri.n + 1, ri.xs ++ [.string e.name, .int .i64 e.mod, .bool e.fn, .int .i64 e.params, .bool e.here, .bool e.strong]⟩ :: ⟨.slice (some ⟨gO, 0, none⟩) gs1.length capV2, 115, 1, gs1.length, (GR2.map (·.v))⟩ :: (GR2.take i ++ GR2.drop (i + 1)))) (by kernel_rfl) rfl ?_ ?_
    ·
     replace hS := hS.permR (perm_at _ hri)
     refine WL.append (r := ri) (cs := [.string e.name, .int .i64 e.mod, .bool e.fn, .int .i64 e.params, .bool e.here, .bool e.strong]) 48 Tryd.underlying115 (tyZero_spec zer_110) byt_110 rfl rfl rfl rfl rfl rfl rfl hre hrs hS (by rw [hrn]; unfold maxLen; omega) (by rw [hrn]; omega) ?_
     clear hS; intro wz v' _ hS
     exact WL.nil (N.cut v' ⟨rfl, rfl, rfl, rfl, rfl, rfl, rfl, rfl, rfl, rfl, rfl, trivial⟩ hS)
    rintro v' w8 hS
    refine ⟨⟨hS.cell 1 rfl rfl, hS.cells 0 (m := 6) rfl rfl⟩, ?_⟩
    have hrow : w8.ownsRow w.heap.size 110 6 v' (ri.n + 1) _ := hS.rows _ List.mem_cons_self
    obtain ⟨ad8, cap8, rfl, _, _, _⟩ := row_shape hrow
    clear hrow
    refine WA.one 9 (fun _ : Unit => [(3, .pointer (some ⟨b3, 0, none⟩)), (4, .pointer (some ⟨b6, 0, none⟩)), (5, .pointer (some ⟨bx, 0, none⟩)), (6, .int .i64 (i : Int)), (30, .slice (some ⟨gO, 0, none⟩) gs1.length capV2), (31, .int .i64 (i : Int)), (34, .pointer (some ⟨gO, 0 + i * 1, none⟩)), (35, ri.v), (36, .agg #[.string e.name, .int .i64 e.mod, .bool e.fn, .int .i64 e.params, .bool e.here, .bool e.strong]), (37, .slice (some ⟨bk, 0, none⟩) 1 1), (38, .slice ad8 (ri.n + 1) cap8), (39, .pointer (some ⟨gO, 0 + i * 1, none⟩))]) (fun _ u => St w A u (othK A [(bx, .cells #[.string e.name, .int .i64 e.mod, .bool e.fn, .int .i64 e.params, .bool e.here, .bool e.strong] 110 (0, 0)), (b6, .cells #[.slice adV ((nms9 pre).length) capV] 111 (0, 0)), (b3, .cells #[.map (some b1)] 141 (0, 0)), (b1, .map es ck)] (⟨.slice adV ((nms9 pre).length) capV, 115, 1, (nms9 pre).length, (GR.map (·.v))⟩ :: GR)) [(bx, .cells #[.string e.name, .int .i64 e.mod, .bool e.fn, .int .i64 e.params, .bool e.here, .bool e.strong] 110 (0, 0)), (b6, .cells #[.slice (some ⟨gO, 0, none⟩) gs1.length capV2] 111 (0, 0)), (b3, .cells #[.map (some b1)] 141 (0, 0)), (b1, .map es2 ck2)] (⟨.slice ad8 (ri.n + 1) cap8, 110, 6, ri.n + 1, ri.xs ++ [.string e.name, .int .i64 e.mod, .bool e.fn, .int .i64 e.params, .bool e.here, .bool e.strong]⟩ :: ⟨.slice (some ⟨gO, 0, none⟩) gs1.length capV2, 115, 1, gs1.length, (GR2.map (·.v))⟩ :: (GR2.take i ++ GR2.drop (i + 1)))) (by kernel_rfl) rfl ?_ ?_
    ·
     refine WL.indexAddr Tryd.underlying111 isz_115 rfl rfl rfl rfl hilt ?_
     exact WL.nil (N.cut () ⟨rfl, rfl, rfl, rfl, rfl, rfl, rfl, rfl, rfl, rfl, rfl, rfl, trivial⟩ hS)
    rintro ⟨⟩ w9 hS
    refine ⟨⟨hS.cell 1 rfl rfl, hS.cells 0 (m := 6) rfl rfl⟩, ?_⟩
    refine WA.one 10 (fun _ : Unit => [(3, .pointer (some ⟨b3, 0, none⟩)), (4, .pointer (some ⟨b6, 0, none⟩)), (5, .pointer (some ⟨bx, 0, none⟩)), (6, .int .i64 (i : Int))]) (fun _ u => St w A u (othK A [(bx, .cells #[.string e.name, .int .i64 e.mod, .bool e.fn, .int .i64 e.params, .bool e.here, .bool e.strong] 110 (0, 0)), (b6, .cells #[.slice adV ((nms9 pre).length) capV] 111 (0, 0)), (b3, .cells #[.map (some b1)] 141 (0, 0)), (b1, .map es ck)] (⟨.slice adV ((nms9 pre).length) capV, 115, 1, (nms9 pre).length, (GR.map (·.v))⟩ :: GR)) [(bx, .cells #[.string e.name, .int .i64 e.mod, .bool e.fn, .int .i64 e.params, .bool e.here, .bool e.strong] 110 (0, 0)), (b6, .cells #[.slice (some ⟨gO, 0, none⟩) gs1.length capV2] 111 (0, 0)), (b3, .cells #[.map (some b1)] 141 (0, 0)), (b1, .map es2 ck2)] (⟨.slice (some ⟨gO, 0, none⟩) gs1.length capV2, 115, 1, gs1.length, ((GR2.set i ⟨.slice ad8 (ri.n + 1) cap8, 110, 6, ri.n + 1, ri.xs ++ [.string e.name, .int .i64 e.mod, .bool e.fn, .int .i64 e.params, .bool e.here, .bool e.strong]⟩).map (·.v))⟩ :: (GR2.set i ⟨.slice ad8 (ri.n + 1) cap8, 110, 6, ri.n + 1, ri.xs ++ [.string e.name, .int .i64 e.mod, .bool e.fn, .int .i64 e.params, .bool e.here, .bool e.strong]⟩))) (by kernel_rfl) rfl ?_ ?_
    ·
     replace hS := hS.permR (List.Perm.swap _ _ _)
     refine WL.storeRow (v := .slice ad8 (ri.n + 1) cap8) (cs := [.slice ad8 (ri.n + 1) cap8]) rfl rfl rfl rfl siz_115 rfl hS (by simp; omega) ?_
     clear hS; intro wz hS
     replace hS := hS.permR (perm_back _ _ hil2)
     have hmv := map_set_v (r' := ⟨.slice ad8 (ri.n + 1) cap8, 110, 6, ri.n + 1, ri.xs ++ [.string e.name, .int .i64 e.mod, .bool e.fn, .int .i64 e.params, .bool e.here, .bool e.strong]⟩) hil2
     refine WL.nil (N.cut () ⟨rfl, rfl, rfl, rfl, trivial⟩ ?_)
     rw [← hmv]; simpa using hS
    rintro ⟨⟩ wf hS
    refine ⟨⟨hS.cell 1 rfl rfl, hS.cells 0 (m := 6) rfl rfl⟩, ?_⟩
    refine WA.done (by kernel_rfl) (fun a ha => ⟨(GR2.set i ⟨.slice ad8 (ri.n + 1) cap8, 110, 6, ri.n + 1, ri.xs ++ [.string e.name, .int .i64 e.mod, .bool e.fn, .int .i64 e.params, .bool e.here, .bool e.strong]⟩), ha, hS, ?_⟩)
    exact hRG2.set rfl rfl (by simp [hrn]) (hrch.snoc rfl ⟨rfl, hes.1, hes.2.1, hes.2.2⟩)
   ·
    refine WL.buildSlice (ps := [(0, .agg #[.string e.name, .int .i64 e.mod, .bool e.fn, .int .i64 e.params, .bool e.here, .bool e.strong])]) (cs := [.string e.name, .int .i64 e.mod, .bool e.fn, .int .i64 e.params, .bool e.here, .bool e.strong]) Tryd.underlying115 (tyZero_spec zer_110) rfl rfl rfl rfl (by kernel_rfl) hS ?_
    clear hS; intro wz bk hbk hS
    exact WL.nil (N.cut bk ⟨rfl, rfl, rfl, rfl, rfl, rfl, rfl, rfl, rfl, trivial⟩ hS)
   rintro bk w7 hS
   refine ⟨⟨hS.cell 2 rfl rfl, hS.cells 1 (m := 6) rfl rfl⟩, ?_⟩
   refine WA.one 5 (fun _ : Unit => [(3, .pointer (some ⟨b3, 0, none⟩)), (4, .pointer (some ⟨b6, 0, none⟩)), (5, .pointer (some ⟨bx, 0, none⟩)), (6, .int .i64 (i : Int)), (30, .slice (some ⟨gO, 0, none⟩) gs1.length capV2), (31, .int .i64 (i : Int)), (34, .pointer (some ⟨gO, 0 + i * 1, none⟩)), (35, ri.v), (36, .agg #[.string e.name, .int .i64 e.mod, .bool e.fn, .int .i64 e.params, .bool e.here, .bool e.strong]), (37, .slice (some ⟨bk, 0, none⟩) 1 1)]) (fun _ u => St w A u (othK A [(bx, .cells #[.string e.name, .int .i64 e.mod, .bool e.fn, .int .i64 e.params, .bool e.here, .bool e.strong] 110 (0, 0)), (b6, .cells #[.slice adV ((nms9 pre).length) capV] 111 (0, 0)), (b3, .cells #[.map (some b1)] 141 (0, 0)), (b1, .map es ck)] (⟨.slice adV ((nms9 pre).length) capV, 115, 1, (nms9 pre).length, (GR.map (·.v))⟩ :: GR)) [(bk, .cells #[.string e.name, .int .i64 e.mod, .bool e.fn, .int .i64 e.params, .bool e.here, .bool e.strong] 110 (0, 0)), (bx, .cells #[.string e.name, .int .i64 e.mod, .bool e.fn, .int .i64 e.params, .bool e.here, .bool e.strong] 110 (0, 0)), (b6, .cells #[.slice (some ⟨gO, 0, none⟩) gs1.length capV2] 111 (0, 0)), (b3, .cells #[.map (some b1)] 141 (0, 0)), (b1, .map es2 ck2)] (⟨.slice (some ⟨gO, 0, none⟩) gs1.length capV2, 115, 1, gs1.length, (GR2.map (·.v))⟩ :: GR2)) (by kernel_rfl) rfl ?_ ?_
   ·
    refine WL.load1 (v := ri.v) one_115 rfl rfl rfl (row_cell (hS.rows _ List.mem_cons_self) (by rw [List.getElem?_map, hri]; rfl)) ?_
    exact WL.nil (N.cut () ⟨rfl, rfl, rfl, rfl, rfl, rfl, rfl, rfl, rfl, rfl, trivial⟩ hS)
   rintro ⟨⟩ w5 hS
   refine ⟨⟨hS.cell 2 rfl rfl, hS.cells 1 (m := 6) rfl rfl⟩, ?_⟩
   refine WA.one 8 (fun v' : Value => [(3, .pointer (some ⟨b3, 0, none⟩)), (4, .pointer (some ⟨b6, 0, none⟩)), (5, .pointer (some ⟨bx, 0, none⟩)), (6, .int .i64 (i : Int)), (30, .slice (some ⟨gO, 0, none⟩) gs1.length capV2), (31, .int .i64 (i : Int)), (34, .pointer (some ⟨gO, 0 + i * 1, none⟩)), (35, ri.v), (36, .agg #[.string e.name, .int .i64 e.mod, .bool e.fn, .int .i64 e.params, .bool e.here, .bool e.strong]), (37, .slice (some ⟨bk, 0, none⟩) 1 1), (38, v')]) (fun v' u => St w A u (othK A [(bx, .cells #[.string e.name, .int .i64 e.mod, .bool e.fn, .int .i64 e.params, .bool e.here, .bool e.strong] 110 (0, 0)), (b6, .cells #[.slice adV ((nms9 pre).length) capV] 111 (0, 0)), (b3, .cells #[.map (some b1)] 141 (0, 0)), (b1, .map es ck)] (⟨.slice adV ((nms9 pre).length) capV, 115, 1, (nms9 pre).length, (GR.map (·.v))⟩ :: GR)) [(bx, .cells #[.string e.name, .int .i64 e.mod, .bool e.fn, .int .i64 e.params, .bool e.here, .bool e.strong] 110 (0, 0)), (b6, .cells #[.slice (some ⟨gO, 0, none⟩) gs1.length capV2] 111 (0, 0)), (b3, .cells #[.map (some b1)] 141 (0, 0)), (b1, .map es2 ck2)] (⟨v', 110, 6, ri.n + 1, ri.xs ++ [.string e.name, .int .i64 e.mod, .bool e.fn, .int .i64 e.params, .bool e.here, .bool e.strong]⟩ :: ⟨.slice (some ⟨gO, 0, none⟩) gs1.length capV2, 115, 1, gs1.length, (GR2.map (·.v))⟩ :: (GR2.take i ++ GR2.drop (i + 1)))) (by kernel_rfl) rfl ?_ ?_
   ·
    replace hS := hS.permR (perm_at _ hri)
    refine WL.append (r := ri) (cs := [.string e.name, .int .i64 e.mod, .bool e.fn, .int .i64 e.params, .bool e.here, .bool e.strong]) 48 Tryd.underlying115 (tyZero_spec zer_110) byt_110 rfl rfl rfl rfl rfl rfl rfl hre hrs hS (by rw [hrn]; unfold maxLen; omega) (by rw [hrn]; omega) ?_
    clear hS; intro wz v' _ hS
    exact WL.nil (N.cut v' ⟨rfl, rfl, rfl, rfl, rfl, rfl, rfl, rfl, rfl, rfl, rfl, trivial⟩ hS)
   rintro v' w8 hS
   refine ⟨⟨hS.cell 1 rfl rfl, hS.cells 0 (m := 6) rfl rfl⟩, ?_⟩
   have hrow : w8.ownsRow w.heap.size 110 6 v' (ri.n + 1) _ := hS.rows _ List.mem_cons_self
   obtain ⟨ad8, cap8, rfl, _, _, _⟩ := row_shape hrow
   clear hrow
   refine WA.one 9 (fun _ : Unit => [(3, .pointer (some ⟨b3, 0, none⟩)), (4, .pointer (some ⟨b6, 0, none⟩)), (5, .pointer (some ⟨bx, 0, none⟩)), (6, .int .i64 (i : Int)), (30, .slice (some ⟨gO, 0, none⟩) gs1.length capV2), (31, .int .i64 (i : Int)), (34, .pointer (some ⟨gO, 0 + i * 1, none⟩)), (35, ri.v), (36, .agg #[.string e.name, .int .i64 e.mod, .bool e.fn, .int .i64 e.params, .bool e.here, .bool e.strong]), (37, .slice (some ⟨bk, 0, none⟩) 1 1), (38, .slice ad8 (ri.n + 1) cap8), (39, .pointer (some ⟨gO, 0 + i * 1, none⟩))]) (fun _ u => St w A u (othK A [(bx, .cells #[.string e.name, .int .i64 e.mod, .bool e.fn, .int .i64 e.params, .bool e.here, .bool e.strong] 110 (0, 0)), (b6, .cells #[.slice adV ((nms9 pre).length) capV] 111 (0, 0)), (b3, .cells #[.map (some b1)] 141 (0, 0)), (b1, .map es ck)] (⟨.slice adV ((nms9 pre).length) capV, 115, 1, (nms9 pre).length, (GR.map (·.v))⟩ :: GR)) [(bx, .cells #[.string e.name, .int .i64 e.mod, .bool e.fn, .int .i64 e.params, .bool e.here, .bool e.strong] 110 (0, 0)), (b6, .cells #[.slice (some ⟨gO, 0, none⟩) gs1.length capV2] 111 (0, 0)), (b3, .cells #[.map (some b1)] 141 (0, 0)), (b1, .map es2 ck2)] (⟨.slice ad8 (ri.n + 1) cap8, 110, 6, ri.n + 1, ri.xs ++ [.string e.name, .int .i64 e.mod, .bool e.fn, .int .i64 e.params, .bool e.here, .bool e.strong]⟩ :: ⟨.slice (some ⟨gO, 0, none⟩) gs1.length capV2, 115, 1, gs1.length, (GR2.map (·.v))⟩ :: (GR2.take i ++ GR2.drop (i + 1)))) (by kernel_rfl) rfl ?_ ?_
   ·
    refine WL.indexAddr Tryd.underlying111 isz_115 rfl rfl rfl rfl hilt ?_
    exact WL.nil (N.cut () ⟨rfl, rfl, rfl, rfl, rfl, rfl, rfl, rfl, rfl, rfl, rfl, rfl, trivial⟩ hS)
   rintro ⟨⟩ w9 hS
   refine ⟨⟨hS.cell 1 rfl rfl, hS.cells 0 (m := 6) rfl rfl⟩, ?_⟩
   refine WA.one 10 (fun _ : Unit => [(3, .pointer (some ⟨b3, 0, none⟩)), (4, .pointer (some ⟨b6, 0, none⟩)), (5, .pointer (some ⟨bx, 0, none⟩)), (6, .int .i64 (i : Int))]) (fun _ u => St w A u (othK A [(bx, .cells #[.string e.name, .int .i64 e.mod, .bool e.fn, .int .i64 e.params, .bool e.here, .bool e.strong] 110 (0, 0)), (b6, .cells #[.slice adV ((nms9 pre).length) capV] 111 (0, 0)), (b3, .cells #[.map (some b1)] 141 (0, 0)), (b1, .map es ck)] (⟨.slice adV ((nms9 pre).length) capV, 115, 1, (nms9 pre).length, (GR.map (·.v))⟩ :: GR)) [(bx, .cells #[.string e.name, .int .i64 e.mod, .bool e.fn, .int .i64 e.params, .bool e.here, .bool e.strong] 110 (0, 0)), (b6, .cells #[.slice (some ⟨gO, 0, none⟩) gs1.length capV2] 111 (0, 0)), (b3, .cells #[.map (some b1)] 141 (0, 0)), (b1, .map es2 ck2)] (⟨.slice (some ⟨gO, 0, none⟩) gs1.length capV2, 115, 1, gs1.length, ((GR2.set i ⟨.slice ad8 (ri.n + 1) cap8, 110, 6, ri.n + 1, ri.xs ++ [.string e.name, .int .i64 e.mod, .bool e.fn, .int .i64 e.params, .bool e.here, .bool e.strong]⟩).map (·.v))⟩ :: (GR2.set i ⟨.slice ad8 (ri.n + 1) cap8, 110, 6, ri.n + 1, ri.xs ++ [.string e.name, .int .i64 e.mod, .bool e.fn, .int .i64 e.params, .bool e.here, .bool e.strong]⟩))) (by kernel_rfl) rfl ?_ ?_
   ·
    replace hS := hS.permR (List.Perm.swap _ _ _)
    refine WL.storeRow (v := .slice ad8 (ri.n + 1) cap8) (cs := [.slice ad8 (ri.n + 1) cap8]) rfl rfl rfl rfl siz_115 rfl hS (by simp; omega) ?_
    clear hS; intro wz hS
    replace hS := hS.permR (perm_back _ _ hil2)
    have hmv := map_set_v (r' := ⟨.slice ad8 (ri.n + 1) cap8, 110, 6, ri.n + 1, ri.xs ++ [.string e.name, .int .i64 e.mod, .bool e.fn, .int .i64 e.params, .bool e.here, .bool e.strong]⟩) hil2
    refine WL.nil (N.cut () ⟨rfl, rfl, rfl, rfl, trivial⟩ ?_)
    rw [← hmv]; simpa using hS
   rintro ⟨⟩ wf hS
   refine ⟨⟨hS.cell 1 rfl rfl, hS.cells 0 (m := 6) rfl rfl⟩, ?_⟩
   refine WA.done (by kernel_rfl) (fun a ha => ⟨(GR2.set i ⟨.slice ad8 (ri.n + 1) cap8, 110, 6, ri.n + 1, ri.xs ++ [.string e.name, .int .i64 e.mod, .bool e.fn, .int .i64 e.params, .bool e.here, .bool e.strong]⟩), ha, hS, ?_⟩)
   exact hRG2.set rfl rfl (by simp [hrn]) (hrch.snoc rfl ⟨rfl, hes.1, hes.2.1, hes.2.2⟩)
  clear hS
  rintro GR3 wn ⟨hS, hRG3⟩
  rw [← hgs] at hRG3
  have hml : gs1.length = (nms9 (pre ++ [e])).length := by rw [← grp9_length, hgs, List.length_set]
  rw [hml] at hS
  refine NX.blk ?_
  replace hS := hS.dropN 1
  exact NX.cut (es2, ck2, .slice (some ⟨gO, 0, none⟩) (nms9 (pre ++ [e])).length capV2, GR3) trivial ⟨⟨by simpa using hM2, hRG3⟩, hS⟩
 rintro D W ⟨es, ck, V, GR⟩ ⟨hM, hRG⟩ hS hDw hD
 refine NX.blk (NX.seq (WX.seq ?_))
 refine WX.region (α := Unit) (fun _ => [(2, V), (3, .pointer (some ⟨b3, 0, none⟩)), (4, .pointer (some ⟨b6, 0, none⟩)), (40, V)]) (fun _ u => St w w u ro [(b6, .cells #[V] 111 (0, 0)), (b3, .cells #[.map (some b1)] 141 (0, 0)), (b1, .map es ck)] (⟨V, 115, 1, (nms9 (items9 ms)).length, (GR.map (·.v))⟩ :: GR) ∧ u.heap[D]? = some (.deferred (some []))) rfl ?_ ?_
 ·
  refine WL.load1 (v := V) one_111 rfl rfl rfl (hS.cell 0 rfl rfl) (WL.assign rfl rfl rfl (WL.nil ?_))
  exact N.cut () ⟨rfl, rfl, rfl, rfl, trivial⟩ ⟨hS, hD⟩
 clear hS
 rintro ⟨⟩ w26 ⟨hS, hD⟩
 refine NX.seq ?_
 refine FinM.ret1 rfl rfl hD ?_
 have hS2 := hS.record (grownBy_putObj' _ D (.deferred none)) (Bd := w8.heap.size) hlow0 (fun q e => by cases e; exact ⟨hDw, _, hD, rfl⟩) (fun b hb => Nat.lt_of_lt_of_le (hro b hb) hlow0) (hTy (items9 ms) (es, ck, V, GR) ⟨hM, hRG⟩).cells
 have hk : ∀ r ∈ (⟨V, 115, 1, (nms9 (items9 ms)).length, GR.map (·.v)⟩ : Row) :: GR, ∀ b, r.v.ownBlock = some b → w.heap.size ≤ b ∧ b < _ := fun r hr b hb => (hS2.keys b (by simp only [keysOf, List.mem_append, List.mem_filterMap]; exact .inr ⟨r, hr, hb⟩)).imp id (·.1)
 refine ⟨row_slv (hS2.rows _ List.mem_cons_self) (chunks_groups hRG (fun r hr => hS2.rows r (List.mem_cons_of_mem _ hr)) (fun r hr => hk r (List.mem_cons_of_mem _ hr))) (by rw [grp9_length]) (hk _ List.mem_cons_self), hS2.below⟩

end Go.Proofs.YtapjejjmhmdmdaaDoor

namespace Go.Proofs.YtapjejjmhmdmdaaDoor
open Go.RowKit
theorem agg_66 : tyAgg Tryd.prog 66 5 = true := by kernel_rfl
theorem fo_110_1 : fOff Tryd.prog 110 1 1 = true := by kernel_rfl
theorem fo_110_2 : fOff Tryd.prog 110 2 2 = true := by kernel_rfl
theorem fo_110_3 : fOff Tryd.prog 110 3 3 = true := by kernel_rfl
theorem fo_110_4 : fOff Tryd.prog 110 4 4 = true := by kernel_rfl
theorem fo_110_5 : fOff Tryd.prog 110 5 5 = true := by kernel_rfl
theorem isz_110 : (Tryd.prog.info? 110).map (·.size) = some 6 := by kernel_rfl
theorem siz_66 : tySize Tryd.prog 66 5 = true := by kernel_rfl
theorem zer_66 : tyZero Tryd.prog 66 = some [.string ⟨#[]⟩, .int .i64 0, .bool false, .bool false, .bool false] := by kernel_rfl
structure DDef where
  name : ByteArray
  mod : Int
  fn : Bool
  weak : Bool
  here : Bool
  deriving DecidableEq
def defL (x : DDef) : List Value := [.string x.name, .int .i64 x.mod, .bool x.fn, .bool x.weak, .bool x.here]
def defV (x : DDef) : Value := .agg (defL x).toArray
def DefC (cs : List Value) (x : DDef) : Prop := cs = defL x ∧ x.name.size ≤ maxLen ∧ inI x.mod
def ixI {α : Type} (p : α → Bool) (g : List α) : Int := (g.findIdx? p).elim (-1) fun i => (i : Int)
theorem find_next {α : Type} {p : α → Bool} {g : List α} {k : Nat} {x : α} (h : (g.take k).findIdx? p = none) (hx : g[k]? = some x) (hp : p x = false) : (g.take (k + 1)).findIdx? p = none := by
  rw [take_next hx, List.findIdx?_append, h]; simp [hp]
theorem find_here {α : Type} {p : α → Bool} {g : List α} {k : Nat} {x : α} (h : (g.take k).findIdx? p = none) (hx : g[k]? = some x) (hp : p x = true) : ixI p g = k := by
  have hk : k < g.length := (List.getElem?_eq_some_iff.1 hx).1
  have e : g = g.take (k + 1) ++ g.drop (k + 1) := (List.take_append_drop _ _).symm
  unfold ixI
  rw [e, List.findIdx?_append, take_next hx, List.findIdx?_append, h]
  simp [hp, Nat.min_eq_left (Nat.le_of_lt hk)]
theorem find_end {α : Type} {p : α → Bool} {g : List α} (h : g.findIdx? p = none) : ixI p g = -1 := by unfold ixI; rw [h]; rfl
theorem ixI_cases {α : Type} (p : α → Bool) (g : List α) : (ixI p g = -1 ∧ g.any p = false) ∨ ∃ (i : Nat) (x : α), ixI p g = i ∧ g[i]? = some x ∧ p x = true ∧ g.any p = true := by
  unfold ixI
  cases h : g.findIdx? p with
  | none =>
    left
    rw [List.findIdx?_eq_none_iff] at h
    exact ⟨rfl, List.any_eq_false.2 fun x hx => by simp [h x hx]⟩
  | some i =>
    right
    rw [List.findIdx?_eq_some_iff_getElem] at h
    obtain ⟨hlt, hp, _⟩ := h
    exact ⟨i, _, rfl, List.getElem?_eq_getElem hlt, hp, List.any_eq_true.2 ⟨_, List.getElem_mem hlt, hp⟩⟩
theorem ixI_any {α : Type} (p : α → Bool) (g : List α) : decide (0 ≤ ixI p g) = g.any p := by
  rcases ixI_cases p g with ⟨h1, h2⟩ | ⟨i, x, h1, _, _, h2⟩
  · rw [h1, h2]; rfl
  · rw [h1, h2]; exact decide_eq_true (by omega)
theorem ixI_neg {α : Type} (p : α → Bool) (g : List α) : decide (ixI p g < 0) = !g.any p := by
  rcases ixI_cases p g with ⟨h1, h2⟩ | ⟨i, x, h1, _, _, h2⟩
  · rw [h1, h2]; rfl
  · rw [h1, h2]; exact decide_eq_false (by omega)
theorem ixI_nat {α : Type} {p : α → Bool} {g : List α} (h : ¬ ixI p g < 0) : ∃ i : Nat, ixI p g = (i : Int) ∧ i < g.length := by
  rcases ixI_cases p g with ⟨h1, _⟩ | ⟨i, x, h1, h2, _⟩
  · omega
  · exact ⟨i, h1, (List.getElem?_eq_some_iff.1 h2).1⟩
theorem ixI_inI {α : Type} (p : α → Bool) (g : List α) (h : g.length ≤ 9223372036854775807) : inI (ixI p g) := by
  unfold inI
  rcases ixI_cases p g with ⟨h1, _⟩ | ⟨i, x, h1, h2, _⟩
  · rw [h1]; omega
  · have := (List.getElem?_eq_some_iff.1 h2).1; rw [h1]; omega
def item0 : DItem := ⟨⟨#[]⟩, 0, false, 0, false, false⟩
def odd9 (y x : DItem) : Bool := x.fn != y.fn || !decide (x.params = y.params)
def oddG (g : List DItem) : Bool := g.any fun x => odd9 (g.getD 0 item0) x
def sB9 (x : DItem) : Bool := x.here && x.strong
def hB9 (x : DItem) : Bool := x.here
def many9 (g : List DItem) : Int := ((g.filter sB9).length : Int)
def di9 (g : List DItem) : Nat := if ixI hB9 g < 0 then 0 else if ixI sB9 g < 0 then (ixI hB9 g).toNat else (ixI sB9 g).toNat
def def9 (g : List DItem) : DDef := ⟨(g.getD 0 item0).name, (g.getD (di9 g) item0).mod, (g.getD 0 item0).fn, decide (ixI sB9 g < 0), decide (0 ≤ ixI hB9 g)⟩
def missing9 (g : List DItem) : Bool := !g.any hB9 && g.any fun x => x.strong

theorem ixItem_ret {q : Nat} {fnq : Func} {caps : Array Value} (g : List (DItem)) (p : (DItem) → Bool) (vx : Value) {w : World} {ro : Nat → Prop} (hro : ∀ b, ro b → b < w.heap.size) (hx : SlV ro w 6 ItemC vx g) (hf : Tryd.prog.funcs[q]? = some fnq) (hfb : (fnq.body.isSome && !(fnq.name == "runtime.NumGoroutine")) = true) (hp : ∀ (x : DItem) (u : World), x ∈ g → Below w.heap.size w u → Ret Tryd.prog q (#[itemV x] ++ caps) u fun v u2 => v = .bool (p x) ∧ Below u.heap.size u u2) : Ret Tryd.prog 85 #[vx, .func (.func q) #[] caps] w fun v w' => v = .int .i64 (ixI p g) ∧ Below w.heap.size w w' := by
 obtain ⟨ad, cap, rfl, haa, hab, hac, had⟩ := id hx
 have ham : g.length ≤ 9223372036854775807 := by have h1 := haa; have h2 := hab; unfold maxLen at h2; omega
 refine Ret.enter (P := Tryd.prog) (n := 19) (args := [.slice ad g.length cap, .func (.func q) #[] caps]) (σ := [(0, .slice ad g.length cap), (1, .func (.func q) #[] caps)]) Tryd.func85 rfl rfl rfl rfl ?_
 have hS := St.start (ro := ro) hro
 refine W.seq (W.region (WL.assign rfl rfl rfl (WL.nil (N.seq (W.seq (W.seq (W.region (WL.move rfl rfl rfl (WL.lenSlice Tryd.underlying115 rfl rfl rfl ?_)))))))))
 refine WL.move rfl rfl rfl (WL.nil (N.seq (W.block ?_)))
 refine W.loop (α := Nat) (fun (k : Nat) => [(0, .slice ad g.length cap), (1, .func (.func q) #[] caps), (7, .int .i64 (g.length : Int)), (8, .int .i64 (k : Int))]) (fun (k : Nat) u => St w w u ro [] [] ∧ k ≤ g.length ∧ (g.take k).findIdx? p = none) (fun (k : Nat) => g.length - k) 0 ⟨rfl, rfl, rfl, rfl, trivial⟩ ⟨hS, Nat.zero_le _, rfl⟩ ?_
 clear hS
 rintro k w1 ⟨hS, hk, hno⟩
 refine W.seq (W.region (WL.bin rfl rfl rfl rfl rfl (WL.nil (N.seq (W.seq ?_)))))
 refine W.cond rfl (fun hc2 => ?_) (fun hc2 => ?_)
 ·
  have hc2p : (k : Int) < (g.length : Int) := by simpa using hc2
  refine W.skip (N.seq (W.seq (W.block (W.seq (W.region (WL.move rfl rfl rfl (WL.assign rfl rfl rfl (WL.nil (N.seq ?_)))))))))
  refine W.seq (W.region (WL.move rfl rfl rfl (WL.move rfl rfl rfl (WL.move rfl rfl rfl ?_))))
  have hj3 : k < g.length := by omega
  obtain ⟨x3, hx3⟩ : ∃ zz, g[k]? = some zz := ⟨_, List.getElem?_eq_getElem hj3⟩
  obtain ⟨b3, o3, cs3, hE3, hr3, hl3, hc3, hQ3⟩ := had k _ hx3
  obtain ⟨rfl, hin3, him3, hip3⟩ := hQ3
  refine WL.indexAddrE (j := k) Tryd.underlying115 isz_110 rfl rfl rfl rfl hj3 hE3 (WL.loadN (cs := [.string x3.name, .int .i64 x3.mod, .bool x3.fn, .int .i64 x3.params, .bool x3.here, .bool x3.strong]) agg_110 rfl rfl rfl rfl (hS.roCells hr3 hc3) ?_)
  refine WL.callV (vs := [.agg #[.string x3.name, .int .i64 x3.mod, .bool x3.fn, .int .i64 x3.params, .bool x3.here, .bool x3.strong]]) (cs := caps) hf hfb rfl rfl rfl rfl (hp x3 _ (List.mem_of_getElem? hx3) hS.below) ?_
  rintro v w4 ⟨rfl, hbl⟩
  replace hS := hS.grow hbl
  refine WL.nil (N.seq ?_)
  refine W.cond rfl (fun hc5 => ?_) (fun hc5 => ?_)
  ·
   refine W.seq (W.region (WL.move rfl rfl rfl (WL.assign rfl rfl rfl (WL.nil (N.seq ?_)))))
   refine Fin.ret1 rfl (v := .int .i64 (k : Int)) rfl ?_
   exact ⟨by rw [find_here hno hx3 hc5], hS.below⟩
  refine W.skip (N.blk (N.seq (W.region ?_)))
  refine WL.add (c := (k : Int) + 1) rfl rfl rfl rfl (rfl) (by omega) ?_
  refine WL.move rfl rfl rfl (WL.nil ?_)
  exact N.loop (k + 1) ⟨rfl, rfl, rfl, rfl, trivial⟩ ⟨hS, by omega, find_next hno hx3 hc5⟩ (by first | omega | (simp only; omega))
 have hc2p : ¬ ((k : Int) < (g.length : Int)) := by simpa using hc2
 refine W.exit (X.seq (X.loop (X.blk (N.seq (W.seq (W.region (WL.assign rfl rfl rfl (WL.nil (N.seq ?_)))))))))
 refine Fin.ret1 rfl (v := .int .i64 (-1)) rfl ?_
 have e : k = g.length := by omega
 subst e
 rw [List.take_length] at hno
 exact ⟨by rw [find_end hno], hS.below⟩

theorem coItem_ret {q : Nat} {fnq : Func} {caps : Array Value} (g : List (DItem)) (p : (DItem) → Bool) (vx : Value) {w : World} {ro : Nat → Prop} (hro : ∀ b, ro b → b < w.heap.size) (hx : SlV ro w 6 ItemC vx g) (hf : Tryd.prog.funcs[q]? = some fnq) (hfb : (fnq.body.isSome && !(fnq.name == "runtime.NumGoroutine")) = true) (hp : ∀ (x : DItem) (u : World), x ∈ g → Below w.heap.size w u → Ret Tryd.prog q (#[itemV x] ++ caps) u fun v u2 => v = .bool (p x) ∧ Below u.heap.size u u2) : Ret Tryd.prog 81 #[vx, .func (.func q) #[] caps] w fun v w' => v = .bool (g.any p) ∧ Below w.heap.size w w' := by
 obtain ⟨ad, cap, rfl, haa, hab, hac, had⟩ := id hx
 have ham : g.length ≤ 9223372036854775807 := by have h1 := haa; have h2 := hab; unfold maxLen at h2; omega
 refine Ret.enter (P := Tryd.prog) (n := 9) (args := [.slice ad g.length cap, .func (.func q) #[] caps]) (σ := [(0, .slice ad g.length cap), (1, .func (.func q) #[] caps)]) Tryd.func81 rfl rfl rfl rfl ?_
 have hS := St.start (ro := ro) hro
 refine W.seq (W.region (WL.assign rfl rfl rfl (WL.nil (N.seq (W.seq (W.region (WL.move rfl rfl rfl (WL.move rfl rfl rfl ?_))))))))
 refine WL.callF (vs := [.slice ad g.length cap, .func (.func q) #[] caps]) Tryd.func85 (by kernel_rfl) rfl rfl rfl (ixItem_ret g p _ (ro := ro) (fun b hb => (hS.snap b hb).1) (SlV.keep hx hS.alike (fun _ _ q => q)) hf hfb (fun x u hm hb => hp x u hm (hS.below.trans (hb.mono hS.below.size)))) ?_
 rintro v w1 ⟨rfl, hbl⟩
 replace hS := hS.grow hbl
 refine WL.bin rfl rfl rfl rfl rfl (WL.assign rfl rfl rfl (WL.nil (N.seq ?_)))
 refine Fin.ret1 rfl (v := .bool (decide (0 ≤ ixI p g))) rfl ?_
 exact ⟨by rw [ixI_any], hS.below⟩

theorem ixGroup_ret {q : Nat} {fnq : Func} {caps : Array Value} (g : List (List DItem)) (p : (List DItem) → Bool) (vx : Value) {w : World} {ro : Nat → Prop} (hro : ∀ b, ro b → b < w.heap.size) (hx : SlV ro w 1 (GroupC ro w) vx g) (hf : Tryd.prog.funcs[q]? = some fnq) (hfb : (fnq.body.isSome && !(fnq.name == "runtime.NumGoroutine")) = true) (hp : ∀ (x : List DItem) (sv : Value) (u : World), x ∈ g → SlV ro u 6 ItemC sv x → Below w.heap.size w u → Ret Tryd.prog q (#[sv] ++ caps) u fun v u2 => v = .bool (p x) ∧ Below u.heap.size u u2) : Ret Tryd.prog 56 #[vx, .func (.func q) #[] caps] w fun v w' => v = .int .i64 (ixI p g) ∧ Below w.heap.size w w' := by
 obtain ⟨ad, cap, rfl, haa, hab, hac, had⟩ := id hx
 have ham : g.length ≤ 9223372036854775807 := by have h1 := haa; have h2 := hab; unfold maxLen at h2; omega
 refine Ret.enter (P := Tryd.prog) (n := 19) (args := [.slice ad g.length cap, .func (.func q) #[] caps]) (σ := [(0, .slice ad g.length cap), (1, .func (.func q) #[] caps)]) Tryd.func56 rfl rfl rfl rfl ?_
 have hS := St.start (ro := ro) hro
 refine W.seq (W.region (WL.assign rfl rfl rfl (WL.nil (N.seq (W.seq (W.seq (W.region (WL.move rfl rfl rfl (WL.lenSlice Tryd.underlying111 rfl rfl rfl ?_)))))))))
 refine WL.move rfl rfl rfl (WL.nil (N.seq (W.block ?_)))
 refine W.loop (α := Nat) (fun (k : Nat) => [(0, .slice ad g.length cap), (1, .func (.func q) #[] caps), (7, .int .i64 (g.length : Int)), (8, .int .i64 (k : Int))]) (fun (k : Nat) u => St w w u ro [] [] ∧ k ≤ g.length ∧ (g.take k).findIdx? p = none) (fun (k : Nat) => g.length - k) 0 ⟨rfl, rfl, rfl, rfl, trivial⟩ ⟨hS, Nat.zero_le _, rfl⟩ ?_
 clear hS
 rintro k w1 ⟨hS, hk, hno⟩
 refine W.seq (W.region (WL.bin rfl rfl rfl rfl rfl (WL.nil (N.seq (W.seq ?_)))))
 refine W.cond rfl (fun hc2 => ?_) (fun hc2 => ?_)
 ·
  have hc2p : (k : Int) < (g.length : Int) := by simpa using hc2
  refine W.skip (N.seq (W.seq (W.block (W.seq (W.region (WL.move rfl rfl rfl (WL.assign rfl rfl rfl (WL.nil (N.seq ?_)))))))))
  refine W.seq (W.region (WL.move rfl rfl rfl (WL.move rfl rfl rfl (WL.move rfl rfl rfl ?_))))
  have hj3 : k < g.length := by omega
  obtain ⟨x3, hx3⟩ : ∃ zz, g[k]? = some zz := ⟨_, List.getElem?_eq_getElem hj3⟩
  obtain ⟨b3, o3, cs3, hE3, hr3, hl3, hc3, hQ3⟩ := had k _ hx3
  have hQk3 := hQ3
  obtain ⟨sg3, rfl, hsg3⟩ := hQ3
  obtain ⟨adg3, capg3, rfl, hsg3a, hsg3b, hsg3c, hsg3d⟩ := id hsg3
  have hsg3m : x3.length ≤ 9223372036854775807 := by have h1 := hsg3a; have h2 := hsg3b; unfold maxLen at h2; omega
  refine WL.indexAddrE (j := k) Tryd.underlying111 isz_115 rfl rfl rfl rfl hj3 hE3 (WL.load1 (v := .slice adg3 x3.length capg3) one_115 rfl rfl rfl (hS.roCells hr3 hc3 0 _ rfl) ?_)
  refine WL.callV (vs := [.slice adg3 x3.length capg3]) (cs := caps) hf hfb rfl rfl rfl rfl (hp x3 _ _ (List.mem_of_getElem? hx3) (SlV.keep hsg3 hS.alike (fun _ _ q => q)) hS.below) ?_
  rintro v w4 ⟨rfl, hbl⟩
  replace hS := hS.grow hbl
  refine WL.nil (N.seq ?_)
  refine W.cond rfl (fun hc5 => ?_) (fun hc5 => ?_)
  ·
   refine W.seq (W.region (WL.move rfl rfl rfl (WL.assign rfl rfl rfl (WL.nil (N.seq ?_)))))
   refine Fin.ret1 rfl (v := .int .i64 (k : Int)) rfl ?_
   exact ⟨by rw [find_here hno hx3 hc5], hS.below⟩
  refine W.skip (N.blk (N.seq (W.region ?_)))
  refine WL.add (c := (k : Int) + 1) rfl rfl rfl rfl (rfl) (by omega) ?_
  refine WL.move rfl rfl rfl (WL.nil ?_)
  exact N.loop (k + 1) ⟨rfl, rfl, rfl, rfl, trivial⟩ ⟨hS, by omega, find_next hno hx3 hc5⟩ (by first | omega | (simp only; omega))
 have hc2p : ¬ ((k : Int) < (g.length : Int)) := by simpa using hc2
 refine W.exit (X.seq (X.loop (X.blk (N.seq (W.seq (W.region (WL.assign rfl rfl rfl (WL.nil (N.seq ?_)))))))))
 refine Fin.ret1 rfl (v := .int .i64 (-1)) rfl ?_
 have e : k = g.length := by omega
 subst e
 rw [List.take_length] at hno
 exact ⟨by rw [find_end hno], hS.below⟩

theorem coGroup_ret {q : Nat} {fnq : Func} {caps : Array Value} (g : List (List DItem)) (p : (List DItem) → Bool) (vx : Value) {w : World} {ro : Nat → Prop} (hro : ∀ b, ro b → b < w.heap.size) (hx : SlV ro w 1 (GroupC ro w) vx g) (hf : Tryd.prog.funcs[q]? = some fnq) (hfb : (fnq.body.isSome && !(fnq.name == "runtime.NumGoroutine")) = true) (hp : ∀ (x : List DItem) (sv : Value) (u : World), x ∈ g → SlV ro u 6 ItemC sv x → Below w.heap.size w u → Ret Tryd.prog q (#[sv] ++ caps) u fun v u2 => v = .bool (p x) ∧ Below u.heap.size u u2) : Ret Tryd.prog 49 #[vx, .func (.func q) #[] caps] w fun v w' => v = .bool (g.any p) ∧ Below w.heap.size w w' := by
 obtain ⟨ad, cap, rfl, haa, hab, hac, had⟩ := id hx
 have ham : g.length ≤ 9223372036854775807 := by have h1 := haa; have h2 := hab; unfold maxLen at h2; omega
 refine Ret.enter (P := Tryd.prog) (n := 9) (args := [.slice ad g.length cap, .func (.func q) #[] caps]) (σ := [(0, .slice ad g.length cap), (1, .func (.func q) #[] caps)]) Tryd.func49 rfl rfl rfl rfl ?_
 have hS := St.start (ro := ro) hro
 refine W.seq (W.region (WL.assign rfl rfl rfl (WL.nil (N.seq (W.seq (W.region (WL.move rfl rfl rfl (WL.move rfl rfl rfl ?_))))))))
 refine WL.callF (vs := [.slice ad g.length cap, .func (.func q) #[] caps]) Tryd.func56 (by kernel_rfl) rfl rfl rfl (ixGroup_ret g p _ (ro := ro) (fun b hb => (hS.snap b hb).1) (SlV.keep hx hS.alike (fun _ _ q => q.keep hS.alike)) hf hfb (fun x sv u hm hs hb => hp x sv u hm hs (hS.below.trans (hb.mono hS.below.size)))) ?_
 rintro v w1 ⟨rfl, hbl⟩
 replace hS := hS.grow hbl
 refine WL.bin rfl rfl rfl rfl rfl (WL.assign rfl rfl rfl (WL.nil (N.seq ?_)))
 refine Fin.ret1 rfl (v := .bool (decide (0 ≤ ixI p g))) rfl ?_
 exact ⟨by rw [ixI_any], hS.below⟩

theorem missing1_ret (x : DItem) {w : World} {ro : Nat → Prop} (hro : ∀ b, ro b → b < w.heap.size) : Ret Tryd.prog 83 #[.agg #[.string x.name, .int .i64 x.mod, .bool x.fn, .int .i64 x.params, .bool x.here, .bool x.strong]] w fun v w' => v = .bool (x.here) ∧ Below w.heap.size w w' := by
 refine Ret.enter (P := Tryd.prog) (n := 5) (args := [.agg #[.string x.name, .int .i64 x.mod, .bool x.fn, .int .i64 x.params, .bool x.here, .bool x.strong]]) (σ := [(0, .agg #[.string x.name, .int .i64 x.mod, .bool x.fn, .int .i64 x.params, .bool x.here, .bool x.strong])]) Tryd.func83 rfl rfl rfl rfl ?_
 have hS := St.start (ro := ro) hro
 refine W.seq (W.region ?_)
 refine WL.box (v := .agg #[.string x.name, .int .i64 x.mod, .bool x.fn, .int .i64 x.params, .bool x.here, .bool x.strong]) (cs := [.string x.name, .int .i64 x.mod, .bool x.fn, .int .i64 x.params, .bool x.here, .bool x.strong]) rfl rfl rfl rfl hS ?_
 clear hS; intro w2 b1 hb_b1 hS
 refine WL.assign rfl rfl rfl (WL.nil (N.seq (W.seq (W.region (WL.fieldAddr fo_110_4 rfl rfl rfl (WL.load1 (v := .bool x.here) one_4 rfl rfl rfl (hS.cell 0 rfl rfl) (WL.assign rfl rfl rfl (WL.nil (N.seq ?_)))))))))
 refine Fin.ret1 rfl (v := .bool x.here) rfl ?_
 exact ⟨rfl, hS.below⟩

theorem missing2_ret (x : DItem) {w : World} {ro : Nat → Prop} (hro : ∀ b, ro b → b < w.heap.size) : Ret Tryd.prog 84 #[.agg #[.string x.name, .int .i64 x.mod, .bool x.fn, .int .i64 x.params, .bool x.here, .bool x.strong]] w fun v w' => v = .bool (x.strong) ∧ Below w.heap.size w w' := by
 refine Ret.enter (P := Tryd.prog) (n := 5) (args := [.agg #[.string x.name, .int .i64 x.mod, .bool x.fn, .int .i64 x.params, .bool x.here, .bool x.strong]]) (σ := [(0, .agg #[.string x.name, .int .i64 x.mod, .bool x.fn, .int .i64 x.params, .bool x.here, .bool x.strong])]) Tryd.func84 rfl rfl rfl rfl ?_
 have hS := St.start (ro := ro) hro
 refine W.seq (W.region ?_)
 refine WL.box (v := .agg #[.string x.name, .int .i64 x.mod, .bool x.fn, .int .i64 x.params, .bool x.here, .bool x.strong]) (cs := [.string x.name, .int .i64 x.mod, .bool x.fn, .int .i64 x.params, .bool x.here, .bool x.strong]) rfl rfl rfl rfl hS ?_
 clear hS; intro w2 b1 hb_b1 hS
 refine WL.assign rfl rfl rfl (WL.nil (N.seq (W.seq (W.region (WL.fieldAddr fo_110_5 rfl rfl rfl (WL.load1 (v := .bool x.strong) one_4 rfl rfl rfl (hS.cell 0 rfl rfl) (WL.assign rfl rfl rfl (WL.nil (N.seq ?_)))))))))
 refine Fin.ret1 rfl (v := .bool x.strong) rfl ?_
 exact ⟨rfl, hS.below⟩

theorem def2_ret (x : DItem) {w : World} {ro : Nat → Prop} (hro : ∀ b, ro b → b < w.heap.size) : Ret Tryd.prog 87 #[.agg #[.string x.name, .int .i64 x.mod, .bool x.fn, .int .i64 x.params, .bool x.here, .bool x.strong]] w fun v w' => v = .bool (x.here) ∧ Below w.heap.size w w' := by
 refine Ret.enter (P := Tryd.prog) (n := 5) (args := [.agg #[.string x.name, .int .i64 x.mod, .bool x.fn, .int .i64 x.params, .bool x.here, .bool x.strong]]) (σ := [(0, .agg #[.string x.name, .int .i64 x.mod, .bool x.fn, .int .i64 x.params, .bool x.here, .bool x.strong])]) Tryd.func87 rfl rfl rfl rfl ?_
 have hS := St.start (ro := ro) hro
 refine W.seq (W.region ?_)
 refine WL.box (v := .agg #[.string x.name, .int .i64 x.mod, .bool x.fn, .int .i64 x.params, .bool x.here, .bool x.strong]) (cs := [.string x.name, .int .i64 x.mod, .bool x.fn, .int .i64 x.params, .bool x.here, .bool x.strong]) rfl rfl rfl rfl hS ?_
 clear hS; intro w2 b1 hb_b1 hS
 refine WL.assign rfl rfl rfl (WL.nil (N.seq (W.seq (W.region (WL.fieldAddr fo_110_4 rfl rfl rfl (WL.load1 (v := .bool x.here) one_4 rfl rfl rfl (hS.cell 0 rfl rfl) (WL.assign rfl rfl rfl (WL.nil (N.seq ?_)))))))))
 refine Fin.ret1 rfl (v := .bool x.here) rfl ?_
 exact ⟨rfl, hS.below⟩

theorem def1_ret (x : DItem) {w : World} {ro : Nat → Prop} (hro : ∀ b, ro b → b < w.heap.size) : Ret Tryd.prog 86 #[.agg #[.string x.name, .int .i64 x.mod, .bool x.fn, .int .i64 x.params, .bool x.here, .bool x.strong]] w fun v w' => v = .bool (sB9 x) ∧ Below w.heap.size w w' := by
 refine Ret.enter (P := Tryd.prog) (n := 9) (args := [.agg #[.string x.name, .int .i64 x.mod, .bool x.fn, .int .i64 x.params, .bool x.here, .bool x.strong]]) (σ := [(0, .agg #[.string x.name, .int .i64 x.mod, .bool x.fn, .int .i64 x.params, .bool x.here, .bool x.strong])]) Tryd.func86 rfl rfl rfl rfl ?_
 have hS := St.start (ro := ro) hro
 refine W.seq (W.region ?_)
 refine WL.box (v := .agg #[.string x.name, .int .i64 x.mod, .bool x.fn, .int .i64 x.params, .bool x.here, .bool x.strong]) (cs := [.string x.name, .int .i64 x.mod, .bool x.fn, .int .i64 x.params, .bool x.here, .bool x.strong]) rfl rfl rfl rfl hS ?_
 clear hS; intro w2 b1 hb_b1 hS
 refine WL.assign rfl rfl rfl (WL.nil (N.seq (W.seq (W.region (WL.fieldAddr fo_110_4 rfl rfl rfl (WL.load1 (v := .bool x.here) one_4 rfl rfl rfl (hS.cell 0 rfl rfl) (WL.move rfl rfl rfl ?_)))))))
 cases hg3 : x.here
 ·
  refine WL.skp rfl rfl (WL.skp rfl rfl (WL.pick (v := .bool false) rfl rfl rfl rfl rfl rfl (WL.assign rfl rfl rfl (WL.nil (N.seq ?_)))))
  refine Fin.ret1 rfl (v := .bool false) rfl ?_
  refine ⟨?_, hS.below⟩
  congr 1
  simp_all [sB9]
 refine WL.fieldAddr fo_110_5 rfl rfl rfl (WL.load1 (v := .bool x.strong) one_4 rfl rfl rfl (hS.cell 0 rfl rfl) (WL.pick (v := .bool x.strong) rfl rfl rfl rfl rfl rfl (WL.assign rfl rfl rfl (WL.nil (N.seq ?_)))))
 refine Fin.ret1 rfl (v := .bool x.strong) rfl ?_
 refine ⟨?_, hS.below⟩
 congr 1
 simp_all [sB9]

theorem shaped1_ret (g : List DItem) (y x : DItem) (bg : Nat) (ad : Option Addr) (cap : Nat) {w : World} {ro : Nat → Prop} (hro : ∀ b, ro b → b < w.heap.size) (hx : SlV ro w 6 ItemC (.slice ad g.length cap) g) (hbg : ro bg) (hcg : CellsAt w bg 0 [.slice ad g.length cap]) (hy : g[0]? = some y) : Ret Tryd.prog 82 #[.agg #[.string x.name, .int .i64 x.mod, .bool x.fn, .int .i64 x.params, .bool x.here, .bool x.strong], .pointer (some ⟨bg, 0, none⟩)] w fun v w' => v = .bool (odd9 y x) ∧ Below w.heap.size w w' := by
 have had : Elems ro w 6 ItemC ad g := by obtain ⟨_, _, e, _, _, _, h⟩ := id hx; cases e; exact h
 refine Ret.enter (P := Tryd.prog) (n := 20) (args := [.agg #[.string x.name, .int .i64 x.mod, .bool x.fn, .int .i64 x.params, .bool x.here, .bool x.strong], .pointer (some ⟨bg, 0, none⟩)]) (σ := [(0, .agg #[.string x.name, .int .i64 x.mod, .bool x.fn, .int .i64 x.params, .bool x.here, .bool x.strong]), (1, .pointer (some ⟨bg, 0, none⟩))]) Tryd.func82 rfl rfl rfl rfl ?_
 have hS := St.start (ro := ro) hro
 have hS0 := hS
 have hlen0 : 0 < g.length := (List.getElem?_eq_some_iff.1 hy).1
 refine W.seq (W.region ?_)
 refine WL.box (v := .agg #[.string x.name, .int .i64 x.mod, .bool x.fn, .int .i64 x.params, .bool x.here, .bool x.strong]) (cs := [.string x.name, .int .i64 x.mod, .bool x.fn, .int .i64 x.params, .bool x.here, .bool x.strong]) rfl rfl rfl rfl hS ?_
 clear hS; intro w2 b1 hb_b1 hS
 refine WL.assign rfl rfl rfl (WL.nil (N.seq (W.seq ?_)))
 have hj3 : 0 < g.length := by omega
 obtain ⟨x3, hx3⟩ : ∃ zz, g[0]? = some zz := ⟨_, List.getElem?_eq_getElem hj3⟩
 obtain ⟨b3, o3, cs3, hE3, hr3, hl3, hc3, hQ3⟩ := had 0 _ hx3
 obtain ⟨rfl, hin3, him3, hip3⟩ := hQ3
 cases hg4 : (x.fn != x3.fn)
 ·
  refine W.drawL (by kernel_rfl) 16 ((.q (.pointer (some ⟨b1, 2, none⟩))) :: (.q (.bool x.fn)) :: (.q (.slice ad g.length cap)) :: (.q (.pointer (some ⟨b3, o3 + 0 * 6, none⟩))) :: (.q (.pointer (some ⟨b3, o3 + 0 * 6 + 2, none⟩))) :: (.q (.bool x3.fn)) :: (.q (.bool false)) :: (.q (.bool false)) :: (.q (.pointer (some ⟨b1, 3, none⟩))) :: (.q (.int .i64 x.params)) :: (.q (.slice ad g.length cap)) :: (.q (.pointer (some ⟨b3, o3 + 0 * 6, none⟩))) :: (.q (.pointer (some ⟨b3, o3 + 0 * 6 + 3, none⟩))) :: (.q (.int .i64 x3.params)) :: (.q (.bool (!decide (x.params = x3.params)))) :: (.q (.bool (!decide (x.params = x3.params)))) :: []) (by kernel_rfl) (by kernel_rfl) [(1, .pointer (some ⟨bg, 0, none⟩)), (2, .pointer (some ⟨b1, 0, none⟩)), (3, .bool false)] ⟨rfl, rfl, rfl, trivial⟩ (by kernel_rfl) hS ?_ ?_
  ·
   refine And.intro (fun β w hS => ?_) ?_
   ·
    refine WL.sub (σ' := [(2, .pointer (some ⟨b1, 0, none⟩))]) ⟨rfl, trivial⟩ ?_
    refine WL.fieldAddr fo_110_2 rfl rfl rfl ?_
    exact WL.nil (N.cut () ⟨rfl, trivial⟩ (Below.refl _ _))
   refine And.intro (fun β w hS => ?_) ?_
   ·
    refine WL.sub (σ' := [(4, .pointer (some ⟨b1, 2, none⟩))]) ⟨rfl, trivial⟩ ?_
    refine WL.load1 (v := .bool x.fn) one_4 rfl rfl rfl (hS.cell 0 rfl rfl) ?_
    exact WL.nil (N.cut () ⟨rfl, trivial⟩ (Below.refl _ _))
   refine And.intro (fun β w hS => ?_) ?_
   ·
    refine WL.sub (σ' := [(1, .pointer (some ⟨bg, 0, none⟩))]) ⟨rfl, trivial⟩ ?_
    refine WL.load1 (v := .slice ad g.length cap) one_115 rfl rfl rfl (hS.roCells hbg hcg 0 _ rfl) ?_
    exact WL.nil (N.cut () ⟨rfl, trivial⟩ (Below.refl _ _))
   refine And.intro (fun β w hS => ?_) ?_
   ·
    refine WL.sub (σ' := [(6, .slice ad g.length cap)]) ⟨rfl, trivial⟩ ?_
    refine WL.indexAddrE (j := 0) Tryd.underlying115 isz_110 rfl rfl rfl rfl hj3 hE3 ?_
    exact WL.nil (N.cut () ⟨rfl, trivial⟩ (Below.refl _ _))
   refine And.intro (fun β w hS => ?_) ?_
   ·
    refine WL.sub (σ' := [(7, .pointer (some ⟨b3, o3 + 0 * 6, none⟩))]) ⟨rfl, trivial⟩ ?_
    refine WL.fieldAddr fo_110_2 rfl rfl rfl ?_
    exact WL.nil (N.cut () ⟨rfl, trivial⟩ (Below.refl _ _))
   refine And.intro (fun β w hS => ?_) ?_
   ·
    refine WL.sub (σ' := [(8, .pointer (some ⟨b3, o3 + 0 * 6 + 2, none⟩))]) ⟨rfl, trivial⟩ ?_
    refine WL.load1 (v := .bool x3.fn) one_4 rfl rfl rfl (hS.roCells hr3 hc3 2 _ rfl) ?_
    exact WL.nil (N.cut () ⟨rfl, trivial⟩ (Below.refl _ _))
   refine And.intro (fun β w hS => ?_) ?_
   ·
    refine WL.sub (σ' := [(5, .bool x.fn), (9, .bool x3.fn)]) ⟨rfl, rfl, trivial⟩ ?_
    refine WL.neBool Tryd.underlying4 rfl rfl rfl rfl ?_
    refine WL.set 10 (v' := .bool false) rfl (by rw [hg4]) ?_
    exact WL.nil (N.cut () ⟨rfl, trivial⟩ (Below.refl _ _))
   refine And.intro (fun β w hS => ?_) ?_
   ·
    refine WL.sub (σ' := [(10, .bool false)]) ⟨rfl, trivial⟩ ?_
    refine WL.move rfl rfl rfl ?_
    exact WL.nil (N.cut () ⟨rfl, trivial⟩ (Below.refl _ _))
   refine And.intro (fun β w hS => ?_) ?_
   ·
    refine WL.sub (σ' := [(2, .pointer (some ⟨b1, 0, none⟩)), (11, .bool false)]) ⟨rfl, rfl, trivial⟩ ?_
    refine WL.fieldAddr fo_110_3 rfl rfl rfl ?_
    exact WL.nil (N.cut () ⟨rfl, trivial⟩ (Below.refl _ _))
   refine And.intro (fun β w hS => ?_) ?_
   ·
    refine WL.sub (σ' := [(11, .bool false), (12, .pointer (some ⟨b1, 3, none⟩))]) ⟨rfl, rfl, trivial⟩ ?_
    refine WL.load1 (v := .int .i64 x.params) one_3 rfl rfl rfl (hS.cell 0 rfl rfl) ?_
    exact WL.nil (N.cut () ⟨rfl, trivial⟩ (Below.refl _ _))
   refine And.intro (fun β w hS => ?_) ?_
   ·
    refine WL.sub (σ' := [(1, .pointer (some ⟨bg, 0, none⟩)), (11, .bool false)]) ⟨rfl, rfl, trivial⟩ ?_
    refine WL.load1 (v := .slice ad g.length cap) one_115 rfl rfl rfl (hS.roCells hbg hcg 0 _ rfl) ?_
    exact WL.nil (N.cut () ⟨rfl, trivial⟩ (Below.refl _ _))
   refine And.intro (fun β w hS => ?_) ?_
   ·
    refine WL.sub (σ' := [(11, .bool false), (14, .slice ad g.length cap)]) ⟨rfl, rfl, trivial⟩ ?_
    refine WL.indexAddrE (j := 0) Tryd.underlying115 isz_110 rfl rfl rfl rfl hj3 hE3 ?_
    exact WL.nil (N.cut () ⟨rfl, trivial⟩ (Below.refl _ _))
   refine And.intro (fun β w hS => ?_) ?_
   ·
    refine WL.sub (σ' := [(11, .bool false), (15, .pointer (some ⟨b3, o3 + 0 * 6, none⟩))]) ⟨rfl, rfl, trivial⟩ ?_
    refine WL.fieldAddr fo_110_3 rfl rfl rfl ?_
    exact WL.nil (N.cut () ⟨rfl, trivial⟩ (Below.refl _ _))
   refine And.intro (fun β w hS => ?_) ?_
   ·
    refine WL.sub (σ' := [(11, .bool false), (16, .pointer (some ⟨b3, o3 + 0 * 6 + 3, none⟩))]) ⟨rfl, rfl, trivial⟩ ?_
    refine WL.load1 (v := .int .i64 x3.params) one_3 rfl rfl rfl (hS.roCells hr3 hc3 3 _ rfl) ?_
    exact WL.nil (N.cut () ⟨rfl, trivial⟩ (Below.refl _ _))
   refine And.intro (fun β w hS => ?_) ?_
   ·
    refine WL.sub (σ' := [(11, .bool false), (13, .int .i64 x.params), (17, .int .i64 x3.params)]) ⟨rfl, rfl, rfl, trivial⟩ ?_
    refine WL.bin rfl rfl rfl rfl rfl ?_
    exact WL.nil (N.cut () ⟨rfl, trivial⟩ (Below.refl _ _))
   refine And.intro (fun β w hS => ?_) ?_
   ·
    refine WL.sub (σ' := [(11, .bool false), (18, .bool (!decide (x.params = x3.params)))]) ⟨rfl, rfl, trivial⟩ ?_
    refine WL.pick (v := .bool (!decide (x.params = x3.params))) rfl rfl rfl rfl rfl rfl ?_
    exact WL.nil (N.cut () ⟨rfl, trivial⟩ (Below.refl _ _))
   trivial
  clear hS; intro w5 β hS
  refine WL.sub (σ' := [(3, .bool false), (19, .bool (!decide (x.params = x3.params)))]) ⟨rfl, rfl, trivial⟩ ?_
  refine WL.assign rfl rfl rfl (WL.nil (N.seq ?_))
  refine Fin.ret1 rfl (v := .bool (!decide (x.params = x3.params))) rfl ?_
  clear hS0
  have hbz := hS.below
  clear hS
  obtain rfl : y = x3 := Option.some.inj (hy.symm.trans hx3)
  refine ⟨?_, hbz⟩
  congr 1
  unfold odd9
  simp_all
 refine W.drawL (by kernel_rfl) 16 ((.q (.pointer (some ⟨b1, 2, none⟩))) :: (.q (.bool x.fn)) :: (.q (.slice ad g.length cap)) :: (.q (.pointer (some ⟨b3, o3 + 0 * 6, none⟩))) :: (.q (.pointer (some ⟨b3, o3 + 0 * 6 + 2, none⟩))) :: (.q (.bool x3.fn)) :: (.q (.bool true)) :: (.q (.bool true)) :: (.q undef) :: (.q undef) :: (.q undef) :: (.q undef) :: (.q undef) :: (.q undef) :: (.q undef) :: (.q (.bool true)) :: []) (by kernel_rfl) (by kernel_rfl) [(1, .pointer (some ⟨bg, 0, none⟩)), (2, .pointer (some ⟨b1, 0, none⟩)), (3, .bool false)] ⟨rfl, rfl, rfl, trivial⟩ (by kernel_rfl) hS ?_ ?_
 ·
  refine And.intro (fun β w hS => ?_) ?_
  ·
   refine WL.sub (σ' := [(2, .pointer (some ⟨b1, 0, none⟩))]) ⟨rfl, trivial⟩ ?_
   refine WL.fieldAddr fo_110_2 rfl rfl rfl ?_
   exact WL.nil (N.cut () ⟨rfl, trivial⟩ (Below.refl _ _))
  refine And.intro (fun β w hS => ?_) ?_
  ·
   refine WL.sub (σ' := [(4, .pointer (some ⟨b1, 2, none⟩))]) ⟨rfl, trivial⟩ ?_
   refine WL.load1 (v := .bool x.fn) one_4 rfl rfl rfl (hS.cell 0 rfl rfl) ?_
   exact WL.nil (N.cut () ⟨rfl, trivial⟩ (Below.refl _ _))
  refine And.intro (fun β w hS => ?_) ?_
  ·
   refine WL.sub (σ' := [(1, .pointer (some ⟨bg, 0, none⟩))]) ⟨rfl, trivial⟩ ?_
   refine WL.load1 (v := .slice ad g.length cap) one_115 rfl rfl rfl (hS.roCells hbg hcg 0 _ rfl) ?_
   exact WL.nil (N.cut () ⟨rfl, trivial⟩ (Below.refl _ _))
  refine And.intro (fun β w hS => ?_) ?_
  ·
   refine WL.sub (σ' := [(6, .slice ad g.length cap)]) ⟨rfl, trivial⟩ ?_
   refine WL.indexAddrE (j := 0) Tryd.underlying115 isz_110 rfl rfl rfl rfl hj3 hE3 ?_
   exact WL.nil (N.cut () ⟨rfl, trivial⟩ (Below.refl _ _))
  refine And.intro (fun β w hS => ?_) ?_
  ·
   refine WL.sub (σ' := [(7, .pointer (some ⟨b3, o3 + 0 * 6, none⟩))]) ⟨rfl, trivial⟩ ?_
   refine WL.fieldAddr fo_110_2 rfl rfl rfl ?_
   exact WL.nil (N.cut () ⟨rfl, trivial⟩ (Below.refl _ _))
  refine And.intro (fun β w hS => ?_) ?_
  ·
   refine WL.sub (σ' := [(8, .pointer (some ⟨b3, o3 + 0 * 6 + 2, none⟩))]) ⟨rfl, trivial⟩ ?_
   refine WL.load1 (v := .bool x3.fn) one_4 rfl rfl rfl (hS.roCells hr3 hc3 2 _ rfl) ?_
   exact WL.nil (N.cut () ⟨rfl, trivial⟩ (Below.refl _ _))
  refine And.intro (fun β w hS => ?_) ?_
  ·
   refine WL.sub (σ' := [(5, .bool x.fn), (9, .bool x3.fn)]) ⟨rfl, rfl, trivial⟩ ?_
   refine WL.neBool Tryd.underlying4 rfl rfl rfl rfl ?_
   refine WL.set 10 (v' := .bool true) rfl (by rw [hg4]) ?_
   exact WL.nil (N.cut () ⟨rfl, trivial⟩ (Below.refl _ _))
  refine And.intro (fun β w hS => ?_) ?_
  ·
   refine WL.sub (σ' := [(10, .bool true)]) ⟨rfl, trivial⟩ ?_
   refine WL.move rfl rfl rfl ?_
   exact WL.nil (N.cut () ⟨rfl, trivial⟩ (Below.refl _ _))
  refine And.intro (fun β w hS => ?_) ?_
  ·
   refine WL.sub (σ' := [(2, .pointer (some ⟨b1, 0, none⟩)), (11, .bool true)]) ⟨rfl, rfl, trivial⟩ ?_
   refine WL.skp rfl rfl ?_
   exact WL.nil (N.cut () ⟨rfl, trivial⟩ (Below.refl _ _))
  refine And.intro (fun β w hS => ?_) ?_
  ·
   refine WL.sub (σ' := [(11, .bool true), (12, undef)]) ⟨rfl, rfl, trivial⟩ ?_
   refine WL.skp rfl rfl ?_
   exact WL.nil (N.cut () ⟨rfl, trivial⟩ (Below.refl _ _))
  refine And.intro (fun β w hS => ?_) ?_
  ·
   refine WL.sub (σ' := [(1, .pointer (some ⟨bg, 0, none⟩)), (11, .bool true)]) ⟨rfl, rfl, trivial⟩ ?_
   refine WL.skp rfl rfl ?_
   exact WL.nil (N.cut () ⟨rfl, trivial⟩ (Below.refl _ _))
  refine And.intro (fun β w hS => ?_) ?_
  ·
   refine WL.sub (σ' := [(11, .bool true), (14, undef)]) ⟨rfl, rfl, trivial⟩ ?_
   refine WL.skp rfl rfl ?_
   exact WL.nil (N.cut () ⟨rfl, trivial⟩ (Below.refl _ _))
  refine And.intro (fun β w hS => ?_) ?_
  ·
   refine WL.sub (σ' := [(11, .bool true), (15, undef)]) ⟨rfl, rfl, trivial⟩ ?_
   refine WL.skp rfl rfl ?_
   exact WL.nil (N.cut () ⟨rfl, trivial⟩ (Below.refl _ _))
  refine And.intro (fun β w hS => ?_) ?_
  ·
   refine WL.sub (σ' := [(11, .bool true), (16, undef)]) ⟨rfl, rfl, trivial⟩ ?_
   refine WL.skp rfl rfl ?_
   exact WL.nil (N.cut () ⟨rfl, trivial⟩ (Below.refl _ _))
  refine And.intro (fun β w hS => ?_) ?_
  ·
   refine WL.sub (σ' := [(11, .bool true), (13, undef), (17, undef)]) ⟨rfl, rfl, rfl, trivial⟩ ?_
   refine WL.skp rfl rfl ?_
   exact WL.nil (N.cut () ⟨rfl, trivial⟩ (Below.refl _ _))
  refine And.intro (fun β w hS => ?_) ?_
  ·
   refine WL.sub (σ' := [(11, .bool true), (18, undef)]) ⟨rfl, rfl, trivial⟩ ?_
   refine WL.pick (v := .bool true) rfl rfl rfl rfl rfl rfl ?_
   exact WL.nil (N.cut () ⟨rfl, trivial⟩ (Below.refl _ _))
  trivial
 clear hS; intro w6 β hS
 refine WL.sub (σ' := [(3, .bool false), (19, .bool true)]) ⟨rfl, rfl, trivial⟩ ?_
 refine WL.assign rfl rfl rfl (WL.nil (N.seq ?_))
 refine Fin.ret1 rfl (v := .bool true) rfl ?_
 clear hS0
 have hbz := hS.below
 clear hS
 obtain rfl : y = x3 := Option.some.inj (hy.symm.trans hx3)
 refine ⟨?_, hbz⟩
 congr 1
 unfold odd9
 simp_all

theorem shaped_ret (g : List DItem) (vx : Value) {w : World} {ro : Nat → Prop} (hro : ∀ b, ro b → b < w.heap.size) (hx : SlV ro w 6 ItemC vx g) : Ret Tryd.prog 51 #[vx] w fun v w' => v = .bool (!oddG g) ∧ Below w.heap.size w w' := by
 obtain ⟨ad, cap, rfl, haa, hab, hac, had⟩ := id hx
 have ham : g.length ≤ 9223372036854775807 := by have h1 := haa; have h2 := hab; unfold maxLen at h2; omega
 refine Ret.enter (P := Tryd.prog) (n := 7) (args := [.slice ad g.length cap]) (σ := [(0, .slice ad g.length cap)]) Tryd.func51 rfl rfl rfl rfl ?_
 have hS := St.start (ro := ro) hro
 refine W.seq (W.region ?_)
 refine WL.box (v := .slice ad g.length cap) (cs := [.slice ad g.length cap]) rfl rfl rfl rfl hS ?_
 clear hS; intro w2 b1 hb_b1 hS
 refine WL.assign rfl rfl rfl (WL.nil (N.seq (W.seq (W.region (WL.load1 (v := .slice ad g.length cap) one_115 rfl rfl rfl (hS.cell 0 rfl rfl) ?_)))))
 refine WL.makeFunc (vs := #[.pointer (some ⟨b1, 0, none⟩)]) rfl rfl rfl ?_
 refine WL.callF (vs := [.slice ad g.length cap, .func (.func 82) #[] #[.pointer (some ⟨b1, 0, none⟩)]]) Tryd.func81 (by kernel_rfl) rfl rfl rfl (coItem_ret g (fun x => odd9 (g.getD 0 item0) x) _ (ro := ro) (fun b hb => (hS.snap b hb).1) (SlV.keep hx hS.alike (fun _ _ q => q)) Tryd.func82 (by kernel_rfl) (fun x u hm hb => ?_)) ?_
 ·
  obtain ⟨y, hy⟩ : ∃ y, g[0]? = some y := by
   obtain ⟨i, hi⟩ := List.mem_iff_getElem?.1 hm
   exact ⟨_, List.getElem?_eq_getElem (by have := (List.getElem?_eq_some_iff.1 hi).1; omega)⟩
  have hgd : g.getD 0 item0 = y := by rw [List.getD_eq_getElem?_getD, hy]; rfl
  rw [hgd]
  exact shaped1_ret g y x b1 ad cap (ro := fun z => z < u.heap.size) (fun _ h => h) (SlV.keep hx (fun z hz => ⟨Nat.lt_of_lt_of_le (hS.snap z hz).1 hb.size, (hb.block z (hS.snap z hz).1).trans (hS.snap z hz).2⟩) (fun _ _ q => q)) (Nat.lt_of_lt_of_le (hS.keys b1 (by simp [keysOf])).2.1 hb.size) ((hS.cells 0 (m := 1) rfl rfl).keep (hb.block _ (hS.keys b1 (by simp [keysOf])).2.1)) hy
 rintro v w3 ⟨rfl, hbl⟩
 replace hS := hS.grow hbl
 refine WL.not rfl rfl rfl (WL.assign rfl rfl rfl (WL.nil (N.seq ?_)))
 refine Fin.ret1 rfl (v := .bool (!(oddG g))) rfl ?_
 exact ⟨rfl, hS.below⟩

theorem many_ret (g : List DItem) (vx : Value) {w : World} {ro : Nat → Prop} (hro : ∀ b, ro b → b < w.heap.size) (hx : SlV ro w 6 ItemC vx g) : Ret Tryd.prog 53 #[vx] w fun v w' => v = .int .i64 (many9 g) ∧ Below w.heap.size w w' := by
 obtain ⟨ad, cap, rfl, haa, hab, hac, had⟩ := id hx
 have ham : g.length ≤ 9223372036854775807 := by have h1 := haa; have h2 := hab; unfold maxLen at h2; omega
 refine Ret.enter (P := Tryd.prog) (n := 22) (args := [.slice ad g.length cap]) (σ := [(0, .slice ad g.length cap)]) Tryd.func53 rfl rfl rfl rfl ?_
 have hS := St.start (ro := ro) hro
 refine W.seq (W.region (WL.assign rfl rfl rfl (WL.nil (N.seq (W.seq (W.region (WL.assign rfl rfl rfl (WL.nil (N.seq ?_)))))))))
 refine W.seq (W.seq (W.region (WL.move rfl rfl rfl (WL.lenSlice Tryd.underlying115 rfl rfl rfl (WL.move rfl rfl rfl (WL.nil (N.seq (W.block ?_))))))))
 refine W.loop (α := Nat × Int) (fun ⟨k, cn⟩ => [(2, .int .i64 0), (3, .int .i64 cn), (6, .slice ad g.length cap), (7, .int .i64 (g.length : Int)), (8, .int .i64 (k : Int))]) (fun ⟨k, cn⟩ u => St w w u ro [] [] ∧ k ≤ g.length ∧ cn = (((g.take k).filter sB9).length : Int)) (fun ⟨k, cn⟩ => g.length - k) (0, 0) ⟨rfl, rfl, rfl, rfl, rfl, trivial⟩ ⟨hS, Nat.zero_le _, by simp⟩ ?_
 clear hS
 rintro ⟨k, cn⟩ w1 ⟨hS, hk, hcn⟩
 refine W.seq (W.region (WL.bin rfl rfl rfl rfl rfl (WL.nil (N.seq (W.seq ?_)))))
 refine W.cond rfl (fun hc2 => ?_) (fun hc2 => ?_)
 ·
  have hc2p : (k : Int) < (g.length : Int) := by simpa using hc2
  refine W.skip (N.seq (W.seq (W.block (W.seq (W.region ?_)))))
  have hj3 : k < g.length := by omega
  obtain ⟨x3, hx3⟩ : ∃ zz, g[k]? = some zz := ⟨_, List.getElem?_eq_getElem hj3⟩
  obtain ⟨b3, o3, cs3, hE3, hr3, hl3, hc3, hQ3⟩ := had k _ hx3
  obtain ⟨rfl, hin3, him3, hip3⟩ := hQ3
  refine WL.indexAddrE (j := k) Tryd.underlying115 isz_110 rfl rfl rfl rfl hj3 hE3 (WL.loadN (cs := [.string x3.name, .int .i64 x3.mod, .bool x3.fn, .int .i64 x3.params, .bool x3.here, .bool x3.strong]) agg_110 rfl rfl rfl rfl (hS.roCells hr3 hc3) ?_)
  refine WL.alloc (tyZero_spec zer_110) rfl rfl hS ?_
  clear hS; intro w5 b4 hb_b4 hS
  refine WL.store (L' := [(b4, .cells #[.string x3.name, .int .i64 x3.mod, .bool x3.fn, .int .i64 x3.params, .bool x3.here, .bool x3.strong] 110 (0, 0))]) 0 rfl rfl rfl rfl siz_110 rfl rfl rfl rfl rfl hS ?_
  clear hS; intro w6 hS
  refine WL.nil (N.seq (W.seq (W.region (WL.fieldAddr fo_110_4 rfl rfl rfl (WL.load1 (v := .bool x3.here) one_4 rfl rfl rfl (hS.cell 0 rfl rfl) (WL.move rfl rfl rfl ?_))))))
  cases hg7 : x3.here
  ·
   refine WL.skp rfl rfl (WL.skp rfl rfl (WL.pick (v := .bool false) rfl rfl rfl rfl rfl rfl (WL.nil (N.seq (W.condF rfl (W.skip (N.blk (N.seq (W.region ?_)))))))))
   refine WL.add (c := (k : Int) + 1) rfl rfl rfl rfl (rfl) (by omega) ?_
   refine WL.move rfl rfl rfl (WL.nil ?_)
   have hS := hS.dropN 1
   have hs : sB9 x3 = false := by simp [sB9, hg7]
   have hcn2 : (cn : Int) = (((g.take (k + 1)).filter sB9).length : Int) := by rw [take_next hx3, List.filter_append, List.length_append, hcn]; simp [hs]
   exact N.loop (k + 1, cn) ⟨rfl, rfl, rfl, rfl, rfl, trivial⟩ ⟨hS, by omega, hcn2⟩ (by first | omega | (simp only; omega))
  refine WL.fieldAddr fo_110_5 rfl rfl rfl (WL.load1 (v := .bool x3.strong) one_4 rfl rfl rfl (hS.cell 0 rfl rfl) (WL.pick (v := .bool x3.strong) rfl rfl rfl rfl rfl rfl (WL.nil (N.seq ?_))))
  refine W.cond rfl (fun hc8 => ?_) (fun hc8 => ?_)
  ·
   refine W.region (WL.move rfl rfl rfl ?_)
   refine WL.add (c := cn + 1) rfl rfl rfl rfl (rfl) (by have h1 := List.length_filter_le sB9 (g.take k); have h2 : (g.take k).length ≤ k := List.length_take_le k g; omega) ?_
   refine WL.assign rfl rfl rfl (WL.nil (N.blk (N.seq (W.region ?_))))
   refine WL.add (c := (k : Int) + 1) rfl rfl rfl rfl (rfl) (by omega) ?_
   refine WL.move rfl rfl rfl (WL.nil ?_)
   have hS := hS.dropN 1
   have hs : sB9 x3 = true := by simp [sB9, hg7, hc8]
   have hcn2 : (cn + 1 : Int) = (((g.take (k + 1)).filter sB9).length : Int) := by rw [take_next hx3, List.filter_append, List.length_append, hcn]; simp [hs]
   exact N.loop (k + 1, cn + 1) ⟨rfl, rfl, rfl, rfl, rfl, trivial⟩ ⟨hS, by omega, hcn2⟩ (by first | omega | (simp only; omega))
  refine W.skip (N.blk (N.seq (W.region ?_)))
  refine WL.add (c := (k : Int) + 1) rfl rfl rfl rfl (rfl) (by omega) ?_
  refine WL.move rfl rfl rfl (WL.nil ?_)
  have hS := hS.dropN 1
  have hs : sB9 x3 = false := by simp [sB9, hg7, hc8]
  have hcn2 : (cn : Int) = (((g.take (k + 1)).filter sB9).length : Int) := by rw [take_next hx3, List.filter_append, List.length_append, hcn]; simp [hs]
  exact N.loop (k + 1, cn) ⟨rfl, rfl, rfl, rfl, rfl, trivial⟩ ⟨hS, by omega, hcn2⟩ (by first | omega | (simp only; omega))
 have hc2p : ¬ ((k : Int) < (g.length : Int)) := by simpa using hc2
 refine W.exit (X.seq (X.loop (X.blk (N.seq (W.seq (W.region (WL.move rfl rfl rfl (WL.assign rfl rfl rfl (WL.nil ?_)))))))))
 refine N.seq ?_
 refine Fin.ret1 rfl (v := .int .i64 cn) rfl ?_
 have e : k = g.length := by omega
 subst e
 rw [List.take_length] at hcn
 exact ⟨by rw [hcn]; rfl, hS.below⟩

theorem missing_ret (g : List DItem) (vx : Value) {w : World} {ro : Nat → Prop} (hro : ∀ b, ro b → b < w.heap.size) (hx : SlV ro w 6 ItemC vx g) : Ret Tryd.prog 54 #[vx] w fun v w' => v = .bool (missing9 g) ∧ Below w.heap.size w w' := by
 obtain ⟨ad, cap, rfl, haa, hab, hac, had⟩ := id hx
 have ham : g.length ≤ 9223372036854775807 := by have h1 := haa; have h2 := hab; unfold maxLen at h2; omega
 refine Ret.enter (P := Tryd.prog) (n := 12) (args := [.slice ad g.length cap]) (σ := [(0, .slice ad g.length cap)]) Tryd.func54 rfl rfl rfl rfl ?_
 have hS := St.start (ro := ro) hro
 refine W.seq (W.region (WL.assign rfl rfl rfl (WL.nil (N.seq (W.seq (W.region (WL.move rfl rfl rfl ?_)))))))
 refine WL.callF (vs := [.slice ad g.length cap, .func (.func 83) #[] #[]]) Tryd.func81 (by kernel_rfl) rfl rfl rfl (coItem_ret g (fun x => x.here) _ (ro := ro) (fun b hb => (hS.snap b hb).1) (SlV.keep hx hS.alike (fun _ _ q => q)) Tryd.func83 (by kernel_rfl) (fun x u hm hb => missing1_ret x (ro := fun _ => False) (fun _ h => h.elim))) ?_
 rintro v w1 ⟨rfl, hbl⟩
 replace hS := hS.grow hbl
 refine WL.assign rfl rfl rfl (WL.nil (N.seq (W.seq (W.region (WL.move rfl rfl rfl (WL.not rfl rfl rfl (WL.move rfl rfl rfl ?_)))))))
 cases hg2 : (!(g.any (fun x => x.here)))
 ·
  refine WL.skp rfl rfl (WL.skp rfl rfl (WL.pick (v := .bool false) rfl rfl rfl rfl rfl rfl (WL.assign rfl rfl rfl (WL.nil (N.seq ?_)))))
  refine Fin.ret1 rfl (v := .bool false) rfl ?_
  have hbz := hS.below
  clear hS
  refine ⟨?_, hbz⟩
  congr 1
  unfold missing9
  have e : (g.any fun x => x.here) = g.any hB9 := rfl
  first | rw [e] at hg2 | skip
  generalize g.any hB9 = b at *
  cases b <;> simp_all
 refine WL.move rfl rfl rfl ?_
 refine WL.callF (vs := [.slice ad g.length cap, .func (.func 84) #[] #[]]) Tryd.func81 (by kernel_rfl) rfl rfl rfl (coItem_ret g (fun x => x.strong) _ (ro := ro) (fun b hb => (hS.snap b hb).1) (SlV.keep hx hS.alike (fun _ _ q => q)) Tryd.func84 (by kernel_rfl) (fun x u hm hb => missing2_ret x (ro := fun _ => False) (fun _ h => h.elim))) ?_
 rintro v w3 ⟨rfl, hbl⟩
 replace hS := hS.grow hbl
 refine WL.pick (v := .bool (g.any (fun x => x.strong))) rfl rfl rfl rfl rfl rfl (WL.assign rfl rfl rfl (WL.nil (N.seq ?_)))
 refine Fin.ret1 rfl (v := .bool (g.any (fun x => x.strong))) rfl ?_
 have hbz := hS.below
 clear hS
 refine ⟨?_, hbz⟩
 congr 1
 unfold missing9
 have e : (g.any fun x => x.here) = g.any hB9 := rfl
 first | rw [e] at hg2 | skip
 generalize g.any hB9 = b at *
 cases b <;> simp_all

theorem def_ret (g : List DItem) (vx : Value) {w : World} {ro : Nat → Prop} (hro : ∀ b, ro b → b < w.heap.size) (hx : SlV ro w 6 ItemC vx g) (hg0 : 0 < g.length) : Ret Tryd.prog 55 #[vx] w fun v w' => v = defV (def9 g) ∧ Below w.heap.size w w' := by
 obtain ⟨ad, cap, rfl, haa, hab, hac, had⟩ := id hx
 have ham : g.length ≤ 9223372036854775807 := by have h1 := haa; have h2 := hab; unfold maxLen at h2; omega
 refine Ret.enter (P := Tryd.prog) (n := 36) (args := [.slice ad g.length cap]) (σ := [(0, .slice ad g.length cap)]) Tryd.func55 rfl rfl rfl rfl ?_
 have hS := St.start (ro := ro) hro
 refine W.seq (W.region ?_)
 refine WL.alloc (tyZero_spec zer_66) rfl rfl hS ?_
 clear hS; intro w2 b1 hb_b1 hS
 refine WL.nil (N.seq (W.seq (W.region (WL.move rfl rfl rfl ?_))))
 refine WL.callF (vs := [.slice ad g.length cap, .func (.func 86) #[] #[]]) Tryd.func85 (by kernel_rfl) rfl rfl rfl (ixItem_ret g sB9 _ (ro := ro) (fun b hb => (hS.snap b hb).1) (SlV.keep hx hS.alike (fun _ _ q => q)) Tryd.func86 (by kernel_rfl) (fun x u hm hb => def1_ret x (ro := fun _ => False) (fun _ h => h.elim))) ?_
 rintro v w3 ⟨rfl, hbl⟩
 replace hS := hS.grow hbl
 refine WL.assign rfl rfl rfl (WL.nil (N.seq (W.seq (W.region (WL.move rfl rfl rfl ?_)))))
 refine WL.callF (vs := [.slice ad g.length cap, .func (.func 87) #[] #[]]) Tryd.func85 (by kernel_rfl) rfl rfl rfl (ixItem_ret g hB9 _ (ro := ro) (fun b hb => (hS.snap b hb).1) (SlV.keep hx hS.alike (fun _ _ q => q)) Tryd.func87 (by kernel_rfl) (fun x u hm hb => def2_ret x (ro := fun _ => False) (fun _ h => h.elim))) ?_
 rintro v w4 ⟨rfl, hbl⟩
 replace hS := hS.grow hbl
 refine WL.assign rfl rfl rfl (WL.nil (N.seq (W.seq (W.region (WL.move rfl rfl rfl (WL.assign rfl rfl rfl (WL.nil (N.seq (W.seq ?_)))))))))
 refine W.block (W.seq (W.region (WL.move rfl rfl rfl (WL.bin rfl rfl rfl rfl rfl (WL.assign rfl rfl rfl (WL.nil (N.seq ?_)))))))
 refine W.cond rfl (fun hc5 => ?_) (fun hc5 => ?_)
 ·
  have hc5p : ixI hB9 g < 0 := by simpa using hc5
  refine W.region (WL.assign rfl rfl rfl (WL.nil (N.blk (N.seq (W.seq ?_)))))
  have hj6 : 0 < g.length := hg0
  obtain ⟨x6, hx6⟩ : ∃ zz, g[0]? = some zz := ⟨_, List.getElem?_eq_getElem hj6⟩
  obtain ⟨b6, o6, cs6, hE6, hr6, hl6, hc6, hQ6⟩ := had 0 _ hx6
  obtain ⟨rfl, hin6, him6, hip6⟩ := hQ6
  refine W.drawL (by kernel_rfl) 18 ((.q (.slice ad g.length cap)) :: (.q (.pointer (some ⟨b6, o6 + 0 * 6, none⟩))) :: (.q (.pointer (some ⟨b6, o6 + 0 * 6, none⟩))) :: (.q (.string x6.name)) :: (.q (.slice ad g.length cap)) :: (.q (.int .i64 0)) :: (.q (.pointer (some ⟨b6, o6 + 0 * 6, none⟩))) :: (.q (.pointer (some ⟨b6, o6 + 0 * 6 + 1, none⟩))) :: (.q (.int .i64 x6.mod)) :: (.q (.slice ad g.length cap)) :: (.q (.pointer (some ⟨b6, o6 + 0 * 6, none⟩))) :: (.q (.pointer (some ⟨b6, o6 + 0 * 6 + 2, none⟩))) :: (.q (.bool x6.fn)) :: (.q (.int .i64 (ixI sB9 g))) :: (.q (.bool (decide (ixI sB9 g < 0)))) :: (.q (.int .i64 (ixI hB9 g))) :: (.q (.bool (decide (0 ≤ ixI hB9 g)))) :: (.q (.agg #[.string x6.name, .int .i64 x6.mod, .bool x6.fn, .bool (decide (ixI sB9 g < 0)), .bool (decide (0 ≤ ixI hB9 g))])) :: []) (by kernel_rfl) (by kernel_rfl) [(0, .slice ad g.length cap), (2, .pointer (some ⟨b1, 0, none⟩)), (3, .int .i64 (ixI sB9 g)), (4, .int .i64 (ixI hB9 g)), (5, .int .i64 0)] ⟨rfl, rfl, rfl, rfl, rfl, trivial⟩ (by kernel_rfl) hS ?_ ?_
  ·
   refine And.intro (fun β w hS => ?_) ?_
   ·
    refine WL.sub (σ' := [(0, .slice ad g.length cap)]) ⟨rfl, trivial⟩ ?_
    refine WL.move rfl rfl rfl ?_
    exact WL.nil (N.cut () ⟨rfl, trivial⟩ (Below.refl _ _))
   refine And.intro (fun β w hS => ?_) ?_
   ·
    refine WL.sub (σ' := [(18, .slice ad g.length cap)]) ⟨rfl, trivial⟩ ?_
    refine WL.indexAddrE (j := 0) Tryd.underlying115 isz_110 rfl rfl rfl rfl hj6 hE6 ?_
    exact WL.nil (N.cut () ⟨rfl, trivial⟩ (Below.refl _ _))
   refine And.intro (fun β w hS => ?_) ?_
   ·
    refine WL.sub (σ' := [(19, .pointer (some ⟨b6, o6 + 0 * 6, none⟩))]) ⟨rfl, trivial⟩ ?_
    refine WL.fieldAddr fo_110_0 rfl rfl rfl ?_
    exact WL.nil (N.cut () ⟨rfl, trivial⟩ (Below.refl _ _))
   refine And.intro (fun β w hS => ?_) ?_
   ·
    refine WL.sub (σ' := [(20, .pointer (some ⟨b6, o6 + 0 * 6, none⟩))]) ⟨rfl, trivial⟩ ?_
    refine WL.load1 (v := .string x6.name) one_9 rfl rfl rfl (hS.roCells hr6 hc6 0 _ rfl) ?_
    exact WL.nil (N.cut () ⟨rfl, trivial⟩ (Below.refl _ _))
   refine And.intro (fun β w hS => ?_) ?_
   ·
    refine WL.sub (σ' := [(0, .slice ad g.length cap)]) ⟨rfl, trivial⟩ ?_
    refine WL.move rfl rfl rfl ?_
    exact WL.nil (N.cut () ⟨rfl, trivial⟩ (Below.refl _ _))
   refine And.intro (fun β w hS => ?_) ?_
   ·
    refine WL.sub (σ' := [(5, .int .i64 0)]) ⟨rfl, trivial⟩ ?_
    refine WL.move rfl rfl rfl ?_
    exact WL.nil (N.cut () ⟨rfl, trivial⟩ (Below.refl _ _))
   refine And.intro (fun β w hS => ?_) ?_
   ·
    refine WL.sub (σ' := [(22, .slice ad g.length cap), (23, .int .i64 0)]) ⟨rfl, rfl, trivial⟩ ?_
    refine WL.indexAddrE (j := 0) Tryd.underlying115 isz_110 rfl rfl rfl rfl hj6 hE6 ?_
    exact WL.nil (N.cut () ⟨rfl, trivial⟩ (Below.refl _ _))
   refine And.intro (fun β w hS => ?_) ?_
   ·
    refine WL.sub (σ' := [(24, .pointer (some ⟨b6, o6 + 0 * 6, none⟩))]) ⟨rfl, trivial⟩ ?_
    refine WL.fieldAddr fo_110_1 rfl rfl rfl ?_
    exact WL.nil (N.cut () ⟨rfl, trivial⟩ (Below.refl _ _))
   refine And.intro (fun β w hS => ?_) ?_
   ·
    refine WL.sub (σ' := [(25, .pointer (some ⟨b6, o6 + 0 * 6 + 1, none⟩))]) ⟨rfl, trivial⟩ ?_
    refine WL.load1 (v := .int .i64 x6.mod) one_3 rfl rfl rfl (hS.roCells hr6 hc6 1 _ rfl) ?_
    exact WL.nil (N.cut () ⟨rfl, trivial⟩ (Below.refl _ _))
   refine And.intro (fun β w hS => ?_) ?_
   ·
    refine WL.sub (σ' := [(0, .slice ad g.length cap)]) ⟨rfl, trivial⟩ ?_
    refine WL.move rfl rfl rfl ?_
    exact WL.nil (N.cut () ⟨rfl, trivial⟩ (Below.refl _ _))
   refine And.intro (fun β w hS => ?_) ?_
   ·
    refine WL.sub (σ' := [(27, .slice ad g.length cap)]) ⟨rfl, trivial⟩ ?_
    refine WL.indexAddrE (j := 0) Tryd.underlying115 isz_110 rfl rfl rfl rfl hj6 hE6 ?_
    exact WL.nil (N.cut () ⟨rfl, trivial⟩ (Below.refl _ _))
   refine And.intro (fun β w hS => ?_) ?_
   ·
    refine WL.sub (σ' := [(28, .pointer (some ⟨b6, o6 + 0 * 6, none⟩))]) ⟨rfl, trivial⟩ ?_
    refine WL.fieldAddr fo_110_2 rfl rfl rfl ?_
    exact WL.nil (N.cut () ⟨rfl, trivial⟩ (Below.refl _ _))
   refine And.intro (fun β w hS => ?_) ?_
   ·
    refine WL.sub (σ' := [(29, .pointer (some ⟨b6, o6 + 0 * 6 + 2, none⟩))]) ⟨rfl, trivial⟩ ?_
    refine WL.load1 (v := .bool x6.fn) one_4 rfl rfl rfl (hS.roCells hr6 hc6 2 _ rfl) ?_
    exact WL.nil (N.cut () ⟨rfl, trivial⟩ (Below.refl _ _))
   refine And.intro (fun β w hS => ?_) ?_
   ·
    refine WL.sub (σ' := [(3, .int .i64 (ixI sB9 g))]) ⟨rfl, trivial⟩ ?_
    refine WL.move rfl rfl rfl ?_
    exact WL.nil (N.cut () ⟨rfl, trivial⟩ (Below.refl _ _))
   refine And.intro (fun β w hS => ?_) ?_
   ·
    refine WL.sub (σ' := [(31, .int .i64 (ixI sB9 g))]) ⟨rfl, trivial⟩ ?_
    refine WL.bin rfl rfl rfl rfl rfl ?_
    exact WL.nil (N.cut () ⟨rfl, trivial⟩ (Below.refl _ _))
   refine And.intro (fun β w hS => ?_) ?_
   ·
    refine WL.sub (σ' := [(4, .int .i64 (ixI hB9 g))]) ⟨rfl, trivial⟩ ?_
    refine WL.move rfl rfl rfl ?_
    exact WL.nil (N.cut () ⟨rfl, trivial⟩ (Below.refl _ _))
   refine And.intro (fun β w hS => ?_) ?_
   ·
    refine WL.sub (σ' := [(33, .int .i64 (ixI hB9 g))]) ⟨rfl, trivial⟩ ?_
    refine WL.bin rfl rfl rfl rfl rfl ?_
    exact WL.nil (N.cut () ⟨rfl, trivial⟩ (Below.refl _ _))
   refine And.intro (fun β w hS => ?_) ?_
   ·
    refine WL.sub (σ' := [(21, .string x6.name), (26, .int .i64 x6.mod), (30, .bool x6.fn), (32, .bool (decide (ixI sB9 g < 0))), (34, .bool (decide (0 ≤ ixI hB9 g)))]) ⟨rfl, rfl, rfl, rfl, rfl, trivial⟩ ?_
    refine WL.build (ps := [(0, .string x6.name), (1, .int .i64 x6.mod), (2, .bool x6.fn), (3, .bool (decide (ixI sB9 g < 0))), (4, .bool (decide (0 ≤ ixI hB9 g)))]) (cs := [.string x6.name, .int .i64 x6.mod, .bool x6.fn, .bool (decide (ixI sB9 g < 0)), .bool (decide (0 ≤ ixI hB9 g))]) rfl rfl rfl (by kernel_rfl) ?_
    exact WL.nil (N.cut () ⟨rfl, trivial⟩ (Below.refl _ _))
   trivial
  clear hS; intro w7 β hS
  refine WL.sub (σ' := [(2, .pointer (some ⟨b1, 0, none⟩)), (35, .agg #[.string x6.name, .int .i64 x6.mod, .bool x6.fn, .bool (decide (ixI sB9 g < 0)), .bool (decide (0 ≤ ixI hB9 g))])]) ⟨rfl, rfl, trivial⟩ ?_
  refine WL.store (L' := [(b1, .cells #[.string x6.name, .int .i64 x6.mod, .bool x6.fn, .bool (decide (ixI sB9 g < 0)), .bool (decide (0 ≤ ixI hB9 g))] 66 (0, 0))]) 0 rfl rfl rfl rfl siz_66 rfl rfl rfl rfl rfl hS ?_
  clear hS; intro w8 hS
  refine WL.nil (N.seq ?_)
  refine Fin.retC rfl (v := .agg #[.string x6.name, .int .i64 x6.mod, .bool x6.fn, .bool (decide (ixI sB9 g < 0)), .bool (decide (0 ≤ ixI hB9 g))]) rfl (tyAgg_run agg_66 (cs := [.string x6.name, .int .i64 x6.mod, .bool x6.fn, .bool (decide (ixI sB9 g < 0)), .bool (decide (0 ≤ ixI hB9 g))]) rfl (hS.cells 0 (m := 5) rfl rfl)) ?_
  have e0 : g.getD 0 item0 = x6 := by rw [List.getD_eq_getElem?_getD, hx6]; rfl
  have e1 : g.getD (di9 g) item0 = x6 := by
   have e2 : di9 g = 0 := by unfold di9; rw [if_pos hc5p]
   rw [e2, List.getD_eq_getElem?_getD, hx6]; rfl
  have hbz := hS.below
  clear hS
  refine ⟨?_, hbz⟩
  simp only [defV, defL, def9, e0, e1]
  first | done | simp [*]
 have hc5p : ¬ (ixI hB9 g < 0) := by simpa using hc5
 refine W.seq (W.region (WL.move rfl rfl rfl (WL.bin rfl rfl rfl rfl rfl (WL.assign rfl rfl rfl (WL.nil (N.seq ?_))))))
 refine W.cond rfl (fun hc9 => ?_) (fun hc9 => ?_)
 ·
  have hc9p : ixI sB9 g < 0 := by simpa using hc9
  refine W.region (WL.move rfl rfl rfl (WL.assign rfl rfl rfl (WL.nil (N.blk (N.seq (W.seq ?_))))))
  have hj10 : 0 < g.length := hg0
  obtain ⟨x10, hx10⟩ : ∃ zz, g[0]? = some zz := ⟨_, List.getElem?_eq_getElem hj10⟩
  obtain ⟨b10, o10, cs10, hE10, hr10, hl10, hc10, hQ10⟩ := had 0 _ hx10
  obtain ⟨rfl, hin10, him10, hip10⟩ := hQ10
  obtain ⟨jx, hjx, hjl⟩ := ixI_nat hc5p
  have hj11 : jx < g.length := hjl
  obtain ⟨x11, hx11⟩ : ∃ zz, g[jx]? = some zz := ⟨_, List.getElem?_eq_getElem hj11⟩
  obtain ⟨b11, o11, cs11, hE11, hr11, hl11, hc11, hQ11⟩ := had jx _ hx11
  obtain ⟨rfl, hin11, him11, hip11⟩ := hQ11
  refine W.drawL (by kernel_rfl) 18 ((.q (.slice ad g.length cap)) :: (.q (.pointer (some ⟨b10, o10 + 0 * 6, none⟩))) :: (.q (.pointer (some ⟨b10, o10 + 0 * 6, none⟩))) :: (.q (.string x10.name)) :: (.q (.slice ad g.length cap)) :: (.q (.int .i64 (ixI hB9 g))) :: (.q (.pointer (some ⟨b11, o11 + jx * 6, none⟩))) :: (.q (.pointer (some ⟨b11, o11 + jx * 6 + 1, none⟩))) :: (.q (.int .i64 x11.mod)) :: (.q (.slice ad g.length cap)) :: (.q (.pointer (some ⟨b10, o10 + 0 * 6, none⟩))) :: (.q (.pointer (some ⟨b10, o10 + 0 * 6 + 2, none⟩))) :: (.q (.bool x10.fn)) :: (.q (.int .i64 (ixI sB9 g))) :: (.q (.bool true)) :: (.q (.int .i64 (ixI hB9 g))) :: (.q (.bool (decide (0 ≤ ixI hB9 g)))) :: (.q (.agg #[.string x10.name, .int .i64 x11.mod, .bool x10.fn, .bool true, .bool (decide (0 ≤ ixI hB9 g))])) :: []) (by kernel_rfl) (by kernel_rfl) [(0, .slice ad g.length cap), (2, .pointer (some ⟨b1, 0, none⟩)), (3, .int .i64 (ixI sB9 g)), (4, .int .i64 (ixI hB9 g)), (5, .int .i64 (ixI hB9 g))] ⟨rfl, rfl, rfl, rfl, rfl, trivial⟩ (by kernel_rfl) hS ?_ ?_
  ·
   refine And.intro (fun β w hS => ?_) ?_
   ·
    refine WL.sub (σ' := [(0, .slice ad g.length cap)]) ⟨rfl, trivial⟩ ?_
    refine WL.move rfl rfl rfl ?_
    exact WL.nil (N.cut () ⟨rfl, trivial⟩ (Below.refl _ _))
   refine And.intro (fun β w hS => ?_) ?_
   ·
    refine WL.sub (σ' := [(18, .slice ad g.length cap)]) ⟨rfl, trivial⟩ ?_
    refine WL.indexAddrE (j := 0) Tryd.underlying115 isz_110 rfl rfl rfl rfl hj10 hE10 ?_
    exact WL.nil (N.cut () ⟨rfl, trivial⟩ (Below.refl _ _))
   refine And.intro (fun β w hS => ?_) ?_
   ·
    refine WL.sub (σ' := [(19, .pointer (some ⟨b10, o10 + 0 * 6, none⟩))]) ⟨rfl, trivial⟩ ?_
    refine WL.fieldAddr fo_110_0 rfl rfl rfl ?_
    exact WL.nil (N.cut () ⟨rfl, trivial⟩ (Below.refl _ _))
   refine And.intro (fun β w hS => ?_) ?_
   ·
    refine WL.sub (σ' := [(20, .pointer (some ⟨b10, o10 + 0 * 6, none⟩))]) ⟨rfl, trivial⟩ ?_
    refine WL.load1 (v := .string x10.name) one_9 rfl rfl rfl (hS.roCells hr10 hc10 0 _ rfl) ?_
    exact WL.nil (N.cut () ⟨rfl, trivial⟩ (Below.refl _ _))
   refine And.intro (fun β w hS => ?_) ?_
   ·
    refine WL.sub (σ' := [(0, .slice ad g.length cap)]) ⟨rfl, trivial⟩ ?_
    refine WL.move rfl rfl rfl ?_
    exact WL.nil (N.cut () ⟨rfl, trivial⟩ (Below.refl _ _))
   refine And.intro (fun β w hS => ?_) ?_
   ·
    refine WL.sub (σ' := [(5, .int .i64 (ixI hB9 g))]) ⟨rfl, trivial⟩ ?_
    refine WL.move rfl rfl rfl ?_
    exact WL.nil (N.cut () ⟨rfl, trivial⟩ (Below.refl _ _))
   refine And.intro (fun β w hS => ?_) ?_
   ·
    refine WL.sub (σ' := [(22, .slice ad g.length cap), (23, .int .i64 (ixI hB9 g))]) ⟨rfl, rfl, trivial⟩ ?_
    refine WL.set 23 (v' := .int .i64 (jx : Int)) rfl (by rw [hjx]) ?_
    refine WL.indexAddrE (j := jx) Tryd.underlying115 isz_110 rfl rfl rfl rfl hj11 hE11 ?_
    exact WL.nil (N.cut () ⟨rfl, trivial⟩ (Below.refl _ _))
   refine And.intro (fun β w hS => ?_) ?_
   ·
    refine WL.sub (σ' := [(24, .pointer (some ⟨b11, o11 + jx * 6, none⟩))]) ⟨rfl, trivial⟩ ?_
    refine WL.fieldAddr fo_110_1 rfl rfl rfl ?_
    exact WL.nil (N.cut () ⟨rfl, trivial⟩ (Below.refl _ _))
   refine And.intro (fun β w hS => ?_) ?_
   ·
    refine WL.sub (σ' := [(25, .pointer (some ⟨b11, o11 + jx * 6 + 1, none⟩))]) ⟨rfl, trivial⟩ ?_
    refine WL.load1 (v := .int .i64 x11.mod) one_3 rfl rfl rfl (hS.roCells hr11 hc11 1 _ rfl) ?_
    exact WL.nil (N.cut () ⟨rfl, trivial⟩ (Below.refl _ _))
   refine And.intro (fun β w hS => ?_) ?_
   ·
    refine WL.sub (σ' := [(0, .slice ad g.length cap)]) ⟨rfl, trivial⟩ ?_
    refine WL.move rfl rfl rfl ?_
    exact WL.nil (N.cut () ⟨rfl, trivial⟩ (Below.refl _ _))
   refine And.intro (fun β w hS => ?_) ?_
   ·
    refine WL.sub (σ' := [(27, .slice ad g.length cap)]) ⟨rfl, trivial⟩ ?_
    refine WL.indexAddrE (j := 0) Tryd.underlying115 isz_110 rfl rfl rfl rfl hj10 hE10 ?_
    exact WL.nil (N.cut () ⟨rfl, trivial⟩ (Below.refl _ _))
   refine And.intro (fun β w hS => ?_) ?_
   ·
    refine WL.sub (σ' := [(28, .pointer (some ⟨b10, o10 + 0 * 6, none⟩))]) ⟨rfl, trivial⟩ ?_
    refine WL.fieldAddr fo_110_2 rfl rfl rfl ?_
    exact WL.nil (N.cut () ⟨rfl, trivial⟩ (Below.refl _ _))
   refine And.intro (fun β w hS => ?_) ?_
   ·
    refine WL.sub (σ' := [(29, .pointer (some ⟨b10, o10 + 0 * 6 + 2, none⟩))]) ⟨rfl, trivial⟩ ?_
    refine WL.load1 (v := .bool x10.fn) one_4 rfl rfl rfl (hS.roCells hr10 hc10 2 _ rfl) ?_
    exact WL.nil (N.cut () ⟨rfl, trivial⟩ (Below.refl _ _))
   refine And.intro (fun β w hS => ?_) ?_
   ·
    refine WL.sub (σ' := [(3, .int .i64 (ixI sB9 g))]) ⟨rfl, trivial⟩ ?_
    refine WL.move rfl rfl rfl ?_
    exact WL.nil (N.cut () ⟨rfl, trivial⟩ (Below.refl _ _))
   refine And.intro (fun β w hS => ?_) ?_
   ·
    refine WL.sub (σ' := [(31, .int .i64 (ixI sB9 g))]) ⟨rfl, trivial⟩ ?_
    refine WL.bin rfl rfl rfl rfl rfl ?_
    refine WL.set 32 (v' := .bool true) rfl (by rw [hc9]) ?_
    exact WL.nil (N.cut () ⟨rfl, trivial⟩ (Below.refl _ _))
   refine And.intro (fun β w hS => ?_) ?_
   ·
    refine WL.sub (σ' := [(4, .int .i64 (ixI hB9 g))]) ⟨rfl, trivial⟩ ?_
    refine WL.move rfl rfl rfl ?_
    exact WL.nil (N.cut () ⟨rfl, trivial⟩ (Below.refl _ _))
   refine And.intro (fun β w hS => ?_) ?_
   ·
    refine WL.sub (σ' := [(33, .int .i64 (ixI hB9 g))]) ⟨rfl, trivial⟩ ?_
    refine WL.bin rfl rfl rfl rfl rfl ?_
    exact WL.nil (N.cut () ⟨rfl, trivial⟩ (Below.refl _ _))
   refine And.intro (fun β w hS => ?_) ?_
   ·
    refine WL.sub (σ' := [(21, .string x10.name), (26, .int .i64 x11.mod), (30, .bool x10.fn), (32, .bool true), (34, .bool (decide (0 ≤ ixI hB9 g)))]) ⟨rfl, rfl, rfl, rfl, rfl, trivial⟩ ?_
    refine WL.build (ps := [(0, .string x10.name), (1, .int .i64 x11.mod), (2, .bool x10.fn), (3, .bool true), (4, .bool (decide (0 ≤ ixI hB9 g)))]) (cs := [.string x10.name, .int .i64 x11.mod, .bool x10.fn, .bool true, .bool (decide (0 ≤ ixI hB9 g))]) rfl rfl rfl (by kernel_rfl) ?_
    exact WL.nil (N.cut () ⟨rfl, trivial⟩ (Below.refl _ _))
   trivial
  clear hS; intro w12 β hS
  refine WL.sub (σ' := [(2, .pointer (some ⟨b1, 0, none⟩)), (35, .agg #[.string x10.name, .int .i64 x11.mod, .bool x10.fn, .bool true, .bool (decide (0 ≤ ixI hB9 g))])]) ⟨rfl, rfl, trivial⟩ ?_
  refine WL.store (L' := [(b1, .cells #[.string x10.name, .int .i64 x11.mod, .bool x10.fn, .bool true, .bool (decide (0 ≤ ixI hB9 g))] 66 (0, 0))]) 0 rfl rfl rfl rfl siz_66 rfl rfl rfl rfl rfl hS ?_
  clear hS; intro w13 hS
  refine WL.nil (N.seq ?_)
  refine Fin.retC rfl (v := .agg #[.string x10.name, .int .i64 x11.mod, .bool x10.fn, .bool true, .bool (decide (0 ≤ ixI hB9 g))]) rfl (tyAgg_run agg_66 (cs := [.string x10.name, .int .i64 x11.mod, .bool x10.fn, .bool true, .bool (decide (0 ≤ ixI hB9 g))]) rfl (hS.cells 0 (m := 5) rfl rfl)) ?_
  have e0 : g.getD 0 item0 = x10 := by rw [List.getD_eq_getElem?_getD, hx10]; rfl
  have e1 : g.getD (di9 g) item0 = x11 := by
   have e2 : di9 g = jx := by unfold di9; rw [if_neg hc5p, if_pos hc9p, hjx]; rfl
   rw [e2, List.getD_eq_getElem?_getD, hx11]; rfl
  have hbz := hS.below
  clear hS
  refine ⟨?_, hbz⟩
  simp only [defV, defL, def9, e0, e1]
  first | done | simp [*]
 have hc9p : ¬ (ixI sB9 g < 0) := by simpa using hc9
 refine W.skip (N.blk (N.seq (W.seq ?_)))
 have hj14 : 0 < g.length := hg0
 obtain ⟨x14, hx14⟩ : ∃ zz, g[0]? = some zz := ⟨_, List.getElem?_eq_getElem hj14⟩
 obtain ⟨b14, o14, cs14, hE14, hr14, hl14, hc14, hQ14⟩ := had 0 _ hx14
 obtain ⟨rfl, hin14, him14, hip14⟩ := hQ14
 obtain ⟨jx, hjx, hjl⟩ := ixI_nat hc9p
 have hj15 : jx < g.length := hjl
 obtain ⟨x15, hx15⟩ : ∃ zz, g[jx]? = some zz := ⟨_, List.getElem?_eq_getElem hj15⟩
 obtain ⟨b15, o15, cs15, hE15, hr15, hl15, hc15, hQ15⟩ := had jx _ hx15
 obtain ⟨rfl, hin15, him15, hip15⟩ := hQ15
 refine W.drawL (by kernel_rfl) 18 ((.q (.slice ad g.length cap)) :: (.q (.pointer (some ⟨b14, o14 + 0 * 6, none⟩))) :: (.q (.pointer (some ⟨b14, o14 + 0 * 6, none⟩))) :: (.q (.string x14.name)) :: (.q (.slice ad g.length cap)) :: (.q (.int .i64 (ixI sB9 g))) :: (.q (.pointer (some ⟨b15, o15 + jx * 6, none⟩))) :: (.q (.pointer (some ⟨b15, o15 + jx * 6 + 1, none⟩))) :: (.q (.int .i64 x15.mod)) :: (.q (.slice ad g.length cap)) :: (.q (.pointer (some ⟨b14, o14 + 0 * 6, none⟩))) :: (.q (.pointer (some ⟨b14, o14 + 0 * 6 + 2, none⟩))) :: (.q (.bool x14.fn)) :: (.q (.int .i64 (ixI sB9 g))) :: (.q (.bool false)) :: (.q (.int .i64 (ixI hB9 g))) :: (.q (.bool (decide (0 ≤ ixI hB9 g)))) :: (.q (.agg #[.string x14.name, .int .i64 x15.mod, .bool x14.fn, .bool false, .bool (decide (0 ≤ ixI hB9 g))])) :: []) (by kernel_rfl) (by kernel_rfl) [(0, .slice ad g.length cap), (2, .pointer (some ⟨b1, 0, none⟩)), (3, .int .i64 (ixI sB9 g)), (4, .int .i64 (ixI hB9 g)), (5, .int .i64 (ixI sB9 g))] ⟨rfl, rfl, rfl, rfl, rfl, trivial⟩ (by kernel_rfl) hS ?_ ?_
 ·
  refine And.intro (fun β w hS => ?_) ?_
  ·
   refine WL.sub (σ' := [(0, .slice ad g.length cap)]) ⟨rfl, trivial⟩ ?_
   refine WL.move rfl rfl rfl ?_
   exact WL.nil (N.cut () ⟨rfl, trivial⟩ (Below.refl _ _))
  refine And.intro (fun β w hS => ?_) ?_
  ·
   refine WL.sub (σ' := [(18, .slice ad g.length cap)]) ⟨rfl, trivial⟩ ?_
   refine WL.indexAddrE (j := 0) Tryd.underlying115 isz_110 rfl rfl rfl rfl hj14 hE14 ?_
   exact WL.nil (N.cut () ⟨rfl, trivial⟩ (Below.refl _ _))
  refine And.intro (fun β w hS => ?_) ?_
  ·
   refine WL.sub (σ' := [(19, .pointer (some ⟨b14, o14 + 0 * 6, none⟩))]) ⟨rfl, trivial⟩ ?_
   refine WL.fieldAddr fo_110_0 rfl rfl rfl ?_
   exact WL.nil (N.cut () ⟨rfl, trivial⟩ (Below.refl _ _))
  refine And.intro (fun β w hS => ?_) ?_
  ·
   refine WL.sub (σ' := [(20, .pointer (some ⟨b14, o14 + 0 * 6, none⟩))]) ⟨rfl, trivial⟩ ?_
   refine WL.load1 (v := .string x14.name) one_9 rfl rfl rfl (hS.roCells hr14 hc14 0 _ rfl) ?_
   exact WL.nil (N.cut () ⟨rfl, trivial⟩ (Below.refl _ _))
  refine And.intro (fun β w hS => ?_) ?_
  ·
   refine WL.sub (σ' := [(0, .slice ad g.length cap)]) ⟨rfl, trivial⟩ ?_
   refine WL.move rfl rfl rfl ?_
   exact WL.nil (N.cut () ⟨rfl, trivial⟩ (Below.refl _ _))
  refine And.intro (fun β w hS => ?_) ?_
  ·
   refine WL.sub (σ' := [(5, .int .i64 (ixI sB9 g))]) ⟨rfl, trivial⟩ ?_
   refine WL.move rfl rfl rfl ?_
   exact WL.nil (N.cut () ⟨rfl, trivial⟩ (Below.refl _ _))
  refine And.intro (fun β w hS => ?_) ?_
  ·
   refine WL.sub (σ' := [(22, .slice ad g.length cap), (23, .int .i64 (ixI sB9 g))]) ⟨rfl, rfl, trivial⟩ ?_
   refine WL.set 23 (v' := .int .i64 (jx : Int)) rfl (by rw [hjx]) ?_
   refine WL.indexAddrE (j := jx) Tryd.underlying115 isz_110 rfl rfl rfl rfl hj15 hE15 ?_
   exact WL.nil (N.cut () ⟨rfl, trivial⟩ (Below.refl _ _))
  refine And.intro (fun β w hS => ?_) ?_
  ·
   refine WL.sub (σ' := [(24, .pointer (some ⟨b15, o15 + jx * 6, none⟩))]) ⟨rfl, trivial⟩ ?_
   refine WL.fieldAddr fo_110_1 rfl rfl rfl ?_
   exact WL.nil (N.cut () ⟨rfl, trivial⟩ (Below.refl _ _))
  refine And.intro (fun β w hS => ?_) ?_
  ·
   refine WL.sub (σ' := [(25, .pointer (some ⟨b15, o15 + jx * 6 + 1, none⟩))]) ⟨rfl, trivial⟩ ?_
   refine WL.load1 (v := .int .i64 x15.mod) one_3 rfl rfl rfl (hS.roCells hr15 hc15 1 _ rfl) ?_
   exact WL.nil (N.cut () ⟨rfl, trivial⟩ (Below.refl _ _))
  refine And.intro (fun β w hS => ?_) ?_
  ·
   refine WL.sub (σ' := [(0, .slice ad g.length cap)]) ⟨rfl, trivial⟩ ?_
   refine WL.move rfl rfl rfl ?_
   exact WL.nil (N.cut () ⟨rfl, trivial⟩ (Below.refl _ _))
  refine And.intro (fun β w hS => ?_) ?_
  ·
   refine WL.sub (σ' := [(27, .slice ad g.length cap)]) ⟨rfl, trivial⟩ ?_
   refine WL.indexAddrE (j := 0) Tryd.underlying115 isz_110 rfl rfl rfl rfl hj14 hE14 ?_
   exact WL.nil (N.cut () ⟨rfl, trivial⟩ (Below.refl _ _))
  refine And.intro (fun β w hS => ?_) ?_
  ·
   refine WL.sub (σ' := [(28, .pointer (some ⟨b14, o14 + 0 * 6, none⟩))]) ⟨rfl, trivial⟩ ?_
   refine WL.fieldAddr fo_110_2 rfl rfl rfl ?_
   exact WL.nil (N.cut () ⟨rfl, trivial⟩ (Below.refl _ _))
  refine And.intro (fun β w hS => ?_) ?_
  ·
   refine WL.sub (σ' := [(29, .pointer (some ⟨b14, o14 + 0 * 6 + 2, none⟩))]) ⟨rfl, trivial⟩ ?_
   refine WL.load1 (v := .bool x14.fn) one_4 rfl rfl rfl (hS.roCells hr14 hc14 2 _ rfl) ?_
   exact WL.nil (N.cut () ⟨rfl, trivial⟩ (Below.refl _ _))
  refine And.intro (fun β w hS => ?_) ?_
  ·
   refine WL.sub (σ' := [(3, .int .i64 (ixI sB9 g))]) ⟨rfl, trivial⟩ ?_
   refine WL.move rfl rfl rfl ?_
   exact WL.nil (N.cut () ⟨rfl, trivial⟩ (Below.refl _ _))
  refine And.intro (fun β w hS => ?_) ?_
  ·
   refine WL.sub (σ' := [(31, .int .i64 (ixI sB9 g))]) ⟨rfl, trivial⟩ ?_
   refine WL.bin rfl rfl rfl rfl rfl ?_
   refine WL.set 32 (v' := .bool false) rfl (by rw [hc9]) ?_
   exact WL.nil (N.cut () ⟨rfl, trivial⟩ (Below.refl _ _))
  refine And.intro (fun β w hS => ?_) ?_
  ·
   refine WL.sub (σ' := [(4, .int .i64 (ixI hB9 g))]) ⟨rfl, trivial⟩ ?_
   refine WL.move rfl rfl rfl ?_
   exact WL.nil (N.cut () ⟨rfl, trivial⟩ (Below.refl _ _))
  refine And.intro (fun β w hS => ?_) ?_
  ·
   refine WL.sub (σ' := [(33, .int .i64 (ixI hB9 g))]) ⟨rfl, trivial⟩ ?_
   refine WL.bin rfl rfl rfl rfl rfl ?_
   exact WL.nil (N.cut () ⟨rfl, trivial⟩ (Below.refl _ _))
  refine And.intro (fun β w hS => ?_) ?_
  ·
   refine WL.sub (σ' := [(21, .string x14.name), (26, .int .i64 x15.mod), (30, .bool x14.fn), (32, .bool false), (34, .bool (decide (0 ≤ ixI hB9 g)))]) ⟨rfl, rfl, rfl, rfl, rfl, trivial⟩ ?_
   refine WL.build (ps := [(0, .string x14.name), (1, .int .i64 x15.mod), (2, .bool x14.fn), (3, .bool false), (4, .bool (decide (0 ≤ ixI hB9 g)))]) (cs := [.string x14.name, .int .i64 x15.mod, .bool x14.fn, .bool false, .bool (decide (0 ≤ ixI hB9 g))]) rfl rfl rfl (by kernel_rfl) ?_
   exact WL.nil (N.cut () ⟨rfl, trivial⟩ (Below.refl _ _))
  trivial
 clear hS; intro w16 β hS
 refine WL.sub (σ' := [(2, .pointer (some ⟨b1, 0, none⟩)), (35, .agg #[.string x14.name, .int .i64 x15.mod, .bool x14.fn, .bool false, .bool (decide (0 ≤ ixI hB9 g))])]) ⟨rfl, rfl, trivial⟩ ?_
 refine WL.store (L' := [(b1, .cells #[.string x14.name, .int .i64 x15.mod, .bool x14.fn, .bool false, .bool (decide (0 ≤ ixI hB9 g))] 66 (0, 0))]) 0 rfl rfl rfl rfl siz_66 rfl rfl rfl rfl rfl hS ?_
 clear hS; intro w17 hS
 refine WL.nil (N.seq ?_)
 refine Fin.retC rfl (v := .agg #[.string x14.name, .int .i64 x15.mod, .bool x14.fn, .bool false, .bool (decide (0 ≤ ixI hB9 g))]) rfl (tyAgg_run agg_66 (cs := [.string x14.name, .int .i64 x15.mod, .bool x14.fn, .bool false, .bool (decide (0 ≤ ixI hB9 g))]) rfl (hS.cells 0 (m := 5) rfl rfl)) ?_
 have e0 : g.getD 0 item0 = x14 := by rw [List.getD_eq_getElem?_getD, hx14]; rfl
 have e1 : g.getD (di9 g) item0 = x15 := by
  have e2 : di9 g = jx := by unfold di9; rw [if_neg hc5p, if_neg hc9p, hjx]; rfl
  rw [e2, List.getD_eq_getElem?_getD, hx15]; rfl
 have hbz := hS.below
 clear hS
 refine ⟨?_, hbz⟩
 simp only [defV, defL, def9, e0, e1]
 first | done | simp [*]

end Go.Proofs.YtapjejjmhmdmdaaDoor

namespace Go.Proofs.YtapjejjmhmdmdaaDoor
open Go.RowKit
theorem byt_66 : (Tryd.prog.info? 66).map (·.bytes) = some 32 := by kernel_rfl
theorem fo_66_4 : fOff Tryd.prog 66 4 4 = true := by kernel_rfl
theorem isz_66 : (Tryd.prog.info? 66).map (·.size) = some 5 := by kernel_rfl
def mainB : ByteArray := ⟨#[109, 97, 105, 110]⟩
def isMain (g : List DItem) : Bool := decide ((g.getD 0 item0).name = mainB)
def okMain (g : List DItem) : Bool := (def9 g).here && (g.getD 0 item0).fn && decide ((g.getD 0 item0).params = 0)
def entry9 (gs : List (List DItem)) : Bool := match gs.find? isMain with
  | some g => okMain g
  | none => false
def all9 (xs : List DItem) : List DDef × Int :=
  if (grp9 xs).any oddG = true then ([], 10) else if (grp9 xs).any (fun g => decide (1 < many9 g)) = true then ([], 9) else if (grp9 xs).any missing9 = true then ([], 8) else
  if entry9 (grp9 xs) = true then ((grp9 xs).map def9, 0) else ([], 11)
theorem grp9_ne {xs : List DItem} {g : List DItem} (h : g ∈ grp9 xs) : 0 < g.length := by
  unfold grp9 at h
  obtain ⟨s, hs, rfl⟩ := List.mem_map.1 h
  obtain ⟨x, hx, e⟩ := (mem_nms9 _ _).1 hs
  exact List.length_pos_of_mem (List.mem_filter.2 ⟨hx, by simp [e]⟩)
theorem grp9_sub {xs : List DItem} {g : List DItem} (h : g ∈ grp9 xs) : ∀ x ∈ g, x ∈ xs := fun x hx => by
  unfold grp9 at h
  obtain ⟨s, hs, rfl⟩ := List.mem_map.1 h
  exact (List.mem_filter.1 hx).1
theorem getD_mem {α : Type} {l : List α} {i : Nat} (d : α) (h : i < l.length) : l.getD i d ∈ l := by
  rw [List.getD_eq_getElem?_getD, List.getElem?_eq_getElem h]; exact List.getElem_mem h
theorem di9_lt {g : List DItem} (h : 0 < g.length) : di9 g < g.length := by
  unfold di9
  split
  · exact h
  · rename_i h1
    split
    · obtain ⟨i, e, hi⟩ := ixI_nat h1; rw [e]; simpa using hi
    · rename_i h2; obtain ⟨i, e, hi⟩ := ixI_nat h2; rw [e]; simpa using hi
theorem def9_ok {g : List DItem} (h : 0 < g.length) (ho : ∀ x ∈ g, x.name.size ≤ maxLen ∧ inI x.mod ∧ inI x.params) : DefC (defL (def9 g)) (def9 g) :=
  ⟨rfl, (ho _ (getD_mem item0 h)).1, (ho _ (getD_mem item0 (di9_lt h))).2.1⟩
theorem entry_at {gs : List (List DItem)} {i : Nat} {g : List DItem} (h : ixI isMain gs = (i : Int)) (hg : gs[i]? = some g) : entry9 gs = okMain g := by
  unfold entry9
  have : gs.find? isMain = some g := by
    unfold ixI at h
    cases hf : gs.findIdx? isMain with
    | none => rw [hf] at h; have h2 : (-1 : Int) = (i : Int) := h; omega
    | some j =>
      rw [hf] at h
      have hj : j = i := by have h2 : (j : Int) = (i : Int) := h; omega
      subst hj
      rw [List.findIdx?_eq_some_iff_getElem] at hf
      obtain ⟨hlt, hp, hno⟩ := hf
      rw [List.find?_eq_some_iff_getElem]
      rw [List.getElem?_eq_getElem hlt] at hg
      cases hg
      exact ⟨hp, j, hlt, rfl, fun k hk => by simpa using hno k hk⟩
  rw [this]
theorem entry_none {gs : List (List DItem)} (h : ixI isMain gs < 0) : entry9 gs = false := by
  unfold entry9
  have : gs.find? isMain = none := by
    rw [List.find?_eq_none]
    intro x hx
    rcases ixI_cases isMain gs with ⟨_, h2⟩ | ⟨i, x, h1, _⟩
    · simpa using List.any_eq_false.1 h2 x hx
    · omega
  rw [this]

theorem all1_ret (g : List DItem) (vx : Value) {w : World} {ro : Nat → Prop} (hro : ∀ b, ro b → b < w.heap.size) (hx : SlV ro w 6 ItemC vx g) : Ret Tryd.prog 50 #[vx] w fun v w' => v = .bool (oddG g) ∧ Below w.heap.size w w' := by
 obtain ⟨ad, cap, rfl, haa, hab, hac, had⟩ := id hx
 have ham : g.length ≤ 9223372036854775807 := by have h1 := haa; have h2 := hab; unfold maxLen at h2; omega
 refine Ret.enter (P := Tryd.prog) (n := 6) (args := [.slice ad g.length cap]) (σ := [(0, .slice ad g.length cap)]) Tryd.func50 rfl rfl rfl rfl ?_
 have hS := St.start (ro := ro) hro
 refine W.seq (W.region (WL.assign rfl rfl rfl (WL.nil (N.seq (W.seq (W.region (WL.move rfl rfl rfl ?_)))))))
 refine WL.callF (vs := [.slice ad g.length cap]) Tryd.func51 (by kernel_rfl) rfl rfl rfl (shaped_ret g _ (ro := ro) (fun b hb => (hS.snap b hb).1) (SlV.keep hx hS.alike (fun _ _ q => q))) ?_
 rintro v w1 ⟨rfl, hbl⟩
 replace hS := hS.grow hbl
 refine WL.not rfl rfl rfl (WL.assign rfl rfl rfl (WL.nil (N.seq ?_)))
 refine Fin.ret1 rfl (v := .bool (!(!oddG g))) rfl ?_
 exact ⟨by simp, hS.below⟩

theorem all2_ret (g : List DItem) (vx : Value) {w : World} {ro : Nat → Prop} (hro : ∀ b, ro b → b < w.heap.size) (hx : SlV ro w 6 ItemC vx g) : Ret Tryd.prog 52 #[vx] w fun v w' => v = .bool (decide (1 < many9 g)) ∧ Below w.heap.size w w' := by
 obtain ⟨ad, cap, rfl, haa, hab, hac, had⟩ := id hx
 have ham : g.length ≤ 9223372036854775807 := by have h1 := haa; have h2 := hab; unfold maxLen at h2; omega
 refine Ret.enter (P := Tryd.prog) (n := 6) (args := [.slice ad g.length cap]) (σ := [(0, .slice ad g.length cap)]) Tryd.func52 rfl rfl rfl rfl ?_
 have hS := St.start (ro := ro) hro
 refine W.seq (W.region (WL.assign rfl rfl rfl (WL.nil (N.seq (W.seq (W.region (WL.move rfl rfl rfl ?_)))))))
 refine WL.callF (vs := [.slice ad g.length cap]) Tryd.func53 (by kernel_rfl) rfl rfl rfl (many_ret g _ (ro := ro) (fun b hb => (hS.snap b hb).1) (SlV.keep hx hS.alike (fun _ _ q => q))) ?_
 rintro v w1 ⟨rfl, hbl⟩
 replace hS := hS.grow hbl
 refine WL.bin rfl rfl rfl rfl rfl (WL.assign rfl rfl rfl (WL.nil (N.seq ?_)))
 refine Fin.ret1 rfl (v := .bool (decide (1 < many9 g))) rfl ?_
 exact ⟨rfl, hS.below⟩

theorem all3_ret (g : List DItem) (vx : Value) {w : World} {ro : Nat → Prop} (hro : ∀ b, ro b → b < w.heap.size) (hx : SlV ro w 6 ItemC vx g) (hg0 : 0 < g.length) : Ret Tryd.prog 57 #[vx] w fun v w' => v = .bool (isMain g) ∧ Below w.heap.size w w' := by
 obtain ⟨ad, cap, rfl, haa, hab, hac, had⟩ := id hx
 have ham : g.length ≤ 9223372036854775807 := by have h1 := haa; have h2 := hab; unfold maxLen at h2; omega
 refine Ret.enter (P := Tryd.prog) (n := 8) (args := [.slice ad g.length cap]) (σ := [(0, .slice ad g.length cap)]) Tryd.func57 rfl rfl rfl rfl ?_
 have hS := St.start (ro := ro) hro
 refine W.seq (W.region (WL.assign rfl rfl rfl (WL.nil (N.seq (W.seq (W.region (WL.move rfl rfl rfl ?_)))))))
 have hj1 : 0 < g.length := hg0
 obtain ⟨x1, hx1⟩ : ∃ zz, g[0]? = some zz := ⟨_, List.getElem?_eq_getElem hj1⟩
 obtain ⟨b1, o1, cs1, hE1, hr1, hl1, hc1, hQ1⟩ := had 0 _ hx1
 obtain ⟨rfl, hin1, him1, hip1⟩ := hQ1
 refine WL.indexAddrE (j := 0) Tryd.underlying115 isz_110 rfl rfl rfl rfl hj1 hE1 (WL.fieldAddr fo_110_0 rfl rfl rfl (WL.load1 (v := .string x1.name) one_9 rfl rfl rfl (hS.roCells hr1 hc1 0 _ rfl) (WL.eqStr rfl rfl rfl rfl (WL.assign rfl rfl rfl (WL.nil (N.seq ?_))))))
 refine Fin.ret1 rfl (v := .bool (decide (x1.name = ⟨#[109, 97, 105, 110]⟩))) rfl ?_
 have e0 : g.getD 0 item0 = x1 := by rw [List.getD_eq_getElem?_getD, hx1]; rfl
 exact ⟨by unfold isMain; rw [e0]; rfl, hS.below⟩

theorem all_ret (ms : List DMod) (vx : Value) {w : World} {ro : Nat → Prop} (hro : ∀ b, ro b → b < w.heap.size) (hx : SlV ro w 2 (ModC ro w) vx ms) (hmx : (items9 ms).length ≤ 1048576) (hit0 : ∀ x ∈ items9 ms, x.name.size ≤ maxLen ∧ inI x.mod ∧ inI x.params) : Ret Tryd.prog 26 #[vx] w fun v w' => ∃ sv, v = .tuple #[sv, .int .i64 (all9 (items9 ms)).2] ∧ SlV (roFrom ro w w') w' 5 DefC sv (all9 (items9 ms)).1 ∧ Below w.heap.size w w' := by
 refine Ret.enter (P := Tryd.prog) (n := 70) (args := [vx]) (σ := [(0, vx)]) Tryd.func26 rfl rfl rfl rfl ?_
 have hS := St.start (ro := ro) hro
 have hsub : ∀ b, ro b → ro b ∨ w.heap.size ≤ b := fun _ h => .inl h
 refine W.seq (W.region (WL.assign rfl rfl rfl (WL.assign rfl rfl rfl (WL.nil (N.seq (W.seq (W.region (WL.move rfl rfl rfl ?_))))))))
 refine WL.callF (vs := [vx]) Tryd.func48 (by kernel_rfl) rfl rfl rfl (groups_ret ms _ (ro := ro) (fun b hb => (hS.snap b hb).1) (SlV.keep hx hS.alike (fun _ _ q => q.keep hS.alike)) hmx hit0) ?_
 rintro vg w1 ⟨hgv, hbl⟩
 replace hsub : ∀ b, (roFrom ro w w1) b → ro b ∨ w.heap.size ≤ b := fun b hb => hb.elim (hsub b) (fun h => .inr (Nat.le_trans hS.below.size h.1))
 replace hS := hS.readNew hbl
 replace hgv := SlV.keep hgv (ro' := (roFrom ro w w1)) (w' := w1) (Q' := GroupC (roFrom ro w w1) w1) (fun x hx => ⟨.inr hx, rfl⟩) (fun _ _ h => h.keep (fun x hx => ⟨.inr hx, rfl⟩))
 obtain ⟨gs, hgsd⟩ : ∃ gs, gs = grp9 (items9 ms) := ⟨_, rfl⟩
 rw [← hgsd] at hgv
 have hne : ∀ g ∈ gs, 0 < g.length := fun g hg => grp9_ne (by rw [← hgsd]; exact hg)
 have hio : ∀ g ∈ gs, ∀ x ∈ g, x.name.size ≤ maxLen ∧ inI x.mod ∧ inI x.params := fun g hg x hx => hit0 x (grp9_sub (by rw [← hgsd]; exact hg) x hx)
 have hgl : gs.length ≤ 1048576 := by rw [hgsd, grp9_length]; exact Nat.le_trans (nms9_length _) hmx
 obtain ⟨adg, capg, rfl, hga, hgb, hgc, hgd⟩ := id hgv
 have hgm : gs.length ≤ 9223372036854775807 := by have h1 := hga; have h2 := hgb; unfold maxLen at h2; omega
 refine WL.assign rfl rfl rfl (WL.nil (N.seq (W.seq (W.region (WL.assign rfl rfl rfl (WL.nil (N.seq (W.seq (W.block ?_)))))))))
 refine W.seq (W.block (W.seq (W.block (W.seq (W.block (W.seq (W.block (W.seq (W.seq ?_)))))))))
 refine W.seq (W.region (WL.move rfl rfl rfl ?_))
 refine WL.callF (vs := [.slice adg gs.length capg, .func (.func 50) #[] #[]]) Tryd.func49 (by kernel_rfl) rfl rfl rfl (coGroup_ret gs oddG _ (ro := (roFrom ro w w1)) (fun b hb => (hS.snap b hb).1) (SlV.keep hgv hS.alike (fun _ _ q => q.keep hS.alike)) Tryd.func50 (by kernel_rfl) (fun x sv u hm hs hb => all1_ret x sv (ro := (roFrom ro w w1)) (fun b hbb => Nat.lt_of_lt_of_le (hS.snap b hbb).1 hb.size) hs)) ?_
 rintro v w3 ⟨rfl, hbl⟩
 replace hS := hS.grow hbl
 refine WL.assign rfl rfl rfl (WL.nil (N.seq ?_))
 refine W.cond rfl (fun hc4 => ?_) (fun hc4 => ?_)
 ·
  refine W.exit (X.seq (X.seq (X.blk (N.seq (W.seq (W.seq (W.region (WL.assign rfl rfl rfl (WL.assign rfl rfl rfl ?_)))))))))
  refine WL.nil (N.seq ?_)
  refine Fin.ret2 rfl (v := .slice none 0 0) (v' := .int .i64 10) rfl rfl ?_
  have e : all9 (items9 ms) = ([], 10) := by unfold all9; rw [← hgsd, if_pos hc4]
  rw [e]
  exact ⟨_, rfl, slv_nil, hS.below⟩
 refine W.skip (N.seq (W.seq (W.seq (W.region (WL.move rfl rfl rfl ?_)))))
 refine WL.callF (vs := [.slice adg gs.length capg, .func (.func 52) #[] #[]]) Tryd.func49 (by kernel_rfl) rfl rfl rfl (coGroup_ret gs (fun g => decide (1 < many9 g)) _ (ro := (roFrom ro w w1)) (fun b hb => (hS.snap b hb).1) (SlV.keep hgv hS.alike (fun _ _ q => q.keep hS.alike)) Tryd.func52 (by kernel_rfl) (fun x sv u hm hs hb => all2_ret x sv (ro := (roFrom ro w w1)) (fun b hbb => Nat.lt_of_lt_of_le (hS.snap b hbb).1 hb.size) hs)) ?_
 rintro v w5 ⟨rfl, hbl⟩
 replace hS := hS.grow hbl
 refine WL.assign rfl rfl rfl (WL.nil (N.seq ?_))
 refine W.cond rfl (fun hc6 => ?_) (fun hc6 => ?_)
 ·
  refine W.exit (X.seq (X.seq (X.blk_ne rfl (X.seq (X.blk (N.seq (W.seq (W.seq (W.region ?_)))))))))
  refine WL.assign rfl rfl rfl (WL.assign rfl rfl rfl (WL.nil (N.seq ?_)))
  refine Fin.ret2 rfl (v := .slice none 0 0) (v' := .int .i64 9) rfl rfl ?_
  have e : all9 (items9 ms) = ([], 9) := by unfold all9; rw [← hgsd, if_neg (by rw [hc4]; decide), if_pos hc6]
  rw [e]
  exact ⟨_, rfl, slv_nil, hS.below⟩
 refine W.skip (N.seq (W.seq (W.seq (W.region (WL.move rfl rfl rfl ?_)))))
 refine WL.callF (vs := [.slice adg gs.length capg, .func (.func 54) #[] #[]]) Tryd.func49 (by kernel_rfl) rfl rfl rfl (coGroup_ret gs missing9 _ (ro := (roFrom ro w w1)) (fun b hb => (hS.snap b hb).1) (SlV.keep hgv hS.alike (fun _ _ q => q.keep hS.alike)) Tryd.func54 (by kernel_rfl) (fun x sv u hm hs hb => missing_ret x sv (ro := (roFrom ro w w1)) (fun b hbb => Nat.lt_of_lt_of_le (hS.snap b hbb).1 hb.size) hs)) ?_
 rintro v w7 ⟨rfl, hbl⟩
 replace hS := hS.grow hbl
 refine WL.assign rfl rfl rfl (WL.nil (N.seq ?_))
 refine W.cond rfl (fun hc8 => ?_) (fun hc8 => ?_)
 ·
  refine W.exit (X.seq (X.seq (X.blk_ne rfl (X.seq (X.blk_ne rfl (X.seq (X.blk (N.seq (W.region ?_)))))))))
  refine WL.assign rfl rfl rfl (WL.nil (N.blk (N.seq (W.seq (W.seq (W.region (WL.move rfl rfl rfl (WL.assign rfl rfl rfl (WL.assign rfl rfl rfl ?_)))))))))
  refine WL.nil (N.seq ?_)
  refine Fin.ret2 rfl (v := .slice none 0 0) (v' := .int .i64 8) rfl rfl ?_
  have e : all9 (items9 ms) = ([], 8) := by unfold all9; rw [← hgsd, if_neg (by rw [hc4]; decide), if_neg (by rw [hc6]; decide), if_pos hc8]
  rw [e]
  exact ⟨_, rfl, slv_nil, hS.below⟩
 refine W.skip (N.seq (W.seq (W.region (WL.move rfl rfl rfl (WL.bin rfl rfl rfl rfl rfl ?_)))))
 refine WL.set 23 (v' := .bool false) rfl rfl ?_
 refine WL.assign rfl rfl rfl (WL.nil (N.seq (W.condF rfl (W.skip (N.seq (W.exit (X.blk_ne rfl (X.seq (X.blk_ne rfl ?_)))))))))
 refine X.seq (X.blk_ne rfl (X.seq (X.blk_ne rfl (X.seq (X.blk (N.seq (W.seq (W.region (WL.assign rfl rfl rfl ?_)))))))))
 refine WL.nil (N.seq (W.seq (W.seq (W.region (WL.move rfl rfl rfl (WL.lenSlice Tryd.underlying111 rfl rfl rfl (WL.move rfl rfl rfl (WL.nil (N.seq ?_)))))))))
 refine W.block ?_
 replace hS := hS.row0 66 5
 refine W.loop (α := Nat × Value × List Value) (fun ⟨k, vo, cs⟩ => [(2, .slice none 0 0), (3, .int .i64 0), (4, .slice adg gs.length capg), (6, vo), (25, .slice adg gs.length capg), (26, .int .i64 (gs.length : Int)), (27, .int .i64 (k : Int))]) (fun ⟨k, vo, cs⟩ u => St w w1 u (roFrom ro w w1) [] [⟨vo, 66, 5, k, cs⟩] ∧ k ≤ gs.length ∧ Chunks 5 DefC cs ((gs.take k).map def9)) (fun ⟨k, vo, cs⟩ => gs.length - k) (0, (.slice none 0 0), []) ⟨rfl, rfl, rfl, rfl, rfl, rfl, rfl, trivial⟩ ⟨hS, Nat.zero_le _, Chunks.nil⟩ ?_
 clear hS
 rintro ⟨k, vo, cs⟩ w9 ⟨hS, hk, hch⟩
 have hrow : w9.ownsRow w.heap.size 66 5 vo (k) _ := hS.rows _ List.mem_cons_self
 obtain ⟨advo, capvo, rfl, hr1vo, hr2vo, hr3vo⟩ := row_shape hrow
 clear hrow
 refine W.seq (W.region (WL.bin rfl rfl rfl rfl rfl (WL.nil (N.seq (W.seq ?_)))))
 refine W.cond rfl (fun hc10 => ?_) (fun hc10 => ?_)
 ·
  have hc10p : (k : Int) < (gs.length : Int) := by simpa using hc10
  refine W.skip (N.seq (W.seq (W.block (W.seq (W.region ?_)))))
  have hj11 : k < gs.length := by omega
  obtain ⟨x11, hx11⟩ : ∃ zz, gs[k]? = some zz := ⟨_, List.getElem?_eq_getElem hj11⟩
  obtain ⟨b11, o11, cs11, hE11, hr11, hl11, hc11, hQ11⟩ := hgd k _ hx11
  have hQk11 := hQ11
  obtain ⟨sg11, rfl, hsg11⟩ := hQ11
  obtain ⟨adg11, capg11, rfl, hsg11a, hsg11b, hsg11c, hsg11d⟩ := id hsg11
  have hsg11m : x11.length ≤ 9223372036854775807 := by have h1 := hsg11a; have h2 := hsg11b; unfold maxLen at h2; omega
  refine WL.indexAddrE (j := k) Tryd.underlying111 isz_115 rfl rfl rfl rfl hj11 hE11 (WL.load1 (v := .slice adg11 x11.length capg11) one_115 rfl rfl rfl (hS.roCells hr11 hc11 0 _ rfl) (WL.assign rfl rfl rfl (WL.nil (N.seq (W.region (WL.move rfl rfl rfl (WL.move rfl rfl rfl ?_)))))))
  refine WL.callF (vs := [.slice adg11 x11.length capg11]) Tryd.func55 (by kernel_rfl) rfl rfl rfl (def_ret x11 _ (ro := (roFrom ro w w1)) (fun b hb => (hS.snap b hb).1) (SlV.keep hsg11 hS.alike (fun _ _ q => q)) (hne _ (List.mem_of_getElem? hx11))) ?_
  rintro v w12 ⟨rfl, hbl⟩
  replace hS := hS.grow hbl
  refine WL.buildSlice (ps := [(0, .agg #[.string ((def9 x11).name), .int .i64 ((def9 x11).mod), .bool ((def9 x11).fn), .bool ((def9 x11).weak), .bool ((def9 x11).here)])]) (cs := [.string ((def9 x11).name), .int .i64 ((def9 x11).mod), .bool ((def9 x11).fn), .bool ((def9 x11).weak), .bool ((def9 x11).here)]) Tryd.underlying62 (tyZero_spec zer_66) rfl rfl rfl rfl (by kernel_rfl) hS ?_
  clear hS; intro w14 b13 hb_b13 hS
  refine WL.append (r := ⟨.slice advo k capvo, 66, 5, k, cs⟩) (cs := [.string ((def9 x11).name), .int .i64 ((def9 x11).mod), .bool ((def9 x11).fn), .bool ((def9 x11).weak), .bool ((def9 x11).here)]) 32 Tryd.underlying62 (tyZero_spec zer_66) byt_66 rfl rfl rfl rfl rfl rfl rfl rfl rfl hS (by unfold maxLen; simp only; omega) (by simp only; omega) ?_
  clear hS; intro w15 v16 hn_v16 hS
  have hrow : w15.ownsRow w.heap.size 66 5 v16 (k + 1) _ := hS.rows _ List.mem_cons_self
  obtain ⟨av16, cv16, rfl, hc1_v16, hc2_v16, hc3_v16⟩ := row_shape hrow
  clear hrow
  refine WL.assign rfl rfl rfl (WL.nil (N.blk (N.seq (W.region ?_))))
  refine WL.add (c := (k : Int) + 1) rfl rfl rfl rfl (rfl) (by omega) ?_
  refine WL.move rfl rfl rfl (WL.nil ?_)
  have hch2 : Chunks 5 DefC (cs ++ ([.string ((def9 x11).name), .int .i64 ((def9 x11).mod), .bool ((def9 x11).fn), .bool ((def9 x11).weak), .bool ((def9 x11).here)] : List Value)) ((gs.take (k + 1)).map def9) := by rw [take_next hx11, List.map_append]; exact hch.snoc rfl (def9_ok (hne _ (List.mem_of_getElem? hx11)) (hio _ (List.mem_of_getElem? hx11)))
  exact N.loop (k + 1, .slice av16 (k + 1) cv16, cs ++ ([.string ((def9 x11).name), .int .i64 ((def9 x11).mod), .bool ((def9 x11).fn), .bool ((def9 x11).weak), .bool ((def9 x11).here)] : List Value)) ⟨rfl, rfl, rfl, rfl, rfl, rfl, rfl, trivial⟩ ⟨hS, by omega, hch2⟩ (by first | omega | (simp only; omega))
 have hc10p : ¬ ((k : Int) < (gs.length : Int)) := by simpa using hc10
 refine W.exit (X.seq (X.loop (X.blk (N.seq (W.seq (W.region (WL.move rfl rfl rfl ?_)))))))
 have hke : k = (gs.map def9).length := by rw [List.length_map]; omega
 subst hke
 rw [List.length_map, List.take_length] at hch
 have hal17 := hS.giveRowAlike
 replace hsub : ∀ b, (fun x => (roFrom ro w w1) x ∨ (.slice advo ((gs.map def9).length) capvo : Value).ownBlock = some x) b → ro b ∨ w.heap.size ≤ b := fun b hb => hb.elim (hsub b) (fun h => .inr (hS.giveRowLe b h))
 replace hgd := hgd.keep hal17 (fun _ _ h => h.keep hal17)
 replace hgv := SlV.keep hgv hal17 (fun _ _ h => h.keep hal17)
 have hrow18 := hS.rows _ List.mem_cons_self
 replace hS := hS.giveRow
 have hsv : SlV (fun x => (roFrom ro w w1) x ∨ (.slice advo ((gs.map def9).length) capvo : Value).ownBlock = some x) w9 5 DefC (.slice advo ((gs.map def9).length) capvo) (gs.map def9) := row_slv hrow18 hch rfl (fun b hb => .inr hb)
 have hlm : (gs.map def9).length = gs.length := by rw [List.length_map]
 have hsvd : Elems (fun x => (roFrom ro w w1) x ∨ (.slice advo ((gs.map def9).length) capvo : Value).ownBlock = some x) w9 5 DefC advo (gs.map def9) := by obtain ⟨_, _, e, _, _, _, h⟩ := id hsv; cases e; exact h
 refine WL.callF (vs := [.slice adg gs.length capg, .func (.func 57) #[] #[]]) Tryd.func56 (by kernel_rfl) rfl rfl rfl (ixGroup_ret gs isMain _ (ro := (fun x => (roFrom ro w w1) x ∨ (.slice advo ((gs.map def9).length) capvo : Value).ownBlock = some x)) (fun b hb => (hS.snap b hb).1) (SlV.keep hgv hS.alike (fun _ _ q => q.keep hS.alike)) Tryd.func57 (by kernel_rfl) (fun x sv u hm hs hb => all3_ret x sv (ro := (fun x => (roFrom ro w w1) x ∨ (.slice advo ((gs.map def9).length) capvo : Value).ownBlock = some x)) (fun b hbb => Nat.lt_of_lt_of_le (hS.snap b hbb).1 hb.size) hs (hne _ hm))) ?_
 rintro v w19 ⟨rfl, hbl⟩
 replace hS := hS.grow hbl
 refine WL.assign rfl rfl rfl (WL.nil (N.seq (W.seq (W.seq (W.region (WL.move rfl rfl rfl (WL.bin rfl rfl rfl rfl rfl (WL.move rfl rfl rfl ?_))))))))
 cases hg20 : (decide (ixI isMain gs < 0))
 ·
  have hg20p : ¬ (ixI isMain gs < 0) := by simpa using hg20
  refine WL.move rfl rfl rfl (WL.move rfl rfl rfl ?_)
  obtain ⟨jm, hjm, hjl⟩ := ixI_nat hg20p
  refine WL.set 43 (v' := .int .i64 (jm : Int)) rfl (by rw [hjm]) ?_
  have hj21 : jm < (gs.map def9).length := by first | omega | (rw [List.length_map]; omega)
  obtain ⟨x21, hx21⟩ : ∃ zz, (gs.map def9)[jm]? = some zz := ⟨_, List.getElem?_eq_getElem hj21⟩
  obtain ⟨b21, o21, cs21, hE21, hr21, hl21, hc21, hQ21⟩ := hsvd jm _ hx21
  obtain ⟨rfl, hdn21, hdm21⟩ := hQ21
  refine WL.indexAddrE (j := jm) Tryd.underlying62 isz_66 rfl rfl rfl rfl hj21 hE21 (WL.fieldAddr fo_66_4 rfl rfl rfl (WL.load1 (v := .bool x21.here) one_4 rfl rfl rfl (hS.roCells hr21 hc21 4 _ rfl) (WL.not rfl rfl rfl (WL.pick (v := .bool (!x21.here)) rfl rfl rfl rfl rfl rfl (WL.move rfl rfl rfl ?_)))))
  cases hg22 : (!x21.here)
  ·
   refine WL.move rfl rfl rfl (WL.move rfl rfl rfl ?_)
   refine WL.set 51 (v' := .int .i64 (jm : Int)) rfl (by rw [hjm]) ?_
   have hj23 : jm < gs.length := by first | omega | (rw [List.length_map]; omega)
   obtain ⟨x23, hx23⟩ : ∃ zz, gs[jm]? = some zz := ⟨_, List.getElem?_eq_getElem hj23⟩
   obtain ⟨b23, o23, cs23, hE23, hr23, hl23, hc23, hQ23⟩ := hgd jm _ hx23
   have hQk23 := hQ23
   obtain ⟨sg23, rfl, hsg23⟩ := hQ23
   obtain ⟨adg23, capg23, rfl, hsg23a, hsg23b, hsg23c, hsg23d⟩ := id hsg23
   have hsg23m : x23.length ≤ 9223372036854775807 := by have h1 := hsg23a; have h2 := hsg23b; unfold maxLen at h2; omega
   refine WL.indexAddrE (j := jm) Tryd.underlying111 isz_115 rfl rfl rfl rfl hj23 hE23 (WL.load1 (v := .slice adg23 x23.length capg23) one_115 rfl rfl rfl (hS.roCells hr23 hc23 0 _ rfl) ?_)
   have hj24 : 0 < x23.length := hne _ (List.mem_of_getElem? hx23)
   obtain ⟨x24, hx24⟩ : ∃ zz, x23[0]? = some zz := ⟨_, List.getElem?_eq_getElem hj24⟩
   obtain ⟨b24, o24, cs24, hE24, hr24, hl24, hc24, hQ24⟩ := hsg23d 0 _ hx24
   obtain ⟨rfl, hin24, him24, hip24⟩ := hQ24
   refine WL.indexAddrE (j := 0) Tryd.underlying115 isz_110 rfl rfl rfl rfl hj24 hE24 (WL.fieldAddr fo_110_2 rfl rfl rfl (WL.load1 (v := .bool x24.fn) one_4 rfl rfl rfl (hS.roCells hr24 hc24 2 _ rfl) (WL.not rfl rfl rfl (WL.pick (v := .bool (!x24.fn)) rfl rfl rfl rfl rfl rfl (WL.move rfl rfl rfl ?_)))))
   cases hg25 : (!x24.fn)
   ·
    refine WL.move rfl rfl rfl (WL.move rfl rfl rfl ?_)
    refine WL.set 61 (v' := .int .i64 (jm : Int)) rfl (by rw [hjm]) ?_
    refine WL.indexAddrE (j := jm) Tryd.underlying111 isz_115 rfl rfl rfl rfl hj23 hE23 (WL.load1 (v := .slice adg23 x23.length capg23) one_115 rfl rfl rfl (hS.roCells hr23 hc23 0 _ rfl) (WL.indexAddrE (j := 0) Tryd.underlying115 isz_110 rfl rfl rfl rfl hj24 hE24 (WL.fieldAddr fo_110_3 rfl rfl rfl (WL.load1 (v := .int .i64 x24.params) one_3 rfl rfl rfl (hS.roCells hr24 hc24 3 _ rfl) (WL.bin rfl rfl rfl rfl rfl (WL.pick (v := .bool (!decide (x24.params = 0))) rfl rfl rfl rfl rfl rfl (WL.nil (N.seq ?_))))))))
    refine W.cond rfl (fun hc26 => ?_) (fun hc26 => ?_)
    ·
     have hc26p : ¬ (x24.params = 0) := by simpa using hc26
     refine W.seq (W.region (WL.assign rfl rfl rfl (WL.assign rfl rfl rfl (WL.nil (N.seq ?_)))))
     refine Fin.ret2 rfl (v := .slice none 0 0) (v' := .int .i64 11) rfl rfl ?_
     have en : entry9 gs = false := by
      rw [entry_at hjm hx23]; unfold okMain
      have ed : x21 = def9 x23 := by have h := hx21; rw [List.getElem?_map, hx23] at h; exact (Option.some.inj h).symm
      rw [← ed]
      have e0 : x23.getD 0 item0 = x24 := by rw [List.getD_eq_getElem?_getD, hx24]; rfl
      rw [e0]
      clear hS; simp_all
     have e : all9 (items9 ms) = ([], 11) := by unfold all9; rw [← hgsd, if_neg (by rw [hc4]; decide), if_neg (by rw [hc6]; decide), if_neg (by rw [hc8]; decide), if_neg (by rw [en]; decide)]
     rw [e]
     exact ⟨_, rfl, slv_nil, hS.below⟩
    have hc26p : x24.params = 0 := by simpa using hc26
    refine W.skip (N.seq (W.seq (W.region (WL.move rfl rfl rfl (WL.assign rfl rfl rfl (WL.assign rfl rfl rfl (WL.nil (N.seq ?_))))))))
    refine Fin.ret2 rfl (v := .slice advo ((gs.map def9).length) capvo) (v' := .int .i64 0) rfl rfl ?_
    have en : entry9 gs = true := by
     rw [entry_at hjm hx23]; unfold okMain
     have ed : x21 = def9 x23 := by have h := hx21; rw [List.getElem?_map, hx23] at h; exact (Option.some.inj h).symm
     rw [← ed]
     have e0 : x23.getD 0 item0 = x24 := by rw [List.getD_eq_getElem?_getD, hx24]; rfl
     rw [e0]
     clear hS; simp_all
    have e : all9 (items9 ms) = (gs.map def9, 0) := by unfold all9; rw [← hgsd, if_neg (by rw [hc4]; decide), if_neg (by rw [hc6]; decide), if_neg (by rw [hc8]; decide), if_pos en]
    have hfin : Alike (fun x => (roFrom ro w w1) x ∨ (.slice advo ((gs.map def9).length) capvo : Value).ownBlock = some x) w9 (roFrom ro w w19) w19 := fun b hb => ⟨(hsub b hb).elim .inl (fun h => .inr ⟨h, (hS.snap b hb).1⟩), (hS.snap b hb).2⟩
    rw [e]
    exact ⟨_, rfl, hsv.keep hfin (fun _ _ h => h), hS.below⟩
   refine WL.skp rfl rfl (WL.skp rfl rfl (WL.skp rfl rfl (WL.skp rfl rfl (WL.skp rfl rfl (WL.skp rfl rfl (WL.skp rfl rfl (WL.skp rfl rfl (WL.pick (v := .bool true) rfl rfl rfl rfl rfl rfl (WL.nil ?_)))))))))
   refine N.seq (W.condT rfl (W.seq (W.region (WL.assign rfl rfl rfl (WL.assign rfl rfl rfl (WL.nil (N.seq ?_)))))))
   refine Fin.ret2 rfl (v := .slice none 0 0) (v' := .int .i64 11) rfl rfl ?_
   have en : entry9 gs = false := by
    rw [entry_at hjm hx23]; unfold okMain
    have ed : x21 = def9 x23 := by have h := hx21; rw [List.getElem?_map, hx23] at h; exact (Option.some.inj h).symm
    rw [← ed]
    have e0 : x23.getD 0 item0 = x24 := by rw [List.getD_eq_getElem?_getD, hx24]; rfl
    rw [e0]
    clear hS; simp_all
   have e : all9 (items9 ms) = ([], 11) := by unfold all9; rw [← hgsd, if_neg (by rw [hc4]; decide), if_neg (by rw [hc6]; decide), if_neg (by rw [hc8]; decide), if_neg (by rw [en]; decide)]
   rw [e]
   exact ⟨_, rfl, slv_nil, hS.below⟩
  refine WL.skp rfl rfl (WL.skp rfl rfl (WL.skp rfl rfl (WL.skp rfl rfl (WL.skp rfl rfl (WL.skp rfl rfl (WL.skp rfl rfl (WL.skp rfl rfl (WL.pick (v := .bool true) rfl rfl rfl rfl rfl rfl (WL.move rfl rfl rfl ?_)))))))))
  refine WL.skp rfl rfl (WL.skp rfl rfl (WL.skp rfl rfl (WL.skp rfl rfl (WL.skp rfl rfl (WL.skp rfl rfl (WL.skp rfl rfl (WL.skp rfl rfl (WL.pick (v := .bool true) rfl rfl rfl rfl rfl rfl (WL.nil ?_)))))))))
  refine N.seq (W.condT rfl (W.seq (W.region (WL.assign rfl rfl rfl (WL.assign rfl rfl rfl (WL.nil (N.seq ?_)))))))
  refine Fin.ret2 rfl (v := .slice none 0 0) (v' := .int .i64 11) rfl rfl ?_
  have en : entry9 gs = false := by
   obtain ⟨xg, hxg⟩ : ∃ z, gs[jm]? = some z := ⟨_, List.getElem?_eq_getElem hjl⟩
   rw [entry_at hjm hxg]; unfold okMain
   have ed : x21 = def9 xg := by have h := hx21; rw [List.getElem?_map, hxg] at h; exact (Option.some.inj h).symm
   rw [← ed]
   clear hS; simp_all
  have e : all9 (items9 ms) = ([], 11) := by unfold all9; rw [← hgsd, if_neg (by rw [hc4]; decide), if_neg (by rw [hc6]; decide), if_neg (by rw [hc8]; decide), if_neg (by rw [en]; decide)]
  rw [e]
  exact ⟨_, rfl, slv_nil, hS.below⟩
 have hg20p : ixI isMain gs < 0 := by simpa using hg20
 refine WL.skp rfl rfl (WL.skp rfl rfl (WL.skp rfl rfl (WL.skp rfl rfl (WL.skp rfl rfl (WL.skp rfl rfl (WL.pick (v := .bool true) rfl rfl rfl rfl rfl rfl (WL.move rfl rfl rfl (WL.skp rfl rfl (WL.skp rfl rfl ?_)))))))))
 refine WL.skp rfl rfl (WL.skp rfl rfl (WL.skp rfl rfl (WL.skp rfl rfl (WL.skp rfl rfl (WL.skp rfl rfl (WL.pick (v := .bool true) rfl rfl rfl rfl rfl rfl (WL.move rfl rfl rfl (WL.skp rfl rfl (WL.skp rfl rfl ?_)))))))))
 refine WL.skp rfl rfl (WL.skp rfl rfl (WL.skp rfl rfl (WL.skp rfl rfl (WL.skp rfl rfl (WL.skp rfl rfl (WL.pick (v := .bool true) rfl rfl rfl rfl rfl rfl (WL.nil (N.seq (W.condT rfl ?_)))))))))
 refine W.seq (W.region (WL.assign rfl rfl rfl (WL.assign rfl rfl rfl (WL.nil (N.seq ?_)))))
 refine Fin.ret2 rfl (v := .slice none 0 0) (v' := .int .i64 11) rfl rfl ?_
 have en : entry9 gs = false := by
  exact entry_none hg20p
 have e : all9 (items9 ms) = ([], 11) := by unfold all9; rw [← hgsd, if_neg (by rw [hc4]; decide), if_neg (by rw [hc6]; decide), if_neg (by rw [hc8]; decide), if_neg (by rw [en]; decide)]
 rw [e]
 exact ⟨_, rfl, slv_nil, hS.below⟩

end Go.Proofs.YtapjejjmhmdmdaaDoor
