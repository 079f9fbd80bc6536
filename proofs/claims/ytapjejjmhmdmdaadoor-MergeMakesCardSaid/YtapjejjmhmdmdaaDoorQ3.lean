/-
  Contracts of layer 9 (resolve). No condition beyond those that each theorem states.
-/
import Derived.Test.YtapjejjmhmdmdaaDoorN1
import Derived.Test.YtapjejjmhmdmdaaDoorA20
import Derived.Test.YtapjejjmhmdmdaaDoorZ6
namespace Go.Proofs.YtapjejjmhmdmdaaDoor
open Go.RowKit
theorem agg_110 : tyAgg Tryd.prog 110 6 = true := by kernel_rfl
theorem byt_110 : (Tryd.prog.info? 110).map (·.bytes) = some 48 := by kernel_rfl
theorem byt_115 : (Tryd.prog.info? 115).map (·.bytes) = some 24 := by kernel_rfl
theorem isz_115 : (Tryd.prog.info? 115).map (·.size) = some 1 := by kernel_rfl
theorem one_111 : tyOne Tryd.prog 111 = true := by kernel_rfl
theorem one_115 : tyOne Tryd.prog 115 = true := by kernel_rfl
theorem one_141 : tyOne Tryd.prog 141 = true := by kernel_rfl
theorem siz_111 : tySize Tryd.prog 111 1 = true := by kernel_rfl
theorem siz_115 : tySize Tryd.prog 115 1 = true := by kernel_rfl
theorem siz_141 : tySize Tryd.prog 141 1 = true := by kernel_rfl
theorem zb_3 : (Tryd.prog.info? 3).bind (·.zero) = some (.int .i64 0) := by kernel_rfl
theorem zer_111 : tyZero Tryd.prog 111 = some [.slice none 0 0] := by kernel_rfl
theorem zer_115 : tyZero Tryd.prog 115 = some [.slice none 0 0] := by kernel_rfl
theorem zer_141 : tyZero Tryd.prog 141 = some [.map none] := by kernel_rfl
theorem chunks_groups {e : Nat} {ro : Nat → Prop} {w : World} {base : Nat} : ∀ {GR : List Row} {gs : List (List DItem)}, RG e GR gs → (∀ r ∈ GR, w.ownsRow base r.e r.sz r.v r.n r.xs) → (∀ r ∈ GR, ∀ b, r.v.ownBlock = some b → ro b) → Chunks 1 (GroupC ro w) (GR.map (·.v)) gs := by
  intro GR gs hRG hown hro
  refine ⟨by rw [List.length_map, hRG.1]; omega, fun j g hg => ?_⟩
  have hj : j < GR.length := by rw [hRG.1]; exact (List.getElem?_eq_some_iff.1 hg).1
  obtain ⟨h1, h2, h3, h4⟩ := hRG.2 j _ g (List.getElem?_eq_getElem hj) hg
  have hr := hown _ (List.getElem_mem hj)
  rw [h2] at hr
  have e : ((GR.map (·.v)).drop (j * 1)).take 1 = [(GR[j]).v] := by
    rw [Nat.mul_one, ← List.map_drop, List.drop_eq_getElem_cons hj]; rfl
  rw [e]
  exact ⟨_, rfl, row_slv hr h4 h3 (hro _ (List.getElem_mem hj))⟩

theorem groups_ret (ms : List DMod) (vx : Value) {w : World} {ro : Nat → Prop} (hro : ∀ b, ro b → b < w.heap.size) (hx : SlV ro w 2 (ModC ro w) vx ms) (hmx : (items9 ms).length ≤ 1048576) (hit0 : ∀ x ∈ items9 ms, x.name.size ≤ maxLen ∧ inI x.mod ∧ inI x.params) : Ret Tryd.prog 48 #[vx] w fun v w' => SlV (fun b => w.heap.size ≤ b ∧ b < w'.heap.size) w' 1 (GroupC (fun b => w.heap.size ≤ b ∧ b < w'.heap.size) w') v (grp9 (items9 ms)) ∧ Below w.heap.size w w' := by
 refine Ret.enterM (P := Tryd.prog) (n := 41) (args := [vx]) (σ := [(0, vx)]) Tryd.func48 rfl rfl rfl rfl ?_
 have hS := St.start (ro := ro) hro
 refine W.seq (W.region (WL.assign rfl rfl rfl (WL.nil (N.seq (W.seq (W.region ?_))))))
 refine WL.makeMap rfl rfl hS ?_
 clear hS; intro w2 b1 hS
 refine WL.alloc (tyZero_spec zer_141) rfl rfl hS ?_
 clear hS; intro w4 b3 hb_b3 hS
 refine WL.store (L' := [(b3, .cells #[.map (some b1)] 141 (0, 0)), (b1, .map #[] 0)]) 0 rfl rfl rfl rfl siz_141 rfl rfl rfl rfl rfl hS ?_
 clear hS; intro w5 hS
 refine WL.nil (N.seq (W.seq (W.region ?_)))
 refine WL.alloc (tyZero_spec zer_111) rfl rfl hS ?_
 clear hS; intro w7 b6 hb_b6 hS
 refine WL.nil (N.seq (W.seq (W.seq (W.region (WL.move rfl rfl rfl ?_)))))
 refine WL.callF (vs := [vx]) Tryd.func47 (by kernel_rfl) rfl rfl rfl (items_ret ms _ hro hx (w0 := w) (w := w7) hS.below) ?_
 rintro v w8 ⟨bl, rfl, hit, hbl⟩
 replace hS := hS.grow hbl
 refine WL.nil (N.seq (W.block ?_))
 have hbm : b1 < w8.heap.size := (Array.getElem?_eq_some_iff.1 (hS.own _ (List.mem_of_getElem? (i := 2) rfl))).1
 replace hS := hS.row0 115 1
 refine W.ofX ?_
 have hlow0 := hS.below.size
 have hTy : ∀ (pre : List DItem) (x : Array MapEntry × Nat × Value × List Row), (fun (pre : List DItem) ⟨es, ck, V, GR⟩ => MapG kS kI es ck pre.length (at9 pre) ∧ RG 110 GR (grp9 pre)) pre x → TyOk 32 w8.heap.size ((fun (pre : List DItem) ⟨es, ck, V, GR⟩ => [(b6, .cells #[V] 111 (0, 0)), (b3, .cells #[.map (some b1)] 141 (0, 0)), (b1, .map es ck)]) pre x) ((fun (pre : List DItem) ⟨es, ck, V, GR⟩ => (⟨V, 115, 1, (nms9 pre).length, (GR.map (·.v))⟩ :: GR)) pre x) := fun pre ⟨es, ck, V, GR⟩ hF => ⟨by simp only [List.mem_cons, List.not_mem_nil, or_false]; rintro p (rfl | rfl | rfl) <;> first | exact .inl ⟨_, _, _, rfl, by decide⟩ | exact .inr ⟨hbm, rfl⟩, fun r hr => (List.mem_cons.1 hr).elim (fun e => by subst e; simp) (fun hr => by rw [hF.2.type r hr]; decide)⟩
 refine WX.range (γ := Array MapEntry × Nat × Value × List Row) (xs := items9 ms) rfl Tryd.func80 (by kernel_rfl) rfl hit (fun pre ⟨es, ck, V, GR⟩ => [(b6, .cells #[V] 111 (0, 0)), (b3, .cells #[.map (some b1)] 141 (0, 0)), (b1, .map es ck)]) (fun pre ⟨es, ck, V, GR⟩ => (⟨V, 115, 1, (nms9 pre).length, (GR.map (·.v))⟩ :: GR)) (fun pre ⟨es, ck, V, GR⟩ => MapG kS kI es ck pre.length (at9 pre) ∧ RG 110 GR (grp9 pre)) (#[], 0, .slice none 0 0, []) ⟨MapG.empty, RG.nil _⟩ hS hTy ?_ ?_
 ·
  rintro l pre e ⟨es, ck, V, GR⟩ A ⟨hM, hRG⟩ hpre hS
  have hlen : pre.length + 1 ≤ (items9 ms).length := by have h := hpre.length_le; simpa using h
  have hlow := hS.below.size
  refine ⟨Nat, fun bx => [(3, .pointer (some ⟨b3, 0, none⟩)), (4, .pointer (some ⟨b6, 0, none⟩)), (5, .pointer (some ⟨bx, 0, none⟩))], fun bx => [(bx, .cells #[.string e.name, .int .i64 e.mod, .bool e.fn, .int .i64 e.params, .bool e.here, .bool e.strong] 110 (0, 0)), (b6, .cells #[V] 111 (0, 0)), (b3, .cells #[.map (some b1)] 141 (0, 0)), (b1, .map es ck)], fun bx => (⟨V, 115, 1, (nms9 pre).length, (GR.map (·.v))⟩ :: GR), fun bx => ⟨by simp only [List.mem_cons, List.not_mem_nil, or_false]; rintro p (rfl | rfl | rfl | rfl) <;> first | exact .inl ⟨_, _, _, rfl, by decide⟩ | exact .inr ⟨hbm, rfl⟩, fun r hr => (List.mem_cons.1 hr).elim (fun e => by subst e; simp) (fun hr => by rw [(⟨hM, hRG⟩ : _ ∧ _).2.type r hr]; decide)⟩, ?_, ?_⟩
  ·
   refine WX.region (α := Nat) (fun bx => [(3, .pointer (some ⟨b3, 0, none⟩)), (4, .pointer (some ⟨b6, 0, none⟩)), (5, .pointer (some ⟨bx, 0, none⟩))]) (fun bx u => St w A u (othK A [(b6, .cells #[V] 111 (0, 0)), (b3, .cells #[.map (some b1)] 141 (0, 0)), (b1, .map es ck)] (⟨V, 115, 1, (nms9 pre).length, (GR.map (·.v))⟩ :: GR)) [(bx, .cells #[.string e.name, .int .i64 e.mod, .bool e.fn, .int .i64 e.params, .bool e.here, .bool e.strong] 110 (0, 0)), (b6, .cells #[V] 111 (0, 0)), (b3, .cells #[.map (some b1)] 141 (0, 0)), (b1, .map es ck)] (⟨V, 115, 1, (nms9 pre).length, (GR.map (·.v))⟩ :: GR)) rfl ?_ ?_
   ·
    refine WL.alloc (tyZero_spec zer_110) rfl rfl hS ?_
    clear hS; intro w10 b9 hb_b9 hS
    refine WL.store (L' := [(b9, .cells #[.string e.name, .int .i64 e.mod, .bool e.fn, .int .i64 e.params, .bool e.here, .bool e.strong] 110 (0, 0)), (b6, .cells #[V] 111 (0, 0)), (b3, .cells #[.map (some b1)] 141 (0, 0)), (b1, .map es ck)]) 0 rfl rfl rfl rfl siz_110 rfl rfl rfl rfl rfl hS ?_
    clear hS; intro w11 hS
    refine WL.nil ?_
    exact N.cut b9 ⟨rfl, rfl, rfl, trivial⟩ hS
   intro bx wz hS
   exact NX.cut bx ⟨rfl, rfl, rfl, trivial⟩ hS
  clear hS hlow; intro bx A hS
  have hlow := hS.below.size
  have hrow : A.ownsRow w.heap.size 115 1 V (nms9 pre).length _ := hS.rows _ List.mem_cons_self
  obtain ⟨adV, capV, rfl, hV1, hV2, hV3⟩ := row_shape hrow
  clear hrow
  refine WX.block (WX.seq ?_)
  refine WX.region (α := Unit) (fun _ => [(3, .pointer (some ⟨b3, 0, none⟩)), (4, .pointer (some ⟨b6, 0, none⟩)), (5, .pointer (some ⟨bx, 0, none⟩)), (6, .int .i64 (((at9 pre) e.name).getD 0)), (7, .bool (((at9 pre) e.name).isSome)), (12, .tuple #[.int .i64 (((at9 pre) e.name).getD 0), .bool (((at9 pre) e.name).isSome)]), (13, .map (some b1)), (14, .pointer (some ⟨bx, 0, none⟩)), (15, .string e.name), (16, .tuple #[.int .i64 (((at9 pre) e.name).getD 0), .bool (((at9 pre) e.name).isSome)]), (17, .int .i64 (((at9 pre) e.name).getD 0)), (18, .bool (((at9 pre) e.name).isSome))]) (fun _ u => St w A u (othK A [(bx, .cells #[.string e.name, .int .i64 e.mod, .bool e.fn, .int .i64 e.params, .bool e.here, .bool e.strong] 110 (0, 0)), (b6, .cells #[.slice adV ((nms9 pre).length) capV] 111 (0, 0)), (b3, .cells #[.map (some b1)] 141 (0, 0)), (b1, .map es ck)] (⟨.slice adV ((nms9 pre).length) capV, 115, 1, (nms9 pre).length, (GR.map (·.v))⟩ :: GR)) [(bx, .cells #[.string e.name, .int .i64 e.mod, .bool e.fn, .int .i64 e.params, .bool e.here, .bool e.strong] 110 (0, 0)), (b6, .cells #[.slice adV ((nms9 pre).length) capV] 111 (0, 0)), (b3, .cells #[.map (some b1)] 141 (0, 0)), (b1, .map es ck)] (⟨.slice adV ((nms9 pre).length) capV, 115, 1, (nms9 pre).length, (GR.map (·.v))⟩ :: GR)) rfl ?_ ?_
  ·
   refine WL.load1 (v := .map (some b1)) one_141 rfl rfl rfl (hS.cell 2 rfl rfl) (WL.fieldAddr fo_110_0 rfl rfl rfl (WL.load1 (v := .string e.name) one_9 rfl rfl rfl (hS.cell 0 rfl rfl) ?_))
   refine WL.mapGetOk (c := ((at9 pre) e.name).isSome) e.name keyE_str Tryd.underlying141 Tryd.underlying9 zb_3 hM rfl rfl rfl rfl (hS.own _ (List.mem_of_getElem? (i := 3) rfl)) (v := .int .i64 (((at9 pre) e.name).getD 0)) (by cases (at9 pre) e.name <;> rfl) rfl ?_
   refine WL.move rfl rfl rfl (WL.extract (v := .int .i64 (((at9 pre) e.name).getD 0)) rfl rfl rfl rfl (WL.extract (v := .bool (((at9 pre) e.name).isSome)) rfl rfl rfl rfl (WL.assign rfl rfl rfl (WL.assign rfl rfl rfl (WL.nil ?_)))))
   exact N.cut () ⟨rfl, rfl, rfl, rfl, rfl, rfl, rfl, rfl, rfl, rfl, rfl, rfl, trivial⟩ hS
  clear hS
  rintro ⟨⟩ w12 hS
  refine NX.seq ?_
  refine WX.cut (α := Array MapEntry × Nat × Value × List Row × Nat × List (List DItem) × List DItem) (fun ⟨es2, ck2, V2, GR2, i, gs1, gi⟩ => [(3, .pointer (some ⟨b3, 0, none⟩)), (4, .pointer (some ⟨b6, 0, none⟩)), (5, .pointer (some ⟨bx, 0, none⟩)), (6, .int .i64 (i : Int)), (7, .bool (((at9 pre) e.name).isSome)), (12, .tuple #[.int .i64 (((at9 pre) e.name).getD 0), .bool (((at9 pre) e.name).isSome)]), (13, .map (some b1)), (14, .pointer (some ⟨bx, 0, none⟩)), (15, .string e.name), (16, .tuple #[.int .i64 (((at9 pre) e.name).getD 0), .bool (((at9 pre) e.name).isSome)]), (17, .int .i64 (((at9 pre) e.name).getD 0)), (18, .bool (((at9 pre) e.name).isSome))]) (fun ⟨es2, ck2, V2, GR2, i, gs1, gi⟩ u => St w A u (othK A [(bx, .cells #[.string e.name, .int .i64 e.mod, .bool e.fn, .int .i64 e.params, .bool e.here, .bool e.strong] 110 (0, 0)), (b6, .cells #[.slice adV ((nms9 pre).length) capV] 111 (0, 0)), (b3, .cells #[.map (some b1)] 141 (0, 0)), (b1, .map es ck)] (⟨.slice adV ((nms9 pre).length) capV, 115, 1, (nms9 pre).length, (GR.map (·.v))⟩ :: GR)) [(bx, .cells #[.string e.name, .int .i64 e.mod, .bool e.fn, .int .i64 e.params, .bool e.here, .bool e.strong] 110 (0, 0)), (b6, .cells #[V2] 111 (0, 0)), (b3, .cells #[.map (some b1)] 141 (0, 0)), (b1, .map es2 ck2)] (⟨V2, 115, 1, gs1.length, (GR2.map (·.v))⟩ :: GR2) ∧ MapG kS kI es2 ck2 (pre.length + 1) (at9 (pre ++ [e])) ∧ RG 110 GR2 gs1 ∧ gs1[i]? = some gi ∧ grp9 (pre ++ [e]) = gs1.set i (gi ++ [e]) ∧ gi.length ≤ pre.length) ?_ ?_
  ·
   refine WX.seq ?_
   refine WX.region (α := Unit) (fun _ => [(3, .pointer (some ⟨b3, 0, none⟩)), (4, .pointer (some ⟨b6, 0, none⟩)), (5, .pointer (some ⟨bx, 0, none⟩)), (6, .int .i64 (((at9 pre) e.name).getD 0)), (7, .bool (((at9 pre) e.name).isSome)), (12, .tuple #[.int .i64 (((at9 pre) e.name).getD 0), .bool (((at9 pre) e.name).isSome)]), (13, .map (some b1)), (14, .pointer (some ⟨bx, 0, none⟩)), (15, .string e.name), (16, .tuple #[.int .i64 (((at9 pre) e.name).getD 0), .bool (((at9 pre) e.name).isSome)]), (17, .int .i64 (((at9 pre) e.name).getD 0)), (18, .bool (((at9 pre) e.name).isSome)), (19, .bool (((at9 pre) e.name).isSome)), (20, .bool (!(((at9 pre) e.name).isSome)))]) (fun _ u => St w A u (othK A [(bx, .cells #[.string e.name, .int .i64 e.mod, .bool e.fn, .int .i64 e.params, .bool e.here, .bool e.strong] 110 (0, 0)), (b6, .cells #[.slice adV ((nms9 pre).length) capV] 111 (0, 0)), (b3, .cells #[.map (some b1)] 141 (0, 0)), (b1, .map es ck)] (⟨.slice adV ((nms9 pre).length) capV, 115, 1, (nms9 pre).length, (GR.map (·.v))⟩ :: GR)) [(bx, .cells #[.string e.name, .int .i64 e.mod, .bool e.fn, .int .i64 e.params, .bool e.here, .bool e.strong] 110 (0, 0)), (b6, .cells #[.slice adV ((nms9 pre).length) capV] 111 (0, 0)), (b3, .cells #[.map (some b1)] 141 (0, 0)), (b1, .map es ck)] (⟨.slice adV ((nms9 pre).length) capV, 115, 1, (nms9 pre).length, (GR.map (·.v))⟩ :: GR)) rfl ?_ ?_
   ·
    refine WL.move rfl rfl rfl (WL.not rfl rfl rfl (WL.nil ?_))
    exact N.cut () ⟨rfl, rfl, rfl, rfl, rfl, rfl, rfl, rfl, rfl, rfl, rfl, rfl, rfl, rfl, trivial⟩ hS
   clear hS
   rintro ⟨⟩ w13 hS
   refine NX.seq ?_
   refine WX.cond rfl (fun hc14 => ?_) (fun hc14 => ?_)
   ·
    refine WX.seq ?_
    refine WX.region (α := Unit) (fun _ => [(3, .pointer (some ⟨b3, 0, none⟩)), (4, .pointer (some ⟨b6, 0, none⟩)), (5, .pointer (some ⟨bx, 0, none⟩)), (6, .int .i64 ((nms9 pre).length : Int)), (7, .bool (((at9 pre) e.name).isSome)), (12, .tuple #[.int .i64 (((at9 pre) e.name).getD 0), .bool (((at9 pre) e.name).isSome)]), (13, .map (some b1)), (14, .pointer (some ⟨bx, 0, none⟩)), (15, .string e.name), (16, .tuple #[.int .i64 (((at9 pre) e.name).getD 0), .bool (((at9 pre) e.name).isSome)]), (17, .int .i64 (((at9 pre) e.name).getD 0)), (18, .bool (((at9 pre) e.name).isSome)), (19, .bool (((at9 pre) e.name).isSome)), (20, .bool (!(((at9 pre) e.name).isSome))), (21, .slice adV ((nms9 pre).length) capV), (22, .int .i64 ((nms9 pre).length : Int))]) (fun _ u => St w A u (othK A [(bx, .cells #[.string e.name, .int .i64 e.mod, .bool e.fn, .int .i64 e.params, .bool e.here, .bool e.strong] 110 (0, 0)), (b6, .cells #[.slice adV ((nms9 pre).length) capV] 111 (0, 0)), (b3, .cells #[.map (some b1)] 141 (0, 0)), (b1, .map es ck)] (⟨.slice adV ((nms9 pre).length) capV, 115, 1, (nms9 pre).length, (GR.map (·.v))⟩ :: GR)) [(bx, .cells #[.string e.name, .int .i64 e.mod, .bool e.fn, .int .i64 e.params, .bool e.here, .bool e.strong] 110 (0, 0)), (b6, .cells #[.slice adV ((nms9 pre).length) capV] 111 (0, 0)), (b3, .cells #[.map (some b1)] 141 (0, 0)), (b1, .map es ck)] (⟨.slice adV ((nms9 pre).length) capV, 115, 1, (nms9 pre).length, (GR.map (·.v))⟩ :: GR)) rfl ?_ ?_
    ·
     refine WL.load1 (v := .slice adV ((nms9 pre).length) capV) one_111 rfl rfl rfl (hS.cell 1 rfl rfl) (WL.lenSlice Tryd.underlying111 rfl rfl rfl (WL.assign rfl rfl rfl (WL.nil ?_)))
     exact N.cut () ⟨rfl, rfl, rfl, rfl, rfl, rfl, rfl, rfl, rfl, rfl, rfl, rfl, rfl, rfl, rfl, rfl, trivial⟩ hS
    clear hS
    rintro ⟨⟩ w15 hS
    refine NX.seq (WX.seq ?_)
    refine WX.region (α := Array MapEntry × Nat) (fun ⟨es3, ck3⟩ => [(3, .pointer (some ⟨b3, 0, none⟩)), (4, .pointer (some ⟨b6, 0, none⟩)), (5, .pointer (some ⟨bx, 0, none⟩)), (6, .int .i64 ((nms9 pre).length : Int)), (7, .bool (((at9 pre) e.name).isSome)), (12, .tuple #[.int .i64 (((at9 pre) e.name).getD 0), .bool (((at9 pre) e.name).isSome)]), (13, .map (some b1)), (14, .pointer (some ⟨bx, 0, none⟩)), (15, .string e.name), (16, .tuple #[.int .i64 (((at9 pre) e.name).getD 0), .bool (((at9 pre) e.name).isSome)]), (17, .int .i64 (((at9 pre) e.name).getD 0)), (18, .bool (((at9 pre) e.name).isSome)), (19, .bool (((at9 pre) e.name).isSome)), (20, .bool (!(((at9 pre) e.name).isSome))), (21, .slice adV ((nms9 pre).length) capV), (22, .int .i64 ((nms9 pre).length : Int))]) (fun ⟨es3, ck3⟩ u => St w A u (othK A [(bx, .cells #[.string e.name, .int .i64 e.mod, .bool e.fn, .int .i64 e.params, .bool e.here, .bool e.strong] 110 (0, 0)), (b6, .cells #[.slice adV ((nms9 pre).length) capV] 111 (0, 0)), (b3, .cells #[.map (some b1)] 141 (0, 0)), (b1, .map es ck)] (⟨.slice adV ((nms9 pre).length) capV, 115, 1, (nms9 pre).length, (GR.map (·.v))⟩ :: GR)) [(bx, .cells #[.string e.name, .int .i64 e.mod, .bool e.fn, .int .i64 e.params, .bool e.here, .bool e.strong] 110 (0, 0)), (b6, .cells #[.slice adV ((nms9 pre).length) capV] 111 (0, 0)), (b3, .cells #[.map (some b1)] 141 (0, 0)), (b1, .map es3 ck3)] (⟨.slice adV ((nms9 pre).length) capV, 115, 1, (nms9 pre).length, (GR.map (·.v))⟩ :: GR) ∧ MapG kS kI es3 ck3 (pre.length + 1) (updG (at9 pre) e.name ((nms9 pre).length : Int))) rfl ?_ ?_
    ·
     refine WL.load1 (v := .map (some b1)) one_141 rfl rfl rfl (hS.cell 2 rfl rfl) (WL.fieldAddr fo_110_0 rfl rfl rfl (WL.load1 (v := .string e.name) one_9 rfl rfl rfl (hS.cell 0 rfl rfl) (WL.move rfl rfl rfl ?_)))
     refine WL.mapPut 3 e.name ((nms9 pre).length : Int) keyE_str Tryd.underlying141 Tryd.underlying9 hM rfl rfl rfl rfl rfl hS ?_
     clear hS; intro w17 es16 ck16 hM16 hS
     refine WL.nil ?_
     exact N.cut (es16, ck16) ⟨rfl, rfl, rfl, rfl, rfl, rfl, rfl, rfl, rfl, rfl, rfl, rfl, rfl, rfl, rfl, rfl, trivial⟩ ⟨hS, hM16⟩
    clear hS
    rintro ⟨es3, ck3⟩ w18 ⟨hS, hM3⟩
    refine NX.seq ?_
    refine WX.region (α := Value) (fun (V3 : Value) => [(3, .pointer (some ⟨b3, 0, none⟩)), (4, .pointer (some ⟨b6, 0, none⟩)), (5, .pointer (some ⟨bx, 0, none⟩)), (6, .int .i64 ((nms9 pre).length : Int)), (7, .bool (((at9 pre) e.name).isSome)), (12, .tuple #[.int .i64 (((at9 pre) e.name).getD 0), .bool (((at9 pre) e.name).isSome)]), (13, .map (some b1)), (14, .pointer (some ⟨bx, 0, none⟩)), (15, .string e.name), (16, .tuple #[.int .i64 (((at9 pre) e.name).getD 0), .bool (((at9 pre) e.name).isSome)]), (17, .int .i64 (((at9 pre) e.name).getD 0)), (18, .bool (((at9 pre) e.name).isSome)), (19, .bool (((at9 pre) e.name).isSome)), (20, .bool (!(((at9 pre) e.name).isSome))), (21, .slice adV ((nms9 pre).length) capV), (22, .int .i64 ((nms9 pre).length : Int))]) (fun (V3 : Value) u => St w A u (othK A [(bx, .cells #[.string e.name, .int .i64 e.mod, .bool e.fn, .int .i64 e.params, .bool e.here, .bool e.strong] 110 (0, 0)), (b6, .cells #[.slice adV ((nms9 pre).length) capV] 111 (0, 0)), (b3, .cells #[.map (some b1)] 141 (0, 0)), (b1, .map es ck)] (⟨.slice adV ((nms9 pre).length) capV, 115, 1, (nms9 pre).length, (GR.map (·.v))⟩ :: GR)) [(bx, .cells #[.string e.name, .int .i64 e.mod, .bool e.fn, .int .i64 e.params, .bool e.here, .bool e.strong] 110 (0, 0)), (b6, .cells #[V3] 111 (0, 0)), (b3, .cells #[.map (some b1)] 141 (0, 0)), (b1, .map es3 ck3)] (⟨V3, 115, 1, ((nms9 pre).length + 1), (GR.map (·.v) ++ [.slice none 0 0])⟩ :: GR)) rfl ?_ ?_
    ·
     refine WL.load1 (v := .slice adV ((nms9 pre).length) capV) one_111 rfl rfl rfl (hS.cell 1 rfl rfl) ?_
     refine WL.buildSlice (ps := [(0, .slice none 0 0)]) (cs := [.slice none 0 0]) Tryd.underlying111 (tyZero_spec zer_115) rfl rfl rfl rfl (by kernel_rfl) hS ?_
     clear hS; intro w20 b19 hb_b19 hS
     refine WL.append (r := ⟨.slice adV ((nms9 pre).length) capV, 115, 1, (nms9 pre).length, (GR.map (·.v))⟩) (cs := [.slice none 0 0]) 24 Tryd.underlying111 (tyZero_spec zer_115) byt_115 rfl rfl rfl rfl rfl rfl rfl rfl rfl hS (by have h := nms9_length pre; simp only; unfold maxLen; omega) (by have h := nms9_length pre; simp only; omega) ?_
     clear hS; intro w21 v22 hn_v22 hS
     have hrow : w21.ownsRow w.heap.size 115 1 v22 ((nms9 pre).length + 1) _ := hS.rows _ List.mem_cons_self
     obtain ⟨av22, cv22, rfl, hc1_v22, hc2_v22, hc3_v22⟩ := row_shape hrow
     clear hrow
     refine WL.store (L' := [(bx, .cells #[.string e.name, .int .i64 e.mod, .bool e.fn, .int .i64 e.params, .bool e.here, .bool e.strong] 110 (0, 0)), (b6, .cells #[.slice av22 ((nms9 pre).length + 1) cv22] 111 (0, 0)), (b3, .cells #[.map (some b1)] 141 (0, 0)), (b1, .map es3 ck3)]) 1 rfl rfl rfl rfl siz_111 rfl rfl rfl rfl rfl hS ?_
     clear hS; intro w23 hS
     refine WL.nil ?_
     exact N.cut (.slice av22 ((nms9 pre).length + 1) cv22) ⟨rfl, rfl, rfl, rfl, rfl, rfl, rfl, rfl, rfl, rfl, rfl, rfl, rfl, rfl, rfl, rfl, trivial⟩ hS
    clear hS
    rintro V3 w24 hS
    have hin : ¬ e.name ∈ nms9 pre := by simpa [at9_isSome] using hc14
    obtain ⟨ha, hg2, hn2, hat⟩ := grp9_new hin
    replace hS := hS.row0 110 6
    replace hS := hS.permR ((List.Perm.swap _ _ GR).trans ((List.perm_append_singleton _ GR).symm.cons _))
    have hln : (grp9 pre ++ [[]]).length = (nms9 pre).length + 1 := by simp [grp9_length]
    exact NX.cut (es3, ck3, V3, (GR ++ [⟨.slice none 0 0, 110, 6, 0, []⟩]), (nms9 pre).length, (grp9 pre ++ [[]]), []) ⟨rfl, rfl, rfl, rfl, rfl, rfl, rfl, rfl, rfl, rfl, rfl, rfl, trivial⟩ ⟨(by rw [hln, List.map_append]; exact hS), (by rw [← hat]; exact hM3), hRG.snoc, (by rw [← grp9_length, List.getElem?_append_right (Nat.le_refl _), Nat.sub_self]; rfl), hg2, (Nat.zero_le _)⟩
   refine WX.skip ?_
   have hin : e.name ∈ nms9 pre := by simpa [at9_isSome] using hc14
   obtain ⟨i, gi, ha, hi, hg, hg2, hn2, hat⟩ := grp9_old hin
   have hgl : gi.length ≤ pre.length := grp9_le hg
   exact NX.cut (es, ck, .slice adV ((nms9 pre).length) capV, GR, i, (grp9 pre), gi) ⟨rfl, rfl, rfl, by rw [ha]; rfl, rfl, rfl, rfl, rfl, rfl, rfl, rfl, rfl, trivial⟩ ⟨(by rw [grp9_length]; exact hS), (by rw [hat]; exact hM.mono (by omega)), hRG, hg, hg2, hgl⟩
  clear hS
  rintro ⟨es2, ck2, V2, GR2, i, gs1, gi⟩ w25 ⟨hS, hM2, hRG2, hgi, hgs, hgl⟩
  have hrow : w25.ownsRow w.heap.size 115 1 V2 gs1.length _ := hS.rows _ List.mem_cons_self
  have hilt : i < gs1.length := (List.getElem?_eq_some_iff.1 hgi).1
  obtain ⟨adV2, capV2, hV2e, hW1, hW2, hW3⟩ := row_shape hrow
  subst hV2e
  have hes := hit0 e (hpre.subset (by simp))
  obtain ⟨gO, rfl⟩ := row_some hrow (by omega)
  clear hrow
  obtain ⟨ri, hri⟩ : ∃ r, GR2[i]? = some r := ⟨_, List.getElem?_eq_getElem (by rw [hRG2.1]; exact hilt)⟩
  have hil2 : i < GR2.length := (List.getElem?_eq_some_iff.1 hri).1
  obtain ⟨hre, hrs, hrn, hrch⟩ := hRG2.2 i ri gi hri hgi
  refine WX.drawA (α := List Row) (fun u => u.cell? ⟨b6, 0, none⟩ = some (.slice (some ⟨gO, 0, none⟩) gs1.length capV2) ∧ CellsAt u bx 0 [.string e.name, .int .i64 e.mod, .bool e.fn, .int .i64 e.params, .bool e.here, .bool e.strong]) (fun GR3 => [(3, .pointer (some ⟨b3, 0, none⟩)), (4, .pointer (some ⟨b6, 0, none⟩)), (5, .pointer (some ⟨bx, 0, none⟩)), (6, .int .i64 (i : Int))]) (fun GR3 u => St w A u (othK A [(bx, .cells #[.string e.name, .int .i64 e.mod, .bool e.fn, .int .i64 e.params, .bool e.here, .bool e.strong] 110 (0, 0)), (b6, .cells #[.slice adV ((nms9 pre).length) capV] 111 (0, 0)), (b3, .cells #[.map (some b1)] 141 (0, 0)), (b1, .map es ck)] (⟨.slice adV ((nms9 pre).length) capV, 115, 1, (nms9 pre).length, (GR.map (·.v))⟩ :: GR)) [(bx, .cells #[.string e.name, .int .i64 e.mod, .bool e.fn, .int .i64 e.params, .bool e.here, .bool e.strong] 110 (0, 0)), (b6, .cells #[.slice (some ⟨gO, 0, none⟩) gs1.length capV2] 111 (0, 0)), (b3, .cells #[.map (some b1)] 141 (0, 0)), (b1, .map es2 ck2)] (⟨.slice (some ⟨gO, 0, none⟩) gs1.length capV2, 115, 1, gs1.length, (GR3.map (·.v))⟩ :: GR3) ∧ RG 110 GR3 (gs1.set i (gi ++ [e]))) (by kernel_rfl) rfl (fun wd hbd => ?_) ?_
  ·
   replace hS := hS.grow hbd
   clear hbd
   have hSd : (fun u => u.cell? ⟨b6, 0, none⟩ = some (.slice (some ⟨gO, 0, none⟩) gs1.length capV2) ∧ CellsAt u bx 0 [.string e.name, .int .i64 e.mod, .bool e.fn, .int .i64 e.params, .bool e.here, .bool e.strong]) wd := ⟨hS.cell 1 rfl rfl, hS.cells 0 (m := 6) rfl rfl⟩
   refine WA.take 0 (v := .slice (some ⟨gO, 0, none⟩) gs1.length capV2) rfl rfl (by kernel_rfl) (by kernel_rfl) (by kernel_rfl) (fun _ _ _ h => h) rfl (exec_load1 one_111 rfl (fun _ h => h.1)) hSd ?_
   refine WA.take 1 (v := .int .i64 (i : Int)) rfl rfl (by kernel_rfl) (by kernel_rfl) (by kernel_rfl) (fun _ _ _ h => h) rfl (exec_move rfl) hSd ?_
   refine WA.take 2 (v := .slice (some ⟨gO, 0, none⟩) gs1.length capV2) rfl rfl (by kernel_rfl) (by kernel_rfl) (by kernel_rfl) (fun _ _ _ h => h) rfl (exec_load1 one_111 rfl (fun _ h => h.1)) hSd ?_
   refine WA.take 3 (v := .int .i64 (i : Int)) rfl rfl (by kernel_rfl) (by kernel_rfl) (by kernel_rfl) (fun _ _ _ h => h) rfl (exec_move rfl) hSd ?_
   refine WA.take 4 (v := .pointer (some ⟨gO, 0 + i * 1, none⟩)) rfl rfl (by kernel_rfl) (by kernel_rfl) (by kernel_rfl) (fun _ _ _ h => h) rfl (exec_indexAddr Tryd.underlying111 isz_115 rfl rfl hilt) hSd ?_
   refine WA.take 6 (v := .agg #[.string e.name, .int .i64 e.mod, .bool e.fn, .int .i64 e.params, .bool e.here, .bool e.strong]) rfl rfl (by kernel_rfl) (by kernel_rfl) (by kernel_rfl) (fun _ _ _ h => h) rfl (exec_loadN agg_110 rfl rfl (fun _ h => h.2)) hSd ?_
   refine WA.two 5 7 (fun _ : Unit => [(3, .pointer (some ⟨b3, 0, none⟩)), (4, .pointer (some ⟨b6, 0, none⟩)), (5, .pointer (some ⟨bx, 0, none⟩)), (6, .int .i64 (i : Int)), (30, .slice (some ⟨gO, 0, none⟩) gs1.length capV2), (31, .int .i64 (i : Int)), (34, .pointer (some ⟨gO, 0 + i * 1, none⟩)), (35, ri.v), (36, .agg #[.string e.name, .int .i64 e.mod, .bool e.fn, .int .i64 e.params, .bool e.here, .bool e.strong])]) (fun _ u => St w A u (othK A [(bx, .cells #[.string e.name, .int .i64 e.mod, .bool e.fn, .int .i64 e.params, .bool e.here, .bool e.strong] 110 (0, 0)), (b6, .cells #[.slice adV ((nms9 pre).length) capV] 111 (0, 0)), (b3, .cells #[.map (some b1)] 141 (0, 0)), (b1, .map es ck)] (⟨.slice adV ((nms9 pre).length) capV, 115, 1, (nms9 pre).length, (GR.map (·.v))⟩ :: GR)) [(bx, .cells #[.string e.name, .int .i64 e.mod, .bool e.fn, .int .i64 e.params, .bool e.here, .bool e.strong] 110 (0, 0)), (b6, .cells #[.slice (some ⟨gO, 0, none⟩) gs1.length capV2] 111 (0, 0)), (b3, .cells #[.map (some b1)] 141 (0, 0)), (b1, .map es2 ck2)] (⟨.slice (some ⟨gO, 0, none⟩) gs1.length capV2, 115, 1, gs1.length, (GR2.map (·.v))⟩ :: GR2)) (fun bk : Nat => [(3, .pointer (some ⟨b3, 0, none⟩)), (4, .pointer (some ⟨b6, 0, none⟩)), (5, .pointer (some ⟨bx, 0, none⟩)), (6, .int .i64 (i : Int)), (30, .slice (some ⟨gO, 0, none⟩) gs1.length capV2), (31, .int .i64 (i : Int)), (34, .pointer (some ⟨gO, 0 + i * 1, none⟩)), (36, .agg #[.string e.name, .int .i64 e.mod, .bool e.fn, .int .i64 e.params, .bool e.here, .bool e.strong]), (37, .slice (some ⟨bk, 0, none⟩) 1 1)]) (fun bk u => St w A u (othK A [(bx, .cells #[.string e.name, .int .i64 e.mod, .bool e.fn, .int .i64 e.params, .bool e.here, .bool e.strong] 110 (0, 0)), (b6, .cells #[.slice adV ((nms9 pre).length) capV] 111 (0, 0)), (b3, .cells #[.map (some b1)] 141 (0, 0)), (b1, .map es ck)] (⟨.slice adV ((nms9 pre).length) capV, 115, 1, (nms9 pre).length, (GR.map (·.v))⟩ :: GR)) [(bk, .cells #[.string e.name, .int .i64 e.mod, .bool e.fn, .int .i64 e.params, .bool e.here, .bool e.strong] 110 (0, 0)), (bx, .cells #[.string e.name, .int .i64 e.mod, .bool e.fn, .int .i64 e.params, .bool e.here, .bool e.strong] 110 (0, 0)), (b6, .cells #[.slice (some ⟨gO, 0, none⟩) gs1.length capV2] 111 (0, 0)), (b3, .cells #[.map (some b1)] 141 (0, 0)), (b1, .map es2 ck2)] (⟨.slice (some ⟨gO, 0, none⟩) gs1.length capV2, 115, 1, gs1.length, (GR2.map (·.v))⟩ :: GR2)) (by kernel_rfl) rfl rfl ?_ ?_ ?_ ?_
   ·
    refine WL.load1 (v := ri.v) one_115 rfl rfl rfl (row_cell (hS.rows _ List.mem_cons_self) (by rw [List.getElem?_map, hri]; rfl)) ?_
    exact WL.nil (N.cut () ⟨rfl, rfl, rfl, rfl, rfl, rfl, rfl, rfl, rfl, trivial⟩ hS)
   ·
    rintro ⟨⟩ w5 hS
    refine ⟨⟨hS.cell 1 rfl rfl, hS.cells 0 (m := 6) rfl rfl⟩, ?_⟩
    refine WA.one 7 (fun bk : Nat => [(3, .pointer (some ⟨b3, 0, none⟩)), (4, .pointer (some ⟨b6, 0, none⟩)), (5, .pointer (some ⟨bx, 0, none⟩)), (6, .int .i64 (i : Int)), (30, .slice (some ⟨gO, 0, none⟩) gs1.length capV2), (31, .int .i64 (i : Int)), (34, .pointer (some ⟨gO, 0 + i * 1, none⟩)), (35, ri.v), (36, .agg #[.string e.name, .int .i64 e.mod, .bool e.fn, .int .i64 e.params, .bool e.here, .bool e.strong]), (37, .slice (some ⟨bk, 0, none⟩) 1 1)]) (fun bk u => St w A u (othK A [(bx, .cells #[.string e.name, .int .i64 e.mod, .bool e.fn, .int .i64 e.params, .bool e.here, .bool e.strong] 110 (0, 0)), (b6, .cells #[.slice adV ((nms9 pre).length) capV] 111 (0, 0)), (b3, .cells #[.map (some b1)] 141 (0, 0)), (b1, .map es ck)] (⟨.slice adV ((nms9 pre).length) capV, 115, 1, (nms9 pre).length, (GR.map (·.v))⟩ :: GR)) [(bk, .cells #[.string e.name, .int .i64 e.mod, .bool e.fn, .int .i64 e.params, .bool e.here, .bool e.strong] 110 (0, 0)), (bx, .cells #[.string e.name, .int .i64 e.mod, .bool e.fn, .int .i64 e.params, .bool e.here, .bool e.strong] 110 (0, 0)), (b6, .cells #[.slice (some ⟨gO, 0, none⟩) gs1.length capV2] 111 (0, 0)), (b3, .cells #[.map (some b1)] 141 (0, 0)), (b1, .map es2 ck2)] (⟨.slice (some ⟨gO, 0, none⟩) gs1.length capV2, 115, 1, gs1.length, (GR2.map (·.v))⟩ :: GR2)) (by kernel_rfl) rfl ?_ ?_
    ·
     refine WL.buildSlice (ps := [(0, .agg #[.string e.name, .int .i64 e.mod, .bool e.fn, .int .i64 e.params, .bool e.here, .bool e.strong])]) (cs := [.string e.name, .int .i64 e.mod, .bool e.fn, .int .i64 e.params, .bool e.here, .bool e.strong]) Tryd.underlying115 (tyZero_spec zer_110) rfl rfl rfl rfl (by kernel_rfl) hS ?_
     clear hS; intro wz bk hbk hS
     exact WL.nil (N.cut bk ⟨rfl, rfl, rfl, rfl, rfl, rfl, rfl, rfl, rfl, rfl, trivial⟩ hS)
    rintro bk w7 hS
    refine ⟨⟨hS.cell 2 rfl rfl, hS.cells 1 (m := 6) rfl rfl⟩, ?_⟩
    refine WA.one 8 (fun v' : Value => [(3, .pointer (some ⟨b3, 0, none⟩)), (4, .pointer (some ⟨b6, 0, none⟩)), (5, .pointer (some ⟨bx, 0, none⟩)), (6, .int .i64 (i : Int)), (30, .slice (some ⟨gO, 0, none⟩) gs1.length capV2), (31, .int .i64 (i : Int)), (34, .pointer (some ⟨gO, 0 + i * 1, none⟩)), (35, ri.v), (36, .agg #[.string e.name, .int .i64 e.mod, .bool e.fn, .int .i64 e.params, .bool e.here, .bool e.strong]), (37, .slice (some ⟨bk, 0, none⟩) 1 1), (38, v')]) (fun v' u => St w A u (othK A [(bx, .cells #[.string e.name, .int .i64 e.mod, .bool e.fn, .int .i64 e.params, .bool e.here, .bool e.strong] 110 (0, 0)), (b6, .cells #[.slice adV ((nms9 pre).length) capV] 111 (0, 0)), (b3, .cells #[.map (some b1)] 141 (0, 0)), (b1, .map es ck)] (⟨.slice adV ((nms9 pre).length) capV, 115, 1, (nms9 pre).length, (GR.map (·.v))⟩ :: GR)) [(bx, .cells #[.string e.name, .int .i64 e.mod, .bool e.fn, .int .i64 e.params, .bool e.here, .bool e.strong] 110 (0, 0)), (b6, .cells #[.slice (some ⟨gO, 0, none⟩) gs1.length capV2] 111 (0, 0)), (b3, .cells #[.map (some b1)] 141 (0, 0)), (b1, .map es2 ck2)] (⟨v', 110, 6, ri.n + 1, ri.xs ++ [.string e.name, .int .i64 e.mod, .bool e.fn, .int .i64 e.params, .bool e.here, .bool e.strong]⟩ :: ⟨.slice (some ⟨gO, 0, none⟩) gs1.length capV2, 115, 1, gs1.length, (GR2.map (·.v))⟩ :: (GR2.take i ++ GR2.drop (i + 1)))) (by kernel_rfl) rfl ?_ ?_
    ·
     replace hS := hS.permR (perm_at _ hri)
     refine WL.append (r := ri) (cs := [.string e.name, .int .i64 e.mod, .bool e.fn, .int .i64 e.params, .bool e.here, .bool e.strong]) 48 Tryd.underlying115 (tyZero_spec zer_110) byt_110 rfl rfl rfl rfl rfl rfl rfl hre hrs hS (by rw [hrn]; unfold maxLen; omega) (by rw [hrn]; omega) ?_
     clear hS; intro wz v' _ hS
     exact WL.nil (N.cut v' ⟨rfl, rfl, rfl, rfl, rfl, rfl, rfl, rfl, rfl, rfl, rfl, trivial⟩ hS)
    rintro v' w8 hS
    refine ⟨⟨hS.cell 1 rfl rfl, hS.cells 0 (m := 6) rfl rfl⟩, ?_⟩
    have hrow : w8.ownsRow w.heap.size 110 6 v' (ri.n + 1) _ := hS.rows _ List.mem_cons_self
    obtain ⟨ad8, cap8, rfl, _, _, _⟩ := row_shape hrow
    clear hrow
    refine WA.one 9 (fun _ : Unit => [(3, .pointer (some ⟨b3, 0, none⟩)), (4, .pointer (some ⟨b6, 0, none⟩)), (5, .pointer (some ⟨bx, 0, none⟩)), (6, .int .i64 (i : Int)), (30, .slice (some ⟨gO, 0, none⟩) gs1.length capV2), (31, .int .i64 (i : Int)), (34, .pointer (some ⟨gO, 0 + i * 1, none⟩)), (35, ri.v), (36, .agg #[.string e.name, .int .i64 e.mod, .bool e.fn, .int .i64 e.params, .bool e.here, .bool e.strong]), (37, .slice (some ⟨bk, 0, none⟩) 1 1), (38, .slice ad8 (ri.n + 1) cap8), (39, .pointer (some ⟨gO, 0 + i * 1, none⟩))]) (fun _ u => St w A u (othK A [(bx, .cells #[.string e.name, .int .i64 e.mod, .bool e.fn, .int .i64 e.params, .bool e.here, .bool e.strong] 110 (0, 0)), (b6, .cells #[.slice adV ((nms9 pre).length) capV] 111 (0, 0)), (b3, .cells #[.map (some b1)] 141 (0, 0)), (b1, .map es ck)] (⟨.slice adV ((nms9 pre).length) capV, 115, 1, (nms9 pre).length, (GR.map (·.v))⟩ :: GR)) [(bx, .cells #[.string e.name, .int .i64 e.mod, .bool e.fn, .int .i64 e.params, .bool e.here, .bool e.strong] 110 (0, 0)), (b6, .cells #[.slice (some ⟨gO, 0, none⟩) gs1.length capV2] 111 (0, 0)), (b3, .cells #[.map (some b1)] 141 (0, 0)), (b1, .map es2 ck2)] (⟨.slice ad8 (ri.n + 1) cap8, 110, 6, ri.n + 1, ri.xs ++ [.string e.name, .int .i64 e.mod, .bool e.fn, .int .i64 e.params, .bool e.here, .bool e.strong]⟩ :: ⟨.slice (some ⟨gO, 0, none⟩) gs1.length capV2, 115, 1, gs1.length, (GR2.map (·.v))⟩ :: (GR2.take i ++ GR2.drop (i + 1)))) (by kernel_rfl) rfl ?_ ?_
    ·
     refine WL.indexAddr Tryd.underlying111 isz_115 rfl rfl rfl rfl hilt ?_
     exact WL.nil (N.cut () ⟨rfl, rfl, rfl, rfl, rfl, rfl, rfl, rfl, rfl, rfl, rfl, rfl, trivial⟩ hS)
    rintro ⟨⟩ w9 hS
    refine ⟨⟨hS.cell 1 rfl rfl, hS.cells 0 (m := 6) rfl rfl⟩, ?_⟩
    refine WA.one 10 (fun _ : Unit => [(3, .pointer (some ⟨b3, 0, none⟩)), (4, .pointer (some ⟨b6, 0, none⟩)), (5, .pointer (some ⟨bx, 0, none⟩)), (6, .int .i64 (i : Int))]) (fun _ u => St w A u (othK A [(bx, .cells #[.string e.name, .int .i64 e.mod, .bool e.fn, .int .i64 e.params, .bool e.here, .bool e.strong] 110 (0, 0)), (b6, .cells #[.slice adV ((nms9 pre).length) capV] 111 (0, 0)), (b3, .cells #[.map (some b1)] 141 (0, 0)), (b1, .map es ck)] (⟨.slice adV ((nms9 pre).length) capV, 115, 1, (nms9 pre).length, (GR.map (·.v))⟩ :: GR)) [(bx, .cells #[.string e.name, .int .i64 e.mod, .bool e.fn, .int .i64 e.params, .bool e.here, .bool e.strong] 110 (0, 0)), (b6, .cells #[.slice (some ⟨gO, 0, none⟩) gs1.length capV2] 111 (0, 0)), (b3, .cells #[.map (some b1)] 141 (0, 0)), (b1, .map es2 ck2)] (⟨.slice (some ⟨gO, 0, none⟩) gs1.length capV2, 115, 1, gs1.length, ((GR2.set i ⟨.slice ad8 (ri.n + 1) cap8, 110, 6, ri.n + 1, ri.xs ++ [.string e.name, .int .i64 e.mod, .bool e.fn, .int .i64 e.params, .bool e.here, .bool e.strong]⟩).map (·.v))⟩ :: (GR2.set i ⟨.slice ad8 (ri.n + 1) cap8, 110, 6, ri.n + 1, ri.xs ++ [.string e.name, .int .i64 e.mod, .bool e.fn, .int .i64 e.params, .bool e.here, .bool e.strong]⟩))) (by kernel_rfl) rfl ?_ ?_
    ·
     replace hS := hS.permR (List.Perm.swap _ _ _)
     refine WL.storeRow (v := .slice ad8 (ri.n + 1) cap8) (cs := [.slice ad8 (ri.n + 1) cap8]) rfl rfl rfl rfl siz_115 rfl hS (by simp; omega) ?_
     clear hS; intro wz hS
     replace hS := hS.permR (perm_back _ _ hil2)
     have hmv := map_set_v (r' := ⟨.slice ad8 (ri.n + 1) cap8, 110, 6, ri.n + 1, ri.xs ++ [.string e.name, .int .i64 e.mod, .bool e.fn, .int .i64 e.params, .bool e.here, .bool e.strong]⟩) hil2
     refine WL.nil (N.cut () ⟨rfl, rfl, rfl, rfl, trivial⟩ ?_)
     rw [← hmv]; simpa using hS
    rintro ⟨⟩ wf hS
    refine ⟨⟨hS.cell 1 rfl rfl, hS.cells 0 (m := 6) rfl rfl⟩, ?_⟩
    refine WA.done (by kernel_rfl) (fun a ha => ⟨(GR2.set i ⟨.slice ad8 (ri.n + 1) cap8, 110, 6, ri.n + 1, ri.xs ++ [.string e.name, .int .i64 e.mod, .bool e.fn, .int .i64 e.params, .bool e.here, .bool e.strong]⟩), ha, hS, ?_⟩)
    exact hRG2.set rfl rfl (by simp [hrn]) (hrch.snoc rfl ⟨rfl, hes.1, hes.2.1, hes.2.2⟩)
   ·
    refine WL.buildSlice (ps := [(0, .agg #[.string e.name, .int .i64 e.mod, .bool e.fn, .int .i64 e.params, .bool e.here, .bool e.strong])]) (cs := [.string e.name, .int .i64 e.mod, .bool e.fn, .int .i64 e.params, .bool e.here, .bool e.strong]) Tryd.underlying115 (tyZero_spec zer_110) rfl rfl rfl rfl (by kernel_rfl) hS ?_
    clear hS; intro wz bk hbk hS
    exact WL.nil (N.cut bk ⟨rfl, rfl, rfl, rfl, rfl, rfl, rfl, rfl, rfl, trivial⟩ hS)
   rintro bk w7 hS
   refine ⟨⟨hS.cell 2 rfl rfl, hS.cells 1 (m := 6) rfl rfl⟩, ?_⟩
   refine WA.one 5 (fun _ : Unit => [(3, .pointer (some ⟨b3, 0, none⟩)), (4, .pointer (some ⟨b6, 0, none⟩)), (5, .pointer (some ⟨bx, 0, none⟩)), (6, .int .i64 (i : Int)), (30, .slice (some ⟨gO, 0, none⟩) gs1.length capV2), (31, .int .i64 (i : Int)), (34, .pointer (some ⟨gO, 0 + i * 1, none⟩)), (35, ri.v), (36, .agg #[.string e.name, .int .i64 e.mod, .bool e.fn, .int .i64 e.params, .bool e.here, .bool e.strong]), (37, .slice (some ⟨bk, 0, none⟩) 1 1)]) (fun _ u => St w A u (othK A [(bx, .cells #[.string e.name, .int .i64 e.mod, .bool e.fn, .int .i64 e.params, .bool e.here, .bool e.strong] 110 (0, 0)), (b6, .cells #[.slice adV ((nms9 pre).length) capV] 111 (0, 0)), (b3, .cells #[.map (some b1)] 141 (0, 0)), (b1, .map es ck)] (⟨.slice adV ((nms9 pre).length) capV, 115, 1, (nms9 pre).length, (GR.map (·.v))⟩ :: GR)) [(bk, .cells #[.string e.name, .int .i64 e.mod, .bool e.fn, .int .i64 e.params, .bool e.here, .bool e.strong] 110 (0, 0)), (bx, .cells #[.string e.name, .int .i64 e.mod, .bool e.fn, .int .i64 e.params, .bool e.here, .bool e.strong] 110 (0, 0)), (b6, .cells #[.slice (some ⟨gO, 0, none⟩) gs1.length capV2] 111 (0, 0)), (b3, .cells #[.map (some b1)] 141 (0, 0)), (b1, .map es2 ck2)] (⟨.slice (some ⟨gO, 0, none⟩) gs1.length capV2, 115, 1, gs1.length, (GR2.map (·.v))⟩ :: GR2)) (by kernel_rfl) rfl ?_ ?_
   ·
    refine WL.load1 (v := ri.v) one_115 rfl rfl rfl (row_cell (hS.rows _ List.mem_cons_self) (by rw [List.getElem?_map, hri]; rfl)) ?_
    exact WL.nil (N.cut () ⟨rfl, rfl, rfl, rfl, rfl, rfl, rfl, rfl, rfl, rfl, trivial⟩ hS)
   rintro ⟨⟩ w5 hS
   refine ⟨⟨hS.cell 2 rfl rfl, hS.cells 1 (m := 6) rfl rfl⟩, ?_⟩
   refine WA.one 8 (fun v' : Value => [(3, .pointer (some ⟨b3, 0, none⟩)), (4, .pointer (some ⟨b6, 0, none⟩)), (5, .pointer (some ⟨bx, 0, none⟩)), (6, .int .i64 (i : Int)), (30, .slice (some ⟨gO, 0, none⟩) gs1.length capV2), (31, .int .i64 (i : Int)), (34, .pointer (some ⟨gO, 0 + i * 1, none⟩)), (35, ri.v), (36, .agg #[.string e.name, .int .i64 e.mod, .bool e.fn, .int .i64 e.params, .bool e.here, .bool e.strong]), (37, .slice (some ⟨bk, 0, none⟩) 1 1), (38, v')]) (fun v' u => St w A u (othK A [(bx, .cells #[.string e.name, .int .i64 e.mod, .bool e.fn, .int .i64 e.params, .bool e.here, .bool e.strong] 110 (0, 0)), (b6, .cells #[.slice adV ((nms9 pre).length) capV] 111 (0, 0)), (b3, .cells #[.map (some b1)] 141 (0, 0)), (b1, .map es ck)] (⟨.slice adV ((nms9 pre).length) capV, 115, 1, (nms9 pre).length, (GR.map (·.v))⟩ :: GR)) [(bx, .cells #[.string e.name, .int .i64 e.mod, .bool e.fn, .int .i64 e.params, .bool e.here, .bool e.strong] 110 (0, 0)), (b6, .cells #[.slice (some ⟨gO, 0, none⟩) gs1.length capV2] 111 (0, 0)), (b3, .cells #[.map (some b1)] 141 (0, 0)), (b1, .map es2 ck2)] (⟨v', 110, 6, ri.n + 1, ri.xs ++ [.string e.name, .int .i64 e.mod, .bool e.fn, .int .i64 e.params, .bool e.here, .bool e.strong]⟩ :: ⟨.slice (some ⟨gO, 0, none⟩) gs1.length capV2, 115, 1, gs1.length, (GR2.map (·.v))⟩ :: (GR2.take i ++ GR2.drop (i + 1)))) (by kernel_rfl) rfl ?_ ?_
   ·
    replace hS := hS.permR (perm_at _ hri)
    refine WL.append (r := ri) (cs := [.string e.name, .int .i64 e.mod, .bool e.fn, .int .i64 e.params, .bool e.here, .bool e.strong]) 48 Tryd.underlying115 (tyZero_spec zer_110) byt_110 rfl rfl rfl rfl rfl rfl rfl hre hrs hS (by rw [hrn]; unfold maxLen; omega) (by rw [hrn]; omega) ?_
    clear hS; intro wz v' _ hS
    exact WL.nil (N.cut v' ⟨rfl, rfl, rfl, rfl, rfl, rfl, rfl, rfl, rfl, rfl, rfl, trivial⟩ hS)
   rintro v' w8 hS
   refine ⟨⟨hS.cell 1 rfl rfl, hS.cells 0 (m := 6) rfl rfl⟩, ?_⟩
   have hrow : w8.ownsRow w.heap.size 110 6 v' (ri.n + 1) _ := hS.rows _ List.mem_cons_self
   obtain ⟨ad8, cap8, rfl, _, _, _⟩ := row_shape hrow
   clear hrow
   refine WA.one 9 (fun _ : Unit => [(3, .pointer (some ⟨b3, 0, none⟩)), (4, .pointer (some ⟨b6, 0, none⟩)), (5, .pointer (some ⟨bx, 0, none⟩)), (6, .int .i64 (i : Int)), (30, .slice (some ⟨gO, 0, none⟩) gs1.length capV2), (31, .int .i64 (i : Int)), (34, .pointer (some ⟨gO, 0 + i * 1, none⟩)), (35, ri.v), (36, .agg #[.string e.name, .int .i64 e.mod, .bool e.fn, .int .i64 e.params, .bool e.here, .bool e.strong]), (37, .slice (some ⟨bk, 0, none⟩) 1 1), (38, .slice ad8 (ri.n + 1) cap8), (39, .pointer (some ⟨gO, 0 + i * 1, none⟩))]) (fun _ u => St w A u (othK A [(bx, .cells #[.string e.name, .int .i64 e.mod, .bool e.fn, .int .i64 e.params, .bool e.here, .bool e.strong] 110 (0, 0)), (b6, .cells #[.slice adV ((nms9 pre).length) capV] 111 (0, 0)), (b3, .cells #[.map (some b1)] 141 (0, 0)), (b1, .map es ck)] (⟨.slice adV ((nms9 pre).length) capV, 115, 1, (nms9 pre).length, (GR.map (·.v))⟩ :: GR)) [(bx, .cells #[.string e.name, .int .i64 e.mod, .bool e.fn, .int .i64 e.params, .bool e.here, .bool e.strong] 110 (0, 0)), (b6, .cells #[.slice (some ⟨gO, 0, none⟩) gs1.length capV2] 111 (0, 0)), (b3, .cells #[.map (some b1)] 141 (0, 0)), (b1, .map es2 ck2)] (⟨.slice ad8 (ri.n + 1) cap8, 110, 6, ri.n + 1, ri.xs ++ [.string e.name, .int .i64 e.mod, .bool e.fn, .int .i64 e.params, .bool e.here, .bool e.strong]⟩ :: ⟨.slice (some ⟨gO, 0, none⟩) gs1.length capV2, 115, 1, gs1.length, (GR2.map (·.v))⟩ :: (GR2.take i ++ GR2.drop (i + 1)))) (by kernel_rfl) rfl ?_ ?_
   ·
    refine WL.indexAddr Tryd.underlying111 isz_115 rfl rfl rfl rfl hilt ?_
    exact WL.nil (N.cut () ⟨rfl, rfl, rfl, rfl, rfl, rfl, rfl, rfl, rfl, rfl, rfl, rfl, trivial⟩ hS)
   rintro ⟨⟩ w9 hS
   refine ⟨⟨hS.cell 1 rfl rfl, hS.cells 0 (m := 6) rfl rfl⟩, ?_⟩
   refine WA.one 10 (fun _ : Unit => [(3, .pointer (some ⟨b3, 0, none⟩)), (4, .pointer (some ⟨b6, 0, none⟩)), (5, .pointer (some ⟨bx, 0, none⟩)), (6, .int .i64 (i : Int))]) (fun _ u => St w A u (othK A [(bx, .cells #[.string e.name, .int .i64 e.mod, .bool e.fn, .int .i64 e.params, .bool e.here, .bool e.strong] 110 (0, 0)), (b6, .cells #[.slice adV ((nms9 pre).length) capV] 111 (0, 0)), (b3, .cells #[.map (some b1)] 141 (0, 0)), (b1, .map es ck)] (⟨.slice adV ((nms9 pre).length) capV, 115, 1, (nms9 pre).length, (GR.map (·.v))⟩ :: GR)) [(bx, .cells #[.string e.name, .int .i64 e.mod, .bool e.fn, .int .i64 e.params, .bool e.here, .bool e.strong] 110 (0, 0)), (b6, .cells #[.slice (some ⟨gO, 0, none⟩) gs1.length capV2] 111 (0, 0)), (b3, .cells #[.map (some b1)] 141 (0, 0)), (b1, .map es2 ck2)] (⟨.slice (some ⟨gO, 0, none⟩) gs1.length capV2, 115, 1, gs1.length, ((GR2.set i ⟨.slice ad8 (ri.n + 1) cap8, 110, 6, ri.n + 1, ri.xs ++ [.string e.name, .int .i64 e.mod, .bool e.fn, .int .i64 e.params, .bool e.here, .bool e.strong]⟩).map (·.v))⟩ :: (GR2.set i ⟨.slice ad8 (ri.n + 1) cap8, 110, 6, ri.n + 1, ri.xs ++ [.string e.name, .int .i64 e.mod, .bool e.fn, .int .i64 e.params, .bool e.here, .bool e.strong]⟩))) (by kernel_rfl) rfl ?_ ?_
   ·
    replace hS := hS.permR (List.Perm.swap _ _ _)
    refine WL.storeRow (v := .slice ad8 (ri.n + 1) cap8) (cs := [.slice ad8 (ri.n + 1) cap8]) rfl rfl rfl rfl siz_115 rfl hS (by simp; omega) ?_
    clear hS; intro wz hS
    replace hS := hS.permR (perm_back _ _ hil2)
    have hmv := map_set_v (r' := ⟨.slice ad8 (ri.n + 1) cap8, 110, 6, ri.n + 1, ri.xs ++ [.string e.name, .int .i64 e.mod, .bool e.fn, .int .i64 e.params, .bool e.here, .bool e.strong]⟩) hil2
    refine WL.nil (N.cut () ⟨rfl, rfl, rfl, rfl, trivial⟩ ?_)
    rw [← hmv]; simpa using hS
   rintro ⟨⟩ wf hS
   refine ⟨⟨hS.cell 1 rfl rfl, hS.cells 0 (m := 6) rfl rfl⟩, ?_⟩
   refine WA.done (by kernel_rfl) (fun a ha => ⟨(GR2.set i ⟨.slice ad8 (ri.n + 1) cap8, 110, 6, ri.n + 1, ri.xs ++ [.string e.name, .int .i64 e.mod, .bool e.fn, .int .i64 e.params, .bool e.here, .bool e.strong]⟩), ha, hS, ?_⟩)
   exact hRG2.set rfl rfl (by simp [hrn]) (hrch.snoc rfl ⟨rfl, hes.1, hes.2.1, hes.2.2⟩)
  clear hS
  rintro GR3 wn ⟨hS, hRG3⟩
  rw [← hgs] at hRG3
  have hml : gs1.length = (nms9 (pre ++ [e])).length := by rw [← grp9_length, hgs, List.length_set]
  rw [hml] at hS
  refine NX.blk ?_
  replace hS := hS.dropN 1
  exact NX.cut (es2, ck2, .slice (some ⟨gO, 0, none⟩) (nms9 (pre ++ [e])).length capV2, GR3) trivial ⟨⟨by simpa using hM2, hRG3⟩, hS⟩
 rintro D W ⟨es, ck, V, GR⟩ ⟨hM, hRG⟩ hS hDw hD
 refine NX.blk (NX.seq (WX.seq ?_))
 refine WX.region (α := Unit) (fun _ => [(2, V), (3, .pointer (some ⟨b3, 0, none⟩)), (4, .pointer (some ⟨b6, 0, none⟩)), (40, V)]) (fun _ u => St w w u ro [(b6, .cells #[V] 111 (0, 0)), (b3, .cells #[.map (some b1)] 141 (0, 0)), (b1, .map es ck)] (⟨V, 115, 1, (nms9 (items9 ms)).length, (GR.map (·.v))⟩ :: GR) ∧ u.heap[D]? = some (.deferred (some []))) rfl ?_ ?_
 ·
  refine WL.load1 (v := V) one_111 rfl rfl rfl (hS.cell 0 rfl rfl) (WL.assign rfl rfl rfl (WL.nil ?_))
  exact N.cut () ⟨rfl, rfl, rfl, rfl, trivial⟩ ⟨hS, hD⟩
 clear hS
 rintro ⟨⟩ w26 ⟨hS, hD⟩
 refine NX.seq ?_
 refine FinM.ret1 rfl rfl hD ?_
 have hS2 := hS.record (grownBy_putObj' _ D (.deferred none)) (Bd := w8.heap.size) hlow0 (fun q e => by cases e; exact ⟨hDw, _, hD, rfl⟩) (fun b hb => Nat.lt_of_lt_of_le (hro b hb) hlow0) (hTy (items9 ms) (es, ck, V, GR) ⟨hM, hRG⟩).cells
 have hk : ∀ r ∈ (⟨V, 115, 1, (nms9 (items9 ms)).length, GR.map (·.v)⟩ : Row) :: GR, ∀ b, r.v.ownBlock = some b → w.heap.size ≤ b ∧ b < _ := fun r hr b hb => (hS2.keys b (by simp only [keysOf, List.mem_append, List.mem_filterMap]; exact .inr ⟨r, hr, hb⟩)).imp id (·.1)
 refine ⟨row_slv (hS2.rows _ List.mem_cons_self) (chunks_groups hRG (fun r hr => hS2.rows r (List.mem_cons_of_mem _ hr)) (fun r hr => hk r (List.mem_cons_of_mem _ hr))) (by rw [grp9_length]) (hk _ List.mem_cons_self), hS2.below⟩

end Go.Proofs.YtapjejjmhmdmdaaDoor
