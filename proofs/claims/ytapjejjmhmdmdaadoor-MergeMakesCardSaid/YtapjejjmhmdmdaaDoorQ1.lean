/-
  Contracts of layer 9 (resolve). No condition beyond those that each theorem states.
-/
import Derived.Test.YtapjejjmhmdmdaaDoorA19
namespace Go.Proofs.YtapjejjmhmdmdaaDoor
open Go.RowKit
theorem agg_32 : tyAgg Tryd.prog 32 2 = true := by kernel_rfl
theorem agg_35 : tyAgg Tryd.prog 35 4 = true := by kernel_rfl
theorem agg_38 : tyAgg Tryd.prog 38 4 = true := by kernel_rfl
theorem fo_32_0 : fOff Tryd.prog 32 0 0 = true := by kernel_rfl
theorem fo_32_1 : fOff Tryd.prog 32 1 1 = true := by kernel_rfl
theorem fo_35_0 : fOff Tryd.prog 35 0 0 = true := by kernel_rfl
theorem fo_35_1 : fOff Tryd.prog 35 1 1 = true := by kernel_rfl
theorem fo_35_2 : fOff Tryd.prog 35 2 2 = true := by kernel_rfl
theorem fo_35_3 : fOff Tryd.prog 35 3 3 = true := by kernel_rfl
theorem fo_38_0 : fOff Tryd.prog 38 0 0 = true := by kernel_rfl
theorem fo_38_1 : fOff Tryd.prog 38 1 1 = true := by kernel_rfl
theorem fo_38_2 : fOff Tryd.prog 38 2 2 = true := by kernel_rfl
theorem isz_32 : (Tryd.prog.info? 32).map (·.size) = some 2 := by kernel_rfl
theorem isz_35 : (Tryd.prog.info? 35).map (·.size) = some 4 := by kernel_rfl
theorem isz_38 : (Tryd.prog.info? 38).map (·.size) = some 4 := by kernel_rfl
theorem one_22 : tyOne Tryd.prog 22 = true := by kernel_rfl
theorem one_29 : tyOne Tryd.prog 29 = true := by kernel_rfl
theorem one_3 : tyOne Tryd.prog 3 = true := by kernel_rfl
theorem one_30 : tyOne Tryd.prog 30 = true := by kernel_rfl
theorem one_33 : tyOne Tryd.prog 33 = true := by kernel_rfl
theorem one_4 : tyOne Tryd.prog 4 = true := by kernel_rfl
theorem one_9 : tyOne Tryd.prog 9 = true := by kernel_rfl
theorem siz_32 : tySize Tryd.prog 32 2 = true := by kernel_rfl
theorem siz_35 : tySize Tryd.prog 35 4 = true := by kernel_rfl
theorem siz_38 : tySize Tryd.prog 38 4 = true := by kernel_rfl
theorem zer_32 : tyZero Tryd.prog 32 = some [.slice none 0 0, .slice none 0 0] := by kernel_rfl
theorem zer_35 : tyZero Tryd.prog 35 = some [.string ⟨#[]⟩, .int .i64 0, .int .i64 0, .slice none 0 0] := by kernel_rfl
theorem zer_38 : tyZero Tryd.prog 38 = some [.string ⟨#[]⟩, .int .i64 0, .bool false, .int .u64 0] := by kernel_rfl
structure DItem where
  name : ByteArray
  mod : Int
  fn : Bool
  params : Int
  here : Bool
  strong : Bool
  deriving DecidableEq
def itemL (x : DItem) : List Value := [.string x.name, .int .i64 x.mod, .bool x.fn, .int .i64 x.params, .bool x.here, .bool x.strong]
def itemV (x : DItem) : Value := .agg (itemL x).toArray
def ItemC (cs : List Value) (x : DItem) : Prop := cs = itemL x ∧ x.name.size ≤ maxLen ∧ inI x.mod ∧ inI x.params
def GroupC (ro : Nat → Prop) (w : World) (cs : List Value) (g : List DItem) : Prop := ∃ sv, cs = [sv] ∧ SlV ro w 6 ItemC sv g
theorem GroupC.keep {ro ro' : Nat → Prop} {w w' : World} {cs : List Value} {g : List DItem} (h : GroupC ro w cs g) (ha : Alike ro w ro' w') : GroupC ro' w' cs g := by
  obtain ⟨sv, h1, h2⟩ := h
  exact ⟨sv, h1, h2.keep ha fun _ _ q => q⟩
def fItem (i : Nat) (f : DFunc) : DItem := ⟨f.name, i, true, f.params, decide ((0 : Int) < (f.blocks.length : Int)), decide (f.bind = 2)⟩
def gItem (i : Nat) (g : DGlob) : DItem := ⟨g.name, i, false, 0, g.here, decide (g.bind = 2)⟩
def fItems (i : Nat) (fs : List DFunc) : List DItem := fs.filterMap fun f => if f.bind = 1 then none else some (fItem i f)
def gItems (i : Nat) (gs : List DGlob) : List DItem := gs.filterMap fun g => if g.bind = 1 then none else some (gItem i g)
def mItems (i : Nat) (m : DMod) : List DItem := fItems i m.funcs ++ gItems i m.globs
def itemsFrom : Nat → List DMod → List DItem
  | _, [] => []
  | i, m :: r => mItems i m ++ itemsFrom (i + 1) r
def items9 (l : List DMod) : List DItem := itemsFrom 0 l
theorem itemsFrom_append : ∀ (l r : List DMod) (i : Nat), itemsFrom i (l ++ r) = itemsFrom i l ++ itemsFrom (i + l.length) r
  | [], r, i => by simp [itemsFrom]
  | m :: l, r, i => by
    simp only [List.cons_append, itemsFrom, itemsFrom_append l r (i + 1), List.append_assoc, List.length_cons]
    rw [show i + 1 + l.length = i + (l.length + 1) by omega]
theorem items9_next {l : List DMod} {i : Nat} {m : DMod} (h : l[i]? = some m) : items9 (l.take (i + 1)) = items9 (l.take i) ++ mItems i m := by
  have hi : i < l.length := (List.getElem?_eq_some_iff.1 h).1
  rw [take_next h, items9, itemsFrom_append]
  simp only [itemsFrom, List.append_nil, List.length_take, Nat.min_eq_left (Nat.le_of_lt hi), Nat.zero_add, items9]
theorem items9_split {l : List DMod} {i : Nat} {m : DMod} (h : l[i]? = some m) : items9 l = items9 (l.take i) ++ (mItems i m ++ itemsFrom (i + 1) (l.drop (i + 1))) := by
  have hi : i < l.length := (List.getElem?_eq_some_iff.1 h).1
  have e : l = l.take (i + 1) ++ l.drop (i + 1) := (List.take_append_drop _ _).symm
  have e2 : items9 l = items9 (l.take (i + 1)) ++ itemsFrom (0 + (l.take (i + 1)).length) (l.drop (i + 1)) := by
    show itemsFrom 0 l = itemsFrom 0 (l.take (i + 1)) ++ _
    rw [← itemsFrom_append, ← e]
  rw [e2, items9_next h, List.length_take, Nat.min_eq_left hi, List.append_assoc, Nat.zero_add]
theorem filterMap_next {α β : Type} {f : α → Option β} {l : List α} {k : Nat} {x : α} (h : l[k]? = some x) : (l.take (k + 1)).filterMap f = (l.take k).filterMap f ++ (f x).toList := by
  rw [take_next h, List.filterMap_append]
  cases hf : f x <;> simp [hf]
theorem filterMap_split {α β : Type} {f : α → Option β} {l : List α} {k : Nat} {x : α} {y : β} (h : l[k]? = some x) (hf : f x = some y) : ∃ t, l.filterMap f = (l.take k).filterMap f ++ [y] ++ t := by
  refine ⟨(l.drop (k + 1)).filterMap f, ?_⟩
  have e : l = l.take (k + 1) ++ l.drop (k + 1) := (List.take_append_drop _ _).symm
  conv => lhs; rw [e]
  rw [List.filterMap_append, filterMap_next h, hf]; rfl
theorem fItems_yes {i k : Nat} {fs : List DFunc} {f : DFunc} (h : fs[k]? = some f) (hb : ¬ f.bind = 1) : fItems i (fs.take (k + 1)) = fItems i (fs.take k) ++ [fItem i f] := by
  unfold fItems; rw [filterMap_next h, if_neg hb]; rfl
theorem fItems_no {i k : Nat} {fs : List DFunc} {f : DFunc} (h : fs[k]? = some f) (hb : f.bind = 1) : fItems i (fs.take (k + 1)) = fItems i (fs.take k) := by
  unfold fItems; rw [filterMap_next h, if_pos hb]; simp
theorem gItems_yes {i k : Nat} {fs : List DGlob} {f : DGlob} (h : fs[k]? = some f) (hb : ¬ f.bind = 1) : gItems i (fs.take (k + 1)) = gItems i (fs.take k) ++ [gItem i f] := by
  unfold gItems; rw [filterMap_next h, if_neg hb]; rfl
theorem gItems_no {i k : Nat} {fs : List DGlob} {f : DGlob} (h : fs[k]? = some f) (hb : f.bind = 1) : gItems i (fs.take (k + 1)) = gItems i (fs.take k) := by
  unfold gItems; rw [filterMap_next h, if_pos hb]; simp
theorem prefix_f {l : List DMod} {i k : Nat} {m : DMod} {f : DFunc} (h : l[i]? = some m) (hk : m.funcs[k]? = some f) (hb : ¬ f.bind = 1) : items9 (l.take i) ++ fItems i (m.funcs.take k) ++ [fItem i f] <+: items9 l := by
  obtain ⟨t, ht⟩ := filterMap_split (f := fun f : DFunc => if f.bind = 1 then none else some (fItem i f)) hk (if_neg hb)
  rw [items9_split h, mItems]
  exact ⟨t ++ (gItems i m.globs ++ itemsFrom (i + 1) (l.drop (i + 1))), by rw [show fItems i m.funcs = _ from ht]; simp [fItems]⟩
theorem prefix_g {l : List DMod} {i k : Nat} {m : DMod} {g : DGlob} (h : l[i]? = some m) (hk : m.globs[k]? = some g) (hb : ¬ g.bind = 1) : items9 (l.take i) ++ fItems i m.funcs ++ gItems i (m.globs.take k) ++ [gItem i g] <+: items9 l := by
  obtain ⟨t, ht⟩ := filterMap_split (f := fun f : DGlob => if f.bind = 1 then none else some (gItem i f)) hk (if_neg hb)
  rw [items9_split h, mItems]
  exact ⟨t ++ itemsFrom (i + 1) (l.drop (i + 1)), by rw [show gItems i m.globs = _ from ht]; simp [gItems]⟩

theorem items1_ret {w0 w : World} {ro : Nat → Prop} (l bl : Nat) (ms : List DMod) (vx : Value) (J : List DItem → World → Prop) (hro : ∀ b, ro b → b < w0.heap.size) (hx : SlV ro w0 2 (ModC ro w0) vx ms) (hbw : Below w0.heap.size w0 w) (hbl : w.heap[bl]? = some (.cells [vx].toArray 22 (0, 0))) (hst : ∀ s A B, J s A → Below A.heap.size A B → J s B) (hY : ∀ pre e A, J pre A → pre ++ [e] <+: items9 ms → YieldAt Fence.wide 0 Tryd.prog l #[itemV e] A fun e' B => e' = .returned (.bool true) ∧ J (pre ++ [e]) B ∧ KpT w0 32 A B) (hJ0 : J [] w) : Ret Tryd.prog 80 #[.func (.yield l) #[] #[], .pointer (some ⟨bl, 0, none⟩)] w fun v w' => J (items9 ms) w' := by
 have al := alikeFrom hro hbw
 refine Ret.enter (P := Tryd.prog) (n := 71) (args := [.func (.yield l) #[] #[], .pointer (some ⟨bl, 0, none⟩)]) (σ := [(0, .func (.yield l) #[] #[]), (1, .pointer (some ⟨bl, 0, none⟩))]) Tryd.func80 rfl rfl rfl rfl ?_
 have hS := St.all hbw
 obtain ⟨adl, capl, rfl, hla, hlb, hlc, helB⟩ := hx
 have hlm : ms.length ≤ 9223372036854775807 := by have h1 := hla; have h2 := hlb; unfold maxLen at h2; omega
 have hcl : CellsAt w bl 0 [.slice adl ms.length capl] := cellsAt_block hbl
 have hbl2 : bl < w.heap.size := (Array.getElem?_eq_some_iff.1 hbl).1
 refine W.seq (W.region (WL.load1 (v := .slice adl ms.length capl) one_22 rfl rfl rfl (hS.roCells hbl2 hcl 0 _ rfl) (WL.lenSlice Tryd.underlying22 rfl rfl rfl (WL.move rfl rfl rfl (WL.nil (N.seq (W.block ?_)))))))
 refine W.loop (α := Nat) (fun (i : Nat) => [(0, .func (.yield l) #[] #[]), (9, .slice adl ms.length capl), (10, .int .i64 (ms.length : Int)), (11, .int .i64 (i : Int))]) (fun (i : Nat) u => St w0 u u (fun b => b < u.heap.size) [] [] ∧ i ≤ ms.length ∧ J (items9 (ms.take i)) u) (fun (i : Nat) => ms.length - i) 0 ⟨rfl, rfl, rfl, rfl, trivial⟩ ⟨St.all hS.below, Nat.zero_le _, hJ0⟩ ?_
 clear hS
 rintro i w1 ⟨hS, hi, hJ⟩
 have al := alikeFrom hro hS.below
 have hbw2 := hS.below
 refine W.seq (W.region (WL.bin rfl rfl rfl rfl rfl (WL.nil (N.seq (W.seq ?_)))))
 refine W.cond rfl (fun hc2 => ?_) (fun hc2 => ?_)
 ·
  have hc2p : (i : Int) < (ms.length : Int) := by simpa using hc2
  refine W.skip (N.seq (W.seq (W.block (W.seq (W.region (WL.move rfl rfl rfl ?_))))))
  have hjM : i < ms.length := by omega
  obtain ⟨xM, hxM⟩ : ∃ zz, ms[i]? = some zz := ⟨_, List.getElem?_eq_getElem hjM⟩
  obtain ⟨bM, oM, csM, hEM, hrM, hlM, hcM, hQM⟩ := helB i _ hxM
  obtain ⟨sfM, sgM, rfl, hfsM, hgsM⟩ := id hQM
  obtain ⟨adfM, capfM, rfl, hfsMa, hfsMb, hfsMc, hfsMd⟩ := id hfsM
  have hfsMm : xM.funcs.length ≤ 9223372036854775807 := by have h1 := hfsMa; have h2 := hfsMb; unfold maxLen at h2; omega
  obtain ⟨adgM, capgM, rfl, hgsMa, hgsMb, hgsMc, hgsMd⟩ := id hgsM
  have hgsMm : xM.globs.length ≤ 9223372036854775807 := by have h1 := hgsMa; have h2 := hgsMb; unfold maxLen at h2; omega
  have hcM2 := hcM.keep (al _ hrM).2
  have hrM2 := (al _ hrM).1
  refine WL.indexAddrE (j := i) Tryd.underlying22 isz_32 rfl rfl rfl rfl hjM hEM (WL.loadN (cs := [.slice adfM xM.funcs.length capfM, .slice adgM xM.globs.length capgM]) agg_32 rfl rfl rfl rfl (hS.roCells hrM2 hcM2) ?_)
  refine WL.alloc (tyZero_spec zer_32) rfl rfl hS ?_
  clear hS; intro w4 b3 hb_b3 hS
  refine WL.assign rfl rfl rfl ?_
  refine WL.store (L' := [(b3, .cells #[.slice adfM xM.funcs.length capfM, .slice adgM xM.globs.length capgM] 32 (0, 0))]) 0 rfl rfl rfl rfl siz_32 rfl rfl rfl rfl rfl hS ?_
  clear hS; intro w5 hS
  refine WL.nil (N.seq (W.seq (W.seq (W.region (WL.fieldAddr fo_32_0 rfl rfl rfl (WL.load1 (v := .slice adfM xM.funcs.length capfM) one_29 rfl rfl rfl (hS.cell 0 rfl rfl) (WL.lenSlice Tryd.underlying29 rfl rfl rfl (WL.move rfl rfl rfl (WL.nil ?_)))))))))
  refine N.seq (W.block ?_)
  have hm4 := hS.own _ List.mem_cons_self
  have hJ2 := hst _ _ _ hJ (hS.belowAll hbw2)
  refine W.loop (α := Nat) (fun (kf : Nat) => [(0, .func (.yield l) #[] #[]), (3, .int .i64 (i : Int)), (4, .pointer (some ⟨b3, 0, none⟩)), (9, .slice adl ms.length capl), (10, .int .i64 (ms.length : Int)), (11, .int .i64 (i : Int)), (17, .slice adfM xM.funcs.length capfM), (18, .int .i64 (xM.funcs.length : Int)), (19, .int .i64 (kf : Int))]) (fun (kf : Nat) u => St w0 u u (fun b => b < u.heap.size) [] [] ∧ kf ≤ xM.funcs.length ∧ J (items9 (ms.take i) ++ fItems i (xM.funcs.take kf)) u ∧ u.heap[b3]? = some (.cells [.slice adfM xM.funcs.length capfM, .slice adgM xM.globs.length capgM].toArray 32 (0, 0))) (fun (kf : Nat) => xM.funcs.length - kf) 0 ⟨rfl, rfl, rfl, rfl, rfl, rfl, rfl, rfl, rfl, trivial⟩ ⟨St.all hS.below, Nat.zero_le _, by simpa [fItems] using hJ2, hm4⟩ ?_
  clear hS
  rintro kf w6 ⟨hS, hk, hJk, hm4⟩
  have al := alikeFrom hro hS.below
  have hbw3 := hS.below
  have helk := Elems.keep hfsMd al (fun _ _ h => h.keep al)
  have hlt4 : b3 < w6.heap.size := (Array.getElem?_eq_some_iff.1 hm4).1
  have hc4 := cellsAt_block hm4
  refine W.seq (W.region (WL.bin rfl rfl rfl rfl rfl (WL.nil (N.seq (W.seq ?_)))))
  refine W.cond rfl (fun hc7 => ?_) (fun hc7 => ?_)
  ·
   have hc7p : (kf : Int) < (xM.funcs.length : Int) := by simpa using hc7
   refine W.skip (N.seq (W.seq (W.block (W.seq (W.region ?_)))))
   have hj8 : kf < xM.funcs.length := by omega
   obtain ⟨x8, hx8⟩ : ∃ zz, xM.funcs[kf]? = some zz := ⟨_, List.getElem?_eq_getElem hj8⟩
   obtain ⟨b8, o8, cs8, hE8, hr8, hl8, hc8, hQ8⟩ := helk kf _ hx8
   obtain ⟨sb8, rfl, hbl8, hnm8, hbd8, hpr8⟩ := id hQ8
   obtain ⟨adb8, capb8, rfl, hbk8a, hbk8b, hbk8c, hbk8d⟩ := id hbl8
   have hbk8m : x8.blocks.length ≤ 9223372036854775807 := by have h1 := hbk8a; have h2 := hbk8b; unfold maxLen at h2; omega
   refine WL.indexAddrE (j := kf) Tryd.underlying29 isz_35 rfl rfl rfl rfl hj8 hE8 (WL.loadN (cs := [.string x8.name, .int .i64 x8.bind, .int .i64 x8.params, .slice adb8 x8.blocks.length capb8]) agg_35 rfl rfl rfl rfl (hS.roCells hr8 hc8) ?_)
   refine WL.alloc (tyZero_spec zer_35) rfl rfl hS ?_
   clear hS; intro w10 b9 hb_b9 hS
   refine WL.store (L' := [(b9, .cells #[.string x8.name, .int .i64 x8.bind, .int .i64 x8.params, .slice adb8 x8.blocks.length capb8] 35 (0, 0))]) 0 rfl rfl rfl rfl siz_35 rfl rfl rfl rfl rfl hS ?_
   clear hS; intro w11 hS
   refine WL.nil (N.seq (W.seq ?_))
   by_cases hbind : x8.bind = 1
   ·
    have hn : (!decide (x8.bind = 1)) = false := by simp [hbind]
    refine W.region (WL.fieldAddr fo_35_1 rfl rfl rfl (WL.load1 (v := .int .i64 x8.bind) one_3 rfl rfl rfl (hS.cell 0 rfl rfl) (WL.bin rfl rfl rfl rfl rfl ?_)))
    refine WL.set 25 (v' := .bool false) rfl (by rw [hn]) ?_
    refine WL.move rfl rfl rfl (WL.skp rfl rfl (WL.skp rfl rfl (WL.skp rfl rfl (WL.skp rfl rfl (WL.skp rfl rfl (WL.skp rfl rfl (WL.skp rfl rfl (WL.skp rfl rfl (WL.skp rfl rfl ?_)))))))))
    refine WL.skp rfl rfl (WL.skp rfl rfl (WL.skp rfl rfl (WL.skp rfl rfl (WL.skp rfl rfl (WL.skp rfl rfl (WL.skp rfl rfl (WL.pick (v := .bool false) rfl rfl rfl rfl rfl rfl (WL.nil (N.seq ?_)))))))))
    refine W.condF rfl (W.skip (N.blk (N.seq (W.region ?_))))
    refine WL.add (c := (kf : Int) + 1) rfl rfl rfl rfl (rfl) (by omega) ?_
    refine WL.move rfl rfl rfl (WL.nil ?_)
    have hJ3 := hst _ _ _ hJk (hS.belowAll hbw3)
    have hm4 := (hS.snap _ hlt4).2.trans hm4
    exact N.loop (kf + 1) ⟨rfl, rfl, rfl, rfl, rfl, rfl, rfl, rfl, rfl, trivial⟩ ⟨St.all hS.below, by omega, by rw [fItems_no hx8 hbind]; exact hJ3, hm4⟩ (by first | omega | (simp only; omega))
   have hn : (!decide (x8.bind = 1)) = true := by simp [hbind]
   refine W.regionYat 18 _ (fun _ : Unit => [(0, .func (.yield l) #[] #[]), (3, .int .i64 (i : Int)), (4, .pointer (some ⟨b3, 0, none⟩)), (6, .pointer (some ⟨b9, 0, none⟩)), (9, .slice adl ms.length capl), (10, .int .i64 (ms.length : Int)), (11, .int .i64 (i : Int)), (17, .slice adfM xM.funcs.length capfM), (18, .int .i64 (xM.funcs.length : Int)), (19, .int .i64 (kf : Int)), (20, .bool (decide ((kf : Int) < (xM.funcs.length : Int)))), (21, .pointer (some ⟨b8, o8 + kf * 4, none⟩)), (22, .agg #[.string x8.name, .int .i64 x8.bind, .int .i64 x8.params, .slice adb8 x8.blocks.length capb8]), (23, .pointer (some ⟨b9, 1, none⟩)), (24, .int .i64 x8.bind), (25, .bool true), (26, .bool true), (27, .func (.yield l) #[] #[]), (28, .pointer (some ⟨b9, 0, none⟩)), (29, .string x8.name), (30, .int .i64 (i : Int)), (31, .pointer (some ⟨b9, 2, none⟩)), (32, .int .i64 x8.params), (33, .pointer (some ⟨b9, 3, none⟩)), (34, .slice adb8 x8.blocks.length capb8), (35, .int .i64 (x8.blocks.length : Int)), (36, .bool (decide (0 < (x8.blocks.length : Int)))), (37, .pointer (some ⟨b9, 1, none⟩)), (38, .int .i64 x8.bind), (39, .bool (decide (x8.bind = 2))), (40, .agg #[.string x8.name, .int .i64 (i : Int), .bool true, .int .i64 x8.params, .bool (decide (0 < (x8.blocks.length : Int))), .bool (decide (x8.bind = 2))])]) (fun _ u => u = w11) rfl rfl rfl ?_ ?_ (fun a w' ⟨v, h, _⟩ => by cases h)
   ·
    refine WL.fieldAddr fo_35_1 rfl rfl rfl (WL.load1 (v := .int .i64 x8.bind) one_3 rfl rfl rfl (hS.cell 0 rfl rfl) (WL.bin rfl rfl rfl rfl rfl ?_))
    refine WL.set 25 (v' := .bool true) rfl (by rw [hn]) ?_
    refine WL.move rfl rfl rfl (WL.move rfl rfl rfl (WL.fieldAddr fo_35_0 rfl rfl rfl (WL.load1 (v := .string x8.name) one_9 rfl rfl rfl (hS.cell 0 rfl rfl) (WL.move rfl rfl rfl (WL.fieldAddr fo_35_2 rfl rfl rfl (WL.load1 (v := .int .i64 x8.params) one_3 rfl rfl rfl (hS.cell 0 rfl rfl) (WL.fieldAddr fo_35_3 rfl rfl rfl (WL.load1 (v := .slice adb8 x8.blocks.length capb8) one_33 rfl rfl rfl (hS.cell 0 rfl rfl) (WL.lenSlice Tryd.underlying33 rfl rfl rfl ?_)))))))))
    refine WL.bin rfl rfl rfl rfl rfl (WL.fieldAddr fo_35_1 rfl rfl rfl (WL.load1 (v := .int .i64 x8.bind) one_3 rfl rfl rfl (hS.cell 0 rfl rfl) (WL.bin rfl rfl rfl rfl rfl ?_)))
    refine WL.build (ps := [(0, .string x8.name), (1, .int .i64 (i : Int)), (2, .bool true), (3, .int .i64 x8.params), (4, .bool (decide (0 < (x8.blocks.length : Int)))), (5, .bool (decide (x8.bind = 2)))]) (cs := [.string x8.name, .int .i64 (i : Int), .bool true, .int .i64 x8.params, .bool (decide (0 < (x8.blocks.length : Int))), .bool (decide (x8.bind = 2))]) rfl rfl rfl (by kernel_rfl) ?_
    exact WL.nil (N.cut () ⟨rfl, rfl, rfl, rfl, rfl, rfl, rfl, rfl, rfl, rfl, rfl, rfl, rfl, rfl, rfl, rfl, rfl, rfl, rfl, rfl, rfl, rfl, rfl, rfl, rfl, rfl, rfl, rfl, rfl, rfl, rfl, trivial⟩ rfl)
   rintro _ _ rfl
   have hJ2 := hst _ _ _ hJk (hS.belowAll hbw3)
   obtain ⟨fn, tm, asg, bd, hy, hR⟩ := hY _ (fItem i x8) _ hJ2 (prefix_f hxM hx8 hbind)
   refine ⟨rfl, rfl, l, fn, tm, asg, bd, exec_yield rfl rfl hy, hR.mono ?_⟩
   rintro _ w12 ⟨rfl, hJ3, hK⟩
   refine ⟨_, rfl, ?_⟩
   have hm4 := hK.kept _ _ _ ((hS.snap _ hlt4).2.trans hm4)
   have hbw4 := hK.below hS.below
   replace hS := St.all hbw4
   refine WL.not rfl rfl rfl ?_
   refine WL.set 42 (v' := .bool false) rfl rfl ?_
   refine WL.pick (v := .bool false) rfl rfl rfl rfl rfl rfl (WL.nil (N.seq (W.condF rfl (W.skip (N.blk (N.seq (W.region ?_)))))))
   refine WL.add (c := (kf : Int) + 1) rfl rfl rfl rfl (rfl) (by omega) ?_
   refine WL.move rfl rfl rfl (WL.nil ?_)
   exact N.loop (kf + 1) ⟨rfl, rfl, rfl, rfl, rfl, rfl, rfl, rfl, rfl, trivial⟩ ⟨St.all hS.below, by omega, by rw [fItems_yes hx8 hbind, ← List.append_assoc]; exact hJ3, hm4⟩ (by first | omega | (simp only; omega))
  have hc7p : ¬ ((kf : Int) < (xM.funcs.length : Int)) := by simpa using hc7
  refine W.exit (X.seq (X.loop (X.blk (N.seq (W.seq (W.region (WL.fieldAddr fo_32_1 rfl rfl rfl (WL.load1 (v := .slice adgM xM.globs.length capgM) one_30 rfl rfl rfl (hS.roCells hlt4 hc4 1 _ rfl) (WL.lenSlice Tryd.underlying30 rfl rfl rfl ?_)))))))))
  refine WL.move rfl rfl rfl (WL.nil (N.seq (W.block ?_)))
  have hJ2 : J (items9 (ms.take i) ++ fItems i xM.funcs) w6 := by have h := hst _ _ _ hJk (hS.belowAll hbw3); rw [show kf = xM.funcs.length by omega, List.take_length] at h; exact h
  refine W.loop (α := Nat) (fun (kg : Nat) => [(0, .func (.yield l) #[] #[]), (3, .int .i64 (i : Int)), (9, .slice adl ms.length capl), (10, .int .i64 (ms.length : Int)), (11, .int .i64 (i : Int)), (46, .slice adgM xM.globs.length capgM), (47, .int .i64 (xM.globs.length : Int)), (48, .int .i64 (kg : Int))]) (fun (kg : Nat) u => St w0 u u (fun b => b < u.heap.size) [] [] ∧ kg ≤ xM.globs.length ∧ J (items9 (ms.take i) ++ fItems i xM.funcs ++ gItems i (xM.globs.take kg)) u ∧ u.heap[b3]? = some (.cells [.slice adfM xM.funcs.length capfM, .slice adgM xM.globs.length capgM].toArray 32 (0, 0))) (fun (kg : Nat) => xM.globs.length - kg) 0 ⟨rfl, rfl, rfl, rfl, rfl, rfl, rfl, rfl, trivial⟩ ⟨St.all hS.below, Nat.zero_le _, by simpa [gItems] using hJ2, hm4⟩ ?_
  clear hS
  rintro kg w13 ⟨hS, hk, hJk, hm4⟩
  have al := alikeFrom hro hS.below
  have hbw3 := hS.below
  have helk := Elems.keep hgsMd al (fun _ _ h => h)
  have hlt4 : b3 < w13.heap.size := (Array.getElem?_eq_some_iff.1 hm4).1
  have hc4 := cellsAt_block hm4
  refine W.seq (W.region (WL.bin rfl rfl rfl rfl rfl (WL.nil (N.seq (W.seq ?_)))))
  refine W.cond rfl (fun hc14 => ?_) (fun hc14 => ?_)
  ·
   have hc14p : (kg : Int) < (xM.globs.length : Int) := by simpa using hc14
   refine W.skip (N.seq (W.seq (W.block (W.seq (W.region ?_)))))
   have hj15 : kg < xM.globs.length := by omega
   obtain ⟨x15, hx15⟩ : ∃ zz, xM.globs[kg]? = some zz := ⟨_, List.getElem?_eq_getElem hj15⟩
   obtain ⟨b15, o15, cs15, hE15, hr15, hl15, hc15, hQ15⟩ := helk kg _ hx15
   obtain ⟨rfl, hgn15, hgb15, hgi15⟩ := hQ15
   refine WL.indexAddrE (j := kg) Tryd.underlying30 isz_38 rfl rfl rfl rfl hj15 hE15 (WL.loadN (cs := [.string x15.name, .int .i64 x15.bind, .bool x15.here, .int .u64 x15.init]) agg_38 rfl rfl rfl rfl (hS.roCells hr15 hc15) ?_)
   refine WL.alloc (tyZero_spec zer_38) rfl rfl hS ?_
   clear hS; intro w17 b16 hb_b16 hS
   refine WL.store (L' := [(b16, .cells #[.string x15.name, .int .i64 x15.bind, .bool x15.here, .int .u64 x15.init] 38 (0, 0))]) 0 rfl rfl rfl rfl siz_38 rfl rfl rfl rfl rfl hS ?_
   clear hS; intro w18 hS
   refine WL.nil (N.seq (W.seq ?_))
   by_cases hbind : x15.bind = 1
   ·
    have hn : (!decide (x15.bind = 1)) = false := by simp [hbind]
    refine W.region (WL.fieldAddr fo_38_1 rfl rfl rfl (WL.load1 (v := .int .i64 x15.bind) one_3 rfl rfl rfl (hS.cell 0 rfl rfl) (WL.bin rfl rfl rfl rfl rfl ?_)))
    refine WL.set 54 (v' := .bool false) rfl (by rw [hn]) ?_
    refine WL.move rfl rfl rfl (WL.skp rfl rfl (WL.skp rfl rfl (WL.skp rfl rfl (WL.skp rfl rfl (WL.skp rfl rfl (WL.skp rfl rfl (WL.skp rfl rfl (WL.skp rfl rfl (WL.skp rfl rfl ?_)))))))))
    refine WL.skp rfl rfl (WL.skp rfl rfl (WL.skp rfl rfl (WL.pick (v := .bool false) rfl rfl rfl rfl rfl rfl (WL.nil (N.seq (W.condF rfl (W.skip (N.blk (N.seq ?_)))))))))
    refine W.region ?_
    refine WL.add (c := (kg : Int) + 1) rfl rfl rfl rfl (rfl) (by omega) ?_
    refine WL.move rfl rfl rfl (WL.nil ?_)
    have hJ3 := hst _ _ _ hJk (hS.belowAll hbw3)
    have hm4 := (hS.snap _ hlt4).2.trans hm4
    exact N.loop (kg + 1) ⟨rfl, rfl, rfl, rfl, rfl, rfl, rfl, rfl, trivial⟩ ⟨St.all hS.below, by omega, by rw [gItems_no hx15 hbind]; exact hJ3, hm4⟩ (by first | omega | (simp only; omega))
   have hn : (!decide (x15.bind = 1)) = true := by simp [hbind]
   refine W.regionYat 14 _ (fun _ : Unit => [(0, .func (.yield l) #[] #[]), (3, .int .i64 (i : Int)), (8, .pointer (some ⟨b16, 0, none⟩)), (9, .slice adl ms.length capl), (10, .int .i64 (ms.length : Int)), (11, .int .i64 (i : Int)), (46, .slice adgM xM.globs.length capgM), (47, .int .i64 (xM.globs.length : Int)), (48, .int .i64 (kg : Int)), (49, .bool (decide ((kg : Int) < (xM.globs.length : Int)))), (50, .pointer (some ⟨b15, o15 + kg * 4, none⟩)), (51, .agg #[.string x15.name, .int .i64 x15.bind, .bool x15.here, .int .u64 x15.init]), (52, .pointer (some ⟨b16, 1, none⟩)), (53, .int .i64 x15.bind), (54, .bool true), (55, .bool true), (56, .func (.yield l) #[] #[]), (57, .pointer (some ⟨b16, 0, none⟩)), (58, .string x15.name), (59, .int .i64 (i : Int)), (60, .pointer (some ⟨b16, 2, none⟩)), (61, .bool x15.here), (62, .pointer (some ⟨b16, 1, none⟩)), (63, .int .i64 x15.bind), (64, .bool (decide (x15.bind = 2))), (65, .agg #[.string x15.name, .int .i64 (i : Int), .bool false, .int .i64 0, .bool x15.here, .bool (decide (x15.bind = 2))])]) (fun _ u => u = w18) rfl rfl rfl ?_ ?_ (fun a w' ⟨v, h, _⟩ => by cases h)
   ·
    refine WL.fieldAddr fo_38_1 rfl rfl rfl (WL.load1 (v := .int .i64 x15.bind) one_3 rfl rfl rfl (hS.cell 0 rfl rfl) (WL.bin rfl rfl rfl rfl rfl ?_))
    refine WL.set 54 (v' := .bool true) rfl (by rw [hn]) ?_
    refine WL.move rfl rfl rfl (WL.move rfl rfl rfl (WL.fieldAddr fo_38_0 rfl rfl rfl (WL.load1 (v := .string x15.name) one_9 rfl rfl rfl (hS.cell 0 rfl rfl) (WL.move rfl rfl rfl (WL.fieldAddr fo_38_2 rfl rfl rfl (WL.load1 (v := .bool x15.here) one_4 rfl rfl rfl (hS.cell 0 rfl rfl) (WL.fieldAddr fo_38_1 rfl rfl rfl (WL.load1 (v := .int .i64 x15.bind) one_3 rfl rfl rfl (hS.cell 0 rfl rfl) (WL.bin rfl rfl rfl rfl rfl ?_)))))))))
    refine WL.build (ps := [(0, .string x15.name), (1, .int .i64 (i : Int)), (2, .bool false), (3, .int .i64 0), (4, .bool x15.here), (5, .bool (decide (x15.bind = 2)))]) (cs := [.string x15.name, .int .i64 (i : Int), .bool false, .int .i64 0, .bool x15.here, .bool (decide (x15.bind = 2))]) rfl rfl rfl (by kernel_rfl) ?_
    exact WL.nil (N.cut () ⟨rfl, rfl, rfl, rfl, rfl, rfl, rfl, rfl, rfl, rfl, rfl, rfl, rfl, rfl, rfl, rfl, rfl, rfl, rfl, rfl, rfl, rfl, rfl, rfl, rfl, rfl, trivial⟩ rfl)
   rintro _ _ rfl
   have hJ2 := hst _ _ _ hJk (hS.belowAll hbw3)
   obtain ⟨fn, tm, asg, bd, hy, hR⟩ := hY _ (gItem i x15) _ hJ2 (prefix_g hxM hx15 hbind)
   refine ⟨rfl, rfl, l, fn, tm, asg, bd, exec_yield rfl rfl hy, hR.mono ?_⟩
   rintro _ w19 ⟨rfl, hJ3, hK⟩
   refine ⟨_, rfl, ?_⟩
   have hm4 := hK.kept _ _ _ ((hS.snap _ hlt4).2.trans hm4)
   have hbw4 := hK.below hS.below
   replace hS := St.all hbw4
   refine WL.not rfl rfl rfl ?_
   refine WL.set 67 (v' := .bool false) rfl rfl ?_
   refine WL.pick (v := .bool false) rfl rfl rfl rfl rfl rfl (WL.nil (N.seq (W.condF rfl (W.skip (N.blk (N.seq (W.region ?_)))))))
   refine WL.add (c := (kg : Int) + 1) rfl rfl rfl rfl (rfl) (by omega) ?_
   refine WL.move rfl rfl rfl (WL.nil ?_)
   exact N.loop (kg + 1) ⟨rfl, rfl, rfl, rfl, rfl, rfl, rfl, rfl, trivial⟩ ⟨St.all hS.below, by omega, by rw [gItems_yes hx15 hbind, ← List.append_assoc]; exact hJ3, hm4⟩ (by first | omega | (simp only; omega))
  have hc14p : ¬ ((kg : Int) < (xM.globs.length : Int)) := by simpa using hc14
  refine W.exit (X.seq (X.loop (X.blk (N.blk (N.seq (W.region ?_))))))
  refine WL.add (c := (i : Int) + 1) rfl rfl rfl rfl (rfl) (by omega) ?_
  refine WL.move rfl rfl rfl (WL.nil ?_)
  have hJ2 : J (items9 (ms.take i) ++ fItems i xM.funcs ++ gItems i xM.globs) w13 := by have h := hst _ _ _ hJk (hS.belowAll hbw3); rw [show kg = xM.globs.length by omega, List.take_length] at h; exact h
  exact N.loop (i + 1) ⟨rfl, rfl, rfl, rfl, trivial⟩ ⟨St.all hS.below, by omega, by rw [items9_next hxM, mItems, ← List.append_assoc]; exact hJ2⟩ (by first | omega | (simp only; omega))
 have hc2p : ¬ ((i : Int) < (ms.length : Int)) := by simpa using hc2
 refine W.exit (X.seq (X.loop (X.blk ?_)))
 refine Fin.end0 rfl ?_
 have e : i = ms.length := by omega
 subst e
 rw [List.take_length] at hJ
 exact hst _ _ _ hJ (hS.belowAll hS.below)

theorem items_ret {w0 w : World} {ro : Nat → Prop} (ms : List DMod) (vx : Value) (hro : ∀ b, ro b → b < w0.heap.size) (hx : SlV ro w0 2 (ModC ro w0) vx ms) (hbw : Below w0.heap.size w0 w) : Ret Tryd.prog 47 #[vx] w fun v w' => ∃ bl, v = .func (.func 80) #[] #[.pointer (some ⟨bl, 0, none⟩)] ∧ IterK Tryd.prog 80 #[.pointer (some ⟨bl, 0, none⟩)] itemV (items9 ms) w0 32 w' ∧ Below w.heap.size w w' := by
 have hx0 := hx
 obtain ⟨adl, capl, rfl, hla, hlb, hlc, helB⟩ := hx0
 refine Ret.enter (P := Tryd.prog) (n := 4) (args := [.slice adl ms.length capl]) (σ := [(0, .slice adl ms.length capl)]) Tryd.func47 rfl rfl rfl rfl ?_
 have hS := St.start (ro := (fun b => b < w.heap.size)) (fun _ h => h)
 refine W.seq (W.region ?_)
 refine WL.box (v := .slice adl ms.length capl) (cs := [.slice adl ms.length capl]) rfl rfl rfl rfl hS ?_
 clear hS; intro w2 b1 hb_b1 hS
 refine WL.assign rfl rfl rfl (WL.nil (N.seq (W.seq (W.region ?_))))
 refine WL.makeFunc (vs := #[.pointer (some ⟨b1, 0, none⟩)]) rfl rfl rfl ?_
 refine WL.assign rfl rfl rfl (WL.nil (N.seq ?_))
 refine Fin.ret1 rfl (v := .func (.func 80) #[] #[.pointer (some ⟨b1, 0, none⟩)]) rfl ?_
 refine ⟨b1, rfl, fun l J W hW hst hY h0 => ?_, hS.below⟩
 have hbo := hS.own _ List.mem_cons_self
 exact Calls.mono (items1_ret l b1 ms _ J hro hx (hbw.trans ((hS.below.mono hbw.size).trans (hW.mono (Nat.le_trans hbw.size hS.below.size)))) ((hW.block _ (Array.getElem?_eq_some_iff.1 hbo).1).trans hbo) hst hY h0) fun e W2 ⟨v, he, hj⟩ => ⟨⟨v, he⟩, hj⟩

end Go.Proofs.YtapjejjmhmdmdaaDoor
