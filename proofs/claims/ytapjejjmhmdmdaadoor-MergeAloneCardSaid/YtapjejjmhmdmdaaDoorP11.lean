/-
  A module merged alone does what it does: plain facts. No condition beyond those that each theorem states.
-/
import Derived.Test.YtapjejjmhmdmdaaDoorP10
import Derived.Test.YtapjejjmhmdmdaaDoorE1
namespace Go.Proofs.YtapjejjmhmdmdaaDoor
open Go.RowKit

theorem nodup_inj {α β : Type} {f : α → β} : ∀ {l : List α}, (l.map f).Nodup → ∀ {x y : α}, x ∈ l → y ∈ l → f x = f y → x = y
  | [], _, _, _, hx, _, _ => by cases hx
  | a :: l, h, x, y, hx, hy, e => by
    rw [List.map_cons, List.nodup_cons] at h
    rcases List.mem_cons.1 hx with e1 | hx2
    · rcases List.mem_cons.1 hy with e2 | hy2
      · rw [e1, e2]
      · exact (h.1 (List.mem_map.2 ⟨y, hy2, by rw [← e, e1]⟩)).elim
    · rcases List.mem_cons.1 hy with e2 | hy2
      · exact (h.1 (List.mem_map.2 ⟨x, hx2, by rw [e, e2]⟩)).elim
      · exact nodup_inj h.2 hx2 hy2 e
theorem fItems_sub (i : Nat) : ∀ l : List DFunc, List.Sublist ((fItems i l).map (·.name)) (l.map (·.name))
  | [] => List.Sublist.slnil
  | f :: l => by
    unfold fItems
    rw [List.filterMap_cons]
    have h := fItems_sub i l
    unfold fItems at h
    split
    · exact List.Sublist.cons _ h
    · rename_i y e
      split at e
      · cases e
      · cases e; exact List.Sublist.cons_cons _ h
theorem gItems_sub (i : Nat) : ∀ l : List DGlob, List.Sublist ((gItems i l).map (·.name)) (l.map (·.name))
  | [] => List.Sublist.slnil
  | f :: l => by
    unfold gItems
    rw [List.filterMap_cons]
    have h := gItems_sub i l
    unfold gItems at h
    split
    · exact List.Sublist.cons _ h
    · rename_i y e
      split at e
      · cases e
      · cases e; exact List.Sublist.cons_cons _ h
theorem items_nodup {m : DMod} (hc : check5 m = 0) : ((items9 [m]).map (·.name)).Nodup := by
  have h := (check5_all hc).2.2.2.2.1
  have e : items9 [m] = fItems 0 m.funcs ++ gItems 0 m.globs := by simp [items9, itemsFrom, mItems]
  rw [e, List.map_append]
  exact List.Nodup.sublist (List.Sublist.append (fItems_sub 0 m.funcs) (gItems_sub 0 m.globs)) h
theorem item_once {m : DMod} (hc : check5 m = 0) {x y : DItem} (hx : x ∈ items9 [m]) (hy : y ∈ items9 [m]) (e : x.name = y.name) : x = y := nodup_inj (items_nodup hc) hx hy e
theorem grp_mem {m : DMod} {g : List DItem} (hg : g ∈ grp9 (items9 [m])) : ∃ s, g = (items9 [m]).filter fun x => decide (x.name = s) := by
  unfold grp9 at hg
  obtain ⟨s, _, rfl⟩ := List.mem_map.1 hg
  exact ⟨s, rfl⟩
theorem grp_one {m : DMod} (hc : check5 m = 0) {g : List DItem} (hg : g ∈ grp9 (items9 [m])) : oddG g = false ∧ many9 g ≤ 1 := by
  have h0 := grp9_ne hg
  obtain ⟨s, rfl⟩ := grp_mem hg
  have hall : ∀ x ∈ (items9 [m]).filter (fun x => decide (x.name = s)), x = ((items9 [m]).filter fun x => decide (x.name = s)).getD 0 item0 := fun x hx => by
    have hy := getD_mem item0 h0
    obtain ⟨h1, h2⟩ := List.mem_filter.1 hx
    obtain ⟨h3, h4⟩ := List.mem_filter.1 hy
    exact item_once hc h1 h3 (by simp only [decide_eq_true_eq] at h2 h4; rw [h2, h4])
  refine ⟨?_, ?_⟩
  · unfold oddG
    rw [List.any_eq_false]
    intro x hx
    rw [← hall x hx]
    simp [odd9]
  · have hl : ((items9 [m]).filter fun x => decide (x.name = s)).length ≤ 1 := by
      have hnd : (((items9 [m]).filter fun x => decide (x.name = s)).map (·.name)).Nodup := List.Nodup.sublist (List.Sublist.map _ List.filter_sublist) (items_nodup hc)
      generalize e : (items9 [m]).filter (fun x => decide (x.name = s)) = l at hall hnd h0
      match l, hall, hnd with
      | [], _, _ => simp
      | [a], _, _ => simp
      | a :: b :: r, hall, hnd =>
        have hb := hall b (by simp)
        simp only [List.getD_cons_zero] at hb
        rw [hb] at hnd
        simp at hnd
    unfold many9
    have := List.length_filter_le sB9 ((items9 [m]).filter fun x => decide (x.name = s))
    omega
theorem alone_all {m : DMod} (hc : check5 m = 0) : (all9 (items9 [m])).2 = 0 ∨ (all9 (items9 [m])).2 = 8 ∨ (all9 (items9 [m])).2 = 11 := by
  unfold all9
  rw [if_neg (by rw [List.any_eq_true]; rintro ⟨g, hg, h⟩; rw [(grp_one hc hg).1] at h; cases h), if_neg (by rw [List.any_eq_true]; rintro ⟨g, hg, h⟩; have := (grp_one hc hg).2; simp at h; omega)]
  split
  · exact .inr (.inl rfl)
  split
  · exact .inl rfl
  · exact .inr (.inr rfl)
abbrev R1 (m : DMod) : Ren := G10 [m] 0 m
def alone (m : DMod) (f : DFunc) : DFunc := rename10 (R1 m) (if f.bind = 1 then f else defF [] f)
def aloneG (m : DMod) (x : DGlob) : DGlob := renG (R1 m) (if x.bind = 1 then x else defG [] x)
section
variable {m : DMod} (hc : check5 m = 0) (hok : (all9 (items9 [m])).2 = 0)
include hc hok
theorem shared_f {f : DFunc} (hf : f ∈ m.funcs) (hb : ¬ f.bind = 1) : (fnd9 (ds10 [m]) f.name).1.mod = 0 ∧ (fnd9 (ds10 [m]) f.name).1.here = hereF f := by
  have hi : ([m] : List DMod)[0]? = some m := rfl
  have hs := (kindF hok hi hf hb).1
  obtain ⟨g, e, h0, _, _, hmem⟩ := fnd9_in hok hs
  obtain ⟨x, hx, h1, h2⟩ := def9_src h0
  obtain ⟨hxi, hxn⟩ := (hmem x).1 hx
  have e2 := item_once hc hxi (fItem_in hi hf hb) hxn
  subst e2
  rw [e]
  exact ⟨h1, h2⟩
theorem shared_g {f : DGlob} (hf : f ∈ m.globs) (hb : ¬ f.bind = 1) : (fnd9 (ds10 [m]) f.name).1.mod = 0 ∧ (fnd9 (ds10 [m]) f.name).1.here = f.here := by
  have hi : ([m] : List DMod)[0]? = some m := rfl
  have hs := (kindG hok hi hf hb).1
  obtain ⟨g, e, h0, _, _, hmem⟩ := fnd9_in hok hs
  obtain ⟨x, hx, h1, h2⟩ := def9_src h0
  obtain ⟨hxi, hxn⟩ := (hmem x).1 hx
  have e2 := item_once hc hxi (gItem_in hi hf hb) hxn
  subst e2
  rw [e]
  exact ⟨h1, h2⟩
theorem foldF_alone : ∀ (l : List DFunc) (s : S10), (l.map (·.name)).Nodup → (∀ f ∈ l, f ∈ m.funcs) → (∀ f ∈ l, s.done f.name = none) →
    (l.foldl (fun10 (ds10 [m]) [] 0 (R1 m)) s).fs = s.fs ++ l.map (alone m) ∧ (l.foldl (fun10 (ds10 [m]) [] 0 (R1 m)) s).gs = s.gs ∧ ∀ t, t ∉ l.map (·.name) → (l.foldl (fun10 (ds10 [m]) [] 0 (R1 m)) s).done t = s.done t
  | [], s, _, _, _ => ⟨by simp, rfl, fun _ _ => rfl⟩
  | f :: l, s, hn, hm, hd => by
    rw [List.foldl_cons]
    rw [List.map_cons, List.nodup_cons] at hn
    have hf := hm f List.mem_cons_self
    by_cases hb : f.bind = 1
    · have e : fun10 (ds10 [m]) [] 0 (R1 m) s f = ⟨s.fs ++ [alone m f], s.gs, s.done⟩ := by unfold fun10 alone; rw [if_pos hb, if_pos hb]
      rw [e]
      obtain ⟨h1, h2, h3⟩ := foldF_alone l ⟨s.fs ++ [alone m f], s.gs, s.done⟩ hn.2 (fun g hg => hm g (List.mem_cons_of_mem _ hg)) (fun g hg => hd g (List.mem_cons_of_mem _ hg))
      exact ⟨by rw [h1]; simp, h2, fun t ht => h3 t (fun h => ht (List.mem_cons_of_mem _ h))⟩
    · obtain ⟨s1, s2⟩ := shared_f hc hok hf hb
      have hw : wants10 (ds10 [m]) s.done f.name ((0 : Nat) : Int) (hereF f) = true := by
        unfold wants10; rw [s1, s2, hd f List.mem_cons_self]; simp
      have e : fun10 (ds10 [m]) [] 0 (R1 m) s f = ⟨s.fs ++ [alone m f], s.gs, updG s.done f.name true⟩ := by unfold fun10 alone; rw [if_neg hb, if_pos hw, if_neg hb]
      rw [e]
      obtain ⟨h1, h2, h3⟩ := foldF_alone l ⟨s.fs ++ [alone m f], s.gs, updG s.done f.name true⟩ hn.2 (fun g hg => hm g (List.mem_cons_of_mem _ hg)) (fun g hg => by
        have hne : ¬ g.name = f.name := fun e => hn.1 (by rw [← e]; exact List.mem_map.2 ⟨g, hg, rfl⟩)
        show updG s.done f.name true g.name = none
        unfold updG; rw [if_neg hne]; exact hd g (List.mem_cons_of_mem _ hg))
      refine ⟨by rw [h1]; simp, h2, fun t ht => ?_⟩
      rw [h3 t (fun h => ht (List.mem_cons_of_mem _ h))]
      show updG s.done f.name true t = s.done t
      unfold updG; rw [if_neg (fun e => ht (by rw [e]; exact List.mem_cons_self))]
theorem foldG_alone : ∀ (l : List DGlob) (s : S10), (l.map (·.name)).Nodup → (∀ f ∈ l, f ∈ m.globs) → (∀ f ∈ l, s.done f.name = none) →
    (l.foldl (glob10 (ds10 [m]) [] 0 (R1 m)) s).gs = s.gs ++ l.map (aloneG m) ∧ (l.foldl (glob10 (ds10 [m]) [] 0 (R1 m)) s).fs = s.fs
  | [], s, _, _, _ => ⟨by simp, rfl⟩
  | f :: l, s, hn, hm, hd => by
    rw [List.foldl_cons]
    rw [List.map_cons, List.nodup_cons] at hn
    have hf := hm f List.mem_cons_self
    by_cases hb : f.bind = 1
    · have e : glob10 (ds10 [m]) [] 0 (R1 m) s f = ⟨s.fs, s.gs ++ [aloneG m f], s.done⟩ := by unfold glob10 aloneG; rw [if_pos hb, if_pos hb]
      rw [e]
      obtain ⟨h1, h2⟩ := foldG_alone l ⟨s.fs, s.gs ++ [aloneG m f], s.done⟩ hn.2 (fun g hg => hm g (List.mem_cons_of_mem _ hg)) (fun g hg => hd g (List.mem_cons_of_mem _ hg))
      exact ⟨by rw [h1]; simp, h2⟩
    · obtain ⟨s1, s2⟩ := shared_g hc hok hf hb
      have hw : wants10 (ds10 [m]) s.done f.name ((0 : Nat) : Int) f.here = true := by
        unfold wants10; rw [s1, s2, hd f List.mem_cons_self]; simp
      have e : glob10 (ds10 [m]) [] 0 (R1 m) s f = ⟨s.fs, s.gs ++ [aloneG m f], updG s.done f.name true⟩ := by unfold glob10 aloneG; rw [if_neg hb, if_pos hw, if_neg hb]
      rw [e]
      obtain ⟨h1, h2⟩ := foldG_alone l ⟨s.fs, s.gs ++ [aloneG m f], updG s.done f.name true⟩ hn.2 (fun g hg => hm g (List.mem_cons_of_mem _ hg)) (fun g hg => by
        have hne : ¬ g.name = f.name := fun e => hn.1 (by rw [← e]; exact List.mem_map.2 ⟨g, hg, rfl⟩)
        show updG s.done f.name true g.name = none
        unfold updG; rw [if_neg hne]; exact hd g (List.mem_cons_of_mem _ hg))
      exact ⟨by rw [h1]; simp, h2⟩
theorem alone_out : (ot10 [m] []).fs = m.funcs.map (alone m) ∧ (ot10 [m] []).gs = m.globs.map (aloneG m) := by
  have e : ot10 [m] [] = m.globs.foldl (glob10 (ds10 [m]) [] 0 (R1 m)) (m.funcs.foldl (fun10 (ds10 [m]) [] 0 (R1 m)) ⟨[], [], fun _ => none⟩) := rfl
  rw [e]
  have hn := (check5_all hc).2.2.2.2.1
  unfold names5 at hn
  obtain ⟨hf, hg, hd⟩ := List.nodup_append.1 hn
  obtain ⟨h1, h2, h3⟩ := foldF_alone hc hok m.funcs ⟨[], [], fun _ => none⟩ hf (fun f h => h) (fun f _ => rfl)
  obtain ⟨g1, g2⟩ := foldG_alone hc hok m.globs _ hg (fun f h => h) (fun f hfm => (h3 f.name (fun h => hd _ h _ (List.mem_map.2 ⟨f, hfm, rfl⟩) rfl)).trans rfl)
  rw [g1, g2, h1, h2]
  exact ⟨by simp, by simp⟩
end
theorem alone_code {m : DMod} (hc : check5 m = 0) : (merge10 [m] []).2 = 0 ∨ (merge10 [m] []).2 = 8 ∨ (merge10 [m] []).2 = 11 := by
  unfold merge10
  rcases alone_all hc with h | h | h
  · rw [if_pos h, if_neg (by simp)]
    obtain ⟨h1, h2⟩ := alone_out hc h
    have c := check5_all hc
    have e1 : (ot10 [m] []).fs.length ≤ 16 := by rw [h1, List.length_map]; exact c.1
    have e2 : (ot10 [m] []).gs.length ≤ 16 := by rw [h2, List.length_map]; exact c.2.1
    dsimp only
    rw [if_neg (by have h3 := e1; have h4 := e2; unfold ot10 ds10 nm10 at h3 h4; omega)]
    exact .inl rfl
  · rw [if_neg (by omega)]; exact .inr (.inl h)
  · rw [if_neg (by omega)]; exact .inr (.inr h)

/-! ### The same, run -/
theorem findN_map {r : ByteArray → ByteArray} {s : ByteArray} : ∀ (l : List ByteArray) (i : Nat), (∀ x ∈ l, r x = r s → x = s) → findN i (l.map r) (r s) = findN i l s
  | [], i, _ => rfl
  | x :: l, i, h => by
    rw [List.map_cons, findN, findN, findN_map l (i + 1) (fun y hy => h y (List.mem_cons_of_mem _ hy))]
    by_cases e : x = s
    · rw [if_pos e, if_pos (by rw [e])]
    · rw [if_neg e, if_neg (fun q => e (h x List.mem_cons_self q))]
theorem renI_op (g : Ren) (x : DInst) : (renI g x).op = x.op := by unfold renI; split <;> rfl
theorem renI_a (g : Ren) (x : DInst) : (renI g x).a = x.a := by unfold renI; split <;> rfl
theorem renI_b (g : Ren) (x : DInst) : (renI g x).b = x.b := by unfold renI; split <;> rfl
theorem renI_k (g : Ren) (x : DInst) : (renI g x).k = x.k := by unfold renI; split <;> rfl
theorem renI_args (g : Ren) (x : DInst) : (renI g x).args = x.args := by unfold renI; split <;> rfl
theorem renI_name {g : Ren} {x : DInst} (h : x.name ≠ ⟨#[]⟩) : (renI g x).name = ren10 g x.name := by unfold renI; rw [if_neg h]
theorem name5_ne {s : ByteArray} (h : name5 s = true) : s ≠ ⟨#[]⟩ := fun e => by
  rw [e] at h; revert h; decide
/-- A module and its like under other names. -/
structure Like7 (m k : DMod) (G : Ren) : Prop where
  fl : fnames k = (fnames m).map (ren10 G)
  gl : gnames k = (gnames m).map (ren10 G)
  inj : ∀ s ∈ names5 m, ∀ t ∈ names5 m, ren10 G s = ren10 G t → s = t
  fn : ∀ (i : Nat) (f : DFunc), m.funcs[i]? = some f → f.blocks ≠ [] → ∃ f', k.funcs[i]? = some f' ∧ f'.blocks = f.blocks.map (renB G)
theorem find_mem {l : List ByteArray} {s : ByteArray} (h : 0 ≤ find5 l s) : s ∈ l := by
  rcases find5_cases l s with ⟨h1, _⟩ | ⟨i, _, h2, _⟩
  · omega
  · exact List.mem_of_getElem? h2
theorem body7_like {m k : DMod} {G : Ren} {inp : ByteArray} {fuel : Int} {cal cal' : Cal} : ∀ (l : List DInst) (W : DW) (vals : List Int), (∀ x ∈ l, ∀ W vals, ins7 k inp cal' W vals (renI G x) = ins7 m inp cal W vals x) → body7 k inp fuel cal' W vals (l.map (renI G)) = body7 m inp fuel cal W vals l
  | [], W, vals, _ => rfl
  | x :: l, W, vals, h => by
    rw [List.map_cons, body7, body7, h x List.mem_cons_self]
    split
    · rfl
    split
    · rfl
    exact body7_like l _ _ fun y hy => h y (List.mem_cons_of_mem _ hy)
theorem blocks7_like {m k : DMod} {G : Ren} {inp : ByteArray} {fuel : Int} {cal cal' : Cal} {f f' : DFunc} (he : f'.blocks = f.blocks.map (renB G)) (h : ∀ b ∈ f.blocks, ∀ x ∈ b.ins, ∀ W vals, ins7 k inp cal' W vals (renI G x) = ins7 m inp cal W vals x) : ∀ (g : Nat) (W : DW) (a : Int) (vals : List Int), blocks7 k inp fuel cal' f' g W a vals = blocks7 m inp fuel cal f g W a vals
  | 0, W, a, vals => rfl
  | g + 1, W, a, vals => by
    rw [blocks7, blocks7, he, List.getElem?_map]
    cases hb : f.blocks[a.toNat]? with
    | none => rfl
    | some b =>
      dsimp only [Option.map_some]
      rw [show (renB G b).ins = b.ins.map (renI G) from rfl, body7_like b.ins W vals (h b (List.mem_of_getElem? hb)), show (renB G b).fin = b.fin from rfl]
      split
      · rfl
      split
      · rfl
      split
      · rfl
      exact blocks7_like he h g _ _ _
section
variable {m k : DMod} {G : Ren} (hL : Like7 m k G) (hw : whole7 m = 0) {inp : ByteArray} {fuel : Int}
include hL
theorem find_f {s : ByteArray} (hs : s ∈ fnames m) : find5 (fnames k) (ren10 G s) = find5 (fnames m) s := by
  rw [hL.fl]
  exact findN_map _ 0 fun x hx e => hL.inj x (List.mem_append_left _ hx) s (List.mem_append_left _ hs) e
theorem find_g {s : ByteArray} (hs : s ∈ gnames m) : find5 (gnames k) (ren10 G s) = find5 (gnames m) s := by
  rw [hL.gl]
  exact findN_map _ 0 fun x hx e => hL.inj x (List.mem_append_right _ hx) s (List.mem_append_right _ hs) e
include hw
theorem gives7_like {f : DFunc} {b : DBlock} {x : DInst} (hf : f ∈ m.funcs) (hb : b ∈ f.blocks) (hx : x ∈ b.ins) (W : DW) (vals : List Int) : gives7 k W inp (renI G x) vals = gives7 m W inp x vals := by
  have hgn : x.op = 12 ∨ x.op = 13 → find5 (gnames k) (renI G x).name = find5 (gnames m) x.name := fun ho => by
    obtain ⟨h0, h1⟩ := whole7_glob hw hf hb hx ho
    have hm := find_mem h0
    obtain ⟨g, hg, e⟩ := List.mem_map.1 hm
    have h5 := (check5_all (whole7_all hw).1).2.2.2.1 g hg
    unfold glob5 at h5
    simp only [Bool.and_eq_true] at h5
    rw [renI_name (by rw [← e]; exact name5_ne h5.1.1.1), find_g hL hm]
  unfold gives7
  rw [renI_op, renI_a, renI_b, renI_k]
  by_cases h1 : x.op = 1
  · rw [if_pos h1, if_pos h1]
  by_cases h2 : x.op = 12
  · rw [if_neg h1, if_neg h1, if_pos h2, if_pos h2, hgn (.inl h2)]
  by_cases h3 : x.op = 13
  · rw [if_neg h1, if_neg h1, if_neg h2, if_neg h2, if_pos h3, if_pos h3, hgn (.inr h3)]
  rw [if_neg h1, if_neg h1, if_neg h2, if_neg h2, if_neg h3, if_neg h3]
theorem call7_like {deep : Int} : ∀ (d : Nat) (W : DW) (s : ByteArray) (args : List Int), (∃ f, m.funcs[(find5 (fnames m) s).toNat]? = some f ∧ 0 ≤ find5 (fnames m) s ∧ f.blocks ≠ []) → call7 k inp fuel deep d W (ren10 G s) args = call7 m inp fuel deep d W s args := by
  intro d
  induction d with
  | zero =>
    rintro W s args ⟨f, hf, h0, hb⟩
    obtain ⟨f', hf', he⟩ := hL.fn _ f hf hb
    have hfm := List.mem_of_getElem? hf
    rw [← find_f hL (find_mem h0)] at hf'
    rw [call7_eq hf', call7_eq hf]
    exact blocks7_like he (fun b hb x hx W vals => by
      unfold ins7
      rw [renI_op]
      by_cases ho : x.op = 14
      · rw [if_pos ho, if_pos ho]; rfl
      · rw [if_neg ho, if_neg ho]; exact gives7_like hL hw hfm hb hx W vals) _ _ _ _
  | succ d ih =>
    rintro W s args ⟨f, hf, h0, hb⟩
    obtain ⟨f', hf', he⟩ := hL.fn _ f hf hb
    have hfm := List.mem_of_getElem? hf
    rw [← find_f hL (find_mem h0)] at hf'
    rw [call7_eq hf', call7_eq hf]
    exact blocks7_like he (fun b hb x hx W vals => by
      unfold ins7
      rw [renI_op]
      by_cases ho : x.op = 14
      · rw [if_pos ho, if_pos ho]
        obtain ⟨g, hg, hg0, hgb, _⟩ := whole7_call hw hfm hb hx ho
        have hgm := List.mem_of_getElem? hg
        have hn5 : name5 x.name = true := by
          have h5 := (check5_all (whole7_all hw).1).2.2.1 g hgm
          rw [← find_atF hg0 hg]
          exact ((func5_iff g).1 h5).1
        show call7 k inp fuel deep d W (renI G x).name (pick7 vals (renI G x).args) = call7 m inp fuel deep d W x.name (pick7 vals x.args)
        rw [renI_name (name5_ne hn5), renI_args]
        exact ih W x.name _ ⟨g, hg, hg0, hgb⟩
      · rw [if_neg ho, if_neg ho]; exact gives7_like hL hw hfm hb hx W vals) _ _ _ _
end
theorem alone_like {m : DMod} (hc : check5 m = 0) (h : (merge10 [m] []).2 = 0) : Like7 m (merge10 [m] []).1 (R1 m) := by
  have hrt : ∀ x ∈ [m], check5 x = 0 := fun x hx => by rw [List.mem_singleton.1 hx]; exact hc
  have hwk := (whole10_facts (ks := []) hrt (by simp) h).1
  have hck := (check5_all (whole7_all hwk).1).2.2.2.2.1
  obtain ⟨hok, _, e, _⟩ := merge10_ok h
  rw [e] at hck ⊢
  obtain ⟨h1, h2⟩ := alone_out hc hok
  rw [h1, h2] at hck ⊢
  have nf : ∀ f : DFunc, (alone m f).name = ren10 (R1 m) f.name := fun f => by unfold alone; split <;> rfl
  have ng : ∀ f : DGlob, (aloneG m f).name = ren10 (R1 m) f.name := fun f => by unfold aloneG; split <;> rfl
  have fl : fnames ⟨m.funcs.map (alone m), m.globs.map (aloneG m)⟩ = (fnames m).map (ren10 (R1 m)) := by simp [fnames, nf, Function.comp_def]
  have gl : gnames ⟨m.funcs.map (alone m), m.globs.map (aloneG m)⟩ = (gnames m).map (ren10 (R1 m)) := by simp [gnames, ng, Function.comp_def]
  refine ⟨fl, gl, fun s hs t ht q => ?_, fun i f hf hb => ⟨alone m f, by simp [List.getElem?_map, hf], ?_⟩⟩
  · unfold names5 at hck hs ht
    rw [fl, gl, ← List.map_append] at hck
    exact nodup_inj hck hs ht q
  · unfold alone rename10
    split
    · rfl
    · show (if f.blocks.length = 0 then nothing10 f.params else f.blocks).map _ = _
      rw [if_neg (fun q => hb (List.eq_nil_of_length_eq_zero q))]
theorem run7_alone {m : DMod} (hw : whole7 m = 0) (h : (merge10 [m] []).2 = 0) (inp : ByteArray) (fuel deep : Int) : run7 (merge10 [m] []).1 inp fuel deep = run7 m inp fuel deep := by
  have hc := (whole7_all hw).1
  have hrt : ∀ x ∈ [m], check5 x = 0 := fun x hx => by rw [List.mem_singleton.1 hx]; exact hc
  have hL := alone_like hc h
  have hwk := (whole10_facts (ks := []) hrt (by simp) h).1
  obtain ⟨hok, _, e, _⟩ := merge10_ok h
  obtain ⟨h1, h2⟩ := alone_out hc hok
  have hgi : (merge10 [m] []).1.globs.map (·.init) = m.globs.map (·.init) := by
    rw [e, h2]
    simp only [List.map_map]
    congr 1
    funext g
    show (aloneG m g).init = g.init
    unfold aloneG; split <;> rfl
  obtain ⟨f, hf, h0, hb, _⟩ := (whole7_all hw).2.1
  have hmn : ren10 (R1 m) mainB = mainB := by
    have hfm := List.mem_of_getElem? hf
    have hn := find_atF h0 hf
    by_cases hb1 : f.bind = 1
    · exfalso
      obtain ⟨m1, _⟩ := main10 hok
      obtain ⟨x, hx, hxn⟩ := (mem_nms9 _ _).1 m1
      have hnd := (check5_all hc).2.2.2.2.1
      unfold names5 at hnd
      obtain ⟨ndf, _, dis⟩ := List.nodup_append.1 hnd
      obtain ⟨i, m', hi, ⟨f', hf', hb', rfl⟩ | ⟨g, hg, _, rfl⟩⟩ := items_mem hx
      · have hmm : m' = m := by
          have := List.mem_of_getElem? hi
          exact List.mem_singleton.1 this
        subst hmm
        have e2 : f' = f := nodup_inj ndf hf' hfm (by rw [hn]; exact hxn)
        exact hb' (by rw [e2]; exact hb1)
      · have hmm : m' = m := List.mem_singleton.1 (List.mem_of_getElem? hi)
        subst hmm
        exact dis _ (List.mem_map.2 ⟨f, hfm, rfl⟩) _ (List.mem_map.2 ⟨g, hg, rfl⟩) (by rw [hn]; exact hxn.symm)
    · have := G10_none hrt (i := 0) rfl (its_memF hfm) hb1
      rw [← hn]; exact this
  unfold run7
  have hcl := call7_like hL hw (inp := inp) (fuel := fuel) (deep := deep) (deep - 1).toNat ⟨tr0, m.globs.map (·.init), 0⟩ mainB [] ⟨f, hf, h0, hb⟩
  rw [hmn] at hcl
  rw [hwk, hw, hgi, hcl]
end Go.Proofs.YtapjejjmhmdmdaaDoor
