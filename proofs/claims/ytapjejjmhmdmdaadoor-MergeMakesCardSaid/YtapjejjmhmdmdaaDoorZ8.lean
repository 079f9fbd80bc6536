/-
  Modules made one, as a plain function. No condition beyond those that each theorem states.
-/
import Derived.Test.YtapjejjmhmdmdaaDoorZ7
namespace Go.Proofs.YtapjejjmhmdmdaaDoor
open Go.RowKit

def bind10 (ks : List ByteArray) (s : ByteArray) : Int := if s = mainB ∨ s ∈ ks then 2 else 1
def wants10 (ds : List DDef) (done : ByteArray → Option Bool) (s : ByteArray) (i : Int) (here : Bool) : Bool :=
  decide ((fnd9 ds s).1.mod = i) && (!((fnd9 ds s).1.here != here) && !((done s).getD false))
structure S10 where
  fs : List DFunc
  gs : List DGlob
  done : ByteArray → Option Bool
def hereF (f : DFunc) : Bool := decide ((0 : Int) < (f.blocks.length : Int))
def defF (ks : List ByteArray) (f : DFunc) : DFunc := ⟨f.name, bind10 ks f.name, f.params, if f.blocks.length = 0 then nothing10 f.params else f.blocks⟩
def defG (ks : List ByteArray) (x : DGlob) : DGlob := ⟨x.name, bind10 ks x.name, true, x.init⟩
def renG (g : Ren) (x : DGlob) : DGlob := ⟨ren10 g x.name, x.bind, x.here, x.init⟩
def fun10 (ds : List DDef) (ks : List ByteArray) (i : Nat) (g : Ren) (s : S10) (f : DFunc) : S10 :=
  if f.bind = 1 then ⟨s.fs ++ [rename10 g f], s.gs, s.done⟩
  else if wants10 ds s.done f.name (i : Int) (hereF f) = true then ⟨s.fs ++ [rename10 g (defF ks f)], s.gs, updG s.done f.name true⟩ else s
def glob10 (ds : List DDef) (ks : List ByteArray) (i : Nat) (g : Ren) (s : S10) (x : DGlob) : S10 :=
  if x.bind = 1 then ⟨s.fs, s.gs ++ [renG g x], s.done⟩
  else if wants10 ds s.done x.name (i : Int) x.here = true then ⟨s.fs, s.gs ++ [renG g (defG ks x)], updG s.done x.name true⟩ else s
def mod10s (ds : List DDef) (ks : List ByteArray) (i : Nat) (g : Ren) (s : S10) (m : DMod) : S10 := m.globs.foldl (glob10 ds ks i g) (m.funcs.foldl (fun10 ds ks i g) s)
def out10 (ds : List DDef) (ks : List ByteArray) (l : List ((DMod × Ren) × Nat)) : S10 := l.foldl (fun s p => mod10s ds ks p.2 p.1.2 s p.1.1) ⟨[], [], fun _ => none⟩
def zip10 (ms : List DMod) (gs : List Ren) : List ((DMod × Ren) × Nat) := (ms.zip gs).zipIdx
def lost10 (ds : List DDef) (s : ByteArray) : Bool := !(fnd9 ds s).2 || !(fnd9 ds s).1.here
def merge10 (ms : List DMod) (ks : List ByteArray) : DMod × Int :=
  if (all9 (items9 ms)).2 = 0 then
    if ks.any (lost10 (all9 (items9 ms)).1) = true then (⟨[], []⟩, 8)
    else
      let o := out10 (all9 (items9 ms)).1 ks (zip10 ms (nam10 (nms9 (items9 ms)) ms).1)
      if 16 < o.fs.length ∨ 16 < o.gs.length then (⟨[], []⟩, 4) else (⟨o.fs, o.gs⟩, 0)
  else (⟨[], []⟩, (all9 (items9 ms)).2)
theorem zip10_at {ms : List DMod} {gs : List Ren} {i : Nat} {m : DMod} {g : Ren} (hm : ms[i]? = some m) (hg : gs[i]? = some g) : (zip10 ms gs)[i]? = some ((m, g), i) := by
  unfold zip10
  rw [List.getElem?_zipIdx, (List.getElem?_zip_eq_some (z := (m, g))).2 ⟨hm, hg⟩]; simp
theorem zip10_len {ms : List DMod} {gs : List Ren} (h : gs.length = ms.length) : (zip10 ms gs).length = ms.length := by simp [zip10, h]
theorem out10_next {ds : List DDef} {ks : List ByteArray} {l : List ((DMod × Ren) × Nat)} {i j : Nat} {m : DMod} {g : Ren} (h : l[i]? = some ((m, g), j)) :
    out10 ds ks (l.take (i + 1)) = mod10s ds ks j g (out10 ds ks (l.take i)) m := by
  unfold out10
  rw [take_next h, List.foldl_append]; rfl
theorem foldl_next {α β : Type} {f : β → α → β} {b : β} {l : List α} {k : Nat} {x : α} (h : l[k]? = some x) : (l.take (k + 1)).foldl f b = f ((l.take k).foldl f b) x := by
  rw [take_next h, List.foldl_append]; rfl
theorem fun10_len (ds : List DDef) (ks : List ByteArray) (i : Nat) (g : Ren) (s : S10) (f : DFunc) : (fun10 ds ks i g s f).fs.length + (fun10 ds ks i g s f).gs.length ≤ s.fs.length + s.gs.length + 1 := by
  unfold fun10; repeat' split
  all_goals first | omega | (simp only [List.length_append, List.length_cons, List.length_nil]; omega)
theorem glob10_len (ds : List DDef) (ks : List ByteArray) (i : Nat) (g : Ren) (s : S10) (f : DGlob) : (glob10 ds ks i g s f).fs.length + (glob10 ds ks i g s f).gs.length ≤ s.fs.length + s.gs.length + 1 := by
  unfold glob10; repeat' split
  all_goals first | omega | (simp only [List.length_append, List.length_cons, List.length_nil]; omega)
theorem foldF_len (ds : List DDef) (ks : List ByteArray) (i : Nat) (g : Ren) : ∀ (l : List DFunc) (s : S10), (l.foldl (fun10 ds ks i g) s).fs.length + (l.foldl (fun10 ds ks i g) s).gs.length ≤ s.fs.length + s.gs.length + l.length
  | [], s => by simp
  | x :: l, s => by
    have h1 := foldF_len ds ks i g l (fun10 ds ks i g s x)
    have h2 := fun10_len ds ks i g s x
    rw [List.foldl_cons, List.length_cons]; omega
theorem foldG_len (ds : List DDef) (ks : List ByteArray) (i : Nat) (g : Ren) : ∀ (l : List DGlob) (s : S10), (l.foldl (glob10 ds ks i g) s).fs.length + (l.foldl (glob10 ds ks i g) s).gs.length ≤ s.fs.length + s.gs.length + l.length
  | [], s => by simp
  | x :: l, s => by
    have h1 := foldG_len ds ks i g l (glob10 ds ks i g s x)
    have h2 := glob10_len ds ks i g s x
    rw [List.foldl_cons, List.length_cons]; omega
theorem out10_len (ds : List DDef) (ks : List ByteArray) (l : List ((DMod × Ren) × Nat)) : (out10 ds ks l).fs.length + (out10 ds ks l).gs.length ≤ (l.map fun p => p.1.1.funcs.length + p.1.1.globs.length).sum := by
  induction l using snoc_ind with
  | h0 => simp [out10]
  | h1 l x ih =>
    have e : out10 ds ks (l ++ [x]) = mod10s ds ks x.2 x.1.2 (out10 ds ks l) x.1.1 := by unfold out10; rw [List.foldl_append]; rfl
    have h1 := foldF_len ds ks x.2 x.1.2 x.1.1.funcs (out10 ds ks l)
    have h2 := foldG_len ds ks x.2 x.1.2 x.1.1.globs (x.1.1.funcs.foldl (fun10 ds ks x.2 x.1.2) (out10 ds ks l))
    rw [e, List.map_append, List.sum_append]
    unfold mod10s
    simp only [List.map_cons, List.map_nil, List.sum_cons, List.sum_nil]; omega
theorem zip10_sum {ms : List DMod} {gs : List Ren} (hit : ∀ m ∈ ms, (its10 m).length ≤ 32) (i : Nat) : (((zip10 ms gs).take i).map fun p => p.1.1.funcs.length + p.1.1.globs.length).sum ≤ i * 32 := by
  have key : ∀ l : List ((DMod × Ren) × Nat), (∀ p ∈ l, p.1.1.funcs.length + p.1.1.globs.length ≤ 32) → (l.map fun p => p.1.1.funcs.length + p.1.1.globs.length).sum ≤ l.length * 32 := by
    intro l
    induction l with
    | nil => intro _; simp
    | cons x l ih =>
      intro h
      have h1 := h x List.mem_cons_self
      have h2 := ih fun p hp => h p (List.mem_cons_of_mem _ hp)
      rw [List.map_cons, List.sum_cons, List.length_cons]; omega
  have h1 := key ((zip10 ms gs).take i) fun p hp => by
    have h2 := List.mem_of_mem_take hp
    unfold zip10 at h2
    have h3 := List.fst_mem_of_mem_zipIdx h2
    have h4 := hit p.1.1 (List.of_mem_zip h3).1
    rw [its_len] at h4; exact h4
  have h2 := List.length_take_le i (zip10 ms gs)
  omega
end Go.Proofs.YtapjejjmhmdmdaaDoor

namespace Go.Proofs.YtapjejjmhmdmdaaDoor
open Go.RowKit
theorem fo_66_1 : fOff Tryd.prog 66 1 1 = true := by kernel_rfl
theorem fo_74_0 : fOff Tryd.prog 74 0 0 = true := by kernel_rfl
theorem fo_74_1 : fOff Tryd.prog 74 1 1 = true := by kernel_rfl
theorem fo_74_3 : fOff Tryd.prog 74 3 4 = true := by kernel_rfl
theorem one_62 : tyOne Tryd.prog 62 = true := by kernel_rfl
theorem mbind_ret (bm : Nat) (vd vk v1 v2 v4 : Value) (ks : List ByteArray) (s : ByteArray) {w : World} {ro : Nat → Prop} (hro : ∀ b, ro b → b < w.heap.size) (hbm : ro bm) (hcm : CellsAt w bm 0 [vd, vk, v1, v2, v4]) (hk : SlV ro w 1 StrC vk ks) : Ret Tryd.prog 62 #[.pointer (some ⟨bm, 0, none⟩), .string s] w fun v w' => v = .int .i64 (bind10 ks s) ∧ Below w.heap.size w w' := by
 refine Ret.enter (P := Tryd.prog) (n := 15) (args := [.pointer (some ⟨bm, 0, none⟩), .string s]) (σ := [(0, .pointer (some ⟨bm, 0, none⟩)), (1, .string s)]) Tryd.func62 rfl rfl rfl rfl ?_
 have hS := St.start (ro := ro) hro
 refine W.seq (W.region (WL.assign rfl rfl rfl (WL.nil (N.seq (W.seq (W.seq (W.region (WL.move rfl rfl rfl (WL.eqStr rfl rfl rfl rfl ?_)))))))))
 refine WL.move rfl rfl rfl ?_
 cases hg1 : (decide (s = ⟨#[109, 97, 105, 110]⟩))
 ·
  have hg1p : ¬ (s = ⟨#[109, 97, 105, 110]⟩) := by simpa using hg1
  refine WL.move rfl rfl rfl (WL.nilPtr rfl rfl rfl (WL.fieldAddr fo_74_1 rfl rfl rfl (WL.load1 (v := vk) one_25 rfl rfl rfl (hS.roCells hbm hcm 1 _ rfl) (WL.move rfl rfl rfl ?_))))
  refine WL.callF (vs := [vk, .string s]) Tryd.func43 (by kernel_rfl) rfl rfl rfl (contains_ret ks s _ (ro := ro) (fun b hb => (hS.snap b hb).1) (SlV.keep hk hS.alike (fun _ _ q => q))) ?_
  rintro v w2 ⟨rfl, hbl⟩
  replace hS := hS.grow hbl
  refine WL.pick (v := .bool (decide (s ∈ ks))) rfl rfl rfl rfl rfl rfl (WL.nil (N.seq ?_))
  refine W.cond rfl (fun hc3 => ?_) (fun hc3 => ?_)
  ·
   have hc3p : s ∈ ks := by simpa using hc3
   refine W.seq (W.region (WL.assign rfl rfl rfl (WL.nil (N.seq ?_))))
   refine Fin.ret1 rfl (v := .int .i64 2) rfl ?_
   have e : bind10 ks s = 2 := if_pos (.inr hc3p)
   exact ⟨by rw [e], hS.below⟩
  have hc3p : ¬ (s ∈ ks) := by simpa using hc3
  refine W.skip (N.seq (W.seq (W.region (WL.assign rfl rfl rfl (WL.nil (N.seq ?_))))))
  refine Fin.ret1 rfl (v := .int .i64 1) rfl ?_
  have e : bind10 ks s = 1 := if_neg (fun h => h.elim hg1p hc3p)
  exact ⟨by rw [e], hS.below⟩
 have hg1p : s = ⟨#[109, 97, 105, 110]⟩ := by simpa using hg1
 refine WL.skp rfl rfl (WL.skp rfl rfl (WL.skp rfl rfl (WL.skp rfl rfl (WL.skp rfl rfl (WL.skp rfl rfl (WL.pick (v := .bool true) rfl rfl rfl rfl rfl rfl (WL.nil (N.seq (W.condT rfl ?_)))))))))
 refine W.seq (W.region (WL.assign rfl rfl rfl (WL.nil (N.seq ?_))))
 refine Fin.ret1 rfl (v := .int .i64 2) rfl ?_
 have e : bind10 ks s = 2 := if_pos (.inl hg1p)
 exact ⟨by rw [e], hS.below⟩

theorem wants_ret {w0 ws w : World} {ro : Nat → Prop} {L : List (Nat × Obj)} {Rs : List Row} (bm bd : Nat) (vd vk v1 v2 : Value) (es : Array MapEntry) (ck c : Nat) (dn : ByteArray → Option Bool) (ds : List DDef) (ks : List ByteArray) (s : ByteArray) (i : Int) (hr : Bool) (hS : St w0 ws w ro ((bm, .cells #[vd, vk, v1, v2, .map (some bd)] 74 (0, 0)) :: (bd, .map es ck) :: L) Rs) (hM : MapG kS kB es ck c dn) (hd : SlV ro ws 5 DefC vd ds) : Ret Tryd.prog 61 #[.pointer (some ⟨bm, 0, none⟩), .string s, .int .i64 i, .bool hr] w fun v w' => v = .bool (wants10 ds dn s i hr) ∧ ∃ es' ck', MapG kS kB es' ck' (c + 1) (if wants10 ds dn s i hr = true then updG dn s true else dn) ∧ St w0 ws w' ro ((bm, .cells #[vd, vk, v1, v2, .map (some bd)] 74 (0, 0)) :: (bd, .map es' ck') :: L) Rs := by
 refine Ret.enter (P := Tryd.prog) (n := 43) (args := [.pointer (some ⟨bm, 0, none⟩), .string s, .int .i64 i, .bool hr]) (σ := [(0, .pointer (some ⟨bm, 0, none⟩)), (1, .string s), (2, .int .i64 i), (3, .bool hr)]) Tryd.func61 rfl rfl rfl rfl ?_
 refine W.seq (W.region (WL.assign rfl rfl rfl (WL.nil (N.seq (W.seq (W.region (WL.move rfl rfl rfl (WL.nilPtr rfl rfl rfl (WL.fieldAddr fo_74_0 rfl rfl rfl ?_)))))))))
 refine WL.load1 (v := vd) one_62 rfl rfl rfl (hS.cell 0 rfl rfl) (WL.move rfl rfl rfl ?_)
 refine WL.callF (vs := [vd, .string s]) Tryd.func28 (by kernel_rfl) rfl rfl rfl (rfind_ret ds s _ (ro := ro) (fun b hb => (hS.snap b hb).1) (SlV.keep hd hS.alike (fun _ _ q => q))) ?_
 rintro v w1 ⟨rfl, hbl⟩
 replace hS := hS.grow hbl
 refine WL.move rfl rfl rfl (WL.extract (v := .agg #[.string ((fnd9 ds s).1.name), .int .i64 ((fnd9 ds s).1.mod), .bool ((fnd9 ds s).1.fn), .bool ((fnd9 ds s).1.weak), .bool ((fnd9 ds s).1.here)]) rfl rfl rfl rfl (WL.extract (v := .bool ((fnd9 ds s).2)) rfl rfl rfl rfl ?_))
 refine WL.alloc (tyZero_spec zer_66) rfl rfl hS ?_
 clear hS; intro w3 b2 hb_b2 hS
 refine WL.store (L' := ((b2, .cells #[.string ((fnd9 ds s).1.name), .int .i64 ((fnd9 ds s).1.mod), .bool ((fnd9 ds s).1.fn), .bool ((fnd9 ds s).1.weak), .bool ((fnd9 ds s).1.here)] 66 (0, 0)) :: (bm, .cells #[vd, vk, v1, v2, .map (some bd)] 74 (0, 0)) :: (bd, .map es ck) :: L)) 0 rfl rfl rfl rfl siz_66 rfl rfl rfl rfl rfl hS ?_
 clear hS; intro w4 hS
 refine WL.assign rfl rfl rfl (WL.nil (N.seq (W.seq (W.seq (W.region (WL.fieldAddr fo_66_1 rfl rfl rfl (WL.load1 (v := .int .i64 ((fnd9 ds s).1.mod)) one_3 rfl rfl rfl (hS.cell 0 rfl rfl) (WL.move rfl rfl rfl (WL.bin rfl rfl rfl rfl rfl ?_)))))))))
 refine WL.move rfl rfl rfl ?_
 rcases (Bool.eq_false_or_eq_true (!decide ((fnd9 ds s).1.mod = i))).symm with hg5 | hg5
 ·
  refine WL.set 23 (v' := .bool false) rfl (by rw [hg5]) ?_
  refine WL.set 24 (v' := .bool false) rfl (by rw [hg5]) ?_
  have hg5p : (fnd9 ds s).1.mod = i := by simpa using hg5
  refine WL.fieldAddr fo_66_4 rfl rfl rfl (WL.load1 (v := .bool ((fnd9 ds s).1.here)) one_4 rfl rfl rfl (hS.cell 0 rfl rfl) (WL.move rfl rfl rfl ?_))
  refine WL.neBool Tryd.underlying4 rfl rfl rfl rfl ?_
  refine WL.pick (v := .bool (((fnd9 ds s).1.here) != hr)) rfl rfl rfl rfl rfl rfl (WL.move rfl rfl rfl ?_)
  rcases (Bool.eq_false_or_eq_true (((fnd9 ds s).1.here) != hr)).symm with hg6 | hg6
  ·
   refine WL.set 28 (v' := .bool false) rfl (by rw [hg6]) ?_
   refine WL.set 29 (v' := .bool false) rfl (by rw [hg6]) ?_
   refine WL.set 30 (v' := .bool false) rfl (by rw [hg6]) ?_
   refine WL.move rfl rfl rfl (WL.nilPtr rfl rfl rfl (WL.fieldAddr fo_74_3 rfl rfl rfl (WL.load1 (v := .map (some bd)) one_72 rfl rfl rfl (hS.cell 1 rfl rfl) (WL.move rfl rfl rfl ?_))))
   refine WL.mapGet s keyE_str Tryd.underlying72 Tryd.underlying9 zb_4 hM rfl rfl rfl rfl (hS.own _ (List.mem_of_getElem? (i := 2) rfl)) (v := .bool ((dn s).getD false)) (by cases dn s <;> rfl) ?_
   refine WL.pick (v := .bool ((dn s).getD false)) rfl rfl rfl rfl rfl rfl (WL.nil (N.seq ?_))
   refine W.cond rfl (fun hc7 => ?_) (fun hc7 => ?_)
   ·
    refine W.seq (W.region (WL.assign rfl rfl rfl (WL.nil (N.seq ?_))))
    refine Fin.ret1 rfl (v := .bool false) rfl ?_
    have e : wants10 ds dn s i hr = false := by unfold wants10; rw [hg6]; simp [hg5p, hc7]
    rw [e]
    exact ⟨rfl, es, ck, hM.mono (by omega), hS.dropN 1⟩
   refine W.skip (N.seq (W.seq (W.region (WL.move rfl rfl rfl (WL.nilPtr rfl rfl rfl (WL.fieldAddr fo_74_3 rfl rfl rfl (WL.load1 (v := .map (some bd)) one_72 rfl rfl rfl (hS.cell 1 rfl rfl) (WL.move rfl rfl rfl ?_))))))))
   refine WL.mapPut 2 s true keyE_str Tryd.underlying72 Tryd.underlying9 hM rfl rfl rfl rfl rfl hS ?_
   clear hS; intro w9 es8 ck8 hM8 hS
   refine WL.nil (N.seq (W.seq (W.region (WL.assign rfl rfl rfl (WL.nil (N.seq ?_))))))
   refine Fin.ret1 rfl (v := .bool true) rfl ?_
   have e : wants10 ds dn s i hr = true := by unfold wants10; rw [hg6]; simp [hg5p, hc7]
   rw [e]
   exact ⟨rfl, es8, ck8, hM8, hS.dropN 1⟩
  refine WL.set 28 (v' := .bool true) rfl (by rw [hg6]) ?_
  refine WL.set 29 (v' := .bool true) rfl (by rw [hg6]) ?_
  refine WL.set 30 (v' := .bool true) rfl (by rw [hg6]) ?_
  refine WL.skp rfl rfl (WL.skp rfl rfl (WL.skp rfl rfl (WL.skp rfl rfl (WL.skp rfl rfl (WL.skp rfl rfl (WL.pick (v := .bool true) rfl rfl rfl rfl rfl rfl (WL.nil (N.seq (W.condT rfl ?_)))))))))
  refine W.seq (W.region (WL.assign rfl rfl rfl (WL.nil (N.seq ?_))))
  refine Fin.ret1 rfl (v := .bool false) rfl ?_
  have e : wants10 ds dn s i hr = false := by unfold wants10; rw [hg6]; simp [hg5p]
  rw [e]
  exact ⟨rfl, es, ck, hM.mono (by omega), hS.dropN 1⟩
 refine WL.set 23 (v' := .bool true) rfl (by rw [hg5]) ?_
 refine WL.set 24 (v' := .bool true) rfl (by rw [hg5]) ?_
 have hg5p : ¬ ((fnd9 ds s).1.mod = i) := by simpa using hg5
 refine WL.skp rfl rfl (WL.skp rfl rfl (WL.skp rfl rfl (WL.skp rfl rfl (WL.pick (v := .bool true) rfl rfl rfl rfl rfl rfl (WL.move rfl rfl rfl (WL.skp rfl rfl (WL.skp rfl rfl (WL.skp rfl rfl (WL.skp rfl rfl ?_)))))))))
 refine WL.skp rfl rfl (WL.skp rfl rfl (WL.pick (v := .bool true) rfl rfl rfl rfl rfl rfl (WL.nil (N.seq (W.condT rfl (W.seq (W.region (WL.assign rfl rfl rfl (WL.nil ?_)))))))))
 refine N.seq ?_
 refine Fin.ret1 rfl (v := .bool false) rfl ?_
 have e : wants10 ds dn s i hr = false := by unfold wants10; simp [hg5p]
 rw [e]
 exact ⟨rfl, es, ck, hM.mono (by omega), hS.dropN 1⟩

end Go.Proofs.YtapjejjmhmdmdaaDoor
