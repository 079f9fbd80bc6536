/-
  Modules made one, as a plain function. No condition beyond those that each theorem states.
-/
import Derived.Test.YtapjejjmhmdmdaaDoorZ7
namespace Go.Proofs.YtapjejjmhmdmdaaDoor
open Go.RowKit

def bind10 (ks : List ByteArray) (s : ByteArray) : Int := if s = mainB ∨ s ∈ ks then 2 else 1
def wants10 (ds : List DDef) (done : ByteArray → Option Bool) (s : ByteArray) (i : Int) (here : Bool) : Bool :=
  decide ((fnd9 ds s).1.mod = i) && (!((fnd9 ds s).1.here != here) && !((done s).getD false))
structure S10 where
  fs : List DFunc
  gs : List DGlob
  done : ByteArray → Option Bool
def hereF (f : DFunc) : Bool := decide ((0 : Int) < (f.blocks.length : Int))
def defF (ks : List ByteArray) (f : DFunc) : DFunc := ⟨f.name, bind10 ks f.name, f.params, if f.blocks.length = 0 then nothing10 f.params else f.blocks⟩
def defG (ks : List ByteArray) (x : DGlob) : DGlob := ⟨x.name, bind10 ks x.name, true, x.init⟩
def renG (g : Ren) (x : DGlob) : DGlob := ⟨ren10 g x.name, x.bind, x.here, x.init⟩
def fun10 (ds : List DDef) (ks : List ByteArray) (i : Nat) (g : Ren) (s : S10) (f : DFunc) : S10 :=
  if f.bind = 1 then ⟨s.fs ++ [rename10 g f], s.gs, s.done⟩
  else if wants10 ds s.done f.name (i : Int) (hereF f) = true then ⟨s.fs ++ [rename10 g (defF ks f)], s.gs, updG s.done f.name true⟩ else s
def glob10 (ds : List DDef) (ks : List ByteArray) (i : Nat) (g : Ren) (s : S10) (x : DGlob) : S10 :=
  if x.bind = 1 then ⟨s.fs, s.gs ++ [renG g x], s.done⟩
  else if wants10 ds s.done x.name (i : Int) x.here = true then ⟨s.fs, s.gs ++ [renG g (defG ks x)], updG s.done x.name true⟩ else s
def mod10s (ds : List DDef) (ks : List ByteArray) (i : Nat) (g : Ren) (s : S10) (m : DMod) : S10 := m.globs.foldl (glob10 ds ks i g) (m.funcs.foldl (fun10 ds ks i g) s)
def out10 (ds : List DDef) (ks : List ByteArray) (l : List ((DMod × Ren) × Nat)) : S10 := l.foldl (fun s p => mod10s ds ks p.2 p.1.2 s p.1.1) ⟨[], [], fun _ => none⟩
def zip10 (ms : List DMod) (gs : List Ren) : List ((DMod × Ren) × Nat) := (ms.zip gs).zipIdx
def lost10 (ds : List DDef) (s : ByteArray) : Bool := !(fnd9 ds s).2 || !(fnd9 ds s).1.here
def merge10 (ms : List DMod) (ks : List ByteArray) : DMod × Int :=
  if (all9 (items9 ms)).2 = 0 then
    if ks.any (lost10 (all9 (items9 ms)).1) = true then (⟨[], []⟩, 8)
    else
      let o := out10 (all9 (items9 ms)).1 ks (zip10 ms (nam10 (nms9 (items9 ms)) ms).1)
      if 16 < o.fs.length ∨ 16 < o.gs.length then (⟨[], []⟩, 4) else (⟨o.fs, o.gs⟩, 0)
  else (⟨[], []⟩, (all9 (items9 ms)).2)
theorem zip10_at {ms : List DMod} {gs : List Ren} {i : Nat} {m : DMod} {g : Ren} (hm : ms[i]? = some m) (hg : gs[i]? = some g) : (zip10 ms gs)[i]? = some ((m, g), i) := by
  unfold zip10
  rw [List.getElem?_zipIdx, (List.getElem?_zip_eq_some (z := (m, g))).2 ⟨hm, hg⟩]; simp
theorem zip10_len {ms : List DMod} {gs : List Ren} (h : gs.length = ms.length) : (zip10 ms gs).length = ms.length := by simp [zip10, h]
theorem out10_next {ds : List DDef} {ks : List ByteArray} {l : List ((DMod × Ren) × Nat)} {i j : Nat} {m : DMod} {g : Ren} (h : l[i]? = some ((m, g), j)) :
    out10 ds ks (l.take (i + 1)) = mod10s ds ks j g (out10 ds ks (l.take i)) m := by
  unfold out10
  rw [take_next h, List.foldl_append]; rfl
theorem foldl_next {α β : Type} {f : β → α → β} {b : β} {l : List α} {k : Nat} {x : α} (h : l[k]? = some x) : (l.take (k + 1)).foldl f b = f ((l.take k).foldl f b) x := by
  rw [take_next h, List.foldl_append]; rfl
theorem fun10_len (ds : List DDef) (ks : List ByteArray) (i : Nat) (g : Ren) (s : S10) (f : DFunc) : (fun10 ds ks i g s f).fs.length + (fun10 ds ks i g s f).gs.length ≤ s.fs.length + s.gs.length + 1 := by
  unfold fun10; repeat' split
  all_goals first | omega | (simp only [List.length_append, List.length_cons, List.length_nil]; omega)
theorem glob10_len (ds : List DDef) (ks : List ByteArray) (i : Nat) (g : Ren) (s : S10) (f : DGlob) : (glob10 ds ks i g s f).fs.length + (glob10 ds ks i g s f).gs.length ≤ s.fs.length + s.gs.length + 1 := by
  unfold glob10; repeat' split
  all_goals first | omega | (simp only [List.length_append, List.length_cons, List.length_nil]; omega)
theorem foldF_len (ds : List DDef) (ks : List ByteArray) (i : Nat) (g : Ren) : ∀ (l : List DFunc) (s : S10), (l.foldl (fun10 ds ks i g) s).fs.length + (l.foldl (fun10 ds ks i g) s).gs.length ≤ s.fs.length + s.gs.length + l.length
  | [], s => by simp
  | x :: l, s => by
    have h1 := foldF_len ds ks i g l (fun10 ds ks i g s x)
    have h2 := fun10_len ds ks i g s x
    rw [List.foldl_cons, List.length_cons]; omega
theorem foldG_len (ds : List DDef) (ks : List ByteArray) (i : Nat) (g : Ren) : ∀ (l : List DGlob) (s : S10), (l.foldl (glob10 ds ks i g) s).fs.length + (l.foldl (glob10 ds ks i g) s).gs.length ≤ s.fs.length + s.gs.length + l.length
  | [], s => by simp
  | x :: l, s => by
    have h1 := foldG_len ds ks i g l (glob10 ds ks i g s x)
    have h2 := glob10_len ds ks i g s x
    rw [List.foldl_cons, List.length_cons]; omega
theorem out10_len (ds : List DDef) (ks : List ByteArray) (l : List ((DMod × Ren) × Nat)) : (out10 ds ks l).fs.length + (out10 ds ks l).gs.length ≤ (l.map fun p => p.1.1.funcs.length + p.1.1.globs.length).sum := by
  induction l using snoc_ind with
  | h0 => simp [out10]
  | h1 l x ih =>
    have e : out10 ds ks (l ++ [x]) = mod10s ds ks x.2 x.1.2 (out10 ds ks l) x.1.1 := by unfold out10; rw [List.foldl_append]; rfl
    have h1 := foldF_len ds ks x.2 x.1.2 x.1.1.funcs (out10 ds ks l)
    have h2 := foldG_len ds ks x.2 x.1.2 x.1.1.globs (x.1.1.funcs.foldl (fun10 ds ks x.2 x.1.2) (out10 ds ks l))
    rw [e, List.map_append, List.sum_append]
    unfold mod10s
    simp only [List.map_cons, List.map_nil, List.sum_cons, List.sum_nil]; omega
theorem zip10_sum {ms : List DMod} {gs : List Ren} (hit : ∀ m ∈ ms, (its10 m).length ≤ 32) (i : Nat) : (((zip10 ms gs).take i).map fun p => p.1.1.funcs.length + p.1.1.globs.length).sum ≤ i * 32 := by
  have key : ∀ l : List ((DMod × Ren) × Nat), (∀ p ∈ l, p.1.1.funcs.length + p.1.1.globs.length ≤ 32) → (l.map fun p => p.1.1.funcs.length + p.1.1.globs.length).sum ≤ l.length * 32 := by
    intro l
    induction l with
    | nil => intro _; simp
    | cons x l ih =>
      intro h
      have h1 := h x List.mem_cons_self
      have h2 := ih fun p hp => h p (List.mem_cons_of_mem _ hp)
      rw [List.map_cons, List.sum_cons, List.length_cons]; omega
  have h1 := key ((zip10 ms gs).take i) fun p hp => by
    have h2 := List.mem_of_mem_take hp
    unfold zip10 at h2
    have h3 := List.fst_mem_of_mem_zipIdx h2
    have h4 := hit p.1.1 (List.of_mem_zip h3).1
    rw [its_len] at h4; exact h4
  have h2 := List.length_take_le i (zip10 ms gs)
  omega
end Go.Proofs.YtapjejjmhmdmdaaDoor
