/-
  What is right is small, and names each thing once: plain facts. No condition beyond those that each theorem states.
-/
import Derived.Test.YtapjejjmhmdmdaaDoorP2
import Derived.Test.YtapjejjmhmdmdaaDoorA27
namespace Go.Proofs.YtapjejjmhmdmdaaDoor
open Go.RowKit

theorem its_small {m : DMod} (h : check5 m = 0) : (its10 m).length ≤ 32 := by
  obtain ⟨h1, h2, _⟩ := check5_all h
  rw [its_len]; omega
theorem its_once {m : DMod} (h : check5 m = 0) : Once10 (its10 m) := by
  obtain ⟨_, _, _, _, h5, _⟩ := check5_all h
  unfold Once10
  have e : (its10 m).map (·.1) = names5 m := by simp [its10, names5, fnames, gnames, Function.comp_def]
  rw [e]; exact h5
theorem items_few {ms : List DMod} (h : ∀ m ∈ ms, check5 m = 0) (hl : ms.length ≤ 16) : (items9 ms).length ≤ 512 := by
  have h1 := itemsFrom_len ms 0
  have key : ∀ l : List DMod, (∀ m ∈ l, check5 m = 0) → (l.map fun m => m.funcs.length + m.globs.length).sum ≤ l.length * 32 := by
    intro l
    induction l with
    | nil => intro _; simp
    | cons x l ih =>
      intro hx
      have h2 := its_small (hx x List.mem_cons_self)
      rw [its_len] at h2
      have h3 := ih fun m hm => hx m (List.mem_cons_of_mem _ hm)
      rw [List.map_cons, List.sum_cons, List.length_cons]; omega
  have h2 := key ms h
  unfold items9; omega
theorem dot10_3 : dot10 3 = ⟨#[46, 51]⟩ := by
  have e : Lib.itoa ((3 : Nat) : Int) = [51] := by rw [itoa_nat, Lib.decDigits, dif_pos (by omega)]; rfl
  apply ByteArray.ext
  unfold dot10; rw [e, ByteArray.data_append]; rfl
theorem dot10_4 : dot10 4 = ⟨#[46, 52]⟩ := by
  have e : Lib.itoa ((4 : Nat) : Int) = [52] := by rw [itoa_nat, Lib.decDigits, dif_pos (by omega)]; rfl
  apply ByteArray.ext
  unfold dot10; rw [e, ByteArray.data_append]; rfl
theorem loc10_3 : loc10 [⟨#[46, 51]⟩] 3 = 4 := by
  show locF [⟨#[46, 51]⟩] 1 3 = 4
  rw [locF, if_pos (by rw [dot10_3]; exact List.mem_singleton.2 rfl)]; rfl
end Go.Proofs.YtapjejjmhmdmdaaDoor

namespace Go.Proofs.YtapjejjmhmdmdaaDoor
open Go.RowKit

/-- Row by row: what has been gone through is new, the rest as it was. -/
def mixL {α : Type} (k : Nat) (a b : List α) : List α := a.take k ++ b.drop k
theorem mix_set {α : Type} {k : Nat} {a b : List α} {x : α} (hl : a.length = b.length) (hk : k < b.length) (hx : a[k]? = some x) : (mixL k a b).set k x = mixL (k + 1) a b := by
  apply List.ext_getElem?
  intro j
  unfold mixL
  rw [List.getElem?_set]
  simp only [List.length_append, List.length_take, List.length_drop, List.getElem?_append, List.getElem?_take, List.getElem?_drop]
  repeat' split
  all_goals first | omega | (subst_vars; first | exact hx.symm | omega) | (congr 1; omega) | rfl | skip
theorem mix_full {α : Type} {a b : List α} (hl : a.length = b.length) : mixL b.length a b = a := by
  unfold mixL; rw [List.drop_length, List.append_nil, ← hl, List.take_length]
theorem mix_length {α : Type} {k : Nat} {a b : List α} (hl : a.length = b.length) (hk : k ≤ b.length) : (mixL k a b).length = b.length := by
  unfold mixL; rw [List.length_append, List.length_take, List.length_drop]; omega
theorem mix_at {α : Type} {k : Nat} {a b : List α} (hl : a.length = b.length) (hk : k < b.length) : (mixL k a b)[k]? = b[k]? := by
  unfold mixL
  rw [List.getElem?_append_right (by rw [List.length_take]; omega), List.getElem?_drop]
  congr 1
  rw [List.length_take]; omega
theorem mix_same {α : Type} {k : Nat} {a b : List α} {x : α} (hl : a.length = b.length) (hk : k < b.length) (hx : a[k]? = some x) (hy : b[k]? = some x) : mixL k a b = mixL (k + 1) a b := by
  apply List.ext_getElem?
  intro j
  unfold mixL
  simp only [List.length_take, List.getElem?_append, List.getElem?_take, List.getElem?_drop]
  by_cases hj : j = k
  · subst hj
    rw [if_neg (by omega), if_pos (by omega), if_pos (by omega), hx]
    rw [show j + (j - min j a.length) = j by omega]
    exact hy
  · repeat' split
    all_goals first | omega | rfl | (congr 1; omega) | skip
theorem stays_func {R : Nat → Prop} {B : Nat} {x : DFunc} : Stays fun v u => ∃ cs, v = .agg cs.toArray ∧ FuncC (fun b => (R b ∨ B ≤ b) ∧ b < u.heap.size) u cs x := fun _ _ _ ⟨cs, e, h⟩ hb =>
  ⟨cs, e, h.keep fun b hr => ⟨⟨hr.1, Nat.lt_of_lt_of_le hr.2 hb.size⟩, hb.block b hr.2⟩⟩
theorem take_setCell {cs : List Value} {i sz c : Nat} {v : Value} (hl : i * sz + sz ≤ cs.length) (hc : c < sz) : ((cs.take (0 + i * sz + c) ++ [v] ++ cs.drop (0 + i * sz + c + 1)).drop (i * sz)).take sz = ((cs.drop (i * sz)).take sz).set c v := by
  apply List.ext_getElem?
  intro j
  simp only [Nat.zero_add, List.getElem?_take, List.getElem?_drop, List.getElem?_append, List.length_append, List.length_take, List.length_cons, List.length_nil, List.getElem?_set, List.length_drop]
  by_cases h1 : j < sz
  · rw [if_pos h1]
    by_cases h2 : j < c
    · rw [if_pos (by omega), if_pos (by omega), if_pos (by omega), if_neg (by omega), if_pos h1]
    · by_cases h3 : j = c
      · subst h3
        rw [if_pos (by omega), if_neg (by omega), if_pos rfl, if_pos (by omega)]
        simp [show i * sz + j - min (i * sz + j) cs.length = 0 by omega]
      · rw [if_neg (by omega), if_neg (by omega), if_pos h1]
        congr 1; omega
  · rw [if_neg h1, if_neg (by omega), if_neg h1]
def ren10 (g : Ren) (s : ByteArray) : ByteArray := (g s).getD s
def renI (g : Ren) (x : DInst) : DInst := if x.name = ⟨#[]⟩ then x else ⟨x.op, x.a, x.b, x.k, ren10 g x.name, x.args⟩
def renB (g : Ren) (b : DBlock) : DBlock := ⟨b.params, b.ins.map (renI g), b.fin⟩
def rename10 (g : Ren) (f : DFunc) : DFunc := ⟨ren10 g f.name, f.bind, f.params, f.blocks.map (renB g)⟩
theorem ren10_size {g : Ren} (h : ∀ s v, g s = some v → v.size ≤ maxLen) {s : ByteArray} (hs : s.size ≤ maxLen) : (ren10 g s).size ≤ maxLen := by
  unfold ren10
  cases e : g s with
  | none => exact hs
  | some v => exact h s v e
end Go.Proofs.YtapjejjmhmdmdaaDoor
