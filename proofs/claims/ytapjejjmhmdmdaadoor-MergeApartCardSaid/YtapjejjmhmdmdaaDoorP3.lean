/-
  What is right is small, and names each thing once: plain facts. No condition beyond those that each theorem states.
-/
import Derived.Test.YtapjejjmhmdmdaaDoorP2
namespace Go.Proofs.YtapjejjmhmdmdaaDoor
open Go.RowKit

theorem its_small {m : DMod} (h : check5 m = 0) : (its10 m).length ≤ 32 := by
  obtain ⟨h1, h2, _⟩ := check5_all h
  rw [its_len]; omega
theorem its_once {m : DMod} (h : check5 m = 0) : Once10 (its10 m) := by
  obtain ⟨_, _, _, _, h5, _⟩ := check5_all h
  unfold Once10
  have e : (its10 m).map (·.1) = names5 m := by simp [its10, names5, fnames, gnames, Function.comp_def]
  rw [e]; exact h5
theorem items_few {ms : List DMod} (h : ∀ m ∈ ms, check5 m = 0) (hl : ms.length ≤ 16) : (items9 ms).length ≤ 512 := by
  have h1 := itemsFrom_len ms 0
  have key : ∀ l : List DMod, (∀ m ∈ l, check5 m = 0) → (l.map fun m => m.funcs.length + m.globs.length).sum ≤ l.length * 32 := by
    intro l
    induction l with
    | nil => intro _; simp
    | cons x l ih =>
      intro hx
      have h2 := its_small (hx x List.mem_cons_self)
      rw [its_len] at h2
      have h3 := ih fun m hm => hx m (List.mem_cons_of_mem _ hm)
      rw [List.map_cons, List.sum_cons, List.length_cons]; omega
  have h2 := key ms h
  unfold items9; omega
theorem dot10_3 : dot10 3 = ⟨#[46, 51]⟩ := by
  have e : Lib.itoa ((3 : Nat) : Int) = [51] := by rw [itoa_nat, Lib.decDigits, dif_pos (by omega)]; rfl
  apply ByteArray.ext
  unfold dot10; rw [e, ByteArray.data_append]; rfl
theorem dot10_4 : dot10 4 = ⟨#[46, 52]⟩ := by
  have e : Lib.itoa ((4 : Nat) : Int) = [52] := by rw [itoa_nat, Lib.decDigits, dif_pos (by omega)]; rfl
  apply ByteArray.ext
  unfold dot10; rw [e, ByteArray.data_append]; rfl
theorem loc10_3 : loc10 [⟨#[46, 51]⟩] 3 = 4 := by
  show locF [⟨#[46, 51]⟩] 1 3 = 4
  rw [locF, if_pos (by rw [dot10_3]; exact List.mem_singleton.2 rfl)]; rfl
end Go.Proofs.YtapjejjmhmdmdaaDoor
