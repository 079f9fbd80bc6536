/-
  Contracts of layer 13 (trim). No condition beyond those that each theorem states.
-/
import Derived.Test.YtdlcmhkfglckfaaU8
import Derived.Test.YtdlcmhkfglckfaaL2
import Derived.Test.YtdlcmhkfglckfaaA16
namespace Go.Proofs.Ytdlcmhkfglckfaa
open Go.RowKit
theorem byt_24 : (Try.prog.info? 24).map (·.bytes) = some 56 := by kernel_rfl
theorem siz_43 : tySize Try.prog 43 1 = true := by kernel_rfl
theorem siz_46 : tySize Try.prog 46 2 = true := by kernel_rfl
theorem zer_46 : tyZero Try.prog 46 = some [.slice none 0 0, .slice none 0 0] := by kernel_rfl
theorem cloneFunc_ret {α : Type} {Q : List Value → α → Prop} (ad : Option Addr) (cap : Nat) (xs : List α) {w : World} {ro : Nat → Prop} (hro : ∀ b, ro b → b < w.heap.size) (hel : Elems ro w 4 Q ad xs) (hcap : xs.length ≤ cap) (hnil : ad = none → cap = 0) (hone : ∀ c x, Q c x → ∀ u ∈ c, u.oneCell' = true) (hmx : xs.length ≤ maxLen) (hby : xs.length * 56 ≤ 140737488355328) : Ret Try.prog 38 #[.slice ad xs.length cap] w fun v w' => ∃ cs, w'.ownsRow w.heap.size 24 4 v xs.length cs ∧ Chunks 4 Q cs xs ∧ Below w.heap.size w w' := by
 refine Ret.enter (P := Try.prog) (n := 8) (args := [.slice ad xs.length cap]) (σ := [(0, .slice ad xs.length cap)]) Try.func38 rfl rfl rfl rfl ?_
 have hS := St.start (ro := ro) hro
 obtain ⟨news, hch, hnw, hsp⟩ := elems_news hel
 refine W.seq (W.region (WL.assign rfl rfl rfl (WL.nil (N.seq (W.seq (W.seq (W.region (WL.move rfl rfl rfl ?_))))))))
 refine WL.eqNil Try.underlying43 rfl rfl rfl rfl ?_
 refine WL.nil (N.seq ?_)
 refine W.cond rfl (fun hc1 => ?_) (fun hc1 => ?_)
 ·
  refine W.seq (W.region (WL.assign rfl rfl rfl (WL.nil (N.seq ?_))))
  refine Fin.ret1 rfl (v := .slice none 0 0) rfl ?_
  have hx0 : xs = [] := by
    cases ad with
    | none => exact List.eq_nil_of_length_eq_zero (by have := hnil rfl; omega)
    | some a => simp at hc1
  subst hx0
  exact ⟨[], World.ownsRow_nil _ _ _ _, Chunks.nil, hS.below⟩
 refine W.skip (N.seq (W.seq (W.region ?_)))
 refine WL.buildSlice0 Try.underlying43 isz_24 rfl rfl hS ?_
 clear hS; intro w3 b2 hS
 refine WL.move rfl rfl rfl ?_
 refine WL.appendRo (r := ⟨.slice (some ⟨b2, 0, none⟩) 0 0, 24, 4, 0, []⟩) (news := news) 56 Try.underlying43 (tyZero_spec zer_24) byt_24 rfl rfl rfl rfl rfl hch.1 (fun e => ⟨by have := hnil e; omega, hnil e⟩) ?_ hsp (chunks_all hch (by decide) hone) rfl rfl hS (by simp only; omega) (by simp only; omega) ?_
 ·
  intro b off e
  by_cases hn0 : news = []
  ·
   subst hn0; intro j v hj; simp at hj
  exact hS.roCells ((hnw b off e).2 hn0) (hnw b off e).1
 clear hS; intro w4 v5 hS hnn
 refine WL.assign rfl rfl rfl (WL.nil (N.seq ?_))
 refine Fin.ret1 rfl (v := v5) rfl ?_
 refine ⟨news, ?_, hch, hS.below⟩
 have := hS.rows _ List.mem_cons_self
 simpa using this

/-- Row by row: what has been gone through is new, the rest as it was. -/
def mixL {α : Type} (k : Nat) (a b : List α) : List α := a.take k ++ b.drop k
theorem mix_set {α : Type} {k : Nat} {a b : List α} {x : α} (hl : a.length = b.length) (hk : k < b.length) (hx : a[k]? = some x) : (mixL k a b).set k x = mixL (k + 1) a b := by
  apply List.ext_getElem?
  intro j
  unfold mixL
  rw [List.getElem?_set]
  simp only [List.length_append, List.length_take, List.length_drop, List.getElem?_append, List.getElem?_take, List.getElem?_drop]
  repeat' split
  all_goals first | omega | (subst_vars; first | exact hx.symm | omega) | (congr 1; omega) | rfl | skip
theorem mix_full {α : Type} {a b : List α} (hl : a.length = b.length) : mixL b.length a b = a := by
  unfold mixL; rw [List.drop_length, List.append_nil, ← hl, List.take_length]
theorem mix_length {α : Type} {k : Nat} {a b : List α} (hl : a.length = b.length) (hk : k ≤ b.length) : (mixL k a b).length = b.length := by
  unfold mixL; rw [List.length_append, List.length_take, List.length_drop]; omega
theorem mix_at {α : Type} {k : Nat} {a b : List α} (hl : a.length = b.length) (hk : k < b.length) : (mixL k a b)[k]? = b[k]? := by
  unfold mixL
  rw [List.getElem?_append_right (by rw [List.length_take]; omega), List.getElem?_drop]
  congr 1
  rw [List.length_take]; omega
theorem stays_func {R : Nat → Prop} {B : Nat} {x : DFunc} : Stays fun v u => ∃ cs, v = .agg cs.toArray ∧ FuncC (fun b => (R b ∨ B ≤ b) ∧ b < u.heap.size) u cs x := fun _ _ _ ⟨cs, e, h⟩ hb =>
  ⟨cs, e, h.keep fun b hr => ⟨⟨hr.1, Nat.lt_of_lt_of_le hr.2 hb.size⟩, hb.block b hr.2⟩⟩

end Go.Proofs.Ytdlcmhkfglckfaa

namespace Go.Proofs.Ytdlcmhkfglckfaa
open Go.RowKit

end Go.Proofs.Ytdlcmhkfglckfaa
