/-
  What is right is small, and names each thing once: plain facts. No condition beyond those that each theorem states.
-/
import Derived.Test.YtapjejjmhmdmdaaDoorZ0
import Derived.Test.YtapjejjmhmdmdaaDoorZ3
import Derived.Test.YtapjejjmhmdmdaaDoorA25
namespace Go.Proofs.YtapjejjmhmdmdaaDoor
open Go.RowKit

theorem its_small {m : DMod} (h : check5 m = 0) : (its10 m).length ≤ 32 := by
  obtain ⟨h1, h2, _⟩ := check5_all h
  rw [its_len]; omega
theorem items_few {ms : List DMod} (h : ∀ m ∈ ms, check5 m = 0) (hl : ms.length ≤ 16) : (items9 ms).length ≤ 512 := by
  have h1 := itemsFrom_len ms 0
  have key : ∀ l : List DMod, (∀ m ∈ l, check5 m = 0) → (l.map fun m => m.funcs.length + m.globs.length).sum ≤ l.length * 32 := by
    intro l
    induction l with
    | nil => intro _; simp
    | cons x l ih =>
      intro hx
      have h2 := its_small (hx x List.mem_cons_self)
      rw [its_len] at h2
      have h3 := ih fun m hm => hx m (List.mem_cons_of_mem _ hm)
      rw [List.map_cons, List.sum_cons, List.length_cons]; omega
  have h2 := key ms h
  unfold items9; omega
theorem dot10_3 : dot10 3 = ⟨#[46, 51]⟩ := by
  have e : Lib.itoa ((3 : Nat) : Int) = [51] := by rw [itoa_nat, Lib.decDigits, dif_pos (by omega)]; rfl
  apply ByteArray.ext
  unfold dot10; rw [e, ByteArray.data_append]; rfl
theorem dot10_4 : dot10 4 = ⟨#[46, 52]⟩ := by
  have e : Lib.itoa ((4 : Nat) : Int) = [52] := by rw [itoa_nat, Lib.decDigits, dif_pos (by omega)]; rfl
  apply ByteArray.ext
  unfold dot10; rw [e, ByteArray.data_append]; rfl
theorem loc10_3 : loc10 [⟨#[46, 51]⟩] 3 = 4 := by
  show locF [⟨#[46, 51]⟩] 1 3 = 4
  rw [locF, if_pos (by rw [dot10_3]; exact List.mem_singleton.2 rfl)]; rfl
end Go.Proofs.YtapjejjmhmdmdaaDoor

namespace Go.Proofs.YtapjejjmhmdmdaaDoor
open Go.RowKit

theorem chunk1 {α : Type} {sz : Nat} {Q : List Value → α → Prop} {cs : List Value} {x : α} (hl : cs.length = sz) (hq : Q cs x) : Chunks sz Q cs [x] := by simpa using Chunks.snoc Chunks.nil hl hq

theorem right10_ret (ms : List DMod) (vx : Value) {w : World} {ro : Nat → Prop} (hro : ∀ b, ro b → b < w.heap.size) (hx : SlV ro w 2 (ModC ro w) vx ms) (hokm : ∀ m ∈ ms, okMod m) : Ret Tryd.prog 10 #[vx] w fun v w' => v = .bool (ms.all fun m => decide (check5 m = 0)) ∧ Below w.heap.size w w' := by
 have hxo := hx
 obtain ⟨adl, capl, rfl, hla, hlb, hlc, hld⟩ := hxo
 have hlm : ms.length ≤ 9223372036854775807 := slv_len hx
 refine Ret.enter (P := Tryd.prog) (n := 16) (args := [.slice adl ms.length capl]) (σ := [(0, .slice adl ms.length capl)]) Tryd.func10 rfl rfl rfl rfl ?_
 have hS := St.start (ro := ro) hro
 refine W.seq (W.region (WL.assign rfl rfl rfl (WL.nil (N.seq (W.seq (W.seq (W.region (WL.assign rfl rfl rfl (WL.nil ?_)))))))))
 refine N.seq (W.block ?_)
 refine W.loop (α := Nat) (fun (k : Nat) => [(0, .slice adl ms.length capl), (3, .int .i64 (k : Int))]) (fun (k : Nat) u => St w w u ro [] [] ∧ k ≤ ms.length ∧ ((ms.take k).all fun m => decide (check5 m = 0)) = true) (fun (k : Nat) => ms.length - k) 0 ⟨rfl, rfl, trivial⟩ ⟨hS, Nat.zero_le _, rfl⟩ ?_
 clear hS
 rintro k w1 ⟨hS, hk, hb⟩
 refine W.seq (W.seq (W.region (WL.move rfl rfl rfl (WL.move rfl rfl rfl (WL.lenSlice Tryd.underlying22 rfl rfl rfl (WL.bin rfl rfl rfl rfl rfl (WL.nil (N.seq ?_))))))))
 refine W.cond rfl (fun hc2 => ?_) (fun hc2 => ?_)
 ·
  have hc2p : (k : Int) < (ms.length : Int) := by simpa using hc2
  refine W.skip (N.seq (W.seq (W.block (W.seq (W.region (WL.move rfl rfl rfl (WL.move rfl rfl rfl ?_)))))))
  have hj3 : k < ms.length := by omega
  obtain ⟨x3, hx3⟩ : ∃ zz, ms[k]? = some zz := ⟨_, List.getElem?_eq_getElem hj3⟩
  obtain ⟨b3, o3, cs3, hE3, hr3, hl3, hc3, hQ3⟩ := hld k _ hx3
  obtain ⟨sf3, sg3, rfl, hfs3, hgs3⟩ := id hQ3
  obtain ⟨adf3, capf3, rfl, hfs3a, hfs3b, hfs3c, hfs3d⟩ := id hfs3
  have hfs3m : x3.funcs.length ≤ 9223372036854775807 := by have h1 := hfs3a; have h2 := hfs3b; unfold maxLen at h2; omega
  obtain ⟨adg3, capg3, rfl, hgs3a, hgs3b, hgs3c, hgs3d⟩ := id hgs3
  have hgs3m : x3.globs.length ≤ 9223372036854775807 := by have h1 := hgs3a; have h2 := hgs3b; unfold maxLen at h2; omega
  refine WL.indexAddrE (j := k) Tryd.underlying22 isz_32 rfl rfl rfl rfl hj3 hE3 (WL.loadN (cs := [.slice adf3 x3.funcs.length capf3, .slice adg3 x3.globs.length capg3]) agg_32 rfl rfl rfl rfl (hS.roCells hr3 hc3) ?_)
  refine WL.callF (vs := [.agg #[.slice adf3 x3.funcs.length capf3, .slice adg3 x3.globs.length capg3]]) Tryd.func22 (by kernel_rfl) rfl rfl rfl (check5_ret x3 _ (ro := ro) (fun b hb => (hS.snap b hb).1) (ModC.keep hQ3 hS.alike) (hokm _ (List.mem_of_getElem? hx3))) ?_
  rintro v w4 ⟨rfl, hbl⟩
  replace hS := hS.grow hbl
  refine WL.bin rfl rfl rfl rfl rfl (WL.nil (N.seq ?_))
  refine W.cond rfl (fun hc5 => ?_) (fun hc5 => ?_)
  ·
   have hc5p : ¬ (check5 x3 = 0) := by simpa using hc5
   refine W.seq (W.region (WL.assign rfl rfl rfl (WL.nil (N.seq ?_))))
   refine Fin.ret1 rfl (v := .bool false) rfl ?_
   have e : (ms.all fun m => decide (check5 m = 0)) = false := by rw [List.all_eq_false]; exact ⟨x3, List.mem_of_getElem? hx3, by simpa using hc5p⟩
   exact ⟨by rw [e], hS.below⟩
  have hc5p : check5 x3 = 0 := by simpa using hc5
  refine W.skip (N.blk (N.seq (W.region (WL.move rfl rfl rfl ?_))))
  refine WL.add (c := (k : Int) + 1) rfl rfl rfl rfl (rfl) (by omega) ?_
  refine WL.assign rfl rfl rfl (WL.nil ?_)
  have hb2 : ((ms.take (k + 1)).all fun m => decide (check5 m = 0)) = true := by rw [take_next hx3, List.all_append, hb]; simpa using hc5p
  exact N.loop (k + 1) ⟨rfl, rfl, trivial⟩ ⟨hS, by omega, hb2⟩ (by first | omega | (simp only; omega))
 have hc2p : ¬ ((k : Int) < (ms.length : Int)) := by simpa using hc2
 refine W.exit (X.seq (X.loop (X.blk (N.seq (W.seq (W.region (WL.assign rfl rfl rfl (WL.nil (N.seq ?_)))))))))
 refine Fin.ret1 rfl (v := .bool true) rfl ?_
 have e : k = ms.length := by omega
 subst e
 rw [List.take_length] at hb
 exact ⟨by rw [hb], hS.below⟩

theorem shown10_ret {w : World} {ro : Nat → Prop} (hro : ∀ b, ro b → b < w.heap.size) (hpw : PowT ro w) : Ret Tryd.prog 9 #[] w fun v w' => v = .bool true ∧ Below w.heap.size w w' := by
 refine Ret.enter (P := Tryd.prog) (n := 14) (args := []) (σ := []) Tryd.func9 rfl rfl rfl rfl ?_
 have hS := St.start (ro := ro) hro
 refine W.seq (W.region (WL.assign rfl rfl rfl (WL.nil (N.seq (W.seq (W.region ?_))))))
 refine WL.buildSlice (ps := [(0, .string ⟨#[46, 51]⟩)]) (cs := [.string ⟨#[46, 51]⟩]) Tryd.underlying25 (tyZero_spec zer_9) rfl rfl rfl rfl (by kernel_rfl) hS ?_
 clear hS; intro w2 b1 hb_b1 hS
 have hall : Alike ro w (fun z => z < w2.heap.size) w2 := fun z hz => ⟨(hS.snap z hz).1, (hS.snap z hz).2⟩
 have hlb : b1 < w2.heap.size := (hS.keys b1 (by simp [keysOf])).2.1
 have hsl : SlV (fun z => z < w2.heap.size) w2 1 StrC (.slice (some ⟨b1, 0, none⟩) 1 1) [⟨#[46, 51]⟩] := slv_blk (cs := [.string ⟨#[46, 51]⟩]) (hS.own _ (List.mem_of_getElem? (i := 0) rfl)) rfl (chunk1 rfl ⟨rfl, by decide⟩) hlb rfl (by decide)
 refine WL.callF (vs := [.int .i64 3, .slice (some ⟨b1, 0, none⟩) 1 1]) Tryd.func21 (by kernel_rfl) rfl rfl rfl (local_ret 3 _ _ (ro := fun z => z < w2.heap.size) (fun _ h => h) hsl (hpw.keep hall) (by decide)) ?_
 rintro v w3 ⟨rfl, hbl⟩
 replace hS := hS.grow hbl
 refine WL.set 5 (v' := .tuple #[.string ⟨#[46, 52]⟩, .int .i64 5]) rfl (by rw [loc10_3, dot10_4]; rfl) ?_
 refine WL.move rfl rfl rfl (WL.extract (v := .string ⟨#[46, 52]⟩) rfl rfl rfl rfl (WL.extract (v := .int .i64 5) rfl rfl rfl rfl (WL.assign rfl rfl rfl (WL.assign rfl rfl rfl (WL.nil (N.seq (W.seq (W.region (WL.move rfl rfl rfl ?_)))))))))
 refine WL.eqStr rfl rfl rfl rfl ?_
 refine WL.set 9 (v' := .bool true) rfl (congrArg Value.bool (decide_eq_true rfl)) ?_
 refine WL.move rfl rfl rfl (WL.move rfl rfl rfl (WL.bin rfl rfl rfl rfl rfl ?_))
 refine WL.set 12 (v' := .bool true) rfl rfl ?_
 refine WL.pick (v := .bool true) rfl rfl rfl rfl rfl rfl (WL.assign rfl rfl rfl (WL.nil (N.seq ?_)))
 refine Fin.ret1 rfl (v := .bool true) rfl ?_
 exact ⟨rfl, hS.below⟩

end Go.Proofs.YtapjejjmhmdmdaaDoor

namespace Go.Proofs.YtapjejjmhmdmdaaDoor
open Go.RowKit

/-- Row by row: what has been gone through is new, the rest as it was. -/
def mixL {α : Type} (k : Nat) (a b : List α) : List α := a.take k ++ b.drop k
theorem mix_set {α : Type} {k : Nat} {a b : List α} {x : α} (hl : a.length = b.length) (hk : k < b.length) (hx : a[k]? = some x) : (mixL k a b).set k x = mixL (k + 1) a b := by
  apply List.ext_getElem?
  intro j
  unfold mixL
  rw [List.getElem?_set]
  simp only [List.length_append, List.length_take, List.length_drop, List.getElem?_append, List.getElem?_take, List.getElem?_drop]
  repeat' split
  all_goals first | omega | (subst_vars; first | exact hx.symm | omega) | (congr 1; omega) | rfl | skip
theorem mix_full {α : Type} {a b : List α} (hl : a.length = b.length) : mixL b.length a b = a := by
  unfold mixL; rw [List.drop_length, List.append_nil, ← hl, List.take_length]
theorem mix_length {α : Type} {k : Nat} {a b : List α} (hl : a.length = b.length) (hk : k ≤ b.length) : (mixL k a b).length = b.length := by
  unfold mixL; rw [List.length_append, List.length_take, List.length_drop]; omega
theorem mix_at {α : Type} {k : Nat} {a b : List α} (hl : a.length = b.length) (hk : k < b.length) : (mixL k a b)[k]? = b[k]? := by
  unfold mixL
  rw [List.getElem?_append_right (by rw [List.length_take]; omega), List.getElem?_drop]
  congr 1
  rw [List.length_take]; omega
theorem mix_same {α : Type} {k : Nat} {a b : List α} {x : α} (hl : a.length = b.length) (hk : k < b.length) (hx : a[k]? = some x) (hy : b[k]? = some x) : mixL k a b = mixL (k + 1) a b := by
  apply List.ext_getElem?
  intro j
  unfold mixL
  simp only [List.length_take, List.getElem?_append, List.getElem?_take, List.getElem?_drop]
  by_cases hj : j = k
  · subst hj
    rw [if_neg (by omega), if_pos (by omega), if_pos (by omega), hx]
    rw [show j + (j - min j a.length) = j by omega]
    exact hy
  · repeat' split
    all_goals first | omega | rfl | (congr 1; omega) | skip
theorem stays_func {R : Nat → Prop} {B : Nat} {x : DFunc} : Stays fun v u => ∃ cs, v = .agg cs.toArray ∧ FuncC (fun b => (R b ∨ B ≤ b) ∧ b < u.heap.size) u cs x := fun _ _ _ ⟨cs, e, h⟩ hb =>
  ⟨cs, e, h.keep fun b hr => ⟨⟨hr.1, Nat.lt_of_lt_of_le hr.2 hb.size⟩, hb.block b hr.2⟩⟩
theorem take_setCell {cs : List Value} {i sz c : Nat} {v : Value} (hl : i * sz + sz ≤ cs.length) (hc : c < sz) : ((cs.take (0 + i * sz + c) ++ [v] ++ cs.drop (0 + i * sz + c + 1)).drop (i * sz)).take sz = ((cs.drop (i * sz)).take sz).set c v := by
  apply List.ext_getElem?
  intro j
  simp only [Nat.zero_add, List.getElem?_take, List.getElem?_drop, List.getElem?_append, List.length_append, List.length_take, List.length_cons, List.length_nil, List.getElem?_set, List.length_drop]
  by_cases h1 : j < sz
  · rw [if_pos h1]
    by_cases h2 : j < c
    · rw [if_pos (by omega), if_pos (by omega), if_pos (by omega), if_neg (by omega), if_pos h1]
    · by_cases h3 : j = c
      · subst h3
        rw [if_pos (by omega), if_neg (by omega), if_pos rfl, if_pos (by omega)]
        simp [show i * sz + j - min (i * sz + j) cs.length = 0 by omega]
      · rw [if_neg (by omega), if_neg (by omega), if_pos h1]
        congr 1; omega
  · rw [if_neg h1, if_neg (by omega), if_neg h1]
def ren10 (g : Ren) (s : ByteArray) : ByteArray := (g s).getD s
def renI (g : Ren) (x : DInst) : DInst := if x.name = ⟨#[]⟩ then x else ⟨x.op, x.a, x.b, x.k, ren10 g x.name, x.args⟩
def renB (g : Ren) (b : DBlock) : DBlock := ⟨b.params, b.ins.map (renI g), b.fin⟩
def rename10 (g : Ren) (f : DFunc) : DFunc := ⟨ren10 g f.name, f.bind, f.params, f.blocks.map (renB g)⟩
theorem ren10_size {g : Ren} (h : ∀ s v, g s = some v → v.size ≤ maxLen) {s : ByteArray} (hs : s.size ≤ maxLen) : (ren10 g s).size ≤ maxLen := by
  unfold ren10
  cases e : g s with
  | none => exact hs
  | some v => exact h s v e
end Go.Proofs.YtapjejjmhmdmdaaDoor
