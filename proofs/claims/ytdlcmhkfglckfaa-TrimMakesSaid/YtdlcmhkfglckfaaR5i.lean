/-
  Contracts of what is right (marlineref05). No condition beyond those that each theorem states.
-/
import Derived.Test.YtdlcmhkfglckfaaR5d
namespace Go.Proofs.Ytdlcmhkfglckfaa
open Go.RowKit
theorem fo_46_0 : fOff Try.prog 46 0 0 = true := by kernel_rfl
theorem fo_46_1 : fOff Try.prog 46 1 1 = true := by kernel_rfl
theorem isz_24 : (Try.prog.info? 24).map (·.size) = some 4 := by kernel_rfl
theorem isz_71 : (Try.prog.info? 71).map (·.size) = some 4 := by kernel_rfl
theorem one_43 : tyOne Try.prog 43 = true := by kernel_rfl
theorem one_44 : tyOne Try.prog 44 = true := by kernel_rfl
def findN : Nat → List ByteArray → ByteArray → Int
  | _, [], _ => -1
  | i, n :: r, s => if n = s then (i : Int) else findN (i + 1) r s
def find5 (l : List ByteArray) (s : ByteArray) : Int := findN 0 l s
def fnames (m : DMod) : List ByteArray := m.funcs.map (·.name)
def gnames (m : DMod) : List ByteArray := m.globs.map (·.name)
end Go.Proofs.Ytdlcmhkfglckfaa

namespace Go.Proofs.Ytdlcmhkfglckfaa
open Go.RowKit
end Go.Proofs.Ytdlcmhkfglckfaa

namespace Go.Proofs.Ytdlcmhkfglckfaa
open Go.RowKit
theorem agg_46 : tyAgg Try.prog 46 2 = true := by kernel_rfl
theorem agg_71 : tyAgg Try.prog 71 4 = true := by kernel_rfl
theorem one_4 : tyOne Try.prog 4 = true := by kernel_rfl
theorem siz_36 : tySize Try.prog 36 6 = true := by kernel_rfl
theorem zer_36 : tyZero Try.prog 36 = some [.int .i64 0, .int .i64 0, .int .i64 0, .int .u64 0, .string ⟨#[]⟩, .slice none 0 0] := by kernel_rfl
def bad5 (m : DMod) (x : DInst) : Bool := (decide (x.op = 14) && decide (find5 (fnames m) x.name < 0)) || ((decide (x.op = 12) || decide (x.op = 13)) && decide (find5 (gnames m) x.name < 0))
def odd5 (m : DMod) (x : DInst) : Bool := decide (x.op = 14) && (match m.funcs[(find5 (fnames m) x.name).toNat]? with | some f => !decide (f.params = (x.args.length : Int)) | none => false)
def G5 (m : DMod) (l : List DInst) (od : Bool) : Prop := l.any (bad5 m) = false ∧ l.any (odd5 m) = od
theorem G5.snoc {m : DMod} {l : List DInst} {od : Bool} {x : DInst} (h : G5 m l od) (hb : bad5 m x = false) : G5 m (l ++ [x]) (od || odd5 m x) := by
  obtain ⟨h1, h2⟩ := h
  exact ⟨by rw [List.any_append, h1]; simp [hb], by rw [List.any_append, h2]; simp⟩
end Go.Proofs.Ytdlcmhkfglckfaa

namespace Go.Proofs.Ytdlcmhkfglckfaa
open Go.RowKit

end Go.Proofs.Ytdlcmhkfglckfaa

namespace Go.Proofs.Ytdlcmhkfglckfaa
open Go.RowKit

theorem func5_all {f : DFunc} (h : func5 f = true) : f.blocks.length ≤ 16 ∧ ∀ b ∈ f.blocks, block5 f b = true := by
  unfold func5 at h
  split at h
  · cases h
  rename_i h1
  refine ⟨by omega, ?_⟩
  split at h
  · rename_i e; rw [e]; intro b hb; cases hb
  · simp only [Bool.and_eq_true, List.all_eq_true] at h
    exact h.2
theorem block5_all {f : DFunc} {b : DBlock} (h : block5 f b = true) : 0 ≤ b.params ∧ b.params ≤ 6 ∧ b.ins.length ≤ 32 := by
  unfold block5 at h
  split at h
  · cases h
  · omega
theorem goes5_all {f : DFunc} {to : Int} {args : List Int} {n : Int} (h : goes5 f to args n = true) (hf : func5 f = true) : args.length ≤ 6 ∧ (∀ v ∈ args, 0 ≤ v ∧ v < n) ∧ 0 ≤ to ∧ to < f.blocks.length := by
  unfold goes5 at h
  split at h
  · cases h
  rename_i h0
  split at h
  · rename_i b hb
    split at h
    · rename_i hl
      have h1 := block5_all ((func5_all hf).2 b (List.mem_of_getElem? hb))
      refine ⟨by omega, fun v hv => ?_, by omega, ?_⟩
      · unfold below5 at h
        have := List.all_eq_true.1 h v hv
        simp only [Bool.and_eq_true, decide_eq_true_eq] at this
        exact this
      · have := (List.getElem?_eq_some_iff.1 hb).1
        omega
    · cases h
  · cases h
theorem inst5_all {x : DInst} {n : Int} (h : inst5 x n = true) : x.args.length ≤ 6 ∧ (∀ v ∈ uses5 x, 0 ≤ v ∧ v < n) ∧ 1 ≤ x.op ∧ x.op ≤ 16 := by
  unfold inst5 at h
  split at h
  · cases h
  rename_i h1
  have h2 : below5 (uses5 x) n = true := by cases e : below5 (uses5 x) n with
    | true => rfl
    | false => exact absurd (.inr (.inr (.inl e))) h1
  refine ⟨by omega, fun v hv => ?_, by omega, by omega⟩
  have := List.all_eq_true.1 h2 v hv
  simp only [Bool.and_eq_true, decide_eq_true_eq] at this
  exact this
/-- What is right of a block's end. -/
theorem term5_all {f : DFunc} {t : DTerm} {n : Int} (h : term5 f t n = true) (hf : func5 f = true) : t.args.length ≤ 6 ∧ t.elses.length ≤ 6 ∧ (∀ v ∈ t.args, 0 ≤ v ∧ v < n) ∧ (∀ v ∈ t.elses, 0 ≤ v ∧ v < n) ∧ 1 ≤ t.kind ∧ t.kind ≤ 3 ∧ (t.kind ≠ 1 → 0 ≤ t.a ∧ t.a < n) ∧
    (t.kind ≠ 3 → 0 ≤ t.to ∧ t.to < f.blocks.length) ∧ (t.kind = 2 → 0 ≤ t.els ∧ t.els < f.blocks.length) := by
  unfold term5 at h
  split at h
  · rename_i h1
    simp only [Bool.and_eq_true, decide_eq_true_eq] at h
    obtain ⟨⟨⟨hg, ha⟩, he⟩, hl⟩ := h
    obtain ⟨g1, g2, g3, g4⟩ := goes5_all hg hf
    have hl' : t.elses = [] := List.eq_nil_of_length_eq_zero hl
    exact ⟨g1, by omega, g2, (by rw [hl']; intro v hv; cases hv), by omega, by omega, fun h => absurd h1 h, fun _ => ⟨g3, g4⟩, fun h => by omega⟩
  · split at h
    · rename_i h1 h2
      simp only [Bool.and_eq_true, decide_eq_true_eq] at h
      obtain ⟨⟨⟨a1, a2⟩, hg⟩, he⟩ := h
      obtain ⟨g1, g2, g3, g4⟩ := goes5_all hg hf
      obtain ⟨e1, e2, e3, e4⟩ := goes5_all he hf
      exact ⟨g1, e1, g2, e2, by omega, by omega, fun _ => ⟨a1, a2⟩, fun _ => ⟨g3, g4⟩, fun _ => ⟨e3, e4⟩⟩
    · rename_i h1 h2
      simp only [Bool.and_eq_true, decide_eq_true_eq] at h
      obtain ⟨⟨⟨⟨⟨k3, a1, a2⟩, _⟩, hl1⟩, _⟩, hl2⟩ := h
      have l1 : t.args = [] := List.eq_nil_of_length_eq_zero hl1
      have l2 : t.elses = [] := List.eq_nil_of_length_eq_zero hl2
      exact ⟨by omega, by omega, (by rw [l1]; intro v hv; cases hv), (by rw [l2]; intro v hv; cases hv), by omega, by omega, fun _ => ⟨a1, a2⟩, fun h => absurd k3 h, fun h => absurd h h2⟩
theorem block5_more {f : DFunc} {b : DBlock} (h : block5 f b = true) : allFrom b.params b.ins = true ∧ term5 f b.fin (b.params + b.ins.length) = true := by
  unfold block5 at h
  split at h
  · cases h
  split at h
  · cases h
  rename_i h2
  exact ⟨by cases e : allFrom b.params b.ins <;> simp_all, h⟩

end Go.Proofs.Ytdlcmhkfglckfaa
