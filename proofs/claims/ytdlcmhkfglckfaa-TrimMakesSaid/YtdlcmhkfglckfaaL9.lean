/-
  A function without what isn't used, as the document says it. No condition beyond those that each theorem states.
-/
import Derived.Test.YtdlcmhkfglckfaaV4
namespace Go.Proofs.Ytdlcmhkfglckfaa

theorem cnt_num (us : List Bool) : ∀ k : Nat, num13 us (k : Int) = (cntR us k : Int)
  | 0 => by simp [num13, cntR, numAt]
  | k + 1 => by
    rw [cntR_step]
    cases h : us[k]? with
    | none =>
      rw [if_neg (by simp), ← cnt_num us k]
      have hl := List.getElem?_eq_none_iff.1 h
      unfold num13
      rw [Int.toNat_natCast, Int.toNat_natCast, List.take_of_length_le hl, List.take_of_length_le (by omega)]
    | some x =>
      rw [num_succ h, cnt_num us k]
      cases x <;> simp
theorem num_in {us : List Bool} (hl : us.length ≤ 1000000) (v : Int) : inI (num13 us v) := by have := num13_le us v; unfold inI; omega
theorem rblk_eq {f : DFunc} (hgo : Goes13 f) {k : Nat} {b : DBlock} (hr : (reached13 f)[k]? = some true) (hb : f.blocks[k]? = some b) :
    blk13 (numAt (reached13 f) f.blocks.length).1 b = ⟨(block13 b).params, (block13 b).ins, ⟨(block13 b).fin.kind, (block13 b).fin.a, if (block13 b).fin.kind = 3 then (block13 b).fin.to else num13 (reached13 f) (block13 b).fin.to, (block13 b).fin.args,
      if (block13 b).fin.kind = 2 then num13 (reached13 f) (block13 b).fin.els else (block13 b).fin.els, (block13 b).fin.elses⟩⟩ := by
  have h := blk13_goes hgo hr hb
  have hg := hgo b (List.mem_of_getElem? hb)
  have e1 : (blk13 (numAt (reached13 f) f.blocks.length).1 b).fin.to = if (block13 b).fin.kind = 3 then (block13 b).fin.to else num13 (reached13 f) (block13 b).fin.to := by
    by_cases hk : b.fin.kind = 3
    · rw [if_pos (show (block13 b).fin.kind = 3 from hk)]
      show (if (block13 b).fin.kind = 3 then (block13 b).fin.to else _) = _
      rw [if_pos (show (block13 b).fin.kind = 3 from hk)]
    · rw [if_neg (show ¬ (block13 b).fin.kind = 3 from hk), (h.1 hk).2, ← cnt_num]
      have h2 := hg.1 hk
      rw [show ((b.fin.to.toNat : Nat) : Int) = b.fin.to by omega]; rfl
  have e2 : (blk13 (numAt (reached13 f) f.blocks.length).1 b).fin.els = if (block13 b).fin.kind = 2 then num13 (reached13 f) (block13 b).fin.els else (block13 b).fin.els := by
    by_cases hk : b.fin.kind = 2
    · rw [if_pos (show (block13 b).fin.kind = 2 from hk), (h.2 hk).2, ← cnt_num]
      have h2 := hg.2 hk
      rw [show ((b.fin.els.toNat : Nat) : Int) = b.fin.els by omega]; rfl
    · rw [if_neg (show ¬ (block13 b).fin.kind = 2 from hk)]
      show (if (block13 b).fin.kind = 2 then _ else (block13 b).fin.els) = _
      rw [if_neg (show ¬ (block13 b).fin.kind = 2 from hk)]
  rw [← e1, ← e2]; rfl
end Go.Proofs.Ytdlcmhkfglckfaa
