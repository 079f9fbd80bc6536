/-
  Reckoning ahead changes no run: block by block, call by call. No condition beyond those that each theorem states.
-/
import Derived.Test.YtokkiaokpfediaaE1
namespace Go.Proofs.Ytokkiaokpfediaa

/-- What is known of values holds of them. -/
def Holds7 (l : List (Int × Bool)) (vals : List Int) : Prop := vals.length = l.length ∧ ∀ (j : Nat) (k : Int), l[j]? = some (k, true) → vals[j]? = some k
theorem Holds7.at {l : List (Int × Bool)} {vals : List Int} (h : Holds7 l vals) {i : Int} (hk : (katG l i).2 = true) : vals.getD i.toNat 0 = (katG l i).1 := by
  unfold katG at hk ⊢
  split at hk
  · rename_i h0
    rw [if_pos h0]
    rw [List.getD_eq_getElem?_getD] at hk ⊢
    rw [List.getD_eq_getElem?_getD]
    cases e : l[i.toNat]? with
    | none => rw [e] at hk; simp at hk
    | some p =>
      rw [e] at hk
      have h1 := h.2 i.toNat p.1 (by rw [e]; congr 1; exact Prod.ext rfl (by simpa using hk))
      rw [h1]; rfl
  · simp at hk
theorem Holds7.snoc {l : List (Int × Bool)} {vals : List Int} (h : Holds7 l vals) {k : Int × Bool} {v : Int} (hv : k.2 = true → v = k.1) : Holds7 (l ++ [k]) (vals ++ [v]) := by
  refine ⟨by simp [h.1], fun j z hj => ?_⟩
  by_cases hlt : j < l.length
  · rw [List.getElem?_append_left hlt] at hj
    rw [List.getElem?_append_left (by rw [h.1]; exact hlt)]
    exact h.2 j z hj
  · rw [List.getElem?_append_right (by omega)] at hj
    have e : j - l.length = 0 := by
      cases e : j - l.length with
      | zero => rfl
      | succ q => rw [e] at hj; simp at hj
    rw [e] at hj
    simp only [List.getElem?_cons_zero, Option.some.injEq] at hj
    rw [List.getElem?_append_right (by rw [h.1]; omega), h.1, e]
    simp only [List.getElem?_cons_zero, Option.some.injEq]
    rw [hv (by rw [hj]), hj]
theorem gives7_fold (m : DMod) (w : DW) (inp : ByteArray) (x : DInst) (vals : List Int) : gives7 (foldMod m) w inp x vals = gives7 m w inp x vals := by
  unfold gives7; rw [gnames_fold]
/-- A known instruction gives what is known, and changes nothing. -/
theorem ins7_known {m : DMod} {inp : ByteArray} {cal : Cal} {w : DW} {l : List (Int × Bool)} {vals : List Int} {x : DInst} (h : Holds7 l vals) (hk : (stepK l x).2 = true) : ins7 m inp cal w vals x = (w, (stepK l x).1) := by
  unfold stepK at hk ⊢
  split at hk
  · rename_i h1
    unfold ins7 gives7
    rw [if_neg (by omega), if_pos h1, if_pos h1]
  · rename_i h1
    rw [if_neg h1]
    split at hk
    · rename_i h2
      obtain ⟨⟨h3, h4⟩, h5⟩ := h2
      rw [if_pos ⟨⟨h3, h4⟩, h5⟩]
      simp only [Bool.and_eq_true, decide_eq_true_eq] at h3
      unfold ins7 gives7
      rw [if_neg (by omega), if_neg h1, if_neg (by omega), if_neg (by omega), if_neg (by omega), if_neg (by omega), h.at h4, h.at h5]
    · simp at hk
theorem ins7_const {m : DMod} {inp : ByteArray} {cal : Cal} {w : DW} {vals : List Int} {k : Int} : ins7 m inp cal w vals (cInst k) = (w, k) := by
  simp [ins7, gives7, cInst]
theorem body7_fold {m : DMod} {inp : ByteArray} {fuel : Int} {cal cal' : Cal} : ∀ (ins : List DInst) (l : List (Int × Bool)) (w : DW) (vals : List Int), Holds7 l vals →
    (∀ w vals x, x ∈ ins → x.op = 14 → ins7 (foldMod m) inp cal' w vals x = ins7 m inp cal w vals x) →
    body7 (foldMod m) inp fuel cal' w vals (foldIns ins ((valsF l ins).drop l.length)) = body7 m inp fuel cal w vals ins ∧ ((body7 m inp fuel cal w vals ins).1.bad = 0 → Holds7 (valsF l ins) (body7 m inp fuel cal w vals ins).2)
  | [], l, w, vals, h, _ => by
    refine ⟨by simp [foldIns, body7], fun _ => ?_⟩
    simpa [body7, valsF] using h
  | x :: r, l, w, vals, h, hc => by
    rw [valsF, valsF_drop]
    simp only [foldIns, List.zipWith_cons_cons]
    have hx : ∀ w, ins7 (foldMod m) inp cal' w vals (if (stepK l x).2 = true then cInst (stepK l x).1 else x) = ins7 m inp cal w vals x := fun w => by
      by_cases hk : (stepK l x).2 = true
      · rw [if_pos hk, ins7_const, ins7_known h hk]
      · rw [if_neg hk]
        by_cases ho : x.op = 14
        · exact hc w vals x List.mem_cons_self ho
        · unfold ins7; rw [if_neg ho, if_neg ho, gives7_fold]
    simp only [body7, hx]
    by_cases h1 : (step7 w fuel).bad ≠ 0
    · simp only [if_pos h1]
      exact ⟨trivial, fun e => absurd e h1⟩
    · simp only [if_neg h1]
      by_cases h2 : (ins7 m inp cal (step7 w fuel) vals x).1.bad ≠ 0
      · simp only [if_pos h2]
        exact ⟨trivial, fun e => absurd e h2⟩
      · simp only [if_neg h2]
        exact body7_fold r (l ++ [stepK l x]) _ _ (h.snoc fun hk => by rw [ins7_known h hk]) fun w vals y hy => hc w vals y (List.mem_cons_of_mem _ hy)

theorem holds0 {b : DBlock} {vals : List Int} (h : (vals.length : Int) = b.params) : Holds7 (vals0 b) vals := by
  unfold vals0
  refine ⟨by rw [List.length_replicate]; omega, fun j k hj => ?_⟩
  rw [List.getElem?_replicate] at hj
  split at hj
  · simp at hj
  · cases hj
theorem kind_fold (ks : List (Int × Bool)) (t : DTerm) : (foldTerm ks t).kind = 3 ↔ t.kind = 3 := by
  unfold foldTerm
  split
  · rename_i h
    split <;> (simp only; omega)
  · exact Iff.rfl
theorem a_fold (ks : List (Int × Bool)) {t : DTerm} (h : t.kind = 3) : foldTerm ks t = t := by
  unfold foldTerm
  rw [if_neg (by omega)]
theorem next7_fold {ks : List (Int × Bool)} {vals : List Int} {t : DTerm} (h : Holds7 ks vals) : next7 (foldTerm ks t) vals = next7 t vals := by
  unfold foldTerm
  split
  · rename_i hc
    have hv := h.at hc.2
    split
    · rename_i h0
      have e : next7 t vals = (t.els, pick7 vals t.elses) := by rw [next7, if_pos ⟨hc.1, by rw [hv]; exact h0⟩]
      rw [e]; rfl
    · rename_i h0
      have e : next7 t vals = (t.to, pick7 vals t.args) := by rw [next7, if_neg (fun q => h0 (by rw [← hv]; exact q.2))]
      rw [e]; rfl
  · rfl
theorem pick7_length (vals l : List Int) : (pick7 vals l).length = l.length := by simp [pick7]
theorem next5_len {f : DFunc} {t : DTerm} {n : Int} {vals : List Int} (h : term5 f t n = true) (hk : t.kind ≠ 3) : ∀ b, f.blocks[(next7 t vals).1.toNat]? = some b → ((next7 t vals).2.length : Int) = b.params := by
  obtain ⟨h1, h2⟩ := next5 h hk
  unfold next7
  split
  · rename_i hc
    intro b hb; rw [pick7_length]; exact h2 hc.1 b hb
  · intro b hb; rw [pick7_length]; exact h1 b hb
theorem blocks7_fold {m : DMod} {inp : ByteArray} {fuel : Int} {cal cal' : Cal} {f : DFunc} (hf5 : func5 f = true) (hc : ∀ b ∈ f.blocks, ∀ x ∈ b.ins, x.op = 14 → ∀ w vals, ins7 (foldMod m) inp cal' w vals x = ins7 m inp cal w vals x) :
    ∀ (g : Nat) (w : DW) (a : Int) (vals : List Int), (∀ b, f.blocks[a.toNat]? = some b → (vals.length : Int) = b.params) → blocks7 (foldMod m) inp fuel cal' (foldFunc f) g w a vals = blocks7 m inp fuel cal f g w a vals
  | 0, w, a, vals, h => rfl
  | g + 1, w, a, vals, h => by
    unfold blocks7
    rw [show (foldFunc f).blocks = f.blocks.map foldBlock from rfl, List.getElem?_map]
    cases hb : f.blocks[a.toNat]? with
    | none => rfl
    | some b =>
      have hbm := List.mem_of_getElem? hb
      have hB := body7_fold (inp := inp) (fuel := fuel) (cal := cal) (cal' := cal') b.ins (vals0 b) w vals (holds0 (h b hb)) (fun w vals x hx ho => hc b hbm x hx ho w vals)
      rw [show (vals0 b).length = b.params.toNat by simp [vals0]] at hB
      dsimp only [Option.map_some]
      rw [show (foldBlock b).ins = foldIns b.ins ((valsF (vals0 b) b.ins).drop b.params.toNat) from rfl, hB.1, show (foldBlock b).fin = foldTerm (Go.Proofs.Ytokkiaokpfediaa.vals b) b.fin from rfl]
      by_cases h1 : (body7 m inp fuel cal w vals b.ins).1.bad ≠ 0
      · rw [if_pos h1, if_pos h1]
      · rw [if_neg h1, if_neg h1]
        by_cases h2 : (step7 (body7 m inp fuel cal w vals b.ins).1 fuel).bad ≠ 0
        · rw [if_pos h2, if_pos h2]
        · rw [if_neg h2, if_neg h2]
          have hH := hB.2 (Classical.not_not.1 h1)
          by_cases h3 : b.fin.kind = 3
          · rw [if_pos ((kind_fold _ _).2 h3), if_pos h3, a_fold _ h3]
          · rw [if_neg (fun e => h3 ((kind_fold _ _).1 e)), if_neg h3, next7_fold (show Holds7 (Go.Proofs.Ytokkiaokpfediaa.vals b) _ from hH)]
            exact blocks7_fold hf5 hc g _ _ _ (next5_len (block5_more ((func5_all hf5).2 b hbm)).2 h3)
theorem call7_fold {m : DMod} {inp : ByteArray} {fuel deep : Int} (hw : whole7 m = 0) : ∀ (d : Nat) (w : DW) (s : ByteArray) (args : List Int), (∃ f, m.funcs[(find5 (fnames m) s).toNat]? = some f ∧ f.params = (args.length : Int)) → call7 (foldMod m) inp fuel deep d w s args = call7 m inp fuel deep d w s args := by
  intro d
  induction d with
  | zero =>
    rintro w s args ⟨f, hf, hp⟩
    have hf' : (foldMod m).funcs[(find5 (fnames (foldMod m)) s).toNat]? = some (foldFunc f) := by rw [fnames_fold, show (foldMod m).funcs = m.funcs.map foldFunc from rfl, List.getElem?_map, hf]; rfl
    have hf5 := (check5_all (whole7_all hw).1).2.2.1 f (List.mem_of_getElem? hf)
    rw [call7_eq hf', call7_eq hf]
    exact blocks7_fold hf5 (fun b hb x hx ho w vals => by unfold ins7; rw [if_pos ho, if_pos ho]; rfl) _ _ _ _ (fun b hb => by rw [entry5 hf5 hb, hp])
  | succ d ih =>
    rintro w s args ⟨f, hf, hp⟩
    have hf' : (foldMod m).funcs[(find5 (fnames (foldMod m)) s).toNat]? = some (foldFunc f) := by rw [fnames_fold, show (foldMod m).funcs = m.funcs.map foldFunc from rfl, List.getElem?_map, hf]; rfl
    have hfm := List.mem_of_getElem? hf
    have hf5 := (check5_all (whole7_all hw).1).2.2.1 f hfm
    rw [call7_eq hf', call7_eq hf]
    refine blocks7_fold hf5 (fun b hb x hx ho w vals => ?_) _ _ _ _ (fun b hb => by rw [entry5 hf5 hb, hp])
    unfold ins7
    rw [if_pos ho, if_pos ho]
    obtain ⟨g, hg, _, _, hgp⟩ := whole7_call hw hfm hb hx ho
    exact ih w x.name (pick7 vals x.args) ⟨g, hg, by rw [pick7_length]; exact hgp⟩
/-- A whole module does the same behind the reckoning ahead, step by step. -/
theorem run7_fold {m : DMod} (hw : whole7 m = 0) (inp : ByteArray) (fuel deep : Int) : run7 (foldMod m) inp fuel deep = run7 m inp fuel deep := by
  unfold run7
  obtain ⟨f, h1, _, _, h4⟩ := (whole7_all hw).2.1
  rw [whole7_fold hw, hw, show (foldMod m).globs = m.globs from rfl, call7_fold hw _ _ _ _ ⟨f, h1, by rw [h4]; rfl⟩]
end Go.Proofs.Ytokkiaokpfediaa
