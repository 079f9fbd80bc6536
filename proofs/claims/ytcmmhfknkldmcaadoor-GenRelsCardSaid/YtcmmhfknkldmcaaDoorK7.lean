/-
  What hangs on places in a whole function; each instruction may be; each jump leads into the function. No condition beyond those that each theorem states.
-/
import Derived.Test.YtcmmhfknkldmcaaDoorK6
namespace Go.Proofs.YtcmmhfknkldmcaaDoor
open Go.RowKit
def named17 (x : DInst) : List ByteArray := if x.op = 12 ∨ x.op = 13 ∨ x.op = 14 then [x.name] else []
theorem ins_rels {slots : List Int} {p : Int} {s : List DOp × List DRel} {l : List DInst} (hs : RS 0 s.1 s.2) (h24 : B24 s.1) (k : Nat) (hk : k ≤ l.length) :
    RS 0 (ins17 slots p s (l.take k)).1 (ins17 slots p s (l.take k)).2 ∧ B24 (ins17 slots p s (l.take k)).1 ∧ namesR (ins17 slots p s (l.take k)).2 = namesR s.2 ++ (l.take k).flatMap named17 ∧ ∀ r ∈ (ins17 slots p s (l.take k)).2, r ∈ s.2 ∨ ∃ x ∈ l, r.name = x.name := by
  induction k with
  | zero => exact ⟨hs, h24, by simp [ins17], fun r hr => .inl hr⟩
  | succ k ih =>
    obtain ⟨i1, i2, i3, i4⟩ := ih (by omega)
    have hx : l[k]? = some l[k] := List.getElem?_eq_getElem (by omega)
    obtain ⟨g1, g2, g3, g4⟩ := give_rels (no := (ins17 slots p s (l.take k)).1.length) (slots := slots) (x := l[k])
    rw [ins17_next hx, take_next hx]
    unfold insStep
    simp only
    refine ⟨(i1.app (by rw [Nat.zero_add]; exact g1)).ext, (i2.app (B24.none g4)).app (B24.none fun o ho => by rw [List.mem_singleton.1 ho]; simp [sv]), ?_, fun r hr => ?_⟩
    · rw [namesR_app, i3, g2, List.flatMap_append, List.append_assoc]
      simp [named17]
    · rcases List.mem_append.1 hr with hr | hr
      · exact i4 r hr
      · exact .inr ⟨_, List.mem_of_getElem? hx, g3 r hr⟩
def refs17 (f : DFunc) : List ByteArray := f.blocks.flatMap fun b => b.ins.flatMap named17
theorem gAt_rels {f : DFunc} (k : Nat) (hk : k ≤ f.blocks.length) : RS 0 (gAt f k).ops (gAt f k).rels ∧ B24 (gAt f k).ops ∧ namesR (gAt f k).rels = (f.blocks.take k).flatMap (fun b => b.ins.flatMap named17) ∧ ∀ r ∈ (gAt f k).rels, ∃ b ∈ f.blocks, ∃ x ∈ b.ins, r.name = x.name := by
  induction k with
  | zero =>
    refine ⟨RS.nil _ _, B24.none ?_, rfl, fun r hr => by simp [gAt, g0] at hr⟩
    intro o ho
    have ho : o ∈ head17 (frame17 f) f.params.toNat := ho
    unfold head17 headP at ho
    rcases List.mem_append.1 ho with ho | ho
    · simp only [List.mem_cons, List.not_mem_nil, or_false] at ho
      rcases ho with rfl | rfl <;> simp
    · obtain ⟨i, _, rfl⟩ := List.mem_map.1 ho
      simp [sv]
  | succ k ih =>
    obtain ⟨i1, i2, i3, i4⟩ := ih (by omega)
    have hb : f.blocks[k]? = some f.blocks[k] := List.getElem?_eq_getElem (by omega)
    obtain ⟨g1, g2, g3, g4⟩ := ins_rels (slots := give16 f.blocks[k]) (p := f.blocks[k].params) (s := ((gAt f k).ops, (gAt f k).rels)) (l := f.blocks[k].ins) i1 i2 _ (Nat.le_refl _)
    rw [blkAt hb, take_next hb]
    simp only
    refine ⟨RS.ext g1, B24.app g2 end_24, ?_, fun r hr => ?_⟩
    · have g3 : namesR (iAt f f.blocks[k] k f.blocks[k].ins.length).2 = namesR (gAt f k).rels ++ (f.blocks[k].ins.take f.blocks[k].ins.length).flatMap named17 := g3
      rw [g3, i3, List.take_length, List.flatMap_append]
      simp
    · rcases g4 r hr with hr | ⟨x, hx, e⟩
      · exact i4 r hr
      · exact ⟨_, List.mem_of_getElem? hb, x, hx, e⟩
/-- What hangs, in the list as it stands in the end. -/
theorem func_rels {f : DFunc} (h : OkG f) : (∀ r ∈ (func17 f).rels, r.name.size ≤ maxLen ∧ ∃ n : Nat, r.at_ = (n : Int) ∧ ∃ o, (func17 f).ops[n]? = some o ∧ o.imm = 0 ∧ ((r.kind = 1 ∧ o.kind = 29) ∨ (r.kind = 2 ∧ o.kind = 27) ∨ (r.kind = 3 ∧ (o.kind = 19 ∨ o.kind = 21)))) ∧
    (func17 f).rels.Pairwise (fun a b => a.at_ < b.at_) ∧ namesR (func17 f).rels = refs17 f := by
  obtain ⟨g1, g2, g3, g4⟩ := gAt_rels (f := f) f.blocks.length (Nat.le_refl _)
  refine ⟨fun r hr => ?_, g1.ord, ?_⟩
  · obtain ⟨b, hb, x, hx, e⟩ := g4 r hr
    obtain ⟨n, e1, o, ho, hne, h0, hk⟩ := g1.at_ r hr
    refine ⟨by rw [e]; exact (h.ks b hb x hx).2.2.2.2, n, by rw [e1, Nat.zero_add], ?_⟩
    obtain ⟨y, hy, hc⟩ := (func_jset h).2 n o ho
    rcases hc with rfl | ⟨rfl, _⟩
    · exact ⟨y, hy, h0, hk⟩
    · exact absurd rfl hne
  · have : (func17 f).rels = (gAt f f.blocks.length).rels := rfl
    rw [this, g3, List.take_length]; rfl
theorem func_relC {f : DFunc} (h : OkG f) : ∀ r ∈ (func17 f).rels, r.name.size ≤ maxLen ∧ inI r.at_ ∧ inI r.kind := fun r hr => by
  obtain ⟨h1, n, e, o, ho, _, hk⟩ := (func_rels h).1 r hr
  have hl := (List.getElem?_eq_some_iff.1 ho).1
  rw [(func_jset h).1] at hl
  have hlen : (gFull f).ops.length ≤ 8 + 437 * f.blocks.length := (gAt_len h f.blocks.length (Nat.le_refl _)).1
  have hbl := h.bl
  exact ⟨h1, inK (by omega), inK (by omega)⟩
/-- What may be (marlineref01.May), for the kinds that stand in a function. -/
def reg17 (n : Int) : Bool := decide (0 ≤ n) && decide (n ≤ 31)
/-- Each jump leads into the function. -/
theorem func_to_in {f : DFunc} (h : OkG f) {i : Nat} {o : DOp} (ho : (func17 f).ops[i]? = some o) (hk : o.kind = 29 ∨ o.kind = 24) : o.imm % 4 = 0 ∧ 0 ≤ (i : Int) + o.imm / 4 ∧ (i : Int) + o.imm / 4 < (func17 f).ops.length := by
  obtain ⟨t, e, g, c, hl, _⟩ := gAt_cls h f.blocks.length (Nat.le_refl _)
  have e : (gFull f).ops = addF (0 - frame17 f) :: t := e
  have h24 : B24 (gFull f).ops := (gAt_rels (f := f) f.blocks.length (Nat.le_refl _)).2.1
  obtain ⟨x, hx, hc⟩ := func_at h ho
  rw [(func_jset h).1]
  have hi := (List.getElem?_eq_some_iff.1 hx).1
  rcases hc with rfl | ⟨rfl, z, rfl, h1, h2⟩
  · rcases hk with hk | hk
    · -- a jump with the number 0: a call, or one that is not set
      have h0 : o.imm = 0 := by
        rw [e] at hx
        rcases i with _ | k
        · simp at hx; subst hx; simp [addF] at hk
        · have hm := c o (List.mem_of_getElem? (by simpa using hx))
          rcases hm with hm | rfl | rfl
          · cases hm with
            | ld r s hr hs => simp [ld] at hk
            | sv r s hr hs => simp [sv] at hk
            | fix _ h =>
              have : ∀ x ∈ fixL, x.kind = 29 → x.imm = 0 := by decide
              exact this o h hk
            | reck k h h0 => simp at hk; omega
            | dig a d ha hd => simp at hk
          · simp [addF] at hk
          · simp [retO] at hk
      rw [h0]; omega
    · have := h24 i o hx hk
      rw [this.1]; omega
  · simp only
    omega
end Go.Proofs.YtcmmhfknkldmcaaDoor
