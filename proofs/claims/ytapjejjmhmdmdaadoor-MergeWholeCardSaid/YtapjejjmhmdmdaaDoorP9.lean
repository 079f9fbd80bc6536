/-
  What comes out is right: plain facts. No condition beyond those that each theorem states.
-/
import Derived.Test.YtapjejjmhmdmdaaDoorP8
namespace Go.Proofs.YtapjejjmhmdmdaaDoor
open Go.RowKit

theorem nDig_le : ∀ j u, u < 10 ^ (j + 1) → Lib.nDigits u ≤ j + 1
  | 0, u, h => by rw [Lib.nDigits_small (by simpa using h)]; omega
  | j + 1, u, h => by
    by_cases hu : u < 10
    · rw [Lib.nDigits_small hu]; omega
    · rw [Lib.nDigits_big hu]
      have := nDig_le j (u / 10) (by rw [Nat.pow_succ] at h; omega)
      omega
theorem dot10_name {k : Nat} (h : k < 1000000000000000) : name5 (dot10 k) = true := by
  have e : (dot10 k).size = 1 + Lib.nDigits k := by
    unfold dot10
    rw [ByteArray.size_append]
    show 1 + (Lib.itoa (k : Int)).toArray.size = _
    rw [List.size_toArray, itoa_nat, Lib.decDigits_length]
  have h1 := nDig_le 14 k (by simpa using h)
  unfold name5
  rw [e]
  simp; omega
abbrev G10 (ms : List DMod) (i : Nat) (m : DMod) : Ren := (mod10 (nm10 ms) (nam10 (nm10 ms) (ms.take i)).2 (its10 m)).1
def GoodG (G : Ren) : Prop := ∀ s, name5 s = true → name5 (ren10 G s) = true
theorem goodG {ms : List DMod} (hrt : ∀ m ∈ ms, check5 m = 0) (hml : ms.length ≤ 16) {i : Nat} {m : DMod} (hi : ms[i]? = some m) : GoodG (G10 ms i m) := fun s hs => by
  unfold ren10
  cases e : G10 ms i m s with
  | none => exact hs
  | some v =>
    obtain ⟨_, k, rfl, _, hk, _⟩ := fold10_keys _ _ _ _ e
    have ht : (nm10 ms).length ≤ 1048576 := Nat.le_trans (nms9_length _) (Nat.le_trans (items_few hrt hml) (by decide))
    have h1 := mod10_num ht (nam10 (nm10 ms) (ms.take i)).2 (its10 m)
    have h2 := nam10_num ht (ms.take i) (fun m hm => its_small (hrt m (List.mem_of_mem_take hm)))
    have h3 := its_small (hrt m (List.mem_of_getElem? hi))
    rw [List.length_take] at h2
    exact dot10_name (by omega)
/-! A function under other names is right as it was. -/
theorem inst5_ren {G : Ren} (hG : GoodG G) {x : DInst} {n : Int} (h : inst5 x n = true) : inst5 (renI G x) n = true := by
  by_cases hn : x.name = ⟨#[]⟩
  · unfold renI; rw [if_pos hn]; exact h
  · have e : renI G x = ⟨x.op, x.a, x.b, x.k, ren10 G x.name, x.args⟩ := by unfold renI; rw [if_neg hn]
    rw [e]
    have hu : uses5 ⟨x.op, x.a, x.b, x.k, ren10 G x.name, x.args⟩ = uses5 x := rfl
    have hm : named5 ⟨x.op, x.a, x.b, x.k, ren10 G x.name, x.args⟩ = named5 x := rfl
    unfold inst5 at h ⊢
    rw [hu, hm]
    simp only
    by_cases h1 : x.op < 1 ∨ 16 < x.op ∨ below5 (uses5 x) n = false ∨ 6 < x.args.length
    · rw [if_pos h1] at h; cases h
    · rw [if_neg h1] at h ⊢
      split at h
      · cases h
      · rename_i h2
        rw [if_neg h2]
        split at h
        · rename_i h3; rw [if_pos h3]; exact hG _ h
        · exact absurd (of_decide_eq_true h) hn
theorem allFrom_ren {G : Ren} (hG : GoodG G) : ∀ (l : List DInst) (p : Int), allFrom p l = true → allFrom p (l.map (renI G)) = true
  | [], _, _ => rfl
  | x :: r, p, h => by
    simp only [allFrom, Bool.and_eq_true, List.map_cons] at h ⊢
    exact ⟨inst5_ren hG h.1, allFrom_ren hG r (p + 1) h.2⟩
theorem goes5_ren {G : Ren} {f : DFunc} {to : Int} {args : List Int} {n : Int} : goes5 (rename10 G f) to args n = goes5 f to args n := by
  unfold goes5
  show (if to < 0 then false else match (f.blocks.map (renB G))[to.toNat]? with | some b => if (args.length : Int) = b.params then below5 args n else false | none => false) = _
  rw [List.getElem?_map]
  cases f.blocks[to.toNat]? <;> rfl
theorem term5_ren {G : Ren} {f : DFunc} {t : DTerm} {n : Int} : term5 (rename10 G f) t n = term5 f t n := by unfold term5; simp only [goes5_ren]
theorem block5_ren {G : Ren} (hG : GoodG G) {f : DFunc} {b : DBlock} (h : block5 f b = true) : block5 (rename10 G f) (renB G b) = true := by
  obtain ⟨h1, h2⟩ := block5_more h
  obtain ⟨p0, p1, hl⟩ := block5_all h
  unfold block5
  rw [if_neg (by show ¬ (b.params < 0 ∨ 6 < b.params ∨ 32 < (b.ins.map (renI G)).length); rw [List.length_map]; omega)]
  rw [if_neg (by show ¬ allFrom b.params (b.ins.map (renI G)) = false; rw [allFrom_ren hG _ _ h1]; simp)]
  show term5 (rename10 G f) b.fin (b.params + ((b.ins.map (renI G)).length : Nat)) = true
  rw [term5_ren, List.length_map]; exact h2
theorem func5_iff (f : DFunc) : func5 f = true ↔ name5 f.name = true ∧ 1 ≤ f.bind ∧ f.bind ≤ 3 ∧ 0 ≤ f.params ∧ f.params ≤ 6 ∧ f.blocks.length ≤ 16 ∧ (f.blocks = [] → f.bind ≠ 1) ∧ (∀ b, f.blocks[0]? = some b → b.params = f.params) ∧ ∀ b ∈ f.blocks, block5 f b = true := by
  unfold func5
  constructor
  · intro h
    split at h
    · cases h
    rename_i h1
    have hn : name5 f.name = true := by cases e : name5 f.name with
      | true => rfl
      | false => exact absurd (.inl e) h1
    refine ⟨hn, by omega, by omega, by omega, by omega, by omega, ?_⟩
    cases hb : f.blocks with
    | nil => rw [hb] at h; exact ⟨fun _ => of_decide_eq_true h, fun b h => by simp at h, fun b h => by cases h⟩
    | cons b r =>
      rw [hb] at h
      simp only [Bool.and_eq_true, decide_eq_true_eq, List.all_eq_true] at h
      exact ⟨fun e => (by cases e), fun c hc => (by simp only [List.getElem?_cons_zero, Option.some.injEq] at hc; rw [← hc]; exact h.1), h.2⟩
  · rintro ⟨h1, h2, h3, h4, h5, h6, h7, h8, h9⟩
    rw [if_neg (by rw [h1]; simp; omega)]
    cases hb : f.blocks with
    | nil => exact decide_eq_true (h7 hb)
    | cons b r =>
      rw [hb] at h8 h9
      simp only [Bool.and_eq_true, decide_eq_true_eq, List.all_eq_true]
      exact ⟨h8 b rfl, h9⟩
theorem func5_ren {G : Ren} (hG : GoodG G) {f : DFunc} (h : func5 f = true) : func5 (rename10 G f) = true := by
  obtain ⟨h1, h2, h3, h4, h5, h6, h7, h8, h9⟩ := (func5_iff f).1 h
  refine (func5_iff _).2 ⟨hG _ h1, h2, h3, h4, h5, ?_, fun e => h7 (List.map_eq_nil_iff.1 e), fun b hb => ?_, fun b hb => ?_⟩
  · show (f.blocks.map (renB G)).length ≤ 16; rw [List.length_map]; exact h6
  · have hb' : (f.blocks.map (renB G))[0]? = some b := hb
    rw [List.getElem?_map] at hb'
    obtain ⟨c, hc, rfl⟩ := Option.map_eq_some_iff.1 hb'
    exact h8 c hc
  · obtain ⟨c, hc, rfl⟩ := List.mem_map.1 (show b ∈ f.blocks.map (renB G) from hb)
    exact block5_ren hG (h9 c hc)
theorem block5_same {f f' : DFunc} (e : f.blocks = f'.blocks) (b : DBlock) : block5 f b = block5 f' b := by unfold block5 term5 goes5; rw [e]
theorem bind10_two (ks : List ByteArray) (s : ByteArray) : 1 ≤ bind10 ks s ∧ bind10 ks s ≤ 3 := by unfold bind10; split <;> omega
theorem func5_def {f : DFunc} (ks : List ByteArray) (h : func5 f = true) : func5 (defF ks f) = true ∧ 0 < (defF ks f).blocks.length := by
  obtain ⟨h1, h2, h3, h4, h5, h6, h7, h8, h9⟩ := (func5_iff f).1 h
  have hbd := bind10_two ks f.name
  by_cases hl : f.blocks.length = 0
  · have hb : (defF ks f).blocks = nothing10 f.params := by unfold defF; simp only; rw [if_pos hl]
    refine ⟨(func5_iff _).2 ⟨h1, hbd.1, hbd.2, h4, h5, by rw [hb]; exact (by decide : 1 ≤ 16), fun e => ?_, fun b hb2 => ?_, fun b hb2 => ?_⟩, by rw [hb]; exact (by decide : 0 < 1)⟩
    · rw [hb] at e; cases e
    · rw [hb] at hb2
      simp only [nothing10, List.getElem?_cons_zero, Option.some.injEq] at hb2
      rw [← hb2]; rfl
    · rw [hb] at hb2
      simp only [nothing10, List.mem_singleton] at hb2
      rw [hb2]
      unfold block5
      rw [if_neg (by simp only [List.length_cons, List.length_nil]; omega)]
      have hall : allFrom f.params [⟨1, 0, 0, 0, ⟨#[]⟩, []⟩] = true := by
        simp [allFrom, inst5, uses5, below5, named5]
      rw [if_neg (by simp only; rw [hall]; simp)]
      unfold term5
      simp; omega
  · have hb : (defF ks f).blocks = f.blocks := by unfold defF; simp only; rw [if_neg hl]
    refine ⟨(func5_iff _).2 ⟨h1, hbd.1, hbd.2, h4, h5, by rw [hb]; exact h6, fun e => ?_, fun b hb2 => ?_, fun b hb2 => ?_⟩, by rw [hb]; omega⟩
    · rw [hb] at e; rw [e] at hl; exact absurd rfl hl
    · rw [hb] at hb2; exact h8 b hb2
    · rw [hb] at hb2; rw [block5_same hb]; exact h9 b hb2
/-! Where what comes out is from. -/
def SrcF (ms : List DMod) (ks : List ByteArray) (f' : DFunc) : Prop := ∃ i m f, ms[i]? = some m ∧ f ∈ m.funcs ∧ ((f.bind = 1 ∧ f' = rename10 (G10 ms i m) f) ∨ (¬ f.bind = 1 ∧ f' = rename10 (G10 ms i m) (defF ks f)))
def SrcG (ms : List DMod) (ks : List ByteArray) (g' : DGlob) : Prop := ∃ i m g, ms[i]? = some m ∧ g ∈ m.globs ∧ ((g.bind = 1 ∧ g' = renG (G10 ms i m) g) ∨ (¬ g.bind = 1 ∧ g' = renG (G10 ms i m) (defG ks g)))
structure Srcs (ms : List DMod) (ks : List ByteArray) (s : S10) : Prop where
  f : ∀ f' ∈ s.fs, SrcF ms ks f'
  g : ∀ g' ∈ s.gs, SrcG ms ks g'
theorem srcs_fun {ms : List DMod} {ks : List ByteArray} {ds : List DDef} {s : S10} (h : Srcs ms ks s) {i : Nat} {m : DMod} (hi : ms[i]? = some m) {f : DFunc} (hf : f ∈ m.funcs) : Srcs ms ks (fun10 ds ks i (G10 ms i m) s f) := by
  unfold fun10
  split
  · rename_i hb
    refine ⟨fun f' h' => ?_, h.g⟩
    rcases List.mem_append.1 h' with h' | h'
    · exact h.f f' h'
    · exact ⟨i, m, f, hi, hf, .inl ⟨hb, List.mem_singleton.1 h'⟩⟩
  · rename_i hb
    split
    · refine ⟨fun f' h' => ?_, h.g⟩
      rcases List.mem_append.1 h' with h' | h'
      · exact h.f f' h'
      · exact ⟨i, m, f, hi, hf, .inr ⟨hb, List.mem_singleton.1 h'⟩⟩
    · exact h
theorem srcs_glob {ms : List DMod} {ks : List ByteArray} {ds : List DDef} {s : S10} (h : Srcs ms ks s) {i : Nat} {m : DMod} (hi : ms[i]? = some m) {f : DGlob} (hf : f ∈ m.globs) : Srcs ms ks (glob10 ds ks i (G10 ms i m) s f) := by
  unfold glob10
  split
  · rename_i hb
    refine ⟨h.f, fun f' h' => ?_⟩
    rcases List.mem_append.1 h' with h' | h'
    · exact h.g f' h'
    · exact ⟨i, m, f, hi, hf, .inl ⟨hb, List.mem_singleton.1 h'⟩⟩
  · rename_i hb
    split
    · refine ⟨h.f, fun f' h' => ?_⟩
      rcases List.mem_append.1 h' with h' | h'
      · exact h.g f' h'
      · exact ⟨i, m, f, hi, hf, .inr ⟨hb, List.mem_singleton.1 h'⟩⟩
    · exact h
theorem fold_srcs {α : Type} {ms : List DMod} {ks : List ByteArray} {st : S10 → α → S10} : ∀ (l : List α) (s : S10), Srcs ms ks s → (∀ s x, x ∈ l → Srcs ms ks s → Srcs ms ks (st s x)) → Srcs ms ks (l.foldl st s)
  | [], _, h, _ => h
  | x :: l, s, h, hs => fold_srcs l (st s x) (hs s x List.mem_cons_self h) fun s y hy => hs s y (List.mem_cons_of_mem _ hy)
theorem srcs10 (ms : List DMod) (ks : List ByteArray) : Srcs ms ks (ot10 ms ks) := by
  have key : ∀ i, i ≤ ms.length → Srcs ms ks (out10 (ds10 ms) ks ((zip10 ms (nam10 (nm10 ms) ms).1).take i)) := by
    intro i
    induction i with
    | zero => intro _; exact ⟨fun f hf => (by cases hf), fun f hf => (by cases hf)⟩
    | succ i ih =>
      intro hi
      have hm : ms[i]? = some ms[i] := List.getElem?_eq_getElem (by omega)
      rw [out10_next (zip10_at hm (nam10_at hm))]
      unfold mod10s
      exact fold_srcs _ _ (fold_srcs _ _ (ih (by omega)) fun s x hx h => srcs_fun h hm hx) fun s x hx h => srcs_glob h hm hx
  have h := key ms.length (Nat.le_refl _)
  rwa [List.take_of_length_le (Nat.le_of_eq (zip10_len (nam10_length _ _)))] at h
end Go.Proofs.YtapjejjmhmdmdaaDoor
