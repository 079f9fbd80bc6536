/-
  What comes out is right: plain facts. No condition beyond those that each theorem states.
-/
import Derived.Test.YtapjejjmhmdmdaaDoorP8
import Derived.Test.YtapjejjmhmdmdaaDoorW7
namespace Go.Proofs.YtapjejjmhmdmdaaDoor
open Go.RowKit

theorem nDig_le : ∀ j u, u < 10 ^ (j + 1) → Lib.nDigits u ≤ j + 1
  | 0, u, h => by rw [Lib.nDigits_small (by simpa using h)]; omega
  | j + 1, u, h => by
    by_cases hu : u < 10
    · rw [Lib.nDigits_small hu]; omega
    · rw [Lib.nDigits_big hu]
      have := nDig_le j (u / 10) (by rw [Nat.pow_succ] at h; omega)
      omega
theorem dot10_name {k : Nat} (h : k < 1000000000000000) : name5 (dot10 k) = true := by
  have e : (dot10 k).size = 1 + Lib.nDigits k := by
    unfold dot10
    rw [ByteArray.size_append]
    show 1 + (Lib.itoa (k : Int)).toArray.size = _
    rw [List.size_toArray, itoa_nat, Lib.decDigits_length]
  have h1 := nDig_le 14 k (by simpa using h)
  unfold name5
  rw [e]
  simp; omega
abbrev G10 (ms : List DMod) (i : Nat) (m : DMod) : Ren := (mod10 (nm10 ms) (nam10 (nm10 ms) (ms.take i)).2 (its10 m)).1
def GoodG (G : Ren) : Prop := ∀ s, name5 s = true → name5 (ren10 G s) = true
theorem goodG {ms : List DMod} (hrt : ∀ m ∈ ms, check5 m = 0) (hml : ms.length ≤ 16) {i : Nat} {m : DMod} (hi : ms[i]? = some m) : GoodG (G10 ms i m) := fun s hs => by
  unfold ren10
  cases e : G10 ms i m s with
  | none => exact hs
  | some v =>
    obtain ⟨_, k, rfl, _, hk, _⟩ := fold10_keys _ _ _ _ e
    have ht : (nm10 ms).length ≤ 1048576 := Nat.le_trans (nms9_length _) (Nat.le_trans (items_few hrt hml) (by decide))
    have h1 := mod10_num ht (nam10 (nm10 ms) (ms.take i)).2 (its10 m)
    have h2 := nam10_num ht (ms.take i) (fun m hm => its_small (hrt m (List.mem_of_mem_take hm)))
    have h3 := its_small (hrt m (List.mem_of_getElem? hi))
    rw [List.length_take] at h2
    exact dot10_name (by omega)
/-! A function under other names is right as it was. -/
theorem inst5_ren {G : Ren} (hG : GoodG G) {x : DInst} {n : Int} (h : inst5 x n = true) : inst5 (renI G x) n = true := by
  by_cases hn : x.name = ⟨#[]⟩
  · unfold renI; rw [if_pos hn]; exact h
  · have e : renI G x = ⟨x.op, x.a, x.b, x.k, ren10 G x.name, x.args⟩ := by unfold renI; rw [if_neg hn]
    rw [e]
    have hu : uses5 ⟨x.op, x.a, x.b, x.k, ren10 G x.name, x.args⟩ = uses5 x := rfl
    have hm : named5 ⟨x.op, x.a, x.b, x.k, ren10 G x.name, x.args⟩ = named5 x := rfl
    unfold inst5 at h ⊢
    rw [hu, hm]
    simp only
    by_cases h1 : x.op < 1 ∨ 16 < x.op ∨ below5 (uses5 x) n = false ∨ 6 < x.args.length
    · rw [if_pos h1] at h; cases h
    · rw [if_neg h1] at h ⊢
      split at h
      · cases h
      · rename_i h2
        rw [if_neg h2]
        split at h
        · rename_i h3; rw [if_pos h3]; exact hG _ h
        · exact absurd (of_decide_eq_true h) hn
theorem allFrom_ren {G : Ren} (hG : GoodG G) : ∀ (l : List DInst) (p : Int), allFrom p l = true → allFrom p (l.map (renI G)) = true
  | [], _, _ => rfl
  | x :: r, p, h => by
    simp only [allFrom, Bool.and_eq_true, List.map_cons] at h ⊢
    exact ⟨inst5_ren hG h.1, allFrom_ren hG r (p + 1) h.2⟩
theorem goes5_ren {G : Ren} {f : DFunc} {to : Int} {args : List Int} {n : Int} : goes5 (rename10 G f) to args n = goes5 f to args n := by
  unfold goes5
  show (if to < 0 then false else match (f.blocks.map (renB G))[to.toNat]? with | some b => if (args.length : Int) = b.params then below5 args n else false | none => false) = _
  rw [List.getElem?_map]
  cases f.blocks[to.toNat]? <;> rfl
theorem term5_ren {G : Ren} {f : DFunc} {t : DTerm} {n : Int} : term5 (rename10 G f) t n = term5 f t n := by unfold term5; simp only [goes5_ren]
theorem block5_ren {G : Ren} (hG : GoodG G) {f : DFunc} {b : DBlock} (h : block5 f b = true) : block5 (rename10 G f) (renB G b) = true := by
  obtain ⟨h1, h2⟩ := block5_more h
  obtain ⟨p0, p1, hl⟩ := block5_all h
  unfold block5
  rw [if_neg (by show ¬ (b.params < 0 ∨ 6 < b.params ∨ 32 < (b.ins.map (renI G)).length); rw [List.length_map]; omega)]
  rw [if_neg (by show ¬ allFrom b.params (b.ins.map (renI G)) = false; rw [allFrom_ren hG _ _ h1]; simp)]
  show term5 (rename10 G f) b.fin (b.params + ((b.ins.map (renI G)).length : Nat)) = true
  rw [term5_ren, List.length_map]; exact h2
theorem func5_iff (f : DFunc) : func5 f = true ↔ name5 f.name = true ∧ 1 ≤ f.bind ∧ f.bind ≤ 3 ∧ 0 ≤ f.params ∧ f.params ≤ 6 ∧ f.blocks.length ≤ 16 ∧ (f.blocks = [] → f.bind ≠ 1) ∧ (∀ b, f.blocks[0]? = some b → b.params = f.params) ∧ ∀ b ∈ f.blocks, block5 f b = true := by
  unfold func5
  constructor
  · intro h
    split at h
    · cases h
    rename_i h1
    have hn : name5 f.name = true := by cases e : name5 f.name with
      | true => rfl
      | false => exact absurd (.inl e) h1
    refine ⟨hn, by omega, by omega, by omega, by omega, by omega, ?_⟩
    cases hb : f.blocks with
    | nil => rw [hb] at h; exact ⟨fun _ => of_decide_eq_true h, fun b h => by simp at h, fun b h => by cases h⟩
    | cons b r =>
      rw [hb] at h
      simp only [Bool.and_eq_true, decide_eq_true_eq, List.all_eq_true] at h
      exact ⟨fun e => (by cases e), fun c hc => (by simp only [List.getElem?_cons_zero, Option.some.injEq] at hc; rw [← hc]; exact h.1), h.2⟩
  · rintro ⟨h1, h2, h3, h4, h5, h6, h7, h8, h9⟩
    rw [if_neg (by rw [h1]; simp; omega)]
    cases hb : f.blocks with
    | nil => exact decide_eq_true (h7 hb)
    | cons b r =>
      rw [hb] at h8 h9
      simp only [Bool.and_eq_true, decide_eq_true_eq, List.all_eq_true]
      exact ⟨h8 b rfl, h9⟩
theorem func5_ren {G : Ren} (hG : GoodG G) {f : DFunc} (h : func5 f = true) : func5 (rename10 G f) = true := by
  obtain ⟨h1, h2, h3, h4, h5, h6, h7, h8, h9⟩ := (func5_iff f).1 h
  refine (func5_iff _).2 ⟨hG _ h1, h2, h3, h4, h5, ?_, fun e => h7 (List.map_eq_nil_iff.1 e), fun b hb => ?_, fun b hb => ?_⟩
  · show (f.blocks.map (renB G)).length ≤ 16; rw [List.length_map]; exact h6
  · have hb' : (f.blocks.map (renB G))[0]? = some b := hb
    rw [List.getElem?_map] at hb'
    obtain ⟨c, hc, rfl⟩ := Option.map_eq_some_iff.1 hb'
    exact h8 c hc
  · obtain ⟨c, hc, rfl⟩ := List.mem_map.1 (show b ∈ f.blocks.map (renB G) from hb)
    exact block5_ren hG (h9 c hc)
theorem block5_same {f f' : DFunc} (e : f.blocks = f'.blocks) (b : DBlock) : block5 f b = block5 f' b := by unfold block5 term5 goes5; rw [e]
theorem bind10_two (ks : List ByteArray) (s : ByteArray) : 1 ≤ bind10 ks s ∧ bind10 ks s ≤ 3 := by unfold bind10; split <;> omega
theorem func5_def {f : DFunc} (ks : List ByteArray) (h : func5 f = true) : func5 (defF ks f) = true ∧ 0 < (defF ks f).blocks.length := by
  obtain ⟨h1, h2, h3, h4, h5, h6, h7, h8, h9⟩ := (func5_iff f).1 h
  have hbd := bind10_two ks f.name
  by_cases hl : f.blocks.length = 0
  · have hb : (defF ks f).blocks = nothing10 f.params := by unfold defF; simp only; rw [if_pos hl]
    refine ⟨(func5_iff _).2 ⟨h1, hbd.1, hbd.2, h4, h5, by rw [hb]; exact (by decide : 1 ≤ 16), fun e => ?_, fun b hb2 => ?_, fun b hb2 => ?_⟩, by rw [hb]; exact (by decide : 0 < 1)⟩
    · rw [hb] at e; cases e
    · rw [hb] at hb2
      simp only [nothing10, List.getElem?_cons_zero, Option.some.injEq] at hb2
      rw [← hb2]; rfl
    · rw [hb] at hb2
      simp only [nothing10, List.mem_singleton] at hb2
      rw [hb2]
      unfold block5
      rw [if_neg (by simp only [List.length_cons, List.length_nil]; omega)]
      have hall : allFrom f.params [⟨1, 0, 0, 0, ⟨#[]⟩, []⟩] = true := by
        simp [allFrom, inst5, uses5, below5, named5]
      rw [if_neg (by simp only; rw [hall]; simp)]
      unfold term5
      simp; omega
  · have hb : (defF ks f).blocks = f.blocks := by unfold defF; simp only; rw [if_neg hl]
    refine ⟨(func5_iff _).2 ⟨h1, hbd.1, hbd.2, h4, h5, by rw [hb]; exact h6, fun e => ?_, fun b hb2 => ?_, fun b hb2 => ?_⟩, by rw [hb]; omega⟩
    · rw [hb] at e; rw [e] at hl; exact absurd rfl hl
    · rw [hb] at hb2; exact h8 b hb2
    · rw [hb] at hb2; rw [block5_same hb]; exact h9 b hb2
/-! Where what comes out is from. -/
def SrcF (ms : List DMod) (ks : List ByteArray) (f' : DFunc) : Prop := ∃ i m f, ms[i]? = some m ∧ f ∈ m.funcs ∧ ((f.bind = 1 ∧ f' = rename10 (G10 ms i m) f) ∨ (¬ f.bind = 1 ∧ f' = rename10 (G10 ms i m) (defF ks f)))
def SrcG (ms : List DMod) (ks : List ByteArray) (g' : DGlob) : Prop := ∃ i m g, ms[i]? = some m ∧ g ∈ m.globs ∧ ((g.bind = 1 ∧ g' = renG (G10 ms i m) g) ∨ (¬ g.bind = 1 ∧ g' = renG (G10 ms i m) (defG ks g)))
structure Srcs (ms : List DMod) (ks : List ByteArray) (s : S10) : Prop where
  f : ∀ f' ∈ s.fs, SrcF ms ks f'
  g : ∀ g' ∈ s.gs, SrcG ms ks g'
theorem srcs_fun {ms : List DMod} {ks : List ByteArray} {ds : List DDef} {s : S10} (h : Srcs ms ks s) {i : Nat} {m : DMod} (hi : ms[i]? = some m) {f : DFunc} (hf : f ∈ m.funcs) : Srcs ms ks (fun10 ds ks i (G10 ms i m) s f) := by
  unfold fun10
  split
  · rename_i hb
    refine ⟨fun f' h' => ?_, h.g⟩
    rcases List.mem_append.1 h' with h' | h'
    · exact h.f f' h'
    · exact ⟨i, m, f, hi, hf, .inl ⟨hb, List.mem_singleton.1 h'⟩⟩
  · rename_i hb
    split
    · refine ⟨fun f' h' => ?_, h.g⟩
      rcases List.mem_append.1 h' with h' | h'
      · exact h.f f' h'
      · exact ⟨i, m, f, hi, hf, .inr ⟨hb, List.mem_singleton.1 h'⟩⟩
    · exact h
theorem srcs_glob {ms : List DMod} {ks : List ByteArray} {ds : List DDef} {s : S10} (h : Srcs ms ks s) {i : Nat} {m : DMod} (hi : ms[i]? = some m) {f : DGlob} (hf : f ∈ m.globs) : Srcs ms ks (glob10 ds ks i (G10 ms i m) s f) := by
  unfold glob10
  split
  · rename_i hb
    refine ⟨h.f, fun f' h' => ?_⟩
    rcases List.mem_append.1 h' with h' | h'
    · exact h.g f' h'
    · exact ⟨i, m, f, hi, hf, .inl ⟨hb, List.mem_singleton.1 h'⟩⟩
  · rename_i hb
    split
    · refine ⟨h.f, fun f' h' => ?_⟩
      rcases List.mem_append.1 h' with h' | h'
      · exact h.g f' h'
      · exact ⟨i, m, f, hi, hf, .inr ⟨hb, List.mem_singleton.1 h'⟩⟩
    · exact h
theorem fold_srcs {α : Type} {ms : List DMod} {ks : List ByteArray} {st : S10 → α → S10} : ∀ (l : List α) (s : S10), Srcs ms ks s → (∀ s x, x ∈ l → Srcs ms ks s → Srcs ms ks (st s x)) → Srcs ms ks (l.foldl st s)
  | [], _, h, _ => h
  | x :: l, s, h, hs => fold_srcs l (st s x) (hs s x List.mem_cons_self h) fun s y hy => hs s y (List.mem_cons_of_mem _ hy)
theorem srcs10 (ms : List DMod) (ks : List ByteArray) : Srcs ms ks (ot10 ms ks) := by
  have key : ∀ i, i ≤ ms.length → Srcs ms ks (out10 (ds10 ms) ks ((zip10 ms (nam10 (nm10 ms) ms).1).take i)) := by
    intro i
    induction i with
    | zero => intro _; exact ⟨fun f hf => (by cases hf), fun f hf => (by cases hf)⟩
    | succ i ih =>
      intro hi
      have hm : ms[i]? = some ms[i] := List.getElem?_eq_getElem (by omega)
      rw [out10_next (zip10_at hm (nam10_at hm))]
      unfold mod10s
      exact fold_srcs _ _ (fold_srcs _ _ (ih (by omega)) fun s x hx h => srcs_fun h hm hx) fun s x hx h => srcs_glob h hm hx
  have h := key ms.length (Nat.le_refl _)
  rwa [List.take_of_length_le (Nat.le_of_eq (zip10_len (nam10_length _ _)))] at h
end Go.Proofs.YtapjejjmhmdmdaaDoor

namespace Go.Proofs.YtapjejjmhmdmdaaDoor
open Go.RowKit

theorem check5_of {m : DMod} (h1 : m.funcs.length ≤ 16) (h2 : m.globs.length ≤ 16) (h3 : ∀ f ∈ m.funcs, func5 f = true) (h4 : ∀ g ∈ m.globs, glob5 g = true) (h5 : (names5 m).Nodup) (h6 : ∀ x ∈ insts5 m, bad5 m x = false) (h7 : ∀ x ∈ insts5 m, odd5 m x = false) : check5 m = 0 := by
  unfold check5
  rw [if_neg (by omega), if_neg (by rw [List.all_eq_true.2 h3, List.all_eq_true.2 h4]; simp), if_neg (fun h => h h5), if_neg, if_neg]
  · rw [List.any_eq_true]; rintro ⟨x, hx, e⟩; rw [h7 x hx] at e; cases e
  · rw [List.any_eq_true]; rintro ⟨x, hx, e⟩; rw [h6 x hx] at e; cases e
theorem okFunc_of5 {f : DFunc} (h : func5 f = true) : okFunc f := by
  obtain ⟨hl, hb⟩ := func5_all h
  refine ⟨fun b hbm => ?_, by unfold reachBytes; omega⟩
  obtain ⟨p0, p1, hn⟩ := block5_all (hb b hbm)
  obtain ⟨hall, hterm⟩ := block5_more (hb b hbm)
  obtain ⟨t1, t2, _⟩ := term5_all hterm h
  refine ⟨fun x hx => ?_, by unfold reachBytes; omega, by unfold okTerm reachBytes; omega⟩
  obtain ⟨i, hi⟩ := List.mem_iff_getElem?.1 hx
  have := (inst5_all (allFrom_at b.ins b.params i x hall hi)).1
  unfold okInst reachBytes; omega
theorem G10_none {ms : List DMod} (hrt : ∀ m ∈ ms, check5 m = 0) {i : Nat} {m : DMod} (hi : ms[i]? = some m) {x : ByteArray × Int} (hx : x ∈ its10 m) (hb : ¬ x.2 = 1) : ren10 (G10 ms i m) x.1 = x.1 := by
  obtain ⟨k, hk⟩ := List.mem_iff_getElem?.1 hx
  unfold ren10
  rw [show G10 ms i m x.1 = none from mod10_none (its_once (hrt _ (List.mem_of_getElem? hi))) hk hb]; rfl
theorem G10_some {ms : List DMod} (hrt : ∀ m ∈ ms, check5 m = 0) {i : Nat} {m : DMod} (hi : ms[i]? = some m) {x : ByteArray × Int} (hx : x ∈ its10 m) (hb : x.2 = 1) : ∃ k, ren10 (G10 ms i m) x.1 = dot10 k ∧ dot10 k ∉ nm10 ms := by
  obtain ⟨k, hk⟩ := List.mem_iff_getElem?.1 hx
  unfold ren10
  obtain ⟨h1, _⟩ := mod10_at (t := nm10 ms) (n := (nam10 (nm10 ms) (ms.take i)).2) (its_once (hrt _ (List.mem_of_getElem? hi))) hk hb
  rw [show G10 ms i m x.1 = some _ from h1]
  exact ⟨_, rfl, loc10_not _ _⟩
theorem its_memF {m : DMod} {f : DFunc} (h : f ∈ m.funcs) : (f.name, f.bind) ∈ its10 m := List.mem_append_left _ (List.mem_map.2 ⟨f, h, rfl⟩)
theorem its_memG {m : DMod} {f : DGlob} (h : f ∈ m.globs) : (f.name, f.bind) ∈ its10 m := List.mem_append_right _ (List.mem_map.2 ⟨f, h, rfl⟩)
section
variable {ms : List DMod} {ks : List ByteArray} (hrt : ∀ m ∈ ms, check5 m = 0) (hok : (all9 (items9 ms)).2 = 0)
include hrt hok
/-- A shared name's function has the values that its items have. -/
theorem par_shared {f' : DFunc} (hf : f' ∈ (ot10 ms ks).fs) (hs : f'.name ∈ nm10 ms) : f'.params = par10 ms f'.name := by
  obtain ⟨i, m, f, hi, hm, ⟨hb, rfl⟩ | ⟨hb, rfl⟩⟩ := (srcs10 ms ks).f f' hf
  · obtain ⟨k, h1, h2⟩ := G10_some hrt hi (its_memF hm) hb
    exact absurd (by rw [← h1]; exact hs) h2
  · have h1 : ren10 (G10 ms i m) f.name = f.name := G10_none hrt hi (its_memF hm) hb
    show f.params = par10 ms (ren10 (G10 ms i m) f.name)
    rw [h1]; exact (kindF hok hi hm hb).2.2
/-- Each function that there was is there, under its new name. -/
theorem has_fun {i : Nat} {m : DMod} (hi : ms[i]? = some m) {f : DFunc} (hf : f ∈ m.funcs) : ∃ f' ∈ (ot10 ms ks).fs, f'.name = ren10 (G10 ms i m) f.name ∧ f'.params = f.params := by
  by_cases hb : f.bind = 1
  · obtain ⟨s, hle⟩ := at_fun (ds := ds10 ms) (ks := ks) hi (nam10_at (t := nm10 ms) hi) hf
    obtain ⟨r, e⟩ := hle.fs
    refine ⟨rename10 (G10 ms i m) f, ?_, rfl, rfl⟩
    show _ ∈ (out10 _ _ _).fs
    rw [e]
    unfold fun10
    rw [if_pos hb]
    exact List.mem_append_left _ (List.mem_append_right _ (List.mem_singleton.2 rfl))
  · obtain ⟨k1, k2, k3⟩ := kindF hok hi hf hb
    have h1 : ren10 (G10 ms i m) f.name = f.name := G10_none hrt hi (its_memF hf) hb
    obtain ⟨f', hf', e⟩ := List.mem_map.1 (((invAll ks hrt hok).dn f.name (done10 ks hok k1)).1 k2)
    refine ⟨f', hf', by rw [h1]; exact e, ?_⟩
    rw [par_shared hrt hok hf' (by rw [e]; exact k1), e, k3]
theorem has_glob {i : Nat} {m : DMod} (hi : ms[i]? = some m) {f : DGlob} (hf : f ∈ m.globs) : ∃ f' ∈ (ot10 ms ks).gs, f'.name = ren10 (G10 ms i m) f.name := by
  by_cases hb : f.bind = 1
  · obtain ⟨s, hle⟩ := at_glob (ds := ds10 ms) (ks := ks) hi (nam10_at (t := nm10 ms) hi) hf
    obtain ⟨r, e⟩ := hle.gs
    refine ⟨renG (G10 ms i m) f, ?_, rfl⟩
    show _ ∈ (out10 _ _ _).gs
    rw [e]
    unfold glob10
    rw [if_pos hb]
    exact List.mem_append_left _ (List.mem_append_right _ (List.mem_singleton.2 rfl))
  · obtain ⟨k1, k2⟩ := kindG hok hi hf hb
    have h1 : ren10 (G10 ms i m) f.name = f.name := G10_none hrt hi (its_memG hf) hb
    obtain ⟨f', hf', e⟩ := List.mem_map.1 (((invAll ks hrt hok).dn f.name (done10 ks hok k1)).2 k2)
    exact ⟨f', hf', by rw [h1]; exact e⟩
variable (hml : ms.length ≤ 16)
include hml
omit hok in
theorem func_right {f' : DFunc} (hf : f' ∈ (ot10 ms ks).fs) : func5 f' = true ∧ 0 < f'.blocks.length := by
  obtain ⟨i, m, f, hi, hm, hc⟩ := (srcs10 ms ks).f f' hf
  have hG := goodG hrt hml hi
  obtain ⟨_, _, h5, _⟩ := check5_all (hrt m (List.mem_of_getElem? hi))
  have hf5 := h5 f hm
  rcases hc with ⟨hb, rfl⟩ | ⟨hb, rfl⟩
  · refine ⟨func5_ren hG hf5, ?_⟩
    show 0 < (f.blocks.map (renB (G10 ms i m))).length
    rw [List.length_map]
    have h7 := ((func5_iff f).1 hf5).2.2.2.2.2.2.1
    cases e : f.blocks with
    | nil => exact absurd hb (h7 e)
    | cons b r => simp
  · obtain ⟨d1, d2⟩ := func5_def ks hf5
    refine ⟨func5_ren hG d1, ?_⟩
    show 0 < ((defF ks f).blocks.map (renB (G10 ms i m))).length
    rw [List.length_map]; exact d2
omit hok in
theorem glob_right {g' : DGlob} (hg : g' ∈ (ot10 ms ks).gs) : glob5 g' = true ∧ g'.here = true := by
  obtain ⟨i, m, g, hi, hm, hc⟩ := (srcs10 ms ks).g g' hg
  have hG := goodG hrt hml hi
  obtain ⟨_, _, _, h5, _⟩ := check5_all (hrt m (List.mem_of_getElem? hi))
  have hg5 := h5 g hm
  unfold glob5 at hg5
  simp only [Bool.and_eq_true, Bool.or_eq_true, decide_eq_true_eq, Bool.not_eq_true', decide_eq_false_iff_not] at hg5
  obtain ⟨⟨⟨n1, b1⟩, b2⟩, hh⟩ := hg5
  rcases hc with ⟨hb, rfl⟩ | ⟨hb, rfl⟩
  · have hhere : g.here = true := hh.elim id fun h => absurd hb h.2
    refine ⟨?_, hhere⟩
    unfold glob5 renG
    simp only [Bool.and_eq_true, Bool.or_eq_true, decide_eq_true_eq]
    exact ⟨⟨⟨hG _ n1, b1⟩, b2⟩, .inl hhere⟩
  · refine ⟨?_, rfl⟩
    have hbd := bind10_two ks g.name
    unfold glob5 renG defG
    simp only [Bool.and_eq_true, Bool.or_eq_true, decide_eq_true_eq]
    exact ⟨⟨⟨hG _ n1, hbd.1⟩, hbd.2⟩, .inl trivial⟩
omit hrt hok hml in
/-- An instruction of what comes out: none of a name, or one that there was. -/
theorem ins_src {x' : DInst} (hx : x' ∈ insts5 ⟨(ot10 ms ks).fs, (ot10 ms ks).gs⟩) : x'.op = 1 ∨ ∃ i m x, ms[i]? = some m ∧ x ∈ insts5 m ∧ x' = renI (G10 ms i m) x := by
  obtain ⟨f', hf', hx1⟩ := List.mem_flatMap.1 hx
  obtain ⟨b', hb', hx2⟩ := List.mem_flatMap.1 hx1
  obtain ⟨i, m, f, hi, hm, hc⟩ := (srcs10 ms ks).f f' hf'
  rcases hc with ⟨hb, rfl⟩ | ⟨hb, rfl⟩
  · obtain ⟨c, hc, rfl⟩ := List.mem_map.1 (show b' ∈ f.blocks.map (renB (G10 ms i m)) from hb')
    obtain ⟨x, hx3, rfl⟩ := List.mem_map.1 (show x' ∈ c.ins.map (renI (G10 ms i m)) from hx2)
    exact .inr ⟨i, m, x, hi, List.mem_flatMap.2 ⟨f, hm, List.mem_flatMap.2 ⟨c, hc, hx3⟩⟩, rfl⟩
  · obtain ⟨c, hc, rfl⟩ := List.mem_map.1 (show b' ∈ (defF ks f).blocks.map (renB (G10 ms i m)) from hb')
    obtain ⟨x, hx3, rfl⟩ := List.mem_map.1 (show x' ∈ c.ins.map (renI (G10 ms i m)) from hx2)
    by_cases hl : f.blocks.length = 0
    · have he : (defF ks f).blocks = nothing10 f.params := by unfold defF; simp only; rw [if_pos hl]
      rw [he] at hc
      simp only [nothing10, List.mem_singleton] at hc
      rw [hc] at hx3
      simp only [List.mem_singleton] at hx3
      left
      rw [hx3]
      unfold renI; split <;> rfl
    · have he : (defF ks f).blocks = f.blocks := by unfold defF; simp only; rw [if_neg hl]
      rw [he] at hc
      exact .inr ⟨i, m, x, hi, List.mem_flatMap.2 ⟨f, hm, List.mem_flatMap.2 ⟨c, hc, hx3⟩⟩, rfl⟩
theorem check_right (h1 : (ot10 ms ks).fs.length ≤ 16) (h2 : (ot10 ms ks).gs.length ≤ 16) : check5 ⟨(ot10 ms ks).fs, (ot10 ms ks).gs⟩ = 0 := by
  have hv := invAll ks hrt hok
  have hren : ∀ {i : Nat} {m : DMod} {x : DInst}, ms[i]? = some m → (renI (G10 ms i m) x).op = x.op ∧ (renI (G10 ms i m) x).args = x.args := fun {i m x} _ => by unfold renI; split <;> exact ⟨rfl, rfl⟩
  have hnm : ∀ {i : Nat} {m : DMod} {x : DInst}, name5 x.name = true → (renI (G10 ms i m) x).name = ren10 (G10 ms i m) x.name := fun {i m x} hn => by
    unfold renI
    split
    · rename_i e
      rw [e] at hn
      simp [name5] at hn
      exact absurd hn (by decide)
    · rfl
  refine check5_of h1 h2 (fun f hf => (func_right hrt hml hf).1) (fun g hg => (glob_right hrt hml hg).1) hv.nodup (fun x' hx => ?_) (fun x' hx => ?_)
  · rcases ins_src hx with ho | ⟨i, m, x, hi, hxm, rfl⟩
    · unfold bad5; rw [ho]; simp
    · obtain ⟨_, _, c5, g5, _, hbad, _⟩ := check5_all (hrt m (List.mem_of_getElem? hi))
      have hb := hbad x hxm
      obtain ⟨ho, _⟩ := hren (x := x) hi
      unfold bad5 at hb ⊢
      rw [ho]
      simp only [Bool.or_eq_false_iff, Bool.and_eq_false_iff, decide_eq_false_iff_not, Bool.or_eq_true, decide_eq_true_eq] at hb ⊢
      constructor
      · by_cases h14 : x.op = 14
        · right
          have hge : 0 ≤ find5 (fnames m) x.name := by omega
          obtain ⟨f2, hf2⟩ : ∃ f2, m.funcs[(find5 (fnames m) x.name).toNat]? = some f2 := ⟨_, List.getElem?_eq_getElem (find_ltF hge)⟩
          have hn2 := find_atF hge hf2
          obtain ⟨f', hf', e1, _⟩ := has_fun (ks := ks) hrt hok hi (List.mem_of_getElem? hf2)
          have hn5 : name5 x.name = true := by rw [← hn2]; exact ((func5_iff f2).1 (c5 f2 (List.mem_of_getElem? hf2))).1
          have := mem_find5 (l := fnames ⟨(ot10 ms ks).fs, (ot10 ms ks).gs⟩) (s := (renI (G10 ms i m) x).name) (List.mem_map.2 ⟨f', hf', by rw [e1, hnm hn5, hn2]⟩)
          omega
        · exact .inl h14
      · by_cases h12 : x.op = 12 ∨ x.op = 13
        · right
          have hge : 0 ≤ find5 (gnames m) x.name := by omega
          obtain ⟨f2, hf2⟩ : ∃ f2, m.globs[(find5 (gnames m) x.name).toNat]? = some f2 := ⟨_, List.getElem?_eq_getElem (find_ltG hge)⟩
          have hn2 := find_atG hge hf2
          obtain ⟨f', hf', e1⟩ := has_glob (ks := ks) hrt hok hi (List.mem_of_getElem? hf2)
          have hn5 : name5 x.name = true := by
            have := g5 f2 (List.mem_of_getElem? hf2)
            unfold glob5 at this
            simp only [Bool.and_eq_true] at this
            rw [← hn2]; exact this.1.1.1
          have := mem_find5 (l := gnames ⟨(ot10 ms ks).fs, (ot10 ms ks).gs⟩) (s := (renI (G10 ms i m) x).name) (List.mem_map.2 ⟨f', hf', by rw [e1, hnm hn5, hn2]⟩)
          omega
        · left; omega
  · rcases ins_src hx with ho | ⟨i, m, x, hi, hxm, rfl⟩
    · unfold odd5; rw [ho]; simp
    · obtain ⟨_, _, c5, _, _, hbad, hodd⟩ := check5_all (hrt m (List.mem_of_getElem? hi))
      have hb := hbad x hxm
      have hd := hodd x hxm
      obtain ⟨ho, ha⟩ := hren (x := x) hi
      unfold bad5 at hb
      unfold odd5 at hd ⊢
      rw [ho, ha]
      simp only [Bool.or_eq_false_iff, Bool.and_eq_false_iff, decide_eq_false_iff_not] at hb
      by_cases h14 : x.op = 14
      · have hge : 0 ≤ find5 (fnames m) x.name := by omega
        obtain ⟨f2, hf2⟩ : ∃ f2, m.funcs[(find5 (fnames m) x.name).toNat]? = some f2 := ⟨_, List.getElem?_eq_getElem (find_ltF hge)⟩
        have hn2 := find_atF hge hf2
        rw [hf2, h14] at hd
        simp only [decide_true, Bool.true_and, Bool.not_eq_false', decide_eq_true_eq] at hd
        obtain ⟨f', hf', e1, e2⟩ := has_fun (ks := ks) hrt hok hi (List.mem_of_getElem? hf2)
        have hn5 : name5 x.name = true := by rw [← hn2]; exact ((func5_iff f2).1 (c5 f2 (List.mem_of_getElem? hf2))).1
        rw [hnm hn5, h14]
        cases e3 : (ot10 ms ks).fs[(find5 (fnames ⟨(ot10 ms ks).fs, (ot10 ms ks).gs⟩) (ren10 (G10 ms i m) x.name)).toNat]? with
        | none => simp
        | some f3 =>
          have hge3 := mem_find5 (l := fnames ⟨(ot10 ms ks).fs, (ot10 ms ks).gs⟩) (s := ren10 (G10 ms i m) x.name) (List.mem_map.2 ⟨f', hf', by rw [e1, hn2]⟩)
          have hn3 := find_atF hge3 e3
          obtain ⟨j, hj⟩ := List.mem_iff_getElem?.1 hf'
          have hij := name_once (M := ⟨(ot10 ms ks).fs, (ot10 ms ks).gs⟩) (List.nodup_append.1 hv.nodup).1 e3 hj (by rw [hn3, e1, hn2])
          rw [hij] at e3
          have hj2 : (ot10 ms ks).fs[j]? = some f' := hj
          rw [hj2] at e3
          obtain rfl := Option.some.inj e3
          show (decide ((14 : Int) = 14) && !decide (f'.params = (x.args.length : Int))) = false
          rw [e2, hd]; simp
      · simp [h14]
/-- What comes out is whole. -/
theorem whole_right (h1 : (ot10 ms ks).fs.length ≤ 16) (h2 : (ot10 ms ks).gs.length ≤ 16) (hmain : 0 ≤ find5 (fnames ⟨(ot10 ms ks).fs, (ot10 ms ks).gs⟩) mainB) : whole7 ⟨(ot10 ms ks).fs, (ot10 ms ks).gs⟩ = 0 := by
  have hc := check_right (ks := ks) hrt hok hml h1 h2
  unfold whole7
  rw [if_neg (fun h => h hc), if_neg (by omega)]
  cases e : (ot10 ms ks).fs[(find5 (fnames ⟨(ot10 ms ks).fs, (ot10 ms ks).gs⟩) mainB).toNat]? with
  | none =>
    have := find_ltF hmain
    rw [List.getElem?_eq_none_iff] at e
    exact absurd this (by simp only; omega)
  | some f =>
    have hn := find_atF hmain e
    have hf := List.mem_of_getElem? e
    obtain ⟨m1, _, _, m4⟩ := main10 hok
    have hp := par_shared hrt hok hf (by rw [hn]; exact m1)
    rw [hn, m4] at hp
    have hbl := (func_right hrt hml hf).2
    simp only
    rw [if_neg (by rintro (h | h); omega; exact h hp), if_neg]
    rw [List.any_eq_true]
    rintro ⟨s, hs, ho⟩
    obtain ⟨f2, hf2, hs2⟩ := List.mem_flatMap.1 hs
    have ht := ref_there hc hf2 hs2
    unfold open7 at ho
    split at ho
    · rename_i hge
      obtain ⟨f3, hf3⟩ : ∃ f3, (ot10 ms ks).fs[(find5 (fnames ⟨(ot10 ms ks).fs, (ot10 ms ks).gs⟩) s).toNat]? = some f3 := ⟨_, List.getElem?_eq_getElem (find_ltF hge)⟩
      have hb3 := (func_right hrt hml (List.mem_of_getElem? hf3)).2
      simp only at ho
      rw [hf3] at ho
      simp only [decide_eq_true_eq] at ho
      omega
    · rename_i hlt
      have hge : 0 ≤ find5 (gnames ⟨(ot10 ms ks).fs, (ot10 ms ks).gs⟩) s := by omega
      obtain ⟨f3, hf3⟩ : ∃ f3, (ot10 ms ks).gs[(find5 (gnames ⟨(ot10 ms ks).fs, (ot10 ms ks).gs⟩) s).toNat]? = some f3 := ⟨_, List.getElem?_eq_getElem (find_ltG hge)⟩
      have hb3 := (glob_right hrt hml (List.mem_of_getElem? hf3)).2
      simp only at ho
      rw [hf3] at ho
      simp only [hb3] at ho
      cases ho
end
/-- All that MergeWhole says. -/
theorem whole10_facts {ms : List DMod} {ks : List ByteArray} (hrt : ∀ m ∈ ms, check5 m = 0) (hml : ms.length ≤ 16) (h : (merge10 ms ks).2 = 0) :
    whole7 (merge10 ms ks).1 = 0 ∧ okMod (merge10 ms ks).1 ∧ (∀ f ∈ (merge10 ms ks).1.funcs, 0 < f.blocks.length) ∧ ∀ g ∈ (merge10 ms ks).1.globs, g.here = true := by
  have hmain := (out10_facts hrt h).main
  obtain ⟨hok, hl, e, h1, h2⟩ := merge10_ok h
  rw [e] at hmain ⊢
  refine ⟨whole_right hrt hok hml h1 h2 hmain, ⟨fun f hf => okFunc_of5 (func_right hrt hml hf).1, ?_, ?_⟩, fun f hf => (func_right hrt hml hf).2, fun g hg => (glob_right hrt hml hg).2⟩
  · unfold reachBytes; simp only; omega
  · unfold reachBytes; simp only; omega
end Go.Proofs.YtapjejjmhmdmdaaDoor
