/-
  Contracts of layer 9 (resolve). No condition beyond those that each theorem states.
-/
import Derived.Test.YtapjejjmhmdmdaaDoorN7
namespace Go.Proofs.YtapjejjmhmdmdaaDoor
open Go.RowKit
theorem fo_66_2 : fOff Tryd.prog 66 2 2 = true := by kernel_rfl
def of9 (xs : List DItem) (t : ByteArray) : List DItem := xs.filter fun x => decide (x.name = t)
def wr9 (xs : List DItem) (t : ByteArray) : Int := wrong9 (of9 xs t)
def codeE (e : Nat) : Int := if e = 0 then 10 else if e = 1 then 9 else 8
def ent9 (g : List DItem) : Bool := decide ((def9 g).name = mainB) && (def9 g).fn && (def9 g).here && decide ((g.getD 0 item0).params = 0)
theorem wr9_any {xs : List DItem} {p : List DItem → Bool} : (grp9 xs).any p = true ↔ ∃ s ∈ nms9 xs, p (of9 xs s) = true := any_grp
theorem rall_bad {xs : List DItem} {e : Nat} (he : e < 3) (h : ∀ j, j < e → ∀ s ∈ nms9 xs, ¬ wr9 xs s = codeE j) {s : ByteArray} (hs : s ∈ nms9 xs) (hw : wr9 xs s = codeE e) : all9 xs = ([], codeE e) := by
  have no : ∀ {p : List DItem → Bool}, (∀ s ∈ nms9 xs, p (of9 xs s) = false) → ¬ (grp9 xs).any p = true := fun hp hc => by
    obtain ⟨s, hs, hq⟩ := wr9_any.1 hc
    rw [hp s hs] at hq; cases hq
  unfold all9
  match e, he with
  | 0, _ =>
    have : oddG (of9 xs s) = true := by
      apply Classical.byContradiction; intro hn
      unfold wr9 wrong9 at hw
      rw [if_neg hn, show codeE 0 = 10 from rfl] at hw
      (repeat' split at hw) <;> omega
    rw [if_pos (wr9_any.2 ⟨s, hs, this⟩)]; rfl
  | 1, _ =>
    have h0 := no (p := oddG) fun t ht => by
      cases hq : oddG (of9 xs t) with
      | false => rfl
      | true => exact absurd (by unfold wr9 wrong9; rw [hq, if_pos rfl]; rfl) (h 0 (by omega) t ht)
    rw [if_neg h0]
    have : (fun g => decide (1 < many9 g)) (of9 xs s) = true := by
      apply Classical.byContradiction; intro hn
      unfold wr9 wrong9 at hw
      rw [if_neg (fun hc => h0 (wr9_any.2 ⟨s, hs, hc⟩)), if_neg (fun hc => hn (decide_eq_true hc)), show codeE 1 = 9 from rfl] at hw
      split at hw <;> omega
    rw [if_pos (wr9_any.2 ⟨s, hs, this⟩)]; rfl
  | 2, _ =>
    have h0 := no (p := oddG) fun t ht => by
      cases hq : oddG (of9 xs t) with
      | false => rfl
      | true => exact absurd (by unfold wr9 wrong9; rw [hq, if_pos rfl]; rfl) (h 0 (by omega) t ht)
    have h1 := no (p := fun g => decide (1 < many9 g)) fun t ht => by
      apply decide_eq_false
      intro hq
      refine absurd ?_ (h 1 (by omega) t ht)
      unfold wr9 wrong9
      rw [if_neg (fun hc => h0 (wr9_any.2 ⟨t, ht, hc⟩)), if_pos hq]; rfl
    rw [if_neg h0, if_neg h1]
    have : missing9 (of9 xs s) = true := by
      apply Classical.byContradiction; intro hn
      unfold wr9 wrong9 at hw
      rw [if_neg (fun hc => h0 (wr9_any.2 ⟨s, hs, hc⟩)), if_neg (fun hc => h1 (wr9_any.2 ⟨s, hs, decide_eq_true hc⟩)), if_neg hn, show codeE 2 = 8 from rfl] at hw
      omega
    rw [if_pos (wr9_any.2 ⟨s, hs, this⟩)]; rfl
theorem ent9_any (xs : List DItem) : (nms9 xs).any (fun s => ent9 (of9 xs s)) = entry9 (grp9 xs) := by
  rw [entry9_eq, Bool.eq_iff_iff, List.any_eq_true]
  have hn : ∀ s ∈ nms9 xs, (def9 (of9 xs s)).name = s := fun s hs => of_decide_eq_true (List.mem_filter.1 (getD_mem item0 (filter_mem_ne hs))).2
  constructor
  · rintro ⟨s, hs, he⟩
    unfold ent9 at he
    simp only [Bool.and_eq_true, decide_eq_true_eq] at he
    obtain ⟨⟨⟨h1, h2⟩, h3⟩, h4⟩ := he
    rw [hn s hs] at h1
    subst h1
    simp only [Bool.and_eq_true, decide_eq_true_eq]
    refine ⟨hs, ?_⟩
    unfold okMain
    simp only [Bool.and_eq_true, decide_eq_true_eq]
    exact ⟨⟨h3, h2⟩, h4⟩
  · intro h
    simp only [Bool.and_eq_true, decide_eq_true_eq] at h
    obtain ⟨hs, hk⟩ := h
    refine ⟨mainB, hs, ?_⟩
    unfold okMain at hk
    simp only [Bool.and_eq_true, decide_eq_true_eq] at hk
    unfold ent9
    simp only [Bool.and_eq_true, decide_eq_true_eq]
    exact ⟨⟨⟨hn _ hs, hk.1.2⟩, hk.1.1⟩, hk.2⟩
theorem rall_end {xs : List DItem} (h : ∀ j, j < 3 → ∀ s ∈ nms9 xs, ¬ wr9 xs s = codeE j) : all9 xs = if (nms9 xs).any (fun s => ent9 (of9 xs s)) = true then ((nms9 xs).map fun s => def9 (of9 xs s), 0) else ([], 11) := by
  have no : ∀ {p : List DItem → Bool}, (∀ s ∈ nms9 xs, p (of9 xs s) = false) → ¬ (grp9 xs).any p = true := fun hp hc => by
    obtain ⟨s, hs, hq⟩ := wr9_any.1 hc
    rw [hp s hs] at hq; cases hq
  have h0 := no (p := oddG) fun t ht => by
    cases hq : oddG (of9 xs t) with
    | false => rfl
    | true => exact absurd (by unfold wr9 wrong9; rw [hq, if_pos rfl]; rfl) (h 0 (by omega) t ht)
  have h1 := no (p := fun g => decide (1 < many9 g)) fun t ht => by
    apply decide_eq_false
    intro hq
    refine absurd ?_ (h 1 (by omega) t ht)
    unfold wr9 wrong9
    rw [if_neg (fun hc => h0 (wr9_any.2 ⟨t, ht, hc⟩)), if_pos hq]; rfl
  have h2 := no (p := missing9) fun t ht => by
    cases hq : missing9 (of9 xs t) with
    | false => rfl
    | true =>
      refine absurd ?_ (h 2 (by omega) t ht)
      unfold wr9 wrong9
      rw [if_neg (fun hc => h0 (wr9_any.2 ⟨t, ht, hc⟩)), if_neg (fun hc => h1 (wr9_any.2 ⟨t, ht, decide_eq_true hc⟩)), if_pos hq]; rfl
  unfold all9
  rw [if_neg h0, if_neg h1, if_neg h2, ent9_any]
  split
  · unfold grp9; rw [List.map_map]; rfl
  · rfl

set_option maxRecDepth 10000 in
set_option maxHeartbeats 4000000 in
theorem rall_ret (ms : List DMod) (vx : Value) {w : World} {ro : Nat → Prop} (hro : ∀ b, ro b → b < w.heap.size) (hx : SlV ro w 2 (ModC ro w) vx ms) (hmx : (items9 ms).length ≤ 1048576) : Ret Tryd.prog 32 #[vx] w fun v w' => ∃ sv, v = .tuple #[sv, .int .i64 (all9 (items9 ms)).2] ∧ SlV (roFrom ro w w') w' 5 DefC sv (all9 (items9 ms)).1 ∧ Below w.heap.size w w' := by
 have hxo := hx
 obtain ⟨adl, capl, rfl, hla, hlb, hlc, hld⟩ := hxo
 have hlm : ms.length ≤ 9223372036854775807 := slv_len hx
 refine Ret.enter (P := Tryd.prog) (n := 100) (args := [.slice adl ms.length capl]) (σ := [(0, .slice adl ms.length capl)]) Tryd.func32 rfl rfl rfl rfl ?_
 have hS := St.start (ro := ro) hro
 have hsub : ∀ b, ro b → ro b ∨ w.heap.size ≤ b := fun _ h => .inl h
 refine W.seq (W.region (WL.assign rfl rfl rfl (WL.assign rfl rfl rfl (WL.nil (N.seq (W.seq (W.region (WL.move rfl rfl rfl ?_))))))))
 refine WL.callF (vs := [.slice adl ms.length capl]) Tryd.func23 (by kernel_rfl) rfl rfl rfl (rItems_ret ms _ (ro := ro) (fun b hb => (hS.snap b hb).1) (SlV.keep hx hS.alike (fun _ _ q => q.keep hS.alike)) hmx) ?_
 rintro vi w1 ⟨hiv, hbl⟩
 have hal2 := hS.alikeTo hbl (ro' := (roFrom ro w w1)) (fun b hb => .inl hb)
 replace hsub : ∀ b, (roFrom ro w w1) b → ro b ∨ w.heap.size ≤ b := fun b hb => hb.elim (hsub b) (fun h => .inr (Nat.le_trans hS.below.size h.1))
 replace hx := SlV.keep hx hal2 (fun _ _ h => h.keep hal2)
 replace hS := hS.readNew hbl
 obtain ⟨xs, hxs⟩ : ∃ xs, xs = items9 ms := ⟨_, rfl⟩
 rw [← hxs] at hiv
 replace hiv := SlV.keep hiv (ro' := (roFrom ro w w1)) (w' := w1) (Q' := ItemC) (fun x hx => ⟨.inr hx, rfl⟩) (fun _ _ h => h)
 have hxl : xs.length ≤ 1048576 := by rw [hxs]; exact hmx
 obtain ⟨adi, capi, rfl, hia, hib, hic, hid⟩ := id hiv
 have him : xs.length ≤ 9223372036854775807 := by have h1 := hia; have h2 := hib; unfold maxLen at h2; omega
 refine WL.assign rfl rfl rfl (WL.nil (N.seq (W.seq (W.region (WL.move rfl rfl rfl ?_)))))
 refine WL.callF (vs := [.slice adl ms.length capl]) Tryd.func11 (by kernel_rfl) rfl rfl rfl (rNames_ret ms _ (ro := (roFrom ro w w1)) (fun b hb => (hS.snap b hb).1) (SlV.keep hx hS.alike (fun _ _ q => q.keep hS.alike)) hmx) ?_
 rintro vn w3 ⟨hnv, hbl⟩
 have hal4 := hS.alikeTo hbl (ro' := (roFrom (roFrom ro w w1) w1 w3)) (fun b hb => .inl hb)
 replace hsub : ∀ b, (roFrom (roFrom ro w w1) w1 w3) b → ro b ∨ w.heap.size ≤ b := fun b hb => hb.elim (hsub b) (fun h => .inr (Nat.le_trans hS.below.size h.1))
 replace hx := SlV.keep hx hal4 (fun _ _ h => h.keep hal4)
 replace hiv := SlV.keep hiv hal4 (fun _ _ h => h)
 replace hS := hS.readNew hbl
 obtain ⟨ns, hns⟩ : ∃ ns, ns = nms9 xs := ⟨_, rfl⟩
 rw [← hxs, ← hns] at hnv
 replace hnv := SlV.keep hnv (ro' := (roFrom (roFrom ro w w1) w1 w3)) (w' := w3) (Q' := StrC) (fun x hx => ⟨.inr hx, rfl⟩) (fun _ _ h => h)
 have hnl : ns.length ≤ 1048576 := by have h := nms9_length xs; rw [← hns] at h; omega
 obtain ⟨adn, capn, rfl, hna, hnb, hnc, hnd⟩ := id hnv
 have hnm : ns.length ≤ 9223372036854775807 := by have h1 := hna; have h2 := hnb; unfold maxLen at h2; omega
 refine WL.assign rfl rfl rfl (WL.nil (N.seq (W.seq (W.seq (W.region (WL.assign rfl rfl rfl (WL.nil (N.seq (W.block ?_)))))))))
 refine W.loop (α := Nat) (fun (e : Nat) => [(4, .slice adi xs.length capi), (5, .slice adn ns.length capn), (6, .int .i64 (e : Int))]) (fun (e : Nat) u => St w w3 u (roFrom (roFrom ro w w1) w1 w3) [] [] ∧ e ≤ 3 ∧ ∀ j, j < e → ∀ s ∈ ns, ¬ wr9 xs s = codeE j) (fun (e : Nat) => 3 - e) 0 ⟨rfl, rfl, rfl, trivial⟩ ⟨hS, by omega, fun j hj => by omega⟩ ?_
 clear hS
 rintro e w5 ⟨hS, he, hpr⟩
 refine W.seq (W.seq (W.region (WL.move rfl rfl rfl (WL.bin rfl rfl rfl rfl rfl (WL.nil (N.seq ?_))))))
 refine W.cond rfl (fun hc6 => ?_) (fun hc6 => ?_)
 ·
  have hc6p : (e : Int) < 3 := by simpa using hc6
  refine W.skip (N.seq (W.seq (W.block (W.seq (W.region (WL.assign rfl rfl rfl (WL.nil (N.seq (W.block ?_)))))))))
  refine W.loop (α := Nat) (fun (i : Nat) => [(4, .slice adi xs.length capi), (5, .slice adn ns.length capn), (6, .int .i64 (e : Int)), (7, .int .i64 (i : Int))]) (fun (i : Nat) u => St w w3 u (roFrom (roFrom ro w w1) w1 w3) [] [] ∧ i ≤ ns.length ∧ ∀ s ∈ ns.take i, ¬ wr9 xs s = codeE e) (fun (i : Nat) => ns.length - i) 0 ⟨rfl, rfl, rfl, rfl, trivial⟩ ⟨hS, Nat.zero_le _, by simp⟩ ?_
  clear hS
  rintro i w7 ⟨hS, hi, hal⟩
  refine W.seq (W.seq (W.region (WL.move rfl rfl rfl (WL.move rfl rfl rfl (WL.lenSlice Tryd.underlying25 rfl rfl rfl (WL.bin rfl rfl rfl rfl rfl (WL.nil (N.seq ?_))))))))
  refine W.cond rfl (fun hc8 => ?_) (fun hc8 => ?_)
  ·
   have hc8p : (i : Int) < (ns.length : Int) := by simpa using hc8
   refine W.skip (N.seq (W.seq (W.block (W.seq (W.region (WL.move rfl rfl rfl (WL.move rfl rfl rfl (WL.move rfl rfl rfl ?_))))))))
   have hj9 : i < ns.length := by omega
   obtain ⟨x9, hx9⟩ : ∃ zz, ns[i]? = some zz := ⟨_, List.getElem?_eq_getElem hj9⟩
   obtain ⟨b9, o9, cs9, hE9, hr9, hl9, hc9, hQ9⟩ := hnd i _ hx9
   obtain ⟨rfl, hsz9⟩ := hQ9
   refine WL.indexAddrE (j := i) Tryd.underlying25 isz_9 rfl rfl rfl rfl hj9 hE9 (WL.load1 (v := .string x9) one_9 rfl rfl rfl (hS.roCells hr9 hc9 0 _ rfl) ?_)
   refine WL.callF (vs := [.slice adi xs.length capi, .string x9]) Tryd.func69 (by kernel_rfl) rfl rfl rfl (rof_ret xs x9 _ (ro := (roFrom (roFrom ro w w1) w1 w3)) (fun b hb => (hS.snap b hb).1) (SlV.keep hiv hS.alike (fun _ _ q => q)) hxl) ?_
   rintro vg w10 ⟨hgv, hbl⟩
   replace hS := hS.grow hbl
   obtain ⟨wv, hwv⟩ : ∃ z, z = wr9 xs x9 := ⟨_, rfl⟩
   refine WL.callF (vs := [vg]) Tryd.func68 (by kernel_rfl) rfl rfl rfl (rwrong_ret (of9 xs x9) _ (ro := fun z => z < w10.heap.size) (fun _ h => h) (SlV.keep hgv (fun x hx => ⟨hx.2, rfl⟩) (fun _ _ q => q))) ?_
   rintro v w11 ⟨rfl, hbl⟩
   replace hS := hS.grow hbl
   refine WL.set 34 (v' := .int .i64 wv) rfl (by rw [hwv]; rfl) ?_
   refine WL.assign rfl rfl rfl (WL.nil (N.seq (W.seq (W.region (WL.move rfl rfl rfl (WL.bin rfl rfl rfl rfl rfl (WL.move rfl rfl rfl ?_)))))))
   rcases (Bool.eq_false_or_eq_true (decide ((e : Int) = 0))).symm with hg12 | hg12
   ·
    refine WL.set 36 (v' := .bool false) rfl (by rw [hg12]) ?_
    refine WL.set 37 (v' := .bool false) rfl (by rw [hg12]) ?_
    have hg12p : ¬ ((e : Int) = 0) := by simpa using hg12
    refine WL.skp rfl rfl (WL.skp rfl rfl (WL.pick (v := .bool false) rfl rfl rfl rfl rfl rfl (WL.move rfl rfl rfl (WL.move rfl rfl rfl (WL.bin rfl rfl rfl rfl rfl (WL.move rfl rfl rfl ?_))))))
    rcases (Bool.eq_false_or_eq_true (decide ((e : Int) = 1))).symm with hg13 | hg13
    ·
     refine WL.set 43 (v' := .bool false) rfl (by rw [hg13]) ?_
     refine WL.set 44 (v' := .bool false) rfl (by rw [hg13]) ?_
     have hg13p : ¬ ((e : Int) = 1) := by simpa using hg13
     refine WL.skp rfl rfl (WL.skp rfl rfl (WL.pick (v := .bool false) rfl rfl rfl rfl rfl rfl (WL.pick (v := .bool false) rfl rfl rfl rfl rfl rfl (WL.move rfl rfl rfl (WL.move rfl rfl rfl (WL.bin rfl rfl rfl rfl rfl (WL.move rfl rfl rfl ?_)))))))
     rcases (Bool.eq_false_or_eq_true (decide ((e : Int) = 2))).symm with hg14 | hg14
     ·
      refine WL.set 51 (v' := .bool false) rfl (by rw [hg14]) ?_
      refine WL.set 52 (v' := .bool false) rfl (by rw [hg14]) ?_
      have hg14p : ¬ ((e : Int) = 2) := by simpa using hg14
      refine WL.skp rfl rfl (WL.skp rfl rfl (WL.pick (v := .bool false) rfl rfl rfl rfl rfl rfl (WL.pick (v := .bool false) rfl rfl rfl rfl rfl rfl (WL.nil (N.seq (W.condF rfl (W.skip (N.blk (N.seq ?_)))))))))
      refine W.region (WL.move rfl rfl rfl ?_)
      refine WL.add (c := (i : Int) + 1) rfl rfl rfl rfl (rfl) (by omega) ?_
      refine WL.assign rfl rfl rfl (WL.nil ?_)
      have hne : ¬ wv = codeE e := (by unfold codeE; split <;> (try split) <;> omega)
      have hal2 : ∀ s ∈ ns.take (i + 1), ¬ wr9 xs s = codeE e := by
       rw [take_next hx9]; intro s hs; rcases List.mem_append.1 hs with hs | hs
       ·
        exact hal s hs
       simp only [List.mem_cons, List.not_mem_nil, or_false] at hs; subst hs; rw [← hwv]; exact hne
      exact N.loop (i + 1) ⟨rfl, rfl, rfl, rfl, trivial⟩ ⟨hS, by omega, hal2⟩ (by first | omega | (simp only; omega))
     refine WL.set 51 (v' := .bool true) rfl (by rw [hg14]) ?_
     refine WL.set 52 (v' := .bool true) rfl (by rw [hg14]) ?_
     have hg14p : (e : Int) = 2 := by simpa using hg14
     refine WL.move rfl rfl rfl (WL.bin rfl rfl rfl rfl rfl (WL.pick (v := .bool (decide (wv = 8))) rfl rfl rfl rfl rfl rfl (WL.pick (v := .bool (decide (wv = 8))) rfl rfl rfl rfl rfl rfl (WL.nil (N.seq ?_)))))
     refine W.cond rfl (fun hc15 => ?_) (fun hc15 => ?_)
     ·
      have hc15p : wv = 8 := by simpa using hc15
      refine W.seq (W.region (WL.move rfl rfl rfl (WL.assign rfl rfl rfl (WL.assign rfl rfl rfl (WL.nil (N.seq ?_))))))
      refine Fin.ret2 rfl (v := .slice none 0 0) (v' := .int .i64 wv) rfl rfl ?_
      have hce : wv = codeE e := (by unfold codeE; split <;> (try split) <;> omega)
      have hall := rall_bad (xs := items9 ms) (e := e) (by omega) (by rw [← hxs, ← hns]; exact hpr) (s := x9) (by rw [← hxs, ← hns]; exact List.mem_of_getElem? hx9) (by rw [← hxs, ← hwv]; exact hce)
      rw [hall, ← hce]
      exact ⟨_, rfl, slv_nil, hS.below⟩
     have hc15p : ¬ (wv = 8) := by simpa using hc15
     refine W.skip (N.blk (N.seq (W.region (WL.move rfl rfl rfl ?_))))
     refine WL.add (c := (i : Int) + 1) rfl rfl rfl rfl (rfl) (by omega) ?_
     refine WL.assign rfl rfl rfl (WL.nil ?_)
     have hne : ¬ wv = codeE e := (by unfold codeE; split <;> (try split) <;> omega)
     have hal2 : ∀ s ∈ ns.take (i + 1), ¬ wr9 xs s = codeE e := by
      rw [take_next hx9]; intro s hs; rcases List.mem_append.1 hs with hs | hs
      ·
       exact hal s hs
      simp only [List.mem_cons, List.not_mem_nil, or_false] at hs; subst hs; rw [← hwv]; exact hne
     exact N.loop (i + 1) ⟨rfl, rfl, rfl, rfl, trivial⟩ ⟨hS, by omega, hal2⟩ (by first | omega | (simp only; omega))
    refine WL.set 43 (v' := .bool true) rfl (by rw [hg13]) ?_
    refine WL.set 44 (v' := .bool true) rfl (by rw [hg13]) ?_
    have hg13p : (e : Int) = 1 := by simpa using hg13
    refine WL.move rfl rfl rfl (WL.bin rfl rfl rfl rfl rfl (WL.pick (v := .bool (decide (wv = 9))) rfl rfl rfl rfl rfl rfl (WL.pick (v := .bool (decide (wv = 9))) rfl rfl rfl rfl rfl rfl (WL.move rfl rfl rfl ?_))))
    rcases (Bool.eq_false_or_eq_true (decide (wv = 9))).symm with hg16 | hg16
    ·
     refine WL.set 46 (v' := .bool false) rfl (by rw [hg16]) ?_
     refine WL.set 47 (v' := .bool false) rfl (by rw [hg16]) ?_
     refine WL.set 48 (v' := .bool false) rfl (by rw [hg16]) ?_
     refine WL.set 49 (v' := .bool false) rfl (by rw [hg16]) ?_
     have hg16p : ¬ (wv = 9) := by simpa using hg16
     refine WL.move rfl rfl rfl (WL.bin rfl rfl rfl rfl rfl (WL.move rfl rfl rfl ?_))
     rcases (Bool.eq_false_or_eq_true (decide ((e : Int) = 2))).symm with hg17 | hg17
     ·
      refine WL.set 51 (v' := .bool false) rfl (by rw [hg17]) ?_
      refine WL.set 52 (v' := .bool false) rfl (by rw [hg17]) ?_
      have hg17p : ¬ ((e : Int) = 2) := by simpa using hg17
      refine WL.skp rfl rfl (WL.skp rfl rfl (WL.pick (v := .bool false) rfl rfl rfl rfl rfl rfl (WL.pick (v := .bool false) rfl rfl rfl rfl rfl rfl (WL.nil (N.seq (W.condF rfl (W.skip (N.blk (N.seq ?_)))))))))
      refine W.region (WL.move rfl rfl rfl ?_)
      refine WL.add (c := (i : Int) + 1) rfl rfl rfl rfl (rfl) (by omega) ?_
      refine WL.assign rfl rfl rfl (WL.nil ?_)
      have hne : ¬ wv = codeE e := (by unfold codeE; split <;> (try split) <;> omega)
      have hal2 : ∀ s ∈ ns.take (i + 1), ¬ wr9 xs s = codeE e := by
       rw [take_next hx9]; intro s hs; rcases List.mem_append.1 hs with hs | hs
       ·
        exact hal s hs
       simp only [List.mem_cons, List.not_mem_nil, or_false] at hs; subst hs; rw [← hwv]; exact hne
      exact N.loop (i + 1) ⟨rfl, rfl, rfl, rfl, trivial⟩ ⟨hS, by omega, hal2⟩ (by first | omega | (simp only; omega))
     refine WL.set 51 (v' := .bool true) rfl (by rw [hg17]) ?_
     refine WL.set 52 (v' := .bool true) rfl (by rw [hg17]) ?_
     have hg17p : (e : Int) = 2 := by simpa using hg17
     refine WL.move rfl rfl rfl (WL.bin rfl rfl rfl rfl rfl (WL.pick (v := .bool (decide (wv = 8))) rfl rfl rfl rfl rfl rfl (WL.pick (v := .bool (decide (wv = 8))) rfl rfl rfl rfl rfl rfl (WL.nil (N.seq ?_)))))
     refine W.cond rfl (fun hc18 => ?_) (fun hc18 => ?_)
     ·
      have hc18p : wv = 8 := by simpa using hc18
      refine W.seq (W.region (WL.move rfl rfl rfl (WL.assign rfl rfl rfl (WL.assign rfl rfl rfl (WL.nil (N.seq ?_))))))
      refine Fin.ret2 rfl (v := .slice none 0 0) (v' := .int .i64 wv) rfl rfl ?_
      have hce : wv = codeE e := (by unfold codeE; split <;> (try split) <;> omega)
      have hall := rall_bad (xs := items9 ms) (e := e) (by omega) (by rw [← hxs, ← hns]; exact hpr) (s := x9) (by rw [← hxs, ← hns]; exact List.mem_of_getElem? hx9) (by rw [← hxs, ← hwv]; exact hce)
      rw [hall, ← hce]
      exact ⟨_, rfl, slv_nil, hS.below⟩
     have hc18p : ¬ (wv = 8) := by simpa using hc18
     refine W.skip (N.blk (N.seq (W.region (WL.move rfl rfl rfl ?_))))
     refine WL.add (c := (i : Int) + 1) rfl rfl rfl rfl (rfl) (by omega) ?_
     refine WL.assign rfl rfl rfl (WL.nil ?_)
     have hne : ¬ wv = codeE e := (by unfold codeE; split <;> (try split) <;> omega)
     have hal2 : ∀ s ∈ ns.take (i + 1), ¬ wr9 xs s = codeE e := by
      rw [take_next hx9]; intro s hs; rcases List.mem_append.1 hs with hs | hs
      ·
       exact hal s hs
      simp only [List.mem_cons, List.not_mem_nil, or_false] at hs; subst hs; rw [← hwv]; exact hne
     exact N.loop (i + 1) ⟨rfl, rfl, rfl, rfl, trivial⟩ ⟨hS, by omega, hal2⟩ (by first | omega | (simp only; omega))
    refine WL.set 46 (v' := .bool true) rfl (by rw [hg16]) ?_
    refine WL.set 47 (v' := .bool true) rfl (by rw [hg16]) ?_
    refine WL.set 48 (v' := .bool true) rfl (by rw [hg16]) ?_
    refine WL.set 49 (v' := .bool true) rfl (by rw [hg16]) ?_
    have hg16p : wv = 9 := by simpa using hg16
    refine WL.skp rfl rfl (WL.skp rfl rfl (WL.skp rfl rfl (WL.skp rfl rfl (WL.skp rfl rfl (WL.skp rfl rfl (WL.pick (v := .bool true) rfl rfl rfl rfl rfl rfl (WL.nil (N.seq (W.condT rfl ?_)))))))))
    refine W.seq (W.region (WL.move rfl rfl rfl (WL.assign rfl rfl rfl (WL.assign rfl rfl rfl (WL.nil (N.seq ?_))))))
    refine Fin.ret2 rfl (v := .slice none 0 0) (v' := .int .i64 wv) rfl rfl ?_
    have hce : wv = codeE e := (by unfold codeE; split <;> (try split) <;> omega)
    have hall := rall_bad (xs := items9 ms) (e := e) (by omega) (by rw [← hxs, ← hns]; exact hpr) (s := x9) (by rw [← hxs, ← hns]; exact List.mem_of_getElem? hx9) (by rw [← hxs, ← hwv]; exact hce)
    rw [hall, ← hce]
    exact ⟨_, rfl, slv_nil, hS.below⟩
   refine WL.set 36 (v' := .bool true) rfl (by rw [hg12]) ?_
   refine WL.set 37 (v' := .bool true) rfl (by rw [hg12]) ?_
   have hg12p : (e : Int) = 0 := by simpa using hg12
   refine WL.move rfl rfl rfl (WL.bin rfl rfl rfl rfl rfl (WL.pick (v := .bool (decide (wv = 10))) rfl rfl rfl rfl rfl rfl (WL.move rfl rfl rfl ?_)))
   rcases (Bool.eq_false_or_eq_true (decide (wv = 10))).symm with hg19 | hg19
   ·
    refine WL.set 39 (v' := .bool false) rfl (by rw [hg19]) ?_
    refine WL.set 40 (v' := .bool false) rfl (by rw [hg19]) ?_
    refine WL.set 41 (v' := .bool false) rfl (by rw [hg19]) ?_
    have hg19p : ¬ (wv = 10) := by simpa using hg19
    refine WL.move rfl rfl rfl (WL.bin rfl rfl rfl rfl rfl (WL.move rfl rfl rfl ?_))
    rcases (Bool.eq_false_or_eq_true (decide ((e : Int) = 1))).symm with hg20 | hg20
    ·
     refine WL.set 43 (v' := .bool false) rfl (by rw [hg20]) ?_
     refine WL.set 44 (v' := .bool false) rfl (by rw [hg20]) ?_
     have hg20p : ¬ ((e : Int) = 1) := by simpa using hg20
     refine WL.skp rfl rfl (WL.skp rfl rfl (WL.pick (v := .bool false) rfl rfl rfl rfl rfl rfl (WL.pick (v := .bool false) rfl rfl rfl rfl rfl rfl (WL.move rfl rfl rfl (WL.move rfl rfl rfl (WL.bin rfl rfl rfl rfl rfl (WL.move rfl rfl rfl ?_)))))))
     rcases (Bool.eq_false_or_eq_true (decide ((e : Int) = 2))).symm with hg21 | hg21
     ·
      refine WL.set 51 (v' := .bool false) rfl (by rw [hg21]) ?_
      refine WL.set 52 (v' := .bool false) rfl (by rw [hg21]) ?_
      have hg21p : ¬ ((e : Int) = 2) := by simpa using hg21
      refine WL.skp rfl rfl (WL.skp rfl rfl (WL.pick (v := .bool false) rfl rfl rfl rfl rfl rfl (WL.pick (v := .bool false) rfl rfl rfl rfl rfl rfl (WL.nil (N.seq (W.condF rfl (W.skip (N.blk (N.seq ?_)))))))))
      refine W.region (WL.move rfl rfl rfl ?_)
      refine WL.add (c := (i : Int) + 1) rfl rfl rfl rfl (rfl) (by omega) ?_
      refine WL.assign rfl rfl rfl (WL.nil ?_)
      have hne : ¬ wv = codeE e := (by unfold codeE; split <;> (try split) <;> omega)
      have hal2 : ∀ s ∈ ns.take (i + 1), ¬ wr9 xs s = codeE e := by
       rw [take_next hx9]; intro s hs; rcases List.mem_append.1 hs with hs | hs
       ·
        exact hal s hs
       simp only [List.mem_cons, List.not_mem_nil, or_false] at hs; subst hs; rw [← hwv]; exact hne
      exact N.loop (i + 1) ⟨rfl, rfl, rfl, rfl, trivial⟩ ⟨hS, by omega, hal2⟩ (by first | omega | (simp only; omega))
     refine WL.set 51 (v' := .bool true) rfl (by rw [hg21]) ?_
     refine WL.set 52 (v' := .bool true) rfl (by rw [hg21]) ?_
     have hg21p : (e : Int) = 2 := by simpa using hg21
     refine WL.move rfl rfl rfl (WL.bin rfl rfl rfl rfl rfl (WL.pick (v := .bool (decide (wv = 8))) rfl rfl rfl rfl rfl rfl (WL.pick (v := .bool (decide (wv = 8))) rfl rfl rfl rfl rfl rfl (WL.nil (N.seq ?_)))))
     refine W.cond rfl (fun hc22 => ?_) (fun hc22 => ?_)
     ·
      have hc22p : wv = 8 := by simpa using hc22
      refine W.seq (W.region (WL.move rfl rfl rfl (WL.assign rfl rfl rfl (WL.assign rfl rfl rfl (WL.nil (N.seq ?_))))))
      refine Fin.ret2 rfl (v := .slice none 0 0) (v' := .int .i64 wv) rfl rfl ?_
      have hce : wv = codeE e := (by unfold codeE; split <;> (try split) <;> omega)
      have hall := rall_bad (xs := items9 ms) (e := e) (by omega) (by rw [← hxs, ← hns]; exact hpr) (s := x9) (by rw [← hxs, ← hns]; exact List.mem_of_getElem? hx9) (by rw [← hxs, ← hwv]; exact hce)
      rw [hall, ← hce]
      exact ⟨_, rfl, slv_nil, hS.below⟩
     have hc22p : ¬ (wv = 8) := by simpa using hc22
     refine W.skip (N.blk (N.seq (W.region (WL.move rfl rfl rfl ?_))))
     refine WL.add (c := (i : Int) + 1) rfl rfl rfl rfl (rfl) (by omega) ?_
     refine WL.assign rfl rfl rfl (WL.nil ?_)
     have hne : ¬ wv = codeE e := (by unfold codeE; split <;> (try split) <;> omega)
     have hal2 : ∀ s ∈ ns.take (i + 1), ¬ wr9 xs s = codeE e := by
      rw [take_next hx9]; intro s hs; rcases List.mem_append.1 hs with hs | hs
      ·
       exact hal s hs
      simp only [List.mem_cons, List.not_mem_nil, or_false] at hs; subst hs; rw [← hwv]; exact hne
     exact N.loop (i + 1) ⟨rfl, rfl, rfl, rfl, trivial⟩ ⟨hS, by omega, hal2⟩ (by first | omega | (simp only; omega))
    refine WL.set 43 (v' := .bool true) rfl (by rw [hg20]) ?_
    refine WL.set 44 (v' := .bool true) rfl (by rw [hg20]) ?_
    have hg20p : (e : Int) = 1 := by simpa using hg20
    refine WL.move rfl rfl rfl (WL.bin rfl rfl rfl rfl rfl (WL.pick (v := .bool (decide (wv = 9))) rfl rfl rfl rfl rfl rfl (WL.pick (v := .bool (decide (wv = 9))) rfl rfl rfl rfl rfl rfl (WL.move rfl rfl rfl ?_))))
    rcases (Bool.eq_false_or_eq_true (decide (wv = 9))).symm with hg23 | hg23
    ·
     refine WL.set 46 (v' := .bool false) rfl (by rw [hg23]) ?_
     refine WL.set 47 (v' := .bool false) rfl (by rw [hg23]) ?_
     refine WL.set 48 (v' := .bool false) rfl (by rw [hg23]) ?_
     refine WL.set 49 (v' := .bool false) rfl (by rw [hg23]) ?_
     have hg23p : ¬ (wv = 9) := by simpa using hg23
     refine WL.move rfl rfl rfl (WL.bin rfl rfl rfl rfl rfl (WL.move rfl rfl rfl ?_))
     rcases (Bool.eq_false_or_eq_true (decide ((e : Int) = 2))).symm with hg24 | hg24
     ·
      refine WL.set 51 (v' := .bool false) rfl (by rw [hg24]) ?_
      refine WL.set 52 (v' := .bool false) rfl (by rw [hg24]) ?_
      have hg24p : ¬ ((e : Int) = 2) := by simpa using hg24
      refine WL.skp rfl rfl (WL.skp rfl rfl (WL.pick (v := .bool false) rfl rfl rfl rfl rfl rfl (WL.pick (v := .bool false) rfl rfl rfl rfl rfl rfl (WL.nil (N.seq (W.condF rfl (W.skip (N.blk (N.seq ?_)))))))))
      refine W.region (WL.move rfl rfl rfl ?_)
      refine WL.add (c := (i : Int) + 1) rfl rfl rfl rfl (rfl) (by omega) ?_
      refine WL.assign rfl rfl rfl (WL.nil ?_)
      have hne : ¬ wv = codeE e := (by unfold codeE; split <;> (try split) <;> omega)
      have hal2 : ∀ s ∈ ns.take (i + 1), ¬ wr9 xs s = codeE e := by
       rw [take_next hx9]; intro s hs; rcases List.mem_append.1 hs with hs | hs
       ·
        exact hal s hs
       simp only [List.mem_cons, List.not_mem_nil, or_false] at hs; subst hs; rw [← hwv]; exact hne
      exact N.loop (i + 1) ⟨rfl, rfl, rfl, rfl, trivial⟩ ⟨hS, by omega, hal2⟩ (by first | omega | (simp only; omega))
     refine WL.set 51 (v' := .bool true) rfl (by rw [hg24]) ?_
     refine WL.set 52 (v' := .bool true) rfl (by rw [hg24]) ?_
     have hg24p : (e : Int) = 2 := by simpa using hg24
     refine WL.move rfl rfl rfl (WL.bin rfl rfl rfl rfl rfl (WL.pick (v := .bool (decide (wv = 8))) rfl rfl rfl rfl rfl rfl (WL.pick (v := .bool (decide (wv = 8))) rfl rfl rfl rfl rfl rfl (WL.nil (N.seq ?_)))))
     refine W.cond rfl (fun hc25 => ?_) (fun hc25 => ?_)
     ·
      have hc25p : wv = 8 := by simpa using hc25
      refine W.seq (W.region (WL.move rfl rfl rfl (WL.assign rfl rfl rfl (WL.assign rfl rfl rfl (WL.nil (N.seq ?_))))))
      refine Fin.ret2 rfl (v := .slice none 0 0) (v' := .int .i64 wv) rfl rfl ?_
      have hce : wv = codeE e := (by unfold codeE; split <;> (try split) <;> omega)
      have hall := rall_bad (xs := items9 ms) (e := e) (by omega) (by rw [← hxs, ← hns]; exact hpr) (s := x9) (by rw [← hxs, ← hns]; exact List.mem_of_getElem? hx9) (by rw [← hxs, ← hwv]; exact hce)
      rw [hall, ← hce]
      exact ⟨_, rfl, slv_nil, hS.below⟩
     have hc25p : ¬ (wv = 8) := by simpa using hc25
     refine W.skip (N.blk (N.seq (W.region (WL.move rfl rfl rfl ?_))))
     refine WL.add (c := (i : Int) + 1) rfl rfl rfl rfl (rfl) (by omega) ?_
     refine WL.assign rfl rfl rfl (WL.nil ?_)
     have hne : ¬ wv = codeE e := (by unfold codeE; split <;> (try split) <;> omega)
     have hal2 : ∀ s ∈ ns.take (i + 1), ¬ wr9 xs s = codeE e := by
      rw [take_next hx9]; intro s hs; rcases List.mem_append.1 hs with hs | hs
      ·
       exact hal s hs
      simp only [List.mem_cons, List.not_mem_nil, or_false] at hs; subst hs; rw [← hwv]; exact hne
     exact N.loop (i + 1) ⟨rfl, rfl, rfl, rfl, trivial⟩ ⟨hS, by omega, hal2⟩ (by first | omega | (simp only; omega))
    refine WL.set 46 (v' := .bool true) rfl (by rw [hg23]) ?_
    refine WL.set 47 (v' := .bool true) rfl (by rw [hg23]) ?_
    refine WL.set 48 (v' := .bool true) rfl (by rw [hg23]) ?_
    refine WL.set 49 (v' := .bool true) rfl (by rw [hg23]) ?_
    have hg23p : wv = 9 := by simpa using hg23
    refine WL.skp rfl rfl (WL.skp rfl rfl (WL.skp rfl rfl (WL.skp rfl rfl (WL.skp rfl rfl (WL.skp rfl rfl (WL.pick (v := .bool true) rfl rfl rfl rfl rfl rfl (WL.nil (N.seq (W.condT rfl ?_)))))))))
    refine W.seq (W.region (WL.move rfl rfl rfl (WL.assign rfl rfl rfl (WL.assign rfl rfl rfl (WL.nil (N.seq ?_))))))
    refine Fin.ret2 rfl (v := .slice none 0 0) (v' := .int .i64 wv) rfl rfl ?_
    have hce : wv = codeE e := (by unfold codeE; split <;> (try split) <;> omega)
    have hall := rall_bad (xs := items9 ms) (e := e) (by omega) (by rw [← hxs, ← hns]; exact hpr) (s := x9) (by rw [← hxs, ← hns]; exact List.mem_of_getElem? hx9) (by rw [← hxs, ← hwv]; exact hce)
    rw [hall, ← hce]
    exact ⟨_, rfl, slv_nil, hS.below⟩
   refine WL.set 39 (v' := .bool true) rfl (by rw [hg19]) ?_
   refine WL.set 40 (v' := .bool true) rfl (by rw [hg19]) ?_
   refine WL.set 41 (v' := .bool true) rfl (by rw [hg19]) ?_
   have hg19p : wv = 10 := by simpa using hg19
   refine WL.skp rfl rfl (WL.skp rfl rfl (WL.skp rfl rfl (WL.skp rfl rfl (WL.skp rfl rfl (WL.skp rfl rfl (WL.pick (v := .bool true) rfl rfl rfl rfl rfl rfl (WL.move rfl rfl rfl (WL.skp rfl rfl (WL.skp rfl rfl ?_)))))))))
   refine WL.skp rfl rfl (WL.skp rfl rfl (WL.skp rfl rfl (WL.skp rfl rfl (WL.pick (v := .bool true) rfl rfl rfl rfl rfl rfl (WL.nil (N.seq (W.condT rfl (W.seq (W.region ?_)))))))))
   refine WL.move rfl rfl rfl (WL.assign rfl rfl rfl (WL.assign rfl rfl rfl (WL.nil (N.seq ?_))))
   refine Fin.ret2 rfl (v := .slice none 0 0) (v' := .int .i64 wv) rfl rfl ?_
   have hce : wv = codeE e := (by unfold codeE; split <;> (try split) <;> omega)
   have hall := rall_bad (xs := items9 ms) (e := e) (by omega) (by rw [← hxs, ← hns]; exact hpr) (s := x9) (by rw [← hxs, ← hns]; exact List.mem_of_getElem? hx9) (by rw [← hxs, ← hwv]; exact hce)
   rw [hall, ← hce]
   exact ⟨_, rfl, slv_nil, hS.below⟩
  have hc8p : ¬ ((i : Int) < (ns.length : Int)) := by simpa using hc8
  refine W.exit (X.seq (X.loop (X.blk (N.blk (N.seq (W.region (WL.move rfl rfl rfl ?_)))))))
  refine WL.add (c := (e : Int) + 1) rfl rfl rfl rfl (rfl) (by omega) ?_
  refine WL.assign rfl rfl rfl (WL.nil ?_)
  have hpr2 : ∀ j, j < e + 1 → ∀ s ∈ ns, ¬ wr9 xs s = codeE j := fun j hj s hs => by
   by_cases ej : j = e
   ·
    subst ej; rw [show i = ns.length by omega, List.take_length] at hal; exact hal s hs
   exact hpr j (by omega) s hs
  exact N.loop (e + 1) ⟨rfl, rfl, rfl, trivial⟩ ⟨hS, by omega, hpr2⟩ (by first | omega | (simp only; omega))
 have hc6p : ¬ ((e : Int) < 3) := by simpa using hc6
 refine W.exit (X.seq (X.loop (X.blk (N.seq (W.seq (W.region (WL.assign rfl rfl rfl (WL.nil (N.seq ?_)))))))))
 refine W.seq (W.region (WL.assign rfl rfl rfl (WL.nil (N.seq (W.seq (W.seq (W.region (WL.assign rfl rfl rfl (WL.nil ?_)))))))))
 refine N.seq (W.block ?_)
 have he3 : e = 3 := by omega
 have hend := rall_end (xs := xs) (by rw [← hns]; intro j hj; exact hpr j (by omega))
 replace hS := hS.row0 66 5
 refine W.loop (α := Nat × Value × List Value × Bool × (Nat → Prop) × World) (fun ⟨i, v, cs, en, R2, ws2⟩ => [(4, .slice adi xs.length capi), (5, .slice adn ns.length capn), (9, v), (10, .bool en), (11, .int .i64 (i : Int))]) (fun ⟨i, v, cs, en, R2, ws2⟩ u => St w ws2 u R2 [] [⟨v, 66, 5, i, cs⟩] ∧ i ≤ ns.length ∧ Chunks 5 DefC cs ((ns.take i).map fun s => def9 (of9 xs s)) ∧ en = ((ns.take i).any fun s => ent9 (of9 xs s)) ∧ Alike (roFrom (roFrom ro w w1) w1 w3) w3 R2 ws2 ∧ (∀ b, R2 b → ro b ∨ w.heap.size ≤ b)) (fun ⟨i, v, cs, en, R2, ws2⟩ => ns.length - i) (0, (.slice none 0 0), [], false, (roFrom (roFrom ro w w1) w1 w3), w3) ⟨rfl, rfl, rfl, rfl, rfl, trivial⟩ ⟨hS, Nat.zero_le _, Chunks.nil, rfl, Alike.refl, hsub⟩ ?_
 clear hS
 rintro ⟨i, v, cs, en, R2, ws2⟩ w26 ⟨hS, hi, hch, hen, halL2, hsub⟩
 replace hx := SlV.keep hx halL2 (fun _ _ h => h.keep halL2)
 replace hiv := SlV.keep hiv halL2 (fun _ _ h => h)
 replace hnd := hnd.keep halL2 (fun _ _ h => h)
 have hrow : w26.ownsRow w.heap.size 66 5 v (i) _ := hS.rows _ List.mem_cons_self
 obtain ⟨adv, capv, rfl, hr1v, hr2v, hr3v⟩ := row_shape hrow
 clear hrow
 refine W.seq (W.seq (W.region (WL.move rfl rfl rfl (WL.move rfl rfl rfl (WL.lenSlice Tryd.underlying25 rfl rfl rfl (WL.bin rfl rfl rfl rfl rfl (WL.nil (N.seq ?_))))))))
 refine W.cond rfl (fun hc27 => ?_) (fun hc27 => ?_)
 ·
  have hc27p : (i : Int) < (ns.length : Int) := by simpa using hc27
  refine W.skip (N.seq (W.seq (W.block (W.seq (W.region (WL.move rfl rfl rfl (WL.move rfl rfl rfl (WL.move rfl rfl rfl ?_))))))))
  have hj28 : i < ns.length := by omega
  obtain ⟨x28, hx28⟩ : ∃ zz, ns[i]? = some zz := ⟨_, List.getElem?_eq_getElem hj28⟩
  obtain ⟨b28, o28, cs28, hE28, hr28, hl28, hc28, hQ28⟩ := hnd i _ hx28
  obtain ⟨rfl, hsz28⟩ := hQ28
  refine WL.indexAddrE (j := i) Tryd.underlying25 isz_9 rfl rfl rfl rfl hj28 hE28 (WL.load1 (v := .string x28) one_9 rfl rfl rfl (hS.roCells hr28 hc28 0 _ rfl) ?_)
  refine WL.callF (vs := [.slice adi xs.length capi, .string x28]) Tryd.func69 (by kernel_rfl) rfl rfl rfl (rof_ret xs x28 _ (ro := R2) (fun b hb => (hS.snap b hb).1) (SlV.keep hiv hS.alike (fun _ _ q => q)) hxl) ?_
  rintro vg w29 ⟨hgv, hbl⟩
  have hal30 := hS.alikeTo hbl (ro' := (roFrom R2 w26 w29)) (fun b hb => .inl hb)
  replace hsub : ∀ b, (roFrom R2 w26 w29) b → ro b ∨ w.heap.size ≤ b := fun b hb => hb.elim (hsub b) (fun h => .inr (Nat.le_trans hS.below.size h.1))
  replace halL2 := halL2.trans hal30
  replace hx := SlV.keep hx hal30 (fun _ _ h => h.keep hal30)
  replace hS := hS.readNew hbl
  obtain ⟨g, hg⟩ : ∃ g, g = of9 xs x28 := ⟨_, rfl⟩
  replace hgv : SlV (fun b => w26.heap.size ≤ b ∧ b < w29.heap.size) w29 6 ItemC vg g := by rw [hg]; exact hgv
  replace hgv := SlV.keep hgv (ro' := (roFrom R2 w26 w29)) (w' := w29) (Q' := ItemC) (fun x hx => ⟨.inr hx, rfl⟩) (fun _ _ h => h)
  have hg0 : 0 < g.length := by rw [hg]; exact filter_mem_ne (by rw [← hns]; exact List.mem_of_getElem? hx28)
  have hgok : ∀ x ∈ g, x.name.size ≤ maxLen ∧ inI x.mod ∧ inI x.params := fun x hx0 => items_ok hx x (by rw [← hxs]; rw [hg] at hx0; exact (List.mem_filter.1 hx0).1)
  obtain ⟨adg, capg, rfl, hga, hgb, hgc, hgd⟩ := id hgv
  have hgm : g.length ≤ 9223372036854775807 := by have h1 := hga; have h2 := hgb; unfold maxLen at h2; omega
  refine WL.assign rfl rfl rfl (WL.nil (N.seq (W.seq (W.region (WL.move rfl rfl rfl ?_)))))
  refine WL.callF (vs := [.slice adg g.length capg]) Tryd.func70 (by kernel_rfl) rfl rfl rfl (rdef_ret g _ (ro := (roFrom R2 w26 w29)) (fun b hb => (hS.snap b hb).1) (SlV.keep hgv hS.alike (fun _ _ q => q)) hg0) ?_
  rintro v w31 ⟨rfl, hbl⟩
  replace hS := hS.grow hbl
  refine WL.alloc (tyZero_spec zer_66) rfl rfl hS ?_
  clear hS; intro w33 b32 hb_b32 hS
  refine WL.store (L' := [(b32, .cells #[.string ((def9 g).name), .int .i64 ((def9 g).mod), .bool ((def9 g).fn), .bool ((def9 g).weak), .bool ((def9 g).here)] 66 (0, 0))]) 0 rfl rfl rfl rfl siz_66 rfl rfl rfl rfl rfl hS ?_
  clear hS; intro w34 hS
  refine WL.nil (N.seq (W.seq (W.region (WL.move rfl rfl rfl (WL.loadN (cs := [.string ((def9 g).name), .int .i64 ((def9 g).mod), .bool ((def9 g).fn), .bool ((def9 g).weak), .bool ((def9 g).here)]) agg_66 rfl rfl rfl rfl (hS.cells 0 (m := 5) rfl rfl) ?_)))))
  refine WL.buildSlice (ps := [(0, .agg #[.string ((def9 g).name), .int .i64 ((def9 g).mod), .bool ((def9 g).fn), .bool ((def9 g).weak), .bool ((def9 g).here)])]) (cs := [.string ((def9 g).name), .int .i64 ((def9 g).mod), .bool ((def9 g).fn), .bool ((def9 g).weak), .bool ((def9 g).here)]) Tryd.underlying62 (tyZero_spec zer_66) rfl rfl rfl rfl (by kernel_rfl) hS ?_
  clear hS; intro w36 b35 hb_b35 hS
  have hle : i + 1 ≤ 1048576 := by omega
  refine WL.append (r := ⟨.slice adv i capv, 66, 5, i, cs⟩) (cs := [.string ((def9 g).name), .int .i64 ((def9 g).mod), .bool ((def9 g).fn), .bool ((def9 g).weak), .bool ((def9 g).here)]) 32 Tryd.underlying62 (tyZero_spec zer_66) byt_66 rfl rfl rfl rfl rfl rfl rfl rfl rfl hS (by unfold maxLen; simp only; omega) (by simp only; omega) ?_
  clear hS; intro w37 v38 hn_v38 hS
  have hrow : w37.ownsRow w.heap.size 66 5 v38 (i + 1) _ := hS.rows _ List.mem_cons_self
  obtain ⟨av38, cv38, rfl, hc1_v38, hc2_v38, hc3_v38⟩ := row_shape hrow
  clear hrow
  refine WL.assign rfl rfl rfl (WL.nil (N.seq (W.region (WL.move rfl rfl rfl (WL.move rfl rfl rfl ?_)))))
  rcases (Bool.eq_false_or_eq_true en).symm with hg39 | hg39
  ·
   refine WL.set 10 (v' := .bool false) rfl (by rw [hg39]) ?_
   refine WL.set 76 (v' := .bool false) rfl (by rw [hg39]) ?_
   refine WL.set 77 (v' := .bool false) rfl (by rw [hg39]) ?_
   refine WL.fieldAddr fo_66_0 rfl rfl rfl (WL.load1 (v := .string ((def9 g).name)) one_9 rfl rfl rfl (hS.cell 0 rfl rfl) (WL.eqStr rfl rfl rfl rfl (WL.move rfl rfl rfl ?_)))
   rcases (Bool.eq_false_or_eq_true (decide ((def9 g).name = ⟨#[109, 97, 105, 110]⟩))).symm with hg40 | hg40
   ·
    refine WL.set 80 (v' := .bool false) rfl (by rw [hg40]) ?_
    refine WL.set 81 (v' := .bool false) rfl (by rw [hg40]) ?_
    have hg40p : ¬ ((def9 g).name = ⟨#[109, 97, 105, 110]⟩) := by simpa using hg40
    refine WL.skp rfl rfl (WL.skp rfl rfl (WL.pick (v := .bool false) rfl rfl rfl rfl rfl rfl (WL.move rfl rfl rfl (WL.skp rfl rfl (WL.skp rfl rfl (WL.pick (v := .bool false) rfl rfl rfl rfl rfl rfl (WL.move rfl rfl rfl (WL.skp rfl rfl (WL.skp rfl rfl ?_)))))))))
    refine WL.skp rfl rfl (WL.skp rfl rfl (WL.skp rfl rfl (WL.pick (v := .bool false) rfl rfl rfl rfl rfl rfl (WL.pick (v := .bool false) rfl rfl rfl rfl rfl rfl (WL.assign rfl rfl rfl (WL.nil (N.blk (N.seq (W.region ?_)))))))))
    refine WL.move rfl rfl rfl ?_
    refine WL.add (c := (i : Int) + 1) rfl rfl rfl rfl (rfl) (by omega) ?_
    refine WL.assign rfl rfl rfl (WL.nil ?_)
    have hS := hS.dropN 1
    have hch9 : Chunks 5 DefC (cs ++ ([.string ((def9 g).name), .int .i64 ((def9 g).mod), .bool ((def9 g).fn), .bool ((def9 g).weak), .bool ((def9 g).here)] : List Value)) ((ns.take (i + 1)).map fun s => def9 (of9 xs s)) := by rw [take_next hx28, List.map_append]; exact hch.snoc rfl (by show DefC _ (def9 (of9 xs x28)); rw [← hg]; exact def9_ok hg0 hgok)
    have hen9 : (false : Bool) = (ns.take (i + 1)).any fun s => ent9 (of9 xs s) := by
     rw [take_next hx28, List.any_append, ← hen, List.any_cons, List.any_nil, ← hg]; unfold ent9 mainB; simp [hc27p, hg39, hg40p]
    exact N.loop (i + 1, .slice av38 (i + 1) cv38, cs ++ ([.string ((def9 g).name), .int .i64 ((def9 g).mod), .bool ((def9 g).fn), .bool ((def9 g).weak), .bool ((def9 g).here)] : List Value), false, (roFrom R2 w26 w29), w29) ⟨rfl, rfl, rfl, rfl, rfl, trivial⟩ ⟨hS, by omega, hch9, hen9, halL2, hsub⟩ (by first | omega | (simp only; omega))
   refine WL.set 80 (v' := .bool true) rfl (by rw [hg40]) ?_
   refine WL.set 81 (v' := .bool true) rfl (by rw [hg40]) ?_
   have hg40p : (def9 g).name = ⟨#[109, 97, 105, 110]⟩ := by simpa using hg40
   refine WL.fieldAddr fo_66_2 rfl rfl rfl (WL.load1 (v := .bool ((def9 g).fn)) one_4 rfl rfl rfl (hS.cell 0 rfl rfl) (WL.pick (v := .bool ((def9 g).fn)) rfl rfl rfl rfl rfl rfl (WL.move rfl rfl rfl ?_)))
   rcases (Bool.eq_false_or_eq_true ((def9 g).fn)).symm with hg41 | hg41
   ·
    refine WL.set 83 (v' := .bool false) rfl (by rw [hg41]) ?_
    refine WL.set 84 (v' := .bool false) rfl (by rw [hg41]) ?_
    refine WL.set 85 (v' := .bool false) rfl (by rw [hg41]) ?_
    refine WL.skp rfl rfl (WL.skp rfl rfl (WL.pick (v := .bool false) rfl rfl rfl rfl rfl rfl (WL.move rfl rfl rfl (WL.skp rfl rfl (WL.skp rfl rfl (WL.skp rfl rfl (WL.skp rfl rfl (WL.skp rfl rfl (WL.pick (v := .bool false) rfl rfl rfl rfl rfl rfl ?_)))))))))
    refine WL.pick (v := .bool false) rfl rfl rfl rfl rfl rfl (WL.assign rfl rfl rfl (WL.nil (N.blk (N.seq (W.region (WL.move rfl rfl rfl ?_))))))
    refine WL.add (c := (i : Int) + 1) rfl rfl rfl rfl (rfl) (by omega) ?_
    refine WL.assign rfl rfl rfl (WL.nil ?_)
    have hS := hS.dropN 1
    have hch9 : Chunks 5 DefC (cs ++ ([.string ((def9 g).name), .int .i64 ((def9 g).mod), .bool ((def9 g).fn), .bool ((def9 g).weak), .bool ((def9 g).here)] : List Value)) ((ns.take (i + 1)).map fun s => def9 (of9 xs s)) := by rw [take_next hx28, List.map_append]; exact hch.snoc rfl (by show DefC _ (def9 (of9 xs x28)); rw [← hg]; exact def9_ok hg0 hgok)
    have hen9 : (false : Bool) = (ns.take (i + 1)).any fun s => ent9 (of9 xs s) := by
     rw [take_next hx28, List.any_append, ← hen, List.any_cons, List.any_nil, ← hg]; unfold ent9 mainB; simp [hc27p, hg39, hg40p, hg41]
    exact N.loop (i + 1, .slice av38 (i + 1) cv38, cs ++ ([.string ((def9 g).name), .int .i64 ((def9 g).mod), .bool ((def9 g).fn), .bool ((def9 g).weak), .bool ((def9 g).here)] : List Value), false, (roFrom R2 w26 w29), w29) ⟨rfl, rfl, rfl, rfl, rfl, trivial⟩ ⟨hS, by omega, hch9, hen9, halL2, hsub⟩ (by first | omega | (simp only; omega))
   refine WL.set 83 (v' := .bool true) rfl (by rw [hg41]) ?_
   refine WL.set 84 (v' := .bool true) rfl (by rw [hg41]) ?_
   refine WL.set 85 (v' := .bool true) rfl (by rw [hg41]) ?_
   refine WL.fieldAddr fo_66_4 rfl rfl rfl (WL.load1 (v := .bool ((def9 g).here)) one_4 rfl rfl rfl (hS.cell 0 rfl rfl) (WL.pick (v := .bool ((def9 g).here)) rfl rfl rfl rfl rfl rfl (WL.move rfl rfl rfl ?_)))
   rcases (Bool.eq_false_or_eq_true ((def9 g).here)).symm with hg42 | hg42
   ·
    refine WL.set 87 (v' := .bool false) rfl (by rw [hg42]) ?_
    refine WL.set 88 (v' := .bool false) rfl (by rw [hg42]) ?_
    refine WL.set 89 (v' := .bool false) rfl (by rw [hg42]) ?_
    refine WL.skp rfl rfl (WL.skp rfl rfl (WL.skp rfl rfl (WL.skp rfl rfl (WL.skp rfl rfl (WL.pick (v := .bool false) rfl rfl rfl rfl rfl rfl (WL.pick (v := .bool false) rfl rfl rfl rfl rfl rfl (WL.assign rfl rfl rfl (WL.nil (N.blk ?_)))))))))
    refine N.seq (W.region (WL.move rfl rfl rfl ?_))
    refine WL.add (c := (i : Int) + 1) rfl rfl rfl rfl (rfl) (by omega) ?_
    refine WL.assign rfl rfl rfl (WL.nil ?_)
    have hS := hS.dropN 1
    have hch9 : Chunks 5 DefC (cs ++ ([.string ((def9 g).name), .int .i64 ((def9 g).mod), .bool ((def9 g).fn), .bool ((def9 g).weak), .bool ((def9 g).here)] : List Value)) ((ns.take (i + 1)).map fun s => def9 (of9 xs s)) := by rw [take_next hx28, List.map_append]; exact hch.snoc rfl (by show DefC _ (def9 (of9 xs x28)); rw [← hg]; exact def9_ok hg0 hgok)
    have hen9 : (false : Bool) = (ns.take (i + 1)).any fun s => ent9 (of9 xs s) := by
     rw [take_next hx28, List.any_append, ← hen, List.any_cons, List.any_nil, ← hg]; unfold ent9 mainB; simp [hc27p, hg39, hg40p, hg41, hg42]
    exact N.loop (i + 1, .slice av38 (i + 1) cv38, cs ++ ([.string ((def9 g).name), .int .i64 ((def9 g).mod), .bool ((def9 g).fn), .bool ((def9 g).weak), .bool ((def9 g).here)] : List Value), false, (roFrom R2 w26 w29), w29) ⟨rfl, rfl, rfl, rfl, rfl, trivial⟩ ⟨hS, by omega, hch9, hen9, halL2, hsub⟩ (by first | omega | (simp only; omega))
   refine WL.set 87 (v' := .bool true) rfl (by rw [hg42]) ?_
   refine WL.set 88 (v' := .bool true) rfl (by rw [hg42]) ?_
   refine WL.set 89 (v' := .bool true) rfl (by rw [hg42]) ?_
   refine WL.move rfl rfl rfl ?_
   have hj43 : 0 < g.length := hg0
   obtain ⟨x43, hx43⟩ : ∃ zz, g[0]? = some zz := ⟨_, List.getElem?_eq_getElem hj43⟩
   obtain ⟨b43, o43, cs43, hE43, hr43, hl43, hc43, hQ43⟩ := hgd 0 _ hx43
   obtain ⟨rfl, hin43, him43, hip43⟩ := hQ43
   refine WL.indexAddrE (j := 0) Tryd.underlying57 isz_60 rfl rfl rfl rfl hj43 hE43 (WL.fieldAddr fo_60_3 rfl rfl rfl (WL.load1 (v := .int .i64 x43.params) one_3 rfl rfl rfl (hS.roCells hr43 hc43 3 _ rfl) (WL.bin rfl rfl rfl rfl rfl (WL.pick (v := .bool (decide (x43.params = 0))) rfl rfl rfl rfl rfl rfl (WL.pick (v := .bool (decide (x43.params = 0))) rfl rfl rfl rfl rfl rfl (WL.assign rfl rfl rfl (WL.nil (N.blk (N.seq ?_)))))))))
   refine W.region (WL.move rfl rfl rfl ?_)
   refine WL.add (c := (i : Int) + 1) rfl rfl rfl rfl (rfl) (by omega) ?_
   refine WL.assign rfl rfl rfl (WL.nil ?_)
   have hS := hS.dropN 1
   have hch9 : Chunks 5 DefC (cs ++ ([.string ((def9 g).name), .int .i64 ((def9 g).mod), .bool ((def9 g).fn), .bool ((def9 g).weak), .bool ((def9 g).here)] : List Value)) ((ns.take (i + 1)).map fun s => def9 (of9 xs s)) := by rw [take_next hx28, List.map_append]; exact hch.snoc rfl (by show DefC _ (def9 (of9 xs x28)); rw [← hg]; exact def9_ok hg0 hgok)
   have hgd : g.getD 0 item0 = x43 := getD_at hx43
   have hen9 : (decide (x43.params = 0) : Bool) = (ns.take (i + 1)).any fun s => ent9 (of9 xs s) := by
    rw [take_next hx28, List.any_append, ← hen, List.any_cons, List.any_nil, ← hg]; unfold ent9 mainB; rw [hgd]; simp [hc27p, hg39, hg40p, hg41, hg42]
   exact N.loop (i + 1, .slice av38 (i + 1) cv38, cs ++ ([.string ((def9 g).name), .int .i64 ((def9 g).mod), .bool ((def9 g).fn), .bool ((def9 g).weak), .bool ((def9 g).here)] : List Value), decide (x43.params = 0), (roFrom R2 w26 w29), w29) ⟨rfl, rfl, rfl, rfl, rfl, trivial⟩ ⟨hS, by omega, hch9, hen9, halL2, hsub⟩ (by first | omega | (simp only; omega))
  refine WL.set 10 (v' := .bool true) rfl (by rw [hg39]) ?_
  refine WL.set 76 (v' := .bool true) rfl (by rw [hg39]) ?_
  refine WL.set 77 (v' := .bool true) rfl (by rw [hg39]) ?_
  refine WL.skp rfl rfl (WL.skp rfl rfl (WL.skp rfl rfl (WL.skp rfl rfl (WL.skp rfl rfl (WL.skp rfl rfl (WL.skp rfl rfl (WL.skp rfl rfl (WL.skp rfl rfl (WL.skp rfl rfl ?_)))))))))
  refine WL.skp rfl rfl (WL.skp rfl rfl (WL.skp rfl rfl (WL.skp rfl rfl (WL.skp rfl rfl (WL.skp rfl rfl (WL.skp rfl rfl (WL.skp rfl rfl (WL.pick (v := .bool true) rfl rfl rfl rfl rfl rfl (WL.assign rfl rfl rfl ?_)))))))))
  refine WL.nil (N.blk (N.seq (W.region (WL.move rfl rfl rfl ?_))))
  refine WL.add (c := (i : Int) + 1) rfl rfl rfl rfl (rfl) (by omega) ?_
  refine WL.assign rfl rfl rfl (WL.nil ?_)
  have hS := hS.dropN 1
  have hch9 : Chunks 5 DefC (cs ++ ([.string ((def9 g).name), .int .i64 ((def9 g).mod), .bool ((def9 g).fn), .bool ((def9 g).weak), .bool ((def9 g).here)] : List Value)) ((ns.take (i + 1)).map fun s => def9 (of9 xs s)) := by rw [take_next hx28, List.map_append]; exact hch.snoc rfl (by show DefC _ (def9 (of9 xs x28)); rw [← hg]; exact def9_ok hg0 hgok)
  have hen9 : (true : Bool) = (ns.take (i + 1)).any fun s => ent9 (of9 xs s) := by
   rw [take_next hx28, List.any_append, ← hen, List.any_cons, List.any_nil, ← hg]; unfold ent9 mainB; simp [hc27p, hg39]
  exact N.loop (i + 1, .slice av38 (i + 1) cv38, cs ++ ([.string ((def9 g).name), .int .i64 ((def9 g).mod), .bool ((def9 g).fn), .bool ((def9 g).weak), .bool ((def9 g).here)] : List Value), true, (roFrom R2 w26 w29), w29) ⟨rfl, rfl, rfl, rfl, rfl, trivial⟩ ⟨hS, by omega, hch9, hen9, halL2, hsub⟩ (by first | omega | (simp only; omega))
 have hc27p : ¬ ((i : Int) < (ns.length : Int)) := by simpa using hc27
 refine W.exit (X.seq (X.loop (X.blk (N.seq (W.seq (W.seq (W.region (WL.move rfl rfl rfl (WL.not rfl rfl rfl ?_)))))))))
 refine WL.nil (N.seq ?_)
 refine W.cond rfl (fun hc44 => ?_) (fun hc44 => ?_)
 ·
  refine W.seq (W.region (WL.assign rfl rfl rfl (WL.assign rfl rfl rfl (WL.nil (N.seq ?_)))))
  refine Fin.ret2 rfl (v := .slice none 0 0) (v' := .int .i64 11) rfl rfl ?_
  rw [show i = ns.length by omega, List.take_length] at hch hen
  rw [hns] at hen
  rw [← hxs, hend]
  rw [← hen]
  rw [if_neg (by simpa using hc44)]
  exact ⟨_, rfl, slv_nil, hS.below⟩
 refine W.skip (N.seq (W.seq (W.region (WL.move rfl rfl rfl (WL.assign rfl rfl rfl (WL.assign rfl rfl rfl (WL.nil (N.seq ?_))))))))
 refine Fin.ret2 rfl (v := .slice adv i capv) (v' := .int .i64 0) rfl rfl ?_
 rw [show i = ns.length by omega, List.take_length] at hch hen
 rw [hns] at hen
 rw [← hxs, hend]
 rw [← hen]
 rw [if_pos (by simpa using hc44)]
 rw [hns] at hch
 have hbz := hS.below
 refine ⟨_, rfl, row_slv (hS.rows _ List.mem_cons_self) hch (by show i = _; rw [List.length_map, ← hns]; omega) (fun x hx => .inr ?_), hbz⟩
 exact (hS.keys x (by simp only [keysOf, List.mem_append, List.mem_filterMap]; exact .inr ⟨_, List.mem_cons_self, hx⟩)).imp id (·.1)

end Go.Proofs.YtapjejjmhmdmdaaDoor
