/-
  Contracts of layer 9 (resolve). No condition beyond those that each theorem states.
-/
import Derived.Test.YtapjejjmhmdmdaaDoorR5d
namespace Go.Proofs.YtapjejjmhmdmdaaDoor
open Go.RowKit

def findN : Nat → List ByteArray → ByteArray → Int
  | _, [], _ => -1
  | i, n :: r, s => if n = s then (i : Int) else findN (i + 1) r s
def find5 (l : List ByteArray) (s : ByteArray) : Int := findN 0 l s
theorem findN_at : ∀ (l : List ByteArray) (s : ByteArray) (i k : Nat), (∀ j, j < k → l[j]? ≠ some s) → l[k]? = some s → findN i l s = ((i + k : Nat) : Int)
  | [], _, _, _, _, h => by simp at h
  | n :: r, s, i, 0, _, h => by
    simp only [List.getElem?_cons_zero, Option.some.injEq] at h
    subst h; simp [findN]
  | n :: r, s, i, k + 1, h, hk => by
    have h0 : ¬ n = s := fun e => h 0 (by omega) (by simp [e])
    rw [findN, if_neg h0, findN_at r s (i + 1) k (fun j hj => by have := h (j + 1) (by omega); simpa using this) (by simpa using hk)]
    omega
theorem findN_no : ∀ (l : List ByteArray) (s : ByteArray) (i : Nat), (∀ j, j < l.length → l[j]? ≠ some s) → findN i l s = -1
  | [], _, _, _ => rfl
  | n :: r, s, i, h => by
    have h0 : ¬ n = s := fun e => h 0 (by simp) (by simp [e])
    rw [findN, if_neg h0]
    exact findN_no r s (i + 1) fun j hj => by have := h (j + 1) (by simp; omega); simpa using this
theorem find5_cases (l : List ByteArray) (s : ByteArray) : (find5 l s = -1 ∧ s ∉ l) ∨ ∃ k : Nat, find5 l s = (k : Int) ∧ l[k]? = some s ∧ k < l.length ∧ ∀ j, j < k → l[j]? ≠ some s := by
  by_cases h : ∃ k, k < l.length ∧ l[k]? = some s
  · obtain ⟨k, ⟨h1, h2⟩, h3⟩ := Go.exists_least (p := fun k => k < l.length ∧ l[k]? = some s) h
    have h4 : ∀ j, j < k → l[j]? ≠ some s := fun j hj e => by have := h3 j ⟨by omega, e⟩; omega
    exact .inr ⟨k, by rw [find5, findN_at l s 0 k h4 h2, Nat.zero_add], h2, h1, h4⟩
  · refine .inl ⟨findN_no l s 0 fun j hj e => h ⟨j, hj, e⟩, fun hm => ?_⟩
    obtain ⟨j, hj⟩ := List.getElem?_of_mem hm
    exact h ⟨j, (List.getElem?_eq_some_iff.1 hj).1, hj⟩
def fnames (m : DMod) : List ByteArray := m.funcs.map (·.name)
def gnames (m : DMod) : List ByteArray := m.globs.map (·.name)
def names5 (m : DMod) : List ByteArray := fnames m ++ gnames m

theorem findfnames_ret (m : DMod) (cm : List Value) (s : ByteArray) {w : World} {ro : Nat → Prop} (hro : ∀ b, ro b → b < w.heap.size) (hx : ModC ro w cm m) : Ret Tryd.prog 18 #[.agg cm.toArray, .string s] w fun v w' => v = .int .i64 (find5 (fnames m) s) ∧ Below w.heap.size w w' := by
 obtain ⟨sf, sg, rfl, hfs, hgs⟩ := id hx
 obtain ⟨adf, capf, rfl, hfsa, hfsb, hfsc, hfsd⟩ := id hfs
 have hfsm : m.funcs.length ≤ 9223372036854775807 := by have h1 := hfsa; have h2 := hfsb; unfold maxLen at h2; omega
 obtain ⟨adg, capg, rfl, hgsa, hgsb, hgsc, hgsd⟩ := id hgs
 have hgsm : m.globs.length ≤ 9223372036854775807 := by have h1 := hgsa; have h2 := hgsb; unfold maxLen at h2; omega
 refine Ret.enter (P := Tryd.prog) (n := 22) (args := [.agg #[.slice adf m.funcs.length capf, .slice adg m.globs.length capg], .string s]) (σ := [(0, .agg #[.slice adf m.funcs.length capf, .slice adg m.globs.length capg]), (1, .string s)]) Tryd.func18 rfl rfl rfl rfl ?_
 have hS := St.start (ro := ro) hro
 refine W.seq (W.region ?_)
 refine WL.box (v := .agg #[.slice adf m.funcs.length capf, .slice adg m.globs.length capg]) (cs := [.slice adf m.funcs.length capf, .slice adg m.globs.length capg]) rfl rfl rfl rfl hS ?_
 clear hS; intro w2 b1 hb_b1 hS
 refine WL.assign rfl rfl rfl (WL.nil (N.seq (W.seq (W.seq (W.region (WL.assign rfl rfl rfl (WL.nil (N.seq (W.block ?_)))))))))
 refine W.loop (α := Nat) (fun (k : Nat) => [(1, .string s), (2, .pointer (some ⟨b1, 0, none⟩)), (5, .int .i64 (k : Int))]) (fun (k : Nat) u => St w w u ro [(b1, .cells #[.slice adf m.funcs.length capf, .slice adg m.globs.length capg] 32 (0, 0))] [] ∧ k ≤ m.funcs.length ∧ ∀ j, j < k → (fnames m)[j]? ≠ some s) (fun (k : Nat) => m.funcs.length - k) 0 ⟨rfl, rfl, rfl, trivial⟩ ⟨hS, Nat.zero_le _, fun j hj => by omega⟩ ?_
 clear hS
 rintro k w3 ⟨hS, hk, htk⟩
 refine W.seq (W.seq (W.region (WL.move rfl rfl rfl (WL.fieldAddr fo_32_0 rfl rfl rfl (WL.load1 (v := .slice adf m.funcs.length capf) one_29 rfl rfl rfl (hS.cell 0 rfl rfl) (WL.lenSlice Tryd.underlying29 rfl rfl rfl (WL.bin rfl rfl rfl rfl rfl (WL.nil (N.seq ?_)))))))))
 refine W.cond rfl (fun hc4 => ?_) (fun hc4 => ?_)
 ·
  have hc4p : (k : Int) < (m.funcs.length : Int) := by simpa using hc4
  refine W.skip (N.seq (W.seq (W.block (W.seq (W.region (WL.fieldAddr fo_32_0 rfl rfl rfl (WL.load1 (v := .slice adf m.funcs.length capf) one_29 rfl rfl rfl (hS.cell 0 rfl rfl) (WL.move rfl rfl rfl ?_))))))))
  have hj5 : k < m.funcs.length := by omega
  obtain ⟨x5, hx5⟩ : ∃ zz, m.funcs[k]? = some zz := ⟨_, List.getElem?_eq_getElem hj5⟩
  obtain ⟨b5, o5, cs5, hE5, hr5, hl5, hc5, hQ5⟩ := hfsd k _ hx5
  obtain ⟨sb5, rfl, hbl5, hnm5, hbd5, hpr5⟩ := id hQ5
  obtain ⟨adb5, capb5, rfl, hbk5a, hbk5b, hbk5c, hbk5d⟩ := id hbl5
  have hbk5m : x5.blocks.length ≤ 9223372036854775807 := by have h1 := hbk5a; have h2 := hbk5b; unfold maxLen at h2; omega
  refine WL.indexAddrE (j := k) Tryd.underlying29 isz_35 rfl rfl rfl rfl hj5 hE5 (WL.fieldAddr fo_35_0 rfl rfl rfl (WL.load1 (v := .string x5.name) one_9 rfl rfl rfl (hS.roCells hr5 hc5 0 _ rfl) (WL.move rfl rfl rfl (WL.eqStr rfl rfl rfl rfl (WL.nil (N.seq ?_))))))
  refine W.cond rfl (fun hc6 => ?_) (fun hc6 => ?_)
  ·
   have hc6p : x5.name = s := by simpa using hc6
   refine W.seq (W.region (WL.move rfl rfl rfl (WL.assign rfl rfl rfl (WL.nil (N.seq ?_)))))
   refine Fin.ret1 rfl (v := .int .i64 (k : Int)) rfl ?_
   have hbz := hS.below
   clear hS
   refine ⟨?_, hbz⟩
   congr 1
   rw [find5, findN_at (fnames m) s 0 k htk (by unfold fnames; rw [List.getElem?_map, hx5]; simpa using hc6p), Nat.zero_add]
  have hc6p : ¬ (x5.name = s) := by simpa using hc6
  refine W.skip (N.blk (N.seq (W.region (WL.move rfl rfl rfl ?_))))
  refine WL.add (c := (k : Int) + 1) rfl rfl rfl rfl (rfl) (by omega) ?_
  refine WL.assign rfl rfl rfl (WL.nil ?_)
  have htk2 : ∀ j, j < k + 1 → (fnames m)[j]? ≠ some s := fun j hj => by
   by_cases e : j = k
   ·
    subst e; unfold fnames; rw [List.getElem?_map, hx5]; simpa using hc6p
   exact htk j (by omega)
  exact N.loop (k + 1) ⟨rfl, rfl, rfl, trivial⟩ ⟨hS, by omega, htk2⟩ (by first | omega | (simp only; omega))
 have hc4p : ¬ ((k : Int) < (m.funcs.length : Int)) := by simpa using hc4
 refine W.exit (X.seq (X.loop (X.blk (N.seq (W.seq (W.region (WL.assign rfl rfl rfl (WL.nil (N.seq ?_)))))))))
 refine Fin.ret1 rfl (v := .int .i64 (-1)) rfl ?_
 have hbz := hS.below
 clear hS
 refine ⟨?_, hbz⟩
 congr 1
 rw [find5, findN_no (fnames m) s 0 (fun j hj => htk j (by unfold fnames at hj; rw [List.length_map] at hj; omega))]

theorem findgnames_ret (m : DMod) (cm : List Value) (s : ByteArray) {w : World} {ro : Nat → Prop} (hro : ∀ b, ro b → b < w.heap.size) (hx : ModC ro w cm m) : Ret Tryd.prog 19 #[.agg cm.toArray, .string s] w fun v w' => v = .int .i64 (find5 (gnames m) s) ∧ Below w.heap.size w w' := by
 obtain ⟨sf, sg, rfl, hfs, hgs⟩ := id hx
 obtain ⟨adf, capf, rfl, hfsa, hfsb, hfsc, hfsd⟩ := id hfs
 have hfsm : m.funcs.length ≤ 9223372036854775807 := by have h1 := hfsa; have h2 := hfsb; unfold maxLen at h2; omega
 obtain ⟨adg, capg, rfl, hgsa, hgsb, hgsc, hgsd⟩ := id hgs
 have hgsm : m.globs.length ≤ 9223372036854775807 := by have h1 := hgsa; have h2 := hgsb; unfold maxLen at h2; omega
 refine Ret.enter (P := Tryd.prog) (n := 22) (args := [.agg #[.slice adf m.funcs.length capf, .slice adg m.globs.length capg], .string s]) (σ := [(0, .agg #[.slice adf m.funcs.length capf, .slice adg m.globs.length capg]), (1, .string s)]) Tryd.func19 rfl rfl rfl rfl ?_
 have hS := St.start (ro := ro) hro
 refine W.seq (W.region ?_)
 refine WL.box (v := .agg #[.slice adf m.funcs.length capf, .slice adg m.globs.length capg]) (cs := [.slice adf m.funcs.length capf, .slice adg m.globs.length capg]) rfl rfl rfl rfl hS ?_
 clear hS; intro w2 b1 hb_b1 hS
 refine WL.assign rfl rfl rfl (WL.nil (N.seq (W.seq (W.seq (W.region (WL.assign rfl rfl rfl (WL.nil (N.seq (W.block ?_)))))))))
 refine W.loop (α := Nat) (fun (k : Nat) => [(1, .string s), (2, .pointer (some ⟨b1, 0, none⟩)), (5, .int .i64 (k : Int))]) (fun (k : Nat) u => St w w u ro [(b1, .cells #[.slice adf m.funcs.length capf, .slice adg m.globs.length capg] 32 (0, 0))] [] ∧ k ≤ m.globs.length ∧ ∀ j, j < k → (gnames m)[j]? ≠ some s) (fun (k : Nat) => m.globs.length - k) 0 ⟨rfl, rfl, rfl, trivial⟩ ⟨hS, Nat.zero_le _, fun j hj => by omega⟩ ?_
 clear hS
 rintro k w3 ⟨hS, hk, htk⟩
 refine W.seq (W.seq (W.region (WL.move rfl rfl rfl (WL.fieldAddr fo_32_1 rfl rfl rfl (WL.load1 (v := .slice adg m.globs.length capg) one_30 rfl rfl rfl (hS.cell 0 rfl rfl) (WL.lenSlice Tryd.underlying30 rfl rfl rfl (WL.bin rfl rfl rfl rfl rfl (WL.nil (N.seq ?_)))))))))
 refine W.cond rfl (fun hc4 => ?_) (fun hc4 => ?_)
 ·
  have hc4p : (k : Int) < (m.globs.length : Int) := by simpa using hc4
  refine W.skip (N.seq (W.seq (W.block (W.seq (W.region (WL.fieldAddr fo_32_1 rfl rfl rfl (WL.load1 (v := .slice adg m.globs.length capg) one_30 rfl rfl rfl (hS.cell 0 rfl rfl) (WL.move rfl rfl rfl ?_))))))))
  have hj5 : k < m.globs.length := by omega
  obtain ⟨x5, hx5⟩ : ∃ zz, m.globs[k]? = some zz := ⟨_, List.getElem?_eq_getElem hj5⟩
  obtain ⟨b5, o5, cs5, hE5, hr5, hl5, hc5, hQ5⟩ := hgsd k _ hx5
  obtain ⟨rfl, hgn5, hgb5, hgi5⟩ := hQ5
  refine WL.indexAddrE (j := k) Tryd.underlying30 isz_38 rfl rfl rfl rfl hj5 hE5 (WL.fieldAddr fo_38_0 rfl rfl rfl (WL.load1 (v := .string x5.name) one_9 rfl rfl rfl (hS.roCells hr5 hc5 0 _ rfl) (WL.move rfl rfl rfl (WL.eqStr rfl rfl rfl rfl (WL.nil (N.seq ?_))))))
  refine W.cond rfl (fun hc6 => ?_) (fun hc6 => ?_)
  ·
   have hc6p : x5.name = s := by simpa using hc6
   refine W.seq (W.region (WL.move rfl rfl rfl (WL.assign rfl rfl rfl (WL.nil (N.seq ?_)))))
   refine Fin.ret1 rfl (v := .int .i64 (k : Int)) rfl ?_
   have hbz := hS.below
   clear hS
   refine ⟨?_, hbz⟩
   congr 1
   rw [find5, findN_at (gnames m) s 0 k htk (by unfold gnames; rw [List.getElem?_map, hx5]; simpa using hc6p), Nat.zero_add]
  have hc6p : ¬ (x5.name = s) := by simpa using hc6
  refine W.skip (N.blk (N.seq (W.region (WL.move rfl rfl rfl ?_))))
  refine WL.add (c := (k : Int) + 1) rfl rfl rfl rfl (rfl) (by omega) ?_
  refine WL.assign rfl rfl rfl (WL.nil ?_)
  have htk2 : ∀ j, j < k + 1 → (gnames m)[j]? ≠ some s := fun j hj => by
   by_cases e : j = k
   ·
    subst e; unfold gnames; rw [List.getElem?_map, hx5]; simpa using hc6p
   exact htk j (by omega)
  exact N.loop (k + 1) ⟨rfl, rfl, rfl, trivial⟩ ⟨hS, by omega, htk2⟩ (by first | omega | (simp only; omega))
 have hc4p : ¬ ((k : Int) < (m.globs.length : Int)) := by simpa using hc4
 refine W.exit (X.seq (X.loop (X.blk (N.seq (W.seq (W.region (WL.assign rfl rfl rfl (WL.nil (N.seq ?_)))))))))
 refine Fin.ret1 rfl (v := .int .i64 (-1)) rfl ?_
 have hbz := hS.below
 clear hS
 refine ⟨?_, hbz⟩
 congr 1
 rw [find5, findN_no (gnames m) s 0 (fun j hj => htk j (by unfold gnames at hj; rw [List.length_map] at hj; omega))]

end Go.Proofs.YtapjejjmhmdmdaaDoor

namespace Go.Proofs.YtapjejjmhmdmdaaDoor
open Go.RowKit

theorem names5_ret (m : DMod) (cm : List Value) {w : World} {ro : Nat → Prop} (hro : ∀ b, ro b → b < w.heap.size) (hx : ModC ro w cm m) (hlf : m.funcs.length ≤ 16) (hlg : m.globs.length ≤ 16) : Ret Tryd.prog 46 #[.agg cm.toArray] w fun v w' => SlV (fun b => w.heap.size ≤ b ∧ b < w'.heap.size) w' 1 StrC v (names5 m) ∧ Below w.heap.size w w' := by
 obtain ⟨sf, sg, rfl, hfs, hgs⟩ := id hx
 obtain ⟨adf, capf, rfl, hfsa, hfsb, hfsc, hfsd⟩ := id hfs
 have hfsm : m.funcs.length ≤ 9223372036854775807 := by have h1 := hfsa; have h2 := hfsb; unfold maxLen at h2; omega
 obtain ⟨adg, capg, rfl, hgsa, hgsb, hgsc, hgsd⟩ := id hgs
 have hgsm : m.globs.length ≤ 9223372036854775807 := by have h1 := hgsa; have h2 := hgsb; unfold maxLen at h2; omega
 refine Ret.enter (P := Tryd.prog) (n := 39) (args := [.agg #[.slice adf m.funcs.length capf, .slice adg m.globs.length capg]]) (σ := [(0, .agg #[.slice adf m.funcs.length capf, .slice adg m.globs.length capg])]) Tryd.func46 rfl rfl rfl rfl ?_
 have hS := St.start (ro := ro) hro
 refine W.seq (W.region ?_)
 refine WL.box (v := .agg #[.slice adf m.funcs.length capf, .slice adg m.globs.length capg]) (cs := [.slice adf m.funcs.length capf, .slice adg m.globs.length capg]) rfl rfl rfl rfl hS ?_
 clear hS; intro w2 b1 hb_b1 hS
 refine WL.assign rfl rfl rfl (WL.nil (N.seq (W.seq (W.region (WL.assign rfl rfl rfl (WL.nil (N.seq (W.seq (W.seq ?_)))))))))
 refine W.region (WL.assign rfl rfl rfl (WL.nil (N.seq (W.block ?_))))
 replace hS := hS.row0 9 1
 refine W.loop (α := Nat × Value × List Value) (fun ⟨k, v, cs⟩ => [(1, .pointer (some ⟨b1, 0, none⟩)), (2, .slice none 0 0), (3, v), (4, .int .i64 (k : Int))]) (fun ⟨k, v, cs⟩ u => St w w u ro [(b1, .cells #[.slice adf m.funcs.length capf, .slice adg m.globs.length capg] 32 (0, 0))] [⟨v, 9, 1, k, cs⟩] ∧ k ≤ m.funcs.length ∧ Chunks 1 StrC cs ((fnames m).take k)) (fun ⟨k, v, cs⟩ => m.funcs.length - k) (0, (.slice none 0 0), []) ⟨rfl, rfl, rfl, rfl, trivial⟩ ⟨hS, Nat.zero_le _, Chunks.nil⟩ ?_
 clear hS
 rintro ⟨k, v, cs⟩ w3 ⟨hS, hk, hch⟩
 have hrow : w3.ownsRow w.heap.size 9 1 v (k) _ := hS.rows _ List.mem_cons_self
 obtain ⟨adv, capv, rfl, hr1v, hr2v, hr3v⟩ := row_shape hrow
 clear hrow
 refine W.seq (W.seq (W.region (WL.move rfl rfl rfl (WL.fieldAddr fo_32_0 rfl rfl rfl (WL.load1 (v := .slice adf m.funcs.length capf) one_29 rfl rfl rfl (hS.cell 0 rfl rfl) (WL.lenSlice Tryd.underlying29 rfl rfl rfl (WL.bin rfl rfl rfl rfl rfl (WL.nil (N.seq ?_)))))))))
 refine W.cond rfl (fun hc4 => ?_) (fun hc4 => ?_)
 ·
  have hc4p : (k : Int) < (m.funcs.length : Int) := by simpa using hc4
  refine W.skip (N.seq (W.seq (W.block (W.region (WL.move rfl rfl rfl (WL.fieldAddr fo_32_0 rfl rfl rfl (WL.load1 (v := .slice adf m.funcs.length capf) one_29 rfl rfl rfl (hS.cell 0 rfl rfl) (WL.move rfl rfl rfl ?_))))))))
  have hj5 : k < m.funcs.length := by omega
  obtain ⟨x5, hx5⟩ : ∃ zz, m.funcs[k]? = some zz := ⟨_, List.getElem?_eq_getElem hj5⟩
  obtain ⟨b5, o5, cs5, hE5, hr5, hl5, hc5, hQ5⟩ := hfsd k _ hx5
  obtain ⟨sb5, rfl, hbl5, hnm5, hbd5, hpr5⟩ := id hQ5
  obtain ⟨adb5, capb5, rfl, hbk5a, hbk5b, hbk5c, hbk5d⟩ := id hbl5
  have hbk5m : x5.blocks.length ≤ 9223372036854775807 := by have h1 := hbk5a; have h2 := hbk5b; unfold maxLen at h2; omega
  refine WL.indexAddrE (j := k) Tryd.underlying29 isz_35 rfl rfl rfl rfl hj5 hE5 (WL.fieldAddr fo_35_0 rfl rfl rfl (WL.load1 (v := .string x5.name) one_9 rfl rfl rfl (hS.roCells hr5 hc5 0 _ rfl) ?_))
  refine WL.buildSlice (ps := [(0, .string x5.name)]) (cs := [.string x5.name]) Tryd.underlying25 (tyZero_spec zer_9) rfl rfl rfl rfl (by kernel_rfl) hS ?_
  clear hS; intro w7 b6 hb_b6 hS
  refine WL.append (r := ⟨.slice adv k capv, 9, 1, k, cs⟩) (cs := [.string x5.name]) 16 Tryd.underlying25 (tyZero_spec zer_9) byt_9 rfl rfl rfl rfl rfl rfl rfl rfl rfl hS (by unfold maxLen; simp only; omega) (by simp only; omega) ?_
  clear hS; intro w8 v9 hn_v9 hS
  have hrow : w8.ownsRow w.heap.size 9 1 v9 (k + 1) _ := hS.rows _ List.mem_cons_self
  obtain ⟨av9, cv9, rfl, hc1_v9, hc2_v9, hc3_v9⟩ := row_shape hrow
  clear hrow
  refine WL.assign rfl rfl rfl (WL.nil (N.blk (N.seq (W.region (WL.move rfl rfl rfl ?_)))))
  refine WL.add (c := (k : Int) + 1) rfl rfl rfl rfl (rfl) (by omega) ?_
  refine WL.assign rfl rfl rfl (WL.nil ?_)
  have hch2 : Chunks 1 StrC (cs ++ ([.string x5.name] : List Value)) ((fnames m).take (k + 1)) := by rw [take_next (x := x5.name) (by unfold fnames; rw [List.getElem?_map, hx5]; rfl)]; exact hch.snoc rfl ⟨rfl, hnm5⟩
  exact N.loop (k + 1, .slice av9 (k + 1) cv9, cs ++ ([.string x5.name] : List Value)) ⟨rfl, rfl, rfl, rfl, trivial⟩ ⟨hS, by omega, hch2⟩ (by first | omega | (simp only; omega))
 have hc4p : ¬ ((k : Int) < (m.funcs.length : Int)) := by simpa using hc4
 refine W.exit (X.seq (X.loop (X.blk (N.seq (W.seq (W.seq (W.region (WL.assign rfl rfl rfl (WL.nil ?_)))))))))
 refine N.seq (W.block ?_)
 have hke : k = m.funcs.length := by omega
 have hch0 : Chunks 1 StrC cs (fnames m ++ (gnames m).take 0) := by rw [List.take_zero, List.append_nil]; rwa [List.take_of_length_le (by unfold fnames; simp; omega)] at hch
 clear hch
 refine W.loop (α := Nat × Value × List Value) (fun ⟨j, v2, cs2⟩ => [(1, .pointer (some ⟨b1, 0, none⟩)), (2, .slice none 0 0), (3, v2), (5, .int .i64 (j : Int))]) (fun ⟨j, v2, cs2⟩ u => St w w u ro [(b1, .cells #[.slice adf m.funcs.length capf, .slice adg m.globs.length capg] 32 (0, 0))] [⟨v2, 9, 1, k + j, cs2⟩] ∧ j ≤ m.globs.length ∧ Chunks 1 StrC cs2 (fnames m ++ (gnames m).take j)) (fun ⟨j, v2, cs2⟩ => m.globs.length - j) (0, .slice adv k capv, cs) ⟨rfl, rfl, rfl, rfl, trivial⟩ ⟨hS, Nat.zero_le _, hch0⟩ ?_
 clear hS
 rintro ⟨j, v2, cs2⟩ w10 ⟨hS, hj, hch⟩
 have hrow : w10.ownsRow w.heap.size 9 1 v2 (k + j) _ := hS.rows _ List.mem_cons_self
 obtain ⟨adv2, capv2, rfl, hr1v2, hr2v2, hr3v2⟩ := row_shape hrow
 clear hrow
 refine W.seq (W.seq (W.region (WL.move rfl rfl rfl (WL.fieldAddr fo_32_1 rfl rfl rfl (WL.load1 (v := .slice adg m.globs.length capg) one_30 rfl rfl rfl (hS.cell 0 rfl rfl) (WL.lenSlice Tryd.underlying30 rfl rfl rfl (WL.bin rfl rfl rfl rfl rfl (WL.nil (N.seq ?_)))))))))
 refine W.cond rfl (fun hc11 => ?_) (fun hc11 => ?_)
 ·
  have hc11p : (j : Int) < (m.globs.length : Int) := by simpa using hc11
  refine W.skip (N.seq (W.seq (W.block (W.region (WL.move rfl rfl rfl (WL.fieldAddr fo_32_1 rfl rfl rfl (WL.load1 (v := .slice adg m.globs.length capg) one_30 rfl rfl rfl (hS.cell 0 rfl rfl) (WL.move rfl rfl rfl ?_))))))))
  have hj12 : j < m.globs.length := by omega
  obtain ⟨x12, hx12⟩ : ∃ zz, m.globs[j]? = some zz := ⟨_, List.getElem?_eq_getElem hj12⟩
  obtain ⟨b12, o12, cs12, hE12, hr12, hl12, hc12, hQ12⟩ := hgsd j _ hx12
  obtain ⟨rfl, hgn12, hgb12, hgi12⟩ := hQ12
  refine WL.indexAddrE (j := j) Tryd.underlying30 isz_38 rfl rfl rfl rfl hj12 hE12 (WL.fieldAddr fo_38_0 rfl rfl rfl (WL.load1 (v := .string x12.name) one_9 rfl rfl rfl (hS.roCells hr12 hc12 0 _ rfl) ?_))
  refine WL.buildSlice (ps := [(0, .string x12.name)]) (cs := [.string x12.name]) Tryd.underlying25 (tyZero_spec zer_9) rfl rfl rfl rfl (by kernel_rfl) hS ?_
  clear hS; intro w14 b13 hb_b13 hS
  refine WL.append (r := ⟨.slice adv2 (k + j) capv2, 9, 1, k + j, cs2⟩) (cs := [.string x12.name]) 16 Tryd.underlying25 (tyZero_spec zer_9) byt_9 rfl rfl rfl rfl rfl rfl rfl rfl rfl hS (by unfold maxLen; simp only; omega) (by simp only; omega) ?_
  clear hS; intro w15 v16 hn_v16 hS
  have hrow : w15.ownsRow w.heap.size 9 1 v16 (k + j + 1) _ := hS.rows _ List.mem_cons_self
  obtain ⟨av16, cv16, rfl, hc1_v16, hc2_v16, hc3_v16⟩ := row_shape hrow
  clear hrow
  refine WL.assign rfl rfl rfl (WL.nil (N.blk (N.seq (W.region (WL.move rfl rfl rfl ?_)))))
  refine WL.add (c := (j : Int) + 1) rfl rfl rfl rfl (rfl) (by omega) ?_
  refine WL.assign rfl rfl rfl (WL.nil ?_)
  have hch2 : Chunks 1 StrC (cs2 ++ ([.string x12.name] : List Value)) (fnames m ++ (gnames m).take (j + 1)) := by rw [take_next (x := x12.name) (by unfold gnames; rw [List.getElem?_map, hx12]; rfl), ← List.append_assoc]; exact hch.snoc rfl ⟨rfl, hgn12⟩
  exact N.loop (j + 1, .slice av16 (k + j + 1) cv16, cs2 ++ ([.string x12.name] : List Value)) ⟨rfl, rfl, rfl, rfl, trivial⟩ ⟨hS, by omega, hch2⟩ (by first | omega | (simp only; omega))
 have hc11p : ¬ ((j : Int) < (m.globs.length : Int)) := by simpa using hc11
 refine W.exit (X.seq (X.loop (X.blk (N.seq (W.seq (W.region (WL.move rfl rfl rfl (WL.assign rfl rfl rfl (WL.nil ?_)))))))))
 refine N.seq ?_
 refine Fin.ret1 rfl (v := .slice adv2 (k + j) capv2) rfl ?_
 have hje : j = m.globs.length := by omega
 subst hje
 rw [List.take_of_length_le (l := gnames m) (by unfold gnames; simp)] at hch
 refine ⟨row_slv (hS.rows _ List.mem_cons_self) hch (by simp [names5, fnames, gnames]; omega) (fun x hx => ?_), hS.below⟩
 exact (hS.keys x (by simp only [keysOf, List.mem_append, List.mem_filterMap]; exact .inr ⟨_, List.mem_cons_self, hx⟩)).imp id (·.1)

end Go.Proofs.YtapjejjmhmdmdaaDoor
