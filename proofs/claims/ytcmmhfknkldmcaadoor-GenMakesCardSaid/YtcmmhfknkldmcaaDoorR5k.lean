/-
  Contracts of what is right (marlineref05). No condition beyond those that each theorem states.
-/
import Derived.Test.YtcmmhfknkldmcaaDoorG13
namespace Go.Proofs.YtcmmhfknkldmcaaDoor
open Go.RowKit
theorem agg_44 : tyAgg Tryd.prog 44 2 = true := by kernel_rfl
theorem agg_76 : tyAgg Tryd.prog 76 4 = true := by kernel_rfl
theorem byt_9 : (Tryd.prog.info? 9).map (·.bytes) = some 16 := by kernel_rfl
theorem fo_44_0 : fOff Tryd.prog 44 0 0 = true := by kernel_rfl
theorem fo_44_1 : fOff Tryd.prog 44 1 1 = true := by kernel_rfl
theorem fo_76_0 : fOff Tryd.prog 76 0 0 = true := by kernel_rfl
theorem fo_76_1 : fOff Tryd.prog 76 1 1 = true := by kernel_rfl
theorem fo_76_2 : fOff Tryd.prog 76 2 2 = true := by kernel_rfl
theorem fo_76_3 : fOff Tryd.prog 76 3 3 = true := by kernel_rfl
theorem isz_24 : (Tryd.prog.info? 24).map (·.size) = some 4 := by kernel_rfl
theorem isz_76 : (Tryd.prog.info? 76).map (·.size) = some 4 := by kernel_rfl
theorem isz_9 : (Tryd.prog.info? 9).map (·.size) = some 1 := by kernel_rfl
theorem one_4 : tyOne Tryd.prog 4 = true := by kernel_rfl
theorem one_41 : tyOne Tryd.prog 41 = true := by kernel_rfl
theorem one_42 : tyOne Tryd.prog 42 = true := by kernel_rfl
theorem siz_76 : tySize Tryd.prog 76 4 = true := by kernel_rfl
theorem zer_76 : tyZero Tryd.prog 76 = some [.string ⟨#[]⟩, .int .i64 0, .bool false, .int .u64 0] := by kernel_rfl
theorem zer_9 : tyZero Tryd.prog 9 = some [.string ⟨#[]⟩] := by kernel_rfl
def findN : Nat → List ByteArray → ByteArray → Int
  | _, [], _ => -1
  | i, n :: r, s => if n = s then (i : Int) else findN (i + 1) r s
def find5 (l : List ByteArray) (s : ByteArray) : Int := findN 0 l s
theorem findN_at : ∀ (l : List ByteArray) (s : ByteArray) (i k : Nat), (∀ j, j < k → l[j]? ≠ some s) → l[k]? = some s → findN i l s = ((i + k : Nat) : Int)
  | [], _, _, _, _, h => by simp at h
  | n :: r, s, i, 0, _, h => by
    simp only [List.getElem?_cons_zero, Option.some.injEq] at h
    subst h; simp [findN]
  | n :: r, s, i, k + 1, h, hk => by
    have h0 : ¬ n = s := fun e => h 0 (by omega) (by simp [e])
    rw [findN, if_neg h0, findN_at r s (i + 1) k (fun j hj => by have := h (j + 1) (by omega); simpa using this) (by simpa using hk)]
    omega
theorem findN_no : ∀ (l : List ByteArray) (s : ByteArray) (i : Nat), (∀ j, j < l.length → l[j]? ≠ some s) → findN i l s = -1
  | [], _, _, _ => rfl
  | n :: r, s, i, h => by
    have h0 : ¬ n = s := fun e => h 0 (by simp) (by simp [e])
    rw [findN, if_neg h0]
    exact findN_no r s (i + 1) fun j hj => by have := h (j + 1) (by simp; omega); simpa using this
theorem find5_cases (l : List ByteArray) (s : ByteArray) : (find5 l s = -1 ∧ s ∉ l) ∨ ∃ k : Nat, find5 l s = (k : Int) ∧ l[k]? = some s ∧ k < l.length ∧ ∀ j, j < k → l[j]? ≠ some s := by
  by_cases h : ∃ k, k < l.length ∧ l[k]? = some s
  · obtain ⟨k, ⟨h1, h2⟩, h3⟩ := Go.exists_least (p := fun k => k < l.length ∧ l[k]? = some s) h
    have h4 : ∀ j, j < k → l[j]? ≠ some s := fun j hj e => by have := h3 j ⟨by omega, e⟩; omega
    exact .inr ⟨k, by rw [find5, findN_at l s 0 k h4 h2, Nat.zero_add], h2, h1, h4⟩
  · refine .inl ⟨findN_no l s 0 fun j hj e => h ⟨j, hj, e⟩, fun hm => ?_⟩
    obtain ⟨j, hj⟩ := List.getElem?_of_mem hm
    exact h ⟨j, (List.getElem?_eq_some_iff.1 hj).1, hj⟩
def fnames (m : DMod) : List ByteArray := m.funcs.map (·.name)
def gnames (m : DMod) : List ByteArray := m.globs.map (·.name)
def names5 (m : DMod) : List ByteArray := fnames m ++ gnames m

theorem findfnames_ret (m : DMod) (cm : List Value) (s : ByteArray) {w : World} {ro : Nat → Prop} (hro : ∀ b, ro b → b < w.heap.size) (hx : ModC ro w cm m) : Ret Tryd.prog 33 #[.agg cm.toArray, .string s] w fun v w' => v = .int .i64 (find5 (fnames m) s) ∧ Below w.heap.size w w' := by
 obtain ⟨sf, sg, rfl, hfs, hgs⟩ := id hx
 obtain ⟨adf, capf, rfl, hfsa, hfsb, hfsc, hfsd⟩ := id hfs
 have hfsm : m.funcs.length ≤ 9223372036854775807 := by have h1 := hfsa; have h2 := hfsb; unfold maxLen at h2; omega
 obtain ⟨adg, capg, rfl, hgsa, hgsb, hgsc, hgsd⟩ := id hgs
 have hgsm : m.globs.length ≤ 9223372036854775807 := by have h1 := hgsa; have h2 := hgsb; unfold maxLen at h2; omega
 refine Ret.enter (P := Tryd.prog) (n := 22) (args := [.agg #[.slice adf m.funcs.length capf, .slice adg m.globs.length capg], .string s]) (σ := [(0, .agg #[.slice adf m.funcs.length capf, .slice adg m.globs.length capg]), (1, .string s)]) Tryd.func33 rfl rfl rfl rfl ?_
 have hS := St.start (ro := ro) hro
 refine W.seq (W.region ?_)
 refine WL.box (v := .agg #[.slice adf m.funcs.length capf, .slice adg m.globs.length capg]) (cs := [.slice adf m.funcs.length capf, .slice adg m.globs.length capg]) rfl rfl rfl rfl hS ?_
 clear hS; intro w2 b1 hb_b1 hS
 refine WL.assign rfl rfl rfl (WL.nil (N.seq (W.seq (W.seq (W.region (WL.assign rfl rfl rfl (WL.nil (N.seq (W.block ?_)))))))))
 refine W.loop (α := Nat) (fun (k : Nat) => [(1, .string s), (2, .pointer (some ⟨b1, 0, none⟩)), (5, .int .i64 (k : Int))]) (fun (k : Nat) u => St w w u ro [(b1, .cells #[.slice adf m.funcs.length capf, .slice adg m.globs.length capg] 44 (0, 0))] [] ∧ k ≤ m.funcs.length ∧ ∀ j, j < k → (fnames m)[j]? ≠ some s) (fun (k : Nat) => m.funcs.length - k) 0 ⟨rfl, rfl, rfl, trivial⟩ ⟨hS, Nat.zero_le _, fun j hj => by omega⟩ ?_
 clear hS
 rintro k w3 ⟨hS, hk, htk⟩
 refine W.seq (W.seq (W.region (WL.move rfl rfl rfl (WL.fieldAddr fo_44_0 rfl rfl rfl (WL.load1 (v := .slice adf m.funcs.length capf) one_41 rfl rfl rfl (hS.cell 0 rfl rfl) (WL.lenSlice Tryd.underlying41 rfl rfl rfl (WL.bin rfl rfl rfl rfl rfl (WL.nil (N.seq ?_)))))))))
 refine W.cond rfl (fun hc4 => ?_) (fun hc4 => ?_)
 ·
  have hc4p : (k : Int) < (m.funcs.length : Int) := by simpa using hc4
  refine W.skip (N.seq (W.seq (W.block (W.seq (W.region (WL.fieldAddr fo_44_0 rfl rfl rfl (WL.load1 (v := .slice adf m.funcs.length capf) one_41 rfl rfl rfl (hS.cell 0 rfl rfl) (WL.move rfl rfl rfl ?_))))))))
  have hj5 : k < m.funcs.length := by omega
  obtain ⟨x5, hx5, b5, o5, cs5, hE5, hr5, _, hc5, hQ5⟩ := opn hfsd hj5
  obtain ⟨sb5, rfl, hbl5, hnm5, hbd5, hpr5⟩ := id hQ5
  obtain ⟨adb5, capb5, rfl, hbk5a, hbk5b, hbk5c, hbk5d⟩ := id hbl5
  have hbk5m : x5.blocks.length ≤ 9223372036854775807 := by have h1 := hbk5a; have h2 := hbk5b; unfold maxLen at h2; omega
  refine WL.indexAddrE (j := k) Tryd.underlying41 isz_24 rfl rfl rfl rfl hj5 hE5 (WL.fieldAddr fo_24_0 rfl rfl rfl (WL.load1 (v := .string x5.name) one_9 rfl rfl rfl (hS.roCells hr5 hc5 0 _ rfl) (WL.move rfl rfl rfl (WL.eqStr rfl rfl rfl rfl (WL.nil (N.seq ?_))))))
  refine W.cond rfl (fun hc6 => ?_) (fun hc6 => ?_)
  ·
   have hc6p : x5.name = s := by simpa using hc6
   refine W.seq (W.region (WL.move rfl rfl rfl (WL.assign rfl rfl rfl (WL.nil (N.seq ?_)))))
   refine Fin.ret1 rfl (v := .int .i64 (k : Int)) rfl ?_
   have hbz := hS.below
   clear hS
   refine ⟨?_, hbz⟩
   congr 1
   rw [find5, findN_at (fnames m) s 0 k htk (by unfold fnames; rw [List.getElem?_map, hx5]; simpa using hc6p), Nat.zero_add]
  have hc6p : ¬ (x5.name = s) := by simpa using hc6
  refine W.skip (N.blk (N.seq (W.region (WL.move rfl rfl rfl ?_))))
  refine WL.add (c := (k : Int) + 1) rfl rfl rfl rfl (rfl) (by omega) ?_
  refine WL.assign rfl rfl rfl (WL.nil ?_)
  have htk2 : ∀ j, j < k + 1 → (fnames m)[j]? ≠ some s := fun j hj => by
   by_cases e : j = k
   ·
    subst e; unfold fnames; rw [List.getElem?_map, hx5]; simpa using hc6p
   exact htk j (by omega)
  exact N.loop (k + 1) ⟨rfl, rfl, rfl, trivial⟩ ⟨hS, by omega, htk2⟩ (by first | omega | (simp only; omega))
 have hc4p : ¬ ((k : Int) < (m.funcs.length : Int)) := by simpa using hc4
 refine W.exit (X.seq (X.loop (X.blk (N.seq (W.seq (W.region (WL.assign rfl rfl rfl (WL.nil (N.seq ?_)))))))))
 refine Fin.ret1 rfl (v := .int .i64 (-1)) rfl ?_
 have hbz := hS.below
 clear hS
 refine ⟨?_, hbz⟩
 congr 1
 rw [find5, findN_no (fnames m) s 0 (fun j hj => htk j (by unfold fnames at hj; rw [List.length_map] at hj; omega))]

theorem findgnames_ret (m : DMod) (cm : List Value) (s : ByteArray) {w : World} {ro : Nat → Prop} (hro : ∀ b, ro b → b < w.heap.size) (hx : ModC ro w cm m) : Ret Tryd.prog 34 #[.agg cm.toArray, .string s] w fun v w' => v = .int .i64 (find5 (gnames m) s) ∧ Below w.heap.size w w' := by
 obtain ⟨sf, sg, rfl, hfs, hgs⟩ := id hx
 obtain ⟨adf, capf, rfl, hfsa, hfsb, hfsc, hfsd⟩ := id hfs
 have hfsm : m.funcs.length ≤ 9223372036854775807 := by have h1 := hfsa; have h2 := hfsb; unfold maxLen at h2; omega
 obtain ⟨adg, capg, rfl, hgsa, hgsb, hgsc, hgsd⟩ := id hgs
 have hgsm : m.globs.length ≤ 9223372036854775807 := by have h1 := hgsa; have h2 := hgsb; unfold maxLen at h2; omega
 refine Ret.enter (P := Tryd.prog) (n := 22) (args := [.agg #[.slice adf m.funcs.length capf, .slice adg m.globs.length capg], .string s]) (σ := [(0, .agg #[.slice adf m.funcs.length capf, .slice adg m.globs.length capg]), (1, .string s)]) Tryd.func34 rfl rfl rfl rfl ?_
 have hS := St.start (ro := ro) hro
 refine W.seq (W.region ?_)
 refine WL.box (v := .agg #[.slice adf m.funcs.length capf, .slice adg m.globs.length capg]) (cs := [.slice adf m.funcs.length capf, .slice adg m.globs.length capg]) rfl rfl rfl rfl hS ?_
 clear hS; intro w2 b1 hb_b1 hS
 refine WL.assign rfl rfl rfl (WL.nil (N.seq (W.seq (W.seq (W.region (WL.assign rfl rfl rfl (WL.nil (N.seq (W.block ?_)))))))))
 refine W.loop (α := Nat) (fun (k : Nat) => [(1, .string s), (2, .pointer (some ⟨b1, 0, none⟩)), (5, .int .i64 (k : Int))]) (fun (k : Nat) u => St w w u ro [(b1, .cells #[.slice adf m.funcs.length capf, .slice adg m.globs.length capg] 44 (0, 0))] [] ∧ k ≤ m.globs.length ∧ ∀ j, j < k → (gnames m)[j]? ≠ some s) (fun (k : Nat) => m.globs.length - k) 0 ⟨rfl, rfl, rfl, trivial⟩ ⟨hS, Nat.zero_le _, fun j hj => by omega⟩ ?_
 clear hS
 rintro k w3 ⟨hS, hk, htk⟩
 refine W.seq (W.seq (W.region (WL.move rfl rfl rfl (WL.fieldAddr fo_44_1 rfl rfl rfl (WL.load1 (v := .slice adg m.globs.length capg) one_42 rfl rfl rfl (hS.cell 0 rfl rfl) (WL.lenSlice Tryd.underlying42 rfl rfl rfl (WL.bin rfl rfl rfl rfl rfl (WL.nil (N.seq ?_)))))))))
 refine W.cond rfl (fun hc4 => ?_) (fun hc4 => ?_)
 ·
  have hc4p : (k : Int) < (m.globs.length : Int) := by simpa using hc4
  refine W.skip (N.seq (W.seq (W.block (W.seq (W.region (WL.fieldAddr fo_44_1 rfl rfl rfl (WL.load1 (v := .slice adg m.globs.length capg) one_42 rfl rfl rfl (hS.cell 0 rfl rfl) (WL.move rfl rfl rfl ?_))))))))
  have hj5 : k < m.globs.length := by omega
  obtain ⟨x5, hx5, b5, o5, cs5, hE5, hr5, _, hc5, hQ5⟩ := opn hgsd hj5
  obtain ⟨rfl, hgn5, hgb5, hgi5⟩ := hQ5
  refine WL.indexAddrE (j := k) Tryd.underlying42 isz_76 rfl rfl rfl rfl hj5 hE5 (WL.fieldAddr fo_76_0 rfl rfl rfl (WL.load1 (v := .string x5.name) one_9 rfl rfl rfl (hS.roCells hr5 hc5 0 _ rfl) (WL.move rfl rfl rfl (WL.eqStr rfl rfl rfl rfl (WL.nil (N.seq ?_))))))
  refine W.cond rfl (fun hc6 => ?_) (fun hc6 => ?_)
  ·
   have hc6p : x5.name = s := by simpa using hc6
   refine W.seq (W.region (WL.move rfl rfl rfl (WL.assign rfl rfl rfl (WL.nil (N.seq ?_)))))
   refine Fin.ret1 rfl (v := .int .i64 (k : Int)) rfl ?_
   have hbz := hS.below
   clear hS
   refine ⟨?_, hbz⟩
   congr 1
   rw [find5, findN_at (gnames m) s 0 k htk (by unfold gnames; rw [List.getElem?_map, hx5]; simpa using hc6p), Nat.zero_add]
  have hc6p : ¬ (x5.name = s) := by simpa using hc6
  refine W.skip (N.blk (N.seq (W.region (WL.move rfl rfl rfl ?_))))
  refine WL.add (c := (k : Int) + 1) rfl rfl rfl rfl (rfl) (by omega) ?_
  refine WL.assign rfl rfl rfl (WL.nil ?_)
  have htk2 : ∀ j, j < k + 1 → (gnames m)[j]? ≠ some s := fun j hj => by
   by_cases e : j = k
   ·
    subst e; unfold gnames; rw [List.getElem?_map, hx5]; simpa using hc6p
   exact htk j (by omega)
  exact N.loop (k + 1) ⟨rfl, rfl, rfl, trivial⟩ ⟨hS, by omega, htk2⟩ (by first | omega | (simp only; omega))
 have hc4p : ¬ ((k : Int) < (m.globs.length : Int)) := by simpa using hc4
 refine W.exit (X.seq (X.loop (X.blk (N.seq (W.seq (W.region (WL.assign rfl rfl rfl (WL.nil (N.seq ?_)))))))))
 refine Fin.ret1 rfl (v := .int .i64 (-1)) rfl ?_
 have hbz := hS.below
 clear hS
 refine ⟨?_, hbz⟩
 congr 1
 rw [find5, findN_no (gnames m) s 0 (fun j hj => htk j (by unfold gnames at hj; rw [List.length_map] at hj; omega))]

theorem names5_ret (m : DMod) (cm : List Value) {w : World} {ro : Nat → Prop} (hro : ∀ b, ro b → b < w.heap.size) (hx : ModC ro w cm m) (hlf : m.funcs.length ≤ 16) (hlg : m.globs.length ≤ 16) : Ret Tryd.prog 32 #[.agg cm.toArray] w fun v w' => SlV (fun b => w.heap.size ≤ b ∧ b < w'.heap.size) w' 1 StrC v (names5 m) ∧ Below w.heap.size w w' := by
 obtain ⟨sf, sg, rfl, hfs, hgs⟩ := id hx
 obtain ⟨adf, capf, rfl, hfsa, hfsb, hfsc, hfsd⟩ := id hfs
 have hfsm : m.funcs.length ≤ 9223372036854775807 := by have h1 := hfsa; have h2 := hfsb; unfold maxLen at h2; omega
 obtain ⟨adg, capg, rfl, hgsa, hgsb, hgsc, hgsd⟩ := id hgs
 have hgsm : m.globs.length ≤ 9223372036854775807 := by have h1 := hgsa; have h2 := hgsb; unfold maxLen at h2; omega
 refine Ret.enter (P := Tryd.prog) (n := 39) (args := [.agg #[.slice adf m.funcs.length capf, .slice adg m.globs.length capg]]) (σ := [(0, .agg #[.slice adf m.funcs.length capf, .slice adg m.globs.length capg])]) Tryd.func32 rfl rfl rfl rfl ?_
 have hS := St.start (ro := ro) hro
 refine W.seq (W.region ?_)
 refine WL.box (v := .agg #[.slice adf m.funcs.length capf, .slice adg m.globs.length capg]) (cs := [.slice adf m.funcs.length capf, .slice adg m.globs.length capg]) rfl rfl rfl rfl hS ?_
 clear hS; intro w2 b1 hb_b1 hS
 refine WL.assign rfl rfl rfl (WL.nil (N.seq (W.seq (W.region (WL.assign rfl rfl rfl (WL.nil (N.seq (W.seq (W.seq ?_)))))))))
 refine W.region (WL.assign rfl rfl rfl (WL.nil (N.seq (W.block ?_))))
 replace hS := hS.row0 9 1
 refine W.loop (α := Nat × Value × List Value) (fun ⟨k, v, cs⟩ => [(1, .pointer (some ⟨b1, 0, none⟩)), (2, .slice none 0 0), (3, v), (4, .int .i64 (k : Int))]) (fun ⟨k, v, cs⟩ u => St w w u ro [(b1, .cells #[.slice adf m.funcs.length capf, .slice adg m.globs.length capg] 44 (0, 0))] [⟨v, 9, 1, k, cs⟩] ∧ k ≤ m.funcs.length ∧ Chunks 1 StrC cs ((fnames m).take k)) (fun ⟨k, v, cs⟩ => m.funcs.length - k) (0, (.slice none 0 0), []) ⟨rfl, rfl, rfl, rfl, trivial⟩ ⟨hS, Nat.zero_le _, Chunks.nil⟩ ?_
 clear hS
 rintro ⟨k, v, cs⟩ w3 ⟨hS, hk, hch⟩
 have hrow : w3.ownsRow w.heap.size 9 1 v (k) _ := hS.rows _ List.mem_cons_self
 obtain ⟨adv, capv, rfl, hr1v, hr2v, hr3v⟩ := row_shape hrow
 clear hrow
 refine W.seq (W.seq (W.region (WL.move rfl rfl rfl (WL.fieldAddr fo_44_0 rfl rfl rfl (WL.load1 (v := .slice adf m.funcs.length capf) one_41 rfl rfl rfl (hS.cell 0 rfl rfl) (WL.lenSlice Tryd.underlying41 rfl rfl rfl (WL.bin rfl rfl rfl rfl rfl (WL.nil (N.seq ?_)))))))))
 refine W.cond rfl (fun hc4 => ?_) (fun hc4 => ?_)
 ·
  have hc4p : (k : Int) < (m.funcs.length : Int) := by simpa using hc4
  refine W.skip (N.seq (W.seq (W.block (W.region (WL.move rfl rfl rfl (WL.fieldAddr fo_44_0 rfl rfl rfl (WL.load1 (v := .slice adf m.funcs.length capf) one_41 rfl rfl rfl (hS.cell 0 rfl rfl) (WL.move rfl rfl rfl ?_))))))))
  have hj5 : k < m.funcs.length := by omega
  obtain ⟨x5, hx5, b5, o5, cs5, hE5, hr5, _, hc5, hQ5⟩ := opn hfsd hj5
  obtain ⟨sb5, rfl, hbl5, hnm5, hbd5, hpr5⟩ := id hQ5
  obtain ⟨adb5, capb5, rfl, hbk5a, hbk5b, hbk5c, hbk5d⟩ := id hbl5
  have hbk5m : x5.blocks.length ≤ 9223372036854775807 := by have h1 := hbk5a; have h2 := hbk5b; unfold maxLen at h2; omega
  refine WL.indexAddrE (j := k) Tryd.underlying41 isz_24 rfl rfl rfl rfl hj5 hE5 (WL.fieldAddr fo_24_0 rfl rfl rfl (WL.load1 (v := .string x5.name) one_9 rfl rfl rfl (hS.roCells hr5 hc5 0 _ rfl) ?_))
  refine WL.buildSlice (ps := [(0, .string x5.name)]) (cs := [.string x5.name]) Tryd.underlying38 (tyZero_spec zer_9) rfl rfl rfl rfl (by kernel_rfl) hS ?_
  clear hS; intro w7 b6 hb_b6 hS
  refine WL.append (r := ⟨.slice adv k capv, 9, 1, k, cs⟩) (cs := [.string x5.name]) 16 Tryd.underlying38 (tyZero_spec zer_9) byt_9 rfl rfl rfl rfl rfl rfl rfl rfl rfl hS (by unfold maxLen; simp only; omega) (by simp only; omega) ?_
  clear hS; intro w8 v9 hn_v9 hS
  have hrow : w8.ownsRow w.heap.size 9 1 v9 (k + 1) _ := hS.rows _ List.mem_cons_self
  obtain ⟨av9, cv9, rfl, hc1_v9, hc2_v9, hc3_v9⟩ := row_shape hrow
  clear hrow
  refine WL.assign rfl rfl rfl (WL.nil (N.blk (N.seq (W.region (WL.move rfl rfl rfl ?_)))))
  refine WL.add (c := (k : Int) + 1) rfl rfl rfl rfl (rfl) (by omega) ?_
  refine WL.assign rfl rfl rfl (WL.nil ?_)
  have hch2 : Chunks 1 StrC (cs ++ ([.string x5.name] : List Value)) ((fnames m).take (k + 1)) := by rw [take_next (x := x5.name) (by unfold fnames; rw [List.getElem?_map, hx5]; rfl)]; exact hch.snoc rfl ⟨rfl, hnm5⟩
  exact N.loop (k + 1, .slice av9 (k + 1) cv9, cs ++ ([.string x5.name] : List Value)) ⟨rfl, rfl, rfl, rfl, trivial⟩ ⟨hS, by omega, hch2⟩ (by first | omega | (simp only; omega))
 have hc4p : ¬ ((k : Int) < (m.funcs.length : Int)) := by simpa using hc4
 refine W.exit (X.seq (X.loop (X.blk (N.seq (W.seq (W.seq (W.region (WL.assign rfl rfl rfl (WL.nil ?_)))))))))
 refine N.seq (W.block ?_)
 have hke : k = m.funcs.length := by omega
 have hch0 : Chunks 1 StrC cs (fnames m ++ (gnames m).take 0) := by rw [List.take_zero, List.append_nil]; rwa [List.take_of_length_le (by unfold fnames; simp; omega)] at hch
 clear hch
 refine W.loop (α := Nat × Value × List Value) (fun ⟨j, v2, cs2⟩ => [(1, .pointer (some ⟨b1, 0, none⟩)), (2, .slice none 0 0), (3, v2), (5, .int .i64 (j : Int))]) (fun ⟨j, v2, cs2⟩ u => St w w u ro [(b1, .cells #[.slice adf m.funcs.length capf, .slice adg m.globs.length capg] 44 (0, 0))] [⟨v2, 9, 1, k + j, cs2⟩] ∧ j ≤ m.globs.length ∧ Chunks 1 StrC cs2 (fnames m ++ (gnames m).take j)) (fun ⟨j, v2, cs2⟩ => m.globs.length - j) (0, .slice adv k capv, cs) ⟨rfl, rfl, rfl, rfl, trivial⟩ ⟨hS, Nat.zero_le _, hch0⟩ ?_
 clear hS
 rintro ⟨j, v2, cs2⟩ w10 ⟨hS, hj, hch⟩
 have hrow : w10.ownsRow w.heap.size 9 1 v2 (k + j) _ := hS.rows _ List.mem_cons_self
 obtain ⟨adv2, capv2, rfl, hr1v2, hr2v2, hr3v2⟩ := row_shape hrow
 clear hrow
 refine W.seq (W.seq (W.region (WL.move rfl rfl rfl (WL.fieldAddr fo_44_1 rfl rfl rfl (WL.load1 (v := .slice adg m.globs.length capg) one_42 rfl rfl rfl (hS.cell 0 rfl rfl) (WL.lenSlice Tryd.underlying42 rfl rfl rfl (WL.bin rfl rfl rfl rfl rfl (WL.nil (N.seq ?_)))))))))
 refine W.cond rfl (fun hc11 => ?_) (fun hc11 => ?_)
 ·
  have hc11p : (j : Int) < (m.globs.length : Int) := by simpa using hc11
  refine W.skip (N.seq (W.seq (W.block (W.region (WL.move rfl rfl rfl (WL.fieldAddr fo_44_1 rfl rfl rfl (WL.load1 (v := .slice adg m.globs.length capg) one_42 rfl rfl rfl (hS.cell 0 rfl rfl) (WL.move rfl rfl rfl ?_))))))))
  have hj12 : j < m.globs.length := by omega
  obtain ⟨x12, hx12, b12, o12, cs12, hE12, hr12, _, hc12, hQ12⟩ := opn hgsd hj12
  obtain ⟨rfl, hgn12, hgb12, hgi12⟩ := hQ12
  refine WL.indexAddrE (j := j) Tryd.underlying42 isz_76 rfl rfl rfl rfl hj12 hE12 (WL.fieldAddr fo_76_0 rfl rfl rfl (WL.load1 (v := .string x12.name) one_9 rfl rfl rfl (hS.roCells hr12 hc12 0 _ rfl) ?_))
  refine WL.buildSlice (ps := [(0, .string x12.name)]) (cs := [.string x12.name]) Tryd.underlying38 (tyZero_spec zer_9) rfl rfl rfl rfl (by kernel_rfl) hS ?_
  clear hS; intro w14 b13 hb_b13 hS
  refine WL.append (r := ⟨.slice adv2 (k + j) capv2, 9, 1, k + j, cs2⟩) (cs := [.string x12.name]) 16 Tryd.underlying38 (tyZero_spec zer_9) byt_9 rfl rfl rfl rfl rfl rfl rfl rfl rfl hS (by unfold maxLen; simp only; omega) (by simp only; omega) ?_
  clear hS; intro w15 v16 hn_v16 hS
  have hrow : w15.ownsRow w.heap.size 9 1 v16 (k + j + 1) _ := hS.rows _ List.mem_cons_self
  obtain ⟨av16, cv16, rfl, hc1_v16, hc2_v16, hc3_v16⟩ := row_shape hrow
  clear hrow
  refine WL.assign rfl rfl rfl (WL.nil (N.blk (N.seq (W.region (WL.move rfl rfl rfl ?_)))))
  refine WL.add (c := (j : Int) + 1) rfl rfl rfl rfl (rfl) (by omega) ?_
  refine WL.assign rfl rfl rfl (WL.nil ?_)
  have hch2 : Chunks 1 StrC (cs2 ++ ([.string x12.name] : List Value)) (fnames m ++ (gnames m).take (j + 1)) := by rw [take_next (x := x12.name) (by unfold gnames; rw [List.getElem?_map, hx12]; rfl), ← List.append_assoc]; exact hch.snoc rfl ⟨rfl, hgn12⟩
  exact N.loop (j + 1, .slice av16 (k + j + 1) cv16, cs2 ++ ([.string x12.name] : List Value)) ⟨rfl, rfl, rfl, rfl, trivial⟩ ⟨hS, by omega, hch2⟩ (by first | omega | (simp only; omega))
 have hc11p : ¬ ((j : Int) < (m.globs.length : Int)) := by simpa using hc11
 refine W.exit (X.seq (X.loop (X.blk (N.seq (W.seq (W.region (WL.move rfl rfl rfl (WL.assign rfl rfl rfl (WL.nil ?_)))))))))
 refine N.seq ?_
 refine Fin.ret1 rfl (v := .slice adv2 (k + j) capv2) rfl ?_
 have hje : j = m.globs.length := by omega
 subst hje
 rw [List.take_of_length_le (l := gnames m) (by unfold gnames; simp)] at hch
 refine ⟨row_slv (hS.rows _ List.mem_cons_self) hch (by simp [names5, fnames, gnames]; omega) (fun x hx => ?_), hS.below⟩
 exact (hS.keys x (by simp only [keysOf, List.mem_append, List.mem_filterMap]; exact .inr ⟨_, List.mem_cons_self, hx⟩)).imp id (·.1)

def glob5 (g : DGlob) : Bool := name5 g.name && decide (1 ≤ g.bind) && decide (g.bind ≤ 3) && (g.here || (decide (g.init = 0) && !decide (g.bind = 1)))
def fins5 (f : DFunc) : List DInst := f.blocks.flatMap (·.ins)
def insts5 (m : DMod) : List DInst := m.funcs.flatMap fins5
def bad5 (m : DMod) (x : DInst) : Bool := (decide (x.op = 14) && decide (find5 (fnames m) x.name < 0)) || ((decide (x.op = 12) || decide (x.op = 13)) && decide (find5 (gnames m) x.name < 0))
def odd5 (m : DMod) (x : DInst) : Bool := decide (x.op = 14) && (match m.funcs[(find5 (fnames m) x.name).toNat]? with | some f => !decide (f.params = (x.args.length : Int)) | none => false)
def check5 (m : DMod) : Int :=
  if 16 < m.funcs.length ∨ 16 < m.globs.length then 4
  else if m.funcs.all func5 = false ∨ m.globs.all glob5 = false then 10
  else if ¬ (names5 m).Nodup then 9
  else if (insts5 m).any (bad5 m) = true then 8
  else if (insts5 m).any (odd5 m) = true then 1 else 0
def G5 (m : DMod) (l : List DInst) (od : Bool) : Prop := l.any (bad5 m) = false ∧ l.any (odd5 m) = od
theorem G5.snoc {m : DMod} {l : List DInst} {od : Bool} {x : DInst} (h : G5 m l od) (hb : bad5 m x = false) : G5 m (l ++ [x]) (od || odd5 m x) := by
  obtain ⟨h1, h2⟩ := h
  exact ⟨by rw [List.any_append, h1]; simp [hb], by rw [List.any_append, h2]; simp⟩
theorem find5_lt {m : DMod} {s : ByteArray} {z : Int} (h : z = find5 (fnames m) s) (h0 : 0 ≤ z) : z.toNat < m.funcs.length := by
  rcases find5_cases (fnames m) s with ⟨h1, _⟩ | ⟨k, h1, _, h3, _⟩
  · omega
  · have : (fnames m).length = m.funcs.length := by simp [fnames]
    omega
theorem nodup_take {l : List ByteArray} {i : Nat} {x : ByteArray} (h : (l.take i).Nodup) (hx : l[i]? = some x) (hn : ∀ j, j < i → l[j]? ≠ some x) : (l.take (i + 1)).Nodup := by
  rw [take_next hx, List.nodup_append]
  refine ⟨h, by simp, fun a ha b hb => ?_⟩
  simp only [List.mem_cons, List.not_mem_nil, or_false] at hb
  subst hb
  intro e; subst e
  obtain ⟨j, hj⟩ := List.getElem?_of_mem ha
  rw [List.getElem?_take] at hj
  split at hj
  · rename_i hlt; exact hn j hlt hj
  · cases hj
theorem not_nodup {l : List ByteArray} {i k : Nat} {x : ByteArray} (hk : k < i) (h1 : l[i]? = some x) (h2 : l[k]? = some x) : ¬ l.Nodup := by
  intro h
  have hi := (List.getElem?_eq_some_iff.1 h1).1
  have hk' := (List.getElem?_eq_some_iff.1 h2).1
  rw [List.getElem?_eq_getElem hi] at h1
  rw [List.getElem?_eq_getElem hk'] at h2
  have := (List.getElem_inj h (h₀ := hi) (h₁ := hk')).1 ((Option.some.inj h1).trans (Option.some.inj h2).symm)
  omega

theorem mem_insts {m : DMod} {f : DFunc} {b : DBlock} {x : DInst} (hf : f ∈ m.funcs) (hb : b ∈ f.blocks) (hx : x ∈ b.ins) : x ∈ insts5 m :=
  List.mem_flatMap.2 ⟨f, hf, List.mem_flatMap.2 ⟨b, hb, hx⟩⟩
theorem find5_in {l : List ByteArray} {s : ByteArray} (h : l.length ≤ 1000000) : inI (find5 l s) := by
  unfold inI
  rcases find5_cases l s with ⟨h1, _⟩ | ⟨k, h1, _, h3, _⟩ <;> omega

set_option maxHeartbeats 2000000 in
set_option maxRecDepth 100000 in
theorem check5_ret (m : DMod) (cm : List Value) {w : World} {ro : Nat → Prop} (hro : ∀ b, ro b → b < w.heap.size) (hx : ModC ro w cm m) (hok : okMod m) : Ret Tryd.prog 14 #[.agg cm.toArray] w fun v w' => v = .int .i64 (check5 m) ∧ Below w.heap.size w w' := by
 obtain ⟨sf, sg, rfl, hfs, hgs⟩ := id hx
 obtain ⟨adf, capf, rfl, hfsa, hfsb, hfsc, hfsd⟩ := id hfs
 have hfsm : m.funcs.length ≤ 9223372036854775807 := by have h1 := hfsa; have h2 := hfsb; unfold maxLen at h2; omega
 obtain ⟨adg, capg, rfl, hgsa, hgsb, hgsc, hgsd⟩ := id hgs
 have hgsm : m.globs.length ≤ 9223372036854775807 := by have h1 := hgsa; have h2 := hgsb; unfold maxLen at h2; omega
 refine Ret.enter (P := Tryd.prog) (n := 190) (args := [.agg #[.slice adf m.funcs.length capf, .slice adg m.globs.length capg]]) (σ := [(0, .agg #[.slice adf m.funcs.length capf, .slice adg m.globs.length capg])]) Tryd.func14 rfl rfl rfl rfl ?_
 have hS := St.start (ro := ro) hro
 refine W.seq (W.region ?_)
 refine WL.box (v := .agg #[.slice adf m.funcs.length capf, .slice adg m.globs.length capg]) (cs := [.slice adf m.funcs.length capf, .slice adg m.globs.length capg]) rfl rfl rfl rfl hS ?_
 clear hS; intro w2 b1 hb_b1 hS
 refine WL.assign rfl rfl rfl (WL.nil (N.seq (W.seq (W.seq (W.region (WL.fieldAddr fo_44_0 rfl rfl rfl (WL.load1 (v := .slice adf m.funcs.length capf) one_41 rfl rfl rfl (hS.cell 0 rfl rfl) (WL.lenSlice Tryd.underlying41 rfl rfl rfl (WL.bin rfl rfl rfl rfl rfl ?_)))))))))
 refine WL.move rfl rfl rfl ?_
 cases hg3 : (decide (16 < (m.funcs.length : Int)))
 ·
  have hg3p : ¬ (16 < (m.funcs.length : Int)) := by simpa using hg3
  refine WL.fieldAddr fo_44_1 rfl rfl rfl (WL.load1 (v := .slice adg m.globs.length capg) one_42 rfl rfl rfl (hS.cell 0 rfl rfl) (WL.lenSlice Tryd.underlying42 rfl rfl rfl (WL.bin rfl rfl rfl rfl rfl (WL.pick (v := .bool (decide (16 < (m.globs.length : Int)))) rfl rfl rfl rfl rfl rfl (WL.nil (N.seq ?_))))))
  refine W.cond rfl (fun hc4 => ?_) (fun hc4 => ?_)
  ·
   have hc4p : 16 < (m.globs.length : Int) := by simpa using hc4
   refine W.seq (W.region (WL.assign rfl rfl rfl (WL.nil (N.seq ?_))))
   refine Fin.ret1 rfl (v := .int .i64 4) rfl ?_
   have hbz := hS.below
   clear hS
   refine ⟨?_, hbz⟩
   congr 1
   rw [check5, if_pos (by omega)]
  have hc4p : ¬ (16 < (m.globs.length : Int)) := by simpa using hc4
  refine W.skip (N.seq (W.seq (W.seq (W.region (WL.assign rfl rfl rfl (WL.nil (N.seq (W.block ?_))))))))
  refine W.loop (α := Nat) (fun (k : Nat) => [(1, .pointer (some ⟨b1, 0, none⟩)), (3, .int .i64 (k : Int))]) (fun (k : Nat) u => St w w u ro [(b1, .cells #[.slice adf m.funcs.length capf, .slice adg m.globs.length capg] 44 (0, 0))] [] ∧ k ≤ m.funcs.length ∧ (m.funcs.take k).all func5 = true) (fun (k : Nat) => m.funcs.length - k) 0 ⟨rfl, rfl, trivial⟩ ⟨hS, Nat.zero_le _, by simp⟩ ?_
  clear hS
  rintro k w5 ⟨hS, hk, htk⟩
  refine W.seq (W.seq (W.region (WL.move rfl rfl rfl (WL.fieldAddr fo_44_0 rfl rfl rfl (WL.load1 (v := .slice adf m.funcs.length capf) one_41 rfl rfl rfl (hS.cell 0 rfl rfl) (WL.lenSlice Tryd.underlying41 rfl rfl rfl (WL.bin rfl rfl rfl rfl rfl (WL.nil (N.seq ?_)))))))))
  refine W.cond rfl (fun hc6 => ?_) (fun hc6 => ?_)
  ·
   have hc6p : (k : Int) < (m.funcs.length : Int) := by simpa using hc6
   refine W.skip (N.seq (W.seq (W.block (W.seq (W.region (WL.fieldAddr fo_44_0 rfl rfl rfl (WL.load1 (v := .slice adf m.funcs.length capf) one_41 rfl rfl rfl (hS.cell 0 rfl rfl) (WL.move rfl rfl rfl ?_))))))))
   have hj7 : k < m.funcs.length := by omega
   obtain ⟨x7, hx7, b7, o7, cs7, hE7, hr7, _, hc7, hQ7⟩ := opn hfsd hj7
   obtain ⟨sb7, rfl, hbl7, hnm7, hbd7, hpr7⟩ := id hQ7
   obtain ⟨adb7, capb7, rfl, hbk7a, hbk7b, hbk7c, hbk7d⟩ := id hbl7
   have hbk7m : x7.blocks.length ≤ 9223372036854775807 := by have h1 := hbk7a; have h2 := hbk7b; unfold maxLen at h2; omega
   refine WL.indexAddrE (j := k) Tryd.underlying41 isz_24 rfl rfl rfl rfl hj7 hE7 (WL.loadN (cs := [.string x7.name, .int .i64 x7.bind, .int .i64 x7.params, .slice adb7 x7.blocks.length capb7]) agg_24 rfl rfl rfl rfl (hS.roCells hr7 hc7) ?_)
   refine WL.callF (vs := [.agg #[.string x7.name, .int .i64 x7.bind, .int .i64 x7.params, .slice adb7 x7.blocks.length capb7]]) Tryd.func9 (by kernel_rfl) rfl rfl rfl (func5_ret x7 _ (ro := ro) (fun b hb => (hS.snap b hb).1) (FuncC.keep hQ7 hS.alike) (hok.1 x7 (List.mem_of_getElem? hx7))) ?_
   rintro v w8 ⟨rfl, hbl⟩
   replace hS := hS.grow hbl
   refine WL.assign rfl rfl rfl (WL.nil (N.seq (W.seq (W.region (WL.move rfl rfl rfl (WL.not rfl rfl rfl (WL.nil (N.seq ?_))))))))
   refine W.cond rfl (fun hc9 => ?_) (fun hc9 => ?_)
   ·
    refine W.seq (W.region (WL.assign rfl rfl rfl (WL.nil (N.seq ?_))))
    refine Fin.ret1 rfl (v := .int .i64 10) rfl ?_
    have hbz := hS.below
    clear hS
    refine ⟨?_, hbz⟩
    congr 1
    have hF : m.funcs.all func5 = false := by rw [List.all_eq_false]; exact ⟨x7, List.mem_of_getElem? hx7, by simpa using hc9⟩
    rw [check5, if_neg (by omega), if_pos (.inl hF)]
   refine W.skip (N.blk (N.seq (W.region (WL.move rfl rfl rfl ?_))))
   refine WL.add (c := (k : Int) + 1) rfl rfl rfl rfl (rfl) (by omega) ?_
   refine WL.assign rfl rfl rfl (WL.nil ?_)
   have htk2 : (m.funcs.take (k + 1)).all func5 = true := by rw [take_next hx7, List.all_append, htk]; simpa using hc9
   exact N.loop (k + 1) ⟨rfl, rfl, trivial⟩ ⟨hS, by omega, htk2⟩ (by first | omega | (simp only; omega))
  have hc6p : ¬ ((k : Int) < (m.funcs.length : Int)) := by simpa using hc6
  refine W.exit (X.seq (X.loop (X.blk (N.seq (W.seq (W.seq (W.region (WL.assign rfl rfl rfl (WL.nil ?_)))))))))
  refine N.seq (W.block ?_)
  have hF : m.funcs.all func5 = true := by rw [show k = m.funcs.length by omega, List.take_length] at htk; exact htk
  clear htk
  refine W.loop (α := Nat) (fun (j : Nat) => [(1, .pointer (some ⟨b1, 0, none⟩)), (5, .int .i64 (j : Int))]) (fun (j : Nat) u => St w w u ro [(b1, .cells #[.slice adf m.funcs.length capf, .slice adg m.globs.length capg] 44 (0, 0))] [] ∧ j ≤ m.globs.length ∧ (m.globs.take j).all glob5 = true) (fun (j : Nat) => m.globs.length - j) 0 ⟨rfl, rfl, trivial⟩ ⟨hS, Nat.zero_le _, by simp⟩ ?_
  clear hS
  rintro j w10 ⟨hS, hj, htj⟩
  refine W.seq (W.seq (W.region (WL.move rfl rfl rfl (WL.fieldAddr fo_44_1 rfl rfl rfl (WL.load1 (v := .slice adg m.globs.length capg) one_42 rfl rfl rfl (hS.cell 0 rfl rfl) (WL.lenSlice Tryd.underlying42 rfl rfl rfl (WL.bin rfl rfl rfl rfl rfl (WL.nil (N.seq ?_)))))))))
  refine W.cond rfl (fun hc11 => ?_) (fun hc11 => ?_)
  ·
   have hc11p : (j : Int) < (m.globs.length : Int) := by simpa using hc11
   refine W.skip (N.seq (W.seq (W.block (W.seq (W.region (WL.fieldAddr fo_44_1 rfl rfl rfl (WL.load1 (v := .slice adg m.globs.length capg) one_42 rfl rfl rfl (hS.cell 0 rfl rfl) (WL.move rfl rfl rfl ?_))))))))
   have hj12 : j < m.globs.length := by omega
   obtain ⟨x12, hx12, b12, o12, cs12, hE12, hr12, _, hc12, hQ12⟩ := opn hgsd hj12
   obtain ⟨rfl, hgn12, hgb12, hgi12⟩ := hQ12
   refine WL.indexAddrE (j := j) Tryd.underlying42 isz_76 rfl rfl rfl rfl hj12 hE12 (WL.loadN (cs := [.string x12.name, .int .i64 x12.bind, .bool x12.here, .int .u64 x12.init]) agg_76 rfl rfl rfl rfl (hS.roCells hr12 hc12) ?_)
   refine WL.alloc (tyZero_spec zer_76) rfl rfl hS ?_
   clear hS; intro w14 b13 hb_b13 hS
   refine WL.store0 #[.string x12.name, .int .i64 x12.bind, .bool x12.here, .int .u64 x12.init] rfl rfl rfl rfl siz_76 rfl rfl rfl hS ?_
   clear hS; intro w15 hS
   refine WL.nil (N.seq (W.seq (W.region (WL.fieldAddr fo_76_0 rfl rfl rfl (WL.load1 (v := .string x12.name) one_9 rfl rfl rfl (hS.cell 0 rfl rfl) ?_)))))
   refine WL.callF (vs := [.string x12.name]) Tryd.func21 (by kernel_rfl) rfl rfl rfl (name5_ret x12.name hgn12 (ro := ro) (fun b hb => (hS.snap b hb).1)) ?_
   rintro v w16 ⟨rfl, hbl⟩
   replace hS := hS.grow hbl
   obtain ⟨un, hun⟩ : ∃ u, u = name5 x12.name := ⟨_, rfl⟩
   rw [← hun]
   refine WL.assign rfl rfl rfl (WL.nil (N.seq (W.seq (W.region (WL.move rfl rfl rfl (WL.not rfl rfl rfl (WL.move rfl rfl rfl ?_)))))))
   cases hg17 : (!un)
   ·
    refine WL.fieldAddr fo_76_1 rfl rfl rfl (WL.load1 (v := .int .i64 x12.bind) one_3 rfl rfl rfl (hS.cell 0 rfl rfl) (WL.bin rfl rfl rfl rfl rfl (WL.pick (v := .bool (decide (x12.bind < 1))) rfl rfl rfl rfl rfl rfl (WL.move rfl rfl rfl ?_))))
    cases hg18 : (decide (x12.bind < 1))
    ·
     have hg18p : ¬ (x12.bind < 1) := by simpa using hg18
     refine WL.fieldAddr fo_76_1 rfl rfl rfl (WL.load1 (v := .int .i64 x12.bind) one_3 rfl rfl rfl (hS.cell 0 rfl rfl) (WL.bin rfl rfl rfl rfl rfl (WL.pick (v := .bool (decide (3 < x12.bind))) rfl rfl rfl rfl rfl rfl (WL.move rfl rfl rfl ?_))))
     cases hg19 : (decide (3 < x12.bind))
     ·
      have hg19p : ¬ (3 < x12.bind) := by simpa using hg19
      refine WL.fieldAddr fo_76_2 rfl rfl rfl (WL.load1 (v := .bool x12.here) one_4 rfl rfl rfl (hS.cell 0 rfl rfl) (WL.not rfl rfl rfl (WL.move rfl rfl rfl ?_)))
      cases hg20 : (!x12.here)
      ·
       refine WL.skp rfl rfl (WL.skp rfl rfl (WL.skp rfl rfl (WL.skp rfl rfl (WL.skp rfl rfl (WL.skp rfl rfl (WL.skp rfl rfl (WL.skp rfl rfl (WL.pick (v := .bool false) rfl rfl rfl rfl rfl rfl (WL.pick (v := .bool false) rfl rfl rfl rfl rfl rfl ?_)))))))))
       refine WL.nil (N.seq (W.condF rfl (W.skip (N.blk (N.seq (W.region (WL.move rfl rfl rfl ?_)))))))
       refine WL.add (c := (j : Int) + 1) rfl rfl rfl rfl (rfl) (by omega) ?_
       refine WL.assign rfl rfl rfl (WL.nil ?_)
       have hS := hS.dropN 1
       have hg5 : glob5 x12 = true := by unfold glob5; rw [← hun]; clear hx hfs hgs; first | (simp_all; done) | (simp_all; omega) | (rw [Bool.eq_iff_iff]; simp_all; omega)
       have htk2 : (m.globs.take (j + 1)).all glob5 = true := by rw [take_next hx12, List.all_append, htj]; simpa using hg5
       exact N.loop (j + 1) ⟨rfl, rfl, trivial⟩ ⟨hS, by omega, htk2⟩ (by first | omega | (simp only; omega))
      refine WL.fieldAddr fo_76_3 rfl rfl rfl (WL.load1 (v := .int .u64 x12.init) one_52 rfl rfl rfl (hS.cell 0 rfl rfl) (WL.bin rfl rfl rfl rfl rfl (WL.move rfl rfl rfl ?_)))
      cases hg21 : (!decide (x12.init = 0))
      ·
       have hg21p : x12.init = 0 := by simpa using hg21
       refine WL.fieldAddr fo_76_1 rfl rfl rfl (WL.load1 (v := .int .i64 x12.bind) one_3 rfl rfl rfl (hS.cell 0 rfl rfl) (WL.bin rfl rfl rfl rfl rfl (WL.pick (v := .bool (decide (x12.bind = 1))) rfl rfl rfl rfl rfl rfl (WL.pick (v := .bool (decide (x12.bind = 1))) rfl rfl rfl rfl rfl rfl (WL.pick (v := .bool (decide (x12.bind = 1))) rfl rfl rfl rfl rfl rfl (WL.nil (N.seq ?_)))))))
       refine W.cond rfl (fun hc22 => ?_) (fun hc22 => ?_)
       ·
        have hc22p : x12.bind = 1 := by simpa using hc22
        refine W.seq (W.region (WL.assign rfl rfl rfl (WL.nil (N.seq ?_))))
        refine Fin.ret1 rfl (v := .int .i64 10) rfl ?_
        have hbz := hS.below
        clear hS
        refine ⟨?_, hbz⟩
        congr 1
        have hg5 : glob5 x12 = false := by unfold glob5; rw [← hun]; clear hx hfs hgs; first | (simp_all; done) | (simp_all; omega) | (rw [Bool.eq_iff_iff]; simp_all; omega)
        have hG : m.globs.all glob5 = false := by rw [List.all_eq_false]; exact ⟨x12, List.mem_of_getElem? hx12, by simp [hg5]⟩
        rw [check5, if_neg (by omega), if_pos (.inr hG)]
       have hc22p : ¬ (x12.bind = 1) := by simpa using hc22
       refine W.skip (N.blk (N.seq (W.region (WL.move rfl rfl rfl ?_))))
       refine WL.add (c := (j : Int) + 1) rfl rfl rfl rfl (rfl) (by omega) ?_
       refine WL.assign rfl rfl rfl (WL.nil ?_)
       have hS := hS.dropN 1
       have hg5 : glob5 x12 = true := by unfold glob5; rw [← hun]; clear hx hfs hgs; first | (simp_all; done) | (simp_all; omega) | (rw [Bool.eq_iff_iff]; simp_all; omega)
       have htk2 : (m.globs.take (j + 1)).all glob5 = true := by rw [take_next hx12, List.all_append, htj]; simpa using hg5
       exact N.loop (j + 1) ⟨rfl, rfl, trivial⟩ ⟨hS, by omega, htk2⟩ (by first | omega | (simp only; omega))
      have hg21p : ¬ (x12.init = 0) := by simpa using hg21
      refine WL.skp rfl rfl (WL.skp rfl rfl (WL.skp rfl rfl (WL.pick (v := .bool true) rfl rfl rfl rfl rfl rfl (WL.pick (v := .bool true) rfl rfl rfl rfl rfl rfl (WL.pick (v := .bool true) rfl rfl rfl rfl rfl rfl (WL.nil (N.seq (W.condT rfl (W.seq ?_)))))))))
      refine W.region (WL.assign rfl rfl rfl (WL.nil (N.seq ?_)))
      refine Fin.ret1 rfl (v := .int .i64 10) rfl ?_
      have hbz := hS.below
      clear hS
      refine ⟨?_, hbz⟩
      congr 1
      have hg5 : glob5 x12 = false := by unfold glob5; rw [← hun]; clear hx hfs hgs; first | (simp_all; done) | (simp_all; omega) | (rw [Bool.eq_iff_iff]; simp_all; omega)
      have hG : m.globs.all glob5 = false := by rw [List.all_eq_false]; exact ⟨x12, List.mem_of_getElem? hx12, by simp [hg5]⟩
      rw [check5, if_neg (by omega), if_pos (.inr hG)]
     have hg19p : 3 < x12.bind := by simpa using hg19
     refine WL.skp rfl rfl (WL.skp rfl rfl (WL.skp rfl rfl (WL.skp rfl rfl (WL.skp rfl rfl (WL.skp rfl rfl (WL.skp rfl rfl (WL.skp rfl rfl (WL.skp rfl rfl (WL.skp rfl rfl ?_)))))))))
     refine WL.skp rfl rfl (WL.skp rfl rfl (WL.skp rfl rfl (WL.pick (v := .bool true) rfl rfl rfl rfl rfl rfl (WL.nil (N.seq (W.condT rfl (W.seq (W.region (WL.assign rfl rfl rfl ?_)))))))))
     refine WL.nil (N.seq ?_)
     refine Fin.ret1 rfl (v := .int .i64 10) rfl ?_
     have hbz := hS.below
     clear hS
     refine ⟨?_, hbz⟩
     congr 1
     have hg5 : glob5 x12 = false := by unfold glob5; rw [← hun]; clear hx hfs hgs; first | (simp_all; done) | (simp_all; omega) | (rw [Bool.eq_iff_iff]; simp_all; omega)
     have hG : m.globs.all glob5 = false := by rw [List.all_eq_false]; exact ⟨x12, List.mem_of_getElem? hx12, by simp [hg5]⟩
     rw [check5, if_neg (by omega), if_pos (.inr hG)]
    have hg18p : x12.bind < 1 := by simpa using hg18
    refine WL.skp rfl rfl (WL.skp rfl rfl (WL.skp rfl rfl (WL.pick (v := .bool true) rfl rfl rfl rfl rfl rfl (WL.move rfl rfl rfl (WL.skp rfl rfl (WL.skp rfl rfl (WL.skp rfl rfl (WL.skp rfl rfl (WL.skp rfl rfl ?_)))))))))
    refine WL.skp rfl rfl (WL.skp rfl rfl (WL.skp rfl rfl (WL.skp rfl rfl (WL.skp rfl rfl (WL.skp rfl rfl (WL.skp rfl rfl (WL.skp rfl rfl (WL.pick (v := .bool true) rfl rfl rfl rfl rfl rfl (WL.nil ?_)))))))))
    refine N.seq (W.condT rfl (W.seq (W.region (WL.assign rfl rfl rfl (WL.nil (N.seq ?_))))))
    refine Fin.ret1 rfl (v := .int .i64 10) rfl ?_
    have hbz := hS.below
    clear hS
    refine ⟨?_, hbz⟩
    congr 1
    have hg5 : glob5 x12 = false := by unfold glob5; rw [← hun]; clear hx hfs hgs; first | (simp_all; done) | (simp_all; omega) | (rw [Bool.eq_iff_iff]; simp_all; omega)
    have hG : m.globs.all glob5 = false := by rw [List.all_eq_false]; exact ⟨x12, List.mem_of_getElem? hx12, by simp [hg5]⟩
    rw [check5, if_neg (by omega), if_pos (.inr hG)]
   refine WL.skp rfl rfl (WL.skp rfl rfl (WL.skp rfl rfl (WL.pick (v := .bool true) rfl rfl rfl rfl rfl rfl (WL.move rfl rfl rfl (WL.skp rfl rfl (WL.skp rfl rfl (WL.skp rfl rfl (WL.pick (v := .bool true) rfl rfl rfl rfl rfl rfl (WL.move rfl rfl rfl ?_)))))))))
   refine WL.skp rfl rfl (WL.skp rfl rfl (WL.skp rfl rfl (WL.skp rfl rfl (WL.skp rfl rfl (WL.skp rfl rfl (WL.skp rfl rfl (WL.skp rfl rfl (WL.skp rfl rfl (WL.skp rfl rfl ?_)))))))))
   refine WL.skp rfl rfl (WL.skp rfl rfl (WL.skp rfl rfl (WL.pick (v := .bool true) rfl rfl rfl rfl rfl rfl (WL.nil (N.seq (W.condT rfl (W.seq (W.region (WL.assign rfl rfl rfl ?_)))))))))
   refine WL.nil (N.seq ?_)
   refine Fin.ret1 rfl (v := .int .i64 10) rfl ?_
   have hbz := hS.below
   clear hS
   refine ⟨?_, hbz⟩
   congr 1
   have hg5 : glob5 x12 = false := by unfold glob5; rw [← hun]; clear hx hfs hgs; first | (simp_all; done) | (simp_all; omega) | (rw [Bool.eq_iff_iff]; simp_all; omega)
   have hG : m.globs.all glob5 = false := by rw [List.all_eq_false]; exact ⟨x12, List.mem_of_getElem? hx12, by simp [hg5]⟩
   rw [check5, if_neg (by omega), if_pos (.inr hG)]
  have hc11p : ¬ ((j : Int) < (m.globs.length : Int)) := by simpa using hc11
  refine W.exit (X.seq (X.loop (X.blk (N.seq (W.seq (W.region (WL.loadN (cs := [.slice adf m.funcs.length capf, .slice adg m.globs.length capg]) agg_44 rfl rfl rfl rfl (hS.cells 0 (m := 2) rfl rfl) ?_)))))))
  have hG : m.globs.all glob5 = true := by rw [show j = m.globs.length by omega, List.take_length] at htj; exact htj
  clear htj
  refine WL.callF (vs := [.agg #[.slice adf m.funcs.length capf, .slice adg m.globs.length capg]]) Tryd.func32 (by kernel_rfl) rfl rfl rfl (names5_ret m _ (ro := ro) (fun b hb => (hS.snap b hb).1) (ModC.keep hx hS.alike) (by omega) (by omega)) ?_
  rintro v w23 ⟨hns, hbl⟩
  have hal := hS.alikeTo hbl (ro' := roFrom ro w10 w23) (fun b hb => .inl hb)
  replace hS := hS.readNew hbl
  have hx2 := hx.keep hal
  have hfsE : Elems (roFrom ro w10 w23) w23 4 (FuncC (roFrom ro w10 w23) w23) adf m.funcs := hfsd.keep hal (fun _ _ h => h.keep hal)
  obtain ⟨nl, hN⟩ : ∃ z, z = names5 m := ⟨_, rfl⟩
  rw [← hN] at hns
  obtain ⟨adn, capn, rfl, hn1, hn2, hn3, hn4⟩ := hns
  have hn5 : Elems (roFrom ro w10 w23) w23 1 StrC adn nl := hn4.keep (fun x hx => ⟨.inr hx, rfl⟩) (fun _ _ h => h)
  have hnm5 : nl.length ≤ 9223372036854775807 := by have h1 := hn1; have h2 := hn2; unfold maxLen at h2; omega
  refine WL.assign rfl rfl rfl (WL.nil (N.seq (W.seq (W.seq (W.region (WL.assign rfl rfl rfl (WL.nil (N.seq (W.block ?_)))))))))
  refine W.loop (α := Nat) (fun (i : Nat) => [(1, .pointer (some ⟨b1, 0, none⟩)), (8, .slice adn nl.length capn), (9, .int .i64 (i : Int))]) (fun (i : Nat) u => St w w23 u (roFrom ro w10 w23) [(b1, .cells #[.slice adf m.funcs.length capf, .slice adg m.globs.length capg] 44 (0, 0))] [] ∧ i ≤ nl.length ∧ (nl.take i).Nodup) (fun (i : Nat) => nl.length - i) 0 ⟨rfl, rfl, rfl, trivial⟩ ⟨hS, Nat.zero_le _, by simp⟩ ?_
  clear hS
  rintro i w24 ⟨hS, hi, hnd⟩
  refine W.seq (W.seq (W.region (WL.move rfl rfl rfl (WL.move rfl rfl rfl (WL.lenSlice Tryd.underlying38 rfl rfl rfl (WL.bin rfl rfl rfl rfl rfl (WL.nil (N.seq ?_))))))))
  refine W.cond rfl (fun hc25 => ?_) (fun hc25 => ?_)
  ·
   have hc25p : (i : Int) < (nl.length : Int) := by simpa using hc25
   refine W.skip (N.seq (W.seq (W.block (W.seq (W.region (WL.assign rfl rfl rfl (WL.nil (N.seq (W.block ?_)))))))))
   refine W.loop (α := Nat) (fun (k2 : Nat) => [(1, .pointer (some ⟨b1, 0, none⟩)), (8, .slice adn nl.length capn), (9, .int .i64 (i : Int)), (10, .int .i64 (k2 : Int))]) (fun (k2 : Nat) u => St w w23 u (roFrom ro w10 w23) [(b1, .cells #[.slice adf m.funcs.length capf, .slice adg m.globs.length capg] 44 (0, 0))] [] ∧ k2 ≤ i ∧ ∀ j, j < k2 → nl[j]? ≠ nl[i]?) (fun (k2 : Nat) => i - k2) 0 ⟨rfl, rfl, rfl, rfl, trivial⟩ ⟨hS, Nat.zero_le _, fun j hj => by omega⟩ ?_
   clear hS
   rintro k2 w26 ⟨hS, hk2, hne⟩
   refine W.seq (W.seq (W.region (WL.move rfl rfl rfl (WL.move rfl rfl rfl (WL.bin rfl rfl rfl rfl rfl (WL.nil (N.seq ?_)))))))
   refine W.cond rfl (fun hc27 => ?_) (fun hc27 => ?_)
   ·
    have hc27p : (k2 : Int) < (i : Int) := by simpa using hc27
    refine W.skip (N.seq (W.seq (W.block (W.seq ?_))))
    have hj28 : i < nl.length := by omega
    obtain ⟨x28, hx28, b28, o28, cs28, hE28, hr28, _, hc28, hQ28⟩ := opn hn5 hj28
    obtain ⟨rfl, hsz28⟩ := hQ28
    have hj29 : k2 < nl.length := by omega
    obtain ⟨x29, hx29, b29, o29, cs29, hE29, hr29, _, hc29, hQ29⟩ := opn hn5 hj29
    obtain ⟨rfl, hsz29⟩ := hQ29
    refine W.drawL (by kernel_rfl) 9 ((.q (.slice adn nl.length capn)) :: (.q (.int .i64 (i : Int))) :: (.q (.pointer (some ⟨b28, o28 + i * 1, none⟩))) :: (.q (.string x28)) :: (.q (.slice adn nl.length capn)) :: (.q (.int .i64 (k2 : Int))) :: (.q (.pointer (some ⟨b29, o29 + k2 * 1, none⟩))) :: (.q (.string x29)) :: (.q (.bool (decide (x28 = x29)))) :: []) (by kernel_rfl) (by kernel_rfl) [(1, .pointer (some ⟨b1, 0, none⟩)), (8, .slice adn nl.length capn), (9, .int .i64 (i : Int)), (10, .int .i64 (k2 : Int))] ⟨rfl, rfl, rfl, rfl, trivial⟩ (by kernel_rfl) hS ?_ ?_
    ·
     refine And.intro (fun β w hS => ?_) ?_
     ·
      refine WL.sub (σ' := [(8, .slice adn nl.length capn)]) ⟨rfl, trivial⟩ ?_
      refine WL.move rfl rfl rfl ?_
      exact WL.nil (N.cut () ⟨rfl, trivial⟩ (Below.refl _ _))
     refine And.intro (fun β w hS => ?_) ?_
     ·
      refine WL.sub (σ' := [(9, .int .i64 (i : Int))]) ⟨rfl, trivial⟩ ?_
      refine WL.move rfl rfl rfl ?_
      exact WL.nil (N.cut () ⟨rfl, trivial⟩ (Below.refl _ _))
     refine And.intro (fun β w hS => ?_) ?_
     ·
      refine WL.sub (σ' := [(97, .slice adn nl.length capn), (98, .int .i64 (i : Int))]) ⟨rfl, rfl, trivial⟩ ?_
      refine WL.indexAddrE (j := i) Tryd.underlying38 isz_9 rfl rfl rfl rfl hj28 hE28 ?_
      exact WL.nil (N.cut () ⟨rfl, trivial⟩ (Below.refl _ _))
     refine And.intro (fun β w hS => ?_) ?_
     ·
      refine WL.sub (σ' := [(99, .pointer (some ⟨b28, o28 + i * 1, none⟩))]) ⟨rfl, trivial⟩ ?_
      refine WL.load1 (v := .string x28) one_9 rfl rfl rfl (hS.roCells hr28 hc28 0 _ rfl) ?_
      exact WL.nil (N.cut () ⟨rfl, trivial⟩ (Below.refl _ _))
     refine And.intro (fun β w hS => ?_) ?_
     ·
      refine WL.sub (σ' := [(8, .slice adn nl.length capn)]) ⟨rfl, trivial⟩ ?_
      refine WL.move rfl rfl rfl ?_
      exact WL.nil (N.cut () ⟨rfl, trivial⟩ (Below.refl _ _))
     refine And.intro (fun β w hS => ?_) ?_
     ·
      refine WL.sub (σ' := [(10, .int .i64 (k2 : Int))]) ⟨rfl, trivial⟩ ?_
      refine WL.move rfl rfl rfl ?_
      exact WL.nil (N.cut () ⟨rfl, trivial⟩ (Below.refl _ _))
     refine And.intro (fun β w hS => ?_) ?_
     ·
      refine WL.sub (σ' := [(101, .slice adn nl.length capn), (102, .int .i64 (k2 : Int))]) ⟨rfl, rfl, trivial⟩ ?_
      refine WL.indexAddrE (j := k2) Tryd.underlying38 isz_9 rfl rfl rfl rfl hj29 hE29 ?_
      exact WL.nil (N.cut () ⟨rfl, trivial⟩ (Below.refl _ _))
     refine And.intro (fun β w hS => ?_) ?_
     ·
      refine WL.sub (σ' := [(103, .pointer (some ⟨b29, o29 + k2 * 1, none⟩))]) ⟨rfl, trivial⟩ ?_
      refine WL.load1 (v := .string x29) one_9 rfl rfl rfl (hS.roCells hr29 hc29 0 _ rfl) ?_
      exact WL.nil (N.cut () ⟨rfl, trivial⟩ (Below.refl _ _))
     refine And.intro (fun β w hS => ?_) ?_
     ·
      refine WL.sub (σ' := [(100, .string x28), (104, .string x29)]) ⟨rfl, rfl, trivial⟩ ?_
      refine WL.eqStr rfl rfl rfl rfl ?_
      exact WL.nil (N.cut () ⟨rfl, trivial⟩ (Below.refl _ _))
     trivial
    clear hS; intro w30 β hS
    refine WL.sub (σ' := [(1, .pointer (some ⟨b1, 0, none⟩)), (8, .slice adn nl.length capn), (9, .int .i64 (i : Int)), (10, .int .i64 (k2 : Int)), (105, .bool (decide (x28 = x29)))]) ⟨rfl, rfl, rfl, rfl, rfl, trivial⟩ ?_
    refine WL.nil (N.seq ?_)
    refine W.cond rfl (fun hc31 => ?_) (fun hc31 => ?_)
    ·
     have hc31p : x28 = x29 := by simpa using hc31
     refine W.seq (W.region (WL.assign rfl rfl rfl (WL.nil (N.seq ?_))))
     refine Fin.ret1 rfl (v := .int .i64 9) rfl ?_
     have hbz := hS.below
     clear hS
     refine ⟨?_, hbz⟩
     congr 1
     have hnn : ¬ (names5 m).Nodup := by rw [← hN]; exact not_nodup (i := i) (k := k2) (by omega) hx28 (hc31p.symm ▸ hx29)
     rw [check5, if_neg (by omega), if_neg (by simp [hF, hG]), if_pos hnn]
    have hc31p : ¬ (x28 = x29) := by simpa using hc31
    refine W.skip (N.blk (N.seq (W.region (WL.move rfl rfl rfl ?_))))
    refine WL.add (c := (k2 : Int) + 1) rfl rfl rfl rfl (rfl) (by omega) ?_
    refine WL.assign rfl rfl rfl (WL.nil ?_)
    have htk2 : ∀ j, j < k2 + 1 → nl[j]? ≠ nl[i]? := fun j hj => by
     by_cases e : j = k2
     ·
      subst e; rw [hx28, hx29]; intro e2; exact hc31p (Option.some.inj e2).symm
     exact hne j (by omega)
    exact N.loop (k2 + 1) ⟨rfl, rfl, rfl, rfl, trivial⟩ ⟨hS, by omega, htk2⟩ (by first | omega | (simp only; omega))
   have hc27p : ¬ ((k2 : Int) < (i : Int)) := by simpa using hc27
   refine W.exit (X.seq (X.loop (X.blk (N.blk (N.seq (W.region (WL.move rfl rfl rfl ?_)))))))
   refine WL.add (c := (i : Int) + 1) rfl rfl rfl rfl (rfl) (by omega) ?_
   refine WL.assign rfl rfl rfl (WL.nil ?_)
   have hxi : nl[i]? = some nl[i] := List.getElem?_eq_getElem (by omega)
   have htk2 : (nl.take (i + 1)).Nodup := nodup_take hnd hxi (fun j hj => by rw [← hxi]; exact hne j (by omega))
   exact N.loop (i + 1) ⟨rfl, rfl, rfl, trivial⟩ ⟨hS, by omega, htk2⟩ (by first | omega | (simp only; omega))
  have hc25p : ¬ ((i : Int) < (nl.length : Int)) := by simpa using hc25
  refine W.exit (X.seq (X.loop (X.blk (N.seq (W.seq (W.region (WL.assign rfl rfl rfl (WL.nil (N.seq ?_)))))))))
  refine W.seq (W.seq (W.region (WL.assign rfl rfl rfl (WL.nil (N.seq (W.block ?_))))))
  have hN2 : (names5 m).Nodup := by rw [show i = nl.length by omega, List.take_length, hN] at hnd; exact hnd
  clear hnd
  refine W.loop (α := Nat × Bool) (fun ⟨p, od⟩ => [(1, .pointer (some ⟨b1, 0, none⟩)), (11, .bool od), (12, .int .i64 (p : Int))]) (fun ⟨p, od⟩ u => St w w23 u (roFrom ro w10 w23) [(b1, .cells #[.slice adf m.funcs.length capf, .slice adg m.globs.length capg] 44 (0, 0))] [] ∧ p ≤ m.funcs.length ∧ G5 m ((m.funcs.take p).flatMap fins5) od) (fun ⟨p, od⟩ => m.funcs.length - p) (0, false) ⟨rfl, rfl, rfl, trivial⟩ ⟨hS, Nat.zero_le _, ⟨rfl, rfl⟩⟩ ?_
  clear hS
  rintro ⟨p, od⟩ w32 ⟨hS, hp, hg⟩
  refine W.seq (W.seq (W.region (WL.move rfl rfl rfl (WL.fieldAddr fo_44_0 rfl rfl rfl (WL.load1 (v := .slice adf m.funcs.length capf) one_41 rfl rfl rfl (hS.cell 0 rfl rfl) (WL.lenSlice Tryd.underlying41 rfl rfl rfl (WL.bin rfl rfl rfl rfl rfl (WL.nil (N.seq ?_)))))))))
  refine W.cond rfl (fun hc33 => ?_) (fun hc33 => ?_)
  ·
   have hc33p : (p : Int) < (m.funcs.length : Int) := by simpa using hc33
   refine W.skip (N.seq (W.seq (W.block (W.seq (W.region (WL.assign rfl rfl rfl (WL.nil (N.seq (W.block ?_)))))))))
   have hj34 : p < m.funcs.length := by omega
   obtain ⟨x34, hx34, b34, o34, cs34, hE34, hr34, _, hc34, hQ34⟩ := opn hfsE hj34
   obtain ⟨sb34, rfl, hbl34, hnm34, hbd34, hpr34⟩ := id hQ34
   obtain ⟨adb34, capb34, rfl, hbk34a, hbk34b, hbk34c, hbk34d⟩ := id hbl34
   have hbk34m : x34.blocks.length ≤ 9223372036854775807 := by have h1 := hbk34a; have h2 := hbk34b; unfold maxLen at h2; omega
   refine W.loop (α := Nat × Bool) (fun ⟨q, od⟩ => [(1, .pointer (some ⟨b1, 0, none⟩)), (11, .bool od), (12, .int .i64 (p : Int)), (13, .int .i64 (q : Int))]) (fun ⟨q, od⟩ u => St w w23 u (roFrom ro w10 w23) [(b1, .cells #[.slice adf m.funcs.length capf, .slice adg m.globs.length capg] 44 (0, 0))] [] ∧ q ≤ x34.blocks.length ∧ G5 m ((m.funcs.take p).flatMap fins5 ++ (x34.blocks.take q).flatMap (·.ins)) od) (fun ⟨q, od⟩ => x34.blocks.length - q) (0, od) ⟨rfl, rfl, rfl, rfl, trivial⟩ ⟨hS, Nat.zero_le _, by simpa using hg⟩ ?_
   clear hS
   rintro ⟨q, od⟩ w35 ⟨hS, hq, hg⟩
   refine W.seq (W.seq (W.region (WL.move rfl rfl rfl (WL.fieldAddr fo_44_0 rfl rfl rfl (WL.load1 (v := .slice adf m.funcs.length capf) one_41 rfl rfl rfl (hS.cell 0 rfl rfl) (WL.move rfl rfl rfl (WL.indexAddrE (j := p) Tryd.underlying41 isz_24 rfl rfl rfl rfl hj34 hE34 (WL.fieldAddr fo_24_3 rfl rfl rfl (WL.load1 (v := .slice adb34 x34.blocks.length capb34) one_22 rfl rfl rfl (hS.roCells hr34 hc34 3 _ rfl) ?_)))))))))
   refine WL.lenSlice Tryd.underlying22 rfl rfl rfl (WL.bin rfl rfl rfl rfl rfl (WL.nil (N.seq ?_)))
   refine W.cond rfl (fun hc36 => ?_) (fun hc36 => ?_)
   ·
    have hc36p : (q : Int) < (x34.blocks.length : Int) := by simpa using hc36
    refine W.skip (N.seq (W.seq (W.block (W.seq (W.region (WL.assign rfl rfl rfl (WL.nil (N.seq (W.block ?_)))))))))
    have hj37 : q < x34.blocks.length := by omega
    obtain ⟨x37, hx37, b37, o37, cs37, hE37, hr37, _, hc37, hQ37⟩ := opn hbk34d hj37
    obtain ⟨si37, tsx37, rfl, hin37, hfin37, hpar37⟩ := id hQ37
    obtain ⟨adi37, capi37, rfl, hin37a, hin37b, hin37c, hin37d⟩ := id hin37
    have hin37m : x37.ins.length ≤ 9223372036854775807 := by have h1 := hin37a; have h2 := hin37b; unfold maxLen at h2; omega
    obtain ⟨sp37, sq37, rfl, ht137, ht237, htk37, hta37, htt37, hte37⟩ := id hfin37
    obtain ⟨adp37, capp37, rfl, htp37a, htp37b, htp37c, htp37d⟩ := id ht137
    have htp37m : x37.fin.args.length ≤ 9223372036854775807 := by have h1 := htp37a; have h2 := htp37b; unfold maxLen at h2; omega
    obtain ⟨adq37, capq37, rfl, htq37a, htq37b, htq37c, htq37d⟩ := id ht237
    have htq37m : x37.fin.elses.length ≤ 9223372036854775807 := by have h1 := htq37a; have h2 := htq37b; unfold maxLen at h2; omega
    refine W.loop (α := Nat × Bool) (fun ⟨r, od⟩ => [(1, .pointer (some ⟨b1, 0, none⟩)), (11, .bool od), (12, .int .i64 (p : Int)), (13, .int .i64 (q : Int)), (14, .int .i64 (r : Int))]) (fun ⟨r, od⟩ u => St w w23 u (roFrom ro w10 w23) [(b1, .cells #[.slice adf m.funcs.length capf, .slice adg m.globs.length capg] 44 (0, 0))] [] ∧ r ≤ x37.ins.length ∧ G5 m ((m.funcs.take p).flatMap fins5 ++ (x34.blocks.take q).flatMap (·.ins) ++ x37.ins.take r) od) (fun ⟨r, od⟩ => x37.ins.length - r) (0, od) ⟨rfl, rfl, rfl, rfl, rfl, trivial⟩ ⟨hS, Nat.zero_le _, by simpa using hg⟩ ?_
    clear hS
    rintro ⟨r, od⟩ w38 ⟨hS, hr, hg⟩
    refine W.seq (W.seq (W.region (WL.move rfl rfl rfl (WL.fieldAddr fo_44_0 rfl rfl rfl (WL.load1 (v := .slice adf m.funcs.length capf) one_41 rfl rfl rfl (hS.cell 0 rfl rfl) (WL.move rfl rfl rfl (WL.indexAddrE (j := p) Tryd.underlying41 isz_24 rfl rfl rfl rfl hj34 hE34 (WL.fieldAddr fo_24_3 rfl rfl rfl (WL.load1 (v := .slice adb34 x34.blocks.length capb34) one_22 rfl rfl rfl (hS.roCells hr34 hc34 3 _ rfl) ?_)))))))))
    refine WL.move rfl rfl rfl (WL.indexAddrE (j := q) Tryd.underlying22 isz_59 rfl rfl rfl rfl hj37 hE37 (WL.fieldAddr fo_59_1 rfl rfl rfl (WL.load1 (v := .slice adi37 x37.ins.length capi37) one_54 rfl rfl rfl (hS.roCells hr37 hc37 1 _ rfl) (WL.lenSlice Tryd.underlying54 rfl rfl rfl (WL.bin rfl rfl rfl rfl rfl (WL.nil (N.seq ?_)))))))
    refine W.cond rfl (fun hc39 => ?_) (fun hc39 => ?_)
    ·
     have hc39p : (r : Int) < (x37.ins.length : Int) := by simpa using hc39
     refine W.skip (N.seq (W.seq (W.block (W.seq (W.region (WL.fieldAddr fo_44_0 rfl rfl rfl (WL.load1 (v := .slice adf m.funcs.length capf) one_41 rfl rfl rfl (hS.cell 0 rfl rfl) (WL.move rfl rfl rfl (WL.indexAddrE (j := p) Tryd.underlying41 isz_24 rfl rfl rfl rfl hj34 hE34 ?_)))))))))
     refine WL.fieldAddr fo_24_3 rfl rfl rfl (WL.load1 (v := .slice adb34 x34.blocks.length capb34) one_22 rfl rfl rfl (hS.roCells hr34 hc34 3 _ rfl) (WL.move rfl rfl rfl (WL.indexAddrE (j := q) Tryd.underlying22 isz_59 rfl rfl rfl rfl hj37 hE37 (WL.fieldAddr fo_59_1 rfl rfl rfl (WL.load1 (v := .slice adi37 x37.ins.length capi37) one_54 rfl rfl rfl (hS.roCells hr37 hc37 1 _ rfl) (WL.move rfl rfl rfl ?_))))))
     have hj40 : r < x37.ins.length := by omega
     obtain ⟨x40, hx40, b40, o40, cs40, hE40, hr40, _, hc40, hQ40⟩ := opn hin37d hj40
     have hQk40 := hQ40
     obtain ⟨sv40, rfl, hs40, ho40, ha40, hb40, hk40, hn40⟩ := hQ40
     obtain ⟨ad40, cap40, rfl, hs40a, hs40b, hs40c, hs40d⟩ := id hs40
     have hs40m : x40.args.length ≤ 9223372036854775807 := by have h1 := hs40a; have h2 := hs40b; unfold maxLen at h2; omega
     refine WL.indexAddrE (j := r) Tryd.underlying54 isz_69 rfl rfl rfl rfl hj40 hE40 (WL.loadN (cs := [.int .i64 x40.op, .int .i64 x40.a, .int .i64 x40.b, .int .u64 x40.k, .string x40.name, .slice ad40 x40.args.length cap40]) agg_69 rfl rfl rfl rfl (hS.roCells hr40 hc40) ?_)
     refine WL.alloc (tyZero_spec zer_69) rfl rfl hS ?_
     clear hS; intro w42 b41 hb_b41 hS
     refine WL.store0 #[.int .i64 x40.op, .int .i64 x40.a, .int .i64 x40.b, .int .u64 x40.k, .string x40.name, .slice ad40 x40.args.length cap40] rfl rfl rfl rfl siz_69 rfl rfl rfl hS ?_
     clear hS; intro w43 hS
     refine WL.nil (N.seq (W.seq (W.seq (W.region (WL.fieldAddr fo_69_0 rfl rfl rfl (WL.load1 (v := .int .i64 x40.op) one_3 rfl rfl rfl (hS.cell 0 rfl rfl) (WL.bin rfl rfl rfl rfl rfl (WL.nil (N.seq ?_)))))))))
     refine W.cond rfl (fun hc44 => ?_) (fun hc44 => ?_)
     ·
      have hc44p : x40.op = 14 := by simpa using hc44
      refine W.seq (W.region (WL.loadN (cs := [.slice adf m.funcs.length capf, .slice adg m.globs.length capg]) agg_44 rfl rfl rfl rfl (hS.cells 1 (m := 2) rfl rfl) (WL.fieldAddr fo_69_4 rfl rfl rfl (WL.load1 (v := .string x40.name) one_9 rfl rfl rfl (hS.cell 0 rfl rfl) ?_))))
      refine WL.callF (vs := [.agg #[.slice adf m.funcs.length capf, .slice adg m.globs.length capg], .string x40.name]) Tryd.func33 (by kernel_rfl) rfl rfl rfl (findfnames_ret m _ x40.name (ro := (roFrom ro w10 w23)) (fun b hb => (hS.snap b hb).1) (ModC.keep hx2 hS.alike)) ?_
      rintro v w45 ⟨rfl, hbl⟩
      replace hS := hS.grow hbl
      obtain ⟨at_, hat⟩ : ∃ z, z = find5 (fnames m) x40.name := ⟨_, rfl⟩
      rw [← hat]
      have hatI : inI at_ := by rw [hat]; exact find5_in (by simp [fnames]; omega)
      refine WL.assign rfl rfl rfl (WL.nil (N.seq (W.seq (W.seq (W.region (WL.move rfl rfl rfl (WL.bin rfl rfl rfl rfl rfl (WL.nil (N.seq ?_)))))))))
      refine W.cond rfl (fun hc46 => ?_) (fun hc46 => ?_)
      ·
       have hc46p : at_ < 0 := by simpa using hc46
       refine W.seq (W.region (WL.assign rfl rfl rfl (WL.nil (N.seq ?_))))
       refine Fin.ret1 rfl (v := .int .i64 8) rfl ?_
       have hbz := hS.below
       clear hS
       refine ⟨?_, hbz⟩
       congr 1
       have hbd : bad5 m x40 = true := by unfold bad5; clear hx hx2 hfs hgs hg hok; first | (simp_all; done) | (simp_all; omega) | (rw [Bool.or_eq_true, Bool.and_eq_true, Bool.and_eq_true, Bool.or_eq_true]; simp only [decide_eq_true_eq]; omega)
       have hany : (insts5 m).any (bad5 m) = true := List.any_eq_true.2 ⟨x40, mem_insts (List.mem_of_getElem? hx34) (List.mem_of_getElem? hx37) (List.mem_of_getElem? hx40), hbd⟩
       rw [check5, if_neg (by omega), if_neg (by simp [hF, hG]), if_neg (fun h => h hN2), if_pos hany]
      have hc46p : ¬ (at_ < 0) := by simpa using hc46
      refine W.skip (N.seq ?_)
      cases hg47 : od
      ·
       have hj48 : at_.toNat < m.funcs.length := find5_lt hat (by omega)
       obtain ⟨x48, hx48, b48, o48, cs48, hE48, hr48, _, hc48, hQ48⟩ := opn hfsE hj48
       obtain ⟨sb48, rfl, hbl48, hnm48, hbd48, hpr48⟩ := id hQ48
       obtain ⟨adb48, capb48, rfl, hbk48a, hbk48b, hbk48c, hbk48d⟩ := id hbl48
       have hbk48m : x48.blocks.length ≤ 9223372036854775807 := by have h1 := hbk48a; have h2 := hbk48b; unfold maxLen at h2; omega
       refine W.drawL (by kernel_rfl) 13 ((.q (.bool false)) :: (.q (.bool false)) :: (.q (.pointer (some ⟨b1, 0, none⟩))) :: (.q (.slice adf m.funcs.length capf)) :: (.q (.int .i64 at_)) :: (.q (.pointer (some ⟨b48, o48 + at_.toNat * 4, none⟩))) :: (.q (.pointer (some ⟨b48, o48 + at_.toNat * 4 + 2, none⟩))) :: (.q (.int .i64 x48.params)) :: (.q (.pointer (some ⟨b41, 5, none⟩))) :: (.q (.slice ad40 x40.args.length cap40)) :: (.q (.int .i64 (x40.args.length : Int))) :: (.q (.bool (!decide (x48.params = (x40.args.length : Int))))) :: (.q (.bool (!decide (x48.params = (x40.args.length : Int))))) :: []) (by kernel_rfl) (by kernel_rfl) [(1, .pointer (some ⟨b1, 0, none⟩)), (11, .bool false), (12, .int .i64 (p : Int)), (13, .int .i64 (q : Int)), (14, .int .i64 (r : Int)), (15, .pointer (some ⟨b41, 0, none⟩)), (16, .int .i64 at_)] ⟨rfl, rfl, rfl, rfl, rfl, rfl, rfl, trivial⟩ (by kernel_rfl) hS ?_ ?_
       ·
        refine And.intro (fun β w hS => ?_) ?_
        ·
         refine WL.sub (σ' := [(11, .bool false)]) ⟨rfl, trivial⟩ ?_
         refine WL.move rfl rfl rfl ?_
         exact WL.nil (N.cut () ⟨rfl, trivial⟩ (Below.refl _ _))
        refine And.intro (fun β w hS => ?_) ?_
        ·
         refine WL.sub (σ' := [(161, .bool false)]) ⟨rfl, trivial⟩ ?_
         refine WL.move rfl rfl rfl ?_
         exact WL.nil (N.cut () ⟨rfl, trivial⟩ (Below.refl _ _))
        refine And.intro (fun β w hS => ?_) ?_
        ·
         refine WL.sub (σ' := [(1, .pointer (some ⟨b1, 0, none⟩)), (162, .bool false)]) ⟨rfl, rfl, trivial⟩ ?_
         refine WL.fieldAddr fo_44_0 rfl rfl rfl ?_
         exact WL.nil (N.cut () ⟨rfl, trivial⟩ (Below.refl _ _))
        refine And.intro (fun β w hS => ?_) ?_
        ·
         refine WL.sub (σ' := [(162, .bool false), (163, .pointer (some ⟨b1, 0, none⟩))]) ⟨rfl, rfl, trivial⟩ ?_
         refine WL.load1 (v := .slice adf m.funcs.length capf) one_41 rfl rfl rfl (hS.cell 1 rfl rfl) ?_
         exact WL.nil (N.cut () ⟨rfl, trivial⟩ (Below.refl _ _))
        refine And.intro (fun β w hS => ?_) ?_
        ·
         refine WL.sub (σ' := [(16, .int .i64 at_), (162, .bool false)]) ⟨rfl, rfl, trivial⟩ ?_
         refine WL.move rfl rfl rfl ?_
         exact WL.nil (N.cut () ⟨rfl, trivial⟩ (Below.refl _ _))
        refine And.intro (fun β w hS => ?_) ?_
        ·
         refine WL.sub (σ' := [(162, .bool false), (164, .slice adf m.funcs.length capf), (165, .int .i64 at_)]) ⟨rfl, rfl, rfl, trivial⟩ ?_
         refine WL.set 165 (v' := .int .i64 (at_.toNat : Int)) rfl (by congr 1; omega) ?_
         refine WL.indexAddrE (j := at_.toNat) Tryd.underlying41 isz_24 rfl rfl rfl rfl hj48 hE48 ?_
         exact WL.nil (N.cut () ⟨rfl, trivial⟩ (Below.refl _ _))
        refine And.intro (fun β w hS => ?_) ?_
        ·
         refine WL.sub (σ' := [(162, .bool false), (166, .pointer (some ⟨b48, o48 + at_.toNat * 4, none⟩))]) ⟨rfl, rfl, trivial⟩ ?_
         refine WL.fieldAddr fo_24_2 rfl rfl rfl ?_
         exact WL.nil (N.cut () ⟨rfl, trivial⟩ (Below.refl _ _))
        refine And.intro (fun β w hS => ?_) ?_
        ·
         refine WL.sub (σ' := [(162, .bool false), (167, .pointer (some ⟨b48, o48 + at_.toNat * 4 + 2, none⟩))]) ⟨rfl, rfl, trivial⟩ ?_
         refine WL.load1 (v := .int .i64 x48.params) one_3 rfl rfl rfl (hS.roCells hr48 hc48 2 _ rfl) ?_
         exact WL.nil (N.cut () ⟨rfl, trivial⟩ (Below.refl _ _))
        refine And.intro (fun β w hS => ?_) ?_
        ·
         refine WL.sub (σ' := [(15, .pointer (some ⟨b41, 0, none⟩)), (162, .bool false)]) ⟨rfl, rfl, trivial⟩ ?_
         refine WL.fieldAddr fo_69_5 rfl rfl rfl ?_
         exact WL.nil (N.cut () ⟨rfl, trivial⟩ (Below.refl _ _))
        refine And.intro (fun β w hS => ?_) ?_
        ·
         refine WL.sub (σ' := [(162, .bool false), (169, .pointer (some ⟨b41, 5, none⟩))]) ⟨rfl, rfl, trivial⟩ ?_
         refine WL.load1 (v := .slice ad40 x40.args.length cap40) one_55 rfl rfl rfl (hS.cell 0 rfl rfl) ?_
         exact WL.nil (N.cut () ⟨rfl, trivial⟩ (Below.refl _ _))
        refine And.intro (fun β w hS => ?_) ?_
        ·
         refine WL.sub (σ' := [(162, .bool false), (170, .slice ad40 x40.args.length cap40)]) ⟨rfl, rfl, trivial⟩ ?_
         refine WL.lenSlice Tryd.underlying55 rfl rfl rfl ?_
         exact WL.nil (N.cut () ⟨rfl, trivial⟩ (Below.refl _ _))
        refine And.intro (fun β w hS => ?_) ?_
        ·
         refine WL.sub (σ' := [(162, .bool false), (168, .int .i64 x48.params), (171, .int .i64 (x40.args.length : Int))]) ⟨rfl, rfl, rfl, trivial⟩ ?_
         refine WL.bin rfl rfl rfl rfl rfl ?_
         exact WL.nil (N.cut () ⟨rfl, trivial⟩ (Below.refl _ _))
        refine And.intro (fun β w hS => ?_) ?_
        ·
         refine WL.sub (σ' := [(162, .bool false), (172, .bool (!decide (x48.params = (x40.args.length : Int))))]) ⟨rfl, rfl, trivial⟩ ?_
         refine WL.pick (v := .bool (!decide (x48.params = (x40.args.length : Int)))) rfl rfl rfl rfl rfl rfl ?_
         exact WL.nil (N.cut () ⟨rfl, trivial⟩ (Below.refl _ _))
        trivial
       clear hS; intro w49 β hS
       refine WL.sub (σ' := [(1, .pointer (some ⟨b1, 0, none⟩)), (11, .bool false), (12, .int .i64 (p : Int)), (13, .int .i64 (q : Int)), (14, .int .i64 (r : Int)), (15, .pointer (some ⟨b41, 0, none⟩)), (173, .bool (!decide (x48.params = (x40.args.length : Int))))]) ⟨rfl, rfl, rfl, rfl, rfl, rfl, rfl, trivial⟩ ?_
       refine WL.assign rfl rfl rfl (WL.nil (N.seq (W.seq (W.region (WL.fieldAddr fo_69_0 rfl rfl rfl (WL.load1 (v := .int .i64 x40.op) one_3 rfl rfl rfl (hS.cell 0 rfl rfl) (WL.bin rfl rfl rfl rfl rfl (WL.move rfl rfl rfl ?_))))))))
       cases hg50 : (decide (x40.op = 12))
       ·
        have hg50p : ¬ (x40.op = 12) := by simpa using hg50
        refine WL.fieldAddr fo_69_0 rfl rfl rfl (WL.load1 (v := .int .i64 x40.op) one_3 rfl rfl rfl (hS.cell 0 rfl rfl) (WL.bin rfl rfl rfl rfl rfl (WL.pick (v := .bool (decide (x40.op = 13))) rfl rfl rfl rfl rfl rfl (WL.move rfl rfl rfl ?_))))
        cases hg51 : (decide (x40.op = 13))
        ·
         have hg51p : ¬ (x40.op = 13) := by simpa using hg51
         refine WL.skp rfl rfl (WL.skp rfl rfl (WL.skp rfl rfl (WL.skp rfl rfl (WL.skp rfl rfl (WL.pick (v := .bool false) rfl rfl rfl rfl rfl rfl (WL.nil (N.seq (W.condF rfl (W.skip ?_)))))))))
         refine N.blk (N.seq (W.region (WL.move rfl rfl rfl ?_)))
         refine WL.add (c := (r : Int) + 1) rfl rfl rfl rfl (rfl) (by omega) ?_
         refine WL.assign rfl rfl rfl (WL.nil ?_)
         have hS := hS.dropN 1
         have hbd : bad5 m x40 = false := by unfold bad5; clear hx hx2 hfs hgs hg hok; first | (simp_all; done) | (simp_all; omega) | (rw [Bool.or_eq_false_iff, Bool.and_eq_false_iff, Bool.and_eq_false_iff, Bool.or_eq_false_iff]; simp only [decide_eq_false_iff_not]; omega)
         have hov : (od || odd5 m x40) = !decide (x48.params = (x40.args.length : Int)) := by unfold odd5; clear hx hx2 hfs hgs hok hbd; first | (rw [← hat, hx48]; simp_all; done) | (simp_all; done)
         have hg2 : G5 m ((m.funcs.take p).flatMap fins5 ++ (x34.blocks.take q).flatMap (·.ins) ++ x37.ins.take (r + 1)) (!decide (x48.params = (x40.args.length : Int))) := by rw [take_next hx40, ← List.append_assoc, ← hov]; exact hg.snoc hbd
         exact N.loop (r + 1, !decide (x48.params = (x40.args.length : Int))) ⟨rfl, rfl, rfl, rfl, rfl, trivial⟩ ⟨hS, by omega, hg2⟩ (by first | omega | (simp only; omega))
        have hg51p : x40.op = 13 := by simpa using hg51
        exfalso; omega
       have hg50p : x40.op = 12 := by simpa using hg50
       exfalso; omega
      refine W.drawL (by kernel_rfl) 13 ((.q (.bool true)) :: (.q (.bool true)) :: (.q undef) :: (.q undef) :: (.q undef) :: (.q undef) :: (.q undef) :: (.q undef) :: (.q undef) :: (.q undef) :: (.q undef) :: (.q undef) :: (.q (.bool true)) :: []) (by kernel_rfl) (by kernel_rfl) [(1, .pointer (some ⟨b1, 0, none⟩)), (11, .bool true), (12, .int .i64 (p : Int)), (13, .int .i64 (q : Int)), (14, .int .i64 (r : Int)), (15, .pointer (some ⟨b41, 0, none⟩)), (16, .int .i64 at_)] ⟨rfl, rfl, rfl, rfl, rfl, rfl, rfl, trivial⟩ (by kernel_rfl) hS ?_ ?_
      ·
       refine And.intro (fun β w hS => ?_) ?_
       ·
        refine WL.sub (σ' := [(11, .bool true)]) ⟨rfl, trivial⟩ ?_
        refine WL.move rfl rfl rfl ?_
        exact WL.nil (N.cut () ⟨rfl, trivial⟩ (Below.refl _ _))
       refine And.intro (fun β w hS => ?_) ?_
       ·
        refine WL.sub (σ' := [(161, .bool true)]) ⟨rfl, trivial⟩ ?_
        refine WL.move rfl rfl rfl ?_
        exact WL.nil (N.cut () ⟨rfl, trivial⟩ (Below.refl _ _))
       refine And.intro (fun β w hS => ?_) ?_
       ·
        refine WL.sub (σ' := [(1, .pointer (some ⟨b1, 0, none⟩)), (162, .bool true)]) ⟨rfl, rfl, trivial⟩ ?_
        refine WL.skp rfl rfl ?_
        exact WL.nil (N.cut () ⟨rfl, trivial⟩ (Below.refl _ _))
       refine And.intro (fun β w hS => ?_) ?_
       ·
        refine WL.sub (σ' := [(162, .bool true), (163, undef)]) ⟨rfl, rfl, trivial⟩ ?_
        refine WL.skp rfl rfl ?_
        exact WL.nil (N.cut () ⟨rfl, trivial⟩ (Below.refl _ _))
       refine And.intro (fun β w hS => ?_) ?_
       ·
        refine WL.sub (σ' := [(16, .int .i64 at_), (162, .bool true)]) ⟨rfl, rfl, trivial⟩ ?_
        refine WL.skp rfl rfl ?_
        exact WL.nil (N.cut () ⟨rfl, trivial⟩ (Below.refl _ _))
       refine And.intro (fun β w hS => ?_) ?_
       ·
        refine WL.sub (σ' := [(162, .bool true), (164, undef), (165, undef)]) ⟨rfl, rfl, rfl, trivial⟩ ?_
        refine WL.skp rfl rfl ?_
        exact WL.nil (N.cut () ⟨rfl, trivial⟩ (Below.refl _ _))
       refine And.intro (fun β w hS => ?_) ?_
       ·
        refine WL.sub (σ' := [(162, .bool true), (166, undef)]) ⟨rfl, rfl, trivial⟩ ?_
        refine WL.skp rfl rfl ?_
        exact WL.nil (N.cut () ⟨rfl, trivial⟩ (Below.refl _ _))
       refine And.intro (fun β w hS => ?_) ?_
       ·
        refine WL.sub (σ' := [(162, .bool true), (167, undef)]) ⟨rfl, rfl, trivial⟩ ?_
        refine WL.skp rfl rfl ?_
        exact WL.nil (N.cut () ⟨rfl, trivial⟩ (Below.refl _ _))
       refine And.intro (fun β w hS => ?_) ?_
       ·
        refine WL.sub (σ' := [(15, .pointer (some ⟨b41, 0, none⟩)), (162, .bool true)]) ⟨rfl, rfl, trivial⟩ ?_
        refine WL.skp rfl rfl ?_
        exact WL.nil (N.cut () ⟨rfl, trivial⟩ (Below.refl _ _))
       refine And.intro (fun β w hS => ?_) ?_
       ·
        refine WL.sub (σ' := [(162, .bool true), (169, undef)]) ⟨rfl, rfl, trivial⟩ ?_
        refine WL.skp rfl rfl ?_
        exact WL.nil (N.cut () ⟨rfl, trivial⟩ (Below.refl _ _))
       refine And.intro (fun β w hS => ?_) ?_
       ·
        refine WL.sub (σ' := [(162, .bool true), (170, undef)]) ⟨rfl, rfl, trivial⟩ ?_
        refine WL.skp rfl rfl ?_
        exact WL.nil (N.cut () ⟨rfl, trivial⟩ (Below.refl _ _))
       refine And.intro (fun β w hS => ?_) ?_
       ·
        refine WL.sub (σ' := [(162, .bool true), (168, undef), (171, undef)]) ⟨rfl, rfl, rfl, trivial⟩ ?_
        refine WL.skp rfl rfl ?_
        exact WL.nil (N.cut () ⟨rfl, trivial⟩ (Below.refl _ _))
       refine And.intro (fun β w hS => ?_) ?_
       ·
        refine WL.sub (σ' := [(162, .bool true), (172, undef)]) ⟨rfl, rfl, trivial⟩ ?_
        refine WL.pick (v := .bool true) rfl rfl rfl rfl rfl rfl ?_
        exact WL.nil (N.cut () ⟨rfl, trivial⟩ (Below.refl _ _))
       trivial
      clear hS; intro w52 β hS
      refine WL.sub (σ' := [(1, .pointer (some ⟨b1, 0, none⟩)), (11, .bool true), (12, .int .i64 (p : Int)), (13, .int .i64 (q : Int)), (14, .int .i64 (r : Int)), (15, .pointer (some ⟨b41, 0, none⟩)), (173, .bool true)]) ⟨rfl, rfl, rfl, rfl, rfl, rfl, rfl, trivial⟩ ?_
      refine WL.assign rfl rfl rfl (WL.nil (N.seq (W.seq (W.region (WL.fieldAddr fo_69_0 rfl rfl rfl (WL.load1 (v := .int .i64 x40.op) one_3 rfl rfl rfl (hS.cell 0 rfl rfl) (WL.bin rfl rfl rfl rfl rfl (WL.move rfl rfl rfl ?_))))))))
      cases hg53 : (decide (x40.op = 12))
      ·
       have hg53p : ¬ (x40.op = 12) := by simpa using hg53
       refine WL.fieldAddr fo_69_0 rfl rfl rfl (WL.load1 (v := .int .i64 x40.op) one_3 rfl rfl rfl (hS.cell 0 rfl rfl) (WL.bin rfl rfl rfl rfl rfl (WL.pick (v := .bool (decide (x40.op = 13))) rfl rfl rfl rfl rfl rfl (WL.move rfl rfl rfl ?_))))
       cases hg54 : (decide (x40.op = 13))
       ·
        have hg54p : ¬ (x40.op = 13) := by simpa using hg54
        refine WL.skp rfl rfl (WL.skp rfl rfl (WL.skp rfl rfl (WL.skp rfl rfl (WL.skp rfl rfl (WL.pick (v := .bool false) rfl rfl rfl rfl rfl rfl (WL.nil (N.seq (W.condF rfl (W.skip ?_)))))))))
        refine N.blk (N.seq (W.region (WL.move rfl rfl rfl ?_)))
        refine WL.add (c := (r : Int) + 1) rfl rfl rfl rfl (rfl) (by omega) ?_
        refine WL.assign rfl rfl rfl (WL.nil ?_)
        have hS := hS.dropN 1
        have hbd : bad5 m x40 = false := by unfold bad5; clear hx hx2 hfs hgs hg hok; first | (simp_all; done) | (simp_all; omega) | (rw [Bool.or_eq_false_iff, Bool.and_eq_false_iff, Bool.and_eq_false_iff, Bool.or_eq_false_iff]; simp only [decide_eq_false_iff_not]; omega)
        have hov : (od || odd5 m x40) = true := by unfold odd5; clear hx hx2 hfs hgs hok hbd; first | (simp_all; done) | (simp_all; done)
        have hg2 : G5 m ((m.funcs.take p).flatMap fins5 ++ (x34.blocks.take q).flatMap (·.ins) ++ x37.ins.take (r + 1)) true := by rw [take_next hx40, ← List.append_assoc, ← hov]; exact hg.snoc hbd
        exact N.loop (r + 1, true) ⟨rfl, rfl, rfl, rfl, rfl, trivial⟩ ⟨hS, by omega, hg2⟩ (by first | omega | (simp only; omega))
       have hg54p : x40.op = 13 := by simpa using hg54
       exfalso; omega
      have hg53p : x40.op = 12 := by simpa using hg53
      exfalso; omega
     have hc44p : ¬ (x40.op = 14) := by simpa using hc44
     refine W.skip (N.seq (W.seq (W.region (WL.fieldAddr fo_69_0 rfl rfl rfl (WL.load1 (v := .int .i64 x40.op) one_3 rfl rfl rfl (hS.cell 0 rfl rfl) (WL.bin rfl rfl rfl rfl rfl (WL.move rfl rfl rfl ?_)))))))
     cases hg55 : (decide (x40.op = 12))
     ·
      have hg55p : ¬ (x40.op = 12) := by simpa using hg55
      refine WL.fieldAddr fo_69_0 rfl rfl rfl (WL.load1 (v := .int .i64 x40.op) one_3 rfl rfl rfl (hS.cell 0 rfl rfl) (WL.bin rfl rfl rfl rfl rfl (WL.pick (v := .bool (decide (x40.op = 13))) rfl rfl rfl rfl rfl rfl (WL.move rfl rfl rfl ?_))))
      cases hg56 : (decide (x40.op = 13))
      ·
       have hg56p : ¬ (x40.op = 13) := by simpa using hg56
       refine WL.skp rfl rfl (WL.skp rfl rfl (WL.skp rfl rfl (WL.skp rfl rfl (WL.skp rfl rfl (WL.pick (v := .bool false) rfl rfl rfl rfl rfl rfl (WL.nil (N.seq (W.condF rfl (W.skip ?_)))))))))
       refine N.blk (N.seq (W.region (WL.move rfl rfl rfl ?_)))
       refine WL.add (c := (r : Int) + 1) rfl rfl rfl rfl (rfl) (by omega) ?_
       refine WL.assign rfl rfl rfl (WL.nil ?_)
       have hS := hS.dropN 1
       have hbd : bad5 m x40 = false := by unfold bad5; clear hx hx2 hfs hgs hg hok; first | (simp_all; done) | (simp_all; omega) | (rw [Bool.or_eq_false_iff, Bool.and_eq_false_iff, Bool.and_eq_false_iff, Bool.or_eq_false_iff]; simp only [decide_eq_false_iff_not]; omega)
       have hov : (od || odd5 m x40) = od := by unfold odd5; rw [decide_eq_false (by omega)]; simp
       have hg2 : G5 m ((m.funcs.take p).flatMap fins5 ++ (x34.blocks.take q).flatMap (·.ins) ++ x37.ins.take (r + 1)) od := by rw [take_next hx40, ← List.append_assoc, ← hov]; exact hg.snoc hbd
       exact N.loop (r + 1, od) ⟨rfl, rfl, rfl, rfl, rfl, trivial⟩ ⟨hS, by omega, hg2⟩ (by first | omega | (simp only; omega))
      have hg56p : x40.op = 13 := by simpa using hg56
      refine WL.loadN (cs := [.slice adf m.funcs.length capf, .slice adg m.globs.length capg]) agg_44 rfl rfl rfl rfl (hS.cells 1 (m := 2) rfl rfl) (WL.fieldAddr fo_69_4 rfl rfl rfl (WL.load1 (v := .string x40.name) one_9 rfl rfl rfl (hS.cell 0 rfl rfl) ?_))
      refine WL.callF (vs := [.agg #[.slice adf m.funcs.length capf, .slice adg m.globs.length capg], .string x40.name]) Tryd.func34 (by kernel_rfl) rfl rfl rfl (findgnames_ret m _ x40.name (ro := (roFrom ro w10 w23)) (fun b hb => (hS.snap b hb).1) (ModC.keep hx2 hS.alike)) ?_
      rintro v w57 ⟨rfl, hbl⟩
      replace hS := hS.grow hbl
      refine WL.bin rfl rfl rfl rfl rfl (WL.pick (v := .bool (decide (find5 (gnames m) x40.name < 0))) rfl rfl rfl rfl rfl rfl (WL.nil (N.seq ?_)))
      refine W.cond rfl (fun hc58 => ?_) (fun hc58 => ?_)
      ·
       have hc58p : find5 (gnames m) x40.name < 0 := by simpa using hc58
       refine W.seq (W.region (WL.assign rfl rfl rfl (WL.nil (N.seq ?_))))
       refine Fin.ret1 rfl (v := .int .i64 8) rfl ?_
       have hbz := hS.below
       clear hS
       refine ⟨?_, hbz⟩
       congr 1
       have hbd : bad5 m x40 = true := by unfold bad5; clear hx hx2 hfs hgs hg hok; first | (simp_all; done) | (simp_all; omega) | (rw [Bool.or_eq_true, Bool.and_eq_true, Bool.and_eq_true, Bool.or_eq_true]; simp only [decide_eq_true_eq]; omega)
       have hany : (insts5 m).any (bad5 m) = true := List.any_eq_true.2 ⟨x40, mem_insts (List.mem_of_getElem? hx34) (List.mem_of_getElem? hx37) (List.mem_of_getElem? hx40), hbd⟩
       rw [check5, if_neg (by omega), if_neg (by simp [hF, hG]), if_neg (fun h => h hN2), if_pos hany]
      have hc58p : ¬ (find5 (gnames m) x40.name < 0) := by simpa using hc58
      refine W.skip (N.blk (N.seq (W.region (WL.move rfl rfl rfl ?_))))
      refine WL.add (c := (r : Int) + 1) rfl rfl rfl rfl (rfl) (by omega) ?_
      refine WL.assign rfl rfl rfl (WL.nil ?_)
      have hS := hS.dropN 1
      have hbd : bad5 m x40 = false := by unfold bad5; clear hx hx2 hfs hgs hg hok; first | (simp_all; done) | (simp_all; omega) | (rw [Bool.or_eq_false_iff, Bool.and_eq_false_iff, Bool.and_eq_false_iff, Bool.or_eq_false_iff]; simp only [decide_eq_false_iff_not]; omega)
      have hov : (od || odd5 m x40) = od := by unfold odd5; rw [decide_eq_false (by omega)]; simp
      have hg2 : G5 m ((m.funcs.take p).flatMap fins5 ++ (x34.blocks.take q).flatMap (·.ins) ++ x37.ins.take (r + 1)) od := by rw [take_next hx40, ← List.append_assoc, ← hov]; exact hg.snoc hbd
      exact N.loop (r + 1, od) ⟨rfl, rfl, rfl, rfl, rfl, trivial⟩ ⟨hS, by omega, hg2⟩ (by first | omega | (simp only; omega))
     have hg55p : x40.op = 12 := by simpa using hg55
     refine WL.skp rfl rfl (WL.skp rfl rfl (WL.skp rfl rfl (WL.pick (v := .bool true) rfl rfl rfl rfl rfl rfl (WL.move rfl rfl rfl (WL.loadN (cs := [.slice adf m.funcs.length capf, .slice adg m.globs.length capg]) agg_44 rfl rfl rfl rfl (hS.cells 1 (m := 2) rfl rfl) (WL.fieldAddr fo_69_4 rfl rfl rfl (WL.load1 (v := .string x40.name) one_9 rfl rfl rfl (hS.cell 0 rfl rfl) ?_)))))))
     refine WL.callF (vs := [.agg #[.slice adf m.funcs.length capf, .slice adg m.globs.length capg], .string x40.name]) Tryd.func34 (by kernel_rfl) rfl rfl rfl (findgnames_ret m _ x40.name (ro := (roFrom ro w10 w23)) (fun b hb => (hS.snap b hb).1) (ModC.keep hx2 hS.alike)) ?_
     rintro v w59 ⟨rfl, hbl⟩
     replace hS := hS.grow hbl
     refine WL.bin rfl rfl rfl rfl rfl (WL.pick (v := .bool (decide (find5 (gnames m) x40.name < 0))) rfl rfl rfl rfl rfl rfl (WL.nil (N.seq ?_)))
     refine W.cond rfl (fun hc60 => ?_) (fun hc60 => ?_)
     ·
      have hc60p : find5 (gnames m) x40.name < 0 := by simpa using hc60
      refine W.seq (W.region (WL.assign rfl rfl rfl (WL.nil (N.seq ?_))))
      refine Fin.ret1 rfl (v := .int .i64 8) rfl ?_
      have hbz := hS.below
      clear hS
      refine ⟨?_, hbz⟩
      congr 1
      have hbd : bad5 m x40 = true := by unfold bad5; clear hx hx2 hfs hgs hg hok; first | (simp_all; done) | (simp_all; omega) | (rw [Bool.or_eq_true, Bool.and_eq_true, Bool.and_eq_true, Bool.or_eq_true]; simp only [decide_eq_true_eq]; omega)
      have hany : (insts5 m).any (bad5 m) = true := List.any_eq_true.2 ⟨x40, mem_insts (List.mem_of_getElem? hx34) (List.mem_of_getElem? hx37) (List.mem_of_getElem? hx40), hbd⟩
      rw [check5, if_neg (by omega), if_neg (by simp [hF, hG]), if_neg (fun h => h hN2), if_pos hany]
     have hc60p : ¬ (find5 (gnames m) x40.name < 0) := by simpa using hc60
     refine W.skip (N.blk (N.seq (W.region (WL.move rfl rfl rfl ?_))))
     refine WL.add (c := (r : Int) + 1) rfl rfl rfl rfl (rfl) (by omega) ?_
     refine WL.assign rfl rfl rfl (WL.nil ?_)
     have hS := hS.dropN 1
     have hbd : bad5 m x40 = false := by unfold bad5; clear hx hx2 hfs hgs hg hok; first | (simp_all; done) | (simp_all; omega) | (rw [Bool.or_eq_false_iff, Bool.and_eq_false_iff, Bool.and_eq_false_iff, Bool.or_eq_false_iff]; simp only [decide_eq_false_iff_not]; omega)
     have hov : (od || odd5 m x40) = od := by unfold odd5; rw [decide_eq_false (by omega)]; simp
     have hg2 : G5 m ((m.funcs.take p).flatMap fins5 ++ (x34.blocks.take q).flatMap (·.ins) ++ x37.ins.take (r + 1)) od := by rw [take_next hx40, ← List.append_assoc, ← hov]; exact hg.snoc hbd
     exact N.loop (r + 1, od) ⟨rfl, rfl, rfl, rfl, rfl, trivial⟩ ⟨hS, by omega, hg2⟩ (by first | omega | (simp only; omega))
    have hc39p : ¬ ((r : Int) < (x37.ins.length : Int)) := by simpa using hc39
    refine W.exit (X.seq (X.loop (X.blk (N.blk (N.seq (W.region (WL.move rfl rfl rfl ?_)))))))
    refine WL.add (c := (q : Int) + 1) rfl rfl rfl rfl (rfl) (by omega) ?_
    refine WL.assign rfl rfl rfl (WL.nil ?_)
    have hg2 : G5 m ((m.funcs.take p).flatMap fins5 ++ (x34.blocks.take (q + 1)).flatMap (·.ins)) od := by
     rw [take_next hx37, List.flatMap_append, ← List.append_assoc]
     rw [show r = x37.ins.length by omega, List.take_length] at hg; simpa using hg
    exact N.loop (q + 1, od) ⟨rfl, rfl, rfl, rfl, trivial⟩ ⟨hS, by omega, hg2⟩ (by first | omega | (simp only; omega))
   have hc36p : ¬ ((q : Int) < (x34.blocks.length : Int)) := by simpa using hc36
   refine W.exit (X.seq (X.loop (X.blk (N.blk (N.seq (W.region (WL.move rfl rfl rfl ?_)))))))
   refine WL.add (c := (p : Int) + 1) rfl rfl rfl rfl (rfl) (by omega) ?_
   refine WL.assign rfl rfl rfl (WL.nil ?_)
   have hg2 : G5 m ((m.funcs.take (p + 1)).flatMap fins5) od := by rw [take_next hx34, List.flatMap_append]; rw [show q = x34.blocks.length by omega, List.take_length] at hg; simpa [fins5] using hg
   exact N.loop (p + 1, od) ⟨rfl, rfl, rfl, trivial⟩ ⟨hS, by omega, hg2⟩ (by first | omega | (simp only; omega))
  have hc33p : ¬ ((p : Int) < (m.funcs.length : Int)) := by simpa using hc33
  refine W.exit (X.seq (X.loop (X.blk (N.seq (W.seq (W.seq (W.region (WL.move rfl rfl rfl (WL.nil ?_)))))))))
  refine N.seq ?_
  refine W.cond rfl (fun hc61 => ?_) (fun hc61 => ?_)
  ·
   refine W.seq (W.region (WL.assign rfl rfl rfl (WL.nil (N.seq ?_))))
   refine Fin.ret1 rfl (v := .int .i64 1) rfl ?_
   have hbz := hS.below
   clear hS
   refine ⟨?_, hbz⟩
   congr 1
   have hpe : p = m.funcs.length := by omega
   rw [hpe, List.take_length] at hg
   obtain ⟨hg1, hg2⟩ := hg
   have hg1b : ¬ (insts5 m).any (bad5 m) = true := by rw [show (insts5 m).any (bad5 m) = false from hg1]; simp
   rw [check5, if_neg (by omega), if_neg (by simp [hF, hG]), if_neg (fun h => h hN2), if_neg hg1b, if_pos (by rw [show (insts5 m).any (odd5 m) = od from hg2]; simpa using hc61)]
  refine W.skip (N.seq (W.seq (W.region (WL.assign rfl rfl rfl (WL.nil (N.seq ?_))))))
  refine Fin.ret1 rfl (v := .int .i64 0) rfl ?_
  have hbz := hS.below
  clear hS
  refine ⟨?_, hbz⟩
  congr 1
  have hpe : p = m.funcs.length := by omega
  rw [hpe, List.take_length] at hg
  obtain ⟨hg1, hg2⟩ := hg
  have hg1b : ¬ (insts5 m).any (bad5 m) = true := by rw [show (insts5 m).any (bad5 m) = false from hg1]; simp
  rw [check5, if_neg (by omega), if_neg (by simp [hF, hG]), if_neg (fun h => h hN2), if_neg hg1b, if_neg (by rw [show (insts5 m).any (odd5 m) = od from hg2]; simpa using hc61)]
 have hg3p : 16 < (m.funcs.length : Int) := by simpa using hg3
 refine WL.skp rfl rfl (WL.skp rfl rfl (WL.skp rfl rfl (WL.skp rfl rfl (WL.pick (v := .bool true) rfl rfl rfl rfl rfl rfl (WL.nil (N.seq (W.condT rfl (W.seq (W.region ?_)))))))))
 refine WL.assign rfl rfl rfl (WL.nil (N.seq ?_))
 refine Fin.ret1 rfl (v := .int .i64 4) rfl ?_
 have hbz := hS.below
 clear hS
 refine ⟨?_, hbz⟩
 congr 1
 rw [check5, if_pos (by omega)]

end Go.Proofs.YtcmmhfknkldmcaaDoor
