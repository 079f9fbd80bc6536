/-
  Contracts of what is right (marlineref05). No condition beyond those that each theorem states.
-/
import Derived.Test.YtdlcmhkfglckfaaR5d
namespace Go.Proofs.Ytdlcmhkfglckfaa
open Go.RowKit
theorem fo_46_0 : fOff Try.prog 46 0 0 = true := by kernel_rfl
theorem fo_46_1 : fOff Try.prog 46 1 1 = true := by kernel_rfl
theorem fo_71_0 : fOff Try.prog 71 0 0 = true := by kernel_rfl
theorem isz_24 : (Try.prog.info? 24).map (·.size) = some 4 := by kernel_rfl
theorem isz_71 : (Try.prog.info? 71).map (·.size) = some 4 := by kernel_rfl
theorem one_43 : tyOne Try.prog 43 = true := by kernel_rfl
theorem one_44 : tyOne Try.prog 44 = true := by kernel_rfl
def findN : Nat → List ByteArray → ByteArray → Int
  | _, [], _ => -1
  | i, n :: r, s => if n = s then (i : Int) else findN (i + 1) r s
def find5 (l : List ByteArray) (s : ByteArray) : Int := findN 0 l s
theorem findN_at : ∀ (l : List ByteArray) (s : ByteArray) (i k : Nat), (∀ j, j < k → l[j]? ≠ some s) → l[k]? = some s → findN i l s = ((i + k : Nat) : Int)
  | [], _, _, _, _, h => by simp at h
  | n :: r, s, i, 0, _, h => by
    simp only [List.getElem?_cons_zero, Option.some.injEq] at h
    subst h; simp [findN]
  | n :: r, s, i, k + 1, h, hk => by
    have h0 : ¬ n = s := fun e => h 0 (by omega) (by simp [e])
    rw [findN, if_neg h0, findN_at r s (i + 1) k (fun j hj => by have := h (j + 1) (by omega); simpa using this) (by simpa using hk)]
    omega
theorem findN_no : ∀ (l : List ByteArray) (s : ByteArray) (i : Nat), (∀ j, j < l.length → l[j]? ≠ some s) → findN i l s = -1
  | [], _, _, _ => rfl
  | n :: r, s, i, h => by
    have h0 : ¬ n = s := fun e => h 0 (by simp) (by simp [e])
    rw [findN, if_neg h0]
    exact findN_no r s (i + 1) fun j hj => by have := h (j + 1) (by simp; omega); simpa using this
theorem find5_cases (l : List ByteArray) (s : ByteArray) : (find5 l s = -1 ∧ s ∉ l) ∨ ∃ k : Nat, find5 l s = (k : Int) ∧ l[k]? = some s ∧ k < l.length ∧ ∀ j, j < k → l[j]? ≠ some s := by
  by_cases h : ∃ k, k < l.length ∧ l[k]? = some s
  · obtain ⟨k, ⟨h1, h2⟩, h3⟩ := Go.exists_least (p := fun k => k < l.length ∧ l[k]? = some s) h
    have h4 : ∀ j, j < k → l[j]? ≠ some s := fun j hj e => by have := h3 j ⟨by omega, e⟩; omega
    exact .inr ⟨k, by rw [find5, findN_at l s 0 k h4 h2, Nat.zero_add], h2, h1, h4⟩
  · refine .inl ⟨findN_no l s 0 fun j hj e => h ⟨j, hj, e⟩, fun hm => ?_⟩
    obtain ⟨j, hj⟩ := List.getElem?_of_mem hm
    exact h ⟨j, (List.getElem?_eq_some_iff.1 hj).1, hj⟩
def fnames (m : DMod) : List ByteArray := m.funcs.map (·.name)
def gnames (m : DMod) : List ByteArray := m.globs.map (·.name)
def names5 (m : DMod) : List ByteArray := fnames m ++ gnames m

theorem findfnames_ret (m : DMod) (cm : List Value) (s : ByteArray) {w : World} {ro : Nat → Prop} (hro : ∀ b, ro b → b < w.heap.size) (hx : ModC ro w cm m) : Ret Try.prog 47 #[.agg cm.toArray, .string s] w fun v w' => v = .int .i64 (find5 (fnames m) s) ∧ Below w.heap.size w w' := by
 obtain ⟨sf, sg, rfl, hfs, hgs⟩ := id hx
 obtain ⟨adf, capf, rfl, hfsa, hfsb, hfsc, hfsd⟩ := id hfs
 have hfsm : m.funcs.length ≤ 9223372036854775807 := by have h1 := hfsa; have h2 := hfsb; unfold maxLen at h2; omega
 obtain ⟨adg, capg, rfl, hgsa, hgsb, hgsc, hgsd⟩ := id hgs
 have hgsm : m.globs.length ≤ 9223372036854775807 := by have h1 := hgsa; have h2 := hgsb; unfold maxLen at h2; omega
 refine Ret.enter (P := Try.prog) (n := 22) (args := [.agg #[.slice adf m.funcs.length capf, .slice adg m.globs.length capg], .string s]) (σ := [(0, .agg #[.slice adf m.funcs.length capf, .slice adg m.globs.length capg]), (1, .string s)]) Try.func47 rfl rfl rfl rfl ?_
 have hS := St.start (ro := ro) hro
 refine W.seq (W.region ?_)
 refine WL.box (v := .agg #[.slice adf m.funcs.length capf, .slice adg m.globs.length capg]) (cs := [.slice adf m.funcs.length capf, .slice adg m.globs.length capg]) rfl rfl rfl rfl hS ?_
 clear hS; intro w2 b1 hb_b1 hS
 refine WL.assign rfl rfl rfl (WL.nil (N.seq (W.seq (W.seq (W.region (WL.assign rfl rfl rfl (WL.nil (N.seq (W.block ?_)))))))))
 refine W.loop (α := Nat) (fun (k : Nat) => [(1, .string s), (2, .pointer (some ⟨b1, 0, none⟩)), (5, .int .i64 (k : Int))]) (fun (k : Nat) u => St w w u ro [(b1, .cells #[.slice adf m.funcs.length capf, .slice adg m.globs.length capg] 46 (0, 0))] [] ∧ k ≤ m.funcs.length ∧ ∀ j, j < k → (fnames m)[j]? ≠ some s) (fun (k : Nat) => m.funcs.length - k) 0 ⟨rfl, rfl, rfl, trivial⟩ ⟨hS, Nat.zero_le _, fun j hj => by omega⟩ ?_
 clear hS
 rintro k w3 ⟨hS, hk, htk⟩
 refine W.seq (W.seq (W.region (WL.move rfl rfl rfl (WL.fieldAddr fo_46_0 rfl rfl rfl (WL.load1 (v := .slice adf m.funcs.length capf) one_43 rfl rfl rfl (hS.cell 0 rfl rfl) (WL.lenSlice Try.underlying43 rfl rfl rfl (WL.bin rfl rfl rfl rfl rfl (WL.nil (N.seq ?_)))))))))
 refine W.cond rfl (fun hc4 => ?_) (fun hc4 => ?_)
 ·
  have hc4p : (k : Int) < (m.funcs.length : Int) := by simpa using hc4
  refine W.skip (N.seq (W.seq (W.block (W.seq (W.region (WL.fieldAddr fo_46_0 rfl rfl rfl (WL.load1 (v := .slice adf m.funcs.length capf) one_43 rfl rfl rfl (hS.cell 0 rfl rfl) (WL.move rfl rfl rfl ?_))))))))
  have hj5 : k < m.funcs.length := by omega
  obtain ⟨x5, hx5⟩ : ∃ zz, m.funcs[k]? = some zz := ⟨_, List.getElem?_eq_getElem hj5⟩
  obtain ⟨b5, o5, cs5, hE5, hr5, hl5, hc5, hQ5⟩ := hfsd k _ hx5
  obtain ⟨sb5, rfl, hbl5, hnm5, hbd5, hpr5⟩ := id hQ5
  obtain ⟨adb5, capb5, rfl, hbk5a, hbk5b, hbk5c, hbk5d⟩ := id hbl5
  have hbk5m : x5.blocks.length ≤ 9223372036854775807 := by have h1 := hbk5a; have h2 := hbk5b; unfold maxLen at h2; omega
  refine WL.indexAddrE (j := k) Try.underlying43 isz_24 rfl rfl rfl rfl hj5 hE5 (WL.fieldAddr fo_24_0 rfl rfl rfl (WL.load1 (v := .string x5.name) one_9 rfl rfl rfl (hS.roCells hr5 hc5 0 _ rfl) (WL.move rfl rfl rfl (WL.eqStr rfl rfl rfl rfl (WL.nil (N.seq ?_))))))
  refine W.cond rfl (fun hc6 => ?_) (fun hc6 => ?_)
  ·
   have hc6p : x5.name = s := by simpa using hc6
   refine W.seq (W.region (WL.move rfl rfl rfl (WL.assign rfl rfl rfl (WL.nil (N.seq ?_)))))
   refine Fin.ret1 rfl (v := .int .i64 (k : Int)) rfl ?_
   have hbz := hS.below
   clear hS
   refine ⟨?_, hbz⟩
   congr 1
   rw [find5, findN_at (fnames m) s 0 k htk (by unfold fnames; rw [List.getElem?_map, hx5]; simpa using hc6p), Nat.zero_add]
  have hc6p : ¬ (x5.name = s) := by simpa using hc6
  refine W.skip (N.blk (N.seq (W.region (WL.move rfl rfl rfl ?_))))
  refine WL.add (c := (k : Int) + 1) rfl rfl rfl rfl (rfl) (by omega) ?_
  refine WL.assign rfl rfl rfl (WL.nil ?_)
  have htk2 : ∀ j, j < k + 1 → (fnames m)[j]? ≠ some s := fun j hj => by
   by_cases e : j = k
   ·
    subst e; unfold fnames; rw [List.getElem?_map, hx5]; simpa using hc6p
   exact htk j (by omega)
  exact N.loop (k + 1) ⟨rfl, rfl, rfl, trivial⟩ ⟨hS, by omega, htk2⟩ (by first | omega | (simp only; omega))
 have hc4p : ¬ ((k : Int) < (m.funcs.length : Int)) := by simpa using hc4
 refine W.exit (X.seq (X.loop (X.blk (N.seq (W.seq (W.region (WL.assign rfl rfl rfl (WL.nil (N.seq ?_)))))))))
 refine Fin.ret1 rfl (v := .int .i64 (-1)) rfl ?_
 have hbz := hS.below
 clear hS
 refine ⟨?_, hbz⟩
 congr 1
 rw [find5, findN_no (fnames m) s 0 (fun j hj => htk j (by unfold fnames at hj; rw [List.length_map] at hj; omega))]

theorem findgnames_ret (m : DMod) (cm : List Value) (s : ByteArray) {w : World} {ro : Nat → Prop} (hro : ∀ b, ro b → b < w.heap.size) (hx : ModC ro w cm m) : Ret Try.prog 48 #[.agg cm.toArray, .string s] w fun v w' => v = .int .i64 (find5 (gnames m) s) ∧ Below w.heap.size w w' := by
 obtain ⟨sf, sg, rfl, hfs, hgs⟩ := id hx
 obtain ⟨adf, capf, rfl, hfsa, hfsb, hfsc, hfsd⟩ := id hfs
 have hfsm : m.funcs.length ≤ 9223372036854775807 := by have h1 := hfsa; have h2 := hfsb; unfold maxLen at h2; omega
 obtain ⟨adg, capg, rfl, hgsa, hgsb, hgsc, hgsd⟩ := id hgs
 have hgsm : m.globs.length ≤ 9223372036854775807 := by have h1 := hgsa; have h2 := hgsb; unfold maxLen at h2; omega
 refine Ret.enter (P := Try.prog) (n := 22) (args := [.agg #[.slice adf m.funcs.length capf, .slice adg m.globs.length capg], .string s]) (σ := [(0, .agg #[.slice adf m.funcs.length capf, .slice adg m.globs.length capg]), (1, .string s)]) Try.func48 rfl rfl rfl rfl ?_
 have hS := St.start (ro := ro) hro
 refine W.seq (W.region ?_)
 refine WL.box (v := .agg #[.slice adf m.funcs.length capf, .slice adg m.globs.length capg]) (cs := [.slice adf m.funcs.length capf, .slice adg m.globs.length capg]) rfl rfl rfl rfl hS ?_
 clear hS; intro w2 b1 hb_b1 hS
 refine WL.assign rfl rfl rfl (WL.nil (N.seq (W.seq (W.seq (W.region (WL.assign rfl rfl rfl (WL.nil (N.seq (W.block ?_)))))))))
 refine W.loop (α := Nat) (fun (k : Nat) => [(1, .string s), (2, .pointer (some ⟨b1, 0, none⟩)), (5, .int .i64 (k : Int))]) (fun (k : Nat) u => St w w u ro [(b1, .cells #[.slice adf m.funcs.length capf, .slice adg m.globs.length capg] 46 (0, 0))] [] ∧ k ≤ m.globs.length ∧ ∀ j, j < k → (gnames m)[j]? ≠ some s) (fun (k : Nat) => m.globs.length - k) 0 ⟨rfl, rfl, rfl, trivial⟩ ⟨hS, Nat.zero_le _, fun j hj => by omega⟩ ?_
 clear hS
 rintro k w3 ⟨hS, hk, htk⟩
 refine W.seq (W.seq (W.region (WL.move rfl rfl rfl (WL.fieldAddr fo_46_1 rfl rfl rfl (WL.load1 (v := .slice adg m.globs.length capg) one_44 rfl rfl rfl (hS.cell 0 rfl rfl) (WL.lenSlice Try.underlying44 rfl rfl rfl (WL.bin rfl rfl rfl rfl rfl (WL.nil (N.seq ?_)))))))))
 refine W.cond rfl (fun hc4 => ?_) (fun hc4 => ?_)
 ·
  have hc4p : (k : Int) < (m.globs.length : Int) := by simpa using hc4
  refine W.skip (N.seq (W.seq (W.block (W.seq (W.region (WL.fieldAddr fo_46_1 rfl rfl rfl (WL.load1 (v := .slice adg m.globs.length capg) one_44 rfl rfl rfl (hS.cell 0 rfl rfl) (WL.move rfl rfl rfl ?_))))))))
  have hj5 : k < m.globs.length := by omega
  obtain ⟨x5, hx5⟩ : ∃ zz, m.globs[k]? = some zz := ⟨_, List.getElem?_eq_getElem hj5⟩
  obtain ⟨b5, o5, cs5, hE5, hr5, hl5, hc5, hQ5⟩ := hgsd k _ hx5
  obtain ⟨rfl, hgn5, hgb5, hgi5⟩ := hQ5
  refine WL.indexAddrE (j := k) Try.underlying44 isz_71 rfl rfl rfl rfl hj5 hE5 (WL.fieldAddr fo_71_0 rfl rfl rfl (WL.load1 (v := .string x5.name) one_9 rfl rfl rfl (hS.roCells hr5 hc5 0 _ rfl) (WL.move rfl rfl rfl (WL.eqStr rfl rfl rfl rfl (WL.nil (N.seq ?_))))))
  refine W.cond rfl (fun hc6 => ?_) (fun hc6 => ?_)
  ·
   have hc6p : x5.name = s := by simpa using hc6
   refine W.seq (W.region (WL.move rfl rfl rfl (WL.assign rfl rfl rfl (WL.nil (N.seq ?_)))))
   refine Fin.ret1 rfl (v := .int .i64 (k : Int)) rfl ?_
   have hbz := hS.below
   clear hS
   refine ⟨?_, hbz⟩
   congr 1
   rw [find5, findN_at (gnames m) s 0 k htk (by unfold gnames; rw [List.getElem?_map, hx5]; simpa using hc6p), Nat.zero_add]
  have hc6p : ¬ (x5.name = s) := by simpa using hc6
  refine W.skip (N.blk (N.seq (W.region (WL.move rfl rfl rfl ?_))))
  refine WL.add (c := (k : Int) + 1) rfl rfl rfl rfl (rfl) (by omega) ?_
  refine WL.assign rfl rfl rfl (WL.nil ?_)
  have htk2 : ∀ j, j < k + 1 → (gnames m)[j]? ≠ some s := fun j hj => by
   by_cases e : j = k
   ·
    subst e; unfold gnames; rw [List.getElem?_map, hx5]; simpa using hc6p
   exact htk j (by omega)
  exact N.loop (k + 1) ⟨rfl, rfl, rfl, trivial⟩ ⟨hS, by omega, htk2⟩ (by first | omega | (simp only; omega))
 have hc4p : ¬ ((k : Int) < (m.globs.length : Int)) := by simpa using hc4
 refine W.exit (X.seq (X.loop (X.blk (N.seq (W.seq (W.region (WL.assign rfl rfl rfl (WL.nil (N.seq ?_)))))))))
 refine Fin.ret1 rfl (v := .int .i64 (-1)) rfl ?_
 have hbz := hS.below
 clear hS
 refine ⟨?_, hbz⟩
 congr 1
 rw [find5, findN_no (gnames m) s 0 (fun j hj => htk j (by unfold gnames at hj; rw [List.length_map] at hj; omega))]

end Go.Proofs.Ytdlcmhkfglckfaa
