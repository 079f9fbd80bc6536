/-
  Contracts of layer 17 (gen). No condition beyond those that each theorem states.
-/
import Derived.Test.YtcmmhfknkldmcaaS11
import Derived.Test.YtcmmhfknkldmcaaA26
namespace Go.Proofs.Ytcmmhfknkldmcaa
open Go.RowKit
theorem isz_2 : (Try.prog.info? 2).map (·.size) = some 1 := by kernel_rfl
theorem one_2 : tyOne Try.prog 2 = true := by kernel_rfl
theorem siz_2 : tySize Try.prog 2 1 = true := by kernel_rfl
structure DOp where
  kind : Int
  rd : Int
  a : Int
  b : Int
  imm : Int
  deriving DecidableEq
def opL (x : DOp) : List Value := [.int .i64 x.kind, .int .i64 x.rd, .int .i64 x.a, .int .i64 x.b, .int .i64 x.imm]
def okOp (x : DOp) : Prop := inI x.kind ∧ inI x.rd ∧ inI x.a ∧ inI x.b ∧ inI x.imm
def OpC (cs : List Value) (x : DOp) : Prop := cs = opL x ∧ okOp x
theorem inK {x : Int} (h : -100000000 ≤ x ∧ x ≤ 100000000) : inI x := by unfold inI; omega
theorem okO {k rd a b i : Int} (h1 : inI k) (h2 : inI rd) (h3 : inI a) (h4 : inI b) (h5 : inI i) : okOp ⟨k, rd, a, b, i⟩ := ⟨h1, h2, h3, h4, h5⟩
def RawC (cs : List Value) (x : Int) : Prop := cs = [.int .i64 x]
def iCells (xs : List Int) : List Value := xs.map fun x => .int .i64 x
theorem flat1 (xs : List Int) : (xs.map fun x : Int => [Value.int .i64 x]).flatten = iCells xs := by
  unfold iCells
  induction xs with
  | nil => rfl
  | cons x l ih => rw [List.map_cons, List.flatten_cons, ih]; rfl
theorem iCells_raw (xs : List Int) : Chunks 1 RawC (iCells xs) xs := by
  have h := Chunks.flat (sz := 1) (Q := RawC) (f := fun x : Int => [Value.int .i64 x]) (fun _ => rfl) xs (fun _ _ => rfl)
  rwa [flat1] at h
theorem iCells_set {xs : List Int} {i : Nat} {v : Int} (h : i < xs.length) : (iCells xs).take (0 + i * 1) ++ [.int .i64 v] ++ (iCells xs).drop (0 + i * 1 + 1) = iCells (xs.set i v) := by
  unfold iCells
  rw [Nat.zero_add, Nat.mul_one]
  apply List.ext_getElem?
  intro j
  simp only [List.getElem?_append, List.length_append, List.length_take, List.length_map, List.length_cons, List.length_nil, List.getElem?_take, List.getElem?_drop, List.getElem?_map, List.getElem?_set]
  by_cases h1 : j < i
  · rw [if_pos (by omega), if_pos (by omega), if_pos h1, if_neg (by omega)]
  · by_cases h2 : j = i
    · subst h2
      rw [if_pos (by omega), if_neg (by omega), if_pos rfl, if_pos h]
      simp [show j - min j xs.length = 0 by omega]
    · rw [if_neg (by omega), if_neg (by omega)]
      congr 2; omega
def RevI (xs ys : List Int) (n i : Nat) : Prop := ys.length = n ∧ ∀ p, p < n → ys[p]? = if p < i ∨ n ≤ p + i then xs[n - 1 - p]? else xs[p]?
theorem revI_step {xs ys : List Int} {n i : Nat} {x y : Int} (h : RevI xs ys n i) (hi : i < n - 1 - i) (hx : ys[i]? = some x) (hy : ys[n - 1 - i]? = some y) : RevI xs ((ys.set i y).set (n - 1 - i) x) n (i + 1) := by
  obtain ⟨h1, h2⟩ := h
  refine ⟨by simpa using h1, fun p hp => ?_⟩
  rw [List.getElem?_set, List.getElem?_set]
  by_cases e1 : n - 1 - i = p
  · subst e1
    rw [if_pos rfl, if_pos (by simpa using (by omega : n - 1 - i < ys.length)), if_pos (by omega)]
    rw [h2 i (by omega), if_neg (by omega)] at hx
    rw [show n - 1 - (n - 1 - i) = i by omega]; exact hx.symm
  · rw [if_neg e1]
    by_cases e2 : i = p
    · subst e2
      rw [if_pos rfl, if_pos (by omega), if_pos (by omega)]
      rw [h2 _ (by omega), if_neg (by omega)] at hy
      exact hy.symm
    · rw [if_neg e2, h2 p hp]
      by_cases h3 : p < i ∨ n ≤ p + i
      · rw [if_pos h3, if_pos (by omega)]
      · rw [if_neg h3, if_neg (by omega)]
theorem revI_end {xs ys : List Int} {n i : Nat} (hn : xs.length = n) (h : RevI xs ys n i) (hi : ¬ (i : Int) < (n : Int) - 1 - (i : Int)) (hin : i ≤ n) : ys = xs.reverse := by
  obtain ⟨h1, h2⟩ := h
  apply List.ext_getElem?
  intro p
  by_cases hp : p < n
  · rw [h2 p hp, List.getElem?_reverse (by omega), hn]
    split
    · rfl
    · rw [show n - 1 - p = p by omega]
  · rw [List.getElem?_eq_none (by omega), List.getElem?_eq_none (by rw [List.length_reverse]; omega)]
def litD (k : Nat) : List Int := ((k % 2048 : Nat) : Int) :: if h : k / 2048 = 0 then [] else litD (k / 2048)
termination_by k
decreasing_by exact Nat.div_lt_self (by omega) (by decide)
def litS (r d : Int) : List DOp := ⟨17, r, r, 0, 11⟩ :: if d = 0 then [] else [⟨12, r, r, 0, d⟩]
def litE (r : Int) (l : List Int) : List DOp := ⟨12, r, 0, 0, l.getD 0 0⟩ :: (l.drop 1).flatMap (litS r)
def lit (r : Int) (k : Nat) : List DOp := litE r (litD k).reverse
theorem litD_last {k : Nat} (h : k / 2048 = 0) : litD k = [((k % 2048 : Nat) : Int)] := by rw [litD, dif_pos h]
theorem litD_more {k : Nat} (h : ¬ k / 2048 = 0) : litD k = ((k % 2048 : Nat) : Int) :: litD (k / 2048) := by rw [litD, dif_neg h]
theorem litD_pos (k : Nat) : 0 < (litD k).length := by rw [litD]; simp
theorem litLen {k n : Nat} (hk : k ≠ 0) (h : k * 2048 ^ n < 18446744073709551616) : n ≤ 5 := by
  apply Classical.byContradiction
  intro hn
  have h1 : 2048 ^ 6 ≤ 2048 ^ n := Nat.pow_le_pow_right (by decide) (by omega)
  have h2 : 1 * 2048 ^ n ≤ k * 2048 ^ n := Nat.mul_le_mul_right _ (by omega)
  have h3 : (2048 : Nat) ^ 6 = 73786976294838206464 := by decide
  omega
theorem litNext {k n : Nat} (h : k * 2048 ^ n < 18446744073709551616) : k / 2048 * 2048 ^ (n + 1) < 18446744073709551616 := by
  rw [Nat.pow_succ, Nat.mul_comm (2048 ^ n), ← Nat.mul_assoc]
  exact Nat.lt_of_le_of_lt (Nat.mul_le_mul_right _ (Nat.div_mul_le_self k 2048)) h
theorem and2047 {k : Nat} (h : k < 18446744073709551616) : IntKind.u64.wrap ((BitVec.ofInt IntKind.u64.bits (k : Int) &&& BitVec.ofInt IntKind.u64.bits 2047).toNat : Int) = ((k % 2048 : Nat) : Int) := by
  show IntKind.u64.wrap (((BitVec.ofInt 64 (k : Int) &&& BitVec.ofInt 64 2047 : BitVec 64).toNat : Nat) : Int) = _
  rw [show BitVec.ofInt 64 (k : Int) = BitVec.ofNat 64 k by simp, show BitVec.ofInt 64 2047 = BitVec.ofNat 64 2047 by decide, BitVec.toNat_and, BitVec.toNat_ofNat, BitVec.toNat_ofNat, Nat.mod_eq_of_lt (by exact h), show 2047 % 2 ^ 64 = 2 ^ 11 - 1 by decide, Nat.and_two_pow_sub_one_eq_mod]
  have : k % 2 ^ 11 < 2048 := Nat.mod_lt _ (by decide)
  simp only [IntKind.wrap, IntKind.signed, IntKind.bits]
  simp
  omega

set_option maxRecDepth 10000 in
set_option maxHeartbeats 4000000 in
theorem rev_ret {w0 ws w : World} {ro : Nat → Prop} {L : List (Nat × Obj)} {Rs : List Row} (g n cap : Nat) (xs : List Int) (hn : xs.length = n) (hn2 : n ≤ 1000) (hS : St w0 ws w ro L (⟨.slice (some ⟨g, 0, none⟩) n cap, 2, 1, n, iCells xs⟩ :: Rs)) : Ret Try.prog 16 #[.slice (some ⟨g, 0, none⟩) n cap] w fun v w' => v = .tuple #[] ∧ St w0 ws w' ro L (⟨.slice (some ⟨g, 0, none⟩) n cap, 2, 1, n, iCells xs.reverse⟩ :: Rs) := by
 refine Ret.enter (P := Try.prog) (n := 28) (args := [.slice (some ⟨g, 0, none⟩) n cap]) (σ := [(0, .slice (some ⟨g, 0, none⟩) n cap)]) Try.func16 rfl rfl rfl rfl ?_
 refine W.seq (W.region (WL.move rfl rfl rfl (WL.lenSlice Try.underlying46 rfl rfl rfl ?_)))
 refine WL.sub_ (c := (n : Int) - 1) rfl rfl rfl rfl (rfl) (by omega) ?_
 refine WL.assign rfl rfl rfl (WL.assign rfl rfl rfl (WL.nil (N.seq (W.block ?_))))
 refine W.set 3 (v' := .int .i64 ((n : Int) - 1 - ((0 : Nat) : Int))) rfl (congrArg _ (by omega)) ?_
 refine W.loop (α := Nat × List Int) (fun ⟨i, ys⟩ => [(0, .slice (some ⟨g, 0, none⟩) n cap), (2, .int .i64 (i : Int)), (3, .int .i64 ((n : Int) - 1 - (i : Int)))]) (fun ⟨i, ys⟩ u => St w0 ws u ro (L) (⟨.slice (some ⟨g, 0, none⟩) n cap, 2, 1, n, (iCells ys)⟩ :: Rs) ∧ i ≤ n ∧ RevI xs ys n i) (fun ⟨i, ys⟩ => n - i) (0, xs) ⟨rfl, rfl, rfl, trivial⟩ ⟨hS, Nat.zero_le _, ⟨hn, fun p hp => by rw [if_neg (by omega)]⟩⟩ ?_
 clear hS
 rintro ⟨i, ys⟩ w1 ⟨hS, hi, hri⟩
 refine W.seq (W.seq (W.region (WL.move rfl rfl rfl (WL.move rfl rfl rfl (WL.bin rfl rfl rfl rfl rfl (WL.nil (N.seq ?_)))))))
 refine W.cond rfl (fun hc2 => ?_) (fun hc2 => ?_)
 ·
  have hc2p : (i : Int) < (n : Int) - 1 - (i : Int) := by simpa using hc2
  refine W.skip (N.seq (W.seq (W.block ?_)))
  have hyl := hri.1
  have hj3 : i < ys.length := by omega
  obtain ⟨x3, hx3⟩ : ∃ zz, ys[i]? = some zz := ⟨_, List.getElem?_eq_getElem hj3⟩
  have hQ3 := (iCells_raw ys).2 i _ hx3
  generalize hk3 : ((iCells ys).drop (i * 1)).take 1 = c3 at hQ3
  cases hQ3
  have hj4 : n - 1 - i < ys.length := by omega
  obtain ⟨x4, hx4⟩ : ∃ zz, ys[n - 1 - i]? = some zz := ⟨_, List.getElem?_eq_getElem hj4⟩
  have hQ4 := (iCells_raw ys).2 (n - 1 - i) _ hx4
  generalize hk4 : ((iCells ys).drop ((n - 1 - i) * 1)).take 1 = c4 at hQ4
  cases hQ4
  refine W.drawA0 (S := fun u => True) (by kernel_rfl) (fun w5 hbd => ?_)
  replace hS := hS.grow hbd
  refine WA.conv (fuel' := 15 + 1) (listed' := (lb 16 0)) (by kernel_rfl) (by kernel_rfl) (WA.take 2 (v := .slice (some ⟨g, 0, none⟩) n cap) rfl rfl (by kernel_rfl) (by kernel_rfl) (by kernel_rfl) (fin_no_panic _) rfl (exec_move rfl) trivial ?_)
  refine WA.conv (fuel' := 14 + 1) (listed' := (lb 16 4)) (by kernel_rfl) (by kernel_rfl) (WA.take 3 (v := .int .i64 ((n : Int) - 1 - (i : Int))) rfl rfl (by kernel_rfl) (by kernel_rfl) (by kernel_rfl) (fin_no_panic _) rfl (exec_move rfl) trivial ?_)
  refine WA.conv (fuel' := ([(0, .slice (some ⟨g, 0, none⟩) n cap), (1, .int .i64 (i : Int)), (4, .slice (some ⟨g, 0, none⟩) n cap), (5, .int .i64 ((n : Int) - 1 - (i : Int))), (6, .pointer (some ⟨g, 0 + (n - 1 - i) * 1, none⟩)), (7, .int .i64 x4), (8, .slice (some ⟨g, 0, none⟩) n cap), (9, .int .i64 (i : Int)), (10, .pointer (some ⟨g, 0 + i * 1, none⟩)), (11, .int .i64 x3), (12, .pointer (some ⟨g, 0 + i * 1, none⟩))] : List (Nat × Value)).length + 3) (listed' := (lb 16 12)) (by kernel_rfl) (by kernel_rfl) (WA.quiet [(0, .slice (some ⟨g, 0, none⟩) n cap), (1, .int .i64 (i : Int)), (4, .slice (some ⟨g, 0, none⟩) n cap), (5, .int .i64 ((n : Int) - 1 - (i : Int))), (6, .pointer (some ⟨g, 0 + (n - 1 - i) * 1, none⟩)), (7, .int .i64 x4), (8, .slice (some ⟨g, 0, none⟩) n cap), (9, .int .i64 (i : Int)), (10, .pointer (some ⟨g, 0 + i * 1, none⟩)), (11, .int .i64 x3), (12, .pointer (some ⟨g, 0 + i * 1, none⟩))] (by kernel_rfl) [(0, .slice (some ⟨g, 0, none⟩) n cap), (2, .int .i64 (i : Int)), (3, .int .i64 ((n : Int) - 1 - (i : Int))), (16, .slice (some ⟨g, 0, none⟩) n cap), (17, .int .i64 ((n : Int) - 1 - (i : Int)))] ⟨rfl, rfl, rfl, rfl, rfl, trivial⟩ (by kernel_rfl) ?_ trivial ?_)
  ·
   refine ⟨⟨_, rfl, ?_⟩, ?_⟩
   ·
    refine WL.move rfl rfl rfl ?_
    exact WL.nil (N.cut () ⟨rfl, trivial⟩ rfl)
   refine ⟨⟨_, rfl, ?_⟩, ?_⟩
   ·
    refine WL.move rfl rfl rfl ?_
    exact WL.nil (N.cut () ⟨rfl, trivial⟩ rfl)
   refine ⟨⟨_, rfl, ?_⟩, ?_⟩
   ·
    refine WL.move rfl rfl rfl ?_
    exact WL.nil (N.cut () ⟨rfl, trivial⟩ rfl)
   refine ⟨⟨_, rfl, ?_⟩, ?_⟩
   ·
    refine WL.move rfl rfl rfl ?_
    exact WL.nil (N.cut () ⟨rfl, trivial⟩ rfl)
   refine ⟨⟨_, rfl, ?_⟩, ?_⟩
   ·
    refine WL.sub (σ' := [(18, .slice (some ⟨g, 0, none⟩) n cap), (19, .int .i64 ((n : Int) - 1 - (i : Int)))]) ⟨rfl, rfl, trivial⟩ ?_
    refine WL.set 19 (v' := .int .i64 ((n - 1 - i : Nat) : Int)) rfl (congrArg _ (by omega)) ?_
    refine WL.indexAddr (j := n - 1 - i) Try.underlying46 isz_2 rfl rfl rfl rfl (by omega) ?_
    exact WL.nil (N.cut () ⟨rfl, trivial⟩ rfl)
   refine ⟨⟨_, rfl, ?_⟩, ?_⟩
   ·
    refine WL.sub (σ' := [(20, .pointer (some ⟨g, 0 + (n - 1 - i) * 1, none⟩))]) ⟨rfl, trivial⟩ ?_
    refine WL.load1 (v := .int .i64 x4) one_2 rfl rfl rfl ((hS.rowCells 0 rfl hk4) 0 _ rfl) ?_
    exact WL.nil (N.cut () ⟨rfl, trivial⟩ rfl)
   refine ⟨⟨_, rfl, ?_⟩, ?_⟩
   ·
    refine WL.move rfl rfl rfl ?_
    exact WL.nil (N.cut () ⟨rfl, trivial⟩ rfl)
   refine ⟨⟨_, rfl, ?_⟩, ?_⟩
   ·
    refine WL.move rfl rfl rfl ?_
    exact WL.nil (N.cut () ⟨rfl, trivial⟩ rfl)
   refine ⟨⟨_, rfl, ?_⟩, ?_⟩
   ·
    refine WL.sub (σ' := [(22, .slice (some ⟨g, 0, none⟩) n cap), (23, .int .i64 (i : Int))]) ⟨rfl, rfl, trivial⟩ ?_
    refine WL.indexAddr (j := i) Try.underlying46 isz_2 rfl rfl rfl rfl (by omega) ?_
    exact WL.nil (N.cut () ⟨rfl, trivial⟩ rfl)
   refine ⟨⟨_, rfl, ?_⟩, ?_⟩
   ·
    refine WL.sub (σ' := [(24, .pointer (some ⟨g, 0 + i * 1, none⟩))]) ⟨rfl, trivial⟩ ?_
    refine WL.load1 (v := .int .i64 x3) one_2 rfl rfl rfl ((hS.rowCells 0 rfl hk3) 0 _ rfl) ?_
    exact WL.nil (N.cut () ⟨rfl, trivial⟩ rfl)
   refine ⟨⟨_, rfl, ?_⟩, ?_⟩
   ·
    refine WL.sub (σ' := [(14, .slice (some ⟨g, 0, none⟩) n cap), (15, .int .i64 (i : Int))]) ⟨rfl, rfl, trivial⟩ ?_
    refine WL.indexAddr (j := i) Try.underlying46 isz_2 rfl rfl rfl rfl (by omega) ?_
    exact WL.nil (N.cut () ⟨rfl, trivial⟩ rfl)
   trivial
  refine WA.sub (σ' := [(0, .slice (some ⟨g, 0, none⟩) n cap), (2, .int .i64 (i : Int)), (3, .int .i64 ((n : Int) - 1 - (i : Int))), (16, .slice (some ⟨g, 0, none⟩) n cap), (17, .int .i64 ((n : Int) - 1 - (i : Int))), (21, .int .i64 x4), (25, .int .i64 x3), (26, .pointer (some ⟨g, 0 + i * 1, none⟩))]) ⟨rfl, rfl, rfl, rfl, rfl, rfl, rfl, rfl, trivial⟩ ?_
  refine WA.conv (fuel' := 2 + 1) (listed' := (lb 16 8191)) (by kernel_rfl) (by kernel_rfl) (WA.stepS 13 (by kernel_rfl) rfl ?_)
  refine WL.storeRow (v := .int .i64 x4) (cs := [.int .i64 x4]) rfl rfl rfl rfl siz_2 rfl hS (by simp only [List.length_cons, List.length_nil]; omega) ?_
  clear hS; intro w6 hS
  replace hS : St w0 ws w6 ro (L) (⟨.slice (some ⟨g, 0, none⟩) n cap, 2, 1, n, (iCells (ys.set i x4))⟩ :: Rs) := by rw [← iCells_set (by first | omega | (rw [List.length_set]; omega))]; exact hS
  refine WL.nil (N.restS trivial ?_)
  refine WA.conv (fuel' := 1 + 1) (listed' := (lb 16 16383)) (by kernel_rfl) (by kernel_rfl) (WA.stepS 14 (by kernel_rfl) rfl ?_)
  refine WL.set 17 (v' := .int .i64 ((n - 1 - i : Nat) : Int)) rfl (congrArg _ (by omega)) ?_
  refine WL.indexAddr (j := n - 1 - i) Try.underlying46 isz_2 rfl rfl rfl rfl (by omega) ?_
  refine WL.nil (N.restS trivial ?_)
  refine WA.conv (fuel' := 0 + 1) (listed' := (lb 16 32767)) (by kernel_rfl) (by kernel_rfl) (WA.stepS 15 (by kernel_rfl) rfl ?_)
  refine WL.storeRow (v := .int .i64 x3) (cs := [.int .i64 x3]) rfl rfl rfl rfl siz_2 rfl hS (by simp only [List.length_cons, List.length_nil]; omega) ?_
  clear hS; intro w7 hS
  replace hS : St w0 ws w7 ro (L) (⟨.slice (some ⟨g, 0, none⟩) n cap, 2, 1, n, (iCells ((ys.set i x4).set (n - 1 - i) x3))⟩ :: Rs) := by rw [← iCells_set (by first | omega | (rw [List.length_set]; omega))]; exact hS
  refine WL.nil (N.restS trivial ?_)
  refine WA.doneN (by kernel_rfl) ?_
  refine N.blk (N.seq (W.region (WL.move rfl rfl rfl ?_)))
  refine WL.add (c := (i : Int) + 1) rfl rfl rfl rfl (rfl) (by omega) ?_
  refine WL.move rfl rfl rfl ?_
  refine WL.sub_ (c := (n : Int) - 1 - ((i + 1 : Nat) : Int)) rfl rfl rfl rfl (by omega) (by omega) ?_
  refine WL.assign rfl rfl rfl (WL.assign rfl rfl rfl (WL.nil ?_))
  exact N.loop (i + 1, (ys.set i x4).set (n - 1 - i) x3) ⟨rfl, rfl, rfl, trivial⟩ ⟨hS, by omega, revI_step hri (by omega) hx3 hx4⟩ (by first | omega | (simp only; omega))
 have hc2p : ¬ ((i : Int) < (n : Int) - 1 - (i : Int)) := by simpa using hc2
 refine W.exit (X.seq (X.loop (X.blk ?_)))
 refine Fin.end0 rfl ?_
 have e := revI_end hn hri (by omega) hi
 subst e
 exact ⟨rfl, hS⟩

end Go.Proofs.Ytcmmhfknkldmcaa
