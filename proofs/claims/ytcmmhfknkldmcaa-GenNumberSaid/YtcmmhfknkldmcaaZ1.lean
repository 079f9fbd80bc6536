/-
  Instructions of a number as words, and what they do to a register: plain law. No condition beyond those that each theorem states.
-/
import Derived.Test.YtcmmhfknkldmcaaG2
namespace Go.Proofs.Ytcmmhfknkldmcaa
open Go.RowKit
def f3L : List Nat := [0, 0, 0, 1, 3, 4, 5, 6, 7, 0, 5, 7, 0, 3, 4, 6, 7, 1, 5, 3, 4, 3, 0, 0, 1, 6, 7, 0, 0, 0, 0, 0]
def f3n (k : Nat) : Nat := f3L.getD k 0
def baseN (k : Nat) : Nat := (if 12 ≤ k then 19 else 51) + 4096 * f3n k + 33554432 * (if k = 2 then 32 else if 9 ≤ k ∧ k ≤ 11 then 1 else 0)
def wordN (k rd a b imm : Nat) : Nat := baseN k + rd * 128 + a * 32768 + (if k ≤ 11 then b * 1048576 else imm * 1048576)
theorem f3_le (k : Nat) : f3n k ≤ 7 := by
  unfold f3n
  have h : ∀ x ∈ f3L, x ≤ 7 := by decide
  rw [List.getD_eq_getElem?_getD]
  cases e : f3L[k]? with
  | none => simp
  | some x => exact h x (List.mem_of_getElem? e)
theorem f3_at {k : Nat} (h : k ≤ 31) : (f3L.map fun (x : Nat) => Value.int .u32 (x : Int))[k]? = some (.int .u32 (f3n k : Int)) := by
  have hl : k < f3L.length := by show k < 32; omega
  rw [List.getElem?_map, f3n, List.getD_eq_getElem?_getD, List.getElem?_eq_getElem hl]; rfl
theorem base_12 : baseN 12 = 19 := by decide
theorem base_17 : baseN 17 = 4115 := by decide
theorem base_low {k : Nat} (h : k ≤ 11) : baseN k % 128 = 51 ∧ baseN k ≤ 1073741824 + 33554432 + 28723 := by
  have h1 := f3_le k
  unfold baseN
  rw [if_neg (by omega)]
  split <;> (try split) <;> omega
theorem base_mid {k : Nat} (h : 13 ≤ k ∧ k ≤ 16) : baseN k ≠ 19 ∧ baseN k ≠ 4115 ∧ baseN k ≤ 28691 := by
  have : k = 13 ∨ k = 14 ∨ k = 15 ∨ k = 16 := by omega
  rcases this with rfl | rfl | rfl | rfl <;> decide
theorem word_lt {k rd a b imm : Nat} (hk : k ≤ 17) (h1 : rd ≤ 31) (h2 : a ≤ 31) (h3 : b ≤ 31) (h4 : imm ≤ 2047) : wordN k rd a b imm < 4294967296 := by
  have h5 := f3_le k
  unfold wordN baseN
  (repeat' split) <;> omega
/-- What is read of a word, for an instruction of a number. -/
theorem word_take {K rd a imm : Nat} (hK : K = 12 ∨ K = 17) (h1 : rd ≤ 31) (h2 : a ≤ 31) (h4 : imm ≤ 2047) :
    wordN K rd a 0 imm / 128 % 32 = rd ∧ wordN K rd a 0 imm / 32768 % 32 = a ∧ wordN K rd a 0 imm / 1048576 % 32 = imm % 32 ∧ wordN K rd a 0 imm / 1048576 % 4096 = imm := by
  unfold wordN
  rcases hK with rfl | rfl
  · rw [base_12, if_neg (by omega)]; omega
  · rw [base_17, if_neg (by omega)]; omega
theorem word_ne {K rd a imm k b : Nat} (hK : K = 12 ∨ K = 17) (hk : 1 ≤ k ∧ k < K) (hb : k ≤ 11 → b ≤ 31) : wordN k rd a b imm ≠ wordN K rd a 0 imm := by
  intro e
  by_cases hl : k ≤ 11
  · have h1 := base_low hl
    unfold wordN at e
    rw [if_pos hl] at e
    rcases hK with rfl | rfl
    · rw [base_12, if_neg (by omega)] at e; omega
    · rw [base_17, if_neg (by omega)] at e; omega
  · unfold wordN at e
    rw [if_neg hl, if_neg (by omega)] at e
    rcases hK with rfl | rfl
    · omega
    · rw [base_17] at e
      by_cases h12 : k = 12
      · subst h12; rw [base_12] at e; omega
      · have h1 := base_mid (k := k) (by omega); omega
/-- One instruction of a number, done: the register's value behind it. -/
def regN (v : Nat) (o : DOp) : Nat := if o.kind = 12 then ((if o.a = 0 then 0 else v) + o.imm.toNat) % 18446744073709551616 else v * 2048 % 18446744073709551616
structure NumOp (r : Int) (o : DOp) : Prop where
  k : o.kind = 12 ∨ o.kind = 17
  rd : o.rd = r
  a : o.a = 0 ∨ o.a = r
  b : o.b = 0
  i : 0 ≤ o.imm ∧ o.imm ≤ 2047
  s : o.kind = 17 → o.imm = 11 ∧ o.a = r
theorem litS_num {r d : Int} (hd : 0 ≤ d ∧ d < 2048) : ∀ o ∈ litS r d, NumOp r o := by
  unfold litS
  intro o ho
  rcases List.mem_cons.1 ho with rfl | ho
  · exact ⟨.inr rfl, rfl, .inr rfl, rfl, by simp, fun _ => ⟨rfl, rfl⟩⟩
  · split at ho
    · simp at ho
    · simp only [List.mem_cons, List.not_mem_nil, or_false] at ho
      subst ho
      exact ⟨.inl rfl, rfl, .inr rfl, rfl, by simp only; omega, fun h => by simp at h⟩
theorem lit_num (r : Int) (k : Nat) : ∀ o ∈ lit r k, NumOp r o := by
  have hin : ∀ x ∈ (litD k).reverse, 0 ≤ x ∧ x < 2048 := fun x hx => litD_in x (List.mem_reverse.1 hx)
  have hpos : 0 < (litD k).reverse.length := by rw [List.length_reverse]; exact litD_pos k
  unfold lit litE
  intro o ho
  rcases List.mem_cons.1 ho with rfl | ho
  · have h0 : (litD k).reverse.getD 0 0 ∈ (litD k).reverse := by
      rw [List.getD_eq_getElem?_getD, List.getElem?_eq_getElem hpos]; exact List.getElem_mem hpos
    have := hin _ h0
    exact ⟨.inl rfl, rfl, .inl rfl, rfl, by simp only; omega, fun h => by simp at h⟩
  · obtain ⟨d, hd, ho⟩ := List.mem_flatMap.1 ho
    exact litS_num (hin d (List.mem_of_mem_drop hd)) o ho
theorem litE_snoc {r d : Int} {E : List Int} (h : 0 < E.length) : litE r (E ++ [d]) = litE r E ++ litS r d := by
  cases E with
  | nil => simp at h
  | cons e E => unfold litE; simp [List.flatMap_append]
theorem lit_more {r : Int} {k : Nat} (h : ¬ k < 2048) : lit r k = lit r (k / 2048) ++ litS r ((k % 2048 : Nat) : Int) := by
  unfold lit
  rw [litD_more (by omega), List.reverse_cons, litE_snoc (by rw [List.length_reverse]; exact litD_pos _)]
theorem lit_one {r : Int} {k : Nat} (h : k < 2048) : lit r k = [⟨12, r, 0, 0, (k : Int)⟩] := by
  unfold lit
  rw [litD_last (by omega), show k % 2048 = k by omega]
  rfl
theorem reg_lit {r : Int} (hr : 1 ≤ r) (was k : Nat) (hk : k < 18446744073709551616) : (lit r k).foldl regN was = k := by
  induction k using Nat.strongRecOn with
  | _ k ih =>
    by_cases h : k < 2048
    · rw [lit_one h]
      simp only [List.foldl_cons, List.foldl_nil, regN, if_true]
      omega
    · rw [lit_more h, List.foldl_append, ih (k / 2048) (Nat.div_lt_self (by omega) (by decide)) (by omega)]
      unfold litS
      split
      · rename_i h0
        simp only [List.foldl_cons, List.foldl_nil, regN]
        rw [if_neg (by decide)]
        omega
      · simp only [List.foldl_cons, List.foldl_nil, regN]
        have e : (if r = 0 then 0 else k / 2048 * 2048 % 18446744073709551616) = k / 2048 * 2048 := by rw [if_neg (by omega)]; omega
        simp only [if_true, show ((17 : Int) = 12) = False by simp, if_false, e]
        omega
/-- A program's bytes. -/
def opWord (o : DOp) : Nat := wordN o.kind.toNat o.rd.toNat o.a.toNat 0 o.imm.toNat
def b8 (n : Nat) : UInt8 := UInt8.ofNat n
def wBytes (n : Nat) : List UInt8 := [b8 (n % 256), b8 (n / 256 % 256), b8 (n / 65536 % 256), b8 (n / 16777216)]
def opsBytes (l : List DOp) : List UInt8 := l.flatMap fun o => wBytes (opWord o)
theorem opsBytes_len (l : List DOp) : (opsBytes l).length = 4 * l.length := by
  induction l with
  | nil => rfl
  | cons o l ih => unfold opsBytes at *; rw [List.flatMap_cons, List.length_append, ih]; simp [wBytes]; omega
theorem opsBytes_at {l : List DOp} {i : Nat} {o : DOp} (h : l[i]? = some o) (j : Nat) (hj : j < 4) : (opsBytes l)[4 * i + j]? = (wBytes (opWord o))[j]? := by
  induction l generalizing i with
  | nil => simp at h
  | cons x l ih =>
    unfold opsBytes at *
    rw [List.flatMap_cons]
    cases i with
    | zero =>
      simp only [List.getElem?_cons_zero, Option.some.injEq] at h
      subst h
      rw [Nat.mul_zero, Nat.zero_add, List.getElem?_append_left (by simp [wBytes]; omega)]
    | succ i =>
      rw [List.getElem?_cons_succ] at h
      rw [List.getElem?_append_right (by simp [wBytes]; omega), show 4 * (i + 1) + j - (wBytes (opWord x)).length = 4 * i + j by simp [wBytes]; omega]
      exact ih h
end Go.Proofs.Ytcmmhfknkldmcaa
