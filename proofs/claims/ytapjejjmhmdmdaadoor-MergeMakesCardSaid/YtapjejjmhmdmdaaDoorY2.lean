/-
  A string of one byte, in the walks of these claims. No condition beyond those that each theorem states.
-/
import Derived.Test.YtapjejjmhmdmdaaDoorA29
import Derived.Test.YtapjejjmhmdmdaaDoorZ2
import Derived.Laws.IdiomStrings
import Derived.Test.YtapjejjmhmdmdaaDoorQ13
namespace Go.Proofs.YtapjejjmhmdmdaaDoor
open Go.RowKit
section
variable {P : Program} {n : Nat} {R : Exit → Act → World → Prop} {k : Kt} {σ : Env} {w : World} {ops : Array Oper} {rest : List Oper}
variable {d : Nat} {ty : TypeId} {pos : String} {af : Array Edge} {g : Option (Nat × Bool)}
theorem WL.strByte {src dst e : TypeId} {x : Operand} {b cap : Nat} {z : UInt8} (hs : P.underlying src = some (.slice e)) (he : P.underlying e = some (.int .u8)) (hdst : P.underlying dst = some .string)
    (hg : want ops σ g = some true) (hd : Nat.blt d n = true) (hx : ev σ x = some (.slice (some ⟨b, 0, none⟩) 1 cap)) (hc : CellsAt w b 0 [.int .u8 (z.toNat : Int)])
    (h : WL P n R ops rest k ((d, .string ⟨#[z]⟩) :: σ) w) : WL P n R ops (⟨some d, .convert src dst x, ty, pos, af, g⟩ :: rest) k σ w :=
  WL.valW (o := ⟨some d, .convert src dst x, ty, pos, af, g⟩) hg hd (fun c hk => by
    have h1 := run_convert_bytes_back (P := P) w src dst e ⟨b, 0, none⟩ cap [z] hs he hdst (fun j hj => by
      have hj0 : j = 0 := by simp at hj; omega
      subst hj0
      have h2 := hc 0 (.int .u8 (z.toNat : Int)) rfl
      rw [addN]
      simpa using h2)
    simp only [List.length_cons, List.length_nil, Nat.zero_add] at h1
    simp [execOp, hk.eval hx, h1]) h
end
/-- A figure's byte. -/
def fig10 (n : Nat) : UInt8 := UInt8.ofNat (48 + n)
theorem fig10_int {z : Int} (n : Nat) (hz : z = (n : Int)) (h : n < 10) : IntKind.u8.wrap (48 + IntKind.u8.wrap z) = ((fig10 n).toNat : Int) := by
  subst hz
  have h1 : (fig10 n).toNat = 48 + n := by unfold fig10; rw [UInt8.toNat_ofNat']; omega
  rw [h1]
  unfold IntKind.wrap
  simp only [IntKind.signed, IntKind.bits]
  have e1 : ((n : Int) % 2 ^ 8) = (n : Int) := Int.emod_eq_of_lt (by omega) (by omega)
  simp [e1]
  omega
end Go.Proofs.YtapjejjmhmdmdaaDoor

namespace Go.Proofs.YtapjejjmhmdmdaaDoor
open Go.RowKit
theorem zer_5 : tyZero Tryd.prog 5 = some [.int .u8 0] := by kernel_rfl
theorem dec_small {n : Nat} (h : n < 10) : (⟨(Lib.itoa (n : Int)).toArray⟩ : ByteArray) = ⟨#[fig10 n]⟩ := by
  rw [itoa_nat, Lib.decDigits, dif_pos h]; rfl
theorem dec_more {n : Nat} (h : ¬ n < 10) : (⟨(Lib.itoa (n : Int)).toArray⟩ : ByteArray) = (⟨(Lib.itoa ((n / 10 : Nat) : Int)).toArray⟩ : ByteArray) ++ ⟨#[fig10 (n % 10)]⟩ := by
  apply ByteArray.ext
  rw [ByteArray.data_append, itoa_nat, itoa_nat]
  conv => lhs; rw [Lib.decDigits, dif_neg h]
  simp [fig10]
theorem itoa_size (n : Nat) (hn : (n : Int) ≤ 9223372036854775807) : (⟨(Lib.itoa (n : Int)).toArray⟩ : ByteArray).size ≤ 21 := by
  have h := Lib.itoa_length_le (n : Int) (by omega) hn
  show (Lib.itoa (n : Int)).toArray.size ≤ _
  rw [List.size_toArray]; exact h

theorem fig_step (n : Nat) (hn : (n : Int) ≤ 9223372036854775807) (ih : ∀ k : Nat, k < n → ∀ {w : World} {ro : Nat → Prop} (hro : ∀ b, ro b → b < w.heap.size), Ret Tryd.prog 90 #[.int .i64 (k : Int)] w fun v w' => v = .string ⟨(Lib.itoa (k : Int)).toArray⟩ ∧ Below w.heap.size w w') {w : World} {ro : Nat → Prop} (hro : ∀ b, ro b → b < w.heap.size) : Ret Tryd.prog 90 #[.int .i64 (n : Int)] w fun v w' => v = .string ⟨(Lib.itoa (n : Int)).toArray⟩ ∧ Below w.heap.size w w' := by
 refine Ret.enter (P := Tryd.prog) (n := 20) (args := [.int .i64 (n : Int)]) (σ := [(0, .int .i64 (n : Int))]) Tryd.func90 rfl rfl rfl rfl ?_
 have hS := St.start (ro := ro) hro
 refine W.seq (W.region (WL.assign rfl rfl rfl (WL.nil (N.seq (W.seq (W.seq (W.region (WL.move rfl rfl rfl (WL.bin rfl rfl rfl rfl rfl ?_)))))))))
 refine WL.nil (N.seq ?_)
 refine W.cond rfl (fun hc1 => ?_) (fun hc1 => ?_)
 ·
  have hc1p : (n : Int) < 10 := by simpa using hc1
  refine W.seq (W.region (WL.move rfl rfl rfl ?_))
  refine WL.convInt (by rw [Tryd.underlying3]; rfl) Tryd.underlying5 rfl rfl rfl ?_
  refine WL.bin rfl rfl rfl rfl rfl ?_
  refine WL.set 7 (v' := .int .u8 ((fig10 n).toNat : Int)) rfl (congrArg (Value.int .u8) (fig10_int n rfl (by omega))) ?_
  refine WL.buildSlice (ps := [(0, .int .u8 ((fig10 n).toNat : Int))]) (cs := [.int .u8 ((fig10 n).toNat : Int)]) Tryd.underlying149 (tyZero_spec zer_5) rfl rfl rfl rfl (by kernel_rfl) hS ?_
  clear hS; intro w3 b2 hb_b2 hS
  refine WL.strByte Tryd.underlying149 Tryd.underlying5 Tryd.underlying9 rfl rfl rfl (hS.cells 0 (m := 1) rfl rfl) ?_
  refine WL.assign rfl rfl rfl (WL.nil (N.seq ?_))
  refine Fin.ret1 rfl (v := .string ⟨#[fig10 n]⟩) rfl ?_
  exact ⟨by rw [dec_small (by omega)], hS.below⟩
 have hc1p : ¬ ((n : Int) < 10) := by simpa using hc1
 refine W.skip (N.seq (W.seq ?_))
 have hnl : ¬ n < 10 := by omega
 have hqo : IntKind.i64.wrap ((n : Int).tdiv 10) = ((n / 10 : Nat) : Int) := by rw [Int.tdiv_eq_ediv_of_nonneg (by omega)]; exact wrap64 ⟨by omega, by omega⟩
 have hrm0 : (n : Int).tmod 10 = ((n % 10 : Nat) : Int) := by rw [Int.tmod_eq_emod_of_nonneg (by omega)]; rfl
 have hrm : ((n % 10 : Nat) : Int) = ((n % 10 : Nat) : Int) := rfl
 refine W.drawA0 (S := fun u => True) (by kernel_rfl) (fun w4 hbd => ?_)
 replace hS := hS.grow hbd
 refine WA.conv (fuel' := 11 + 0) (listed' := #[false, false, false, false, false, false, false, false, false, false, false]) (by kernel_rfl) (by kernel_rfl) (WA.phaseI [(0, (fun v _ => v = .int .i64 (n : Int))), (1, (fun v _ => v = .int .i64 ((n / 10 : Nat) : Int))), (2, (fun v _ => v = .string ⟨(Lib.itoa ((n / 10 : Nat) : Int)).toArray⟩)), (3, (fun v _ => v = .int .i64 (n : Int))), (4, (fun v _ => v = .int .i64 ((n % 10 : Nat) : Int))), (5, (fun v _ => v = .int .u8 (IntKind.u8.wrap ((n % 10 : Nat) : Int)))), (6, (fun v _ => v = .int .u8 ((fig10 (n % 10)).toNat : Int))), (7, (fun v u => ∃ b, v = .slice (some ⟨b, 0, none⟩) 1 1 ∧ u.heap[b]? = some (.cells [.int .u8 ((fig10 (n % 10)).toNat : Int)].toArray 5 (0, 0)))), (8, (fun v _ => v = .string ⟨#[fig10 (n % 10)]⟩)), (9, (fun v _ => v = .string ⟨(Lib.itoa (n : Int)).toArray⟩)), (10, (fun v _ => v = .string ⟨(Lib.itoa (n : Int)).toArray⟩))] (by kernel_rfl) [(0, .int .i64 (n : Int))] ⟨rfl, trivial⟩ (by kernel_rfl) ⟨stays_eq, stays_eq, stays_eq, stays_eq, stays_eq, stays_eq, stays_eq, (fun v u u2 h hb => h.elim fun b h => ⟨b, h.1, (hb.block b (Array.getElem?_eq_some_iff.1 h.2).1).trans h.2⟩), stays_eq, stays_eq, stays_eq, trivial⟩ ?_ (fun _ _ => trivial) ?_)
 ·
  refine ⟨fun β wd hb hD => ⟨_, rfl, ?_⟩, ?_⟩
  ·
   refine WL.sub (σ' := [(0, .int .i64 (n : Int))]) ⟨rfl, trivial⟩ ?_
   have hS := hS.grow hb
   refine WL.move rfl rfl rfl ?_
   exact WL.nil (N.cut (.int .i64 (n : Int)) ⟨rfl, trivial⟩ ⟨(Below.refl _ _), rfl⟩)
  refine ⟨fun β wd hb hD => ⟨_, rfl, ?_⟩, ?_⟩
  ·
   obtain ⟨hp0, _⟩ := hD
   replace hp0 : β 0 = .int .i64 (n : Int) := hp0
   refine WL.sub (σ' := [(10, .int .i64 (n : Int))]) ⟨congrArg some hp0, trivial⟩ ?_
   have hS := hS.grow hb
   refine WL.quoC rfl rfl rfl rfl (by decide) ?_
   refine WL.set 11 (v' := .int .i64 ((n / 10 : Nat) : Int)) rfl (congrArg _ (hqo)) ?_
   exact WL.nil (N.cut (.int .i64 ((n / 10 : Nat) : Int)) ⟨rfl, trivial⟩ ⟨(Below.refl _ _), rfl⟩)
  refine ⟨fun β wd hb hD => ⟨_, rfl, ?_⟩, ?_⟩
  ·
   obtain ⟨hp1, _⟩ := hD
   replace hp1 : β 1 = .int .i64 ((n / 10 : Nat) : Int) := hp1
   refine WL.sub (σ' := [(11, .int .i64 ((n / 10 : Nat) : Int))]) ⟨congrArg some hp1, trivial⟩ ?_
   have hS := hS.grow hb
   refine WL.callF (vs := [.int .i64 ((n / 10 : Nat) : Int)]) Tryd.func90 (by kernel_rfl) rfl rfl rfl (ih (n / 10) (by omega) (ro := ro) (fun b hb => (hS.snap b hb).1)) ?_
   rintro v w5 ⟨rfl, hbl⟩
   replace hS := hS.grow hbl
   exact WL.nil (N.cut (.string ⟨(Lib.itoa ((n / 10 : Nat) : Int)).toArray⟩) ⟨rfl, trivial⟩ ⟨hbl, rfl⟩)
  refine ⟨fun β wd hb hD => ⟨_, rfl, ?_⟩, ?_⟩
  ·
   refine WL.sub (σ' := [(0, .int .i64 (n : Int))]) ⟨rfl, trivial⟩ ?_
   have hS := hS.grow hb
   refine WL.move rfl rfl rfl ?_
   exact WL.nil (N.cut (.int .i64 (n : Int)) ⟨rfl, trivial⟩ ⟨(Below.refl _ _), rfl⟩)
  refine ⟨fun β wd hb hD => ⟨_, rfl, ?_⟩, ?_⟩
  ·
   obtain ⟨hp3, _⟩ := hD
   replace hp3 : β 3 = .int .i64 (n : Int) := hp3
   refine WL.sub (σ' := [(13, .int .i64 (n : Int))]) ⟨congrArg some hp3, trivial⟩ ?_
   have hS := hS.grow hb
   refine WL.remC rfl rfl rfl rfl (by decide) ?_
   refine WL.set 14 (v' := .int .i64 ((n % 10 : Nat) : Int)) rfl (congrArg _ hrm0) ?_
   exact WL.nil (N.cut (.int .i64 ((n % 10 : Nat) : Int)) ⟨rfl, trivial⟩ ⟨(Below.refl _ _), rfl⟩)
  refine ⟨fun β wd hb hD => ⟨_, rfl, ?_⟩, ?_⟩
  ·
   obtain ⟨hp4, _⟩ := hD
   replace hp4 : β 4 = .int .i64 ((n % 10 : Nat) : Int) := hp4
   refine WL.sub (σ' := [(14, .int .i64 ((n % 10 : Nat) : Int))]) ⟨congrArg some hp4, trivial⟩ ?_
   have hS := hS.grow hb
   refine WL.convInt (by rw [Tryd.underlying3]; rfl) Tryd.underlying5 rfl rfl rfl ?_
   exact WL.nil (N.cut (.int .u8 (IntKind.u8.wrap ((n % 10 : Nat) : Int))) ⟨rfl, trivial⟩ ⟨(Below.refl _ _), rfl⟩)
  refine ⟨fun β wd hb hD => ⟨_, rfl, ?_⟩, ?_⟩
  ·
   obtain ⟨hp5, _⟩ := hD
   replace hp5 : β 5 = .int .u8 (IntKind.u8.wrap ((n % 10 : Nat) : Int)) := hp5
   refine WL.sub (σ' := [(15, .int .u8 (IntKind.u8.wrap ((n % 10 : Nat) : Int)))]) ⟨congrArg some hp5, trivial⟩ ?_
   have hS := hS.grow hb
   refine WL.bin rfl rfl rfl rfl rfl ?_
   refine WL.set 16 (v' := .int .u8 ((fig10 (n % 10)).toNat : Int)) rfl (congrArg (Value.int .u8) (fig10_int (n % 10) (by rw [hrm]) (by omega))) ?_
   exact WL.nil (N.cut (.int .u8 ((fig10 (n % 10)).toNat : Int)) ⟨rfl, trivial⟩ ⟨(Below.refl _ _), rfl⟩)
  refine ⟨fun β wd hb hD => ⟨_, rfl, ?_⟩, ?_⟩
  ·
   obtain ⟨hp6, _⟩ := hD
   replace hp6 : β 6 = .int .u8 ((fig10 (n % 10)).toNat : Int) := hp6
   refine WL.sub (σ' := [(16, .int .u8 ((fig10 (n % 10)).toNat : Int))]) ⟨congrArg some hp6, trivial⟩ ?_
   have hS := hS.grow hb
   have hX := St.start (w := wd) (ro := fun z => z < wd.heap.size) (fun _ h => h)
   refine WL.buildSlice (ps := [(0, .int .u8 ((fig10 (n % 10)).toNat : Int))]) (cs := [.int .u8 ((fig10 (n % 10)).toNat : Int)]) Tryd.underlying149 (tyZero_spec zer_5) rfl rfl rfl rfl (by kernel_rfl) hX ?_
   clear hX; intro w7 b6 hb_b6 hX
   exact WL.nil (N.cut (.slice (some ⟨b6, 0, none⟩) 1 1) ⟨rfl, trivial⟩ ⟨hX.below, ⟨_, rfl, hX.own _ List.mem_cons_self⟩⟩)
  refine ⟨fun β wd hb hD => ⟨_, rfl, ?_⟩, ?_⟩
  ·
   obtain ⟨hp7, _⟩ := hD
   replace hp7 : (fun v u => ∃ b, v = .slice (some ⟨b, 0, none⟩) 1 1 ∧ u.heap[b]? = some (.cells [.int .u8 ((fig10 (n % 10)).toNat : Int)].toArray 5 (0, 0))) (β 7) wd := hp7
   refine WL.sub (σ' := [(17, (β 7))]) ⟨rfl, trivial⟩ ?_
   have hS := hS.grow hb
   generalize β 7 = z7 at hp7 ⊢
   obtain ⟨bq, rfl, hbq⟩ := hp7
   refine WL.strByte Tryd.underlying149 Tryd.underlying5 Tryd.underlying9 rfl rfl rfl (cellsAt_block hbq) ?_
   exact WL.nil (N.cut (.string ⟨#[fig10 (n % 10)]⟩) ⟨rfl, trivial⟩ ⟨(Below.refl _ _), rfl⟩)
  refine ⟨fun β wd hb hD => ⟨_, rfl, ?_⟩, ?_⟩
  ·
   obtain ⟨hp2, hp8, _⟩ := hD
   replace hp2 : β 2 = .string ⟨(Lib.itoa ((n / 10 : Nat) : Int)).toArray⟩ := hp2
   replace hp8 : β 8 = .string ⟨#[fig10 (n % 10)]⟩ := hp8
   refine WL.sub (σ' := [(12, .string ⟨(Lib.itoa ((n / 10 : Nat) : Int)).toArray⟩), (18, .string ⟨#[fig10 (n % 10)]⟩)]) ⟨congrArg some hp2, congrArg some hp8, trivial⟩ ?_
   have hS := hS.grow hb
   refine WL.addStr rfl rfl rfl rfl (by have h1 := itoa_size (n / 10) (by omega); have h2 : (⟨#[fig10 (n % 10)]⟩ : ByteArray).size = 1 := rfl; omega) ?_
   refine WL.set 19 (v' := .string ⟨(Lib.itoa (n : Int)).toArray⟩) rfl (congrArg Value.string (dec_more hnl).symm) ?_
   exact WL.nil (N.cut (.string ⟨(Lib.itoa (n : Int)).toArray⟩) ⟨rfl, trivial⟩ ⟨(Below.refl _ _), rfl⟩)
  refine ⟨fun β wd hb hD => ⟨_, rfl, ?_⟩, ?_⟩
  ·
   obtain ⟨hp9, _, _, _, _, _, _, _, _, _, _, _, _⟩ := hD
   replace hp9 : β 9 = .string ⟨(Lib.itoa (n : Int)).toArray⟩ := hp9
   refine WL.sub (σ' := [(19, .string ⟨(Lib.itoa (n : Int)).toArray⟩)]) ⟨congrArg some hp9, trivial⟩ ?_
   have hS := hS.grow hb
   refine WL.assign rfl rfl rfl ?_
   exact WL.nil (N.cut (.string ⟨(Lib.itoa (n : Int)).toArray⟩) ⟨rfl, trivial⟩ ⟨(Below.refl _ _), rfl⟩)
  trivial
 intro β w8 hb hD
 obtain ⟨hp0, hp1, hp2, hp3, hp4, hp5, hp6, hp7, hp8, hp9, hp10, _⟩ := hD
 refine WA.sub (σ' := [(2, .string ⟨(Lib.itoa (n : Int)).toArray⟩)]) ⟨congrArg some (show β 10 = .string ⟨(Lib.itoa (n : Int)).toArray⟩ from hp10), trivial⟩ ?_
 have hSd := hS
 replace hS := hS.grow hb
 replace hp7 : (fun v u => ∃ b, v = .slice (some ⟨b, 0, none⟩) 1 1 ∧ u.heap[b]? = some (.cells [.int .u8 ((fig10 (n % 10)).toNat : Int)].toArray 5 (0, 0))) (β 7) w8 := hp7
 generalize β 7 = z7 at hp7 ⊢
 refine WA.doneN (by kernel_rfl) ?_
 refine N.seq ?_
 refine Fin.ret1 rfl (v := .string ⟨(Lib.itoa (n : Int)).toArray⟩) rfl ?_
 exact ⟨rfl, hS.below⟩

theorem fig_ret (n : Nat) : (n : Int) ≤ 9223372036854775807 → ∀ {w : World} {ro : Nat → Prop} (hro : ∀ b, ro b → b < w.heap.size), Ret Tryd.prog 90 #[.int .i64 (n : Int)] w fun v w' => v = .string ⟨(Lib.itoa (n : Int)).toArray⟩ ∧ Below w.heap.size w w' := by
  induction n using Nat.strongRecOn with
  | _ k ih => exact fun hk {w} {ro} hro => fig_step k hk (fun k1 h => ih k1 h (by omega)) hro

end Go.Proofs.YtapjejjmhmdmdaaDoor

namespace Go.Proofs.YtapjejjmhmdmdaaDoor
open Go.RowKit

theorem has8_ret (xs : List ByteArray) (t : ByteArray) (vx : Value) {w : World} {ro : Nat → Prop} (hro : ∀ b, ro b → b < w.heap.size) (hx : SlV ro w 1 StrC vx xs) : Ret Tryd.prog 35 #[vx, .string t] w fun v w' => v = .bool (decide (t ∈ xs)) ∧ Below w.heap.size w w' := by
 obtain ⟨ad, cap, rfl, haa, hab, hac, had⟩ := id hx
 have ham : xs.length ≤ 9223372036854775807 := by have h1 := haa; have h2 := hab; unfold maxLen at h2; omega
 refine Ret.enter (P := Tryd.prog) (n := 18) (args := [.slice ad xs.length cap, .string t]) (σ := [(0, .slice ad xs.length cap), (1, .string t)]) Tryd.func35 rfl rfl rfl rfl ?_
 have hS := St.start (ro := ro) hro
 refine W.seq (W.region (WL.assign rfl rfl rfl (WL.nil (N.seq (W.seq (W.seq (W.region (WL.assign rfl rfl rfl (WL.nil ?_)))))))))
 refine N.seq (W.block ?_)
 refine W.loop (α := Nat) (fun (k : Nat) => [(0, .slice ad xs.length cap), (1, .string t), (5, .int .i64 (k : Int))]) (fun (k : Nat) u => St w w u ro [] [] ∧ k ≤ xs.length ∧ ¬ t ∈ xs.take k) (fun (k : Nat) => xs.length - k) 0 ⟨rfl, rfl, rfl, trivial⟩ ⟨hS, Nat.zero_le _, by simp⟩ ?_
 clear hS
 rintro k w1 ⟨hS, hk, hnt⟩
 refine W.seq (W.seq (W.region (WL.move rfl rfl rfl (WL.move rfl rfl rfl (WL.lenSlice Tryd.underlying25 rfl rfl rfl (WL.bin rfl rfl rfl rfl rfl (WL.nil (N.seq ?_))))))))
 refine W.cond rfl (fun hc2 => ?_) (fun hc2 => ?_)
 ·
  have hc2p : (k : Int) < (xs.length : Int) := by simpa using hc2
  refine W.skip (N.seq (W.seq (W.block (W.seq (W.region (WL.move rfl rfl rfl (WL.move rfl rfl rfl ?_)))))))
  have hj3 : k < xs.length := by omega
  obtain ⟨x3, hx3⟩ : ∃ zz, xs[k]? = some zz := ⟨_, List.getElem?_eq_getElem hj3⟩
  obtain ⟨b3, o3, cs3, hE3, hr3, hl3, hc3, hQ3⟩ := had k _ hx3
  obtain ⟨rfl, hsz3⟩ := hQ3
  refine WL.indexAddrE (j := k) Tryd.underlying25 isz_9 rfl rfl rfl rfl hj3 hE3 (WL.load1 (v := .string x3) one_9 rfl rfl rfl (hS.roCells hr3 hc3 0 _ rfl) (WL.move rfl rfl rfl (WL.eqStr rfl rfl rfl rfl (WL.nil (N.seq ?_)))))
  refine W.cond rfl (fun hc4 => ?_) (fun hc4 => ?_)
  ·
   have hc4p : x3 = t := by simpa using hc4
   refine W.seq (W.region (WL.assign rfl rfl rfl (WL.nil (N.seq ?_))))
   refine Fin.ret1 rfl (v := .bool true) rfl ?_
   have hm : t ∈ xs := by rw [← hc4p]; exact List.mem_of_getElem? hx3
   exact ⟨by rw [decide_eq_true hm], hS.below⟩
  have hc4p : ¬ (x3 = t) := by simpa using hc4
  refine W.skip (N.blk (N.seq (W.region (WL.move rfl rfl rfl ?_))))
  refine WL.add (c := (k : Int) + 1) rfl rfl rfl rfl (rfl) (by omega) ?_
  refine WL.assign rfl rfl rfl (WL.nil ?_)
  have hnt2 : ¬ t ∈ xs.take (k + 1) := by rw [take_next hx3, List.mem_append, List.mem_singleton]; exact fun e => e.elim hnt fun e2 => hc4p e2.symm
  exact N.loop (k + 1) ⟨rfl, rfl, rfl, trivial⟩ ⟨hS, by omega, hnt2⟩ (by first | omega | (simp only; omega))
 have hc2p : ¬ ((k : Int) < (xs.length : Int)) := by simpa using hc2
 refine W.exit (X.seq (X.loop (X.blk (N.seq (W.seq (W.region (WL.assign rfl rfl rfl (WL.nil (N.seq ?_)))))))))
 refine Fin.ret1 rfl (v := .bool false) rfl ?_
 have e : k = xs.length := by omega
 rw [e, List.take_length] at hnt
 exact ⟨by rw [decide_eq_false hnt], hS.below⟩

theorem rlocal_ret (n : Nat) (xs : List ByteArray) (vx : Value) {w : World} {ro : Nat → Prop} (hro : ∀ b, ro b → b < w.heap.size) (hx : SlV ro w 1 StrC vx xs) (hn : n + xs.length ≤ 9223372036854775800) : Ret Tryd.prog 71 #[.int .i64 (n : Int), vx] w fun v w' => v = .tuple #[.string (dot10 (loc10 xs n)), .int .i64 ((loc10 xs n : Nat) + 1 : Int)] ∧ Below w.heap.size w w' := by
 have hxl : xs.length ≤ 9223372036854775807 := slv_len hx
 refine Ret.enter (P := Tryd.prog) (n := 23) (args := [.int .i64 (n : Int), vx]) (σ := [(0, .int .i64 (n : Int)), (1, vx)]) Tryd.func71 rfl rfl rfl rfl ?_
 have hS := St.start (ro := ro) hro
 refine W.seq (W.region (WL.assign rfl rfl rfl (WL.assign rfl rfl rfl (WL.nil (N.seq (W.seq (W.seq (W.region (WL.move rfl rfl rfl ?_)))))))))
 refine WL.bin rfl rfl rfl rfl rfl ?_
 refine WL.set 9 (v' := .bool false) rfl (congrArg Value.bool (show (decide ((n : Int) < 0)) = false from decide_eq_false (by omega))) ?_
 refine WL.nil (N.seq (W.condF rfl (W.skip (N.seq (W.block ?_)))))
 refine W.loop (α := Nat × Nat) (fun ⟨c, f⟩ => [(0, .int .i64 (c : Int)), (1, vx)]) (fun ⟨c, f⟩ u => St w w u ro [] [] ∧ locF xs f c = loc10 xs n ∧ c + f ≤ n + xs.length) (fun ⟨c, f⟩ => f) (n, xs.length) ⟨rfl, rfl, trivial⟩ ⟨hS, rfl, Nat.le_refl _⟩ ?_
 clear hS
 rintro ⟨c, f⟩ w1 ⟨hS, hlc, hcf⟩
 refine W.block (W.seq (W.region (WL.move rfl rfl rfl ?_)))
 refine WL.callF (vs := [.int .i64 (c : Int)]) Tryd.func90 (by kernel_rfl) rfl rfl rfl (fig_ret c (by omega) (ro := ro) (fun b hb => (hS.snap b hb).1)) ?_
 rintro v w2 ⟨rfl, hbl⟩
 replace hS := hS.grow hbl
 refine WL.addStr rfl rfl rfl rfl (dot10_size c (by omega)) ?_
 refine WL.set 12 (v' := .string (dot10 c)) rfl rfl ?_
 refine WL.assign rfl rfl rfl (WL.nil (N.seq (W.seq (W.region (WL.move rfl rfl rfl (WL.move rfl rfl rfl ?_))))))
 refine WL.callF (vs := [vx, .string (dot10 c)]) Tryd.func35 (by kernel_rfl) rfl rfl rfl (has8_ret xs (dot10 c) _ (ro := ro) (fun b hb => (hS.snap b hb).1) (SlV.keep hx hS.alike (fun _ _ q => q))) ?_
 rintro v w3 ⟨rfl, hbl⟩
 replace hS := hS.grow hbl
 refine WL.assign rfl rfl rfl (WL.nil (N.seq (W.seq (W.seq (W.region (WL.move rfl rfl rfl (WL.not rfl rfl rfl (WL.nil (N.seq ?_)))))))))
 refine W.cond rfl (fun hc4 => ?_) (fun hc4 => ?_)
 ·
  have hc4p : ¬ (dot10 c ∈ xs) := by simpa using hc4
  refine W.seq (W.region (WL.move rfl rfl rfl (WL.move rfl rfl rfl ?_)))
  refine WL.add (c := (c : Int) + 1) rfl rfl rfl rfl (rfl) (by omega) ?_
  refine WL.assign rfl rfl rfl (WL.assign rfl rfl rfl (WL.nil (N.seq ?_)))
  refine Fin.ret2 rfl (v := .string (dot10 c)) (v' := .int .i64 ((c : Int) + 1)) rfl rfl ?_
  have hni : ¬ dot10 c ∈ xs := by simpa using hc4p
  have e : loc10 xs n = c := by rw [← hlc]; cases f with | zero => rfl | succ f => rw [locF, if_neg hni]
  rw [e]
  exact ⟨rfl, hS.below⟩
 have hc4p : dot10 c ∈ xs := by simpa using hc4
 refine W.skip (N.seq (W.region (WL.move rfl rfl rfl ?_)))
 refine WL.add (c := (c : Int) + 1) rfl rfl rfl rfl (rfl) (by omega) ?_
 refine WL.assign rfl rfl rfl (WL.nil (N.blk ?_))
 have hin : dot10 c ∈ xs := by simpa using hc4p
 obtain ⟨f2, rfl⟩ : ∃ f2, f = f2 + 1 := by cases f with | zero => exact absurd hin (by have h := loc10_not xs n; rw [← hlc] at h; exact h) | succ f => exact ⟨f, rfl⟩
 rw [locF, if_pos hin] at hlc
 exact N.loop (c + 1, f2) ⟨rfl, rfl, trivial⟩ ⟨hS, hlc, by omega⟩ (by first | omega | (simp only; omega))

end Go.Proofs.YtapjejjmhmdmdaaDoor
