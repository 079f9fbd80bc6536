/-
  Contracts of layer 17 (gen). No condition beyond those that each theorem states.
-/
import Derived.Test.YtcmmhfknkldmcaaM3
namespace Go.Proofs.Ytcmmhfknkldmcaa
open Go.RowKit

set_option maxRecDepth 10000 in
set_option maxHeartbeats 4000000 in
theorem same01_ret (xs ys : List DOp) (vx vy : Value) {w : World} {ro : Nat → Prop} (hro : ∀ b, ro b → b < w.heap.size) (hx : SlV ro w 5 OpC vx xs) (hy : SlV ro w 5 OpC vy ys) : Ret Try.prog 12 #[vx, vy] w fun v w' => v = .bool (decide (xs = ys)) ∧ Below w.heap.size w w' := by
 obtain ⟨ada, capa, rfl, hxa, hxb, hxc, hxd⟩ := id hx
 have hxm : xs.length ≤ 9223372036854775807 := by have h1 := hxa; have h2 := hxb; unfold maxLen at h2; omega
 obtain ⟨adb, capb, rfl, hya, hyb, hyc, hyd⟩ := id hy
 have hym : ys.length ≤ 9223372036854775807 := by have h1 := hya; have h2 := hyb; unfold maxLen at h2; omega
 refine Ret.enter (P := Try.prog) (n := 26) (args := [.slice ada xs.length capa, .slice adb ys.length capb]) (σ := [(0, .slice ada xs.length capa), (1, .slice adb ys.length capb)]) Try.func12 rfl rfl rfl rfl ?_
 have hS := St.start (ro := ro) hro
 have hsub : ∀ b, ro b → ro b ∨ w.heap.size ≤ b := fun _ h => .inl h
 have halT : Alike ro w ro w := Alike.refl
 refine W.seq ?_
 refine W.region ?_
 refine WL.assign rfl rfl rfl ?_
 refine WL.nil ?_
 refine N.seq ?_
 refine W.seq ?_
 refine W.seq ?_
 refine W.region ?_
 refine WL.move rfl rfl rfl ?_
 refine WL.lenSlice Try.underlying24 rfl rfl rfl ?_
 refine WL.move rfl rfl rfl ?_
 refine WL.lenSlice Try.underlying24 rfl rfl rfl ?_
 refine WL.bin rfl rfl rfl rfl rfl ?_
 refine WL.nil ?_
 refine N.seq ?_
 refine W.cond rfl (fun hc1 => ?_) (fun hc1 => ?_)
 ·
  have hc1p : ¬ ((xs.length : Int) = (ys.length : Int)) := by simpa using hc1
  refine W.seq ?_
  refine W.region ?_
  refine WL.assign rfl rfl rfl ?_
  refine WL.nil ?_
  refine N.seq ?_
  refine Fin.ret1 rfl (v := .bool false) rfl ?_
  have e : xs ≠ ys := by intro e; subst e; exact absurd hc1p (by simp)
  exact ⟨by rw [decide_eq_false e], hS.below⟩
 have hc1p : (xs.length : Int) = (ys.length : Int) := by simpa using hc1
 refine W.skip ?_
 refine N.seq ?_
 refine W.seq ?_
 refine W.seq ?_
 refine W.region ?_
 refine WL.assign rfl rfl rfl ?_
 refine WL.nil ?_
 refine N.seq ?_
 refine W.block ?_
 refine W.loop (α := Nat) (fun (i : Nat) => [(0, .slice ada xs.length capa), (1, .slice adb ys.length capb), (5, .int .i64 (i : Int)), (6, .slice ada xs.length capa), (7, .int .i64 (xs.length : Int)), (8, .slice adb ys.length capb), (9, .int .i64 (ys.length : Int)), (10, .bool (!decide ((xs.length : Int) = (ys.length : Int))))]) (fun (i : Nat) u => St w w u ro [] [] ∧ i ≤ xs.length ∧ xs.take i = ys.take i) (fun (i : Nat) => xs.length - i) 0 ⟨rfl, rfl, rfl, rfl, rfl, rfl, rfl, rfl, trivial⟩ ⟨hS, Nat.zero_le _, rfl⟩ ?_
 clear hS
 rintro i w2 ⟨hS, hil, htk⟩
 refine W.seq ?_
 refine W.seq ?_
 refine W.region ?_
 refine WL.move rfl rfl rfl ?_
 refine WL.move rfl rfl rfl ?_
 refine WL.lenSlice Try.underlying24 rfl rfl rfl ?_
 refine WL.bin rfl rfl rfl rfl rfl ?_
 refine WL.nil ?_
 refine N.seq ?_
 refine W.cond rfl (fun hc3 => ?_) (fun hc3 => ?_)
 ·
  have hc3p : (i : Int) < (xs.length : Int) := by simpa using hc3
  refine W.skip ?_
  refine N.seq ?_
  refine W.seq ?_
  refine W.block ?_
  refine W.seq ?_
  have hj4 : i < xs.length := by omega
  obtain ⟨x4, hx4⟩ : ∃ zz, xs[i]? = some zz := ⟨_, List.getElem?_eq_getElem hj4⟩
  obtain ⟨b4, o4, cs4, hE4, hr4, hl4, hc4, hQ4⟩ := hxd i _ hx4
  obtain ⟨rfl, hop4⟩ := hQ4
  have hj5 : i < ys.length := by omega
  obtain ⟨x5, hx5⟩ : ∃ zz, ys[i]? = some zz := ⟨_, List.getElem?_eq_getElem hj5⟩
  obtain ⟨b5, o5, cs5, hE5, hr5, hl5, hc5, hQ5⟩ := hyd i _ hx5
  obtain ⟨rfl, hop5⟩ := hQ5
  refine W.drawL (by kernel_rfl) 9 ((.q (.slice ada xs.length capa)) :: (.q (.int .i64 (i : Int))) :: (.q (.pointer (some ⟨b4, o4 + i * 5, none⟩))) :: (.q (.agg #[.int .i64 x4.kind, .int .i64 x4.rd, .int .i64 x4.a, .int .i64 x4.b, .int .i64 x4.imm])) :: (.q (.slice adb ys.length capb)) :: (.q (.int .i64 (i : Int))) :: (.q (.pointer (some ⟨b5, o5 + i * 5, none⟩))) :: (.q (.agg #[.int .i64 x5.kind, .int .i64 x5.rd, .int .i64 x5.a, .int .i64 x5.b, .int .i64 x5.imm])) :: (.q (.bool (!(decide (x4 = x5))))) :: []) (by kernel_rfl) (by kernel_rfl) [(0, .slice ada xs.length capa), (1, .slice adb ys.length capb), (5, .int .i64 (i : Int)), (6, .slice ada xs.length capa), (7, .int .i64 (xs.length : Int)), (8, .slice adb ys.length capb), (9, .int .i64 (ys.length : Int)), (10, .bool (!decide ((xs.length : Int) = (ys.length : Int)))), (11, .int .i64 (i : Int)), (12, .slice ada xs.length capa), (13, .int .i64 (xs.length : Int)), (14, .bool (decide ((i : Int) < (xs.length : Int))))] ⟨rfl, rfl, rfl, rfl, rfl, rfl, rfl, rfl, rfl, rfl, rfl, rfl, trivial⟩ (by kernel_rfl) hS ?_ ?_
  ·
   refine And.intro (fun β w hS => ?_) ?_
   ·
    refine WL.sub (σ' := [(0, .slice ada xs.length capa)]) ⟨rfl, trivial⟩ ?_
    refine WL.move rfl rfl rfl ?_
    exact WL.nil (N.cut () ⟨rfl, trivial⟩ (Below.refl _ _))
   refine And.intro (fun β w hS => ?_) ?_
   ·
    refine WL.sub (σ' := [(5, .int .i64 (i : Int))]) ⟨rfl, trivial⟩ ?_
    refine WL.move rfl rfl rfl ?_
    exact WL.nil (N.cut () ⟨rfl, trivial⟩ (Below.refl _ _))
   refine And.intro (fun β w hS => ?_) ?_
   ·
    refine WL.sub (σ' := [(17, .slice ada xs.length capa), (18, .int .i64 (i : Int))]) ⟨rfl, rfl, trivial⟩ ?_
    refine WL.indexAddrE (j := i) Try.underlying24 isz_45 rfl rfl rfl rfl hj4 hE4 ?_
    exact WL.nil (N.cut () ⟨rfl, trivial⟩ (Below.refl _ _))
   refine And.intro (fun β w hS => ?_) ?_
   ·
    refine WL.sub (σ' := [(19, .pointer (some ⟨b4, o4 + i * 5, none⟩))]) ⟨rfl, trivial⟩ ?_
    refine WL.loadN (cs := [.int .i64 x4.kind, .int .i64 x4.rd, .int .i64 x4.a, .int .i64 x4.b, .int .i64 x4.imm]) agg_45 rfl rfl rfl rfl (hS.roCells hr4 hc4) ?_
    exact WL.nil (N.cut () ⟨rfl, trivial⟩ (Below.refl _ _))
   refine And.intro (fun β w hS => ?_) ?_
   ·
    refine WL.sub (σ' := [(1, .slice adb ys.length capb)]) ⟨rfl, trivial⟩ ?_
    refine WL.move rfl rfl rfl ?_
    exact WL.nil (N.cut () ⟨rfl, trivial⟩ (Below.refl _ _))
   refine And.intro (fun β w hS => ?_) ?_
   ·
    refine WL.sub (σ' := [(5, .int .i64 (i : Int))]) ⟨rfl, trivial⟩ ?_
    refine WL.move rfl rfl rfl ?_
    exact WL.nil (N.cut () ⟨rfl, trivial⟩ (Below.refl _ _))
   refine And.intro (fun β w hS => ?_) ?_
   ·
    refine WL.sub (σ' := [(21, .slice adb ys.length capb), (22, .int .i64 (i : Int))]) ⟨rfl, rfl, trivial⟩ ?_
    refine WL.indexAddrE (j := i) Try.underlying24 isz_45 rfl rfl rfl rfl hj5 hE5 ?_
    exact WL.nil (N.cut () ⟨rfl, trivial⟩ (Below.refl _ _))
   refine And.intro (fun β w hS => ?_) ?_
   ·
    refine WL.sub (σ' := [(23, .pointer (some ⟨b5, o5 + i * 5, none⟩))]) ⟨rfl, trivial⟩ ?_
    refine WL.loadN (cs := [.int .i64 x5.kind, .int .i64 x5.rd, .int .i64 x5.a, .int .i64 x5.b, .int .i64 x5.imm]) agg_45 rfl rfl rfl rfl (hS.roCells hr5 hc5) ?_
    exact WL.nil (N.cut () ⟨rfl, trivial⟩ (Below.refl _ _))
   refine And.intro (fun β w hS => ?_) ?_
   ·
    refine WL.sub (σ' := [(20, .agg #[.int .i64 x4.kind, .int .i64 x4.rd, .int .i64 x4.a, .int .i64 x4.b, .int .i64 x4.imm]), (24, .agg #[.int .i64 x5.kind, .int .i64 x5.rd, .int .i64 x5.a, .int .i64 x5.b, .int .i64 x5.imm])]) ⟨rfl, rfl, trivial⟩ ?_
    refine WL.neAgg (decide (x4 = x5)) opFields Try.stoodInHeld45 Try.eqGuardType45 (eqOpT x4 x5) rfl rfl rfl rfl ?_
    exact WL.nil (N.cut () ⟨rfl, trivial⟩ (Below.refl _ _))
   trivial
  clear hS; intro w6 β hS
  refine WL.sub (σ' := [(0, .slice ada xs.length capa), (1, .slice adb ys.length capb), (5, .int .i64 (i : Int)), (6, .slice ada xs.length capa), (7, .int .i64 (xs.length : Int)), (8, .slice adb ys.length capb), (9, .int .i64 (ys.length : Int)), (10, .bool (!decide ((xs.length : Int) = (ys.length : Int)))), (11, .int .i64 (i : Int)), (12, .slice ada xs.length capa), (13, .int .i64 (xs.length : Int)), (14, .bool (decide ((i : Int) < (xs.length : Int)))), (17, .slice ada xs.length capa), (18, .int .i64 (i : Int)), (19, .pointer (some ⟨b4, o4 + i * 5, none⟩)), (20, .agg #[.int .i64 x4.kind, .int .i64 x4.rd, .int .i64 x4.a, .int .i64 x4.b, .int .i64 x4.imm]), (21, .slice adb ys.length capb), (22, .int .i64 (i : Int)), (23, .pointer (some ⟨b5, o5 + i * 5, none⟩)), (24, .agg #[.int .i64 x5.kind, .int .i64 x5.rd, .int .i64 x5.a, .int .i64 x5.b, .int .i64 x5.imm]), (25, .bool (!(decide (x4 = x5))))]) ⟨rfl, rfl, rfl, rfl, rfl, rfl, rfl, rfl, rfl, rfl, rfl, rfl, rfl, rfl, rfl, rfl, rfl, rfl, rfl, rfl, rfl, trivial⟩ ?_
  refine WL.nil ?_
  refine N.seq ?_
  refine W.cond rfl (fun hc7 => ?_) (fun hc7 => ?_)
  ·
   have hc7p : ¬ (x4 = x5) := by simpa using hc7
   refine W.seq ?_
   refine W.region ?_
   refine WL.assign rfl rfl rfl ?_
   refine WL.nil ?_
   refine N.seq ?_
   refine Fin.ret1 rfl (v := .bool false) rfl ?_
   have e : xs ≠ ys := by intro e; subst e; rw [hx4] at hx5; have h := hc7p; simp_all
   exact ⟨by rw [decide_eq_false e], hS.below⟩
  have hc7p : x4 = x5 := by simpa using hc7
  refine W.skip ?_
  refine N.blk ?_
  refine N.seq ?_
  refine W.region ?_
  refine WL.move rfl rfl rfl ?_
  refine WL.add (c := (i : Int) + 1) rfl rfl rfl rfl (rfl) (by omega) ?_
  refine WL.assign rfl rfl rfl ?_
  refine WL.nil ?_
  have hab : x4 = x5 := by simpa using hc7p
  exact N.loop (i + 1) ⟨rfl, rfl, rfl, rfl, rfl, rfl, rfl, rfl, trivial⟩ ⟨hS, by omega, by rw [take_next hx4, take_next hx5, htk, hab]⟩ (by first | omega | (simp only; omega))
 have hc3p : ¬ ((i : Int) < (xs.length : Int)) := by simpa using hc3
 refine W.exit ?_
 refine X.seq ?_
 refine X.loop ?_
 refine X.blk ?_
 refine N.seq ?_
 refine W.seq ?_
 refine W.region ?_
 refine WL.assign rfl rfl rfl ?_
 refine WL.nil ?_
 refine N.seq ?_
 refine Fin.ret1 rfl (v := .bool true) rfl ?_
 have e : xs = ys := by have h1 : xs.take i = xs := List.take_of_length_le (by omega); have h2 : ys.take i = ys := List.take_of_length_le (by omega); rw [← h1, htk, h2]
 exact ⟨by rw [decide_eq_true e], hS.below⟩

end Go.Proofs.Ytcmmhfknkldmcaa
