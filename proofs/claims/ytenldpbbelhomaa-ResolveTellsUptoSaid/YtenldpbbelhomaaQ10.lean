/-
  Contracts of layer 9 (resolve). No condition beyond those that each theorem states.
-/
import Derived.Test.YtenldpbbelhomaaA22
namespace Go.Proofs.Ytenldpbbelhomaa
open Go.RowKit

theorem defFields : Try.prog.underlying 29 = some (.struct (Try.prog.fieldsOf 29)) := by rw [Program.fieldsOf, Try.underlying29]
theorem eqDefT (x y : DDef) (w : World) : (Op.eqFields 9999 #[.string x.name, .int .i64 x.mod, .bool x.fn, .bool x.weak, .bool x.here] #[.string y.name, .int .i64 y.mod, .bool y.fn, .bool y.weak, .bool y.here] (Try.prog.fieldsOf 29).toList).run Try.prog w = .ok (decide (x = y)) w :=
  eqDef (by rw [Program.fieldsOf, Try.underlying29]) (by decide) (by decide) (by decide) (by decide) (by decide) rfl rfl rfl rfl rfl (by simp [Program.plainKey, Try.underlying9]) (by simp [Program.plainKey, Try.underlying3]) (by simp [Program.plainKey, Try.underlying4]) (by simp [Program.plainKey, Try.underlying4]) (by simp [Program.plainKey, Try.underlying4]) Try.underlying9 Try.underlying3 Try.underlying4 Try.underlying4 Try.underlying4 x y w
def isName (s : ByteArray) (d : DDef) : Bool := decide (d.name = s)

theorem sameDefs_ret (xs ys : List DDef) (vx vy : Value) {w : World} {ro : Nat → Prop} (hro : ∀ b, ro b → b < w.heap.size) (hx : SlV ro w 5 DefC vx xs) (hy : SlV ro w 5 DefC vy ys) : Ret Try.prog 17 #[vx, vy] w fun v w' => v = .bool (decide (xs = ys)) ∧ Below w.heap.size w w' := by
 obtain ⟨ad, cap, rfl, haa, hab, hac, had⟩ := id hx
 have ham : xs.length ≤ 9223372036854775807 := by have h1 := haa; have h2 := hab; unfold maxLen at h2; omega
 obtain ⟨bd, cbp, rfl, hba, hbb, hbc, hbd⟩ := id hy
 have hbm : ys.length ≤ 9223372036854775807 := by have h1 := hba; have h2 := hbb; unfold maxLen at h2; omega
 refine Ret.enter (P := Try.prog) (n := 26) (args := [.slice ad xs.length cap, .slice bd ys.length cbp]) (σ := [(0, .slice ad xs.length cap), (1, .slice bd ys.length cbp)]) Try.func17 rfl rfl rfl rfl ?_
 have hS := St.start (ro := ro) hro
 refine W.seq ?_
 refine W.region ?_
 refine WL.assign rfl rfl rfl ?_
 refine WL.nil ?_
 refine N.seq ?_
 refine W.seq ?_
 refine W.seq ?_
 refine W.region ?_
 refine WL.move rfl rfl rfl ?_
 refine WL.lenSlice Try.underlying24 rfl rfl rfl ?_
 refine WL.move rfl rfl rfl ?_
 refine WL.lenSlice Try.underlying24 rfl rfl rfl ?_
 refine WL.bin rfl rfl rfl rfl rfl ?_
 refine WL.nil ?_
 refine N.seq ?_
 refine W.cond rfl (fun hc1 => ?_) (fun hc1 => ?_)
 ·
  have hc1p : ¬ ((xs.length : Int) = (ys.length : Int)) := by simpa using hc1
  refine W.seq ?_
  refine W.region ?_
  refine WL.assign rfl rfl rfl ?_
  refine WL.nil ?_
  refine N.seq ?_
  refine Fin.ret1 rfl (v := .bool false) rfl ?_
  have hne : ¬ xs = ys := by intro e; rw [e] at hc1p; simp at hc1p
  exact ⟨by rw [decide_eq_false hne], hS.below⟩
 have hc1p : (xs.length : Int) = (ys.length : Int) := by simpa using hc1
 refine W.skip ?_
 refine N.seq ?_
 refine W.seq ?_
 refine W.seq ?_
 refine W.region ?_
 refine WL.assign rfl rfl rfl ?_
 refine WL.nil ?_
 refine N.seq ?_
 refine W.block ?_
 refine W.loop (α := Nat) (fun (k : Nat) => [(0, .slice ad xs.length cap), (1, .slice bd ys.length cbp), (5, .int .i64 (k : Int)), (6, .slice ad xs.length cap), (7, .int .i64 (xs.length : Int)), (8, .slice bd ys.length cbp), (9, .int .i64 (ys.length : Int)), (10, .bool (!decide ((xs.length : Int) = (ys.length : Int))))]) (fun (k : Nat) u => St w w u ro [] [] ∧ k ≤ xs.length ∧ xs.take k = ys.take k) (fun (k : Nat) => xs.length - k) 0 ⟨rfl, rfl, rfl, rfl, rfl, rfl, rfl, rfl, trivial⟩ ⟨hS, Nat.zero_le _, rfl⟩ ?_
 clear hS
 rintro k w2 ⟨hS, hk, htk⟩
 refine W.seq ?_
 refine W.seq ?_
 refine W.region ?_
 refine WL.move rfl rfl rfl ?_
 refine WL.move rfl rfl rfl ?_
 refine WL.lenSlice Try.underlying24 rfl rfl rfl ?_
 refine WL.bin rfl rfl rfl rfl rfl ?_
 refine WL.nil ?_
 refine N.seq ?_
 refine W.cond rfl (fun hc3 => ?_) (fun hc3 => ?_)
 ·
  have hc3p : (k : Int) < (xs.length : Int) := by simpa using hc3
  refine W.skip ?_
  refine N.seq ?_
  refine W.seq ?_
  refine W.block ?_
  refine W.seq ?_
  have hj4 : k < xs.length := by omega
  obtain ⟨x4, hx4⟩ : ∃ zz, xs[k]? = some zz := ⟨_, List.getElem?_eq_getElem hj4⟩
  obtain ⟨b4, o4, cs4, hE4, hr4, hl4, hc4, hQ4⟩ := had k _ hx4
  obtain ⟨rfl, hdn4, hdm4⟩ := hQ4
  have hj5 : k < ys.length := by omega
  obtain ⟨x5, hx5⟩ : ∃ zz, ys[k]? = some zz := ⟨_, List.getElem?_eq_getElem hj5⟩
  obtain ⟨b5, o5, cs5, hE5, hr5, hl5, hc5, hQ5⟩ := hbd k _ hx5
  obtain ⟨rfl, hdn5, hdm5⟩ := hQ5
  refine W.drawL (by kernel_rfl) 9 ((.q (.slice ad xs.length cap)) :: (.q (.int .i64 (k : Int))) :: (.q (.pointer (some ⟨b4, o4 + k * 5, none⟩))) :: (.q (.agg #[.string x4.name, .int .i64 x4.mod, .bool x4.fn, .bool x4.weak, .bool x4.here])) :: (.q (.slice bd ys.length cbp)) :: (.q (.int .i64 (k : Int))) :: (.q (.pointer (some ⟨b5, o5 + k * 5, none⟩))) :: (.q (.agg #[.string x5.name, .int .i64 x5.mod, .bool x5.fn, .bool x5.weak, .bool x5.here])) :: (.q (.bool (!decide (x4 = x5)))) :: []) (by kernel_rfl) (by kernel_rfl) [(0, .slice ad xs.length cap), (1, .slice bd ys.length cbp), (5, .int .i64 (k : Int)), (6, .slice ad xs.length cap), (7, .int .i64 (xs.length : Int)), (8, .slice bd ys.length cbp), (9, .int .i64 (ys.length : Int)), (10, .bool (!decide ((xs.length : Int) = (ys.length : Int)))), (11, .int .i64 (k : Int)), (12, .slice ad xs.length cap), (13, .int .i64 (xs.length : Int)), (14, .bool (decide ((k : Int) < (xs.length : Int))))] ⟨rfl, rfl, rfl, rfl, rfl, rfl, rfl, rfl, rfl, rfl, rfl, rfl, trivial⟩ (by kernel_rfl) hS ?_ ?_
  ·
   refine And.intro (fun β w hS => ?_) ?_
   ·
    refine WL.sub (σ' := [(0, .slice ad xs.length cap)]) ⟨rfl, trivial⟩ ?_
    refine WL.move rfl rfl rfl ?_
    exact WL.nil (N.cut () ⟨rfl, trivial⟩ (Below.refl _ _))
   refine And.intro (fun β w hS => ?_) ?_
   ·
    refine WL.sub (σ' := [(5, .int .i64 (k : Int))]) ⟨rfl, trivial⟩ ?_
    refine WL.move rfl rfl rfl ?_
    exact WL.nil (N.cut () ⟨rfl, trivial⟩ (Below.refl _ _))
   refine And.intro (fun β w hS => ?_) ?_
   ·
    refine WL.sub (σ' := [(17, .slice ad xs.length cap), (18, .int .i64 (k : Int))]) ⟨rfl, rfl, trivial⟩ ?_
    refine WL.indexAddrE (j := k) Try.underlying24 isz_29 rfl rfl rfl rfl hj4 hE4 ?_
    exact WL.nil (N.cut () ⟨rfl, trivial⟩ (Below.refl _ _))
   refine And.intro (fun β w hS => ?_) ?_
   ·
    refine WL.sub (σ' := [(19, .pointer (some ⟨b4, o4 + k * 5, none⟩))]) ⟨rfl, trivial⟩ ?_
    refine WL.loadN (cs := [.string x4.name, .int .i64 x4.mod, .bool x4.fn, .bool x4.weak, .bool x4.here]) agg_29 rfl rfl rfl rfl (hS.roCells hr4 hc4) ?_
    exact WL.nil (N.cut () ⟨rfl, trivial⟩ (Below.refl _ _))
   refine And.intro (fun β w hS => ?_) ?_
   ·
    refine WL.sub (σ' := [(1, .slice bd ys.length cbp)]) ⟨rfl, trivial⟩ ?_
    refine WL.move rfl rfl rfl ?_
    exact WL.nil (N.cut () ⟨rfl, trivial⟩ (Below.refl _ _))
   refine And.intro (fun β w hS => ?_) ?_
   ·
    refine WL.sub (σ' := [(5, .int .i64 (k : Int))]) ⟨rfl, trivial⟩ ?_
    refine WL.move rfl rfl rfl ?_
    exact WL.nil (N.cut () ⟨rfl, trivial⟩ (Below.refl _ _))
   refine And.intro (fun β w hS => ?_) ?_
   ·
    refine WL.sub (σ' := [(21, .slice bd ys.length cbp), (22, .int .i64 (k : Int))]) ⟨rfl, rfl, trivial⟩ ?_
    refine WL.indexAddrE (j := k) Try.underlying24 isz_29 rfl rfl rfl rfl hj5 hE5 ?_
    exact WL.nil (N.cut () ⟨rfl, trivial⟩ (Below.refl _ _))
   refine And.intro (fun β w hS => ?_) ?_
   ·
    refine WL.sub (σ' := [(23, .pointer (some ⟨b5, o5 + k * 5, none⟩))]) ⟨rfl, trivial⟩ ?_
    refine WL.loadN (cs := [.string x5.name, .int .i64 x5.mod, .bool x5.fn, .bool x5.weak, .bool x5.here]) agg_29 rfl rfl rfl rfl (hS.roCells hr5 hc5) ?_
    exact WL.nil (N.cut () ⟨rfl, trivial⟩ (Below.refl _ _))
   refine And.intro (fun β w hS => ?_) ?_
   ·
    refine WL.sub (σ' := [(20, .agg #[.string x4.name, .int .i64 x4.mod, .bool x4.fn, .bool x4.weak, .bool x4.here]), (24, .agg #[.string x5.name, .int .i64 x5.mod, .bool x5.fn, .bool x5.weak, .bool x5.here])]) ⟨rfl, rfl, trivial⟩ ?_
    refine WL.neAgg (decide (x4 = x5)) defFields Try.stoodInHeld29 Try.eqGuardType29 (eqDefT x4 x5) rfl rfl rfl rfl ?_
    exact WL.nil (N.cut () ⟨rfl, trivial⟩ (Below.refl _ _))
   trivial
  clear hS; intro w6 β hS
  refine WL.sub (σ' := [(0, .slice ad xs.length cap), (1, .slice bd ys.length cbp), (5, .int .i64 (k : Int)), (6, .slice ad xs.length cap), (7, .int .i64 (xs.length : Int)), (8, .slice bd ys.length cbp), (9, .int .i64 (ys.length : Int)), (10, .bool (!decide ((xs.length : Int) = (ys.length : Int)))), (11, .int .i64 (k : Int)), (12, .slice ad xs.length cap), (13, .int .i64 (xs.length : Int)), (14, .bool (decide ((k : Int) < (xs.length : Int)))), (17, .slice ad xs.length cap), (18, .int .i64 (k : Int)), (19, .pointer (some ⟨b4, o4 + k * 5, none⟩)), (20, .agg #[.string x4.name, .int .i64 x4.mod, .bool x4.fn, .bool x4.weak, .bool x4.here]), (21, .slice bd ys.length cbp), (22, .int .i64 (k : Int)), (23, .pointer (some ⟨b5, o5 + k * 5, none⟩)), (24, .agg #[.string x5.name, .int .i64 x5.mod, .bool x5.fn, .bool x5.weak, .bool x5.here]), (25, .bool (!decide (x4 = x5)))]) ⟨rfl, rfl, rfl, rfl, rfl, rfl, rfl, rfl, rfl, rfl, rfl, rfl, rfl, rfl, rfl, rfl, rfl, rfl, rfl, rfl, rfl, trivial⟩ ?_
  refine WL.nil ?_
  refine N.seq ?_
  refine W.cond rfl (fun hc7 => ?_) (fun hc7 => ?_)
  ·
   have hc7p : ¬ (x4 = x5) := by simpa using hc7
   refine W.seq ?_
   refine W.region ?_
   refine WL.assign rfl rfl rfl ?_
   refine WL.nil ?_
   refine N.seq ?_
   refine Fin.ret1 rfl (v := .bool false) rfl ?_
   have hne : ¬ xs = ys := by
     intro e; rw [e, hx5] at hx4; rw [Option.some.inj hx4] at hc7p; simp at hc7p
   exact ⟨by rw [decide_eq_false hne], hS.below⟩
  have hc7p : x4 = x5 := by simpa using hc7
  refine W.skip ?_
  refine N.blk ?_
  refine N.seq ?_
  refine W.region ?_
  refine WL.move rfl rfl rfl ?_
  refine WL.add (c := (k : Int) + 1) rfl rfl rfl rfl (rfl) (by omega) ?_
  refine WL.assign rfl rfl rfl ?_
  refine WL.nil ?_
  have hxy : x4 = x5 := by simpa using hc7p
  have htk2 : xs.take (k + 1) = ys.take (k + 1) := by rw [take_next hx4, take_next hx5, htk, hxy]
  exact N.loop (k + 1) ⟨rfl, rfl, rfl, rfl, rfl, rfl, rfl, rfl, trivial⟩ ⟨hS, by omega, htk2⟩ (by first | omega | (simp only; omega))
 have hc3p : ¬ ((k : Int) < (xs.length : Int)) := by simpa using hc3
 refine W.exit ?_
 refine X.seq ?_
 refine X.loop ?_
 refine X.blk ?_
 refine N.seq ?_
 refine W.seq ?_
 refine W.region ?_
 refine WL.assign rfl rfl rfl ?_
 refine WL.nil ?_
 refine N.seq ?_
 refine Fin.ret1 rfl (v := .bool true) rfl ?_
 have e : xs = ys := take_full htk (by omega) (by omega)
 exact ⟨by rw [decide_eq_true e], hS.below⟩

theorem find9_ret (xs : List DDef) (s : ByteArray) (vx : Value) {w : World} {ro : Nat → Prop} (hro : ∀ b, ro b → b < w.heap.size) (hx : SlV ro w 5 DefC vx xs) : Ret Try.prog 11 #[vx, .string s] w fun v w' => v = .int .i64 (ixI (isName s) xs) ∧ Below w.heap.size w w' := by
 obtain ⟨ad, cap, rfl, haa, hab, hac, had⟩ := id hx
 have ham : xs.length ≤ 9223372036854775807 := by have h1 := haa; have h2 := hab; unfold maxLen at h2; omega
 refine Ret.enter (P := Try.prog) (n := 20) (args := [.slice ad xs.length cap, .string s]) (σ := [(0, .slice ad xs.length cap), (1, .string s)]) Try.func11 rfl rfl rfl rfl ?_
 have hS := St.start (ro := ro) hro
 refine W.seq ?_
 refine W.region ?_
 refine WL.assign rfl rfl rfl ?_
 refine WL.nil ?_
 refine N.seq ?_
 refine W.seq ?_
 refine W.seq ?_
 refine W.region ?_
 refine WL.assign rfl rfl rfl ?_
 refine WL.nil ?_
 refine N.seq ?_
 refine W.block ?_
 refine W.loop (α := Nat) (fun (k : Nat) => [(0, .slice ad xs.length cap), (1, .string s), (5, .int .i64 (k : Int))]) (fun (k : Nat) u => St w w u ro [] [] ∧ k ≤ xs.length ∧ (xs.take k).findIdx? (isName s) = none) (fun (k : Nat) => xs.length - k) 0 ⟨rfl, rfl, rfl, trivial⟩ ⟨hS, Nat.zero_le _, rfl⟩ ?_
 clear hS
 rintro k w1 ⟨hS, hk, hno⟩
 refine W.seq ?_
 refine W.seq ?_
 refine W.region ?_
 refine WL.move rfl rfl rfl ?_
 refine WL.move rfl rfl rfl ?_
 refine WL.lenSlice Try.underlying24 rfl rfl rfl ?_
 refine WL.bin rfl rfl rfl rfl rfl ?_
 refine WL.nil ?_
 refine N.seq ?_
 refine W.cond rfl (fun hc2 => ?_) (fun hc2 => ?_)
 ·
  have hc2p : (k : Int) < (xs.length : Int) := by simpa using hc2
  refine W.skip ?_
  refine N.seq ?_
  refine W.seq ?_
  refine W.block ?_
  refine W.seq ?_
  refine W.region ?_
  refine WL.move rfl rfl rfl ?_
  refine WL.move rfl rfl rfl ?_
  have hj3 : k < xs.length := by omega
  obtain ⟨x3, hx3⟩ : ∃ zz, xs[k]? = some zz := ⟨_, List.getElem?_eq_getElem hj3⟩
  obtain ⟨b3, o3, cs3, hE3, hr3, hl3, hc3, hQ3⟩ := had k _ hx3
  obtain ⟨rfl, hdn3, hdm3⟩ := hQ3
  refine WL.indexAddrE (j := k) Try.underlying24 isz_29 rfl rfl rfl rfl hj3 hE3 ?_
  refine WL.fieldAddr fo_29_0 rfl rfl rfl ?_
  refine WL.load1 (v := .string x3.name) one_9 rfl rfl rfl (hS.roCells hr3 hc3 0 _ rfl) ?_
  refine WL.move rfl rfl rfl ?_
  refine WL.eqStr rfl rfl rfl rfl ?_
  refine WL.nil ?_
  refine N.seq ?_
  refine W.cond rfl (fun hc4 => ?_) (fun hc4 => ?_)
  ·
   have hc4p : x3.name = s := by simpa using hc4
   refine W.seq ?_
   refine W.region ?_
   refine WL.move rfl rfl rfl ?_
   refine WL.assign rfl rfl rfl ?_
   refine WL.nil ?_
   refine N.seq ?_
   refine Fin.ret1 rfl (v := .int .i64 (k : Int)) rfl ?_
   exact ⟨by rw [find_here hno hx3 (decide_eq_true hc4p)], hS.below⟩
  have hc4p : ¬ (x3.name = s) := by simpa using hc4
  refine W.skip ?_
  refine N.blk ?_
  refine N.seq ?_
  refine W.region ?_
  refine WL.move rfl rfl rfl ?_
  refine WL.add (c := (k : Int) + 1) rfl rfl rfl rfl (rfl) (by omega) ?_
  refine WL.assign rfl rfl rfl ?_
  refine WL.nil ?_
  exact N.loop (k + 1) ⟨rfl, rfl, rfl, trivial⟩ ⟨hS, by omega, find_next hno hx3 (decide_eq_false hc4p)⟩ (by first | omega | (simp only; omega))
 have hc2p : ¬ ((k : Int) < (xs.length : Int)) := by simpa using hc2
 refine W.exit ?_
 refine X.seq ?_
 refine X.loop ?_
 refine X.blk ?_
 refine N.seq ?_
 refine W.seq ?_
 refine W.region ?_
 refine WL.assign rfl rfl rfl ?_
 refine WL.nil ?_
 refine N.seq ?_
 refine Fin.ret1 rfl (v := .int .i64 (-1)) rfl ?_
 have e : k = xs.length := by omega
 subst e
 rw [List.take_length] at hno
 exact ⟨by rw [find_end hno], hS.below⟩

end Go.Proofs.Ytenldpbbelhomaa
