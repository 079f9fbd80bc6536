/-
  Contracts of layer 17 (gen). No condition beyond those that each theorem states.
-/
import Derived.Test.YtcmmhfknkldmcaaDoorD5
namespace Go.Proofs.YtcmmhfknkldmcaaDoor
open Go.RowKit
theorem agg_34 : tyAgg Tryd.prog 34 3 = true := by kernel_rfl
theorem fo_30_0 : fOff Tryd.prog 30 0 0 = true := by kernel_rfl
theorem isz_30 : (Tryd.prog.info? 30).map (·.size) = some 3 := by kernel_rfl
theorem eqRel {P : Program} {t : TypeId} {f0 f1 f2 : Field} (hf : (P.fieldsOf t).toList = [f0, f1, f2]) (n0 : f0.name ≠ "_") (n1 : f1.name ≠ "_") (n2 : f2.name ≠ "_") (o0 : f0.offset = 0) (o1 : f1.offset = 1) (o2 : f2.offset = 2)
    (k0 : P.plainKey f0.type = true) (k1 : P.plainKey f1.type = true) (k2 : P.plainKey f2.type = true) (u0 : P.underlying f0.type = some (.int .i64)) (u1 : P.underlying f1.type = some (.int .i64)) (u2 : P.underlying f2.type = some .string) (x y : DRel) (w : World) :
    (Op.eqFields 9999 (relL x).toArray (relL y).toArray (P.fieldsOf t).toList).run P w = .ok (decide (x = y)) w := by
  rw [hf]
  have p0 : ∀ a b c : Value, (part f0.type #[a, b, c] 0).run P w = .ok a w := fun _ _ _ => run_part_plain w k0 rfl
  have p1 : ∀ a b c : Value, (part f1.type #[a, b, c] 1).run P w = .ok b w := fun _ _ _ => run_part_plain w k1 rfl
  have p2 : ∀ a b c : Value, (part f2.type #[a, b, c] 2).run P w = .ok c w := fun _ _ _ => run_part_plain w k2 rfl
  have e0 := fun a b => run_equalIn_int (P := P) w 9998 _ .i64 _ a b u0
  have e1 := fun a b => run_equalIn_int (P := P) w 9998 _ .i64 _ a b u1
  have e2 := fun a b => run_equalIn_string (P := P) w 9998 _ a b u2
  obtain ⟨a, b, c⟩ := x
  obtain ⟨a', b', c'⟩ := y
  show (Op.eqFields 9999 #[.int .i64 a, .int .i64 b, .string c] #[.int .i64 a', .int .i64 b', .string c'] [f0, f1, f2]).run P w = _
  simp only [Op.eqFields, n0, n1, n2, o0, o1, o2, ne_eq, not_false_eq_true, if_true, Sem.run_bind, p0, p1, p2, Result.andThen_ok, e0, e1, e2, Sem.run_ite, Sem.run_pure, bytes_eq_iff, DRel.mk.injEq]
  by_cases h0 : a = a' <;> by_cases h1 : b = b' <;> by_cases h2 : c = c' <;> simp [h0, h1, h2]
def CodeC (ro : Nat → Prop) (w : World) (cs : List Value) (c : DCode) : Prop := ∃ so sr, cs = [.string c.name, so, sr] ∧ SlV ro w 5 OpC so c.ops ∧ SlV ro w 3 RelC sr c.rels ∧ c.name.size ≤ maxLen
theorem CodeC.keep {ro ro' : Nat → Prop} {w w' : World} {cs : List Value} {c : DCode} (h : CodeC ro w cs c) (ha : Alike ro w ro' w') : CodeC ro' w' cs c := by
  obtain ⟨so, sr, e, h1, h2, h3⟩ := h
  exact ⟨so, sr, e, h1.keep ha fun _ _ q => q, h2.keep ha fun _ _ q => q, h3⟩
def sameB (a b : DCode) : Bool := decide (a.name = b.name) && decide (a.ops = b.ops) && decide (a.rels = b.rels)
theorem sameB_self (a : DCode) : sameB a a = true := by unfold sameB; simp
def codesL (l : List DFunc) : List DCode := (l.filter fun f => decide (0 < f.blocks.length)).map func17
theorem codes_yes {l : List DFunc} {k : Nat} {x : DFunc} (h : l[k]? = some x) (hb : 0 < x.blocks.length) : codesL (l.take (k + 1)) = codesL (l.take k) ++ [func17 x] := by
  unfold codesL; rw [take_next h, List.filter_append, List.map_append]; simp [hb]
theorem codes_no {l : List DFunc} {k : Nat} {x : DFunc} (h : l[k]? = some x) (hb : ¬ 0 < x.blocks.length) : codesL (l.take (k + 1)) = codesL (l.take k) := by
  unfold codesL; rw [take_next h, List.filter_append, List.map_append]
  rw [List.filter_cons_of_neg (by simpa using hb)]; simp
theorem codes_len (l : List DFunc) (k : Nat) : (codesL (l.take k)).length ≤ k := by
  have h := List.length_filter_le (fun f : DFunc => decide (0 < f.blocks.length)) (l.take k)
  rw [List.length_take] at h
  unfold codesL; rw [List.length_map]; omega
theorem func_relC2 {f : DFunc} (h : OkG f) : Chunks 3 RelC (rCells (func17 f).rels) (func17 f).rels := by
  have hs : Sim (pFull f) (gFull f).ops (gFull f).rels (gFull f).jumps := sim_at f.blocks.length (Nat.le_refl _)
  have hp : POk (pFull f) := pAt_pok h f.blocks.length (Nat.le_refl _)
  have hf := (fits_at h f.blocks.length (Nat.le_refl _)).o
  have e : (func17 f).rels = (pFull f).rels := hs.r.symm
  rw [e]
  exact hp.rC (by show (pAt f f.blocks.length).ops.length ≤ _; omega)

theorem relFields : Tryd.prog.underlying 34 = some (.struct (Tryd.prog.fieldsOf 34)) := by rw [Program.fieldsOf, Tryd.underlying34]
set_option maxRecDepth 10000 in
theorem eqRelT (x y : DRel) (w : World) : (Op.eqFields 9999 (relL x).toArray (relL y).toArray (Tryd.prog.fieldsOf 34).toList).run Tryd.prog w = .ok (decide (x = y)) w :=
  eqRel (by rw [Program.fieldsOf, Tryd.underlying34]) (by decide) (by decide) (by decide) rfl rfl rfl (by simp [Program.plainKey, Tryd.underlying3]) (by simp [Program.plainKey, Tryd.underlying3]) (by simp [Program.plainKey, Tryd.underlying9]) Tryd.underlying3 Tryd.underlying3 Tryd.underlying9 x y w

set_option maxRecDepth 10000 in
set_option maxHeartbeats 4000000 in
theorem eqOps_ret (xs ys : List DOp) (vx vy : Value) {w : World} {ro : Nat → Prop} (hro : ∀ b, ro b → b < w.heap.size) (hx : SlV ro w 5 OpC vx xs) (hy : SlV ro w 5 OpC vy ys) : Ret Tryd.prog 36 #[vx, vy] w fun v w' => v = .bool (decide (xs = ys)) ∧ Below w.heap.size w w' := by
 obtain ⟨ada, capa, rfl, hxa, hxb, hxc, hxd⟩ := id hx
 have hxm : xs.length ≤ 9223372036854775807 := by have h1 := hxa; have h2 := hxb; unfold maxLen at h2; omega
 obtain ⟨adb, capb, rfl, hya, hyb, hyc, hyd⟩ := id hy
 have hym : ys.length ≤ 9223372036854775807 := by have h1 := hya; have h2 := hyb; unfold maxLen at h2; omega
 refine Ret.enter (P := Tryd.prog) (n := 26) (args := [.slice ada xs.length capa, .slice adb ys.length capb]) (σ := [(0, .slice ada xs.length capa), (1, .slice adb ys.length capb)]) Tryd.func36 rfl rfl rfl rfl ?_
 have hS := St.start (ro := ro) hro
 have hsub : ∀ b, ro b → ro b ∨ w.heap.size ≤ b := fun _ h => .inl h
 refine W.seq (W.region (WL.assign rfl rfl rfl (WL.nil (N.seq (W.seq (W.seq (W.region (WL.move rfl rfl rfl (WL.lenSlice Tryd.underlying27 rfl rfl rfl ?_)))))))))
 refine WL.move rfl rfl rfl (WL.lenSlice Tryd.underlying27 rfl rfl rfl (WL.bin rfl rfl rfl rfl rfl (WL.nil (N.seq ?_))))
 refine W.cond rfl (fun hc1 => ?_) (fun hc1 => ?_)
 ·
  have hc1p : ¬ ((xs.length : Int) = (ys.length : Int)) := by simpa using hc1
  refine W.seq (W.region (WL.assign rfl rfl rfl (WL.nil (N.seq ?_))))
  refine Fin.ret1 rfl (v := .bool false) rfl ?_
  have e : xs ≠ ys := by intro e; subst e; exact absurd hc1p (by simp)
  exact ⟨by rw [decide_eq_false e], hS.below⟩
 have hc1p : (xs.length : Int) = (ys.length : Int) := by simpa using hc1
 refine W.skip (N.seq (W.seq (W.seq (W.region (WL.move rfl rfl rfl (WL.lenSlice Tryd.underlying27 rfl rfl rfl (WL.move rfl rfl rfl (WL.nil (N.seq ?_)))))))))
 refine W.block ?_
 refine W.loop (α := Nat) (fun (i : Nat) => [(0, .slice ada xs.length capa), (1, .slice adb ys.length capb), (12, .int .i64 (xs.length : Int)), (13, .int .i64 (i : Int))]) (fun (i : Nat) u => St w w u ro [] [] ∧ i ≤ xs.length ∧ xs.take i = ys.take i) (fun (i : Nat) => xs.length - i) 0 ⟨rfl, rfl, rfl, rfl, trivial⟩ ⟨hS, Nat.zero_le _, rfl⟩ ?_
 clear hS
 rintro i w2 ⟨hS, hil, htk⟩
 refine W.seq (W.region (WL.bin rfl rfl rfl rfl rfl (WL.nil (N.seq (W.seq ?_)))))
 refine W.cond rfl (fun hc3 => ?_) (fun hc3 => ?_)
 ·
  have hc3p : (i : Int) < (xs.length : Int) := by simpa using hc3
  refine W.skip (N.seq (W.seq (W.block (W.seq (W.region (WL.move rfl rfl rfl (WL.assign rfl rfl rfl (WL.nil (N.seq ?_)))))))))
  refine W.seq ?_
  have hj4 : i < xs.length := by omega
  obtain ⟨x4, hx4, b4, o4, cs4, hE4, hr4, _, hc4, hQ4⟩ := opn hxd hj4
  obtain ⟨rfl, hop4⟩ := hQ4
  have hj5 : i < ys.length := by omega
  obtain ⟨x5, hx5, b5, o5, cs5, hE5, hr5, _, hc5, hQ5⟩ := opn hyd hj5
  obtain ⟨rfl, hop5⟩ := hQ5
  refine W.drawL (by kernel_rfl) 9 ((.q (.slice ada xs.length capa)) :: (.q (.int .i64 (i : Int))) :: (.q (.pointer (some ⟨b4, o4 + i * 5, none⟩))) :: (.q (.agg #[.int .i64 x4.kind, .int .i64 x4.rd, .int .i64 x4.a, .int .i64 x4.b, .int .i64 x4.imm])) :: (.q (.slice adb ys.length capb)) :: (.q (.int .i64 (i : Int))) :: (.q (.pointer (some ⟨b5, o5 + i * 5, none⟩))) :: (.q (.agg #[.int .i64 x5.kind, .int .i64 x5.rd, .int .i64 x5.a, .int .i64 x5.b, .int .i64 x5.imm])) :: (.q (.bool (!(decide (x4 = x5))))) :: []) (by kernel_rfl) (by kernel_rfl) [(0, .slice ada xs.length capa), (1, .slice adb ys.length capb), (5, .int .i64 (i : Int)), (12, .int .i64 (xs.length : Int)), (13, .int .i64 (i : Int))] ⟨rfl, rfl, rfl, rfl, rfl, trivial⟩ (by kernel_rfl) hS ?_ ?_
  ·
   refine And.intro (fun β w hS => ?_) ?_
   ·
    refine WL.sub (σ' := [(0, .slice ada xs.length capa)]) ⟨rfl, trivial⟩ ?_
    refine WL.move rfl rfl rfl ?_
    exact WL.nil (N.cut () ⟨rfl, trivial⟩ (Below.refl _ _))
   refine And.intro (fun β w hS => ?_) ?_
   ·
    refine WL.sub (σ' := [(5, .int .i64 (i : Int))]) ⟨rfl, trivial⟩ ?_
    refine WL.move rfl rfl rfl ?_
    exact WL.nil (N.cut () ⟨rfl, trivial⟩ (Below.refl _ _))
   refine And.intro (fun β w hS => ?_) ?_
   ·
    refine WL.sub (σ' := [(16, .slice ada xs.length capa), (17, .int .i64 (i : Int))]) ⟨rfl, rfl, trivial⟩ ?_
    refine WL.indexAddrE (j := i) Tryd.underlying27 isz_36 rfl rfl rfl rfl hj4 hE4 ?_
    exact WL.nil (N.cut () ⟨rfl, trivial⟩ (Below.refl _ _))
   refine And.intro (fun β w hS => ?_) ?_
   ·
    refine WL.sub (σ' := [(18, .pointer (some ⟨b4, o4 + i * 5, none⟩))]) ⟨rfl, trivial⟩ ?_
    refine WL.loadN (cs := [.int .i64 x4.kind, .int .i64 x4.rd, .int .i64 x4.a, .int .i64 x4.b, .int .i64 x4.imm]) agg_36 rfl rfl rfl rfl (hS.roCells hr4 hc4) ?_
    exact WL.nil (N.cut () ⟨rfl, trivial⟩ (Below.refl _ _))
   refine And.intro (fun β w hS => ?_) ?_
   ·
    refine WL.sub (σ' := [(1, .slice adb ys.length capb)]) ⟨rfl, trivial⟩ ?_
    refine WL.move rfl rfl rfl ?_
    exact WL.nil (N.cut () ⟨rfl, trivial⟩ (Below.refl _ _))
   refine And.intro (fun β w hS => ?_) ?_
   ·
    refine WL.sub (σ' := [(5, .int .i64 (i : Int))]) ⟨rfl, trivial⟩ ?_
    refine WL.move rfl rfl rfl ?_
    exact WL.nil (N.cut () ⟨rfl, trivial⟩ (Below.refl _ _))
   refine And.intro (fun β w hS => ?_) ?_
   ·
    refine WL.sub (σ' := [(20, .slice adb ys.length capb), (21, .int .i64 (i : Int))]) ⟨rfl, rfl, trivial⟩ ?_
    refine WL.indexAddrE (j := i) Tryd.underlying27 isz_36 rfl rfl rfl rfl hj5 hE5 ?_
    exact WL.nil (N.cut () ⟨rfl, trivial⟩ (Below.refl _ _))
   refine And.intro (fun β w hS => ?_) ?_
   ·
    refine WL.sub (σ' := [(22, .pointer (some ⟨b5, o5 + i * 5, none⟩))]) ⟨rfl, trivial⟩ ?_
    refine WL.loadN (cs := [.int .i64 x5.kind, .int .i64 x5.rd, .int .i64 x5.a, .int .i64 x5.b, .int .i64 x5.imm]) agg_36 rfl rfl rfl rfl (hS.roCells hr5 hc5) ?_
    exact WL.nil (N.cut () ⟨rfl, trivial⟩ (Below.refl _ _))
   refine And.intro (fun β w hS => ?_) ?_
   ·
    refine WL.sub (σ' := [(19, .agg #[.int .i64 x4.kind, .int .i64 x4.rd, .int .i64 x4.a, .int .i64 x4.b, .int .i64 x4.imm]), (23, .agg #[.int .i64 x5.kind, .int .i64 x5.rd, .int .i64 x5.a, .int .i64 x5.b, .int .i64 x5.imm])]) ⟨rfl, rfl, trivial⟩ ?_
    refine WL.neAgg (decide (x4 = x5)) opFields Tryd.stoodInHeld36 Tryd.eqGuardType36 (eqOpT x4 x5) rfl rfl rfl rfl ?_
    exact WL.nil (N.cut () ⟨rfl, trivial⟩ (Below.refl _ _))
   trivial
  clear hS; intro w6 β hS
  refine WL.sub (σ' := [(0, .slice ada xs.length capa), (1, .slice adb ys.length capb), (12, .int .i64 (xs.length : Int)), (13, .int .i64 (i : Int)), (24, .bool (!(decide (x4 = x5))))]) ⟨rfl, rfl, rfl, rfl, rfl, trivial⟩ ?_
  refine WL.nil (N.seq ?_)
  refine W.cond rfl (fun hc7 => ?_) (fun hc7 => ?_)
  ·
   have hc7p : ¬ (x4 = x5) := by simpa using hc7
   refine W.seq (W.region (WL.assign rfl rfl rfl (WL.nil (N.seq ?_))))
   refine Fin.ret1 rfl (v := .bool false) rfl ?_
   have e : xs ≠ ys := by intro e; subst e; rw [hx4] at hx5; have h := hc7p; simp_all
   exact ⟨by rw [decide_eq_false e], hS.below⟩
  have hc7p : x4 = x5 := by simpa using hc7
  refine W.skip (N.blk (N.seq (W.region ?_)))
  refine WL.add (c := (i : Int) + 1) rfl rfl rfl rfl (rfl) (by omega) ?_
  refine WL.move rfl rfl rfl (WL.nil ?_)
  have hab : x4 = x5 := by simpa using hc7p
  exact N.loop (i + 1) ⟨rfl, rfl, rfl, rfl, trivial⟩ ⟨hS, by omega, by rw [take_next hx4, take_next hx5, htk, hab]⟩ (by first | omega | (simp only; omega))
 have hc3p : ¬ ((i : Int) < (xs.length : Int)) := by simpa using hc3
 refine W.exit (X.seq (X.loop (X.blk (N.seq (W.seq (W.region (WL.assign rfl rfl rfl (WL.nil (N.seq ?_)))))))))
 refine Fin.ret1 rfl (v := .bool true) rfl ?_
 have e : xs = ys := by have h1 : xs.take i = xs := List.take_of_length_le (by omega); have h2 : ys.take i = ys := List.take_of_length_le (by omega); rw [← h1, htk, h2]
 exact ⟨by rw [decide_eq_true e], hS.below⟩

set_option maxRecDepth 10000 in
set_option maxHeartbeats 4000000 in
theorem eqRels_ret (xs ys : List DRel) (vx vy : Value) {w : World} {ro : Nat → Prop} (hro : ∀ b, ro b → b < w.heap.size) (hx : SlV ro w 3 RelC vx xs) (hy : SlV ro w 3 RelC vy ys) : Ret Tryd.prog 37 #[vx, vy] w fun v w' => v = .bool (decide (xs = ys)) ∧ Below w.heap.size w w' := by
 obtain ⟨ada, capa, rfl, hxa, hxb, hxc, hxd⟩ := id hx
 have hxm : xs.length ≤ 9223372036854775807 := by have h1 := hxa; have h2 := hxb; unfold maxLen at h2; omega
 obtain ⟨adb, capb, rfl, hya, hyb, hyc, hyd⟩ := id hy
 have hym : ys.length ≤ 9223372036854775807 := by have h1 := hya; have h2 := hyb; unfold maxLen at h2; omega
 refine Ret.enter (P := Tryd.prog) (n := 26) (args := [.slice ada xs.length capa, .slice adb ys.length capb]) (σ := [(0, .slice ada xs.length capa), (1, .slice adb ys.length capb)]) Tryd.func37 rfl rfl rfl rfl ?_
 have hS := St.start (ro := ro) hro
 have hsub : ∀ b, ro b → ro b ∨ w.heap.size ≤ b := fun _ h => .inl h
 refine W.seq (W.region (WL.assign rfl rfl rfl (WL.nil (N.seq (W.seq (W.seq (W.region (WL.move rfl rfl rfl (WL.lenSlice Tryd.underlying28 rfl rfl rfl ?_)))))))))
 refine WL.move rfl rfl rfl (WL.lenSlice Tryd.underlying28 rfl rfl rfl (WL.bin rfl rfl rfl rfl rfl (WL.nil (N.seq ?_))))
 refine W.cond rfl (fun hc1 => ?_) (fun hc1 => ?_)
 ·
  have hc1p : ¬ ((xs.length : Int) = (ys.length : Int)) := by simpa using hc1
  refine W.seq (W.region (WL.assign rfl rfl rfl (WL.nil (N.seq ?_))))
  refine Fin.ret1 rfl (v := .bool false) rfl ?_
  have e : xs ≠ ys := by intro e; subst e; exact absurd hc1p (by simp)
  exact ⟨by rw [decide_eq_false e], hS.below⟩
 have hc1p : (xs.length : Int) = (ys.length : Int) := by simpa using hc1
 refine W.skip (N.seq (W.seq (W.seq (W.region (WL.move rfl rfl rfl (WL.lenSlice Tryd.underlying28 rfl rfl rfl (WL.move rfl rfl rfl (WL.nil (N.seq ?_)))))))))
 refine W.block ?_
 refine W.loop (α := Nat) (fun (i : Nat) => [(0, .slice ada xs.length capa), (1, .slice adb ys.length capb), (12, .int .i64 (xs.length : Int)), (13, .int .i64 (i : Int))]) (fun (i : Nat) u => St w w u ro [] [] ∧ i ≤ xs.length ∧ xs.take i = ys.take i) (fun (i : Nat) => xs.length - i) 0 ⟨rfl, rfl, rfl, rfl, trivial⟩ ⟨hS, Nat.zero_le _, rfl⟩ ?_
 clear hS
 rintro i w2 ⟨hS, hil, htk⟩
 refine W.seq (W.region (WL.bin rfl rfl rfl rfl rfl (WL.nil (N.seq (W.seq ?_)))))
 refine W.cond rfl (fun hc3 => ?_) (fun hc3 => ?_)
 ·
  have hc3p : (i : Int) < (xs.length : Int) := by simpa using hc3
  refine W.skip (N.seq (W.seq (W.block (W.seq (W.region (WL.move rfl rfl rfl (WL.assign rfl rfl rfl (WL.nil (N.seq ?_)))))))))
  refine W.seq ?_
  have hj4 : i < xs.length := by omega
  obtain ⟨x4, hx4, b4, o4, cs4, hE4, hr4, _, hc4, hQ4⟩ := opn hxd hj4
  obtain ⟨rfl, hrn4, hra4, hrk4⟩ := hQ4
  have hj5 : i < ys.length := by omega
  obtain ⟨x5, hx5, b5, o5, cs5, hE5, hr5, _, hc5, hQ5⟩ := opn hyd hj5
  obtain ⟨rfl, hrn5, hra5, hrk5⟩ := hQ5
  refine W.drawL (by kernel_rfl) 9 ((.q (.slice ada xs.length capa)) :: (.q (.int .i64 (i : Int))) :: (.q (.pointer (some ⟨b4, o4 + i * 3, none⟩))) :: (.q (.agg #[.int .i64 x4.at_, .int .i64 x4.kind, .string x4.name])) :: (.q (.slice adb ys.length capb)) :: (.q (.int .i64 (i : Int))) :: (.q (.pointer (some ⟨b5, o5 + i * 3, none⟩))) :: (.q (.agg #[.int .i64 x5.at_, .int .i64 x5.kind, .string x5.name])) :: (.q (.bool (!(decide (x4 = x5))))) :: []) (by kernel_rfl) (by kernel_rfl) [(0, .slice ada xs.length capa), (1, .slice adb ys.length capb), (5, .int .i64 (i : Int)), (12, .int .i64 (xs.length : Int)), (13, .int .i64 (i : Int))] ⟨rfl, rfl, rfl, rfl, rfl, trivial⟩ (by kernel_rfl) hS ?_ ?_
  ·
   refine And.intro (fun β w hS => ?_) ?_
   ·
    refine WL.sub (σ' := [(0, .slice ada xs.length capa)]) ⟨rfl, trivial⟩ ?_
    refine WL.move rfl rfl rfl ?_
    exact WL.nil (N.cut () ⟨rfl, trivial⟩ (Below.refl _ _))
   refine And.intro (fun β w hS => ?_) ?_
   ·
    refine WL.sub (σ' := [(5, .int .i64 (i : Int))]) ⟨rfl, trivial⟩ ?_
    refine WL.move rfl rfl rfl ?_
    exact WL.nil (N.cut () ⟨rfl, trivial⟩ (Below.refl _ _))
   refine And.intro (fun β w hS => ?_) ?_
   ·
    refine WL.sub (σ' := [(16, .slice ada xs.length capa), (17, .int .i64 (i : Int))]) ⟨rfl, rfl, trivial⟩ ?_
    refine WL.indexAddrE (j := i) Tryd.underlying28 isz_34 rfl rfl rfl rfl hj4 hE4 ?_
    exact WL.nil (N.cut () ⟨rfl, trivial⟩ (Below.refl _ _))
   refine And.intro (fun β w hS => ?_) ?_
   ·
    refine WL.sub (σ' := [(18, .pointer (some ⟨b4, o4 + i * 3, none⟩))]) ⟨rfl, trivial⟩ ?_
    refine WL.loadN (cs := [.int .i64 x4.at_, .int .i64 x4.kind, .string x4.name]) agg_34 rfl rfl rfl rfl (hS.roCells hr4 hc4) ?_
    exact WL.nil (N.cut () ⟨rfl, trivial⟩ (Below.refl _ _))
   refine And.intro (fun β w hS => ?_) ?_
   ·
    refine WL.sub (σ' := [(1, .slice adb ys.length capb)]) ⟨rfl, trivial⟩ ?_
    refine WL.move rfl rfl rfl ?_
    exact WL.nil (N.cut () ⟨rfl, trivial⟩ (Below.refl _ _))
   refine And.intro (fun β w hS => ?_) ?_
   ·
    refine WL.sub (σ' := [(5, .int .i64 (i : Int))]) ⟨rfl, trivial⟩ ?_
    refine WL.move rfl rfl rfl ?_
    exact WL.nil (N.cut () ⟨rfl, trivial⟩ (Below.refl _ _))
   refine And.intro (fun β w hS => ?_) ?_
   ·
    refine WL.sub (σ' := [(20, .slice adb ys.length capb), (21, .int .i64 (i : Int))]) ⟨rfl, rfl, trivial⟩ ?_
    refine WL.indexAddrE (j := i) Tryd.underlying28 isz_34 rfl rfl rfl rfl hj5 hE5 ?_
    exact WL.nil (N.cut () ⟨rfl, trivial⟩ (Below.refl _ _))
   refine And.intro (fun β w hS => ?_) ?_
   ·
    refine WL.sub (σ' := [(22, .pointer (some ⟨b5, o5 + i * 3, none⟩))]) ⟨rfl, trivial⟩ ?_
    refine WL.loadN (cs := [.int .i64 x5.at_, .int .i64 x5.kind, .string x5.name]) agg_34 rfl rfl rfl rfl (hS.roCells hr5 hc5) ?_
    exact WL.nil (N.cut () ⟨rfl, trivial⟩ (Below.refl _ _))
   refine And.intro (fun β w hS => ?_) ?_
   ·
    refine WL.sub (σ' := [(19, .agg #[.int .i64 x4.at_, .int .i64 x4.kind, .string x4.name]), (23, .agg #[.int .i64 x5.at_, .int .i64 x5.kind, .string x5.name])]) ⟨rfl, rfl, trivial⟩ ?_
    refine WL.neAgg (decide (x4 = x5)) relFields Tryd.stoodInHeld34 Tryd.eqGuardType34 (eqRelT x4 x5) rfl rfl rfl rfl ?_
    exact WL.nil (N.cut () ⟨rfl, trivial⟩ (Below.refl _ _))
   trivial
  clear hS; intro w6 β hS
  refine WL.sub (σ' := [(0, .slice ada xs.length capa), (1, .slice adb ys.length capb), (12, .int .i64 (xs.length : Int)), (13, .int .i64 (i : Int)), (24, .bool (!(decide (x4 = x5))))]) ⟨rfl, rfl, rfl, rfl, rfl, trivial⟩ ?_
  refine WL.nil (N.seq ?_)
  refine W.cond rfl (fun hc7 => ?_) (fun hc7 => ?_)
  ·
   have hc7p : ¬ (x4 = x5) := by simpa using hc7
   refine W.seq (W.region (WL.assign rfl rfl rfl (WL.nil (N.seq ?_))))
   refine Fin.ret1 rfl (v := .bool false) rfl ?_
   have e : xs ≠ ys := by intro e; subst e; rw [hx4] at hx5; have h := hc7p; simp_all
   exact ⟨by rw [decide_eq_false e], hS.below⟩
  have hc7p : x4 = x5 := by simpa using hc7
  refine W.skip (N.blk (N.seq (W.region ?_)))
  refine WL.add (c := (i : Int) + 1) rfl rfl rfl rfl (rfl) (by omega) ?_
  refine WL.move rfl rfl rfl (WL.nil ?_)
  have hab : x4 = x5 := by simpa using hc7p
  exact N.loop (i + 1) ⟨rfl, rfl, rfl, rfl, trivial⟩ ⟨hS, by omega, by rw [take_next hx4, take_next hx5, htk, hab]⟩ (by first | omega | (simp only; omega))
 have hc3p : ¬ ((i : Int) < (xs.length : Int)) := by simpa using hc3
 refine W.exit (X.seq (X.loop (X.blk (N.seq (W.seq (W.region (WL.assign rfl rfl rfl (WL.nil (N.seq ?_)))))))))
 refine Fin.ret1 rfl (v := .bool true) rfl ?_
 have e : xs = ys := by have h1 : xs.take i = xs := List.take_of_length_le (by omega); have h2 : ys.take i = ys := List.take_of_length_le (by omega); rw [← h1, htk, h2]
 exact ⟨by rw [decide_eq_true e], hS.below⟩

set_option maxRecDepth 10000 in
set_option maxHeartbeats 4000000 in
theorem rrels_ret (xs ys : List DRel) (vx vy : Value) {w : World} {ro : Nat → Prop} (hro : ∀ b, ro b → b < w.heap.size) (hx : SlV ro w 3 RelC vx xs) (hy : SlV ro w 3 RelC vy ys) : Ret Tryd.prog 39 #[vx, vy] w fun v w' => v = .bool (decide (xs = ys)) ∧ Below w.heap.size w w' := by
 obtain ⟨ada, capa, rfl, hxa, hxb, hxc, hxd⟩ := id hx
 have hxm : xs.length ≤ 9223372036854775807 := by have h1 := hxa; have h2 := hxb; unfold maxLen at h2; omega
 obtain ⟨adb, capb, rfl, hya, hyb, hyc, hyd⟩ := id hy
 have hym : ys.length ≤ 9223372036854775807 := by have h1 := hya; have h2 := hyb; unfold maxLen at h2; omega
 refine Ret.enter (P := Tryd.prog) (n := 26) (args := [.slice ada xs.length capa, .slice adb ys.length capb]) (σ := [(0, .slice ada xs.length capa), (1, .slice adb ys.length capb)]) Tryd.func39 rfl rfl rfl rfl ?_
 have hS := St.start (ro := ro) hro
 have hsub : ∀ b, ro b → ro b ∨ w.heap.size ≤ b := fun _ h => .inl h
 refine W.seq (W.region (WL.assign rfl rfl rfl (WL.nil (N.seq (W.seq (W.seq (W.region (WL.move rfl rfl rfl (WL.lenSlice Tryd.underlying28 rfl rfl rfl ?_)))))))))
 refine WL.move rfl rfl rfl (WL.lenSlice Tryd.underlying28 rfl rfl rfl (WL.bin rfl rfl rfl rfl rfl (WL.nil (N.seq ?_))))
 refine W.cond rfl (fun hc1 => ?_) (fun hc1 => ?_)
 ·
  have hc1p : ¬ ((xs.length : Int) = (ys.length : Int)) := by simpa using hc1
  refine W.seq (W.region (WL.assign rfl rfl rfl (WL.nil (N.seq ?_))))
  refine Fin.ret1 rfl (v := .bool false) rfl ?_
  have e : xs ≠ ys := by intro e; subst e; exact absurd hc1p (by simp)
  exact ⟨by rw [decide_eq_false e], hS.below⟩
 have hc1p : (xs.length : Int) = (ys.length : Int) := by simpa using hc1
 refine W.skip (N.seq (W.seq (W.seq (W.region (WL.assign rfl rfl rfl (WL.nil (N.seq (W.block ?_))))))))
 refine W.loop (α := Nat) (fun (i : Nat) => [(0, .slice ada xs.length capa), (1, .slice adb ys.length capb), (5, .int .i64 (i : Int))]) (fun (i : Nat) u => St w w u ro [] [] ∧ i ≤ xs.length ∧ xs.take i = ys.take i) (fun (i : Nat) => xs.length - i) 0 ⟨rfl, rfl, rfl, trivial⟩ ⟨hS, Nat.zero_le _, rfl⟩ ?_
 clear hS
 rintro i w2 ⟨hS, hil, htk⟩
 refine W.seq (W.seq (W.region (WL.move rfl rfl rfl (WL.move rfl rfl rfl (WL.lenSlice Tryd.underlying28 rfl rfl rfl (WL.bin rfl rfl rfl rfl rfl (WL.nil (N.seq ?_))))))))
 refine W.cond rfl (fun hc3 => ?_) (fun hc3 => ?_)
 ·
  have hc3p : (i : Int) < (xs.length : Int) := by simpa using hc3
  refine W.skip (N.seq (W.seq (W.block (W.seq ?_))))
  have hj4 : i < xs.length := by omega
  obtain ⟨x4, hx4, b4, o4, cs4, hE4, hr4, _, hc4, hQ4⟩ := opn hxd hj4
  obtain ⟨rfl, hrn4, hra4, hrk4⟩ := hQ4
  have hj5 : i < ys.length := by omega
  obtain ⟨x5, hx5, b5, o5, cs5, hE5, hr5, _, hc5, hQ5⟩ := opn hyd hj5
  obtain ⟨rfl, hrn5, hra5, hrk5⟩ := hQ5
  refine W.drawL (by kernel_rfl) 9 ((.q (.slice ada xs.length capa)) :: (.q (.int .i64 (i : Int))) :: (.q (.pointer (some ⟨b4, o4 + i * 3, none⟩))) :: (.q (.agg #[.int .i64 x4.at_, .int .i64 x4.kind, .string x4.name])) :: (.q (.slice adb ys.length capb)) :: (.q (.int .i64 (i : Int))) :: (.q (.pointer (some ⟨b5, o5 + i * 3, none⟩))) :: (.q (.agg #[.int .i64 x5.at_, .int .i64 x5.kind, .string x5.name])) :: (.q (.bool (!(decide (x4 = x5))))) :: []) (by kernel_rfl) (by kernel_rfl) [(0, .slice ada xs.length capa), (1, .slice adb ys.length capb), (5, .int .i64 (i : Int))] ⟨rfl, rfl, rfl, trivial⟩ (by kernel_rfl) hS ?_ ?_
  ·
   refine And.intro (fun β w hS => ?_) ?_
   ·
    refine WL.sub (σ' := [(0, .slice ada xs.length capa)]) ⟨rfl, trivial⟩ ?_
    refine WL.move rfl rfl rfl ?_
    exact WL.nil (N.cut () ⟨rfl, trivial⟩ (Below.refl _ _))
   refine And.intro (fun β w hS => ?_) ?_
   ·
    refine WL.sub (σ' := [(5, .int .i64 (i : Int))]) ⟨rfl, trivial⟩ ?_
    refine WL.move rfl rfl rfl ?_
    exact WL.nil (N.cut () ⟨rfl, trivial⟩ (Below.refl _ _))
   refine And.intro (fun β w hS => ?_) ?_
   ·
    refine WL.sub (σ' := [(17, .slice ada xs.length capa), (18, .int .i64 (i : Int))]) ⟨rfl, rfl, trivial⟩ ?_
    refine WL.indexAddrE (j := i) Tryd.underlying28 isz_34 rfl rfl rfl rfl hj4 hE4 ?_
    exact WL.nil (N.cut () ⟨rfl, trivial⟩ (Below.refl _ _))
   refine And.intro (fun β w hS => ?_) ?_
   ·
    refine WL.sub (σ' := [(19, .pointer (some ⟨b4, o4 + i * 3, none⟩))]) ⟨rfl, trivial⟩ ?_
    refine WL.loadN (cs := [.int .i64 x4.at_, .int .i64 x4.kind, .string x4.name]) agg_34 rfl rfl rfl rfl (hS.roCells hr4 hc4) ?_
    exact WL.nil (N.cut () ⟨rfl, trivial⟩ (Below.refl _ _))
   refine And.intro (fun β w hS => ?_) ?_
   ·
    refine WL.sub (σ' := [(1, .slice adb ys.length capb)]) ⟨rfl, trivial⟩ ?_
    refine WL.move rfl rfl rfl ?_
    exact WL.nil (N.cut () ⟨rfl, trivial⟩ (Below.refl _ _))
   refine And.intro (fun β w hS => ?_) ?_
   ·
    refine WL.sub (σ' := [(5, .int .i64 (i : Int))]) ⟨rfl, trivial⟩ ?_
    refine WL.move rfl rfl rfl ?_
    exact WL.nil (N.cut () ⟨rfl, trivial⟩ (Below.refl _ _))
   refine And.intro (fun β w hS => ?_) ?_
   ·
    refine WL.sub (σ' := [(21, .slice adb ys.length capb), (22, .int .i64 (i : Int))]) ⟨rfl, rfl, trivial⟩ ?_
    refine WL.indexAddrE (j := i) Tryd.underlying28 isz_34 rfl rfl rfl rfl hj5 hE5 ?_
    exact WL.nil (N.cut () ⟨rfl, trivial⟩ (Below.refl _ _))
   refine And.intro (fun β w hS => ?_) ?_
   ·
    refine WL.sub (σ' := [(23, .pointer (some ⟨b5, o5 + i * 3, none⟩))]) ⟨rfl, trivial⟩ ?_
    refine WL.loadN (cs := [.int .i64 x5.at_, .int .i64 x5.kind, .string x5.name]) agg_34 rfl rfl rfl rfl (hS.roCells hr5 hc5) ?_
    exact WL.nil (N.cut () ⟨rfl, trivial⟩ (Below.refl _ _))
   refine And.intro (fun β w hS => ?_) ?_
   ·
    refine WL.sub (σ' := [(20, .agg #[.int .i64 x4.at_, .int .i64 x4.kind, .string x4.name]), (24, .agg #[.int .i64 x5.at_, .int .i64 x5.kind, .string x5.name])]) ⟨rfl, rfl, trivial⟩ ?_
    refine WL.neAgg (decide (x4 = x5)) relFields Tryd.stoodInHeld34 Tryd.eqGuardType34 (eqRelT x4 x5) rfl rfl rfl rfl ?_
    exact WL.nil (N.cut () ⟨rfl, trivial⟩ (Below.refl _ _))
   trivial
  clear hS; intro w6 β hS
  refine WL.sub (σ' := [(0, .slice ada xs.length capa), (1, .slice adb ys.length capb), (5, .int .i64 (i : Int)), (25, .bool (!(decide (x4 = x5))))]) ⟨rfl, rfl, rfl, rfl, trivial⟩ ?_
  refine WL.nil (N.seq ?_)
  refine W.cond rfl (fun hc7 => ?_) (fun hc7 => ?_)
  ·
   have hc7p : ¬ (x4 = x5) := by simpa using hc7
   refine W.seq (W.region (WL.assign rfl rfl rfl (WL.nil (N.seq ?_))))
   refine Fin.ret1 rfl (v := .bool false) rfl ?_
   have e : xs ≠ ys := by intro e; subst e; rw [hx4] at hx5; have h := hc7p; simp_all
   exact ⟨by rw [decide_eq_false e], hS.below⟩
  have hc7p : x4 = x5 := by simpa using hc7
  refine W.skip (N.blk (N.seq (W.region (WL.move rfl rfl rfl ?_))))
  refine WL.add (c := (i : Int) + 1) rfl rfl rfl rfl (rfl) (by omega) ?_
  refine WL.assign rfl rfl rfl (WL.nil ?_)
  have hab : x4 = x5 := by simpa using hc7p
  exact N.loop (i + 1) ⟨rfl, rfl, rfl, trivial⟩ ⟨hS, by omega, by rw [take_next hx4, take_next hx5, htk, hab]⟩ (by first | omega | (simp only; omega))
 have hc3p : ¬ ((i : Int) < (xs.length : Int)) := by simpa using hc3
 refine W.exit (X.seq (X.loop (X.blk (N.seq (W.seq (W.region (WL.assign rfl rfl rfl (WL.nil (N.seq ?_)))))))))
 refine Fin.ret1 rfl (v := .bool true) rfl ?_
 have e : xs = ys := by have h1 : xs.take i = xs := List.take_of_length_le (by omega); have h2 : ys.take i = ys := List.take_of_length_le (by omega); rw [← h1, htk, h2]
 exact ⟨by rw [decide_eq_true e], hS.below⟩

set_option maxRecDepth 10000 in
set_option maxHeartbeats 4000000 in
theorem gsame_ret (x y : DCode) (cx cy : List Value) {w : World} {ro : Nat → Prop} (hro : ∀ b, ro b → b < w.heap.size) (hx : CodeC ro w cx x) (hy : CodeC ro w cy y) : Ret Tryd.prog 18 #[.agg cx.toArray, .agg cy.toArray] w fun v w' => v = .bool (sameB x y) ∧ Below w.heap.size w w' := by
 obtain ⟨soA, srA, rfl, hsoA, hsrA, hcnA⟩ := id hx
 obtain ⟨adoA, capoA, rfl, hsoAa, hsoAb, hsoAc, hsoAd⟩ := id hsoA
 have hsoAm : x.ops.length ≤ 9223372036854775807 := by have h1 := hsoAa; have h2 := hsoAb; unfold maxLen at h2; omega
 obtain ⟨adrA, caprA, rfl, hsrAa, hsrAb, hsrAc, hsrAd⟩ := id hsrA
 have hsrAm : x.rels.length ≤ 9223372036854775807 := by have h1 := hsrAa; have h2 := hsrAb; unfold maxLen at h2; omega
 obtain ⟨soB, srB, rfl, hsoB, hsrB, hcnB⟩ := id hy
 obtain ⟨adoB, capoB, rfl, hsoBa, hsoBb, hsoBc, hsoBd⟩ := id hsoB
 have hsoBm : y.ops.length ≤ 9223372036854775807 := by have h1 := hsoBa; have h2 := hsoBb; unfold maxLen at h2; omega
 obtain ⟨adrB, caprB, rfl, hsrBa, hsrBb, hsrBc, hsrBd⟩ := id hsrB
 have hsrBm : y.rels.length ≤ 9223372036854775807 := by have h1 := hsrBa; have h2 := hsrBb; unfold maxLen at h2; omega
 refine Ret.enter (P := Tryd.prog) (n := 24) (args := [.agg #[.string x.name, .slice adoA x.ops.length capoA, .slice adrA x.rels.length caprA], .agg #[.string y.name, .slice adoB y.ops.length capoB, .slice adrB y.rels.length caprB]]) (σ := [(0, .agg #[.string x.name, .slice adoA x.ops.length capoA, .slice adrA x.rels.length caprA]), (1, .agg #[.string y.name, .slice adoB y.ops.length capoB, .slice adrB y.rels.length caprB])]) Tryd.func18 rfl rfl rfl rfl ?_
 have hS := St.start (ro := ro) hro
 have hsub : ∀ b, ro b → ro b ∨ w.heap.size ≤ b := fun _ h => .inl h
 refine W.seq (W.region ?_)
 refine WL.box (v := .agg #[.string x.name, .slice adoA x.ops.length capoA, .slice adrA x.rels.length caprA]) (cs := [.string x.name, .slice adoA x.ops.length capoA, .slice adrA x.rels.length caprA]) rfl rfl rfl rfl hS ?_
 clear hS; intro w2 b1 hb_b1 hS
 refine WL.box (v := .agg #[.string y.name, .slice adoB y.ops.length capoB, .slice adrB y.rels.length caprB]) (cs := [.string y.name, .slice adoB y.ops.length capoB, .slice adrB y.rels.length caprB]) rfl rfl rfl rfl hS ?_
 clear hS; intro w4 b3 hb_b3 hS
 refine WL.assign rfl rfl rfl (WL.nil (N.seq (W.seq (W.region (WL.fieldAddr fo_30_0 rfl rfl rfl (WL.load1 (v := .string x.name) one_9 rfl rfl rfl (hS.cell 1 rfl rfl) (WL.fieldAddr fo_30_0 rfl rfl rfl (WL.load1 (v := .string y.name) one_9 rfl rfl rfl (hS.cell 0 rfl rfl) (WL.eqStr rfl rfl rfl rfl ?_)))))))))
 refine WL.move rfl rfl rfl ?_
 rcases (Bool.eq_false_or_eq_true (decide (x.name = y.name))).symm with hg5 | hg5
 ·
  refine WL.set 9 (v' := .bool false) rfl (by rw [hg5]) ?_
  refine WL.set 10 (v' := .bool false) rfl (by rw [hg5]) ?_
  have hg5p : ¬ (x.name = y.name) := by simpa using hg5
  refine WL.skp rfl rfl (WL.skp rfl rfl (WL.skp rfl rfl (WL.skp rfl rfl (WL.skp rfl rfl (WL.pick (v := .bool false) rfl rfl rfl rfl rfl rfl (WL.move rfl rfl rfl (WL.skp rfl rfl (WL.skp rfl rfl (WL.skp rfl rfl ?_)))))))))
  refine WL.skp rfl rfl (WL.skp rfl rfl (WL.pick (v := .bool false) rfl rfl rfl rfl rfl rfl (WL.assign rfl rfl rfl (WL.nil (N.seq ?_)))))
  refine Fin.ret1 rfl (v := .bool false) rfl ?_
  have e : (false : Bool) = sameB x y := by unfold sameB; simp_all
  exact ⟨by rw [e], hS.below⟩
 refine WL.set 9 (v' := .bool true) rfl (by rw [hg5]) ?_
 refine WL.set 10 (v' := .bool true) rfl (by rw [hg5]) ?_
 have hg5p : x.name = y.name := by simpa using hg5
 refine WL.fieldAddr fo_30_1 rfl rfl rfl (WL.load1 (v := .slice adoA x.ops.length capoA) one_27 rfl rfl rfl (hS.cell 1 rfl rfl) (WL.fieldAddr fo_30_1 rfl rfl rfl (WL.load1 (v := .slice adoB y.ops.length capoB) one_27 rfl rfl rfl (hS.cell 0 rfl rfl) ?_)))
 refine WL.callF (vs := [.slice adoA x.ops.length capoA, .slice adoB y.ops.length capoB]) Tryd.func36 (by kernel_rfl) rfl rfl rfl (eqOps_ret x.ops y.ops _ _ (ro := ro) (fun b hb => (hS.snap b hb).1) (hsoA.keep hS.alike fun _ _ q => q) (hsoB.keep hS.alike fun _ _ q => q)) ?_
 rintro v w6 ⟨rfl, hbl⟩
 replace hS := hS.grow hbl
 refine WL.pick (v := .bool (decide (x.ops = y.ops))) rfl rfl rfl rfl rfl rfl (WL.move rfl rfl rfl ?_)
 rcases (Bool.eq_false_or_eq_true (decide (x.ops = y.ops))).symm with hg7 | hg7
 ·
  refine WL.set 15 (v' := .bool false) rfl (by rw [hg7]) ?_
  refine WL.set 16 (v' := .bool false) rfl (by rw [hg7]) ?_
  refine WL.set 17 (v' := .bool false) rfl (by rw [hg7]) ?_
  have hg7p : ¬ (x.ops = y.ops) := by simpa using hg7
  refine WL.skp rfl rfl (WL.skp rfl rfl (WL.skp rfl rfl (WL.skp rfl rfl (WL.skp rfl rfl (WL.pick (v := .bool false) rfl rfl rfl rfl rfl rfl (WL.assign rfl rfl rfl (WL.nil (N.seq ?_))))))))
  refine Fin.ret1 rfl (v := .bool false) rfl ?_
  have e : (false : Bool) = sameB x y := by unfold sameB; simp_all
  exact ⟨by rw [e], hS.below⟩
 refine WL.set 15 (v' := .bool true) rfl (by rw [hg7]) ?_
 refine WL.set 16 (v' := .bool true) rfl (by rw [hg7]) ?_
 refine WL.set 17 (v' := .bool true) rfl (by rw [hg7]) ?_
 have hg7p : x.ops = y.ops := by simpa using hg7
 refine WL.fieldAddr fo_30_2 rfl rfl rfl (WL.load1 (v := .slice adrA x.rels.length caprA) one_28 rfl rfl rfl (hS.cell 1 rfl rfl) (WL.fieldAddr fo_30_2 rfl rfl rfl (WL.load1 (v := .slice adrB y.rels.length caprB) one_28 rfl rfl rfl (hS.cell 0 rfl rfl) ?_)))
 refine WL.callF (vs := [.slice adrA x.rels.length caprA, .slice adrB y.rels.length caprB]) Tryd.func37 (by kernel_rfl) rfl rfl rfl (eqRels_ret x.rels y.rels _ _ (ro := ro) (fun b hb => (hS.snap b hb).1) (hsrA.keep hS.alike fun _ _ q => q) (hsrB.keep hS.alike fun _ _ q => q)) ?_
 rintro v w8 ⟨rfl, hbl⟩
 replace hS := hS.grow hbl
 refine WL.pick (v := .bool (decide (x.rels = y.rels))) rfl rfl rfl rfl rfl rfl (WL.assign rfl rfl rfl (WL.nil (N.seq ?_)))
 refine Fin.ret1 rfl (v := .bool (decide (x.rels = y.rels))) rfl ?_
 have e : (decide (x.rels = y.rels) : Bool) = sameB x y := by unfold sameB; simp_all
 exact ⟨by rw [e], hS.below⟩

set_option maxRecDepth 10000 in
set_option maxHeartbeats 4000000 in
theorem rsame17_ret (x y : DCode) (cx cy : List Value) {w : World} {ro : Nat → Prop} (hro : ∀ b, ro b → b < w.heap.size) (hx : CodeC ro w cx x) (hy : CodeC ro w cy y) : Ret Tryd.prog 19 #[.agg cx.toArray, .agg cy.toArray] w fun v w' => v = .bool (sameB x y) ∧ Below w.heap.size w w' := by
 obtain ⟨soA, srA, rfl, hsoA, hsrA, hcnA⟩ := id hx
 obtain ⟨adoA, capoA, rfl, hsoAa, hsoAb, hsoAc, hsoAd⟩ := id hsoA
 have hsoAm : x.ops.length ≤ 9223372036854775807 := by have h1 := hsoAa; have h2 := hsoAb; unfold maxLen at h2; omega
 obtain ⟨adrA, caprA, rfl, hsrAa, hsrAb, hsrAc, hsrAd⟩ := id hsrA
 have hsrAm : x.rels.length ≤ 9223372036854775807 := by have h1 := hsrAa; have h2 := hsrAb; unfold maxLen at h2; omega
 obtain ⟨soB, srB, rfl, hsoB, hsrB, hcnB⟩ := id hy
 obtain ⟨adoB, capoB, rfl, hsoBa, hsoBb, hsoBc, hsoBd⟩ := id hsoB
 have hsoBm : y.ops.length ≤ 9223372036854775807 := by have h1 := hsoBa; have h2 := hsoBb; unfold maxLen at h2; omega
 obtain ⟨adrB, caprB, rfl, hsrBa, hsrBb, hsrBc, hsrBd⟩ := id hsrB
 have hsrBm : y.rels.length ≤ 9223372036854775807 := by have h1 := hsrBa; have h2 := hsrBb; unfold maxLen at h2; omega
 refine Ret.enter (P := Tryd.prog) (n := 28) (args := [.agg #[.string x.name, .slice adoA x.ops.length capoA, .slice adrA x.rels.length caprA], .agg #[.string y.name, .slice adoB y.ops.length capoB, .slice adrB y.rels.length caprB]]) (σ := [(0, .agg #[.string x.name, .slice adoA x.ops.length capoA, .slice adrA x.rels.length caprA]), (1, .agg #[.string y.name, .slice adoB y.ops.length capoB, .slice adrB y.rels.length caprB])]) Tryd.func19 rfl rfl rfl rfl ?_
 have hS := St.start (ro := ro) hro
 have hsub : ∀ b, ro b → ro b ∨ w.heap.size ≤ b := fun _ h => .inl h
 refine W.seq (W.region ?_)
 refine WL.box (v := .agg #[.string x.name, .slice adoA x.ops.length capoA, .slice adrA x.rels.length caprA]) (cs := [.string x.name, .slice adoA x.ops.length capoA, .slice adrA x.rels.length caprA]) rfl rfl rfl rfl hS ?_
 clear hS; intro w2 b1 hb_b1 hS
 refine WL.box (v := .agg #[.string y.name, .slice adoB y.ops.length capoB, .slice adrB y.rels.length caprB]) (cs := [.string y.name, .slice adoB y.ops.length capoB, .slice adrB y.rels.length caprB]) rfl rfl rfl rfl hS ?_
 clear hS; intro w4 b3 hb_b3 hS
 refine WL.assign rfl rfl rfl (WL.nil (N.seq (W.seq (W.region (WL.fieldAddr fo_30_1 rfl rfl rfl (WL.load1 (v := .slice adoA x.ops.length capoA) one_27 rfl rfl rfl (hS.cell 1 rfl rfl) (WL.fieldAddr fo_30_1 rfl rfl rfl (WL.load1 (v := .slice adoB y.ops.length capoB) one_27 rfl rfl rfl (hS.cell 0 rfl rfl) ?_))))))))
 refine WL.callF (vs := [.slice adoA x.ops.length capoA, .slice adoB y.ops.length capoB]) Tryd.func38 (by kernel_rfl) rfl rfl rfl (same01_ret x.ops y.ops _ _ (ro := ro) (fun b hb => (hS.snap b hb).1) (hsoA.keep hS.alike fun _ _ q => q) (hsoB.keep hS.alike fun _ _ q => q)) ?_
 rintro v w5 ⟨rfl, hbl⟩
 replace hS := hS.grow hbl
 refine WL.assign rfl rfl rfl (WL.nil (N.seq (W.seq (W.region (WL.fieldAddr fo_30_2 rfl rfl rfl (WL.load1 (v := .slice adrA x.rels.length caprA) one_28 rfl rfl rfl (hS.cell 1 rfl rfl) (WL.fieldAddr fo_30_2 rfl rfl rfl (WL.load1 (v := .slice adrB y.rels.length caprB) one_28 rfl rfl rfl (hS.cell 0 rfl rfl) ?_))))))))
 refine WL.callF (vs := [.slice adrA x.rels.length caprA, .slice adrB y.rels.length caprB]) Tryd.func39 (by kernel_rfl) rfl rfl rfl (rrels_ret x.rels y.rels _ _ (ro := ro) (fun b hb => (hS.snap b hb).1) (hsrA.keep hS.alike fun _ _ q => q) (hsrB.keep hS.alike fun _ _ q => q)) ?_
 rintro v w6 ⟨rfl, hbl⟩
 replace hS := hS.grow hbl
 refine WL.assign rfl rfl rfl (WL.nil (N.seq (W.seq (W.region (WL.move rfl rfl rfl (WL.move rfl rfl rfl ?_))))))
 rcases (Bool.eq_false_or_eq_true (decide (x.ops = y.ops))).symm with hg7 | hg7
 ·
  refine WL.set 5 (v' := .bool false) rfl (by rw [hg7]) ?_
  refine WL.set 11 (v' := .bool false) rfl (by rw [hg7]) ?_
  refine WL.set 17 (v' := .bool false) rfl (by rw [hg7]) ?_
  refine WL.set 18 (v' := .bool false) rfl (by rw [hg7]) ?_
  have hg7p : ¬ (x.ops = y.ops) := by simpa using hg7
  refine WL.skp rfl rfl (WL.pick (v := .bool false) rfl rfl rfl rfl rfl rfl (WL.move rfl rfl rfl (WL.skp rfl rfl (WL.skp rfl rfl (WL.skp rfl rfl (WL.skp rfl rfl (WL.skp rfl rfl (WL.pick (v := .bool false) rfl rfl rfl rfl rfl rfl (WL.assign rfl rfl rfl ?_)))))))))
  refine WL.nil (N.seq ?_)
  refine Fin.ret1 rfl (v := .bool false) rfl ?_
  have e : (false : Bool) = sameB x y := by unfold sameB; simp_all
  exact ⟨by rw [e], hS.below⟩
 refine WL.set 5 (v' := .bool true) rfl (by rw [hg7]) ?_
 refine WL.set 11 (v' := .bool true) rfl (by rw [hg7]) ?_
 refine WL.set 17 (v' := .bool true) rfl (by rw [hg7]) ?_
 refine WL.set 18 (v' := .bool true) rfl (by rw [hg7]) ?_
 have hg7p : x.ops = y.ops := by simpa using hg7
 refine WL.move rfl rfl rfl (WL.pick (v := .bool (decide (x.rels = y.rels))) rfl rfl rfl rfl rfl rfl (WL.move rfl rfl rfl ?_))
 rcases (Bool.eq_false_or_eq_true (decide (x.rels = y.rels))).symm with hg8 | hg8
 ·
  refine WL.set 6 (v' := .bool false) rfl (by rw [hg8]) ?_
  refine WL.set 16 (v' := .bool false) rfl (by rw [hg8]) ?_
  refine WL.set 19 (v' := .bool false) rfl (by rw [hg8]) ?_
  refine WL.set 20 (v' := .bool false) rfl (by rw [hg8]) ?_
  refine WL.set 21 (v' := .bool false) rfl (by rw [hg8]) ?_
  have hg8p : ¬ (x.rels = y.rels) := by simpa using hg8
  refine WL.skp rfl rfl (WL.skp rfl rfl (WL.skp rfl rfl (WL.skp rfl rfl (WL.skp rfl rfl (WL.pick (v := .bool false) rfl rfl rfl rfl rfl rfl (WL.assign rfl rfl rfl (WL.nil (N.seq ?_))))))))
  refine Fin.ret1 rfl (v := .bool false) rfl ?_
  have e : (false : Bool) = sameB x y := by unfold sameB; simp_all
  exact ⟨by rw [e], hS.below⟩
 refine WL.set 6 (v' := .bool true) rfl (by rw [hg8]) ?_
 refine WL.set 16 (v' := .bool true) rfl (by rw [hg8]) ?_
 refine WL.set 19 (v' := .bool true) rfl (by rw [hg8]) ?_
 refine WL.set 20 (v' := .bool true) rfl (by rw [hg8]) ?_
 refine WL.set 21 (v' := .bool true) rfl (by rw [hg8]) ?_
 have hg8p : x.rels = y.rels := by simpa using hg8
 refine WL.fieldAddr fo_30_0 rfl rfl rfl (WL.load1 (v := .string x.name) one_9 rfl rfl rfl (hS.cell 1 rfl rfl) (WL.fieldAddr fo_30_0 rfl rfl rfl (WL.load1 (v := .string y.name) one_9 rfl rfl rfl (hS.cell 0 rfl rfl) (WL.eqStr rfl rfl rfl rfl (WL.pick (v := .bool (decide (x.name = y.name))) rfl rfl rfl rfl rfl rfl (WL.assign rfl rfl rfl (WL.nil (N.seq ?_))))))))
 refine Fin.ret1 rfl (v := .bool (decide (x.name = y.name))) rfl ?_
 have e : (decide (x.name = y.name) : Bool) = sameB x y := by unfold sameB; simp_all
 exact ⟨by rw [e], hS.below⟩

set_option maxRecDepth 10000 in
set_option maxHeartbeats 4000000 in
theorem rsameAll_ret (l : List DCode) (vx vy : Value) {w : World} {ro : Nat → Prop} (hro : ∀ b, ro b → b < w.heap.size) (hx : SlV ro w 3 (CodeC ro w) vx l) (hy : SlV ro w 3 (CodeC ro w) vy l) : Ret Tryd.prog 15 #[vx, vy] w fun v w' => v = .bool true ∧ Below w.heap.size w w' := by
 obtain ⟨ada, capa, rfl, hxa, hxb, hxc, hxd⟩ := id hx
 have hxm : l.length ≤ 9223372036854775807 := by have h1 := hxa; have h2 := hxb; unfold maxLen at h2; omega
 obtain ⟨adb, capb, rfl, hya, hyb, hyc, hyd⟩ := id hy
 have hym : l.length ≤ 9223372036854775807 := by have h1 := hya; have h2 := hyb; unfold maxLen at h2; omega
 refine Ret.enter (P := Tryd.prog) (n := 29) (args := [.slice ada l.length capa, .slice adb l.length capb]) (σ := [(0, .slice ada l.length capa), (1, .slice adb l.length capb)]) Tryd.func15 rfl rfl rfl rfl ?_
 have hS := St.start (ro := ro) hro
 have hsub : ∀ b, ro b → ro b ∨ w.heap.size ≤ b := fun _ h => .inl h
 refine W.seq (W.region (WL.assign rfl rfl rfl (WL.nil (N.seq (W.seq (W.seq (W.region (WL.move rfl rfl rfl (WL.lenSlice Tryd.underlying47 rfl rfl rfl ?_)))))))))
 refine WL.move rfl rfl rfl (WL.lenSlice Tryd.underlying47 rfl rfl rfl (WL.bin rfl rfl rfl rfl rfl ?_))
 refine WL.set 11 (v' := .bool false) rfl (by simp) ?_
 refine WL.nil (N.seq (W.condF rfl (W.skip (N.seq (W.seq (W.seq (W.region (WL.assign rfl rfl rfl (WL.nil ?_)))))))))
 refine N.seq (W.block ?_)
 refine W.loop (α := Nat) (fun (i : Nat) => [(0, .slice ada l.length capa), (1, .slice adb l.length capb), (5, .int .i64 (i : Int))]) (fun (i : Nat) u => St w w u ro [] [] ∧ i ≤ l.length) (fun (i : Nat) => l.length - i) 0 ⟨rfl, rfl, rfl, trivial⟩ ⟨hS, Nat.zero_le _⟩ ?_
 clear hS
 rintro i w1 ⟨hS, hil⟩
 refine W.seq (W.seq (W.region (WL.move rfl rfl rfl (WL.move rfl rfl rfl (WL.lenSlice Tryd.underlying47 rfl rfl rfl (WL.bin rfl rfl rfl rfl rfl (WL.nil (N.seq ?_))))))))
 refine W.cond rfl (fun hc2 => ?_) (fun hc2 => ?_)
 ·
  have hc2p : (i : Int) < (l.length : Int) := by simpa using hc2
  refine W.skip (N.seq (W.seq (W.block (W.seq ?_))))
  have hj3 : i < l.length := by omega
  obtain ⟨x3, hx3, b3, o3, cs3, hE3, hr3, _, hc3, hQ3⟩ := opn hxd hj3
  obtain ⟨so3, sr3, rfl, hso3, hsr3, hcn3⟩ := id hQ3
  obtain ⟨ado3, capo3, rfl, hso3a, hso3b, hso3c, hso3d⟩ := id hso3
  have hso3m : x3.ops.length ≤ 9223372036854775807 := by have h1 := hso3a; have h2 := hso3b; unfold maxLen at h2; omega
  obtain ⟨adr3, capr3, rfl, hsr3a, hsr3b, hsr3c, hsr3d⟩ := id hsr3
  have hsr3m : x3.rels.length ≤ 9223372036854775807 := by have h1 := hsr3a; have h2 := hsr3b; unfold maxLen at h2; omega
  have hj4 : i < l.length := by omega
  obtain ⟨x4, hx4, b4, o4, cs4, hE4, hr4, _, hc4, hQ4⟩ := opn hyd hj4
  obtain ⟨so4, sr4, rfl, hso4, hsr4, hcn4⟩ := id hQ4
  obtain ⟨ado4, capo4, rfl, hso4a, hso4b, hso4c, hso4d⟩ := id hso4
  have hso4m : x4.ops.length ≤ 9223372036854775807 := by have h1 := hso4a; have h2 := hso4b; unfold maxLen at h2; omega
  obtain ⟨adr4, capr4, rfl, hsr4a, hsr4b, hsr4c, hsr4d⟩ := id hsr4
  have hsr4m : x4.rels.length ≤ 9223372036854775807 := by have h1 := hsr4a; have h2 := hsr4b; unfold maxLen at h2; omega
  refine W.drawL (by kernel_rfl) 9 ((.q (.slice ada l.length capa)) :: (.q (.int .i64 (i : Int))) :: (.q (.pointer (some ⟨b3, o3 + i * 3, none⟩))) :: (.q (.agg #[.string x3.name, .slice ado3 x3.ops.length capo3, .slice adr3 x3.rels.length capr3])) :: (.q (.slice adb l.length capb)) :: (.q (.int .i64 (i : Int))) :: (.q (.pointer (some ⟨b4, o4 + i * 3, none⟩))) :: (.q (.agg #[.string x4.name, .slice ado4 x4.ops.length capo4, .slice adr4 x4.rels.length capr4])) :: (.q (.bool true)) :: []) (by kernel_rfl) (by kernel_rfl) [(0, .slice ada l.length capa), (1, .slice adb l.length capb), (5, .int .i64 (i : Int))] ⟨rfl, rfl, rfl, trivial⟩ (by kernel_rfl) hS ?_ ?_
  ·
   refine And.intro (fun β w hS => ?_) ?_
   ·
    refine WL.sub (σ' := [(0, .slice ada l.length capa)]) ⟨rfl, trivial⟩ ?_
    refine WL.move rfl rfl rfl ?_
    exact WL.nil (N.cut () ⟨rfl, trivial⟩ (Below.refl _ _))
   refine And.intro (fun β w hS => ?_) ?_
   ·
    refine WL.sub (σ' := [(5, .int .i64 (i : Int))]) ⟨rfl, trivial⟩ ?_
    refine WL.move rfl rfl rfl ?_
    exact WL.nil (N.cut () ⟨rfl, trivial⟩ (Below.refl _ _))
   refine And.intro (fun β w hS => ?_) ?_
   ·
    refine WL.sub (σ' := [(18, .slice ada l.length capa), (19, .int .i64 (i : Int))]) ⟨rfl, rfl, trivial⟩ ?_
    refine WL.indexAddrE (j := i) Tryd.underlying47 isz_30 rfl rfl rfl rfl hj3 hE3 ?_
    exact WL.nil (N.cut () ⟨rfl, trivial⟩ (Below.refl _ _))
   refine And.intro (fun β w hS => ?_) ?_
   ·
    refine WL.sub (σ' := [(20, .pointer (some ⟨b3, o3 + i * 3, none⟩))]) ⟨rfl, trivial⟩ ?_
    refine WL.loadN (cs := [.string x3.name, .slice ado3 x3.ops.length capo3, .slice adr3 x3.rels.length capr3]) agg_30 rfl rfl rfl rfl (hS.roCells hr3 hc3) ?_
    exact WL.nil (N.cut () ⟨rfl, trivial⟩ (Below.refl _ _))
   refine And.intro (fun β w hS => ?_) ?_
   ·
    refine WL.sub (σ' := [(1, .slice adb l.length capb)]) ⟨rfl, trivial⟩ ?_
    refine WL.move rfl rfl rfl ?_
    exact WL.nil (N.cut () ⟨rfl, trivial⟩ (Below.refl _ _))
   refine And.intro (fun β w hS => ?_) ?_
   ·
    refine WL.sub (σ' := [(5, .int .i64 (i : Int))]) ⟨rfl, trivial⟩ ?_
    refine WL.move rfl rfl rfl ?_
    exact WL.nil (N.cut () ⟨rfl, trivial⟩ (Below.refl _ _))
   refine And.intro (fun β w hS => ?_) ?_
   ·
    refine WL.sub (σ' := [(22, .slice adb l.length capb), (23, .int .i64 (i : Int))]) ⟨rfl, rfl, trivial⟩ ?_
    refine WL.indexAddrE (j := i) Tryd.underlying47 isz_30 rfl rfl rfl rfl hj4 hE4 ?_
    exact WL.nil (N.cut () ⟨rfl, trivial⟩ (Below.refl _ _))
   refine And.intro (fun β w hS => ?_) ?_
   ·
    refine WL.sub (σ' := [(24, .pointer (some ⟨b4, o4 + i * 3, none⟩))]) ⟨rfl, trivial⟩ ?_
    refine WL.loadN (cs := [.string x4.name, .slice ado4 x4.ops.length capo4, .slice adr4 x4.rels.length capr4]) agg_30 rfl rfl rfl rfl (hS.roCells hr4 hc4) ?_
    exact WL.nil (N.cut () ⟨rfl, trivial⟩ (Below.refl _ _))
   refine And.intro (fun β w hS => ?_) ?_
   ·
    refine WL.sub (σ' := [(21, .agg #[.string x3.name, .slice ado3 x3.ops.length capo3, .slice adr3 x3.rels.length capr3]), (25, .agg #[.string x4.name, .slice ado4 x4.ops.length capo4, .slice adr4 x4.rels.length capr4])]) ⟨rfl, rfl, trivial⟩ ?_
    refine WL.callF (vs := [.agg #[.string x3.name, .slice ado3 x3.ops.length capo3, .slice adr3 x3.rels.length capr3], .agg #[.string x4.name, .slice ado4 x4.ops.length capo4, .slice adr4 x4.rels.length capr4]]) Tryd.func19 (by kernel_rfl) rfl rfl rfl ((by have h := rsame17_ret x3 x4 _ _ (ro := ro) (w := w) (fun b hb => (hS.snap b hb).1) (hQ3.keep hS.alike) (hQ4.keep hS.alike); rw [show sameB x3 x4 = true by rw [show x4 = x3 from Option.some.inj (hx4.symm.trans hx3)]; exact sameB_self _] at h; exact h)) ?_
    rintro v w6 ⟨rfl, hbl⟩
    replace hS := hS.grow hbl
    exact WL.nil (N.cut () ⟨rfl, trivial⟩ hbl)
   trivial
  clear hS; intro w7 β hS
  refine WL.sub (σ' := [(0, .slice ada l.length capa), (1, .slice adb l.length capb), (5, .int .i64 (i : Int)), (26, .bool true)]) ⟨rfl, rfl, rfl, rfl, trivial⟩ ?_
  refine WL.assign rfl rfl rfl (WL.nil (N.seq (W.seq (W.region (WL.move rfl rfl rfl (WL.not rfl rfl rfl ?_))))))
  refine WL.set 28 (v' := .bool false) rfl rfl ?_
  refine WL.nil (N.seq (W.condF rfl (W.skip (N.blk (N.seq (W.region (WL.move rfl rfl rfl ?_)))))))
  refine WL.add (c := (i : Int) + 1) rfl rfl rfl rfl (rfl) (by omega) ?_
  refine WL.assign rfl rfl rfl (WL.nil ?_)
  exact N.loop (i + 1) ⟨rfl, rfl, rfl, trivial⟩ ⟨hS, by omega⟩ (by first | omega | (simp only; omega))
 have hc2p : ¬ ((i : Int) < (l.length : Int)) := by simpa using hc2
 refine W.exit (X.seq (X.loop (X.blk (N.seq (W.seq (W.region (WL.assign rfl rfl rfl (WL.nil (N.seq ?_)))))))))
 refine Fin.ret1 rfl (v := .bool true) rfl ?_
 exact ⟨rfl, hS.below⟩

end Go.Proofs.YtcmmhfknkldmcaaDoor
