/-
  Two aggregates that are compared. No condition beyond those that each theorem states.
-/
import Derived.Test.YtcmmhfknkldmcaaDoorA20
import Derived.Test.YtcmmhfknkldmcaaDoorK4
import Derived.Test.YtcmmhfknkldmcaaDoorG10
namespace Go.Proofs.YtcmmhfknkldmcaaDoor
open Go.RowKit

section
variable {P : Program} {n : Nat} {R : Exit → Act → World → Prop} {k : Kt} {σ : Env} {w : World} {ops : Array Oper} {rest : List Oper} {d : Nat}
variable {ty : TypeId} {pos : String} {af : Array Edge} {g : Option (Nat × Bool)}
theorem WL.eqAggO {xT yT : TypeId} {x y : Operand} {xs ys : Array Value} (r : Bool) (hf : P.underlying xT = some (.struct (P.fieldsOf xT))) (hs : P.stoodInHeld xT = false) (hm : P.eqGuardType P.depth xT = false)
    (he : ∀ w, (Op.eqFields 9999 xs ys (P.fieldsOf xT).toList).run P w = .ok r w) (hg : want ops σ g = some true) (hd : Nat.blt d n = true)
    (hx : ev σ x = some (.agg xs)) (hy : ev σ y = some (.agg ys))
    (h : WL P n R ops rest k ((d, .bool r) :: σ) w) : WL P n R ops (⟨some d, .binOp .eql xT x y yT, ty, pos, af, g⟩ :: rest) k σ w :=
  WL.valW (o := ⟨some d, .binOp .eql xT x y yT, ty, pos, af, g⟩) hg hd (fun a ha => by
    have h1 := run_eql_struct (P := P) w xT xs ys
    rw [run_equalIn_agg w 9999 xT xs ys hf hs, he w] at h1
    simp [execOp, ha.eval hx, ha.eval hy, run_eqGuard_agg, hm, h1]) h
end
end Go.Proofs.YtcmmhfknkldmcaaDoor

namespace Go.Proofs.YtcmmhfknkldmcaaDoor
open Go.RowKit
theorem okg_of5 {f : DFunc} {ro : Nat → Prop} {w : World} {cf : List Value} (h : func5 f = true) (hx : FuncC ro w cf f) : OkG f := by
  obtain ⟨s, _, hb, _, _, _⟩ := hx
  obtain ⟨ad, cap, _, _, _, _, he⟩ := hb
  have hblk : ∀ b ∈ f.blocks, ∃ cs, BlockC ro w cs b := fun b hb => by
    obtain ⟨i, hi⟩ := List.mem_iff_getElem?.1 hb
    obtain ⟨_, _, cs, _, _, _, _, q⟩ := he i b hi
    exact ⟨cs, q⟩
  have hins : ∀ b ∈ f.blocks, ∀ x ∈ b.ins, inU x.k ∧ x.name.size ≤ maxLen := fun b hb x hx => by
    obtain ⟨cs, s, ts, _, hi, _, _⟩ := hblk b hb
    obtain ⟨ad, cap, _, _, _, _, he⟩ := hi
    obtain ⟨i, hi⟩ := List.mem_iff_getElem?.1 hx
    obtain ⟨_, _, cs, _, _, _, _, sv, _, _, _, _, _, h1, h2⟩ := he i x hi
    exact ⟨h1, h2⟩
  have hall := func5_all h
  have hp : 0 ≤ f.params ∧ f.params ≤ 6 := by
    unfold func5 at h
    split at h
    · cases h
    · omega
  have hi5 : ∀ b ∈ f.blocks, ∀ x ∈ b.ins, ∃ n, inst5 x n = true := fun b hb x hx => by
    obtain ⟨i, hi⟩ := List.mem_iff_getElem?.1 hx
    exact ⟨_, allFrom_at b.ins b.params i x (block5_more (hall.2 b hb)).1 hi⟩
  refine ⟨hall.1, hp.1, hp.2, fun b hb => ok16_of5 h hb, fun b hb => (block5_all (hall.2 b hb)).2, fun b hb x hx => ?_, fun b hb => ?_, fun b hb => ?_⟩
  · obtain ⟨n, hn⟩ := hi5 b hb x hx
    have h5 := inst5_all hn
    exact ⟨(hins b hb x hx).1, h5.2.2.1, h5.2.2.2, h5.1, (hins b hb x hx).2⟩
  · have ht := term5_all (block5_more (hall.2 b hb)).2 h
    exact ⟨by omega, ht.1, ht.2.1⟩
  · have ht := term5_all (block5_more (hall.2 b hb)).2 h
    exact ⟨ht.2.2.2.2.2.2.2.1, ht.2.2.2.2.2.2.2.2⟩
/-- An instruction's fields, one by one. -/
theorem eqOp {P : Program} {t : TypeId} {f0 f1 f2 f3 f4 : Field} (hf : (P.fieldsOf t).toList = [f0, f1, f2, f3, f4]) (n0 : f0.name ≠ "_") (n1 : f1.name ≠ "_") (n2 : f2.name ≠ "_") (n3 : f3.name ≠ "_") (n4 : f4.name ≠ "_")
    (o0 : f0.offset = 0) (o1 : f1.offset = 1) (o2 : f2.offset = 2) (o3 : f3.offset = 3) (o4 : f4.offset = 4) (k0 : P.plainKey f0.type = true) (k1 : P.plainKey f1.type = true) (k2 : P.plainKey f2.type = true) (k3 : P.plainKey f3.type = true) (k4 : P.plainKey f4.type = true)
    (u0 : P.underlying f0.type = some (.int .i64)) (u1 : P.underlying f1.type = some (.int .i64)) (u2 : P.underlying f2.type = some (.int .i64)) (u3 : P.underlying f3.type = some (.int .i64)) (u4 : P.underlying f4.type = some (.int .i64)) (x y : DOp) (w : World) :
    (Op.eqFields 9999 (opL x).toArray (opL y).toArray (P.fieldsOf t).toList).run P w = .ok (decide (x = y)) w := by
  rw [hf]
  have p0 : ∀ a b c e f : Value, (part f0.type #[a, b, c, e, f] 0).run P w = .ok a w := fun _ _ _ _ _ => run_part_plain w k0 rfl
  have p1 : ∀ a b c e f : Value, (part f1.type #[a, b, c, e, f] 1).run P w = .ok b w := fun _ _ _ _ _ => run_part_plain w k1 rfl
  have p2 : ∀ a b c e f : Value, (part f2.type #[a, b, c, e, f] 2).run P w = .ok c w := fun _ _ _ _ _ => run_part_plain w k2 rfl
  have p3 : ∀ a b c e f : Value, (part f3.type #[a, b, c, e, f] 3).run P w = .ok e w := fun _ _ _ _ _ => run_part_plain w k3 rfl
  have p4 : ∀ a b c e f : Value, (part f4.type #[a, b, c, e, f] 4).run P w = .ok f w := fun _ _ _ _ _ => run_part_plain w k4 rfl
  have e0 := fun a b => run_equalIn_int (P := P) w 9998 _ .i64 _ a b u0
  have e1 := fun a b => run_equalIn_int (P := P) w 9998 _ .i64 _ a b u1
  have e2 := fun a b => run_equalIn_int (P := P) w 9998 _ .i64 _ a b u2
  have e3 := fun a b => run_equalIn_int (P := P) w 9998 _ .i64 _ a b u3
  have e4 := fun a b => run_equalIn_int (P := P) w 9998 _ .i64 _ a b u4
  obtain ⟨a, b, c, e, f⟩ := x
  obtain ⟨a', b', c', e', f'⟩ := y
  show (Op.eqFields 9999 #[.int .i64 a, .int .i64 b, .int .i64 c, .int .i64 e, .int .i64 f] #[.int .i64 a', .int .i64 b', .int .i64 c', .int .i64 e', .int .i64 f'] [f0, f1, f2, f3, f4]).run P w = _
  simp only [Op.eqFields, n0, n1, n2, n3, n4, o0, o1, o2, o3, o4, ne_eq, not_false_eq_true, if_true, Sem.run_bind, p0, p1, p2, p3, p4, Result.andThen_ok, e0, e1, e2, e3, e4, Sem.run_ite, Sem.run_pure, DOp.mk.injEq]
  by_cases h0 : a = a' <;> by_cases h1 : b = b' <;> by_cases h2 : c = c' <;> by_cases h3 : e = e' <;> by_cases h4 : f = f' <;> simp [h0, h1, h2, h3, h4]
def litX : List DOp := [⟨12, 5, 0, 0, 2⟩, ⟨17, 5, 5, 0, 11⟩, ⟨12, 5, 5, 0, 3⟩]
theorem lit_4099 : lit 5 4099 = litX := by
  unfold lit
  rw [litD_more (by decide), litD_last (by decide)]
  decide
end Go.Proofs.YtcmmhfknkldmcaaDoor

namespace Go.Proofs.YtcmmhfknkldmcaaDoor
open Go.RowKit

theorem opFields : Tryd.prog.underlying 36 = some (.struct (Tryd.prog.fieldsOf 36)) := by rw [Program.fieldsOf, Tryd.underlying36]
theorem eqOpT (x y : DOp) (w : World) : (Op.eqFields 9999 (opL x).toArray (opL y).toArray (Tryd.prog.fieldsOf 36).toList).run Tryd.prog w = .ok (decide (x = y)) w :=
  eqOp (by rw [Program.fieldsOf, Tryd.underlying36]) (by decide) (by decide) (by decide) (by decide) (by decide) rfl rfl rfl rfl rfl (by simp [Program.plainKey, Tryd.underlying3]) (by simp [Program.plainKey, Tryd.underlying3]) (by simp [Program.plainKey, Tryd.underlying3]) (by simp [Program.plainKey, Tryd.underlying3]) (by simp [Program.plainKey, Tryd.underlying2]) (by exact Tryd.underlying3) (by exact Tryd.underlying3) (by exact Tryd.underlying3) (by exact Tryd.underlying3) (by exact Tryd.underlying2) x y w

set_option maxRecDepth 10000 in
set_option maxHeartbeats 4000000 in
theorem shown17_ret {w : World} {ro : Nat → Prop} (hro : ∀ b, ro b → b < w.heap.size) : Ret Tryd.prog 8 #[] w fun v w' => v = .bool true ∧ Below w.heap.size w w' := by
 refine Ret.enter (P := Tryd.prog) (n := 27) (args := []) (σ := []) Tryd.func8 rfl rfl rfl rfl ?_
 have hS := St.start (ro := ro) hro
 have hsub : ∀ b, ro b → ro b ∨ w.heap.size ≤ b := fun _ h => .inl h
 refine W.seq (W.region (WL.assign rfl rfl rfl (WL.nil (N.seq (W.seq (W.region ?_))))))
 refine WL.callF (vs := [.int .i64 5, .int .u64 4099]) Tryd.func20 (by kernel_rfl) rfl rfl rfl (lit_ret 5 4099 (inK (by omega)) (by decide) (ro := ro) (fun b hb => (hS.snap b hb).1)) ?_
 rintro vl w1 ⟨hlv, hbl⟩
 rw [lit_4099] at hlv
 replace hS := hS.readNew hbl
 replace hlv := SlV.keep hlv (ro' := (roFrom ro w w1)) (w' := w1) (Q' := OpC) (fun x hx => ⟨.inr hx, rfl⟩) (fun _ _ h => h)
 obtain ⟨adl, capl, rfl, hlva, hlvb, hlvc, hlvd⟩ := id hlv
 have hlvm : litX.length ≤ 9223372036854775807 := by have h1 := hlva; have h2 := hlvb; unfold maxLen at h2; omega
 refine WL.assign rfl rfl rfl (WL.nil (N.seq (W.seq (W.region (WL.move rfl rfl rfl (WL.lenSlice Tryd.underlying27 rfl rfl rfl (WL.bin rfl rfl rfl rfl rfl ?_)))))))
 refine WL.set 5 (v' := .bool true) rfl (rfl) ?_
 refine WL.move rfl rfl rfl (WL.move rfl rfl rfl ?_)
 have hj3 : 0 < litX.length := by decide
 obtain ⟨x3, hx3, b3, o3, cs3, hE3, hr3, _, hc3, hQ3⟩ := opn hlvd hj3
 obtain rfl : (⟨12, 5, 0, 0, 2⟩ : DOp) = x3 := Option.some.inj hx3
 obtain ⟨rfl, hop3⟩ := hQ3
 refine WL.indexAddrE (j := 0) Tryd.underlying27 isz_36 rfl rfl rfl rfl hj3 hE3 (WL.loadN (cs := [.int .i64 ((⟨12, 5, 0, 0, 2⟩ : DOp).kind), .int .i64 ((⟨12, 5, 0, 0, 2⟩ : DOp).rd), .int .i64 ((⟨12, 5, 0, 0, 2⟩ : DOp).a), .int .i64 ((⟨12, 5, 0, 0, 2⟩ : DOp).b), .int .i64 ((⟨12, 5, 0, 0, 2⟩ : DOp).imm)]) agg_36 rfl rfl rfl rfl (hS.roCells hr3 hc3) ?_)
 refine WL.build (ps := [(0, .int .i64 12), (1, .int .i64 5), (4, .int .i64 2)]) (cs := [.int .i64 12, .int .i64 5, .int .i64 0, .int .i64 0, .int .i64 2]) rfl rfl rfl (by kernel_rfl) ?_
 refine WL.eqAggO (decide ((⟨12, 5, 0, 0, 2⟩ : DOp) = (⟨12, 5, 0, 0, 2⟩ : DOp))) opFields Tryd.stoodInHeld36 Tryd.eqGuardType36 (eqOpT (⟨12, 5, 0, 0, 2⟩ : DOp) (⟨12, 5, 0, 0, 2⟩ : DOp)) rfl rfl rfl rfl ?_
 refine WL.set 11 (v' := .bool true) rfl (by rw [decide_eq_true rfl]) ?_
 refine WL.pick (v := .bool true) rfl rfl rfl rfl rfl rfl (WL.move rfl rfl rfl (WL.move rfl rfl rfl ?_))
 have hj4 : 1 < litX.length := by decide
 obtain ⟨x4, hx4, b4, o4, cs4, hE4, hr4, _, hc4, hQ4⟩ := opn hlvd hj4
 obtain rfl : (⟨17, 5, 5, 0, 11⟩ : DOp) = x4 := Option.some.inj hx4
 obtain ⟨rfl, hop4⟩ := hQ4
 refine WL.indexAddrE (j := 1) Tryd.underlying27 isz_36 rfl rfl rfl rfl hj4 hE4 (WL.loadN (cs := [.int .i64 ((⟨17, 5, 5, 0, 11⟩ : DOp).kind), .int .i64 ((⟨17, 5, 5, 0, 11⟩ : DOp).rd), .int .i64 ((⟨17, 5, 5, 0, 11⟩ : DOp).a), .int .i64 ((⟨17, 5, 5, 0, 11⟩ : DOp).b), .int .i64 ((⟨17, 5, 5, 0, 11⟩ : DOp).imm)]) agg_36 rfl rfl rfl rfl (hS.roCells hr4 hc4) ?_)
 refine WL.build (ps := [(0, .int .i64 17), (1, .int .i64 5), (2, .int .i64 5), (4, .int .i64 11)]) (cs := [.int .i64 17, .int .i64 5, .int .i64 5, .int .i64 0, .int .i64 11]) rfl rfl rfl (by kernel_rfl) ?_
 refine WL.eqAggO (decide ((⟨17, 5, 5, 0, 11⟩ : DOp) = (⟨17, 5, 5, 0, 11⟩ : DOp))) opFields Tryd.stoodInHeld36 Tryd.eqGuardType36 (eqOpT (⟨17, 5, 5, 0, 11⟩ : DOp) (⟨17, 5, 5, 0, 11⟩ : DOp)) rfl rfl rfl rfl ?_
 refine WL.set 18 (v' := .bool true) rfl (by rw [decide_eq_true rfl]) ?_
 refine WL.pick (v := .bool true) rfl rfl rfl rfl rfl rfl (WL.move rfl rfl rfl (WL.move rfl rfl rfl ?_))
 have hj5 : 2 < litX.length := by decide
 obtain ⟨x5, hx5, b5, o5, cs5, hE5, hr5, _, hc5, hQ5⟩ := opn hlvd hj5
 obtain rfl : (⟨12, 5, 5, 0, 3⟩ : DOp) = x5 := Option.some.inj hx5
 obtain ⟨rfl, hop5⟩ := hQ5
 refine WL.indexAddrE (j := 2) Tryd.underlying27 isz_36 rfl rfl rfl rfl hj5 hE5 (WL.loadN (cs := [.int .i64 ((⟨12, 5, 5, 0, 3⟩ : DOp).kind), .int .i64 ((⟨12, 5, 5, 0, 3⟩ : DOp).rd), .int .i64 ((⟨12, 5, 5, 0, 3⟩ : DOp).a), .int .i64 ((⟨12, 5, 5, 0, 3⟩ : DOp).b), .int .i64 ((⟨12, 5, 5, 0, 3⟩ : DOp).imm)]) agg_36 rfl rfl rfl rfl (hS.roCells hr5 hc5) ?_)
 refine WL.build (ps := [(0, .int .i64 12), (1, .int .i64 5), (2, .int .i64 5), (4, .int .i64 3)]) (cs := [.int .i64 12, .int .i64 5, .int .i64 5, .int .i64 0, .int .i64 3]) rfl rfl rfl (by kernel_rfl) ?_
 refine WL.eqAggO (decide ((⟨12, 5, 5, 0, 3⟩ : DOp) = (⟨12, 5, 5, 0, 3⟩ : DOp))) opFields Tryd.stoodInHeld36 Tryd.eqGuardType36 (eqOpT (⟨12, 5, 5, 0, 3⟩ : DOp) (⟨12, 5, 5, 0, 3⟩ : DOp)) rfl rfl rfl rfl ?_
 refine WL.set 25 (v' := .bool true) rfl (by rw [decide_eq_true rfl]) ?_
 refine WL.pick (v := .bool true) rfl rfl rfl rfl rfl rfl (WL.assign rfl rfl rfl (WL.nil (N.seq ?_)))
 refine Fin.ret1 rfl (v := .bool true) rfl ?_
 exact ⟨rfl, hS.below⟩

end Go.Proofs.YtcmmhfknkldmcaaDoor

namespace Go.Proofs.YtcmmhfknkldmcaaDoor
open Go.RowKit
theorem siz_36 : tySize Tryd.prog 36 5 = true := by kernel_rfl
end Go.Proofs.YtcmmhfknkldmcaaDoor

namespace Go.Proofs.YtcmmhfknkldmcaaDoor
open Go.RowKit
end Go.Proofs.YtcmmhfknkldmcaaDoor
