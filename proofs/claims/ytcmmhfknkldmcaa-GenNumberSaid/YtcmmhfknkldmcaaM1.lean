/-
  Contracts of layer 17 (gen). No condition beyond those that each theorem states.
-/
import Derived.Test.YtcmmhfknkldmcaaK0
namespace Go.Proofs.Ytcmmhfknkldmcaa
open Go.RowKit
theorem agg_45 : tyAgg Try.prog 45 5 = true := by kernel_rfl
theorem isz_45 : (Try.prog.info? 45).map (·.size) = some 5 := by kernel_rfl
theorem opFields : Try.prog.underlying 45 = some (.struct (Try.prog.fieldsOf 45)) := by rw [Program.fieldsOf, Try.underlying45]
theorem eqOpT (x y : DOp) (w : World) : (Op.eqFields 9999 (opL x).toArray (opL y).toArray (Try.prog.fieldsOf 45).toList).run Try.prog w = .ok (decide (x = y)) w :=
  eqOp (by rw [Program.fieldsOf, Try.underlying45]) (by decide) (by decide) (by decide) (by decide) (by decide) rfl rfl rfl rfl rfl (by simp [Program.plainKey, Try.underlying3]) (by simp [Program.plainKey, Try.underlying3]) (by simp [Program.plainKey, Try.underlying3]) (by simp [Program.plainKey, Try.underlying3]) (by simp [Program.plainKey, Try.underlying2]) (by exact Try.underlying3) (by exact Try.underlying3) (by exact Try.underlying3) (by exact Try.underlying3) (by exact Try.underlying2) x y w

set_option maxRecDepth 10000 in
set_option maxHeartbeats 4000000 in
theorem shown17_ret {w : World} {ro : Nat → Prop} (hro : ∀ b, ro b → b < w.heap.size) : Ret Try.prog 5 #[] w fun v w' => v = .bool true ∧ Below w.heap.size w w' := by
 refine Ret.enter (P := Try.prog) (n := 27) (args := []) (σ := []) Try.func5 rfl rfl rfl rfl ?_
 have hS := St.start (ro := ro) hro
 have hsub : ∀ b, ro b → ro b ∨ w.heap.size ≤ b := fun _ h => .inl h
 refine W.seq (W.region (WL.assign rfl rfl rfl (WL.nil (N.seq (W.seq (W.region ?_))))))
 refine WL.callF (vs := [.int .i64 5, .int .u64 4099]) Try.func6 (by kernel_rfl) rfl rfl rfl (lit_ret 5 4099 (inK (by omega)) (by decide) (ro := ro) (fun b hb => (hS.snap b hb).1)) ?_
 rintro vl w1 ⟨hlv, hbl⟩
 rw [lit_4099] at hlv
 replace hS := hS.readNew hbl
 replace hlv := SlV.keep hlv (ro' := (roFrom ro w w1)) (w' := w1) (Q' := OpC) (fun x hx => ⟨.inr hx, rfl⟩) (fun _ _ h => h)
 obtain ⟨adl, capl, rfl, hlva, hlvb, hlvc, hlvd⟩ := id hlv
 have hlvm : litX.length ≤ 9223372036854775807 := by have h1 := hlva; have h2 := hlvb; unfold maxLen at h2; omega
 refine WL.assign rfl rfl rfl (WL.nil (N.seq (W.seq (W.region (WL.move rfl rfl rfl (WL.lenSlice Try.underlying24 rfl rfl rfl (WL.bin rfl rfl rfl rfl rfl ?_)))))))
 refine WL.set 5 (v' := .bool true) rfl (rfl) ?_
 refine WL.move rfl rfl rfl (WL.move rfl rfl rfl ?_)
 have hj3 : 0 < litX.length := by decide
 obtain ⟨x3, hx3, b3, o3, cs3, hE3, hr3, _, hc3, hQ3⟩ := opn hlvd hj3
 obtain rfl : (⟨12, 5, 0, 0, 2⟩ : DOp) = x3 := Option.some.inj hx3
 obtain ⟨rfl, hop3⟩ := hQ3
 refine WL.indexAddrE (j := 0) Try.underlying24 isz_45 rfl rfl rfl rfl hj3 hE3 (WL.loadN (cs := [.int .i64 ((⟨12, 5, 0, 0, 2⟩ : DOp).kind), .int .i64 ((⟨12, 5, 0, 0, 2⟩ : DOp).rd), .int .i64 ((⟨12, 5, 0, 0, 2⟩ : DOp).a), .int .i64 ((⟨12, 5, 0, 0, 2⟩ : DOp).b), .int .i64 ((⟨12, 5, 0, 0, 2⟩ : DOp).imm)]) agg_45 rfl rfl rfl rfl (hS.roCells hr3 hc3) ?_)
 refine WL.build (ps := [(0, .int .i64 12), (1, .int .i64 5), (4, .int .i64 2)]) (cs := [.int .i64 12, .int .i64 5, .int .i64 0, .int .i64 0, .int .i64 2]) rfl rfl rfl (by kernel_rfl) ?_
 refine WL.eqAggO (decide ((⟨12, 5, 0, 0, 2⟩ : DOp) = (⟨12, 5, 0, 0, 2⟩ : DOp))) opFields Try.stoodInHeld45 Try.eqGuardType45 (eqOpT (⟨12, 5, 0, 0, 2⟩ : DOp) (⟨12, 5, 0, 0, 2⟩ : DOp)) rfl rfl rfl rfl ?_
 refine WL.set 11 (v' := .bool true) rfl (by rw [decide_eq_true rfl]) ?_
 refine WL.pick (v := .bool true) rfl rfl rfl rfl rfl rfl (WL.move rfl rfl rfl (WL.move rfl rfl rfl ?_))
 have hj4 : 1 < litX.length := by decide
 obtain ⟨x4, hx4, b4, o4, cs4, hE4, hr4, _, hc4, hQ4⟩ := opn hlvd hj4
 obtain rfl : (⟨17, 5, 5, 0, 11⟩ : DOp) = x4 := Option.some.inj hx4
 obtain ⟨rfl, hop4⟩ := hQ4
 refine WL.indexAddrE (j := 1) Try.underlying24 isz_45 rfl rfl rfl rfl hj4 hE4 (WL.loadN (cs := [.int .i64 ((⟨17, 5, 5, 0, 11⟩ : DOp).kind), .int .i64 ((⟨17, 5, 5, 0, 11⟩ : DOp).rd), .int .i64 ((⟨17, 5, 5, 0, 11⟩ : DOp).a), .int .i64 ((⟨17, 5, 5, 0, 11⟩ : DOp).b), .int .i64 ((⟨17, 5, 5, 0, 11⟩ : DOp).imm)]) agg_45 rfl rfl rfl rfl (hS.roCells hr4 hc4) ?_)
 refine WL.build (ps := [(0, .int .i64 17), (1, .int .i64 5), (2, .int .i64 5), (4, .int .i64 11)]) (cs := [.int .i64 17, .int .i64 5, .int .i64 5, .int .i64 0, .int .i64 11]) rfl rfl rfl (by kernel_rfl) ?_
 refine WL.eqAggO (decide ((⟨17, 5, 5, 0, 11⟩ : DOp) = (⟨17, 5, 5, 0, 11⟩ : DOp))) opFields Try.stoodInHeld45 Try.eqGuardType45 (eqOpT (⟨17, 5, 5, 0, 11⟩ : DOp) (⟨17, 5, 5, 0, 11⟩ : DOp)) rfl rfl rfl rfl ?_
 refine WL.set 18 (v' := .bool true) rfl (by rw [decide_eq_true rfl]) ?_
 refine WL.pick (v := .bool true) rfl rfl rfl rfl rfl rfl (WL.move rfl rfl rfl (WL.move rfl rfl rfl ?_))
 have hj5 : 2 < litX.length := by decide
 obtain ⟨x5, hx5, b5, o5, cs5, hE5, hr5, _, hc5, hQ5⟩ := opn hlvd hj5
 obtain rfl : (⟨12, 5, 5, 0, 3⟩ : DOp) = x5 := Option.some.inj hx5
 obtain ⟨rfl, hop5⟩ := hQ5
 refine WL.indexAddrE (j := 2) Try.underlying24 isz_45 rfl rfl rfl rfl hj5 hE5 (WL.loadN (cs := [.int .i64 ((⟨12, 5, 5, 0, 3⟩ : DOp).kind), .int .i64 ((⟨12, 5, 5, 0, 3⟩ : DOp).rd), .int .i64 ((⟨12, 5, 5, 0, 3⟩ : DOp).a), .int .i64 ((⟨12, 5, 5, 0, 3⟩ : DOp).b), .int .i64 ((⟨12, 5, 5, 0, 3⟩ : DOp).imm)]) agg_45 rfl rfl rfl rfl (hS.roCells hr5 hc5) ?_)
 refine WL.build (ps := [(0, .int .i64 12), (1, .int .i64 5), (2, .int .i64 5), (4, .int .i64 3)]) (cs := [.int .i64 12, .int .i64 5, .int .i64 5, .int .i64 0, .int .i64 3]) rfl rfl rfl (by kernel_rfl) ?_
 refine WL.eqAggO (decide ((⟨12, 5, 5, 0, 3⟩ : DOp) = (⟨12, 5, 5, 0, 3⟩ : DOp))) opFields Try.stoodInHeld45 Try.eqGuardType45 (eqOpT (⟨12, 5, 5, 0, 3⟩ : DOp) (⟨12, 5, 5, 0, 3⟩ : DOp)) rfl rfl rfl rfl ?_
 refine WL.set 25 (v' := .bool true) rfl (by rw [decide_eq_true rfl]) ?_
 refine WL.pick (v := .bool true) rfl rfl rfl rfl rfl rfl (WL.assign rfl rfl rfl (WL.nil (N.seq ?_)))
 refine Fin.ret1 rfl (v := .bool true) rfl ?_
 exact ⟨rfl, hS.below⟩

end Go.Proofs.Ytcmmhfknkldmcaa
