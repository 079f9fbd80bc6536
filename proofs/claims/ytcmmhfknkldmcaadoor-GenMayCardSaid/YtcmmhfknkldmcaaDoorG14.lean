/-
  Contracts of layer 17 (gen). No condition beyond those that each theorem states.
-/
import Derived.Test.YtcmmhfknkldmcaaDoorK8
import Derived.Test.YtcmmhfknkldmcaaDoorG11
namespace Go.Proofs.YtcmmhfknkldmcaaDoor
open Go.RowKit
theorem fo_36_0 : fOff Tryd.prog 36 0 0 = true := by kernel_rfl
theorem fo_36_1 : fOff Tryd.prog 36 1 1 = true := by kernel_rfl
theorem fo_36_2 : fOff Tryd.prog 36 2 2 = true := by kernel_rfl
theorem fo_36_3 : fOff Tryd.prog 36 3 3 = true := by kernel_rfl
theorem reg01_ret (n : Int) (h : 0 ≤ n ∧ n ≤ 31) {w : World} {ro : Nat → Prop} (hro : ∀ b, ro b → b < w.heap.size) : Ret Tryd.prog 30 #[.int .i64 n] w fun v w' => v = .bool true ∧ Below w.heap.size w w' := by
 refine Ret.enter (P := Tryd.prog) (n := 9) (args := [.int .i64 n]) (σ := [(0, .int .i64 n)]) Tryd.func30 rfl rfl rfl rfl ?_
 have hS := St.start (ro := ro) hro
 refine W.seq ?_
 refine W.region ?_
 refine WL.assign rfl rfl rfl ?_
 refine WL.nil ?_
 refine N.seq ?_
 refine W.seq ?_
 refine W.region ?_
 refine WL.move rfl rfl rfl ?_
 refine WL.bin rfl rfl rfl rfl rfl ?_
 refine WL.set 4 (v' := .bool true) rfl (congrArg Value.bool (show (decide (0 ≤ n)) = true from decide_eq_true (show 0 ≤ n from by omega))) ?_
 refine WL.move rfl rfl rfl ?_
 refine WL.move rfl rfl rfl ?_
 refine WL.bin rfl rfl rfl rfl rfl ?_
 refine WL.set 7 (v' := .bool true) rfl (congrArg Value.bool (show (decide (n ≤ 31)) = true from decide_eq_true (show n ≤ 31 from by omega))) ?_
 refine WL.pick (v := .bool true) rfl rfl rfl rfl rfl rfl ?_
 refine WL.assign rfl rfl rfl ?_
 refine WL.nil ?_
 refine N.seq ?_
 refine Fin.ret1 rfl (v := .bool true) rfl ?_
 exact ⟨rfl, hS.below⟩

set_option maxRecDepth 10000 in
set_option maxHeartbeats 4000000 in
theorem form01_ret (k : Int) {w : World} {ro : Nat → Prop} (hro : ∀ b, ro b → b < w.heap.size) : Ret Tryd.prog 29 #[.int .i64 k] w fun v w' => v = .int .u8 (form17 k) ∧ Below w.heap.size w w' := by
 refine Ret.enter (P := Tryd.prog) (n := 45) (args := [.int .i64 k]) (σ := [(0, .int .i64 k)]) Tryd.func29 rfl rfl rfl rfl ?_
 have hS := St.start (ro := ro) hro
 refine W.seq ?_
 refine W.region ?_
 refine WL.assign rfl rfl rfl ?_
 refine WL.nil ?_
 refine N.seq ?_
 refine W.seq ?_
 refine W.seq ?_
 refine W.region ?_
 refine WL.move rfl rfl rfl ?_
 refine WL.bin rfl rfl rfl rfl rfl ?_
 refine WL.move rfl rfl rfl ?_
 rcases (Bool.eq_false_or_eq_true (decide (1 ≤ k))).symm with hg1 | hg1
 ·
  refine WL.set 4 (v' := .bool false) rfl (by rw [hg1]) ?_
  refine WL.set 5 (v' := .bool false) rfl (by rw [hg1]) ?_
  have hg1p : ¬ (1 ≤ k) := by simpa using hg1
  refine WL.skp rfl rfl ?_
  refine WL.skp rfl rfl ?_
  refine WL.pick (v := .bool false) rfl rfl rfl rfl rfl rfl ?_
  refine WL.nil ?_
  refine N.seq ?_
  refine W.condF rfl ?_
  refine W.skip ?_
  refine N.seq ?_
  refine W.seq ?_
  refine W.seq ?_
  refine W.region ?_
  refine WL.move rfl rfl rfl ?_
  refine WL.bin rfl rfl rfl rfl rfl ?_
  refine WL.move rfl rfl rfl ?_
  rcases (Bool.eq_false_or_eq_true (decide (k = 17))).symm with hg2 | hg2
  ·
   refine WL.set 10 (v' := .bool false) rfl (by rw [hg2]) ?_
   refine WL.set 11 (v' := .bool false) rfl (by rw [hg2]) ?_
   have hg2p : ¬ (k = 17) := by simpa using hg2
   refine WL.move rfl rfl rfl ?_
   refine WL.bin rfl rfl rfl rfl rfl ?_
   refine WL.pick (v := .bool (decide (k = 18))) rfl rfl rfl rfl rfl rfl ?_
   refine WL.nil ?_
   refine N.seq ?_
   refine W.cond rfl (fun hc3 => ?_) (fun hc3 => ?_)
   ·
    have hc3p : k = 18 := by simpa using hc3
    refine W.seq ?_
    refine W.region ?_
    refine WL.assign rfl rfl rfl ?_
    refine WL.nil ?_
    refine N.seq ?_
    refine Fin.ret1 rfl (v := .int .u8 72) rfl ?_
    have hf : form17 k = 72 := by unfold form17; (repeat' split) <;> omega
    rw [hf]
    exact ⟨rfl, hS.below⟩
   have hc3p : ¬ (k = 18) := by simpa using hc3
   refine W.skip ?_
   refine N.seq ?_
   refine W.seq ?_
   refine W.seq ?_
   refine W.region ?_
   refine WL.move rfl rfl rfl ?_
   refine WL.bin rfl rfl rfl rfl rfl ?_
   refine WL.move rfl rfl rfl ?_
   rcases (Bool.eq_false_or_eq_true (decide (12 ≤ k))).symm with hg4 | hg4
   ·
    refine WL.set 16 (v' := .bool false) rfl (by rw [hg4]) ?_
    refine WL.set 17 (v' := .bool false) rfl (by rw [hg4]) ?_
    have hg4p : ¬ (12 ≤ k) := by simpa using hg4
    refine WL.skp rfl rfl ?_
    refine WL.skp rfl rfl ?_
    refine WL.pick (v := .bool false) rfl rfl rfl rfl rfl rfl ?_
    refine WL.move rfl rfl rfl ?_
    refine WL.move rfl rfl rfl ?_
    refine WL.bin rfl rfl rfl rfl rfl ?_
    refine WL.pick (v := .bool (decide (k = 30))) rfl rfl rfl rfl rfl rfl ?_
    refine WL.nil ?_
    refine N.seq ?_
    refine W.cond rfl (fun hc5 => ?_) (fun hc5 => ?_)
    ·
     have hc5p : k = 30 := by simpa using hc5
     refine W.seq ?_
     refine W.region ?_
     refine WL.assign rfl rfl rfl ?_
     refine WL.nil ?_
     refine N.seq ?_
     refine Fin.ret1 rfl (v := .int .u8 73) rfl ?_
     have hf : form17 k = 73 := by unfold form17; (repeat' split) <;> omega
     rw [hf]
     exact ⟨rfl, hS.below⟩
    have hc5p : ¬ (k = 30) := by simpa using hc5
    refine W.skip ?_
    refine N.seq ?_
    refine W.seq ?_
    refine W.seq ?_
    refine W.region ?_
    refine WL.move rfl rfl rfl ?_
    refine WL.bin rfl rfl rfl rfl rfl ?_
    refine WL.move rfl rfl rfl ?_
    rcases (Bool.eq_false_or_eq_true (decide (k = 21))).symm with hg6 | hg6
    ·
     refine WL.set 26 (v' := .bool false) rfl (by rw [hg6]) ?_
     refine WL.set 27 (v' := .bool false) rfl (by rw [hg6]) ?_
     have hg6p : ¬ (k = 21) := by simpa using hg6
     refine WL.move rfl rfl rfl ?_
     refine WL.bin rfl rfl rfl rfl rfl ?_
     refine WL.pick (v := .bool (decide (k = 22))) rfl rfl rfl rfl rfl rfl ?_
     refine WL.nil ?_
     refine N.seq ?_
     refine W.cond rfl (fun hc7 => ?_) (fun hc7 => ?_)
     ·
      have hc7p : k = 22 := by simpa using hc7
      refine W.seq ?_
      refine W.region ?_
      refine WL.assign rfl rfl rfl ?_
      refine WL.nil ?_
      refine N.seq ?_
      refine Fin.ret1 rfl (v := .int .u8 83) rfl ?_
      have hf : form17 k = 83 := by unfold form17; (repeat' split) <;> omega
      rw [hf]
      exact ⟨rfl, hS.below⟩
     have hc7p : ¬ (k = 22) := by simpa using hc7
     refine W.skip ?_
     refine N.seq ?_
     refine W.seq ?_
     refine W.seq ?_
     refine W.region ?_
     refine WL.move rfl rfl rfl ?_
     refine WL.bin rfl rfl rfl rfl rfl ?_
     refine WL.move rfl rfl rfl ?_
     rcases (Bool.eq_false_or_eq_true (decide (23 ≤ k))).symm with hg8 | hg8
     ·
      refine WL.set 32 (v' := .bool false) rfl (by rw [hg8]) ?_
      refine WL.set 33 (v' := .bool false) rfl (by rw [hg8]) ?_
      have hg8p : ¬ (23 ≤ k) := by simpa using hg8
      refine WL.skp rfl rfl ?_
      refine WL.skp rfl rfl ?_
      refine WL.pick (v := .bool false) rfl rfl rfl rfl rfl rfl ?_
      refine WL.nil ?_
      refine N.seq ?_
      refine W.condF rfl ?_
      refine W.skip ?_
      refine N.seq ?_
      refine W.seq ?_
      refine W.seq ?_
      refine W.region ?_
      refine WL.move rfl rfl rfl ?_
      refine WL.bin rfl rfl rfl rfl rfl ?_
      refine WL.move rfl rfl rfl ?_
      rcases (Bool.eq_false_or_eq_true (decide (k = 27))).symm with hg9 | hg9
      ·
       refine WL.set 38 (v' := .bool false) rfl (by rw [hg9]) ?_
       refine WL.set 39 (v' := .bool false) rfl (by rw [hg9]) ?_
       have hg9p : ¬ (k = 27) := by simpa using hg9
       refine WL.move rfl rfl rfl ?_
       refine WL.bin rfl rfl rfl rfl rfl ?_
       refine WL.pick (v := .bool (decide (k = 28))) rfl rfl rfl rfl rfl rfl ?_
       refine WL.nil ?_
       refine N.seq ?_
       refine W.cond rfl (fun hc10 => ?_) (fun hc10 => ?_)
       ·
        have hc10p : k = 28 := by simpa using hc10
        refine W.seq ?_
        refine W.region ?_
        refine WL.assign rfl rfl rfl ?_
        refine WL.nil ?_
        refine N.seq ?_
        refine Fin.ret1 rfl (v := .int .u8 85) rfl ?_
        have hf : form17 k = 85 := by unfold form17; (repeat' split) <;> omega
        rw [hf]
        exact ⟨rfl, hS.below⟩
       have hc10p : ¬ (k = 28) := by simpa using hc10
       refine W.skip ?_
       refine N.seq ?_
       refine W.seq ?_
       refine W.seq ?_
       refine W.region ?_
       refine WL.move rfl rfl rfl ?_
       refine WL.bin rfl rfl rfl rfl rfl ?_
       refine WL.nil ?_
       refine N.seq ?_
       refine W.cond rfl (fun hc11 => ?_) (fun hc11 => ?_)
       ·
        have hc11p : k = 29 := by simpa using hc11
        refine W.seq ?_
        refine W.region ?_
        refine WL.assign rfl rfl rfl ?_
        refine WL.nil ?_
        refine N.seq ?_
        refine Fin.ret1 rfl (v := .int .u8 74) rfl ?_
        have hf : form17 k = 74 := by unfold form17; (repeat' split) <;> omega
        rw [hf]
        exact ⟨rfl, hS.below⟩
       have hc11p : ¬ (k = 29) := by simpa using hc11
       refine W.skip ?_
       refine N.seq ?_
       refine W.seq ?_
       refine W.region ?_
       refine WL.assign rfl rfl rfl ?_
       refine WL.nil ?_
       refine N.seq ?_
       refine Fin.ret1 rfl (v := .int .u8 69) rfl ?_
       have hf : form17 k = 69 := by unfold form17; (repeat' split) <;> omega
       rw [hf]
       exact ⟨rfl, hS.below⟩
      refine WL.set 38 (v' := .bool true) rfl (by rw [hg9]) ?_
      refine WL.set 39 (v' := .bool true) rfl (by rw [hg9]) ?_
      have hg9p : k = 27 := by simpa using hg9
      refine WL.skp rfl rfl ?_
      refine WL.skp rfl rfl ?_
      refine WL.pick (v := .bool true) rfl rfl rfl rfl rfl rfl ?_
      refine WL.nil ?_
      refine N.seq ?_
      refine W.condT rfl ?_
      refine W.seq ?_
      refine W.region ?_
      refine WL.assign rfl rfl rfl ?_
      refine WL.nil ?_
      refine N.seq ?_
      refine Fin.ret1 rfl (v := .int .u8 85) rfl ?_
      have hf : form17 k = 85 := by unfold form17; (repeat' split) <;> omega
      rw [hf]
      exact ⟨rfl, hS.below⟩
     refine WL.set 32 (v' := .bool true) rfl (by rw [hg8]) ?_
     refine WL.set 33 (v' := .bool true) rfl (by rw [hg8]) ?_
     have hg8p : 23 ≤ k := by simpa using hg8
     refine WL.move rfl rfl rfl ?_
     refine WL.bin rfl rfl rfl rfl rfl ?_
     refine WL.pick (v := .bool (decide (k ≤ 26))) rfl rfl rfl rfl rfl rfl ?_
     refine WL.nil ?_
     refine N.seq ?_
     refine W.cond rfl (fun hc12 => ?_) (fun hc12 => ?_)
     ·
      have hc12p : k ≤ 26 := by simpa using hc12
      refine W.seq ?_
      refine W.region ?_
      refine WL.assign rfl rfl rfl ?_
      refine WL.nil ?_
      refine N.seq ?_
      refine Fin.ret1 rfl (v := .int .u8 66) rfl ?_
      have hf : form17 k = 66 := by unfold form17; (repeat' split) <;> omega
      rw [hf]
      exact ⟨rfl, hS.below⟩
     have hc12p : ¬ (k ≤ 26) := by simpa using hc12
     refine W.skip ?_
     refine N.seq ?_
     refine W.seq ?_
     refine W.seq ?_
     refine W.region ?_
     refine WL.move rfl rfl rfl ?_
     refine WL.bin rfl rfl rfl rfl rfl ?_
     refine WL.move rfl rfl rfl ?_
     rcases (Bool.eq_false_or_eq_true (decide (k = 27))).symm with hg13 | hg13
     ·
      refine WL.set 38 (v' := .bool false) rfl (by rw [hg13]) ?_
      refine WL.set 39 (v' := .bool false) rfl (by rw [hg13]) ?_
      have hg13p : ¬ (k = 27) := by simpa using hg13
      refine WL.move rfl rfl rfl ?_
      refine WL.bin rfl rfl rfl rfl rfl ?_
      refine WL.pick (v := .bool (decide (k = 28))) rfl rfl rfl rfl rfl rfl ?_
      refine WL.nil ?_
      refine N.seq ?_
      refine W.cond rfl (fun hc14 => ?_) (fun hc14 => ?_)
      ·
       have hc14p : k = 28 := by simpa using hc14
       refine W.seq ?_
       refine W.region ?_
       refine WL.assign rfl rfl rfl ?_
       refine WL.nil ?_
       refine N.seq ?_
       refine Fin.ret1 rfl (v := .int .u8 85) rfl ?_
       have hf : form17 k = 85 := by unfold form17; (repeat' split) <;> omega
       rw [hf]
       exact ⟨rfl, hS.below⟩
      have hc14p : ¬ (k = 28) := by simpa using hc14
      refine W.skip ?_
      refine N.seq ?_
      refine W.seq ?_
      refine W.seq ?_
      refine W.region ?_
      refine WL.move rfl rfl rfl ?_
      refine WL.bin rfl rfl rfl rfl rfl ?_
      refine WL.nil ?_
      refine N.seq ?_
      refine W.cond rfl (fun hc15 => ?_) (fun hc15 => ?_)
      ·
       have hc15p : k = 29 := by simpa using hc15
       refine W.seq ?_
       refine W.region ?_
       refine WL.assign rfl rfl rfl ?_
       refine WL.nil ?_
       refine N.seq ?_
       refine Fin.ret1 rfl (v := .int .u8 74) rfl ?_
       have hf : form17 k = 74 := by unfold form17; (repeat' split) <;> omega
       rw [hf]
       exact ⟨rfl, hS.below⟩
      have hc15p : ¬ (k = 29) := by simpa using hc15
      refine W.skip ?_
      refine N.seq ?_
      refine W.seq ?_
      refine W.region ?_
      refine WL.assign rfl rfl rfl ?_
      refine WL.nil ?_
      refine N.seq ?_
      refine Fin.ret1 rfl (v := .int .u8 69) rfl ?_
      have hf : form17 k = 69 := by unfold form17; (repeat' split) <;> omega
      rw [hf]
      exact ⟨rfl, hS.below⟩
     refine WL.set 38 (v' := .bool true) rfl (by rw [hg13]) ?_
     refine WL.set 39 (v' := .bool true) rfl (by rw [hg13]) ?_
     have hg13p : k = 27 := by simpa using hg13
     refine WL.skp rfl rfl ?_
     refine WL.skp rfl rfl ?_
     refine WL.pick (v := .bool true) rfl rfl rfl rfl rfl rfl ?_
     refine WL.nil ?_
     refine N.seq ?_
     refine W.condT rfl ?_
     refine W.seq ?_
     refine W.region ?_
     refine WL.assign rfl rfl rfl ?_
     refine WL.nil ?_
     refine N.seq ?_
     refine Fin.ret1 rfl (v := .int .u8 85) rfl ?_
     have hf : form17 k = 85 := by unfold form17; (repeat' split) <;> omega
     rw [hf]
     exact ⟨rfl, hS.below⟩
    refine WL.set 26 (v' := .bool true) rfl (by rw [hg6]) ?_
    refine WL.set 27 (v' := .bool true) rfl (by rw [hg6]) ?_
    have hg6p : k = 21 := by simpa using hg6
    refine WL.skp rfl rfl ?_
    refine WL.skp rfl rfl ?_
    refine WL.pick (v := .bool true) rfl rfl rfl rfl rfl rfl ?_
    refine WL.nil ?_
    refine N.seq ?_
    refine W.condT rfl ?_
    refine W.seq ?_
    refine W.region ?_
    refine WL.assign rfl rfl rfl ?_
    refine WL.nil ?_
    refine N.seq ?_
    refine Fin.ret1 rfl (v := .int .u8 83) rfl ?_
    have hf : form17 k = 83 := by unfold form17; (repeat' split) <;> omega
    rw [hf]
    exact ⟨rfl, hS.below⟩
   refine WL.set 16 (v' := .bool true) rfl (by rw [hg4]) ?_
   refine WL.set 17 (v' := .bool true) rfl (by rw [hg4]) ?_
   have hg4p : 12 ≤ k := by simpa using hg4
   refine WL.move rfl rfl rfl ?_
   refine WL.bin rfl rfl rfl rfl rfl ?_
   refine WL.pick (v := .bool (decide (k ≤ 20))) rfl rfl rfl rfl rfl rfl ?_
   refine WL.move rfl rfl rfl ?_
   rcases (Bool.eq_false_or_eq_true (decide (k ≤ 20))).symm with hg16 | hg16
   ·
    refine WL.set 19 (v' := .bool false) rfl (by rw [hg16]) ?_
    refine WL.set 20 (v' := .bool false) rfl (by rw [hg16]) ?_
    refine WL.set 21 (v' := .bool false) rfl (by rw [hg16]) ?_
    have hg16p : ¬ (k ≤ 20) := by simpa using hg16
    refine WL.move rfl rfl rfl ?_
    refine WL.bin rfl rfl rfl rfl rfl ?_
    refine WL.pick (v := .bool (decide (k = 30))) rfl rfl rfl rfl rfl rfl ?_
    refine WL.nil ?_
    refine N.seq ?_
    refine W.cond rfl (fun hc17 => ?_) (fun hc17 => ?_)
    ·
     have hc17p : k = 30 := by simpa using hc17
     refine W.seq ?_
     refine W.region ?_
     refine WL.assign rfl rfl rfl ?_
     refine WL.nil ?_
     refine N.seq ?_
     refine Fin.ret1 rfl (v := .int .u8 73) rfl ?_
     have hf : form17 k = 73 := by unfold form17; (repeat' split) <;> omega
     rw [hf]
     exact ⟨rfl, hS.below⟩
    have hc17p : ¬ (k = 30) := by simpa using hc17
    refine W.skip ?_
    refine N.seq ?_
    refine W.seq ?_
    refine W.seq ?_
    refine W.region ?_
    refine WL.move rfl rfl rfl ?_
    refine WL.bin rfl rfl rfl rfl rfl ?_
    refine WL.move rfl rfl rfl ?_
    rcases (Bool.eq_false_or_eq_true (decide (k = 21))).symm with hg18 | hg18
    ·
     refine WL.set 26 (v' := .bool false) rfl (by rw [hg18]) ?_
     refine WL.set 27 (v' := .bool false) rfl (by rw [hg18]) ?_
     have hg18p : ¬ (k = 21) := by simpa using hg18
     refine WL.move rfl rfl rfl ?_
     refine WL.bin rfl rfl rfl rfl rfl ?_
     refine WL.pick (v := .bool (decide (k = 22))) rfl rfl rfl rfl rfl rfl ?_
     refine WL.nil ?_
     refine N.seq ?_
     refine W.cond rfl (fun hc19 => ?_) (fun hc19 => ?_)
     ·
      have hc19p : k = 22 := by simpa using hc19
      refine W.seq ?_
      refine W.region ?_
      refine WL.assign rfl rfl rfl ?_
      refine WL.nil ?_
      refine N.seq ?_
      refine Fin.ret1 rfl (v := .int .u8 83) rfl ?_
      have hf : form17 k = 83 := by unfold form17; (repeat' split) <;> omega
      rw [hf]
      exact ⟨rfl, hS.below⟩
     have hc19p : ¬ (k = 22) := by simpa using hc19
     refine W.skip ?_
     refine N.seq ?_
     refine W.seq ?_
     refine W.seq ?_
     refine W.region ?_
     refine WL.move rfl rfl rfl ?_
     refine WL.bin rfl rfl rfl rfl rfl ?_
     refine WL.move rfl rfl rfl ?_
     rcases (Bool.eq_false_or_eq_true (decide (23 ≤ k))).symm with hg20 | hg20
     ·
      refine WL.set 32 (v' := .bool false) rfl (by rw [hg20]) ?_
      refine WL.set 33 (v' := .bool false) rfl (by rw [hg20]) ?_
      have hg20p : ¬ (23 ≤ k) := by simpa using hg20
      refine WL.skp rfl rfl ?_
      refine WL.skp rfl rfl ?_
      refine WL.pick (v := .bool false) rfl rfl rfl rfl rfl rfl ?_
      refine WL.nil ?_
      refine N.seq ?_
      refine W.condF rfl ?_
      refine W.skip ?_
      refine N.seq ?_
      refine W.seq ?_
      refine W.seq ?_
      refine W.region ?_
      refine WL.move rfl rfl rfl ?_
      refine WL.bin rfl rfl rfl rfl rfl ?_
      refine WL.move rfl rfl rfl ?_
      rcases (Bool.eq_false_or_eq_true (decide (k = 27))).symm with hg21 | hg21
      ·
       refine WL.set 38 (v' := .bool false) rfl (by rw [hg21]) ?_
       refine WL.set 39 (v' := .bool false) rfl (by rw [hg21]) ?_
       have hg21p : ¬ (k = 27) := by simpa using hg21
       refine WL.move rfl rfl rfl ?_
       refine WL.bin rfl rfl rfl rfl rfl ?_
       refine WL.pick (v := .bool (decide (k = 28))) rfl rfl rfl rfl rfl rfl ?_
       refine WL.nil ?_
       refine N.seq ?_
       refine W.cond rfl (fun hc22 => ?_) (fun hc22 => ?_)
       ·
        have hc22p : k = 28 := by simpa using hc22
        refine W.seq ?_
        refine W.region ?_
        refine WL.assign rfl rfl rfl ?_
        refine WL.nil ?_
        refine N.seq ?_
        refine Fin.ret1 rfl (v := .int .u8 85) rfl ?_
        have hf : form17 k = 85 := by unfold form17; (repeat' split) <;> omega
        rw [hf]
        exact ⟨rfl, hS.below⟩
       have hc22p : ¬ (k = 28) := by simpa using hc22
       refine W.skip ?_
       refine N.seq ?_
       refine W.seq ?_
       refine W.seq ?_
       refine W.region ?_
       refine WL.move rfl rfl rfl ?_
       refine WL.bin rfl rfl rfl rfl rfl ?_
       refine WL.nil ?_
       refine N.seq ?_
       refine W.cond rfl (fun hc23 => ?_) (fun hc23 => ?_)
       ·
        have hc23p : k = 29 := by simpa using hc23
        refine W.seq ?_
        refine W.region ?_
        refine WL.assign rfl rfl rfl ?_
        refine WL.nil ?_
        refine N.seq ?_
        refine Fin.ret1 rfl (v := .int .u8 74) rfl ?_
        have hf : form17 k = 74 := by unfold form17; (repeat' split) <;> omega
        rw [hf]
        exact ⟨rfl, hS.below⟩
       have hc23p : ¬ (k = 29) := by simpa using hc23
       refine W.skip ?_
       refine N.seq ?_
       refine W.seq ?_
       refine W.region ?_
       refine WL.assign rfl rfl rfl ?_
       refine WL.nil ?_
       refine N.seq ?_
       refine Fin.ret1 rfl (v := .int .u8 69) rfl ?_
       have hf : form17 k = 69 := by unfold form17; (repeat' split) <;> omega
       rw [hf]
       exact ⟨rfl, hS.below⟩
      refine WL.set 38 (v' := .bool true) rfl (by rw [hg21]) ?_
      refine WL.set 39 (v' := .bool true) rfl (by rw [hg21]) ?_
      have hg21p : k = 27 := by simpa using hg21
      refine WL.skp rfl rfl ?_
      refine WL.skp rfl rfl ?_
      refine WL.pick (v := .bool true) rfl rfl rfl rfl rfl rfl ?_
      refine WL.nil ?_
      refine N.seq ?_
      refine W.condT rfl ?_
      refine W.seq ?_
      refine W.region ?_
      refine WL.assign rfl rfl rfl ?_
      refine WL.nil ?_
      refine N.seq ?_
      refine Fin.ret1 rfl (v := .int .u8 85) rfl ?_
      have hf : form17 k = 85 := by unfold form17; (repeat' split) <;> omega
      rw [hf]
      exact ⟨rfl, hS.below⟩
     refine WL.set 32 (v' := .bool true) rfl (by rw [hg20]) ?_
     refine WL.set 33 (v' := .bool true) rfl (by rw [hg20]) ?_
     have hg20p : 23 ≤ k := by simpa using hg20
     refine WL.move rfl rfl rfl ?_
     refine WL.bin rfl rfl rfl rfl rfl ?_
     refine WL.pick (v := .bool (decide (k ≤ 26))) rfl rfl rfl rfl rfl rfl ?_
     refine WL.nil ?_
     refine N.seq ?_
     refine W.cond rfl (fun hc24 => ?_) (fun hc24 => ?_)
     ·
      have hc24p : k ≤ 26 := by simpa using hc24
      refine W.seq ?_
      refine W.region ?_
      refine WL.assign rfl rfl rfl ?_
      refine WL.nil ?_
      refine N.seq ?_
      refine Fin.ret1 rfl (v := .int .u8 66) rfl ?_
      have hf : form17 k = 66 := by unfold form17; (repeat' split) <;> omega
      rw [hf]
      exact ⟨rfl, hS.below⟩
     have hc24p : ¬ (k ≤ 26) := by simpa using hc24
     refine W.skip ?_
     refine N.seq ?_
     refine W.seq ?_
     refine W.seq ?_
     refine W.region ?_
     refine WL.move rfl rfl rfl ?_
     refine WL.bin rfl rfl rfl rfl rfl ?_
     refine WL.move rfl rfl rfl ?_
     rcases (Bool.eq_false_or_eq_true (decide (k = 27))).symm with hg25 | hg25
     ·
      refine WL.set 38 (v' := .bool false) rfl (by rw [hg25]) ?_
      refine WL.set 39 (v' := .bool false) rfl (by rw [hg25]) ?_
      have hg25p : ¬ (k = 27) := by simpa using hg25
      refine WL.move rfl rfl rfl ?_
      refine WL.bin rfl rfl rfl rfl rfl ?_
      refine WL.pick (v := .bool (decide (k = 28))) rfl rfl rfl rfl rfl rfl ?_
      refine WL.nil ?_
      refine N.seq ?_
      refine W.cond rfl (fun hc26 => ?_) (fun hc26 => ?_)
      ·
       have hc26p : k = 28 := by simpa using hc26
       refine W.seq ?_
       refine W.region ?_
       refine WL.assign rfl rfl rfl ?_
       refine WL.nil ?_
       refine N.seq ?_
       refine Fin.ret1 rfl (v := .int .u8 85) rfl ?_
       have hf : form17 k = 85 := by unfold form17; (repeat' split) <;> omega
       rw [hf]
       exact ⟨rfl, hS.below⟩
      have hc26p : ¬ (k = 28) := by simpa using hc26
      refine W.skip ?_
      refine N.seq ?_
      refine W.seq ?_
      refine W.seq ?_
      refine W.region ?_
      refine WL.move rfl rfl rfl ?_
      refine WL.bin rfl rfl rfl rfl rfl ?_
      refine WL.nil ?_
      refine N.seq ?_
      refine W.cond rfl (fun hc27 => ?_) (fun hc27 => ?_)
      ·
       have hc27p : k = 29 := by simpa using hc27
       refine W.seq ?_
       refine W.region ?_
       refine WL.assign rfl rfl rfl ?_
       refine WL.nil ?_
       refine N.seq ?_
       refine Fin.ret1 rfl (v := .int .u8 74) rfl ?_
       have hf : form17 k = 74 := by unfold form17; (repeat' split) <;> omega
       rw [hf]
       exact ⟨rfl, hS.below⟩
      have hc27p : ¬ (k = 29) := by simpa using hc27
      refine W.skip ?_
      refine N.seq ?_
      refine W.seq ?_
      refine W.region ?_
      refine WL.assign rfl rfl rfl ?_
      refine WL.nil ?_
      refine N.seq ?_
      refine Fin.ret1 rfl (v := .int .u8 69) rfl ?_
      have hf : form17 k = 69 := by unfold form17; (repeat' split) <;> omega
      rw [hf]
      exact ⟨rfl, hS.below⟩
     refine WL.set 38 (v' := .bool true) rfl (by rw [hg25]) ?_
     refine WL.set 39 (v' := .bool true) rfl (by rw [hg25]) ?_
     have hg25p : k = 27 := by simpa using hg25
     refine WL.skp rfl rfl ?_
     refine WL.skp rfl rfl ?_
     refine WL.pick (v := .bool true) rfl rfl rfl rfl rfl rfl ?_
     refine WL.nil ?_
     refine N.seq ?_
     refine W.condT rfl ?_
     refine W.seq ?_
     refine W.region ?_
     refine WL.assign rfl rfl rfl ?_
     refine WL.nil ?_
     refine N.seq ?_
     refine Fin.ret1 rfl (v := .int .u8 85) rfl ?_
     have hf : form17 k = 85 := by unfold form17; (repeat' split) <;> omega
     rw [hf]
     exact ⟨rfl, hS.below⟩
    refine WL.set 26 (v' := .bool true) rfl (by rw [hg18]) ?_
    refine WL.set 27 (v' := .bool true) rfl (by rw [hg18]) ?_
    have hg18p : k = 21 := by simpa using hg18
    refine WL.skp rfl rfl ?_
    refine WL.skp rfl rfl ?_
    refine WL.pick (v := .bool true) rfl rfl rfl rfl rfl rfl ?_
    refine WL.nil ?_
    refine N.seq ?_
    refine W.condT rfl ?_
    refine W.seq ?_
    refine W.region ?_
    refine WL.assign rfl rfl rfl ?_
    refine WL.nil ?_
    refine N.seq ?_
    refine Fin.ret1 rfl (v := .int .u8 83) rfl ?_
    have hf : form17 k = 83 := by unfold form17; (repeat' split) <;> omega
    rw [hf]
    exact ⟨rfl, hS.below⟩
   refine WL.set 19 (v' := .bool true) rfl (by rw [hg16]) ?_
   refine WL.set 20 (v' := .bool true) rfl (by rw [hg16]) ?_
   refine WL.set 21 (v' := .bool true) rfl (by rw [hg16]) ?_
   have hg16p : k ≤ 20 := by simpa using hg16
   refine WL.skp rfl rfl ?_
   refine WL.skp rfl rfl ?_
   refine WL.pick (v := .bool true) rfl rfl rfl rfl rfl rfl ?_
   refine WL.nil ?_
   refine N.seq ?_
   refine W.condT rfl ?_
   refine W.seq ?_
   refine W.region ?_
   refine WL.assign rfl rfl rfl ?_
   refine WL.nil ?_
   refine N.seq ?_
   refine Fin.ret1 rfl (v := .int .u8 73) rfl ?_
   have hf : form17 k = 73 := by unfold form17; (repeat' split) <;> omega
   rw [hf]
   exact ⟨rfl, hS.below⟩
  refine WL.set 10 (v' := .bool true) rfl (by rw [hg2]) ?_
  refine WL.set 11 (v' := .bool true) rfl (by rw [hg2]) ?_
  have hg2p : k = 17 := by simpa using hg2
  refine WL.skp rfl rfl ?_
  refine WL.skp rfl rfl ?_
  refine WL.pick (v := .bool true) rfl rfl rfl rfl rfl rfl ?_
  refine WL.nil ?_
  refine N.seq ?_
  refine W.condT rfl ?_
  refine W.seq ?_
  refine W.region ?_
  refine WL.assign rfl rfl rfl ?_
  refine WL.nil ?_
  refine N.seq ?_
  refine Fin.ret1 rfl (v := .int .u8 72) rfl ?_
  have hf : form17 k = 72 := by unfold form17; (repeat' split) <;> omega
  rw [hf]
  exact ⟨rfl, hS.below⟩
 refine WL.set 4 (v' := .bool true) rfl (by rw [hg1]) ?_
 refine WL.set 5 (v' := .bool true) rfl (by rw [hg1]) ?_
 have hg1p : 1 ≤ k := by simpa using hg1
 refine WL.move rfl rfl rfl ?_
 refine WL.bin rfl rfl rfl rfl rfl ?_
 refine WL.pick (v := .bool (decide (k ≤ 11))) rfl rfl rfl rfl rfl rfl ?_
 refine WL.nil ?_
 refine N.seq ?_
 refine W.cond rfl (fun hc28 => ?_) (fun hc28 => ?_)
 ·
  have hc28p : k ≤ 11 := by simpa using hc28
  refine W.seq ?_
  refine W.region ?_
  refine WL.assign rfl rfl rfl ?_
  refine WL.nil ?_
  refine N.seq ?_
  refine Fin.ret1 rfl (v := .int .u8 82) rfl ?_
  have hf : form17 k = 82 := by unfold form17; (repeat' split) <;> omega
  rw [hf]
  exact ⟨rfl, hS.below⟩
 have hc28p : ¬ (k ≤ 11) := by simpa using hc28
 refine W.skip ?_
 refine N.seq ?_
 refine W.seq ?_
 refine W.seq ?_
 refine W.region ?_
 refine WL.move rfl rfl rfl ?_
 refine WL.bin rfl rfl rfl rfl rfl ?_
 refine WL.move rfl rfl rfl ?_
 rcases (Bool.eq_false_or_eq_true (decide (k = 17))).symm with hg29 | hg29
 ·
  refine WL.set 10 (v' := .bool false) rfl (by rw [hg29]) ?_
  refine WL.set 11 (v' := .bool false) rfl (by rw [hg29]) ?_
  have hg29p : ¬ (k = 17) := by simpa using hg29
  refine WL.move rfl rfl rfl ?_
  refine WL.bin rfl rfl rfl rfl rfl ?_
  refine WL.pick (v := .bool (decide (k = 18))) rfl rfl rfl rfl rfl rfl ?_
  refine WL.nil ?_
  refine N.seq ?_
  refine W.cond rfl (fun hc30 => ?_) (fun hc30 => ?_)
  ·
   have hc30p : k = 18 := by simpa using hc30
   refine W.seq ?_
   refine W.region ?_
   refine WL.assign rfl rfl rfl ?_
   refine WL.nil ?_
   refine N.seq ?_
   refine Fin.ret1 rfl (v := .int .u8 72) rfl ?_
   have hf : form17 k = 72 := by unfold form17; (repeat' split) <;> omega
   rw [hf]
   exact ⟨rfl, hS.below⟩
  have hc30p : ¬ (k = 18) := by simpa using hc30
  refine W.skip ?_
  refine N.seq ?_
  refine W.seq ?_
  refine W.seq ?_
  refine W.region ?_
  refine WL.move rfl rfl rfl ?_
  refine WL.bin rfl rfl rfl rfl rfl ?_
  refine WL.move rfl rfl rfl ?_
  rcases (Bool.eq_false_or_eq_true (decide (12 ≤ k))).symm with hg31 | hg31
  ·
   refine WL.set 16 (v' := .bool false) rfl (by rw [hg31]) ?_
   refine WL.set 17 (v' := .bool false) rfl (by rw [hg31]) ?_
   have hg31p : ¬ (12 ≤ k) := by simpa using hg31
   refine WL.skp rfl rfl ?_
   refine WL.skp rfl rfl ?_
   refine WL.pick (v := .bool false) rfl rfl rfl rfl rfl rfl ?_
   refine WL.move rfl rfl rfl ?_
   refine WL.move rfl rfl rfl ?_
   refine WL.bin rfl rfl rfl rfl rfl ?_
   refine WL.pick (v := .bool (decide (k = 30))) rfl rfl rfl rfl rfl rfl ?_
   refine WL.nil ?_
   refine N.seq ?_
   refine W.cond rfl (fun hc32 => ?_) (fun hc32 => ?_)
   ·
    have hc32p : k = 30 := by simpa using hc32
    refine W.seq ?_
    refine W.region ?_
    refine WL.assign rfl rfl rfl ?_
    refine WL.nil ?_
    refine N.seq ?_
    refine Fin.ret1 rfl (v := .int .u8 73) rfl ?_
    have hf : form17 k = 73 := by unfold form17; (repeat' split) <;> omega
    rw [hf]
    exact ⟨rfl, hS.below⟩
   have hc32p : ¬ (k = 30) := by simpa using hc32
   refine W.skip ?_
   refine N.seq ?_
   refine W.seq ?_
   refine W.seq ?_
   refine W.region ?_
   refine WL.move rfl rfl rfl ?_
   refine WL.bin rfl rfl rfl rfl rfl ?_
   refine WL.move rfl rfl rfl ?_
   rcases (Bool.eq_false_or_eq_true (decide (k = 21))).symm with hg33 | hg33
   ·
    refine WL.set 26 (v' := .bool false) rfl (by rw [hg33]) ?_
    refine WL.set 27 (v' := .bool false) rfl (by rw [hg33]) ?_
    have hg33p : ¬ (k = 21) := by simpa using hg33
    refine WL.move rfl rfl rfl ?_
    refine WL.bin rfl rfl rfl rfl rfl ?_
    refine WL.pick (v := .bool (decide (k = 22))) rfl rfl rfl rfl rfl rfl ?_
    refine WL.nil ?_
    refine N.seq ?_
    refine W.cond rfl (fun hc34 => ?_) (fun hc34 => ?_)
    ·
     have hc34p : k = 22 := by simpa using hc34
     refine W.seq ?_
     refine W.region ?_
     refine WL.assign rfl rfl rfl ?_
     refine WL.nil ?_
     refine N.seq ?_
     refine Fin.ret1 rfl (v := .int .u8 83) rfl ?_
     have hf : form17 k = 83 := by unfold form17; (repeat' split) <;> omega
     rw [hf]
     exact ⟨rfl, hS.below⟩
    have hc34p : ¬ (k = 22) := by simpa using hc34
    refine W.skip ?_
    refine N.seq ?_
    refine W.seq ?_
    refine W.seq ?_
    refine W.region ?_
    refine WL.move rfl rfl rfl ?_
    refine WL.bin rfl rfl rfl rfl rfl ?_
    refine WL.move rfl rfl rfl ?_
    rcases (Bool.eq_false_or_eq_true (decide (23 ≤ k))).symm with hg35 | hg35
    ·
     refine WL.set 32 (v' := .bool false) rfl (by rw [hg35]) ?_
     refine WL.set 33 (v' := .bool false) rfl (by rw [hg35]) ?_
     have hg35p : ¬ (23 ≤ k) := by simpa using hg35
     refine WL.skp rfl rfl ?_
     refine WL.skp rfl rfl ?_
     refine WL.pick (v := .bool false) rfl rfl rfl rfl rfl rfl ?_
     refine WL.nil ?_
     refine N.seq ?_
     refine W.condF rfl ?_
     refine W.skip ?_
     refine N.seq ?_
     refine W.seq ?_
     refine W.seq ?_
     refine W.region ?_
     refine WL.move rfl rfl rfl ?_
     refine WL.bin rfl rfl rfl rfl rfl ?_
     refine WL.move rfl rfl rfl ?_
     rcases (Bool.eq_false_or_eq_true (decide (k = 27))).symm with hg36 | hg36
     ·
      refine WL.set 38 (v' := .bool false) rfl (by rw [hg36]) ?_
      refine WL.set 39 (v' := .bool false) rfl (by rw [hg36]) ?_
      have hg36p : ¬ (k = 27) := by simpa using hg36
      refine WL.move rfl rfl rfl ?_
      refine WL.bin rfl rfl rfl rfl rfl ?_
      refine WL.pick (v := .bool (decide (k = 28))) rfl rfl rfl rfl rfl rfl ?_
      refine WL.nil ?_
      refine N.seq ?_
      refine W.cond rfl (fun hc37 => ?_) (fun hc37 => ?_)
      ·
       have hc37p : k = 28 := by simpa using hc37
       refine W.seq ?_
       refine W.region ?_
       refine WL.assign rfl rfl rfl ?_
       refine WL.nil ?_
       refine N.seq ?_
       refine Fin.ret1 rfl (v := .int .u8 85) rfl ?_
       have hf : form17 k = 85 := by unfold form17; (repeat' split) <;> omega
       rw [hf]
       exact ⟨rfl, hS.below⟩
      have hc37p : ¬ (k = 28) := by simpa using hc37
      refine W.skip ?_
      refine N.seq ?_
      refine W.seq ?_
      refine W.seq ?_
      refine W.region ?_
      refine WL.move rfl rfl rfl ?_
      refine WL.bin rfl rfl rfl rfl rfl ?_
      refine WL.nil ?_
      refine N.seq ?_
      refine W.cond rfl (fun hc38 => ?_) (fun hc38 => ?_)
      ·
       have hc38p : k = 29 := by simpa using hc38
       refine W.seq ?_
       refine W.region ?_
       refine WL.assign rfl rfl rfl ?_
       refine WL.nil ?_
       refine N.seq ?_
       refine Fin.ret1 rfl (v := .int .u8 74) rfl ?_
       have hf : form17 k = 74 := by unfold form17; (repeat' split) <;> omega
       rw [hf]
       exact ⟨rfl, hS.below⟩
      have hc38p : ¬ (k = 29) := by simpa using hc38
      refine W.skip ?_
      refine N.seq ?_
      refine W.seq ?_
      refine W.region ?_
      refine WL.assign rfl rfl rfl ?_
      refine WL.nil ?_
      refine N.seq ?_
      refine Fin.ret1 rfl (v := .int .u8 69) rfl ?_
      have hf : form17 k = 69 := by unfold form17; (repeat' split) <;> omega
      rw [hf]
      exact ⟨rfl, hS.below⟩
     refine WL.set 38 (v' := .bool true) rfl (by rw [hg36]) ?_
     refine WL.set 39 (v' := .bool true) rfl (by rw [hg36]) ?_
     have hg36p : k = 27 := by simpa using hg36
     refine WL.skp rfl rfl ?_
     refine WL.skp rfl rfl ?_
     refine WL.pick (v := .bool true) rfl rfl rfl rfl rfl rfl ?_
     refine WL.nil ?_
     refine N.seq ?_
     refine W.condT rfl ?_
     refine W.seq ?_
     refine W.region ?_
     refine WL.assign rfl rfl rfl ?_
     refine WL.nil ?_
     refine N.seq ?_
     refine Fin.ret1 rfl (v := .int .u8 85) rfl ?_
     have hf : form17 k = 85 := by unfold form17; (repeat' split) <;> omega
     rw [hf]
     exact ⟨rfl, hS.below⟩
    refine WL.set 32 (v' := .bool true) rfl (by rw [hg35]) ?_
    refine WL.set 33 (v' := .bool true) rfl (by rw [hg35]) ?_
    have hg35p : 23 ≤ k := by simpa using hg35
    refine WL.move rfl rfl rfl ?_
    refine WL.bin rfl rfl rfl rfl rfl ?_
    refine WL.pick (v := .bool (decide (k ≤ 26))) rfl rfl rfl rfl rfl rfl ?_
    refine WL.nil ?_
    refine N.seq ?_
    refine W.cond rfl (fun hc39 => ?_) (fun hc39 => ?_)
    ·
     have hc39p : k ≤ 26 := by simpa using hc39
     refine W.seq ?_
     refine W.region ?_
     refine WL.assign rfl rfl rfl ?_
     refine WL.nil ?_
     refine N.seq ?_
     refine Fin.ret1 rfl (v := .int .u8 66) rfl ?_
     have hf : form17 k = 66 := by unfold form17; (repeat' split) <;> omega
     rw [hf]
     exact ⟨rfl, hS.below⟩
    have hc39p : ¬ (k ≤ 26) := by simpa using hc39
    refine W.skip ?_
    refine N.seq ?_
    refine W.seq ?_
    refine W.seq ?_
    refine W.region ?_
    refine WL.move rfl rfl rfl ?_
    refine WL.bin rfl rfl rfl rfl rfl ?_
    refine WL.move rfl rfl rfl ?_
    rcases (Bool.eq_false_or_eq_true (decide (k = 27))).symm with hg40 | hg40
    ·
     refine WL.set 38 (v' := .bool false) rfl (by rw [hg40]) ?_
     refine WL.set 39 (v' := .bool false) rfl (by rw [hg40]) ?_
     have hg40p : ¬ (k = 27) := by simpa using hg40
     refine WL.move rfl rfl rfl ?_
     refine WL.bin rfl rfl rfl rfl rfl ?_
     refine WL.pick (v := .bool (decide (k = 28))) rfl rfl rfl rfl rfl rfl ?_
     refine WL.nil ?_
     refine N.seq ?_
     refine W.cond rfl (fun hc41 => ?_) (fun hc41 => ?_)
     ·
      have hc41p : k = 28 := by simpa using hc41
      refine W.seq ?_
      refine W.region ?_
      refine WL.assign rfl rfl rfl ?_
      refine WL.nil ?_
      refine N.seq ?_
      refine Fin.ret1 rfl (v := .int .u8 85) rfl ?_
      have hf : form17 k = 85 := by unfold form17; (repeat' split) <;> omega
      rw [hf]
      exact ⟨rfl, hS.below⟩
     have hc41p : ¬ (k = 28) := by simpa using hc41
     refine W.skip ?_
     refine N.seq ?_
     refine W.seq ?_
     refine W.seq ?_
     refine W.region ?_
     refine WL.move rfl rfl rfl ?_
     refine WL.bin rfl rfl rfl rfl rfl ?_
     refine WL.nil ?_
     refine N.seq ?_
     refine W.cond rfl (fun hc42 => ?_) (fun hc42 => ?_)
     ·
      have hc42p : k = 29 := by simpa using hc42
      refine W.seq ?_
      refine W.region ?_
      refine WL.assign rfl rfl rfl ?_
      refine WL.nil ?_
      refine N.seq ?_
      refine Fin.ret1 rfl (v := .int .u8 74) rfl ?_
      have hf : form17 k = 74 := by unfold form17; (repeat' split) <;> omega
      rw [hf]
      exact ⟨rfl, hS.below⟩
     have hc42p : ¬ (k = 29) := by simpa using hc42
     refine W.skip ?_
     refine N.seq ?_
     refine W.seq ?_
     refine W.region ?_
     refine WL.assign rfl rfl rfl ?_
     refine WL.nil ?_
     refine N.seq ?_
     refine Fin.ret1 rfl (v := .int .u8 69) rfl ?_
     have hf : form17 k = 69 := by unfold form17; (repeat' split) <;> omega
     rw [hf]
     exact ⟨rfl, hS.below⟩
    refine WL.set 38 (v' := .bool true) rfl (by rw [hg40]) ?_
    refine WL.set 39 (v' := .bool true) rfl (by rw [hg40]) ?_
    have hg40p : k = 27 := by simpa using hg40
    refine WL.skp rfl rfl ?_
    refine WL.skp rfl rfl ?_
    refine WL.pick (v := .bool true) rfl rfl rfl rfl rfl rfl ?_
    refine WL.nil ?_
    refine N.seq ?_
    refine W.condT rfl ?_
    refine W.seq ?_
    refine W.region ?_
    refine WL.assign rfl rfl rfl ?_
    refine WL.nil ?_
    refine N.seq ?_
    refine Fin.ret1 rfl (v := .int .u8 85) rfl ?_
    have hf : form17 k = 85 := by unfold form17; (repeat' split) <;> omega
    rw [hf]
    exact ⟨rfl, hS.below⟩
   refine WL.set 26 (v' := .bool true) rfl (by rw [hg33]) ?_
   refine WL.set 27 (v' := .bool true) rfl (by rw [hg33]) ?_
   have hg33p : k = 21 := by simpa using hg33
   refine WL.skp rfl rfl ?_
   refine WL.skp rfl rfl ?_
   refine WL.pick (v := .bool true) rfl rfl rfl rfl rfl rfl ?_
   refine WL.nil ?_
   refine N.seq ?_
   refine W.condT rfl ?_
   refine W.seq ?_
   refine W.region ?_
   refine WL.assign rfl rfl rfl ?_
   refine WL.nil ?_
   refine N.seq ?_
   refine Fin.ret1 rfl (v := .int .u8 83) rfl ?_
   have hf : form17 k = 83 := by unfold form17; (repeat' split) <;> omega
   rw [hf]
   exact ⟨rfl, hS.below⟩
  refine WL.set 16 (v' := .bool true) rfl (by rw [hg31]) ?_
  refine WL.set 17 (v' := .bool true) rfl (by rw [hg31]) ?_
  have hg31p : 12 ≤ k := by simpa using hg31
  refine WL.move rfl rfl rfl ?_
  refine WL.bin rfl rfl rfl rfl rfl ?_
  refine WL.pick (v := .bool (decide (k ≤ 20))) rfl rfl rfl rfl rfl rfl ?_
  refine WL.move rfl rfl rfl ?_
  rcases (Bool.eq_false_or_eq_true (decide (k ≤ 20))).symm with hg43 | hg43
  ·
   refine WL.set 19 (v' := .bool false) rfl (by rw [hg43]) ?_
   refine WL.set 20 (v' := .bool false) rfl (by rw [hg43]) ?_
   refine WL.set 21 (v' := .bool false) rfl (by rw [hg43]) ?_
   have hg43p : ¬ (k ≤ 20) := by simpa using hg43
   refine WL.move rfl rfl rfl ?_
   refine WL.bin rfl rfl rfl rfl rfl ?_
   refine WL.pick (v := .bool (decide (k = 30))) rfl rfl rfl rfl rfl rfl ?_
   refine WL.nil ?_
   refine N.seq ?_
   refine W.cond rfl (fun hc44 => ?_) (fun hc44 => ?_)
   ·
    have hc44p : k = 30 := by simpa using hc44
    refine W.seq ?_
    refine W.region ?_
    refine WL.assign rfl rfl rfl ?_
    refine WL.nil ?_
    refine N.seq ?_
    refine Fin.ret1 rfl (v := .int .u8 73) rfl ?_
    have hf : form17 k = 73 := by unfold form17; (repeat' split) <;> omega
    rw [hf]
    exact ⟨rfl, hS.below⟩
   have hc44p : ¬ (k = 30) := by simpa using hc44
   refine W.skip ?_
   refine N.seq ?_
   refine W.seq ?_
   refine W.seq ?_
   refine W.region ?_
   refine WL.move rfl rfl rfl ?_
   refine WL.bin rfl rfl rfl rfl rfl ?_
   refine WL.move rfl rfl rfl ?_
   rcases (Bool.eq_false_or_eq_true (decide (k = 21))).symm with hg45 | hg45
   ·
    refine WL.set 26 (v' := .bool false) rfl (by rw [hg45]) ?_
    refine WL.set 27 (v' := .bool false) rfl (by rw [hg45]) ?_
    have hg45p : ¬ (k = 21) := by simpa using hg45
    refine WL.move rfl rfl rfl ?_
    refine WL.bin rfl rfl rfl rfl rfl ?_
    refine WL.pick (v := .bool (decide (k = 22))) rfl rfl rfl rfl rfl rfl ?_
    refine WL.nil ?_
    refine N.seq ?_
    refine W.cond rfl (fun hc46 => ?_) (fun hc46 => ?_)
    ·
     have hc46p : k = 22 := by simpa using hc46
     refine W.seq ?_
     refine W.region ?_
     refine WL.assign rfl rfl rfl ?_
     refine WL.nil ?_
     refine N.seq ?_
     refine Fin.ret1 rfl (v := .int .u8 83) rfl ?_
     have hf : form17 k = 83 := by unfold form17; (repeat' split) <;> omega
     rw [hf]
     exact ⟨rfl, hS.below⟩
    have hc46p : ¬ (k = 22) := by simpa using hc46
    refine W.skip ?_
    refine N.seq ?_
    refine W.seq ?_
    refine W.seq ?_
    refine W.region ?_
    refine WL.move rfl rfl rfl ?_
    refine WL.bin rfl rfl rfl rfl rfl ?_
    refine WL.move rfl rfl rfl ?_
    rcases (Bool.eq_false_or_eq_true (decide (23 ≤ k))).symm with hg47 | hg47
    ·
     refine WL.set 32 (v' := .bool false) rfl (by rw [hg47]) ?_
     refine WL.set 33 (v' := .bool false) rfl (by rw [hg47]) ?_
     have hg47p : ¬ (23 ≤ k) := by simpa using hg47
     refine WL.skp rfl rfl ?_
     refine WL.skp rfl rfl ?_
     refine WL.pick (v := .bool false) rfl rfl rfl rfl rfl rfl ?_
     refine WL.nil ?_
     refine N.seq ?_
     refine W.condF rfl ?_
     refine W.skip ?_
     refine N.seq ?_
     refine W.seq ?_
     refine W.seq ?_
     refine W.region ?_
     refine WL.move rfl rfl rfl ?_
     refine WL.bin rfl rfl rfl rfl rfl ?_
     refine WL.move rfl rfl rfl ?_
     rcases (Bool.eq_false_or_eq_true (decide (k = 27))).symm with hg48 | hg48
     ·
      refine WL.set 38 (v' := .bool false) rfl (by rw [hg48]) ?_
      refine WL.set 39 (v' := .bool false) rfl (by rw [hg48]) ?_
      have hg48p : ¬ (k = 27) := by simpa using hg48
      refine WL.move rfl rfl rfl ?_
      refine WL.bin rfl rfl rfl rfl rfl ?_
      refine WL.pick (v := .bool (decide (k = 28))) rfl rfl rfl rfl rfl rfl ?_
      refine WL.nil ?_
      refine N.seq ?_
      refine W.cond rfl (fun hc49 => ?_) (fun hc49 => ?_)
      ·
       have hc49p : k = 28 := by simpa using hc49
       refine W.seq ?_
       refine W.region ?_
       refine WL.assign rfl rfl rfl ?_
       refine WL.nil ?_
       refine N.seq ?_
       refine Fin.ret1 rfl (v := .int .u8 85) rfl ?_
       have hf : form17 k = 85 := by unfold form17; (repeat' split) <;> omega
       rw [hf]
       exact ⟨rfl, hS.below⟩
      have hc49p : ¬ (k = 28) := by simpa using hc49
      refine W.skip ?_
      refine N.seq ?_
      refine W.seq ?_
      refine W.seq ?_
      refine W.region ?_
      refine WL.move rfl rfl rfl ?_
      refine WL.bin rfl rfl rfl rfl rfl ?_
      refine WL.nil ?_
      refine N.seq ?_
      refine W.cond rfl (fun hc50 => ?_) (fun hc50 => ?_)
      ·
       have hc50p : k = 29 := by simpa using hc50
       refine W.seq ?_
       refine W.region ?_
       refine WL.assign rfl rfl rfl ?_
       refine WL.nil ?_
       refine N.seq ?_
       refine Fin.ret1 rfl (v := .int .u8 74) rfl ?_
       have hf : form17 k = 74 := by unfold form17; (repeat' split) <;> omega
       rw [hf]
       exact ⟨rfl, hS.below⟩
      have hc50p : ¬ (k = 29) := by simpa using hc50
      refine W.skip ?_
      refine N.seq ?_
      refine W.seq ?_
      refine W.region ?_
      refine WL.assign rfl rfl rfl ?_
      refine WL.nil ?_
      refine N.seq ?_
      refine Fin.ret1 rfl (v := .int .u8 69) rfl ?_
      have hf : form17 k = 69 := by unfold form17; (repeat' split) <;> omega
      rw [hf]
      exact ⟨rfl, hS.below⟩
     refine WL.set 38 (v' := .bool true) rfl (by rw [hg48]) ?_
     refine WL.set 39 (v' := .bool true) rfl (by rw [hg48]) ?_
     have hg48p : k = 27 := by simpa using hg48
     refine WL.skp rfl rfl ?_
     refine WL.skp rfl rfl ?_
     refine WL.pick (v := .bool true) rfl rfl rfl rfl rfl rfl ?_
     refine WL.nil ?_
     refine N.seq ?_
     refine W.condT rfl ?_
     refine W.seq ?_
     refine W.region ?_
     refine WL.assign rfl rfl rfl ?_
     refine WL.nil ?_
     refine N.seq ?_
     refine Fin.ret1 rfl (v := .int .u8 85) rfl ?_
     have hf : form17 k = 85 := by unfold form17; (repeat' split) <;> omega
     rw [hf]
     exact ⟨rfl, hS.below⟩
    refine WL.set 32 (v' := .bool true) rfl (by rw [hg47]) ?_
    refine WL.set 33 (v' := .bool true) rfl (by rw [hg47]) ?_
    have hg47p : 23 ≤ k := by simpa using hg47
    refine WL.move rfl rfl rfl ?_
    refine WL.bin rfl rfl rfl rfl rfl ?_
    refine WL.pick (v := .bool (decide (k ≤ 26))) rfl rfl rfl rfl rfl rfl ?_
    refine WL.nil ?_
    refine N.seq ?_
    refine W.cond rfl (fun hc51 => ?_) (fun hc51 => ?_)
    ·
     have hc51p : k ≤ 26 := by simpa using hc51
     refine W.seq ?_
     refine W.region ?_
     refine WL.assign rfl rfl rfl ?_
     refine WL.nil ?_
     refine N.seq ?_
     refine Fin.ret1 rfl (v := .int .u8 66) rfl ?_
     have hf : form17 k = 66 := by unfold form17; (repeat' split) <;> omega
     rw [hf]
     exact ⟨rfl, hS.below⟩
    have hc51p : ¬ (k ≤ 26) := by simpa using hc51
    refine W.skip ?_
    refine N.seq ?_
    refine W.seq ?_
    refine W.seq ?_
    refine W.region ?_
    refine WL.move rfl rfl rfl ?_
    refine WL.bin rfl rfl rfl rfl rfl ?_
    refine WL.move rfl rfl rfl ?_
    rcases (Bool.eq_false_or_eq_true (decide (k = 27))).symm with hg52 | hg52
    ·
     refine WL.set 38 (v' := .bool false) rfl (by rw [hg52]) ?_
     refine WL.set 39 (v' := .bool false) rfl (by rw [hg52]) ?_
     have hg52p : ¬ (k = 27) := by simpa using hg52
     refine WL.move rfl rfl rfl ?_
     refine WL.bin rfl rfl rfl rfl rfl ?_
     refine WL.pick (v := .bool (decide (k = 28))) rfl rfl rfl rfl rfl rfl ?_
     refine WL.nil ?_
     refine N.seq ?_
     refine W.cond rfl (fun hc53 => ?_) (fun hc53 => ?_)
     ·
      have hc53p : k = 28 := by simpa using hc53
      refine W.seq ?_
      refine W.region ?_
      refine WL.assign rfl rfl rfl ?_
      refine WL.nil ?_
      refine N.seq ?_
      refine Fin.ret1 rfl (v := .int .u8 85) rfl ?_
      have hf : form17 k = 85 := by unfold form17; (repeat' split) <;> omega
      rw [hf]
      exact ⟨rfl, hS.below⟩
     have hc53p : ¬ (k = 28) := by simpa using hc53
     refine W.skip ?_
     refine N.seq ?_
     refine W.seq ?_
     refine W.seq ?_
     refine W.region ?_
     refine WL.move rfl rfl rfl ?_
     refine WL.bin rfl rfl rfl rfl rfl ?_
     refine WL.nil ?_
     refine N.seq ?_
     refine W.cond rfl (fun hc54 => ?_) (fun hc54 => ?_)
     ·
      have hc54p : k = 29 := by simpa using hc54
      refine W.seq ?_
      refine W.region ?_
      refine WL.assign rfl rfl rfl ?_
      refine WL.nil ?_
      refine N.seq ?_
      refine Fin.ret1 rfl (v := .int .u8 74) rfl ?_
      have hf : form17 k = 74 := by unfold form17; (repeat' split) <;> omega
      rw [hf]
      exact ⟨rfl, hS.below⟩
     have hc54p : ¬ (k = 29) := by simpa using hc54
     refine W.skip ?_
     refine N.seq ?_
     refine W.seq ?_
     refine W.region ?_
     refine WL.assign rfl rfl rfl ?_
     refine WL.nil ?_
     refine N.seq ?_
     refine Fin.ret1 rfl (v := .int .u8 69) rfl ?_
     have hf : form17 k = 69 := by unfold form17; (repeat' split) <;> omega
     rw [hf]
     exact ⟨rfl, hS.below⟩
    refine WL.set 38 (v' := .bool true) rfl (by rw [hg52]) ?_
    refine WL.set 39 (v' := .bool true) rfl (by rw [hg52]) ?_
    have hg52p : k = 27 := by simpa using hg52
    refine WL.skp rfl rfl ?_
    refine WL.skp rfl rfl ?_
    refine WL.pick (v := .bool true) rfl rfl rfl rfl rfl rfl ?_
    refine WL.nil ?_
    refine N.seq ?_
    refine W.condT rfl ?_
    refine W.seq ?_
    refine W.region ?_
    refine WL.assign rfl rfl rfl ?_
    refine WL.nil ?_
    refine N.seq ?_
    refine Fin.ret1 rfl (v := .int .u8 85) rfl ?_
    have hf : form17 k = 85 := by unfold form17; (repeat' split) <;> omega
    rw [hf]
    exact ⟨rfl, hS.below⟩
   refine WL.set 26 (v' := .bool true) rfl (by rw [hg45]) ?_
   refine WL.set 27 (v' := .bool true) rfl (by rw [hg45]) ?_
   have hg45p : k = 21 := by simpa using hg45
   refine WL.skp rfl rfl ?_
   refine WL.skp rfl rfl ?_
   refine WL.pick (v := .bool true) rfl rfl rfl rfl rfl rfl ?_
   refine WL.nil ?_
   refine N.seq ?_
   refine W.condT rfl ?_
   refine W.seq ?_
   refine W.region ?_
   refine WL.assign rfl rfl rfl ?_
   refine WL.nil ?_
   refine N.seq ?_
   refine Fin.ret1 rfl (v := .int .u8 83) rfl ?_
   have hf : form17 k = 83 := by unfold form17; (repeat' split) <;> omega
   rw [hf]
   exact ⟨rfl, hS.below⟩
  refine WL.set 19 (v' := .bool true) rfl (by rw [hg43]) ?_
  refine WL.set 20 (v' := .bool true) rfl (by rw [hg43]) ?_
  refine WL.set 21 (v' := .bool true) rfl (by rw [hg43]) ?_
  have hg43p : k ≤ 20 := by simpa using hg43
  refine WL.skp rfl rfl ?_
  refine WL.skp rfl rfl ?_
  refine WL.pick (v := .bool true) rfl rfl rfl rfl rfl rfl ?_
  refine WL.nil ?_
  refine N.seq ?_
  refine W.condT rfl ?_
  refine W.seq ?_
  refine W.region ?_
  refine WL.assign rfl rfl rfl ?_
  refine WL.nil ?_
  refine N.seq ?_
  refine Fin.ret1 rfl (v := .int .u8 73) rfl ?_
  have hf : form17 k = 73 := by unfold form17; (repeat' split) <;> omega
  rw [hf]
  exact ⟨rfl, hS.below⟩
 refine WL.set 10 (v' := .bool true) rfl (by rw [hg29]) ?_
 refine WL.set 11 (v' := .bool true) rfl (by rw [hg29]) ?_
 have hg29p : k = 17 := by simpa using hg29
 refine WL.skp rfl rfl ?_
 refine WL.skp rfl rfl ?_
 refine WL.pick (v := .bool true) rfl rfl rfl rfl rfl rfl ?_
 refine WL.nil ?_
 refine N.seq ?_
 refine W.condT rfl ?_
 refine W.seq ?_
 refine W.region ?_
 refine WL.assign rfl rfl rfl ?_
 refine WL.nil ?_
 refine N.seq ?_
 refine Fin.ret1 rfl (v := .int .u8 72) rfl ?_
 have hf : form17 k = 72 := by unfold form17; (repeat' split) <;> omega
 rw [hf]
 exact ⟨rfl, hS.below⟩

set_option maxRecDepth 10000 in
set_option maxHeartbeats 4000000 in
theorem may01_ret (x : DOp) (hm : MayOk x) {w : World} {ro : Nat → Prop} (hro : ∀ b, ro b → b < w.heap.size) : Ret Tryd.prog 11 #[.agg #[.int .i64 x.kind, .int .i64 x.rd, .int .i64 x.a, .int .i64 x.b, .int .i64 x.imm]] w fun v w' => v = .bool true ∧ Below w.heap.size w w' := by
 refine Ret.enter (P := Tryd.prog) (n := 207) (args := [.agg #[.int .i64 x.kind, .int .i64 x.rd, .int .i64 x.a, .int .i64 x.b, .int .i64 x.imm]]) (σ := [(0, .agg #[.int .i64 x.kind, .int .i64 x.rd, .int .i64 x.a, .int .i64 x.b, .int .i64 x.imm])]) Tryd.func11 rfl rfl rfl rfl ?_
 have hS := St.start (ro := ro) hro
 refine W.seq ?_
 refine W.region ?_
 refine WL.box (v := .agg #[.int .i64 x.kind, .int .i64 x.rd, .int .i64 x.a, .int .i64 x.b, .int .i64 x.imm]) (cs := [.int .i64 x.kind, .int .i64 x.rd, .int .i64 x.a, .int .i64 x.b, .int .i64 x.imm]) rfl rfl rfl rfl hS ?_
 clear hS; intro w2 b1 hb_b1 hS
 refine WL.assign rfl rfl rfl ?_
 refine WL.nil ?_
 refine N.seq ?_
 refine W.seq ?_
 refine W.seq ?_
 refine W.region ?_
 refine WL.fieldAddr fo_36_0 rfl rfl rfl ?_
 refine WL.load1 (v := .int .i64 x.kind) one_3 rfl rfl rfl (hS.cell 0 rfl rfl) ?_
 refine WL.bin rfl rfl rfl rfl rfl ?_
 refine WL.set 9 (v' := .bool false) rfl (congrArg Value.bool (show (decide (x.kind < 1)) = false from decide_eq_false (show ¬ (x.kind < 1) from by have := hm.k; omega))) ?_
 refine WL.move rfl rfl rfl ?_
 refine WL.fieldAddr fo_36_0 rfl rfl rfl ?_
 refine WL.load1 (v := .int .i64 x.kind) one_3 rfl rfl rfl (hS.cell 0 rfl rfl) ?_
 refine WL.bin rfl rfl rfl rfl rfl ?_
 refine WL.set 13 (v' := .bool false) rfl (congrArg Value.bool (show (decide (31 < x.kind)) = false from decide_eq_false (show ¬ (31 < x.kind) from by have := hm.k; omega))) ?_
 refine WL.pick (v := .bool false) rfl rfl rfl rfl rfl rfl ?_
 refine WL.nil ?_
 refine N.seq ?_
 refine W.condF rfl ?_
 refine W.skip ?_
 refine N.seq ?_
 refine W.seq ?_
 refine W.region ?_
 refine WL.fieldAddr fo_36_0 rfl rfl rfl ?_
 refine WL.load1 (v := .int .i64 x.kind) one_3 rfl rfl rfl (hS.cell 0 rfl rfl) ?_
 refine WL.callF (vs := [.int .i64 x.kind]) Tryd.func29 (by kernel_rfl) rfl rfl rfl (form01_ret x.kind (ro := ro) (fun b hb => (hS.snap b hb).1)) ?_
 rintro v w3 ⟨rfl, hbl⟩
 replace hS := hS.grow hbl
 refine WL.assign rfl rfl rfl ?_
 refine WL.nil ?_
 refine N.seq ?_
 refine W.seq ?_
 refine W.region ?_
 refine WL.fieldAddr fo_36_1 rfl rfl rfl ?_
 refine WL.load1 (v := .int .i64 x.rd) one_3 rfl rfl rfl (hS.cell 0 rfl rfl) ?_
 refine WL.callF (vs := [.int .i64 x.rd]) Tryd.func30 (by kernel_rfl) rfl rfl rfl (reg01_ret x.rd hm.r.1 (ro := ro) (fun b hb => (hS.snap b hb).1)) ?_
 rintro v w4 ⟨rfl, hbl⟩
 replace hS := hS.grow hbl
 refine WL.assign rfl rfl rfl ?_
 refine WL.nil ?_
 refine N.seq ?_
 refine W.seq ?_
 refine W.region ?_
 refine WL.fieldAddr fo_36_2 rfl rfl rfl ?_
 refine WL.load1 (v := .int .i64 x.a) one_3 rfl rfl rfl (hS.cell 0 rfl rfl) ?_
 refine WL.callF (vs := [.int .i64 x.a]) Tryd.func30 (by kernel_rfl) rfl rfl rfl (reg01_ret x.a hm.r.2.1 (ro := ro) (fun b hb => (hS.snap b hb).1)) ?_
 rintro v w5 ⟨rfl, hbl⟩
 replace hS := hS.grow hbl
 refine WL.assign rfl rfl rfl ?_
 refine WL.nil ?_
 refine N.seq ?_
 refine W.seq ?_
 refine W.region ?_
 refine WL.fieldAddr fo_36_3 rfl rfl rfl ?_
 refine WL.load1 (v := .int .i64 x.b) one_3 rfl rfl rfl (hS.cell 0 rfl rfl) ?_
 refine WL.callF (vs := [.int .i64 x.b]) Tryd.func30 (by kernel_rfl) rfl rfl rfl (reg01_ret x.b hm.r.2.2 (ro := ro) (fun b hb => (hS.snap b hb).1)) ?_
 rintro v w6 ⟨rfl, hbl⟩
 replace hS := hS.grow hbl
 refine WL.assign rfl rfl rfl ?_
 refine WL.nil ?_
 refine N.seq ?_
 refine W.seq ?_
 refine W.seq ?_
 refine W.region ?_
 refine WL.move rfl rfl rfl ?_
 refine WL.bin rfl rfl rfl rfl rfl ?_
 refine WL.nil ?_
 refine N.seq ?_
 refine W.cond rfl (fun hc7 => ?_) (fun hc7 => ?_)
 ·
  have hc7p : form17 x.kind = 82 := by simpa using hc7
  refine W.seq ?_
  refine W.region ?_
  refine WL.move rfl rfl rfl ?_
  refine WL.move rfl rfl rfl ?_
  refine WL.move rfl rfl rfl ?_
  refine WL.pick (v := .bool true) rfl rfl rfl rfl rfl rfl ?_
  refine WL.move rfl rfl rfl ?_
  refine WL.move rfl rfl rfl ?_
  refine WL.pick (v := .bool true) rfl rfl rfl rfl rfl rfl ?_
  refine WL.move rfl rfl rfl ?_
  refine WL.fieldAddr fo_36_4 rfl rfl rfl ?_
  refine WL.load1 (v := .int .i64 x.imm) one_2 rfl rfl rfl (hS.cell 0 rfl rfl) ?_
  refine WL.bin rfl rfl rfl rfl rfl ?_
  refine WL.set 39 (v' := .bool true) rfl (congrArg Value.bool (show (decide (x.imm = 0)) = true from decide_eq_true (show x.imm = 0 from by have := hm.R hc7p; omega))) ?_
  refine WL.pick (v := .bool true) rfl rfl rfl rfl rfl rfl ?_
  refine WL.assign rfl rfl rfl ?_
  refine WL.nil ?_
  refine N.seq ?_
  refine Fin.ret1 rfl (v := .bool true) rfl ?_
  exact ⟨rfl, hS.below⟩
 have hc7p : ¬ (form17 x.kind = 82) := by simpa using hc7
 refine W.skip ?_
 refine N.seq ?_
 refine W.seq ?_
 refine W.seq ?_
 refine W.region ?_
 refine WL.move rfl rfl rfl ?_
 refine WL.bin rfl rfl rfl rfl rfl ?_
 refine WL.nil ?_
 refine N.seq ?_
 refine W.cond rfl (fun hc8 => ?_) (fun hc8 => ?_)
 ·
  have hc8p : form17 x.kind = 73 := by simpa using hc8
  refine W.seq ?_
  refine W.region ?_
  refine WL.move rfl rfl rfl ?_
  refine WL.move rfl rfl rfl ?_
  refine WL.move rfl rfl rfl ?_
  refine WL.pick (v := .bool true) rfl rfl rfl rfl rfl rfl ?_
  refine WL.move rfl rfl rfl ?_
  refine WL.fieldAddr fo_36_3 rfl rfl rfl ?_
  refine WL.load1 (v := .int .i64 x.b) one_3 rfl rfl rfl (hS.cell 0 rfl rfl) ?_
  refine WL.bin rfl rfl rfl rfl rfl ?_
  refine WL.set 50 (v' := .bool true) rfl (congrArg Value.bool (show (decide (x.b = 0)) = true from decide_eq_true (show x.b = 0 from by have := hm.I hc8p; omega))) ?_
  refine WL.pick (v := .bool true) rfl rfl rfl rfl rfl rfl ?_
  refine WL.move rfl rfl rfl ?_
  refine WL.fieldAddr fo_36_4 rfl rfl rfl ?_
  refine WL.load1 (v := .int .i64 x.imm) one_2 rfl rfl rfl (hS.cell 0 rfl rfl) ?_
  refine WL.bin rfl rfl rfl rfl rfl ?_
  refine WL.set 55 (v' := .bool true) rfl (congrArg Value.bool (show (decide (-2048 ≤ x.imm)) = true from decide_eq_true (show -2048 ≤ x.imm from by have := hm.I hc8p; omega))) ?_
  refine WL.pick (v := .bool true) rfl rfl rfl rfl rfl rfl ?_
  refine WL.move rfl rfl rfl ?_
  refine WL.fieldAddr fo_36_4 rfl rfl rfl ?_
  refine WL.load1 (v := .int .i64 x.imm) one_2 rfl rfl rfl (hS.cell 0 rfl rfl) ?_
  refine WL.bin rfl rfl rfl rfl rfl ?_
  refine WL.set 60 (v' := .bool true) rfl (congrArg Value.bool (show (decide (x.imm ≤ 2047)) = true from decide_eq_true (show x.imm ≤ 2047 from by have := hm.I hc8p; omega))) ?_
  refine WL.pick (v := .bool true) rfl rfl rfl rfl rfl rfl ?_
  refine WL.assign rfl rfl rfl ?_
  refine WL.nil ?_
  refine N.seq ?_
  refine Fin.ret1 rfl (v := .bool true) rfl ?_
  exact ⟨rfl, hS.below⟩
 have hc8p : ¬ (form17 x.kind = 73) := by simpa using hc8
 refine W.skip ?_
 refine N.seq ?_
 refine W.seq ?_
 refine W.seq ?_
 refine W.region ?_
 refine WL.move rfl rfl rfl ?_
 refine WL.bin rfl rfl rfl rfl rfl ?_
 refine WL.nil ?_
 refine N.seq ?_
 refine W.cond rfl (fun hc9 => ?_) (fun hc9 => ?_)
 ·
  have hc9p : form17 x.kind = 72 := by simpa using hc9
  refine W.seq ?_
  refine W.region ?_
  refine WL.move rfl rfl rfl ?_
  refine WL.move rfl rfl rfl ?_
  refine WL.move rfl rfl rfl ?_
  refine WL.pick (v := .bool true) rfl rfl rfl rfl rfl rfl ?_
  refine WL.move rfl rfl rfl ?_
  refine WL.fieldAddr fo_36_3 rfl rfl rfl ?_
  refine WL.load1 (v := .int .i64 x.b) one_3 rfl rfl rfl (hS.cell 0 rfl rfl) ?_
  refine WL.bin rfl rfl rfl rfl rfl ?_
  refine WL.set 71 (v' := .bool true) rfl (congrArg Value.bool (show (decide (x.b = 0)) = true from decide_eq_true (show x.b = 0 from by have := hm.H hc9p; omega))) ?_
  refine WL.pick (v := .bool true) rfl rfl rfl rfl rfl rfl ?_
  refine WL.move rfl rfl rfl ?_
  refine WL.fieldAddr fo_36_4 rfl rfl rfl ?_
  refine WL.load1 (v := .int .i64 x.imm) one_2 rfl rfl rfl (hS.cell 0 rfl rfl) ?_
  refine WL.bin rfl rfl rfl rfl rfl ?_
  refine WL.set 76 (v' := .bool true) rfl (congrArg Value.bool (show (decide (0 ≤ x.imm)) = true from decide_eq_true (show 0 ≤ x.imm from by have := hm.H hc9p; omega))) ?_
  refine WL.pick (v := .bool true) rfl rfl rfl rfl rfl rfl ?_
  refine WL.move rfl rfl rfl ?_
  refine WL.fieldAddr fo_36_4 rfl rfl rfl ?_
  refine WL.load1 (v := .int .i64 x.imm) one_2 rfl rfl rfl (hS.cell 0 rfl rfl) ?_
  refine WL.bin rfl rfl rfl rfl rfl ?_
  refine WL.set 81 (v' := .bool true) rfl (congrArg Value.bool (show (decide (x.imm ≤ 63)) = true from decide_eq_true (show x.imm ≤ 63 from by have := hm.H hc9p; omega))) ?_
  refine WL.pick (v := .bool true) rfl rfl rfl rfl rfl rfl ?_
  refine WL.assign rfl rfl rfl ?_
  refine WL.nil ?_
  refine N.seq ?_
  refine Fin.ret1 rfl (v := .bool true) rfl ?_
  exact ⟨rfl, hS.below⟩
 have hc9p : ¬ (form17 x.kind = 72) := by simpa using hc9
 refine W.skip ?_
 refine N.seq ?_
 refine W.seq ?_
 refine W.seq ?_
 refine W.region ?_
 refine WL.move rfl rfl rfl ?_
 refine WL.bin rfl rfl rfl rfl rfl ?_
 refine WL.nil ?_
 refine N.seq ?_
 refine W.cond rfl (fun hc10 => ?_) (fun hc10 => ?_)
 ·
  have hc10p : form17 x.kind = 83 := by simpa using hc10
  refine W.seq ?_
  refine W.region ?_
  refine WL.move rfl rfl rfl ?_
  refine WL.move rfl rfl rfl ?_
  refine WL.move rfl rfl rfl ?_
  refine WL.pick (v := .bool true) rfl rfl rfl rfl rfl rfl ?_
  refine WL.move rfl rfl rfl ?_
  refine WL.fieldAddr fo_36_1 rfl rfl rfl ?_
  refine WL.load1 (v := .int .i64 x.rd) one_3 rfl rfl rfl (hS.cell 0 rfl rfl) ?_
  refine WL.bin rfl rfl rfl rfl rfl ?_
  refine WL.set 92 (v' := .bool true) rfl (congrArg Value.bool (show (decide (x.rd = 0)) = true from decide_eq_true (show x.rd = 0 from by have := hm.S hc10p; omega))) ?_
  refine WL.pick (v := .bool true) rfl rfl rfl rfl rfl rfl ?_
  refine WL.move rfl rfl rfl ?_
  refine WL.fieldAddr fo_36_4 rfl rfl rfl ?_
  refine WL.load1 (v := .int .i64 x.imm) one_2 rfl rfl rfl (hS.cell 0 rfl rfl) ?_
  refine WL.bin rfl rfl rfl rfl rfl ?_
  refine WL.set 97 (v' := .bool true) rfl (congrArg Value.bool (show (decide (-2048 ≤ x.imm)) = true from decide_eq_true (show -2048 ≤ x.imm from by have := hm.S hc10p; omega))) ?_
  refine WL.pick (v := .bool true) rfl rfl rfl rfl rfl rfl ?_
  refine WL.move rfl rfl rfl ?_
  refine WL.fieldAddr fo_36_4 rfl rfl rfl ?_
  refine WL.load1 (v := .int .i64 x.imm) one_2 rfl rfl rfl (hS.cell 0 rfl rfl) ?_
  refine WL.bin rfl rfl rfl rfl rfl ?_
  refine WL.set 102 (v' := .bool true) rfl (congrArg Value.bool (show (decide (x.imm ≤ 2047)) = true from decide_eq_true (show x.imm ≤ 2047 from by have := hm.S hc10p; omega))) ?_
  refine WL.pick (v := .bool true) rfl rfl rfl rfl rfl rfl ?_
  refine WL.assign rfl rfl rfl ?_
  refine WL.nil ?_
  refine N.seq ?_
  refine Fin.ret1 rfl (v := .bool true) rfl ?_
  exact ⟨rfl, hS.below⟩
 have hc10p : ¬ (form17 x.kind = 83) := by simpa using hc10
 refine W.skip ?_
 refine N.seq ?_
 refine W.seq ?_
 refine W.seq ?_
 refine W.region ?_
 refine WL.move rfl rfl rfl ?_
 refine WL.bin rfl rfl rfl rfl rfl ?_
 refine WL.nil ?_
 refine N.seq ?_
 refine W.cond rfl (fun hc11 => ?_) (fun hc11 => ?_)
 ·
  have hc11p : form17 x.kind = 66 := by simpa using hc11
  refine W.seq ?_
  refine W.region ?_
  refine WL.move rfl rfl rfl ?_
  refine WL.move rfl rfl rfl ?_
  refine WL.move rfl rfl rfl ?_
  refine WL.pick (v := .bool true) rfl rfl rfl rfl rfl rfl ?_
  refine WL.move rfl rfl rfl ?_
  refine WL.fieldAddr fo_36_1 rfl rfl rfl ?_
  refine WL.load1 (v := .int .i64 x.rd) one_3 rfl rfl rfl (hS.cell 0 rfl rfl) ?_
  refine WL.bin rfl rfl rfl rfl rfl ?_
  refine WL.set 113 (v' := .bool true) rfl (congrArg Value.bool (show (decide (x.rd = 0)) = true from decide_eq_true (show x.rd = 0 from by have := hm.B hc11p; omega))) ?_
  refine WL.pick (v := .bool true) rfl rfl rfl rfl rfl rfl ?_
  refine WL.move rfl rfl rfl ?_
  refine WL.fieldAddr fo_36_4 rfl rfl rfl ?_
  refine WL.load1 (v := .int .i64 x.imm) one_2 rfl rfl rfl (hS.cell 0 rfl rfl) ?_
  refine WL.bin rfl rfl rfl rfl rfl ?_
  refine WL.set 118 (v' := .bool true) rfl (congrArg Value.bool (show (decide (-4096 ≤ x.imm)) = true from decide_eq_true (show -4096 ≤ x.imm from by have := hm.B hc11p; omega))) ?_
  refine WL.pick (v := .bool true) rfl rfl rfl rfl rfl rfl ?_
  refine WL.move rfl rfl rfl ?_
  refine WL.fieldAddr fo_36_4 rfl rfl rfl ?_
  refine WL.load1 (v := .int .i64 x.imm) one_2 rfl rfl rfl (hS.cell 0 rfl rfl) ?_
  refine WL.bin rfl rfl rfl rfl rfl ?_
  refine WL.set 123 (v' := .bool true) rfl (congrArg Value.bool (show (decide (x.imm ≤ 4094)) = true from decide_eq_true (show x.imm ≤ 4094 from by have := hm.B hc11p; omega))) ?_
  refine WL.pick (v := .bool true) rfl rfl rfl rfl rfl rfl ?_
  refine WL.move rfl rfl rfl ?_
  refine WL.fieldAddr fo_36_4 rfl rfl rfl ?_
  refine WL.load1 (v := .int .i64 x.imm) one_2 rfl rfl rfl (hS.cell 0 rfl rfl) ?_
  refine WL.remC rfl rfl rfl rfl (by decide) ?_
  refine WL.bin rfl rfl rfl rfl rfl ?_
  refine WL.set 129 (v' := .bool true) rfl (congrArg Value.bool (show (decide (x.imm.tmod 2 = 0)) = true from decide_eq_true (show x.imm.tmod 2 = 0 from by have h9 := hm.B hc11p; have h8 : x.imm = 8 := (by omega); rw [h8] <;> rfl))) ?_
  refine WL.pick (v := .bool true) rfl rfl rfl rfl rfl rfl ?_
  refine WL.assign rfl rfl rfl ?_
  refine WL.nil ?_
  refine N.seq ?_
  refine Fin.ret1 rfl (v := .bool true) rfl ?_
  exact ⟨rfl, hS.below⟩
 have hc11p : ¬ (form17 x.kind = 66) := by simpa using hc11
 refine W.skip ?_
 refine N.seq ?_
 refine W.seq ?_
 refine W.seq ?_
 refine W.region ?_
 refine WL.move rfl rfl rfl ?_
 refine WL.bin rfl rfl rfl rfl rfl ?_
 refine WL.nil ?_
 refine N.seq ?_
 refine W.cond rfl (fun hc12 => ?_) (fun hc12 => ?_)
 ·
  have hc12p : form17 x.kind = 85 := by simpa using hc12
  refine W.seq ?_
  refine W.region ?_
  refine WL.move rfl rfl rfl ?_
  refine WL.move rfl rfl rfl ?_
  refine WL.fieldAddr fo_36_2 rfl rfl rfl ?_
  refine WL.load1 (v := .int .i64 x.a) one_3 rfl rfl rfl (hS.cell 0 rfl rfl) ?_
  refine WL.bin rfl rfl rfl rfl rfl ?_
  refine WL.set 137 (v' := .bool true) rfl (congrArg Value.bool (show (decide (x.a = 0)) = true from decide_eq_true (show x.a = 0 from by have := hm.U hc12p; omega))) ?_
  refine WL.pick (v := .bool true) rfl rfl rfl rfl rfl rfl ?_
  refine WL.move rfl rfl rfl ?_
  refine WL.fieldAddr fo_36_3 rfl rfl rfl ?_
  refine WL.load1 (v := .int .i64 x.b) one_3 rfl rfl rfl (hS.cell 0 rfl rfl) ?_
  refine WL.bin rfl rfl rfl rfl rfl ?_
  refine WL.set 142 (v' := .bool true) rfl (congrArg Value.bool (show (decide (x.b = 0)) = true from decide_eq_true (show x.b = 0 from by have := hm.U hc12p; omega))) ?_
  refine WL.pick (v := .bool true) rfl rfl rfl rfl rfl rfl ?_
  refine WL.move rfl rfl rfl ?_
  refine WL.fieldAddr fo_36_4 rfl rfl rfl ?_
  refine WL.load1 (v := .int .i64 x.imm) one_2 rfl rfl rfl (hS.cell 0 rfl rfl) ?_
  refine WL.bin rfl rfl rfl rfl rfl ?_
  refine WL.set 147 (v' := .bool true) rfl (congrArg Value.bool (show (decide (-2147483648 ≤ x.imm)) = true from decide_eq_true (show -2147483648 ≤ x.imm from by have := hm.U hc12p; omega))) ?_
  refine WL.pick (v := .bool true) rfl rfl rfl rfl rfl rfl ?_
  refine WL.move rfl rfl rfl ?_
  refine WL.fieldAddr fo_36_4 rfl rfl rfl ?_
  refine WL.load1 (v := .int .i64 x.imm) one_2 rfl rfl rfl (hS.cell 0 rfl rfl) ?_
  refine WL.bin rfl rfl rfl rfl rfl ?_
  refine WL.set 152 (v' := .bool true) rfl (congrArg Value.bool (show (decide (x.imm ≤ 2147479552)) = true from decide_eq_true (show x.imm ≤ 2147479552 from by have := hm.U hc12p; omega))) ?_
  refine WL.pick (v := .bool true) rfl rfl rfl rfl rfl rfl ?_
  refine WL.move rfl rfl rfl ?_
  refine WL.fieldAddr fo_36_4 rfl rfl rfl ?_
  refine WL.load1 (v := .int .i64 x.imm) one_2 rfl rfl rfl (hS.cell 0 rfl rfl) ?_
  refine WL.remC rfl rfl rfl rfl (by decide) ?_
  refine WL.bin rfl rfl rfl rfl rfl ?_
  refine WL.set 158 (v' := .bool true) rfl (congrArg Value.bool (show (decide (x.imm.tmod 4096 = 0)) = true from decide_eq_true (show x.imm.tmod 4096 = 0 from by have h9 := hm.U hc12p; have h8 : x.imm = 0 := (by omega); rw [h8] <;> rfl))) ?_
  refine WL.pick (v := .bool true) rfl rfl rfl rfl rfl rfl ?_
  refine WL.assign rfl rfl rfl ?_
  refine WL.nil ?_
  refine N.seq ?_
  refine Fin.ret1 rfl (v := .bool true) rfl ?_
  exact ⟨rfl, hS.below⟩
 have hc12p : ¬ (form17 x.kind = 85) := by simpa using hc12
 refine W.skip ?_
 refine N.seq ?_
 refine W.seq ?_
 refine W.seq ?_
 refine W.region ?_
 refine WL.move rfl rfl rfl ?_
 refine WL.bin rfl rfl rfl rfl rfl ?_
 refine WL.nil ?_
 refine N.seq ?_
 refine W.cond rfl (fun hc13 => ?_) (fun hc13 => ?_)
 ·
  have hc13p : form17 x.kind = 74 := by simpa using hc13
  refine W.seq ?_
  refine W.region ?_
  refine WL.move rfl rfl rfl ?_
  refine WL.move rfl rfl rfl ?_
  refine WL.fieldAddr fo_36_2 rfl rfl rfl ?_
  refine WL.load1 (v := .int .i64 x.a) one_3 rfl rfl rfl (hS.cell 0 rfl rfl) ?_
  refine WL.bin rfl rfl rfl rfl rfl ?_
  refine WL.set 166 (v' := .bool true) rfl (congrArg Value.bool (show (decide (x.a = 0)) = true from decide_eq_true (show x.a = 0 from by have := hm.J hc13p; omega))) ?_
  refine WL.pick (v := .bool true) rfl rfl rfl rfl rfl rfl ?_
  refine WL.move rfl rfl rfl ?_
  refine WL.fieldAddr fo_36_3 rfl rfl rfl ?_
  refine WL.load1 (v := .int .i64 x.b) one_3 rfl rfl rfl (hS.cell 0 rfl rfl) ?_
  refine WL.bin rfl rfl rfl rfl rfl ?_
  refine WL.set 171 (v' := .bool true) rfl (congrArg Value.bool (show (decide (x.b = 0)) = true from decide_eq_true (show x.b = 0 from by have := hm.J hc13p; omega))) ?_
  refine WL.pick (v := .bool true) rfl rfl rfl rfl rfl rfl ?_
  refine WL.move rfl rfl rfl ?_
  refine WL.fieldAddr fo_36_4 rfl rfl rfl ?_
  refine WL.load1 (v := .int .i64 x.imm) one_2 rfl rfl rfl (hS.cell 0 rfl rfl) ?_
  refine WL.bin rfl rfl rfl rfl rfl ?_
  refine WL.set 176 (v' := .bool true) rfl (congrArg Value.bool (show (decide (-1048576 ≤ x.imm)) = true from decide_eq_true (show -1048576 ≤ x.imm from by have := hm.J hc13p; omega))) ?_
  refine WL.pick (v := .bool true) rfl rfl rfl rfl rfl rfl ?_
  refine WL.move rfl rfl rfl ?_
  refine WL.fieldAddr fo_36_4 rfl rfl rfl ?_
  refine WL.load1 (v := .int .i64 x.imm) one_2 rfl rfl rfl (hS.cell 0 rfl rfl) ?_
  refine WL.bin rfl rfl rfl rfl rfl ?_
  refine WL.set 181 (v' := .bool true) rfl (congrArg Value.bool (show (decide (x.imm ≤ 1048574)) = true from decide_eq_true (show x.imm ≤ 1048574 from by have := hm.J hc13p; omega))) ?_
  refine WL.pick (v := .bool true) rfl rfl rfl rfl rfl rfl ?_
  refine WL.move rfl rfl rfl ?_
  refine WL.fieldAddr fo_36_4 rfl rfl rfl ?_
  refine WL.load1 (v := .int .i64 x.imm) one_2 rfl rfl rfl (hS.cell 0 rfl rfl) ?_
  refine WL.remC rfl rfl rfl rfl (by decide) ?_
  refine WL.bin rfl rfl rfl rfl rfl ?_
  refine WL.set 187 (v' := .bool true) rfl (congrArg Value.bool (show (decide (x.imm.tmod 2 = 0)) = true from decide_eq_true (show x.imm.tmod 2 = 0 from (hm.J hc13p).2.2.2.2))) ?_
  refine WL.pick (v := .bool true) rfl rfl rfl rfl rfl rfl ?_
  refine WL.assign rfl rfl rfl ?_
  refine WL.nil ?_
  refine N.seq ?_
  refine Fin.ret1 rfl (v := .bool true) rfl ?_
  exact ⟨rfl, hS.below⟩
 have hc13p : ¬ (form17 x.kind = 74) := by simpa using hc13
 refine W.skip ?_
 refine N.seq ?_
 refine W.seq ?_
 refine W.region ?_
 refine WL.fieldAddr fo_36_1 rfl rfl rfl ?_
 refine WL.load1 (v := .int .i64 x.rd) one_3 rfl rfl rfl (hS.cell 0 rfl rfl) ?_
 refine WL.bin rfl rfl rfl rfl rfl ?_
 refine WL.set 191 (v' := .bool true) rfl (congrArg Value.bool (show (decide (x.rd = 0)) = true from decide_eq_true (show x.rd = 0 from by have := hm.E hc7p hc8p hc9p hc10p hc11p hc12p hc13p; omega))) ?_
 refine WL.move rfl rfl rfl ?_
 refine WL.fieldAddr fo_36_2 rfl rfl rfl ?_
 refine WL.load1 (v := .int .i64 x.a) one_3 rfl rfl rfl (hS.cell 0 rfl rfl) ?_
 refine WL.bin rfl rfl rfl rfl rfl ?_
 refine WL.set 195 (v' := .bool true) rfl (congrArg Value.bool (show (decide (x.a = 0)) = true from decide_eq_true (show x.a = 0 from by have := hm.E hc7p hc8p hc9p hc10p hc11p hc12p hc13p; omega))) ?_
 refine WL.pick (v := .bool true) rfl rfl rfl rfl rfl rfl ?_
 refine WL.move rfl rfl rfl ?_
 refine WL.fieldAddr fo_36_3 rfl rfl rfl ?_
 refine WL.load1 (v := .int .i64 x.b) one_3 rfl rfl rfl (hS.cell 0 rfl rfl) ?_
 refine WL.bin rfl rfl rfl rfl rfl ?_
 refine WL.set 200 (v' := .bool true) rfl (congrArg Value.bool (show (decide (x.b = 0)) = true from decide_eq_true (show x.b = 0 from by have := hm.E hc7p hc8p hc9p hc10p hc11p hc12p hc13p; omega))) ?_
 refine WL.pick (v := .bool true) rfl rfl rfl rfl rfl rfl ?_
 refine WL.move rfl rfl rfl ?_
 refine WL.fieldAddr fo_36_4 rfl rfl rfl ?_
 refine WL.load1 (v := .int .i64 x.imm) one_2 rfl rfl rfl (hS.cell 0 rfl rfl) ?_
 refine WL.bin rfl rfl rfl rfl rfl ?_
 refine WL.set 205 (v' := .bool true) rfl (congrArg Value.bool (show (decide (x.imm = 0)) = true from decide_eq_true (show x.imm = 0 from by have := hm.E hc7p hc8p hc9p hc10p hc11p hc12p hc13p; omega))) ?_
 refine WL.pick (v := .bool true) rfl rfl rfl rfl rfl rfl ?_
 refine WL.assign rfl rfl rfl ?_
 refine WL.nil ?_
 refine N.seq ?_
 refine Fin.ret1 rfl (v := .bool true) rfl ?_
 exact ⟨rfl, hS.below⟩

end Go.Proofs.YtcmmhfknkldmcaaDoor
