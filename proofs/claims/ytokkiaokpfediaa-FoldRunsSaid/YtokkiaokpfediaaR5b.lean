/-
  Contracts of what is right (marlineref05). No condition beyond those that each theorem states.
-/
import Derived.Test.YtokkiaokpfediaaR5a
namespace Go.Proofs.Ytokkiaokpfediaa
open Go.RowKit
theorem fo_32_4 : fOff Try.prog 32 4 4 = true := by kernel_rfl
theorem fo_67_3 : fOff Try.prog 67 3 3 = true := by kernel_rfl
theorem isz_29 : (Try.prog.info? 29).map (·.size) = some 8 := by kernel_rfl
theorem one_65 : tyOne Try.prog 65 = true := by kernel_rfl
theorem one_9 : tyOne Try.prog 9 = true := by kernel_rfl
def inst5 (x : DInst) (n : Int) : Bool :=
  if x.op < 1 ∨ 16 < x.op ∨ below5 (uses5 x) n = false ∨ 6 < x.args.length then false
  else if (¬ ((2 ≤ x.op ∧ x.op ≤ 11) ∨ x.op = 13 ∨ x.op = 16) ∧ x.a ≠ 0) ∨ (¬ (2 ≤ x.op ∧ x.op ≤ 11) ∧ x.b ≠ 0) ∨ (x.op ≠ 1 ∧ x.k ≠ 0) ∨ (x.op ≠ 14 ∧ 0 < x.args.length) then false
  else if named5 x = true then name5 x.name else decide (x.name = ⟨#[]⟩)

set_option maxHeartbeats 1000000 in
theorem inst5_ret (x : DInst) (cx : List Value) (n : Int) {w : World} {ro : Nat → Prop} (hro : ∀ b, ro b → b < w.heap.size) (hx : InstC ro w cx x) (hok : okInst x) : Ret Try.prog 44 #[.agg cx.toArray, .int .i64 n] w fun v w' => v = .bool (inst5 x n) ∧ Below w.heap.size w w' := by
 have hQx := hx
 obtain ⟨sx, rfl, hsx, hox, hax, hbx, hkx, hnx⟩ := id hx
 obtain ⟨adx, capx, rfl, hsxa, hsxb, hsxc, hsxd⟩ := id hsx
 have hsxm : x.args.length ≤ 9223372036854775807 := by have h1 := hsxa; have h2 := hsxb; unfold maxLen at h2; omega
 refine Ret.enter (P := Try.prog) (n := 103) (args := [.agg #[.int .i64 x.op, .int .i64 x.a, .int .i64 x.b, .int .u64 x.k, .string x.name, .slice adx x.args.length capx], .int .i64 n]) (σ := [(0, .agg #[.int .i64 x.op, .int .i64 x.a, .int .i64 x.b, .int .u64 x.k, .string x.name, .slice adx x.args.length capx]), (1, .int .i64 n)]) Try.func44 rfl rfl rfl rfl ?_
 have hS := St.start (ro := ro) hro
 refine W.seq (W.region ?_)
 refine WL.box (v := .agg #[.int .i64 x.op, .int .i64 x.a, .int .i64 x.b, .int .u64 x.k, .string x.name, .slice adx x.args.length capx]) (cs := [.int .i64 x.op, .int .i64 x.a, .int .i64 x.b, .int .u64 x.k, .string x.name, .slice adx x.args.length capx]) rfl rfl rfl rfl hS ?_
 clear hS; intro w2 b1 hb_b1 hS
 refine WL.assign rfl rfl rfl (WL.nil (N.seq (W.seq (W.region ?_))))
 refine WL.loadN (cs := [.int .i64 x.op, .int .i64 x.a, .int .i64 x.b, .int .u64 x.k, .string x.name, .slice adx x.args.length capx]) agg_32 rfl rfl rfl rfl (hS.cells 0 (m := 6) rfl rfl) ?_
 refine WL.callF (vs := [.agg #[.int .i64 x.op, .int .i64 x.a, .int .i64 x.b, .int .u64 x.k, .string x.name, .slice adx x.args.length capx]]) Try.func47 (by kernel_rfl) rfl rfl rfl (uses5_ret x _ (ro := ro) (fun b hb => (hS.snap b hb).1) (hQx.keep hS.alike) (by unfold okInst reachBytes at hok; omega)) ?_
 rintro v w3 ⟨hus, hbl⟩
 replace hS := hS.grow hbl
 refine WL.move rfl rfl rfl ?_
 refine WL.callF (vs := [v, .int .i64 n]) Try.func46 (by kernel_rfl) rfl rfl rfl (below5_ret (uses5 x) _ n (ro := fun b => w2.heap.size ≤ b ∧ b < w3.heap.size) (fun _ h => h.2) hus) ?_
 rintro v w4 ⟨rfl, hbl⟩
 replace hS := hS.grow hbl
 obtain ⟨u5, hu5⟩ : ∃ u, u = below5 (uses5 x) n := ⟨_, rfl⟩
 rw [← hu5]
 refine WL.assign rfl rfl rfl (WL.nil (N.seq (W.seq (W.seq (W.region ?_)))))
 refine WL.fieldAddr fo_32_0 rfl rfl rfl ?_
 refine WL.load1 (v := .int .i64 x.op) one_3 rfl rfl rfl (hS.cell 0 rfl rfl) ?_
 refine WL.bin rfl rfl rfl rfl rfl (WL.move rfl rfl rfl ?_)
 cases hg5 : (decide (x.op < 1))
 ·
  have hg5p : ¬ (x.op < 1) := by simpa using hg5
  refine WL.fieldAddr fo_32_0 rfl rfl rfl ?_
  refine WL.load1 (v := .int .i64 x.op) one_3 rfl rfl rfl (hS.cell 0 rfl rfl) ?_
  refine WL.bin rfl rfl rfl rfl rfl ?_
  refine WL.pick (v := .bool (decide (16 < x.op))) rfl rfl rfl rfl rfl rfl ?_
  refine WL.move rfl rfl rfl ?_
  cases hg6 : (decide (16 < x.op))
  ·
   have hg6p : ¬ (16 < x.op) := by simpa using hg6
   refine WL.move rfl rfl rfl (WL.not rfl rfl rfl ?_)
   refine WL.pick (v := .bool (!u5)) rfl rfl rfl rfl rfl rfl ?_
   refine WL.move rfl rfl rfl ?_
   cases hg7 : (!u5)
   ·
    refine WL.fieldAddr fo_32_5 rfl rfl rfl ?_
    refine WL.load1 (v := .slice adx x.args.length capx) one_25 rfl rfl rfl (hS.cell 0 rfl rfl) ?_
    refine WL.lenSlice Try.underlying25 rfl rfl rfl ?_
    refine WL.bin rfl rfl rfl rfl rfl ?_
    refine WL.pick (v := .bool (decide (6 < (x.args.length : Int)))) rfl rfl rfl rfl rfl rfl ?_
    refine WL.nil (N.seq ?_)
    refine W.cond rfl (fun hc8 => ?_) (fun hc8 => ?_)
    ·
     have hc8p : 6 < (x.args.length : Int) := by simpa using hc8
     refine W.seq (W.region (WL.assign rfl rfl rfl (WL.nil (N.seq ?_))))
     refine Fin.ret1 rfl (v := .bool false) rfl ?_
     have hbz := hS.below
     clear hS
     refine ⟨?_, hbz⟩
     congr 1
     rw [inst5, if_pos (by clear hx hQx hsx hsxd hsxa hsxb hsxc; rw [← hu5]; first | omega | (simp_all; done) | (rintro (h | h | h | h) <;> first | omega | (simp_all; done)))]
    have hc8p : ¬ (6 < (x.args.length : Int)) := by simpa using hc8
    refine W.skip (N.seq (W.seq (W.region ?_)))
    refine WL.fieldAddr fo_32_0 rfl rfl rfl ?_
    refine WL.load1 (v := .int .i64 x.op) one_3 rfl rfl rfl (hS.cell 0 rfl rfl) ?_
    refine WL.bin rfl rfl rfl rfl rfl (WL.move rfl rfl rfl ?_)
    cases hg9 : (decide (2 ≤ x.op))
    ·
     have hg9p : ¬ (2 ≤ x.op) := by simpa using hg9
     refine WL.skp rfl rfl (WL.skp rfl rfl (WL.skp rfl rfl (WL.pick (v := .bool false) rfl rfl rfl rfl rfl rfl (WL.move rfl rfl rfl ?_))))
     refine WL.fieldAddr fo_32_0 rfl rfl rfl ?_
     refine WL.load1 (v := .int .i64 x.op) one_3 rfl rfl rfl (hS.cell 0 rfl rfl) ?_
     refine WL.bin rfl rfl rfl rfl rfl ?_
     refine WL.pick (v := .bool (decide (x.op = 13))) rfl rfl rfl rfl rfl rfl ?_
     refine WL.move rfl rfl rfl ?_
     cases hg10 : (decide (x.op = 13))
     ·
      have hg10p : ¬ (x.op = 13) := by simpa using hg10
      refine WL.fieldAddr fo_32_0 rfl rfl rfl ?_
      refine WL.load1 (v := .int .i64 x.op) one_3 rfl rfl rfl (hS.cell 0 rfl rfl) ?_
      refine WL.bin rfl rfl rfl rfl rfl ?_
      refine WL.pick (v := .bool (decide (x.op = 16))) rfl rfl rfl rfl rfl rfl ?_
      refine WL.assign rfl rfl rfl (WL.nil (N.seq (W.seq (W.region ?_))))
      refine WL.fieldAddr fo_32_0 rfl rfl rfl ?_
      refine WL.load1 (v := .int .i64 x.op) one_3 rfl rfl rfl (hS.cell 0 rfl rfl) ?_
      refine WL.bin rfl rfl rfl rfl rfl ?_
      refine WL.set 51 (v' := .bool false) rfl (by rw [hg9]) ?_
      refine WL.move rfl rfl rfl (WL.skp rfl rfl (WL.skp rfl rfl (WL.skp rfl rfl (WL.pick (v := .bool false) rfl rfl rfl rfl rfl rfl (WL.assign rfl rfl rfl (WL.nil (N.seq (W.seq (W.seq ?_)))))))))
      refine W.region (WL.move rfl rfl rfl (WL.not rfl rfl rfl (WL.move rfl rfl rfl ?_)))
      cases hg11 : (!(decide (x.op = 16)))
      ·
       have hg11p : x.op = 16 := by simpa using hg11
       refine WL.skp rfl rfl (WL.skp rfl rfl (WL.skp rfl rfl (WL.pick (v := .bool false) rfl rfl rfl rfl rfl rfl (WL.move rfl rfl rfl (WL.move rfl rfl rfl (WL.not rfl rfl rfl ?_))))))
       refine WL.set 66 (v' := .bool true) rfl rfl ?_
       refine WL.move rfl rfl rfl ?_
       refine WL.fieldAddr fo_32_2 rfl rfl rfl ?_
       refine WL.load1 (v := .int .i64 x.b) one_3 rfl rfl rfl (hS.cell 0 rfl rfl) ?_
       refine WL.bin rfl rfl rfl rfl rfl ?_
       refine WL.pick (v := .bool (!decide (x.b = 0))) rfl rfl rfl rfl rfl rfl ?_
       refine WL.pick (v := .bool (!decide (x.b = 0))) rfl rfl rfl rfl rfl rfl ?_
       refine WL.move rfl rfl rfl ?_
       cases hg12 : (!decide (x.b = 0))
       ·
        have hg12p : x.b = 0 := by simpa using hg12
        refine WL.fieldAddr fo_32_0 rfl rfl rfl ?_
        refine WL.load1 (v := .int .i64 x.op) one_3 rfl rfl rfl (hS.cell 0 rfl rfl) ?_
        refine WL.bin rfl rfl rfl rfl rfl (WL.move rfl rfl rfl ?_)
        cases hg13 : (!decide (x.op = 1))
        ·
         have hg13p : x.op = 1 := by simpa using hg13
         refine WL.skp rfl rfl (WL.skp rfl rfl (WL.skp rfl rfl (WL.pick (v := .bool false) rfl rfl rfl rfl rfl rfl (WL.pick (v := .bool false) rfl rfl rfl rfl rfl rfl (WL.move rfl rfl rfl ?_)))))
         refine WL.fieldAddr fo_32_0 rfl rfl rfl ?_
         refine WL.load1 (v := .int .i64 x.op) one_3 rfl rfl rfl (hS.cell 0 rfl rfl) ?_
         refine WL.bin rfl rfl rfl rfl rfl (WL.move rfl rfl rfl ?_)
         cases hg14 : (!decide (x.op = 14))
         ·
          have hg14p : x.op = 14 := by simpa using hg14
          refine WL.skp rfl rfl (WL.skp rfl rfl (WL.skp rfl rfl (WL.skp rfl rfl (WL.pick (v := .bool false) rfl rfl rfl rfl rfl rfl (WL.pick (v := .bool false) rfl rfl rfl rfl rfl rfl (WL.nil (N.seq (W.condF rfl (W.skip ?_)))))))))
          refine N.seq (W.seq (W.region ?_))
          refine WL.loadN (cs := [.int .i64 x.op, .int .i64 x.a, .int .i64 x.b, .int .u64 x.k, .string x.name, .slice adx x.args.length capx]) agg_32 rfl rfl rfl rfl (hS.cells 0 (m := 6) rfl rfl) ?_
          refine WL.callF (vs := [.agg #[.int .i64 x.op, .int .i64 x.a, .int .i64 x.b, .int .u64 x.k, .string x.name, .slice adx x.args.length capx]]) Try.func39 (by kernel_rfl) rfl rfl rfl (named5_ret x _ (ro := ro) (fun b hb => (hS.snap b hb).1) (hQx.keep hS.alike)) ?_
          rintro v w15 ⟨rfl, hbl⟩
          replace hS := hS.grow hbl
          refine WL.assign rfl rfl rfl (WL.nil (N.seq (W.seq (W.seq (W.region (WL.move rfl rfl rfl (WL.nil (N.seq ?_))))))))
          refine W.cond rfl (fun hc16 => ?_) (fun hc16 => ?_)
          ·
           refine W.seq (W.region ?_)
           refine WL.fieldAddr fo_32_4 rfl rfl rfl ?_
           refine WL.load1 (v := .string x.name) one_9 rfl rfl rfl (hS.cell 0 rfl rfl) ?_
           refine WL.callF (vs := [.string x.name]) Try.func26 (by kernel_rfl) rfl rfl rfl (name5_ret x.name hnx (ro := ro) (fun b hb => (hS.snap b hb).1)) ?_
           rintro v w17 ⟨rfl, hbl⟩
           replace hS := hS.grow hbl
           refine WL.assign rfl rfl rfl (WL.nil (N.seq ?_))
           refine Fin.ret1 rfl (v := .bool (name5 x.name)) rfl ?_
           have hbz := hS.below
           clear hS
           refine ⟨?_, hbz⟩
           congr 1
           rw [inst5, if_neg (by clear hx hQx hsx hsxd hsxa hsxb hsxc; rw [← hu5]; first | omega | (simp_all; done) | (rintro (h | h | h | h) <;> first | omega | (simp_all; done))), if_neg (by clear hx hQx hsx hsxd hsxa hsxb hsxc hu5; first | omega | (simp_all; done) | (simp_all; omega)), if_pos (by simp_all)]
          refine W.skip (N.seq (W.seq (W.region ?_)))
          refine WL.fieldAddr fo_32_4 rfl rfl rfl ?_
          refine WL.load1 (v := .string x.name) one_9 rfl rfl rfl (hS.cell 0 rfl rfl) ?_
          refine WL.eqStr rfl rfl rfl rfl ?_
          refine WL.assign rfl rfl rfl (WL.nil (N.seq ?_))
          refine Fin.ret1 rfl (v := .bool (decide (x.name = ⟨#[]⟩))) rfl ?_
          have hbz := hS.below
          clear hS
          refine ⟨?_, hbz⟩
          congr 1
          rw [inst5, if_neg (by clear hx hQx hsx hsxd hsxa hsxb hsxc; rw [← hu5]; first | omega | (simp_all; done) | (rintro (h | h | h | h) <;> first | omega | (simp_all; done))), if_neg (by clear hx hQx hsx hsxd hsxa hsxb hsxc hu5; first | omega | (simp_all; done) | (simp_all; omega)), if_neg (by simp_all)]
         have hg14p : ¬ (x.op = 14) := by simpa using hg14
         refine WL.fieldAddr fo_32_5 rfl rfl rfl ?_
         refine WL.load1 (v := .slice adx x.args.length capx) one_25 rfl rfl rfl (hS.cell 0 rfl rfl) ?_
         refine WL.lenSlice Try.underlying25 rfl rfl rfl ?_
         refine WL.bin rfl rfl rfl rfl rfl ?_
         refine WL.pick (v := .bool (decide (0 < (x.args.length : Int)))) rfl rfl rfl rfl rfl rfl ?_
         refine WL.pick (v := .bool (decide (0 < (x.args.length : Int)))) rfl rfl rfl rfl rfl rfl ?_
         refine WL.nil (N.seq ?_)
         refine W.cond rfl (fun hc18 => ?_) (fun hc18 => ?_)
         ·
          have hc18p : 0 < (x.args.length : Int) := by simpa using hc18
          refine W.seq (W.region (WL.assign rfl rfl rfl (WL.nil (N.seq ?_))))
          refine Fin.ret1 rfl (v := .bool false) rfl ?_
          have hbz := hS.below
          clear hS
          refine ⟨?_, hbz⟩
          congr 1
          rw [inst5, if_neg (by clear hx hQx hsx hsxd hsxa hsxb hsxc; rw [← hu5]; first | omega | (simp_all; done) | (rintro (h | h | h | h) <;> first | omega | (simp_all; done))), if_pos (by clear hx hQx hsx hsxd hsxa hsxb hsxc hu5; first | omega | (simp_all; done) | (simp_all; omega))]
         have hc18p : ¬ (0 < (x.args.length : Int)) := by simpa using hc18
         refine W.skip (N.seq (W.seq (W.region ?_)))
         refine WL.loadN (cs := [.int .i64 x.op, .int .i64 x.a, .int .i64 x.b, .int .u64 x.k, .string x.name, .slice adx x.args.length capx]) agg_32 rfl rfl rfl rfl (hS.cells 0 (m := 6) rfl rfl) ?_
         refine WL.callF (vs := [.agg #[.int .i64 x.op, .int .i64 x.a, .int .i64 x.b, .int .u64 x.k, .string x.name, .slice adx x.args.length capx]]) Try.func39 (by kernel_rfl) rfl rfl rfl (named5_ret x _ (ro := ro) (fun b hb => (hS.snap b hb).1) (hQx.keep hS.alike)) ?_
         rintro v w19 ⟨rfl, hbl⟩
         replace hS := hS.grow hbl
         refine WL.assign rfl rfl rfl (WL.nil (N.seq (W.seq (W.seq (W.region (WL.move rfl rfl rfl (WL.nil (N.seq ?_))))))))
         refine W.cond rfl (fun hc20 => ?_) (fun hc20 => ?_)
         ·
          refine W.seq (W.region ?_)
          refine WL.fieldAddr fo_32_4 rfl rfl rfl ?_
          refine WL.load1 (v := .string x.name) one_9 rfl rfl rfl (hS.cell 0 rfl rfl) ?_
          refine WL.callF (vs := [.string x.name]) Try.func26 (by kernel_rfl) rfl rfl rfl (name5_ret x.name hnx (ro := ro) (fun b hb => (hS.snap b hb).1)) ?_
          rintro v w21 ⟨rfl, hbl⟩
          replace hS := hS.grow hbl
          refine WL.assign rfl rfl rfl (WL.nil (N.seq ?_))
          refine Fin.ret1 rfl (v := .bool (name5 x.name)) rfl ?_
          have hbz := hS.below
          clear hS
          refine ⟨?_, hbz⟩
          congr 1
          rw [inst5, if_neg (by clear hx hQx hsx hsxd hsxa hsxb hsxc; rw [← hu5]; first | omega | (simp_all; done) | (rintro (h | h | h | h) <;> first | omega | (simp_all; done))), if_neg (by clear hx hQx hsx hsxd hsxa hsxb hsxc hu5; first | omega | (simp_all; done) | (simp_all; omega)), if_pos (by simp_all)]
         refine W.skip (N.seq (W.seq (W.region ?_)))
         refine WL.fieldAddr fo_32_4 rfl rfl rfl ?_
         refine WL.load1 (v := .string x.name) one_9 rfl rfl rfl (hS.cell 0 rfl rfl) ?_
         refine WL.eqStr rfl rfl rfl rfl ?_
         refine WL.assign rfl rfl rfl (WL.nil (N.seq ?_))
         refine Fin.ret1 rfl (v := .bool (decide (x.name = ⟨#[]⟩))) rfl ?_
         have hbz := hS.below
         clear hS
         refine ⟨?_, hbz⟩
         congr 1
         rw [inst5, if_neg (by clear hx hQx hsx hsxd hsxa hsxb hsxc; rw [← hu5]; first | omega | (simp_all; done) | (rintro (h | h | h | h) <;> first | omega | (simp_all; done))), if_neg (by clear hx hQx hsx hsxd hsxa hsxb hsxc hu5; first | omega | (simp_all; done) | (simp_all; omega)), if_neg (by simp_all)]
        have hg13p : ¬ (x.op = 1) := by simpa using hg13
        refine WL.fieldAddr fo_32_3 rfl rfl rfl ?_
        refine WL.load1 (v := .int .u64 x.k) one_22 rfl rfl rfl (hS.cell 0 rfl rfl) ?_
        refine WL.bin rfl rfl rfl rfl rfl ?_
        refine WL.pick (v := .bool (!decide (x.k = 0))) rfl rfl rfl rfl rfl rfl ?_
        refine WL.pick (v := .bool (!decide (x.k = 0))) rfl rfl rfl rfl rfl rfl ?_
        refine WL.move rfl rfl rfl ?_
        cases hg22 : (!decide (x.k = 0))
        ·
         have hg22p : x.k = 0 := by simpa using hg22
         refine WL.fieldAddr fo_32_0 rfl rfl rfl ?_
         refine WL.load1 (v := .int .i64 x.op) one_3 rfl rfl rfl (hS.cell 0 rfl rfl) ?_
         refine WL.bin rfl rfl rfl rfl rfl (WL.move rfl rfl rfl ?_)
         cases hg23 : (!decide (x.op = 14))
         ·
          have hg23p : x.op = 14 := by simpa using hg23
          refine WL.skp rfl rfl (WL.skp rfl rfl (WL.skp rfl rfl (WL.skp rfl rfl (WL.pick (v := .bool false) rfl rfl rfl rfl rfl rfl (WL.pick (v := .bool false) rfl rfl rfl rfl rfl rfl (WL.nil (N.seq (W.condF rfl (W.skip ?_)))))))))
          refine N.seq (W.seq (W.region ?_))
          refine WL.loadN (cs := [.int .i64 x.op, .int .i64 x.a, .int .i64 x.b, .int .u64 x.k, .string x.name, .slice adx x.args.length capx]) agg_32 rfl rfl rfl rfl (hS.cells 0 (m := 6) rfl rfl) ?_
          refine WL.callF (vs := [.agg #[.int .i64 x.op, .int .i64 x.a, .int .i64 x.b, .int .u64 x.k, .string x.name, .slice adx x.args.length capx]]) Try.func39 (by kernel_rfl) rfl rfl rfl (named5_ret x _ (ro := ro) (fun b hb => (hS.snap b hb).1) (hQx.keep hS.alike)) ?_
          rintro v w24 ⟨rfl, hbl⟩
          replace hS := hS.grow hbl
          refine WL.assign rfl rfl rfl (WL.nil (N.seq (W.seq (W.seq (W.region (WL.move rfl rfl rfl (WL.nil (N.seq ?_))))))))
          refine W.cond rfl (fun hc25 => ?_) (fun hc25 => ?_)
          ·
           refine W.seq (W.region ?_)
           refine WL.fieldAddr fo_32_4 rfl rfl rfl ?_
           refine WL.load1 (v := .string x.name) one_9 rfl rfl rfl (hS.cell 0 rfl rfl) ?_
           refine WL.callF (vs := [.string x.name]) Try.func26 (by kernel_rfl) rfl rfl rfl (name5_ret x.name hnx (ro := ro) (fun b hb => (hS.snap b hb).1)) ?_
           rintro v w26 ⟨rfl, hbl⟩
           replace hS := hS.grow hbl
           refine WL.assign rfl rfl rfl (WL.nil (N.seq ?_))
           refine Fin.ret1 rfl (v := .bool (name5 x.name)) rfl ?_
           have hbz := hS.below
           clear hS
           refine ⟨?_, hbz⟩
           congr 1
           rw [inst5, if_neg (by clear hx hQx hsx hsxd hsxa hsxb hsxc; rw [← hu5]; first | omega | (simp_all; done) | (rintro (h | h | h | h) <;> first | omega | (simp_all; done))), if_neg (by clear hx hQx hsx hsxd hsxa hsxb hsxc hu5; first | omega | (simp_all; done) | (simp_all; omega)), if_pos (by simp_all)]
          refine W.skip (N.seq (W.seq (W.region ?_)))
          refine WL.fieldAddr fo_32_4 rfl rfl rfl ?_
          refine WL.load1 (v := .string x.name) one_9 rfl rfl rfl (hS.cell 0 rfl rfl) ?_
          refine WL.eqStr rfl rfl rfl rfl ?_
          refine WL.assign rfl rfl rfl (WL.nil (N.seq ?_))
          refine Fin.ret1 rfl (v := .bool (decide (x.name = ⟨#[]⟩))) rfl ?_
          have hbz := hS.below
          clear hS
          refine ⟨?_, hbz⟩
          congr 1
          rw [inst5, if_neg (by clear hx hQx hsx hsxd hsxa hsxb hsxc; rw [← hu5]; first | omega | (simp_all; done) | (rintro (h | h | h | h) <;> first | omega | (simp_all; done))), if_neg (by clear hx hQx hsx hsxd hsxa hsxb hsxc hu5; first | omega | (simp_all; done) | (simp_all; omega)), if_neg (by simp_all)]
         have hg23p : ¬ (x.op = 14) := by simpa using hg23
         refine WL.fieldAddr fo_32_5 rfl rfl rfl ?_
         refine WL.load1 (v := .slice adx x.args.length capx) one_25 rfl rfl rfl (hS.cell 0 rfl rfl) ?_
         refine WL.lenSlice Try.underlying25 rfl rfl rfl ?_
         refine WL.bin rfl rfl rfl rfl rfl ?_
         refine WL.pick (v := .bool (decide (0 < (x.args.length : Int)))) rfl rfl rfl rfl rfl rfl ?_
         refine WL.pick (v := .bool (decide (0 < (x.args.length : Int)))) rfl rfl rfl rfl rfl rfl ?_
         refine WL.nil (N.seq ?_)
         refine W.cond rfl (fun hc27 => ?_) (fun hc27 => ?_)
         ·
          have hc27p : 0 < (x.args.length : Int) := by simpa using hc27
          refine W.seq (W.region (WL.assign rfl rfl rfl (WL.nil (N.seq ?_))))
          refine Fin.ret1 rfl (v := .bool false) rfl ?_
          have hbz := hS.below
          clear hS
          refine ⟨?_, hbz⟩
          congr 1
          rw [inst5, if_neg (by clear hx hQx hsx hsxd hsxa hsxb hsxc; rw [← hu5]; first | omega | (simp_all; done) | (rintro (h | h | h | h) <;> first | omega | (simp_all; done))), if_pos (by clear hx hQx hsx hsxd hsxa hsxb hsxc hu5; first | omega | (simp_all; done) | (simp_all; omega))]
         have hc27p : ¬ (0 < (x.args.length : Int)) := by simpa using hc27
         refine W.skip (N.seq (W.seq (W.region ?_)))
         refine WL.loadN (cs := [.int .i64 x.op, .int .i64 x.a, .int .i64 x.b, .int .u64 x.k, .string x.name, .slice adx x.args.length capx]) agg_32 rfl rfl rfl rfl (hS.cells 0 (m := 6) rfl rfl) ?_
         refine WL.callF (vs := [.agg #[.int .i64 x.op, .int .i64 x.a, .int .i64 x.b, .int .u64 x.k, .string x.name, .slice adx x.args.length capx]]) Try.func39 (by kernel_rfl) rfl rfl rfl (named5_ret x _ (ro := ro) (fun b hb => (hS.snap b hb).1) (hQx.keep hS.alike)) ?_
         rintro v w28 ⟨rfl, hbl⟩
         replace hS := hS.grow hbl
         refine WL.assign rfl rfl rfl (WL.nil (N.seq (W.seq (W.seq (W.region (WL.move rfl rfl rfl (WL.nil (N.seq ?_))))))))
         refine W.cond rfl (fun hc29 => ?_) (fun hc29 => ?_)
         ·
          refine W.seq (W.region ?_)
          refine WL.fieldAddr fo_32_4 rfl rfl rfl ?_
          refine WL.load1 (v := .string x.name) one_9 rfl rfl rfl (hS.cell 0 rfl rfl) ?_
          refine WL.callF (vs := [.string x.name]) Try.func26 (by kernel_rfl) rfl rfl rfl (name5_ret x.name hnx (ro := ro) (fun b hb => (hS.snap b hb).1)) ?_
          rintro v w30 ⟨rfl, hbl⟩
          replace hS := hS.grow hbl
          refine WL.assign rfl rfl rfl (WL.nil (N.seq ?_))
          refine Fin.ret1 rfl (v := .bool (name5 x.name)) rfl ?_
          have hbz := hS.below
          clear hS
          refine ⟨?_, hbz⟩
          congr 1
          rw [inst5, if_neg (by clear hx hQx hsx hsxd hsxa hsxb hsxc; rw [← hu5]; first | omega | (simp_all; done) | (rintro (h | h | h | h) <;> first | omega | (simp_all; done))), if_neg (by clear hx hQx hsx hsxd hsxa hsxb hsxc hu5; first | omega | (simp_all; done) | (simp_all; omega)), if_pos (by simp_all)]
         refine W.skip (N.seq (W.seq (W.region ?_)))
         refine WL.fieldAddr fo_32_4 rfl rfl rfl ?_
         refine WL.load1 (v := .string x.name) one_9 rfl rfl rfl (hS.cell 0 rfl rfl) ?_
         refine WL.eqStr rfl rfl rfl rfl ?_
         refine WL.assign rfl rfl rfl (WL.nil (N.seq ?_))
         refine Fin.ret1 rfl (v := .bool (decide (x.name = ⟨#[]⟩))) rfl ?_
         have hbz := hS.below
         clear hS
         refine ⟨?_, hbz⟩
         congr 1
         rw [inst5, if_neg (by clear hx hQx hsx hsxd hsxa hsxb hsxc; rw [← hu5]; first | omega | (simp_all; done) | (rintro (h | h | h | h) <;> first | omega | (simp_all; done))), if_neg (by clear hx hQx hsx hsxd hsxa hsxb hsxc hu5; first | omega | (simp_all; done) | (simp_all; omega)), if_neg (by simp_all)]
        have hg22p : ¬ (x.k = 0) := by simpa using hg22
        refine WL.skp rfl rfl (WL.skp rfl rfl (WL.skp rfl rfl (WL.skp rfl rfl (WL.skp rfl rfl (WL.skp rfl rfl (WL.skp rfl rfl (WL.skp rfl rfl (WL.skp rfl rfl (WL.pick (v := .bool true) rfl rfl rfl rfl rfl rfl ?_)))))))))
        refine WL.nil (N.seq (W.condT rfl (W.seq (W.region (WL.assign rfl rfl rfl (WL.nil (N.seq ?_)))))))
        refine Fin.ret1 rfl (v := .bool false) rfl ?_
        have hbz := hS.below
        clear hS
        refine ⟨?_, hbz⟩
        congr 1
        rw [inst5, if_neg (by clear hx hQx hsx hsxd hsxa hsxb hsxc; rw [← hu5]; first | omega | (simp_all; done) | (rintro (h | h | h | h) <;> first | omega | (simp_all; done))), if_pos (by clear hx hQx hsx hsxd hsxa hsxb hsxc hu5; first | omega | (simp_all; done) | (simp_all; omega))]
       have hg12p : ¬ (x.b = 0) := by simpa using hg12
       refine WL.skp rfl rfl (WL.skp rfl rfl (WL.skp rfl rfl (WL.skp rfl rfl (WL.skp rfl rfl (WL.skp rfl rfl (WL.skp rfl rfl (WL.skp rfl rfl (WL.pick (v := .bool true) rfl rfl rfl rfl rfl rfl (WL.move rfl rfl rfl ?_)))))))))
       refine WL.skp rfl rfl (WL.skp rfl rfl (WL.skp rfl rfl (WL.skp rfl rfl (WL.skp rfl rfl (WL.skp rfl rfl (WL.skp rfl rfl (WL.skp rfl rfl (WL.skp rfl rfl (WL.pick (v := .bool true) rfl rfl rfl rfl rfl rfl ?_)))))))))
       refine WL.nil (N.seq (W.condT rfl (W.seq (W.region (WL.assign rfl rfl rfl (WL.nil (N.seq ?_)))))))
       refine Fin.ret1 rfl (v := .bool false) rfl ?_
       have hbz := hS.below
       clear hS
       refine ⟨?_, hbz⟩
       congr 1
       rw [inst5, if_neg (by clear hx hQx hsx hsxd hsxa hsxb hsxc; rw [← hu5]; first | omega | (simp_all; done) | (rintro (h | h | h | h) <;> first | omega | (simp_all; done))), if_pos (by clear hx hQx hsx hsxd hsxa hsxb hsxc hu5; first | omega | (simp_all; done) | (simp_all; omega))]
      have hg11p : ¬ (x.op = 16) := by simpa using hg11
      refine WL.fieldAddr fo_32_1 rfl rfl rfl ?_
      refine WL.load1 (v := .int .i64 x.a) one_3 rfl rfl rfl (hS.cell 0 rfl rfl) ?_
      refine WL.bin rfl rfl rfl rfl rfl ?_
      refine WL.pick (v := .bool (!decide (x.a = 0))) rfl rfl rfl rfl rfl rfl ?_
      refine WL.move rfl rfl rfl ?_
      cases hg31 : (!decide (x.a = 0))
      ·
       have hg31p : x.a = 0 := by simpa using hg31
       refine WL.move rfl rfl rfl (WL.not rfl rfl rfl ?_)
       refine WL.set 66 (v' := .bool true) rfl rfl ?_
       refine WL.move rfl rfl rfl ?_
       refine WL.fieldAddr fo_32_2 rfl rfl rfl ?_
       refine WL.load1 (v := .int .i64 x.b) one_3 rfl rfl rfl (hS.cell 0 rfl rfl) ?_
       refine WL.bin rfl rfl rfl rfl rfl ?_
       refine WL.pick (v := .bool (!decide (x.b = 0))) rfl rfl rfl rfl rfl rfl ?_
       refine WL.pick (v := .bool (!decide (x.b = 0))) rfl rfl rfl rfl rfl rfl ?_
       refine WL.move rfl rfl rfl ?_
       cases hg32 : (!decide (x.b = 0))
       ·
        have hg32p : x.b = 0 := by simpa using hg32
        refine WL.fieldAddr fo_32_0 rfl rfl rfl ?_
        refine WL.load1 (v := .int .i64 x.op) one_3 rfl rfl rfl (hS.cell 0 rfl rfl) ?_
        refine WL.bin rfl rfl rfl rfl rfl (WL.move rfl rfl rfl ?_)
        cases hg33 : (!decide (x.op = 1))
        ·
         have hg33p : x.op = 1 := by simpa using hg33
         refine WL.skp rfl rfl (WL.skp rfl rfl (WL.skp rfl rfl (WL.pick (v := .bool false) rfl rfl rfl rfl rfl rfl (WL.pick (v := .bool false) rfl rfl rfl rfl rfl rfl (WL.move rfl rfl rfl ?_)))))
         refine WL.fieldAddr fo_32_0 rfl rfl rfl ?_
         refine WL.load1 (v := .int .i64 x.op) one_3 rfl rfl rfl (hS.cell 0 rfl rfl) ?_
         refine WL.bin rfl rfl rfl rfl rfl (WL.move rfl rfl rfl ?_)
         cases hg34 : (!decide (x.op = 14))
         ·
          have hg34p : x.op = 14 := by simpa using hg34
          refine WL.skp rfl rfl (WL.skp rfl rfl (WL.skp rfl rfl (WL.skp rfl rfl (WL.pick (v := .bool false) rfl rfl rfl rfl rfl rfl (WL.pick (v := .bool false) rfl rfl rfl rfl rfl rfl (WL.nil (N.seq (W.condF rfl (W.skip ?_)))))))))
          refine N.seq (W.seq (W.region ?_))
          refine WL.loadN (cs := [.int .i64 x.op, .int .i64 x.a, .int .i64 x.b, .int .u64 x.k, .string x.name, .slice adx x.args.length capx]) agg_32 rfl rfl rfl rfl (hS.cells 0 (m := 6) rfl rfl) ?_
          refine WL.callF (vs := [.agg #[.int .i64 x.op, .int .i64 x.a, .int .i64 x.b, .int .u64 x.k, .string x.name, .slice adx x.args.length capx]]) Try.func39 (by kernel_rfl) rfl rfl rfl (named5_ret x _ (ro := ro) (fun b hb => (hS.snap b hb).1) (hQx.keep hS.alike)) ?_
          rintro v w35 ⟨rfl, hbl⟩
          replace hS := hS.grow hbl
          refine WL.assign rfl rfl rfl (WL.nil (N.seq (W.seq (W.seq (W.region (WL.move rfl rfl rfl (WL.nil (N.seq ?_))))))))
          refine W.cond rfl (fun hc36 => ?_) (fun hc36 => ?_)
          ·
           refine W.seq (W.region ?_)
           refine WL.fieldAddr fo_32_4 rfl rfl rfl ?_
           refine WL.load1 (v := .string x.name) one_9 rfl rfl rfl (hS.cell 0 rfl rfl) ?_
           refine WL.callF (vs := [.string x.name]) Try.func26 (by kernel_rfl) rfl rfl rfl (name5_ret x.name hnx (ro := ro) (fun b hb => (hS.snap b hb).1)) ?_
           rintro v w37 ⟨rfl, hbl⟩
           replace hS := hS.grow hbl
           refine WL.assign rfl rfl rfl (WL.nil (N.seq ?_))
           refine Fin.ret1 rfl (v := .bool (name5 x.name)) rfl ?_
           have hbz := hS.below
           clear hS
           refine ⟨?_, hbz⟩
           congr 1
           rw [inst5, if_neg (by clear hx hQx hsx hsxd hsxa hsxb hsxc; rw [← hu5]; first | omega | (simp_all; done) | (rintro (h | h | h | h) <;> first | omega | (simp_all; done))), if_neg (by clear hx hQx hsx hsxd hsxa hsxb hsxc hu5; first | omega | (simp_all; done) | (simp_all; omega)), if_pos (by simp_all)]
          refine W.skip (N.seq (W.seq (W.region ?_)))
          refine WL.fieldAddr fo_32_4 rfl rfl rfl ?_
          refine WL.load1 (v := .string x.name) one_9 rfl rfl rfl (hS.cell 0 rfl rfl) ?_
          refine WL.eqStr rfl rfl rfl rfl ?_
          refine WL.assign rfl rfl rfl (WL.nil (N.seq ?_))
          refine Fin.ret1 rfl (v := .bool (decide (x.name = ⟨#[]⟩))) rfl ?_
          have hbz := hS.below
          clear hS
          refine ⟨?_, hbz⟩
          congr 1
          rw [inst5, if_neg (by clear hx hQx hsx hsxd hsxa hsxb hsxc; rw [← hu5]; first | omega | (simp_all; done) | (rintro (h | h | h | h) <;> first | omega | (simp_all; done))), if_neg (by clear hx hQx hsx hsxd hsxa hsxb hsxc hu5; first | omega | (simp_all; done) | (simp_all; omega)), if_neg (by simp_all)]
         have hg34p : ¬ (x.op = 14) := by simpa using hg34
         refine WL.fieldAddr fo_32_5 rfl rfl rfl ?_
         refine WL.load1 (v := .slice adx x.args.length capx) one_25 rfl rfl rfl (hS.cell 0 rfl rfl) ?_
         refine WL.lenSlice Try.underlying25 rfl rfl rfl ?_
         refine WL.bin rfl rfl rfl rfl rfl ?_
         refine WL.pick (v := .bool (decide (0 < (x.args.length : Int)))) rfl rfl rfl rfl rfl rfl ?_
         refine WL.pick (v := .bool (decide (0 < (x.args.length : Int)))) rfl rfl rfl rfl rfl rfl ?_
         refine WL.nil (N.seq ?_)
         refine W.cond rfl (fun hc38 => ?_) (fun hc38 => ?_)
         ·
          have hc38p : 0 < (x.args.length : Int) := by simpa using hc38
          refine W.seq (W.region (WL.assign rfl rfl rfl (WL.nil (N.seq ?_))))
          refine Fin.ret1 rfl (v := .bool false) rfl ?_
          have hbz := hS.below
          clear hS
          refine ⟨?_, hbz⟩
          congr 1
          rw [inst5, if_neg (by clear hx hQx hsx hsxd hsxa hsxb hsxc; rw [← hu5]; first | omega | (simp_all; done) | (rintro (h | h | h | h) <;> first | omega | (simp_all; done))), if_pos (by clear hx hQx hsx hsxd hsxa hsxb hsxc hu5; first | omega | (simp_all; done) | (simp_all; omega))]
         have hc38p : ¬ (0 < (x.args.length : Int)) := by simpa using hc38
         refine W.skip (N.seq (W.seq (W.region ?_)))
         refine WL.loadN (cs := [.int .i64 x.op, .int .i64 x.a, .int .i64 x.b, .int .u64 x.k, .string x.name, .slice adx x.args.length capx]) agg_32 rfl rfl rfl rfl (hS.cells 0 (m := 6) rfl rfl) ?_
         refine WL.callF (vs := [.agg #[.int .i64 x.op, .int .i64 x.a, .int .i64 x.b, .int .u64 x.k, .string x.name, .slice adx x.args.length capx]]) Try.func39 (by kernel_rfl) rfl rfl rfl (named5_ret x _ (ro := ro) (fun b hb => (hS.snap b hb).1) (hQx.keep hS.alike)) ?_
         rintro v w39 ⟨rfl, hbl⟩
         replace hS := hS.grow hbl
         refine WL.assign rfl rfl rfl (WL.nil (N.seq (W.seq (W.seq (W.region (WL.move rfl rfl rfl (WL.nil (N.seq ?_))))))))
         refine W.cond rfl (fun hc40 => ?_) (fun hc40 => ?_)
         ·
          refine W.seq (W.region ?_)
          refine WL.fieldAddr fo_32_4 rfl rfl rfl ?_
          refine WL.load1 (v := .string x.name) one_9 rfl rfl rfl (hS.cell 0 rfl rfl) ?_
          refine WL.callF (vs := [.string x.name]) Try.func26 (by kernel_rfl) rfl rfl rfl (name5_ret x.name hnx (ro := ro) (fun b hb => (hS.snap b hb).1)) ?_
          rintro v w41 ⟨rfl, hbl⟩
          replace hS := hS.grow hbl
          refine WL.assign rfl rfl rfl (WL.nil (N.seq ?_))
          refine Fin.ret1 rfl (v := .bool (name5 x.name)) rfl ?_
          have hbz := hS.below
          clear hS
          refine ⟨?_, hbz⟩
          congr 1
          rw [inst5, if_neg (by clear hx hQx hsx hsxd hsxa hsxb hsxc; rw [← hu5]; first | omega | (simp_all; done) | (rintro (h | h | h | h) <;> first | omega | (simp_all; done))), if_neg (by clear hx hQx hsx hsxd hsxa hsxb hsxc hu5; first | omega | (simp_all; done) | (simp_all; omega)), if_pos (by simp_all)]
         refine W.skip (N.seq (W.seq (W.region ?_)))
         refine WL.fieldAddr fo_32_4 rfl rfl rfl ?_
         refine WL.load1 (v := .string x.name) one_9 rfl rfl rfl (hS.cell 0 rfl rfl) ?_
         refine WL.eqStr rfl rfl rfl rfl ?_
         refine WL.assign rfl rfl rfl (WL.nil (N.seq ?_))
         refine Fin.ret1 rfl (v := .bool (decide (x.name = ⟨#[]⟩))) rfl ?_
         have hbz := hS.below
         clear hS
         refine ⟨?_, hbz⟩
         congr 1
         rw [inst5, if_neg (by clear hx hQx hsx hsxd hsxa hsxb hsxc; rw [← hu5]; first | omega | (simp_all; done) | (rintro (h | h | h | h) <;> first | omega | (simp_all; done))), if_neg (by clear hx hQx hsx hsxd hsxa hsxb hsxc hu5; first | omega | (simp_all; done) | (simp_all; omega)), if_neg (by simp_all)]
        have hg33p : ¬ (x.op = 1) := by simpa using hg33
        refine WL.fieldAddr fo_32_3 rfl rfl rfl ?_
        refine WL.load1 (v := .int .u64 x.k) one_22 rfl rfl rfl (hS.cell 0 rfl rfl) ?_
        refine WL.bin rfl rfl rfl rfl rfl ?_
        refine WL.pick (v := .bool (!decide (x.k = 0))) rfl rfl rfl rfl rfl rfl ?_
        refine WL.pick (v := .bool (!decide (x.k = 0))) rfl rfl rfl rfl rfl rfl ?_
        refine WL.move rfl rfl rfl ?_
        cases hg42 : (!decide (x.k = 0))
        ·
         have hg42p : x.k = 0 := by simpa using hg42
         refine WL.fieldAddr fo_32_0 rfl rfl rfl ?_
         refine WL.load1 (v := .int .i64 x.op) one_3 rfl rfl rfl (hS.cell 0 rfl rfl) ?_
         refine WL.bin rfl rfl rfl rfl rfl (WL.move rfl rfl rfl ?_)
         cases hg43 : (!decide (x.op = 14))
         ·
          have hg43p : x.op = 14 := by simpa using hg43
          refine WL.skp rfl rfl (WL.skp rfl rfl (WL.skp rfl rfl (WL.skp rfl rfl (WL.pick (v := .bool false) rfl rfl rfl rfl rfl rfl (WL.pick (v := .bool false) rfl rfl rfl rfl rfl rfl (WL.nil (N.seq (W.condF rfl (W.skip ?_)))))))))
          refine N.seq (W.seq (W.region ?_))
          refine WL.loadN (cs := [.int .i64 x.op, .int .i64 x.a, .int .i64 x.b, .int .u64 x.k, .string x.name, .slice adx x.args.length capx]) agg_32 rfl rfl rfl rfl (hS.cells 0 (m := 6) rfl rfl) ?_
          refine WL.callF (vs := [.agg #[.int .i64 x.op, .int .i64 x.a, .int .i64 x.b, .int .u64 x.k, .string x.name, .slice adx x.args.length capx]]) Try.func39 (by kernel_rfl) rfl rfl rfl (named5_ret x _ (ro := ro) (fun b hb => (hS.snap b hb).1) (hQx.keep hS.alike)) ?_
          rintro v w44 ⟨rfl, hbl⟩
          replace hS := hS.grow hbl
          refine WL.assign rfl rfl rfl (WL.nil (N.seq (W.seq (W.seq (W.region (WL.move rfl rfl rfl (WL.nil (N.seq ?_))))))))
          refine W.cond rfl (fun hc45 => ?_) (fun hc45 => ?_)
          ·
           refine W.seq (W.region ?_)
           refine WL.fieldAddr fo_32_4 rfl rfl rfl ?_
           refine WL.load1 (v := .string x.name) one_9 rfl rfl rfl (hS.cell 0 rfl rfl) ?_
           refine WL.callF (vs := [.string x.name]) Try.func26 (by kernel_rfl) rfl rfl rfl (name5_ret x.name hnx (ro := ro) (fun b hb => (hS.snap b hb).1)) ?_
           rintro v w46 ⟨rfl, hbl⟩
           replace hS := hS.grow hbl
           refine WL.assign rfl rfl rfl (WL.nil (N.seq ?_))
           refine Fin.ret1 rfl (v := .bool (name5 x.name)) rfl ?_
           have hbz := hS.below
           clear hS
           refine ⟨?_, hbz⟩
           congr 1
           rw [inst5, if_neg (by clear hx hQx hsx hsxd hsxa hsxb hsxc; rw [← hu5]; first | omega | (simp_all; done) | (rintro (h | h | h | h) <;> first | omega | (simp_all; done))), if_neg (by clear hx hQx hsx hsxd hsxa hsxb hsxc hu5; first | omega | (simp_all; done) | (simp_all; omega)), if_pos (by simp_all)]
          refine W.skip (N.seq (W.seq (W.region ?_)))
          refine WL.fieldAddr fo_32_4 rfl rfl rfl ?_
          refine WL.load1 (v := .string x.name) one_9 rfl rfl rfl (hS.cell 0 rfl rfl) ?_
          refine WL.eqStr rfl rfl rfl rfl ?_
          refine WL.assign rfl rfl rfl (WL.nil (N.seq ?_))
          refine Fin.ret1 rfl (v := .bool (decide (x.name = ⟨#[]⟩))) rfl ?_
          have hbz := hS.below
          clear hS
          refine ⟨?_, hbz⟩
          congr 1
          rw [inst5, if_neg (by clear hx hQx hsx hsxd hsxa hsxb hsxc; rw [← hu5]; first | omega | (simp_all; done) | (rintro (h | h | h | h) <;> first | omega | (simp_all; done))), if_neg (by clear hx hQx hsx hsxd hsxa hsxb hsxc hu5; first | omega | (simp_all; done) | (simp_all; omega)), if_neg (by simp_all)]
         have hg43p : ¬ (x.op = 14) := by simpa using hg43
         refine WL.fieldAddr fo_32_5 rfl rfl rfl ?_
         refine WL.load1 (v := .slice adx x.args.length capx) one_25 rfl rfl rfl (hS.cell 0 rfl rfl) ?_
         refine WL.lenSlice Try.underlying25 rfl rfl rfl ?_
         refine WL.bin rfl rfl rfl rfl rfl ?_
         refine WL.pick (v := .bool (decide (0 < (x.args.length : Int)))) rfl rfl rfl rfl rfl rfl ?_
         refine WL.pick (v := .bool (decide (0 < (x.args.length : Int)))) rfl rfl rfl rfl rfl rfl ?_
         refine WL.nil (N.seq ?_)
         refine W.cond rfl (fun hc47 => ?_) (fun hc47 => ?_)
         ·
          have hc47p : 0 < (x.args.length : Int) := by simpa using hc47
          refine W.seq (W.region (WL.assign rfl rfl rfl (WL.nil (N.seq ?_))))
          refine Fin.ret1 rfl (v := .bool false) rfl ?_
          have hbz := hS.below
          clear hS
          refine ⟨?_, hbz⟩
          congr 1
          rw [inst5, if_neg (by clear hx hQx hsx hsxd hsxa hsxb hsxc; rw [← hu5]; first | omega | (simp_all; done) | (rintro (h | h | h | h) <;> first | omega | (simp_all; done))), if_pos (by clear hx hQx hsx hsxd hsxa hsxb hsxc hu5; first | omega | (simp_all; done) | (simp_all; omega))]
         have hc47p : ¬ (0 < (x.args.length : Int)) := by simpa using hc47
         refine W.skip (N.seq (W.seq (W.region ?_)))
         refine WL.loadN (cs := [.int .i64 x.op, .int .i64 x.a, .int .i64 x.b, .int .u64 x.k, .string x.name, .slice adx x.args.length capx]) agg_32 rfl rfl rfl rfl (hS.cells 0 (m := 6) rfl rfl) ?_
         refine WL.callF (vs := [.agg #[.int .i64 x.op, .int .i64 x.a, .int .i64 x.b, .int .u64 x.k, .string x.name, .slice adx x.args.length capx]]) Try.func39 (by kernel_rfl) rfl rfl rfl (named5_ret x _ (ro := ro) (fun b hb => (hS.snap b hb).1) (hQx.keep hS.alike)) ?_
         rintro v w48 ⟨rfl, hbl⟩
         replace hS := hS.grow hbl
         refine WL.assign rfl rfl rfl (WL.nil (N.seq (W.seq (W.seq (W.region (WL.move rfl rfl rfl (WL.nil (N.seq ?_))))))))
         refine W.cond rfl (fun hc49 => ?_) (fun hc49 => ?_)
         ·
          refine W.seq (W.region ?_)
          refine WL.fieldAddr fo_32_4 rfl rfl rfl ?_
          refine WL.load1 (v := .string x.name) one_9 rfl rfl rfl (hS.cell 0 rfl rfl) ?_
          refine WL.callF (vs := [.string x.name]) Try.func26 (by kernel_rfl) rfl rfl rfl (name5_ret x.name hnx (ro := ro) (fun b hb => (hS.snap b hb).1)) ?_
          rintro v w50 ⟨rfl, hbl⟩
          replace hS := hS.grow hbl
          refine WL.assign rfl rfl rfl (WL.nil (N.seq ?_))
          refine Fin.ret1 rfl (v := .bool (name5 x.name)) rfl ?_
          have hbz := hS.below
          clear hS
          refine ⟨?_, hbz⟩
          congr 1
          rw [inst5, if_neg (by clear hx hQx hsx hsxd hsxa hsxb hsxc; rw [← hu5]; first | omega | (simp_all; done) | (rintro (h | h | h | h) <;> first | omega | (simp_all; done))), if_neg (by clear hx hQx hsx hsxd hsxa hsxb hsxc hu5; first | omega | (simp_all; done) | (simp_all; omega)), if_pos (by simp_all)]
         refine W.skip (N.seq (W.seq (W.region ?_)))
         refine WL.fieldAddr fo_32_4 rfl rfl rfl ?_
         refine WL.load1 (v := .string x.name) one_9 rfl rfl rfl (hS.cell 0 rfl rfl) ?_
         refine WL.eqStr rfl rfl rfl rfl ?_
         refine WL.assign rfl rfl rfl (WL.nil (N.seq ?_))
         refine Fin.ret1 rfl (v := .bool (decide (x.name = ⟨#[]⟩))) rfl ?_
         have hbz := hS.below
         clear hS
         refine ⟨?_, hbz⟩
         congr 1
         rw [inst5, if_neg (by clear hx hQx hsx hsxd hsxa hsxb hsxc; rw [← hu5]; first | omega | (simp_all; done) | (rintro (h | h | h | h) <;> first | omega | (simp_all; done))), if_neg (by clear hx hQx hsx hsxd hsxa hsxb hsxc hu5; first | omega | (simp_all; done) | (simp_all; omega)), if_neg (by simp_all)]
        have hg42p : ¬ (x.k = 0) := by simpa using hg42
        refine WL.skp rfl rfl (WL.skp rfl rfl (WL.skp rfl rfl (WL.skp rfl rfl (WL.skp rfl rfl (WL.skp rfl rfl (WL.skp rfl rfl (WL.skp rfl rfl (WL.skp rfl rfl (WL.pick (v := .bool true) rfl rfl rfl rfl rfl rfl ?_)))))))))
        refine WL.nil (N.seq (W.condT rfl (W.seq (W.region (WL.assign rfl rfl rfl (WL.nil (N.seq ?_)))))))
        refine Fin.ret1 rfl (v := .bool false) rfl ?_
        have hbz := hS.below
        clear hS
        refine ⟨?_, hbz⟩
        congr 1
        rw [inst5, if_neg (by clear hx hQx hsx hsxd hsxa hsxb hsxc; rw [← hu5]; first | omega | (simp_all; done) | (rintro (h | h | h | h) <;> first | omega | (simp_all; done))), if_pos (by clear hx hQx hsx hsxd hsxa hsxb hsxc hu5; first | omega | (simp_all; done) | (simp_all; omega))]
       have hg32p : ¬ (x.b = 0) := by simpa using hg32
       refine WL.skp rfl rfl (WL.skp rfl rfl (WL.skp rfl rfl (WL.skp rfl rfl (WL.skp rfl rfl (WL.skp rfl rfl (WL.skp rfl rfl (WL.skp rfl rfl (WL.pick (v := .bool true) rfl rfl rfl rfl rfl rfl (WL.move rfl rfl rfl ?_)))))))))
       refine WL.skp rfl rfl (WL.skp rfl rfl (WL.skp rfl rfl (WL.skp rfl rfl (WL.skp rfl rfl (WL.skp rfl rfl (WL.skp rfl rfl (WL.skp rfl rfl (WL.skp rfl rfl (WL.pick (v := .bool true) rfl rfl rfl rfl rfl rfl ?_)))))))))
       refine WL.nil (N.seq (W.condT rfl (W.seq (W.region (WL.assign rfl rfl rfl (WL.nil (N.seq ?_)))))))
       refine Fin.ret1 rfl (v := .bool false) rfl ?_
       have hbz := hS.below
       clear hS
       refine ⟨?_, hbz⟩
       congr 1
       rw [inst5, if_neg (by clear hx hQx hsx hsxd hsxa hsxb hsxc; rw [← hu5]; first | omega | (simp_all; done) | (rintro (h | h | h | h) <;> first | omega | (simp_all; done))), if_pos (by clear hx hQx hsx hsxd hsxa hsxb hsxc hu5; first | omega | (simp_all; done) | (simp_all; omega))]
      have hg31p : ¬ (x.a = 0) := by simpa using hg31
      refine WL.skp rfl rfl (WL.skp rfl rfl (WL.skp rfl rfl (WL.skp rfl rfl (WL.skp rfl rfl (WL.skp rfl rfl (WL.skp rfl rfl (WL.pick (v := .bool true) rfl rfl rfl rfl rfl rfl (WL.move rfl rfl rfl (WL.skp rfl rfl ?_)))))))))
      refine WL.skp rfl rfl (WL.skp rfl rfl (WL.skp rfl rfl (WL.skp rfl rfl (WL.skp rfl rfl (WL.skp rfl rfl (WL.skp rfl rfl (WL.pick (v := .bool true) rfl rfl rfl rfl rfl rfl (WL.move rfl rfl rfl (WL.skp rfl rfl ?_)))))))))
      refine WL.skp rfl rfl (WL.skp rfl rfl (WL.skp rfl rfl (WL.skp rfl rfl (WL.skp rfl rfl (WL.skp rfl rfl (WL.skp rfl rfl (WL.skp rfl rfl (WL.pick (v := .bool true) rfl rfl rfl rfl rfl rfl (WL.nil ?_)))))))))
      refine N.seq (W.condT rfl (W.seq (W.region (WL.assign rfl rfl rfl (WL.nil (N.seq ?_))))))
      refine Fin.ret1 rfl (v := .bool false) rfl ?_
      have hbz := hS.below
      clear hS
      refine ⟨?_, hbz⟩
      congr 1
      rw [inst5, if_neg (by clear hx hQx hsx hsxd hsxa hsxb hsxc; rw [← hu5]; first | omega | (simp_all; done) | (rintro (h | h | h | h) <;> first | omega | (simp_all; done))), if_pos (by clear hx hQx hsx hsxd hsxa hsxb hsxc hu5; first | omega | (simp_all; done) | (simp_all; omega))]
     have hg10p : x.op = 13 := by simpa using hg10
     refine WL.skp rfl rfl (WL.skp rfl rfl (WL.skp rfl rfl (WL.pick (v := .bool true) rfl rfl rfl rfl rfl rfl (WL.assign rfl rfl rfl (WL.nil (N.seq (W.seq (W.region ?_))))))))
     refine WL.fieldAddr fo_32_0 rfl rfl rfl ?_
     refine WL.load1 (v := .int .i64 x.op) one_3 rfl rfl rfl (hS.cell 0 rfl rfl) ?_
     refine WL.bin rfl rfl rfl rfl rfl ?_
     refine WL.set 51 (v' := .bool false) rfl (by rw [hg9]) ?_
     refine WL.move rfl rfl rfl (WL.skp rfl rfl (WL.skp rfl rfl (WL.skp rfl rfl (WL.pick (v := .bool false) rfl rfl rfl rfl rfl rfl (WL.assign rfl rfl rfl (WL.nil (N.seq (W.seq (W.seq ?_)))))))))
     refine W.region (WL.move rfl rfl rfl (WL.not rfl rfl rfl ?_))
     refine WL.set 58 (v' := .bool false) rfl rfl ?_
     refine WL.move rfl rfl rfl (WL.skp rfl rfl (WL.skp rfl rfl (WL.skp rfl rfl (WL.pick (v := .bool false) rfl rfl rfl rfl rfl rfl (WL.move rfl rfl rfl (WL.move rfl rfl rfl (WL.not rfl rfl rfl ?_)))))))
     refine WL.set 66 (v' := .bool true) rfl rfl ?_
     refine WL.move rfl rfl rfl ?_
     refine WL.fieldAddr fo_32_2 rfl rfl rfl ?_
     refine WL.load1 (v := .int .i64 x.b) one_3 rfl rfl rfl (hS.cell 0 rfl rfl) ?_
     refine WL.bin rfl rfl rfl rfl rfl ?_
     refine WL.pick (v := .bool (!decide (x.b = 0))) rfl rfl rfl rfl rfl rfl ?_
     refine WL.pick (v := .bool (!decide (x.b = 0))) rfl rfl rfl rfl rfl rfl ?_
     refine WL.move rfl rfl rfl ?_
     cases hg51 : (!decide (x.b = 0))
     ·
      have hg51p : x.b = 0 := by simpa using hg51
      refine WL.fieldAddr fo_32_0 rfl rfl rfl ?_
      refine WL.load1 (v := .int .i64 x.op) one_3 rfl rfl rfl (hS.cell 0 rfl rfl) ?_
      refine WL.bin rfl rfl rfl rfl rfl (WL.move rfl rfl rfl ?_)
      cases hg52 : (!decide (x.op = 1))
      ·
       have hg52p : x.op = 1 := by simpa using hg52
       refine WL.skp rfl rfl (WL.skp rfl rfl (WL.skp rfl rfl (WL.pick (v := .bool false) rfl rfl rfl rfl rfl rfl (WL.pick (v := .bool false) rfl rfl rfl rfl rfl rfl (WL.move rfl rfl rfl ?_)))))
       refine WL.fieldAddr fo_32_0 rfl rfl rfl ?_
       refine WL.load1 (v := .int .i64 x.op) one_3 rfl rfl rfl (hS.cell 0 rfl rfl) ?_
       refine WL.bin rfl rfl rfl rfl rfl (WL.move rfl rfl rfl ?_)
       cases hg53 : (!decide (x.op = 14))
       ·
        have hg53p : x.op = 14 := by simpa using hg53
        refine WL.skp rfl rfl (WL.skp rfl rfl (WL.skp rfl rfl (WL.skp rfl rfl (WL.pick (v := .bool false) rfl rfl rfl rfl rfl rfl (WL.pick (v := .bool false) rfl rfl rfl rfl rfl rfl (WL.nil (N.seq (W.condF rfl (W.skip ?_)))))))))
        refine N.seq (W.seq (W.region ?_))
        refine WL.loadN (cs := [.int .i64 x.op, .int .i64 x.a, .int .i64 x.b, .int .u64 x.k, .string x.name, .slice adx x.args.length capx]) agg_32 rfl rfl rfl rfl (hS.cells 0 (m := 6) rfl rfl) ?_
        refine WL.callF (vs := [.agg #[.int .i64 x.op, .int .i64 x.a, .int .i64 x.b, .int .u64 x.k, .string x.name, .slice adx x.args.length capx]]) Try.func39 (by kernel_rfl) rfl rfl rfl (named5_ret x _ (ro := ro) (fun b hb => (hS.snap b hb).1) (hQx.keep hS.alike)) ?_
        rintro v w54 ⟨rfl, hbl⟩
        replace hS := hS.grow hbl
        refine WL.assign rfl rfl rfl (WL.nil (N.seq (W.seq (W.seq (W.region (WL.move rfl rfl rfl (WL.nil (N.seq ?_))))))))
        refine W.cond rfl (fun hc55 => ?_) (fun hc55 => ?_)
        ·
         refine W.seq (W.region ?_)
         refine WL.fieldAddr fo_32_4 rfl rfl rfl ?_
         refine WL.load1 (v := .string x.name) one_9 rfl rfl rfl (hS.cell 0 rfl rfl) ?_
         refine WL.callF (vs := [.string x.name]) Try.func26 (by kernel_rfl) rfl rfl rfl (name5_ret x.name hnx (ro := ro) (fun b hb => (hS.snap b hb).1)) ?_
         rintro v w56 ⟨rfl, hbl⟩
         replace hS := hS.grow hbl
         refine WL.assign rfl rfl rfl (WL.nil (N.seq ?_))
         refine Fin.ret1 rfl (v := .bool (name5 x.name)) rfl ?_
         have hbz := hS.below
         clear hS
         refine ⟨?_, hbz⟩
         congr 1
         rw [inst5, if_neg (by clear hx hQx hsx hsxd hsxa hsxb hsxc; rw [← hu5]; first | omega | (simp_all; done) | (rintro (h | h | h | h) <;> first | omega | (simp_all; done))), if_neg (by clear hx hQx hsx hsxd hsxa hsxb hsxc hu5; first | omega | (simp_all; done) | (simp_all; omega)), if_pos (by simp_all)]
        refine W.skip (N.seq (W.seq (W.region ?_)))
        refine WL.fieldAddr fo_32_4 rfl rfl rfl ?_
        refine WL.load1 (v := .string x.name) one_9 rfl rfl rfl (hS.cell 0 rfl rfl) ?_
        refine WL.eqStr rfl rfl rfl rfl ?_
        refine WL.assign rfl rfl rfl (WL.nil (N.seq ?_))
        refine Fin.ret1 rfl (v := .bool (decide (x.name = ⟨#[]⟩))) rfl ?_
        have hbz := hS.below
        clear hS
        refine ⟨?_, hbz⟩
        congr 1
        rw [inst5, if_neg (by clear hx hQx hsx hsxd hsxa hsxb hsxc; rw [← hu5]; first | omega | (simp_all; done) | (rintro (h | h | h | h) <;> first | omega | (simp_all; done))), if_neg (by clear hx hQx hsx hsxd hsxa hsxb hsxc hu5; first | omega | (simp_all; done) | (simp_all; omega)), if_neg (by simp_all)]
       have hg53p : ¬ (x.op = 14) := by simpa using hg53
       refine WL.fieldAddr fo_32_5 rfl rfl rfl ?_
       refine WL.load1 (v := .slice adx x.args.length capx) one_25 rfl rfl rfl (hS.cell 0 rfl rfl) ?_
       refine WL.lenSlice Try.underlying25 rfl rfl rfl ?_
       refine WL.bin rfl rfl rfl rfl rfl ?_
       refine WL.pick (v := .bool (decide (0 < (x.args.length : Int)))) rfl rfl rfl rfl rfl rfl ?_
       refine WL.pick (v := .bool (decide (0 < (x.args.length : Int)))) rfl rfl rfl rfl rfl rfl ?_
       refine WL.nil (N.seq ?_)
       refine W.cond rfl (fun hc57 => ?_) (fun hc57 => ?_)
       ·
        have hc57p : 0 < (x.args.length : Int) := by simpa using hc57
        refine W.seq (W.region (WL.assign rfl rfl rfl (WL.nil (N.seq ?_))))
        refine Fin.ret1 rfl (v := .bool false) rfl ?_
        have hbz := hS.below
        clear hS
        refine ⟨?_, hbz⟩
        congr 1
        rw [inst5, if_neg (by clear hx hQx hsx hsxd hsxa hsxb hsxc; rw [← hu5]; first | omega | (simp_all; done) | (rintro (h | h | h | h) <;> first | omega | (simp_all; done))), if_pos (by clear hx hQx hsx hsxd hsxa hsxb hsxc hu5; first | omega | (simp_all; done) | (simp_all; omega))]
       have hc57p : ¬ (0 < (x.args.length : Int)) := by simpa using hc57
       refine W.skip (N.seq (W.seq (W.region ?_)))
       refine WL.loadN (cs := [.int .i64 x.op, .int .i64 x.a, .int .i64 x.b, .int .u64 x.k, .string x.name, .slice adx x.args.length capx]) agg_32 rfl rfl rfl rfl (hS.cells 0 (m := 6) rfl rfl) ?_
       refine WL.callF (vs := [.agg #[.int .i64 x.op, .int .i64 x.a, .int .i64 x.b, .int .u64 x.k, .string x.name, .slice adx x.args.length capx]]) Try.func39 (by kernel_rfl) rfl rfl rfl (named5_ret x _ (ro := ro) (fun b hb => (hS.snap b hb).1) (hQx.keep hS.alike)) ?_
       rintro v w58 ⟨rfl, hbl⟩
       replace hS := hS.grow hbl
       refine WL.assign rfl rfl rfl (WL.nil (N.seq (W.seq (W.seq (W.region (WL.move rfl rfl rfl (WL.nil (N.seq ?_))))))))
       refine W.cond rfl (fun hc59 => ?_) (fun hc59 => ?_)
       ·
        refine W.seq (W.region ?_)
        refine WL.fieldAddr fo_32_4 rfl rfl rfl ?_
        refine WL.load1 (v := .string x.name) one_9 rfl rfl rfl (hS.cell 0 rfl rfl) ?_
        refine WL.callF (vs := [.string x.name]) Try.func26 (by kernel_rfl) rfl rfl rfl (name5_ret x.name hnx (ro := ro) (fun b hb => (hS.snap b hb).1)) ?_
        rintro v w60 ⟨rfl, hbl⟩
        replace hS := hS.grow hbl
        refine WL.assign rfl rfl rfl (WL.nil (N.seq ?_))
        refine Fin.ret1 rfl (v := .bool (name5 x.name)) rfl ?_
        have hbz := hS.below
        clear hS
        refine ⟨?_, hbz⟩
        congr 1
        rw [inst5, if_neg (by clear hx hQx hsx hsxd hsxa hsxb hsxc; rw [← hu5]; first | omega | (simp_all; done) | (rintro (h | h | h | h) <;> first | omega | (simp_all; done))), if_neg (by clear hx hQx hsx hsxd hsxa hsxb hsxc hu5; first | omega | (simp_all; done) | (simp_all; omega)), if_pos (by simp_all)]
       refine W.skip (N.seq (W.seq (W.region ?_)))
       refine WL.fieldAddr fo_32_4 rfl rfl rfl ?_
       refine WL.load1 (v := .string x.name) one_9 rfl rfl rfl (hS.cell 0 rfl rfl) ?_
       refine WL.eqStr rfl rfl rfl rfl ?_
       refine WL.assign rfl rfl rfl (WL.nil (N.seq ?_))
       refine Fin.ret1 rfl (v := .bool (decide (x.name = ⟨#[]⟩))) rfl ?_
       have hbz := hS.below
       clear hS
       refine ⟨?_, hbz⟩
       congr 1
       rw [inst5, if_neg (by clear hx hQx hsx hsxd hsxa hsxb hsxc; rw [← hu5]; first | omega | (simp_all; done) | (rintro (h | h | h | h) <;> first | omega | (simp_all; done))), if_neg (by clear hx hQx hsx hsxd hsxa hsxb hsxc hu5; first | omega | (simp_all; done) | (simp_all; omega)), if_neg (by simp_all)]
      have hg52p : ¬ (x.op = 1) := by simpa using hg52
      refine WL.fieldAddr fo_32_3 rfl rfl rfl ?_
      refine WL.load1 (v := .int .u64 x.k) one_22 rfl rfl rfl (hS.cell 0 rfl rfl) ?_
      refine WL.bin rfl rfl rfl rfl rfl ?_
      refine WL.pick (v := .bool (!decide (x.k = 0))) rfl rfl rfl rfl rfl rfl ?_
      refine WL.pick (v := .bool (!decide (x.k = 0))) rfl rfl rfl rfl rfl rfl ?_
      refine WL.move rfl rfl rfl ?_
      cases hg61 : (!decide (x.k = 0))
      ·
       have hg61p : x.k = 0 := by simpa using hg61
       refine WL.fieldAddr fo_32_0 rfl rfl rfl ?_
       refine WL.load1 (v := .int .i64 x.op) one_3 rfl rfl rfl (hS.cell 0 rfl rfl) ?_
       refine WL.bin rfl rfl rfl rfl rfl (WL.move rfl rfl rfl ?_)
       cases hg62 : (!decide (x.op = 14))
       ·
        have hg62p : x.op = 14 := by simpa using hg62
        refine WL.skp rfl rfl (WL.skp rfl rfl (WL.skp rfl rfl (WL.skp rfl rfl (WL.pick (v := .bool false) rfl rfl rfl rfl rfl rfl (WL.pick (v := .bool false) rfl rfl rfl rfl rfl rfl (WL.nil (N.seq (W.condF rfl (W.skip ?_)))))))))
        refine N.seq (W.seq (W.region ?_))
        refine WL.loadN (cs := [.int .i64 x.op, .int .i64 x.a, .int .i64 x.b, .int .u64 x.k, .string x.name, .slice adx x.args.length capx]) agg_32 rfl rfl rfl rfl (hS.cells 0 (m := 6) rfl rfl) ?_
        refine WL.callF (vs := [.agg #[.int .i64 x.op, .int .i64 x.a, .int .i64 x.b, .int .u64 x.k, .string x.name, .slice adx x.args.length capx]]) Try.func39 (by kernel_rfl) rfl rfl rfl (named5_ret x _ (ro := ro) (fun b hb => (hS.snap b hb).1) (hQx.keep hS.alike)) ?_
        rintro v w63 ⟨rfl, hbl⟩
        replace hS := hS.grow hbl
        refine WL.assign rfl rfl rfl (WL.nil (N.seq (W.seq (W.seq (W.region (WL.move rfl rfl rfl (WL.nil (N.seq ?_))))))))
        refine W.cond rfl (fun hc64 => ?_) (fun hc64 => ?_)
        ·
         refine W.seq (W.region ?_)
         refine WL.fieldAddr fo_32_4 rfl rfl rfl ?_
         refine WL.load1 (v := .string x.name) one_9 rfl rfl rfl (hS.cell 0 rfl rfl) ?_
         refine WL.callF (vs := [.string x.name]) Try.func26 (by kernel_rfl) rfl rfl rfl (name5_ret x.name hnx (ro := ro) (fun b hb => (hS.snap b hb).1)) ?_
         rintro v w65 ⟨rfl, hbl⟩
         replace hS := hS.grow hbl
         refine WL.assign rfl rfl rfl (WL.nil (N.seq ?_))
         refine Fin.ret1 rfl (v := .bool (name5 x.name)) rfl ?_
         have hbz := hS.below
         clear hS
         refine ⟨?_, hbz⟩
         congr 1
         rw [inst5, if_neg (by clear hx hQx hsx hsxd hsxa hsxb hsxc; rw [← hu5]; first | omega | (simp_all; done) | (rintro (h | h | h | h) <;> first | omega | (simp_all; done))), if_neg (by clear hx hQx hsx hsxd hsxa hsxb hsxc hu5; first | omega | (simp_all; done) | (simp_all; omega)), if_pos (by simp_all)]
        refine W.skip (N.seq (W.seq (W.region ?_)))
        refine WL.fieldAddr fo_32_4 rfl rfl rfl ?_
        refine WL.load1 (v := .string x.name) one_9 rfl rfl rfl (hS.cell 0 rfl rfl) ?_
        refine WL.eqStr rfl rfl rfl rfl ?_
        refine WL.assign rfl rfl rfl (WL.nil (N.seq ?_))
        refine Fin.ret1 rfl (v := .bool (decide (x.name = ⟨#[]⟩))) rfl ?_
        have hbz := hS.below
        clear hS
        refine ⟨?_, hbz⟩
        congr 1
        rw [inst5, if_neg (by clear hx hQx hsx hsxd hsxa hsxb hsxc; rw [← hu5]; first | omega | (simp_all; done) | (rintro (h | h | h | h) <;> first | omega | (simp_all; done))), if_neg (by clear hx hQx hsx hsxd hsxa hsxb hsxc hu5; first | omega | (simp_all; done) | (simp_all; omega)), if_neg (by simp_all)]
       have hg62p : ¬ (x.op = 14) := by simpa using hg62
       refine WL.fieldAddr fo_32_5 rfl rfl rfl ?_
       refine WL.load1 (v := .slice adx x.args.length capx) one_25 rfl rfl rfl (hS.cell 0 rfl rfl) ?_
       refine WL.lenSlice Try.underlying25 rfl rfl rfl ?_
       refine WL.bin rfl rfl rfl rfl rfl ?_
       refine WL.pick (v := .bool (decide (0 < (x.args.length : Int)))) rfl rfl rfl rfl rfl rfl ?_
       refine WL.pick (v := .bool (decide (0 < (x.args.length : Int)))) rfl rfl rfl rfl rfl rfl ?_
       refine WL.nil (N.seq ?_)
       refine W.cond rfl (fun hc66 => ?_) (fun hc66 => ?_)
       ·
        have hc66p : 0 < (x.args.length : Int) := by simpa using hc66
        refine W.seq (W.region (WL.assign rfl rfl rfl (WL.nil (N.seq ?_))))
        refine Fin.ret1 rfl (v := .bool false) rfl ?_
        have hbz := hS.below
        clear hS
        refine ⟨?_, hbz⟩
        congr 1
        rw [inst5, if_neg (by clear hx hQx hsx hsxd hsxa hsxb hsxc; rw [← hu5]; first | omega | (simp_all; done) | (rintro (h | h | h | h) <;> first | omega | (simp_all; done))), if_pos (by clear hx hQx hsx hsxd hsxa hsxb hsxc hu5; first | omega | (simp_all; done) | (simp_all; omega))]
       have hc66p : ¬ (0 < (x.args.length : Int)) := by simpa using hc66
       refine W.skip (N.seq (W.seq (W.region ?_)))
       refine WL.loadN (cs := [.int .i64 x.op, .int .i64 x.a, .int .i64 x.b, .int .u64 x.k, .string x.name, .slice adx x.args.length capx]) agg_32 rfl rfl rfl rfl (hS.cells 0 (m := 6) rfl rfl) ?_
       refine WL.callF (vs := [.agg #[.int .i64 x.op, .int .i64 x.a, .int .i64 x.b, .int .u64 x.k, .string x.name, .slice adx x.args.length capx]]) Try.func39 (by kernel_rfl) rfl rfl rfl (named5_ret x _ (ro := ro) (fun b hb => (hS.snap b hb).1) (hQx.keep hS.alike)) ?_
       rintro v w67 ⟨rfl, hbl⟩
       replace hS := hS.grow hbl
       refine WL.assign rfl rfl rfl (WL.nil (N.seq (W.seq (W.seq (W.region (WL.move rfl rfl rfl (WL.nil (N.seq ?_))))))))
       refine W.cond rfl (fun hc68 => ?_) (fun hc68 => ?_)
       ·
        refine W.seq (W.region ?_)
        refine WL.fieldAddr fo_32_4 rfl rfl rfl ?_
        refine WL.load1 (v := .string x.name) one_9 rfl rfl rfl (hS.cell 0 rfl rfl) ?_
        refine WL.callF (vs := [.string x.name]) Try.func26 (by kernel_rfl) rfl rfl rfl (name5_ret x.name hnx (ro := ro) (fun b hb => (hS.snap b hb).1)) ?_
        rintro v w69 ⟨rfl, hbl⟩
        replace hS := hS.grow hbl
        refine WL.assign rfl rfl rfl (WL.nil (N.seq ?_))
        refine Fin.ret1 rfl (v := .bool (name5 x.name)) rfl ?_
        have hbz := hS.below
        clear hS
        refine ⟨?_, hbz⟩
        congr 1
        rw [inst5, if_neg (by clear hx hQx hsx hsxd hsxa hsxb hsxc; rw [← hu5]; first | omega | (simp_all; done) | (rintro (h | h | h | h) <;> first | omega | (simp_all; done))), if_neg (by clear hx hQx hsx hsxd hsxa hsxb hsxc hu5; first | omega | (simp_all; done) | (simp_all; omega)), if_pos (by simp_all)]
       refine W.skip (N.seq (W.seq (W.region ?_)))
       refine WL.fieldAddr fo_32_4 rfl rfl rfl ?_
       refine WL.load1 (v := .string x.name) one_9 rfl rfl rfl (hS.cell 0 rfl rfl) ?_
       refine WL.eqStr rfl rfl rfl rfl ?_
       refine WL.assign rfl rfl rfl (WL.nil (N.seq ?_))
       refine Fin.ret1 rfl (v := .bool (decide (x.name = ⟨#[]⟩))) rfl ?_
       have hbz := hS.below
       clear hS
       refine ⟨?_, hbz⟩
       congr 1
       rw [inst5, if_neg (by clear hx hQx hsx hsxd hsxa hsxb hsxc; rw [← hu5]; first | omega | (simp_all; done) | (rintro (h | h | h | h) <;> first | omega | (simp_all; done))), if_neg (by clear hx hQx hsx hsxd hsxa hsxb hsxc hu5; first | omega | (simp_all; done) | (simp_all; omega)), if_neg (by simp_all)]
      have hg61p : ¬ (x.k = 0) := by simpa using hg61
      refine WL.skp rfl rfl (WL.skp rfl rfl (WL.skp rfl rfl (WL.skp rfl rfl (WL.skp rfl rfl (WL.skp rfl rfl (WL.skp rfl rfl (WL.skp rfl rfl (WL.skp rfl rfl (WL.pick (v := .bool true) rfl rfl rfl rfl rfl rfl ?_)))))))))
      refine WL.nil (N.seq (W.condT rfl (W.seq (W.region (WL.assign rfl rfl rfl (WL.nil (N.seq ?_)))))))
      refine Fin.ret1 rfl (v := .bool false) rfl ?_
      have hbz := hS.below
      clear hS
      refine ⟨?_, hbz⟩
      congr 1
      rw [inst5, if_neg (by clear hx hQx hsx hsxd hsxa hsxb hsxc; rw [← hu5]; first | omega | (simp_all; done) | (rintro (h | h | h | h) <;> first | omega | (simp_all; done))), if_pos (by clear hx hQx hsx hsxd hsxa hsxb hsxc hu5; first | omega | (simp_all; done) | (simp_all; omega))]
     have hg51p : ¬ (x.b = 0) := by simpa using hg51
     refine WL.skp rfl rfl (WL.skp rfl rfl (WL.skp rfl rfl (WL.skp rfl rfl (WL.skp rfl rfl (WL.skp rfl rfl (WL.skp rfl rfl (WL.skp rfl rfl (WL.pick (v := .bool true) rfl rfl rfl rfl rfl rfl (WL.move rfl rfl rfl ?_)))))))))
     refine WL.skp rfl rfl (WL.skp rfl rfl (WL.skp rfl rfl (WL.skp rfl rfl (WL.skp rfl rfl (WL.skp rfl rfl (WL.skp rfl rfl (WL.skp rfl rfl (WL.skp rfl rfl (WL.pick (v := .bool true) rfl rfl rfl rfl rfl rfl ?_)))))))))
     refine WL.nil (N.seq (W.condT rfl (W.seq (W.region (WL.assign rfl rfl rfl (WL.nil (N.seq ?_)))))))
     refine Fin.ret1 rfl (v := .bool false) rfl ?_
     have hbz := hS.below
     clear hS
     refine ⟨?_, hbz⟩
     congr 1
     rw [inst5, if_neg (by clear hx hQx hsx hsxd hsxa hsxb hsxc; rw [← hu5]; first | omega | (simp_all; done) | (rintro (h | h | h | h) <;> first | omega | (simp_all; done))), if_pos (by clear hx hQx hsx hsxd hsxa hsxb hsxc hu5; first | omega | (simp_all; done) | (simp_all; omega))]
    have hg9p : 2 ≤ x.op := by simpa using hg9
    refine WL.fieldAddr fo_32_0 rfl rfl rfl ?_
    refine WL.load1 (v := .int .i64 x.op) one_3 rfl rfl rfl (hS.cell 0 rfl rfl) ?_
    refine WL.bin rfl rfl rfl rfl rfl ?_
    refine WL.pick (v := .bool (decide (x.op ≤ 11))) rfl rfl rfl rfl rfl rfl ?_
    refine WL.move rfl rfl rfl ?_
    cases hg70 : (decide (x.op ≤ 11))
    ·
     have hg70p : ¬ (x.op ≤ 11) := by simpa using hg70
     refine WL.fieldAddr fo_32_0 rfl rfl rfl ?_
     refine WL.load1 (v := .int .i64 x.op) one_3 rfl rfl rfl (hS.cell 0 rfl rfl) ?_
     refine WL.bin rfl rfl rfl rfl rfl ?_
     refine WL.pick (v := .bool (decide (x.op = 13))) rfl rfl rfl rfl rfl rfl ?_
     refine WL.move rfl rfl rfl ?_
     cases hg71 : (decide (x.op = 13))
     ·
      have hg71p : ¬ (x.op = 13) := by simpa using hg71
      refine WL.fieldAddr fo_32_0 rfl rfl rfl ?_
      refine WL.load1 (v := .int .i64 x.op) one_3 rfl rfl rfl (hS.cell 0 rfl rfl) ?_
      refine WL.bin rfl rfl rfl rfl rfl ?_
      refine WL.pick (v := .bool (decide (x.op = 16))) rfl rfl rfl rfl rfl rfl ?_
      refine WL.assign rfl rfl rfl (WL.nil (N.seq (W.seq (W.region ?_))))
      refine WL.fieldAddr fo_32_0 rfl rfl rfl ?_
      refine WL.load1 (v := .int .i64 x.op) one_3 rfl rfl rfl (hS.cell 0 rfl rfl) ?_
      refine WL.bin rfl rfl rfl rfl rfl ?_
      refine WL.set 51 (v' := .bool true) rfl (by rw [hg9]) ?_
      refine WL.move rfl rfl rfl ?_
      refine WL.fieldAddr fo_32_0 rfl rfl rfl ?_
      refine WL.load1 (v := .int .i64 x.op) one_3 rfl rfl rfl (hS.cell 0 rfl rfl) ?_
      refine WL.bin rfl rfl rfl rfl rfl ?_
      refine WL.set 55 (v' := .bool false) rfl (by rw [hg70]) ?_
      refine WL.pick (v := .bool false) rfl rfl rfl rfl rfl rfl (WL.assign rfl rfl rfl (WL.nil (N.seq (W.seq (W.seq (W.region (WL.move rfl rfl rfl (WL.not rfl rfl rfl (WL.move rfl rfl rfl ?_)))))))))
      cases hg72 : (!(decide (x.op = 16)))
      ·
       have hg72p : x.op = 16 := by simpa using hg72
       refine WL.skp rfl rfl (WL.skp rfl rfl (WL.skp rfl rfl (WL.pick (v := .bool false) rfl rfl rfl rfl rfl rfl (WL.move rfl rfl rfl (WL.move rfl rfl rfl (WL.not rfl rfl rfl ?_))))))
       refine WL.set 66 (v' := .bool true) rfl rfl ?_
       refine WL.move rfl rfl rfl ?_
       refine WL.fieldAddr fo_32_2 rfl rfl rfl ?_
       refine WL.load1 (v := .int .i64 x.b) one_3 rfl rfl rfl (hS.cell 0 rfl rfl) ?_
       refine WL.bin rfl rfl rfl rfl rfl ?_
       refine WL.pick (v := .bool (!decide (x.b = 0))) rfl rfl rfl rfl rfl rfl ?_
       refine WL.pick (v := .bool (!decide (x.b = 0))) rfl rfl rfl rfl rfl rfl ?_
       refine WL.move rfl rfl rfl ?_
       cases hg73 : (!decide (x.b = 0))
       ·
        have hg73p : x.b = 0 := by simpa using hg73
        refine WL.fieldAddr fo_32_0 rfl rfl rfl ?_
        refine WL.load1 (v := .int .i64 x.op) one_3 rfl rfl rfl (hS.cell 0 rfl rfl) ?_
        refine WL.bin rfl rfl rfl rfl rfl (WL.move rfl rfl rfl ?_)
        cases hg74 : (!decide (x.op = 1))
        ·
         have hg74p : x.op = 1 := by simpa using hg74
         refine WL.skp rfl rfl (WL.skp rfl rfl (WL.skp rfl rfl (WL.pick (v := .bool false) rfl rfl rfl rfl rfl rfl (WL.pick (v := .bool false) rfl rfl rfl rfl rfl rfl (WL.move rfl rfl rfl ?_)))))
         refine WL.fieldAddr fo_32_0 rfl rfl rfl ?_
         refine WL.load1 (v := .int .i64 x.op) one_3 rfl rfl rfl (hS.cell 0 rfl rfl) ?_
         refine WL.bin rfl rfl rfl rfl rfl (WL.move rfl rfl rfl ?_)
         cases hg75 : (!decide (x.op = 14))
         ·
          have hg75p : x.op = 14 := by simpa using hg75
          refine WL.skp rfl rfl (WL.skp rfl rfl (WL.skp rfl rfl (WL.skp rfl rfl (WL.pick (v := .bool false) rfl rfl rfl rfl rfl rfl (WL.pick (v := .bool false) rfl rfl rfl rfl rfl rfl (WL.nil (N.seq (W.condF rfl (W.skip ?_)))))))))
          refine N.seq (W.seq (W.region ?_))
          refine WL.loadN (cs := [.int .i64 x.op, .int .i64 x.a, .int .i64 x.b, .int .u64 x.k, .string x.name, .slice adx x.args.length capx]) agg_32 rfl rfl rfl rfl (hS.cells 0 (m := 6) rfl rfl) ?_
          refine WL.callF (vs := [.agg #[.int .i64 x.op, .int .i64 x.a, .int .i64 x.b, .int .u64 x.k, .string x.name, .slice adx x.args.length capx]]) Try.func39 (by kernel_rfl) rfl rfl rfl (named5_ret x _ (ro := ro) (fun b hb => (hS.snap b hb).1) (hQx.keep hS.alike)) ?_
          rintro v w76 ⟨rfl, hbl⟩
          replace hS := hS.grow hbl
          refine WL.assign rfl rfl rfl (WL.nil (N.seq (W.seq (W.seq (W.region (WL.move rfl rfl rfl (WL.nil (N.seq ?_))))))))
          refine W.cond rfl (fun hc77 => ?_) (fun hc77 => ?_)
          ·
           refine W.seq (W.region ?_)
           refine WL.fieldAddr fo_32_4 rfl rfl rfl ?_
           refine WL.load1 (v := .string x.name) one_9 rfl rfl rfl (hS.cell 0 rfl rfl) ?_
           refine WL.callF (vs := [.string x.name]) Try.func26 (by kernel_rfl) rfl rfl rfl (name5_ret x.name hnx (ro := ro) (fun b hb => (hS.snap b hb).1)) ?_
           rintro v w78 ⟨rfl, hbl⟩
           replace hS := hS.grow hbl
           refine WL.assign rfl rfl rfl (WL.nil (N.seq ?_))
           refine Fin.ret1 rfl (v := .bool (name5 x.name)) rfl ?_
           have hbz := hS.below
           clear hS
           refine ⟨?_, hbz⟩
           congr 1
           rw [inst5, if_neg (by clear hx hQx hsx hsxd hsxa hsxb hsxc; rw [← hu5]; first | omega | (simp_all; done) | (rintro (h | h | h | h) <;> first | omega | (simp_all; done))), if_neg (by clear hx hQx hsx hsxd hsxa hsxb hsxc hu5; first | omega | (simp_all; done) | (simp_all; omega)), if_pos (by simp_all)]
          refine W.skip (N.seq (W.seq (W.region ?_)))
          refine WL.fieldAddr fo_32_4 rfl rfl rfl ?_
          refine WL.load1 (v := .string x.name) one_9 rfl rfl rfl (hS.cell 0 rfl rfl) ?_
          refine WL.eqStr rfl rfl rfl rfl ?_
          refine WL.assign rfl rfl rfl (WL.nil (N.seq ?_))
          refine Fin.ret1 rfl (v := .bool (decide (x.name = ⟨#[]⟩))) rfl ?_
          have hbz := hS.below
          clear hS
          refine ⟨?_, hbz⟩
          congr 1
          rw [inst5, if_neg (by clear hx hQx hsx hsxd hsxa hsxb hsxc; rw [← hu5]; first | omega | (simp_all; done) | (rintro (h | h | h | h) <;> first | omega | (simp_all; done))), if_neg (by clear hx hQx hsx hsxd hsxa hsxb hsxc hu5; first | omega | (simp_all; done) | (simp_all; omega)), if_neg (by simp_all)]
         have hg75p : ¬ (x.op = 14) := by simpa using hg75
         refine WL.fieldAddr fo_32_5 rfl rfl rfl ?_
         refine WL.load1 (v := .slice adx x.args.length capx) one_25 rfl rfl rfl (hS.cell 0 rfl rfl) ?_
         refine WL.lenSlice Try.underlying25 rfl rfl rfl ?_
         refine WL.bin rfl rfl rfl rfl rfl ?_
         refine WL.pick (v := .bool (decide (0 < (x.args.length : Int)))) rfl rfl rfl rfl rfl rfl ?_
         refine WL.pick (v := .bool (decide (0 < (x.args.length : Int)))) rfl rfl rfl rfl rfl rfl ?_
         refine WL.nil (N.seq ?_)
         refine W.cond rfl (fun hc79 => ?_) (fun hc79 => ?_)
         ·
          have hc79p : 0 < (x.args.length : Int) := by simpa using hc79
          refine W.seq (W.region (WL.assign rfl rfl rfl (WL.nil (N.seq ?_))))
          refine Fin.ret1 rfl (v := .bool false) rfl ?_
          have hbz := hS.below
          clear hS
          refine ⟨?_, hbz⟩
          congr 1
          rw [inst5, if_neg (by clear hx hQx hsx hsxd hsxa hsxb hsxc; rw [← hu5]; first | omega | (simp_all; done) | (rintro (h | h | h | h) <;> first | omega | (simp_all; done))), if_pos (by clear hx hQx hsx hsxd hsxa hsxb hsxc hu5; first | omega | (simp_all; done) | (simp_all; omega))]
         have hc79p : ¬ (0 < (x.args.length : Int)) := by simpa using hc79
         refine W.skip (N.seq (W.seq (W.region ?_)))
         refine WL.loadN (cs := [.int .i64 x.op, .int .i64 x.a, .int .i64 x.b, .int .u64 x.k, .string x.name, .slice adx x.args.length capx]) agg_32 rfl rfl rfl rfl (hS.cells 0 (m := 6) rfl rfl) ?_
         refine WL.callF (vs := [.agg #[.int .i64 x.op, .int .i64 x.a, .int .i64 x.b, .int .u64 x.k, .string x.name, .slice adx x.args.length capx]]) Try.func39 (by kernel_rfl) rfl rfl rfl (named5_ret x _ (ro := ro) (fun b hb => (hS.snap b hb).1) (hQx.keep hS.alike)) ?_
         rintro v w80 ⟨rfl, hbl⟩
         replace hS := hS.grow hbl
         refine WL.assign rfl rfl rfl (WL.nil (N.seq (W.seq (W.seq (W.region (WL.move rfl rfl rfl (WL.nil (N.seq ?_))))))))
         refine W.cond rfl (fun hc81 => ?_) (fun hc81 => ?_)
         ·
          refine W.seq (W.region ?_)
          refine WL.fieldAddr fo_32_4 rfl rfl rfl ?_
          refine WL.load1 (v := .string x.name) one_9 rfl rfl rfl (hS.cell 0 rfl rfl) ?_
          refine WL.callF (vs := [.string x.name]) Try.func26 (by kernel_rfl) rfl rfl rfl (name5_ret x.name hnx (ro := ro) (fun b hb => (hS.snap b hb).1)) ?_
          rintro v w82 ⟨rfl, hbl⟩
          replace hS := hS.grow hbl
          refine WL.assign rfl rfl rfl (WL.nil (N.seq ?_))
          refine Fin.ret1 rfl (v := .bool (name5 x.name)) rfl ?_
          have hbz := hS.below
          clear hS
          refine ⟨?_, hbz⟩
          congr 1
          rw [inst5, if_neg (by clear hx hQx hsx hsxd hsxa hsxb hsxc; rw [← hu5]; first | omega | (simp_all; done) | (rintro (h | h | h | h) <;> first | omega | (simp_all; done))), if_neg (by clear hx hQx hsx hsxd hsxa hsxb hsxc hu5; first | omega | (simp_all; done) | (simp_all; omega)), if_pos (by simp_all)]
         refine W.skip (N.seq (W.seq (W.region ?_)))
         refine WL.fieldAddr fo_32_4 rfl rfl rfl ?_
         refine WL.load1 (v := .string x.name) one_9 rfl rfl rfl (hS.cell 0 rfl rfl) ?_
         refine WL.eqStr rfl rfl rfl rfl ?_
         refine WL.assign rfl rfl rfl (WL.nil (N.seq ?_))
         refine Fin.ret1 rfl (v := .bool (decide (x.name = ⟨#[]⟩))) rfl ?_
         have hbz := hS.below
         clear hS
         refine ⟨?_, hbz⟩
         congr 1
         rw [inst5, if_neg (by clear hx hQx hsx hsxd hsxa hsxb hsxc; rw [← hu5]; first | omega | (simp_all; done) | (rintro (h | h | h | h) <;> first | omega | (simp_all; done))), if_neg (by clear hx hQx hsx hsxd hsxa hsxb hsxc hu5; first | omega | (simp_all; done) | (simp_all; omega)), if_neg (by simp_all)]
        have hg74p : ¬ (x.op = 1) := by simpa using hg74
        refine WL.fieldAddr fo_32_3 rfl rfl rfl ?_
        refine WL.load1 (v := .int .u64 x.k) one_22 rfl rfl rfl (hS.cell 0 rfl rfl) ?_
        refine WL.bin rfl rfl rfl rfl rfl ?_
        refine WL.pick (v := .bool (!decide (x.k = 0))) rfl rfl rfl rfl rfl rfl ?_
        refine WL.pick (v := .bool (!decide (x.k = 0))) rfl rfl rfl rfl rfl rfl ?_
        refine WL.move rfl rfl rfl ?_
        cases hg83 : (!decide (x.k = 0))
        ·
         have hg83p : x.k = 0 := by simpa using hg83
         refine WL.fieldAddr fo_32_0 rfl rfl rfl ?_
         refine WL.load1 (v := .int .i64 x.op) one_3 rfl rfl rfl (hS.cell 0 rfl rfl) ?_
         refine WL.bin rfl rfl rfl rfl rfl (WL.move rfl rfl rfl ?_)
         cases hg84 : (!decide (x.op = 14))
         ·
          have hg84p : x.op = 14 := by simpa using hg84
          refine WL.skp rfl rfl (WL.skp rfl rfl (WL.skp rfl rfl (WL.skp rfl rfl (WL.pick (v := .bool false) rfl rfl rfl rfl rfl rfl (WL.pick (v := .bool false) rfl rfl rfl rfl rfl rfl (WL.nil (N.seq (W.condF rfl (W.skip ?_)))))))))
          refine N.seq (W.seq (W.region ?_))
          refine WL.loadN (cs := [.int .i64 x.op, .int .i64 x.a, .int .i64 x.b, .int .u64 x.k, .string x.name, .slice adx x.args.length capx]) agg_32 rfl rfl rfl rfl (hS.cells 0 (m := 6) rfl rfl) ?_
          refine WL.callF (vs := [.agg #[.int .i64 x.op, .int .i64 x.a, .int .i64 x.b, .int .u64 x.k, .string x.name, .slice adx x.args.length capx]]) Try.func39 (by kernel_rfl) rfl rfl rfl (named5_ret x _ (ro := ro) (fun b hb => (hS.snap b hb).1) (hQx.keep hS.alike)) ?_
          rintro v w85 ⟨rfl, hbl⟩
          replace hS := hS.grow hbl
          refine WL.assign rfl rfl rfl (WL.nil (N.seq (W.seq (W.seq (W.region (WL.move rfl rfl rfl (WL.nil (N.seq ?_))))))))
          refine W.cond rfl (fun hc86 => ?_) (fun hc86 => ?_)
          ·
           refine W.seq (W.region ?_)
           refine WL.fieldAddr fo_32_4 rfl rfl rfl ?_
           refine WL.load1 (v := .string x.name) one_9 rfl rfl rfl (hS.cell 0 rfl rfl) ?_
           refine WL.callF (vs := [.string x.name]) Try.func26 (by kernel_rfl) rfl rfl rfl (name5_ret x.name hnx (ro := ro) (fun b hb => (hS.snap b hb).1)) ?_
           rintro v w87 ⟨rfl, hbl⟩
           replace hS := hS.grow hbl
           refine WL.assign rfl rfl rfl (WL.nil (N.seq ?_))
           refine Fin.ret1 rfl (v := .bool (name5 x.name)) rfl ?_
           have hbz := hS.below
           clear hS
           refine ⟨?_, hbz⟩
           congr 1
           rw [inst5, if_neg (by clear hx hQx hsx hsxd hsxa hsxb hsxc; rw [← hu5]; first | omega | (simp_all; done) | (rintro (h | h | h | h) <;> first | omega | (simp_all; done))), if_neg (by clear hx hQx hsx hsxd hsxa hsxb hsxc hu5; first | omega | (simp_all; done) | (simp_all; omega)), if_pos (by simp_all)]
          refine W.skip (N.seq (W.seq (W.region ?_)))
          refine WL.fieldAddr fo_32_4 rfl rfl rfl ?_
          refine WL.load1 (v := .string x.name) one_9 rfl rfl rfl (hS.cell 0 rfl rfl) ?_
          refine WL.eqStr rfl rfl rfl rfl ?_
          refine WL.assign rfl rfl rfl (WL.nil (N.seq ?_))
          refine Fin.ret1 rfl (v := .bool (decide (x.name = ⟨#[]⟩))) rfl ?_
          have hbz := hS.below
          clear hS
          refine ⟨?_, hbz⟩
          congr 1
          rw [inst5, if_neg (by clear hx hQx hsx hsxd hsxa hsxb hsxc; rw [← hu5]; first | omega | (simp_all; done) | (rintro (h | h | h | h) <;> first | omega | (simp_all; done))), if_neg (by clear hx hQx hsx hsxd hsxa hsxb hsxc hu5; first | omega | (simp_all; done) | (simp_all; omega)), if_neg (by simp_all)]
         have hg84p : ¬ (x.op = 14) := by simpa using hg84
         refine WL.fieldAddr fo_32_5 rfl rfl rfl ?_
         refine WL.load1 (v := .slice adx x.args.length capx) one_25 rfl rfl rfl (hS.cell 0 rfl rfl) ?_
         refine WL.lenSlice Try.underlying25 rfl rfl rfl ?_
         refine WL.bin rfl rfl rfl rfl rfl ?_
         refine WL.pick (v := .bool (decide (0 < (x.args.length : Int)))) rfl rfl rfl rfl rfl rfl ?_
         refine WL.pick (v := .bool (decide (0 < (x.args.length : Int)))) rfl rfl rfl rfl rfl rfl ?_
         refine WL.nil (N.seq ?_)
         refine W.cond rfl (fun hc88 => ?_) (fun hc88 => ?_)
         ·
          have hc88p : 0 < (x.args.length : Int) := by simpa using hc88
          refine W.seq (W.region (WL.assign rfl rfl rfl (WL.nil (N.seq ?_))))
          refine Fin.ret1 rfl (v := .bool false) rfl ?_
          have hbz := hS.below
          clear hS
          refine ⟨?_, hbz⟩
          congr 1
          rw [inst5, if_neg (by clear hx hQx hsx hsxd hsxa hsxb hsxc; rw [← hu5]; first | omega | (simp_all; done) | (rintro (h | h | h | h) <;> first | omega | (simp_all; done))), if_pos (by clear hx hQx hsx hsxd hsxa hsxb hsxc hu5; first | omega | (simp_all; done) | (simp_all; omega))]
         have hc88p : ¬ (0 < (x.args.length : Int)) := by simpa using hc88
         refine W.skip (N.seq (W.seq (W.region ?_)))
         refine WL.loadN (cs := [.int .i64 x.op, .int .i64 x.a, .int .i64 x.b, .int .u64 x.k, .string x.name, .slice adx x.args.length capx]) agg_32 rfl rfl rfl rfl (hS.cells 0 (m := 6) rfl rfl) ?_
         refine WL.callF (vs := [.agg #[.int .i64 x.op, .int .i64 x.a, .int .i64 x.b, .int .u64 x.k, .string x.name, .slice adx x.args.length capx]]) Try.func39 (by kernel_rfl) rfl rfl rfl (named5_ret x _ (ro := ro) (fun b hb => (hS.snap b hb).1) (hQx.keep hS.alike)) ?_
         rintro v w89 ⟨rfl, hbl⟩
         replace hS := hS.grow hbl
         refine WL.assign rfl rfl rfl (WL.nil (N.seq (W.seq (W.seq (W.region (WL.move rfl rfl rfl (WL.nil (N.seq ?_))))))))
         refine W.cond rfl (fun hc90 => ?_) (fun hc90 => ?_)
         ·
          refine W.seq (W.region ?_)
          refine WL.fieldAddr fo_32_4 rfl rfl rfl ?_
          refine WL.load1 (v := .string x.name) one_9 rfl rfl rfl (hS.cell 0 rfl rfl) ?_
          refine WL.callF (vs := [.string x.name]) Try.func26 (by kernel_rfl) rfl rfl rfl (name5_ret x.name hnx (ro := ro) (fun b hb => (hS.snap b hb).1)) ?_
          rintro v w91 ⟨rfl, hbl⟩
          replace hS := hS.grow hbl
          refine WL.assign rfl rfl rfl (WL.nil (N.seq ?_))
          refine Fin.ret1 rfl (v := .bool (name5 x.name)) rfl ?_
          have hbz := hS.below
          clear hS
          refine ⟨?_, hbz⟩
          congr 1
          rw [inst5, if_neg (by clear hx hQx hsx hsxd hsxa hsxb hsxc; rw [← hu5]; first | omega | (simp_all; done) | (rintro (h | h | h | h) <;> first | omega | (simp_all; done))), if_neg (by clear hx hQx hsx hsxd hsxa hsxb hsxc hu5; first | omega | (simp_all; done) | (simp_all; omega)), if_pos (by simp_all)]
         refine W.skip (N.seq (W.seq (W.region ?_)))
         refine WL.fieldAddr fo_32_4 rfl rfl rfl ?_
         refine WL.load1 (v := .string x.name) one_9 rfl rfl rfl (hS.cell 0 rfl rfl) ?_
         refine WL.eqStr rfl rfl rfl rfl ?_
         refine WL.assign rfl rfl rfl (WL.nil (N.seq ?_))
         refine Fin.ret1 rfl (v := .bool (decide (x.name = ⟨#[]⟩))) rfl ?_
         have hbz := hS.below
         clear hS
         refine ⟨?_, hbz⟩
         congr 1
         rw [inst5, if_neg (by clear hx hQx hsx hsxd hsxa hsxb hsxc; rw [← hu5]; first | omega | (simp_all; done) | (rintro (h | h | h | h) <;> first | omega | (simp_all; done))), if_neg (by clear hx hQx hsx hsxd hsxa hsxb hsxc hu5; first | omega | (simp_all; done) | (simp_all; omega)), if_neg (by simp_all)]
        have hg83p : ¬ (x.k = 0) := by simpa using hg83
        refine WL.skp rfl rfl (WL.skp rfl rfl (WL.skp rfl rfl (WL.skp rfl rfl (WL.skp rfl rfl (WL.skp rfl rfl (WL.skp rfl rfl (WL.skp rfl rfl (WL.skp rfl rfl (WL.pick (v := .bool true) rfl rfl rfl rfl rfl rfl ?_)))))))))
        refine WL.nil (N.seq (W.condT rfl (W.seq (W.region (WL.assign rfl rfl rfl (WL.nil (N.seq ?_)))))))
        refine Fin.ret1 rfl (v := .bool false) rfl ?_
        have hbz := hS.below
        clear hS
        refine ⟨?_, hbz⟩
        congr 1
        rw [inst5, if_neg (by clear hx hQx hsx hsxd hsxa hsxb hsxc; rw [← hu5]; first | omega | (simp_all; done) | (rintro (h | h | h | h) <;> first | omega | (simp_all; done))), if_pos (by clear hx hQx hsx hsxd hsxa hsxb hsxc hu5; first | omega | (simp_all; done) | (simp_all; omega))]
       have hg73p : ¬ (x.b = 0) := by simpa using hg73
       refine WL.skp rfl rfl (WL.skp rfl rfl (WL.skp rfl rfl (WL.skp rfl rfl (WL.skp rfl rfl (WL.skp rfl rfl (WL.skp rfl rfl (WL.skp rfl rfl (WL.pick (v := .bool true) rfl rfl rfl rfl rfl rfl (WL.move rfl rfl rfl ?_)))))))))
       refine WL.skp rfl rfl (WL.skp rfl rfl (WL.skp rfl rfl (WL.skp rfl rfl (WL.skp rfl rfl (WL.skp rfl rfl (WL.skp rfl rfl (WL.skp rfl rfl (WL.skp rfl rfl (WL.pick (v := .bool true) rfl rfl rfl rfl rfl rfl ?_)))))))))
       refine WL.nil (N.seq (W.condT rfl (W.seq (W.region (WL.assign rfl rfl rfl (WL.nil (N.seq ?_)))))))
       refine Fin.ret1 rfl (v := .bool false) rfl ?_
       have hbz := hS.below
       clear hS
       refine ⟨?_, hbz⟩
       congr 1
       rw [inst5, if_neg (by clear hx hQx hsx hsxd hsxa hsxb hsxc; rw [← hu5]; first | omega | (simp_all; done) | (rintro (h | h | h | h) <;> first | omega | (simp_all; done))), if_pos (by clear hx hQx hsx hsxd hsxa hsxb hsxc hu5; first | omega | (simp_all; done) | (simp_all; omega))]
      have hg72p : ¬ (x.op = 16) := by simpa using hg72
      refine WL.fieldAddr fo_32_1 rfl rfl rfl ?_
      refine WL.load1 (v := .int .i64 x.a) one_3 rfl rfl rfl (hS.cell 0 rfl rfl) ?_
      refine WL.bin rfl rfl rfl rfl rfl ?_
      refine WL.pick (v := .bool (!decide (x.a = 0))) rfl rfl rfl rfl rfl rfl ?_
      refine WL.move rfl rfl rfl ?_
      cases hg92 : (!decide (x.a = 0))
      ·
       have hg92p : x.a = 0 := by simpa using hg92
       refine WL.move rfl rfl rfl (WL.not rfl rfl rfl ?_)
       refine WL.set 66 (v' := .bool true) rfl rfl ?_
       refine WL.move rfl rfl rfl ?_
       refine WL.fieldAddr fo_32_2 rfl rfl rfl ?_
       refine WL.load1 (v := .int .i64 x.b) one_3 rfl rfl rfl (hS.cell 0 rfl rfl) ?_
       refine WL.bin rfl rfl rfl rfl rfl ?_
       refine WL.pick (v := .bool (!decide (x.b = 0))) rfl rfl rfl rfl rfl rfl ?_
       refine WL.pick (v := .bool (!decide (x.b = 0))) rfl rfl rfl rfl rfl rfl ?_
       refine WL.move rfl rfl rfl ?_
       cases hg93 : (!decide (x.b = 0))
       ·
        have hg93p : x.b = 0 := by simpa using hg93
        refine WL.fieldAddr fo_32_0 rfl rfl rfl ?_
        refine WL.load1 (v := .int .i64 x.op) one_3 rfl rfl rfl (hS.cell 0 rfl rfl) ?_
        refine WL.bin rfl rfl rfl rfl rfl (WL.move rfl rfl rfl ?_)
        cases hg94 : (!decide (x.op = 1))
        ·
         have hg94p : x.op = 1 := by simpa using hg94
         refine WL.skp rfl rfl (WL.skp rfl rfl (WL.skp rfl rfl (WL.pick (v := .bool false) rfl rfl rfl rfl rfl rfl (WL.pick (v := .bool false) rfl rfl rfl rfl rfl rfl (WL.move rfl rfl rfl ?_)))))
         refine WL.fieldAddr fo_32_0 rfl rfl rfl ?_
         refine WL.load1 (v := .int .i64 x.op) one_3 rfl rfl rfl (hS.cell 0 rfl rfl) ?_
         refine WL.bin rfl rfl rfl rfl rfl (WL.move rfl rfl rfl ?_)
         cases hg95 : (!decide (x.op = 14))
         ·
          have hg95p : x.op = 14 := by simpa using hg95
          refine WL.skp rfl rfl (WL.skp rfl rfl (WL.skp rfl rfl (WL.skp rfl rfl (WL.pick (v := .bool false) rfl rfl rfl rfl rfl rfl (WL.pick (v := .bool false) rfl rfl rfl rfl rfl rfl (WL.nil (N.seq (W.condF rfl (W.skip ?_)))))))))
          refine N.seq (W.seq (W.region ?_))
          refine WL.loadN (cs := [.int .i64 x.op, .int .i64 x.a, .int .i64 x.b, .int .u64 x.k, .string x.name, .slice adx x.args.length capx]) agg_32 rfl rfl rfl rfl (hS.cells 0 (m := 6) rfl rfl) ?_
          refine WL.callF (vs := [.agg #[.int .i64 x.op, .int .i64 x.a, .int .i64 x.b, .int .u64 x.k, .string x.name, .slice adx x.args.length capx]]) Try.func39 (by kernel_rfl) rfl rfl rfl (named5_ret x _ (ro := ro) (fun b hb => (hS.snap b hb).1) (hQx.keep hS.alike)) ?_
          rintro v w96 ⟨rfl, hbl⟩
          replace hS := hS.grow hbl
          refine WL.assign rfl rfl rfl (WL.nil (N.seq (W.seq (W.seq (W.region (WL.move rfl rfl rfl (WL.nil (N.seq ?_))))))))
          refine W.cond rfl (fun hc97 => ?_) (fun hc97 => ?_)
          ·
           refine W.seq (W.region ?_)
           refine WL.fieldAddr fo_32_4 rfl rfl rfl ?_
           refine WL.load1 (v := .string x.name) one_9 rfl rfl rfl (hS.cell 0 rfl rfl) ?_
           refine WL.callF (vs := [.string x.name]) Try.func26 (by kernel_rfl) rfl rfl rfl (name5_ret x.name hnx (ro := ro) (fun b hb => (hS.snap b hb).1)) ?_
           rintro v w98 ⟨rfl, hbl⟩
           replace hS := hS.grow hbl
           refine WL.assign rfl rfl rfl (WL.nil (N.seq ?_))
           refine Fin.ret1 rfl (v := .bool (name5 x.name)) rfl ?_
           have hbz := hS.below
           clear hS
           refine ⟨?_, hbz⟩
           congr 1
           rw [inst5, if_neg (by clear hx hQx hsx hsxd hsxa hsxb hsxc; rw [← hu5]; first | omega | (simp_all; done) | (rintro (h | h | h | h) <;> first | omega | (simp_all; done))), if_neg (by clear hx hQx hsx hsxd hsxa hsxb hsxc hu5; first | omega | (simp_all; done) | (simp_all; omega)), if_pos (by simp_all)]
          refine W.skip (N.seq (W.seq (W.region ?_)))
          refine WL.fieldAddr fo_32_4 rfl rfl rfl ?_
          refine WL.load1 (v := .string x.name) one_9 rfl rfl rfl (hS.cell 0 rfl rfl) ?_
          refine WL.eqStr rfl rfl rfl rfl ?_
          refine WL.assign rfl rfl rfl (WL.nil (N.seq ?_))
          refine Fin.ret1 rfl (v := .bool (decide (x.name = ⟨#[]⟩))) rfl ?_
          have hbz := hS.below
          clear hS
          refine ⟨?_, hbz⟩
          congr 1
          rw [inst5, if_neg (by clear hx hQx hsx hsxd hsxa hsxb hsxc; rw [← hu5]; first | omega | (simp_all; done) | (rintro (h | h | h | h) <;> first | omega | (simp_all; done))), if_neg (by clear hx hQx hsx hsxd hsxa hsxb hsxc hu5; first | omega | (simp_all; done) | (simp_all; omega)), if_neg (by simp_all)]
         have hg95p : ¬ (x.op = 14) := by simpa using hg95
         refine WL.fieldAddr fo_32_5 rfl rfl rfl ?_
         refine WL.load1 (v := .slice adx x.args.length capx) one_25 rfl rfl rfl (hS.cell 0 rfl rfl) ?_
         refine WL.lenSlice Try.underlying25 rfl rfl rfl ?_
         refine WL.bin rfl rfl rfl rfl rfl ?_
         refine WL.pick (v := .bool (decide (0 < (x.args.length : Int)))) rfl rfl rfl rfl rfl rfl ?_
         refine WL.pick (v := .bool (decide (0 < (x.args.length : Int)))) rfl rfl rfl rfl rfl rfl ?_
         refine WL.nil (N.seq ?_)
         refine W.cond rfl (fun hc99 => ?_) (fun hc99 => ?_)
         ·
          have hc99p : 0 < (x.args.length : Int) := by simpa using hc99
          refine W.seq (W.region (WL.assign rfl rfl rfl (WL.nil (N.seq ?_))))
          refine Fin.ret1 rfl (v := .bool false) rfl ?_
          have hbz := hS.below
          clear hS
          refine ⟨?_, hbz⟩
          congr 1
          rw [inst5, if_neg (by clear hx hQx hsx hsxd hsxa hsxb hsxc; rw [← hu5]; first | omega | (simp_all; done) | (rintro (h | h | h | h) <;> first | omega | (simp_all; done))), if_pos (by clear hx hQx hsx hsxd hsxa hsxb hsxc hu5; first | omega | (simp_all; done) | (simp_all; omega))]
         have hc99p : ¬ (0 < (x.args.length : Int)) := by simpa using hc99
         refine W.skip (N.seq (W.seq (W.region ?_)))
         refine WL.loadN (cs := [.int .i64 x.op, .int .i64 x.a, .int .i64 x.b, .int .u64 x.k, .string x.name, .slice adx x.args.length capx]) agg_32 rfl rfl rfl rfl (hS.cells 0 (m := 6) rfl rfl) ?_
         refine WL.callF (vs := [.agg #[.int .i64 x.op, .int .i64 x.a, .int .i64 x.b, .int .u64 x.k, .string x.name, .slice adx x.args.length capx]]) Try.func39 (by kernel_rfl) rfl rfl rfl (named5_ret x _ (ro := ro) (fun b hb => (hS.snap b hb).1) (hQx.keep hS.alike)) ?_
         rintro v w100 ⟨rfl, hbl⟩
         replace hS := hS.grow hbl
         refine WL.assign rfl rfl rfl (WL.nil (N.seq (W.seq (W.seq (W.region (WL.move rfl rfl rfl (WL.nil (N.seq ?_))))))))
         refine W.cond rfl (fun hc101 => ?_) (fun hc101 => ?_)
         ·
          refine W.seq (W.region ?_)
          refine WL.fieldAddr fo_32_4 rfl rfl rfl ?_
          refine WL.load1 (v := .string x.name) one_9 rfl rfl rfl (hS.cell 0 rfl rfl) ?_
          refine WL.callF (vs := [.string x.name]) Try.func26 (by kernel_rfl) rfl rfl rfl (name5_ret x.name hnx (ro := ro) (fun b hb => (hS.snap b hb).1)) ?_
          rintro v w102 ⟨rfl, hbl⟩
          replace hS := hS.grow hbl
          refine WL.assign rfl rfl rfl (WL.nil (N.seq ?_))
          refine Fin.ret1 rfl (v := .bool (name5 x.name)) rfl ?_
          have hbz := hS.below
          clear hS
          refine ⟨?_, hbz⟩
          congr 1
          rw [inst5, if_neg (by clear hx hQx hsx hsxd hsxa hsxb hsxc; rw [← hu5]; first | omega | (simp_all; done) | (rintro (h | h | h | h) <;> first | omega | (simp_all; done))), if_neg (by clear hx hQx hsx hsxd hsxa hsxb hsxc hu5; first | omega | (simp_all; done) | (simp_all; omega)), if_pos (by simp_all)]
         refine W.skip (N.seq (W.seq (W.region ?_)))
         refine WL.fieldAddr fo_32_4 rfl rfl rfl ?_
         refine WL.load1 (v := .string x.name) one_9 rfl rfl rfl (hS.cell 0 rfl rfl) ?_
         refine WL.eqStr rfl rfl rfl rfl ?_
         refine WL.assign rfl rfl rfl (WL.nil (N.seq ?_))
         refine Fin.ret1 rfl (v := .bool (decide (x.name = ⟨#[]⟩))) rfl ?_
         have hbz := hS.below
         clear hS
         refine ⟨?_, hbz⟩
         congr 1
         rw [inst5, if_neg (by clear hx hQx hsx hsxd hsxa hsxb hsxc; rw [← hu5]; first | omega | (simp_all; done) | (rintro (h | h | h | h) <;> first | omega | (simp_all; done))), if_neg (by clear hx hQx hsx hsxd hsxa hsxb hsxc hu5; first | omega | (simp_all; done) | (simp_all; omega)), if_neg (by simp_all)]
        have hg94p : ¬ (x.op = 1) := by simpa using hg94
        refine WL.fieldAddr fo_32_3 rfl rfl rfl ?_
        refine WL.load1 (v := .int .u64 x.k) one_22 rfl rfl rfl (hS.cell 0 rfl rfl) ?_
        refine WL.bin rfl rfl rfl rfl rfl ?_
        refine WL.pick (v := .bool (!decide (x.k = 0))) rfl rfl rfl rfl rfl rfl ?_
        refine WL.pick (v := .bool (!decide (x.k = 0))) rfl rfl rfl rfl rfl rfl ?_
        refine WL.move rfl rfl rfl ?_
        cases hg103 : (!decide (x.k = 0))
        ·
         have hg103p : x.k = 0 := by simpa using hg103
         refine WL.fieldAddr fo_32_0 rfl rfl rfl ?_
         refine WL.load1 (v := .int .i64 x.op) one_3 rfl rfl rfl (hS.cell 0 rfl rfl) ?_
         refine WL.bin rfl rfl rfl rfl rfl (WL.move rfl rfl rfl ?_)
         cases hg104 : (!decide (x.op = 14))
         ·
          have hg104p : x.op = 14 := by simpa using hg104
          refine WL.skp rfl rfl (WL.skp rfl rfl (WL.skp rfl rfl (WL.skp rfl rfl (WL.pick (v := .bool false) rfl rfl rfl rfl rfl rfl (WL.pick (v := .bool false) rfl rfl rfl rfl rfl rfl (WL.nil (N.seq (W.condF rfl (W.skip ?_)))))))))
          refine N.seq (W.seq (W.region ?_))
          refine WL.loadN (cs := [.int .i64 x.op, .int .i64 x.a, .int .i64 x.b, .int .u64 x.k, .string x.name, .slice adx x.args.length capx]) agg_32 rfl rfl rfl rfl (hS.cells 0 (m := 6) rfl rfl) ?_
          refine WL.callF (vs := [.agg #[.int .i64 x.op, .int .i64 x.a, .int .i64 x.b, .int .u64 x.k, .string x.name, .slice adx x.args.length capx]]) Try.func39 (by kernel_rfl) rfl rfl rfl (named5_ret x _ (ro := ro) (fun b hb => (hS.snap b hb).1) (hQx.keep hS.alike)) ?_
          rintro v w105 ⟨rfl, hbl⟩
          replace hS := hS.grow hbl
          refine WL.assign rfl rfl rfl (WL.nil (N.seq (W.seq (W.seq (W.region (WL.move rfl rfl rfl (WL.nil (N.seq ?_))))))))
          refine W.cond rfl (fun hc106 => ?_) (fun hc106 => ?_)
          ·
           refine W.seq (W.region ?_)
           refine WL.fieldAddr fo_32_4 rfl rfl rfl ?_
           refine WL.load1 (v := .string x.name) one_9 rfl rfl rfl (hS.cell 0 rfl rfl) ?_
           refine WL.callF (vs := [.string x.name]) Try.func26 (by kernel_rfl) rfl rfl rfl (name5_ret x.name hnx (ro := ro) (fun b hb => (hS.snap b hb).1)) ?_
           rintro v w107 ⟨rfl, hbl⟩
           replace hS := hS.grow hbl
           refine WL.assign rfl rfl rfl (WL.nil (N.seq ?_))
           refine Fin.ret1 rfl (v := .bool (name5 x.name)) rfl ?_
           have hbz := hS.below
           clear hS
           refine ⟨?_, hbz⟩
           congr 1
           rw [inst5, if_neg (by clear hx hQx hsx hsxd hsxa hsxb hsxc; rw [← hu5]; first | omega | (simp_all; done) | (rintro (h | h | h | h) <;> first | omega | (simp_all; done))), if_neg (by clear hx hQx hsx hsxd hsxa hsxb hsxc hu5; first | omega | (simp_all; done) | (simp_all; omega)), if_pos (by simp_all)]
          refine W.skip (N.seq (W.seq (W.region ?_)))
          refine WL.fieldAddr fo_32_4 rfl rfl rfl ?_
          refine WL.load1 (v := .string x.name) one_9 rfl rfl rfl (hS.cell 0 rfl rfl) ?_
          refine WL.eqStr rfl rfl rfl rfl ?_
          refine WL.assign rfl rfl rfl (WL.nil (N.seq ?_))
          refine Fin.ret1 rfl (v := .bool (decide (x.name = ⟨#[]⟩))) rfl ?_
          have hbz := hS.below
          clear hS
          refine ⟨?_, hbz⟩
          congr 1
          rw [inst5, if_neg (by clear hx hQx hsx hsxd hsxa hsxb hsxc; rw [← hu5]; first | omega | (simp_all; done) | (rintro (h | h | h | h) <;> first | omega | (simp_all; done))), if_neg (by clear hx hQx hsx hsxd hsxa hsxb hsxc hu5; first | omega | (simp_all; done) | (simp_all; omega)), if_neg (by simp_all)]
         have hg104p : ¬ (x.op = 14) := by simpa using hg104
         refine WL.fieldAddr fo_32_5 rfl rfl rfl ?_
         refine WL.load1 (v := .slice adx x.args.length capx) one_25 rfl rfl rfl (hS.cell 0 rfl rfl) ?_
         refine WL.lenSlice Try.underlying25 rfl rfl rfl ?_
         refine WL.bin rfl rfl rfl rfl rfl ?_
         refine WL.pick (v := .bool (decide (0 < (x.args.length : Int)))) rfl rfl rfl rfl rfl rfl ?_
         refine WL.pick (v := .bool (decide (0 < (x.args.length : Int)))) rfl rfl rfl rfl rfl rfl ?_
         refine WL.nil (N.seq ?_)
         refine W.cond rfl (fun hc108 => ?_) (fun hc108 => ?_)
         ·
          have hc108p : 0 < (x.args.length : Int) := by simpa using hc108
          refine W.seq (W.region (WL.assign rfl rfl rfl (WL.nil (N.seq ?_))))
          refine Fin.ret1 rfl (v := .bool false) rfl ?_
          have hbz := hS.below
          clear hS
          refine ⟨?_, hbz⟩
          congr 1
          rw [inst5, if_neg (by clear hx hQx hsx hsxd hsxa hsxb hsxc; rw [← hu5]; first | omega | (simp_all; done) | (rintro (h | h | h | h) <;> first | omega | (simp_all; done))), if_pos (by clear hx hQx hsx hsxd hsxa hsxb hsxc hu5; first | omega | (simp_all; done) | (simp_all; omega))]
         have hc108p : ¬ (0 < (x.args.length : Int)) := by simpa using hc108
         refine W.skip (N.seq (W.seq (W.region ?_)))
         refine WL.loadN (cs := [.int .i64 x.op, .int .i64 x.a, .int .i64 x.b, .int .u64 x.k, .string x.name, .slice adx x.args.length capx]) agg_32 rfl rfl rfl rfl (hS.cells 0 (m := 6) rfl rfl) ?_
         refine WL.callF (vs := [.agg #[.int .i64 x.op, .int .i64 x.a, .int .i64 x.b, .int .u64 x.k, .string x.name, .slice adx x.args.length capx]]) Try.func39 (by kernel_rfl) rfl rfl rfl (named5_ret x _ (ro := ro) (fun b hb => (hS.snap b hb).1) (hQx.keep hS.alike)) ?_
         rintro v w109 ⟨rfl, hbl⟩
         replace hS := hS.grow hbl
         refine WL.assign rfl rfl rfl (WL.nil (N.seq (W.seq (W.seq (W.region (WL.move rfl rfl rfl (WL.nil (N.seq ?_))))))))
         refine W.cond rfl (fun hc110 => ?_) (fun hc110 => ?_)
         ·
          refine W.seq (W.region ?_)
          refine WL.fieldAddr fo_32_4 rfl rfl rfl ?_
          refine WL.load1 (v := .string x.name) one_9 rfl rfl rfl (hS.cell 0 rfl rfl) ?_
          refine WL.callF (vs := [.string x.name]) Try.func26 (by kernel_rfl) rfl rfl rfl (name5_ret x.name hnx (ro := ro) (fun b hb => (hS.snap b hb).1)) ?_
          rintro v w111 ⟨rfl, hbl⟩
          replace hS := hS.grow hbl
          refine WL.assign rfl rfl rfl (WL.nil (N.seq ?_))
          refine Fin.ret1 rfl (v := .bool (name5 x.name)) rfl ?_
          have hbz := hS.below
          clear hS
          refine ⟨?_, hbz⟩
          congr 1
          rw [inst5, if_neg (by clear hx hQx hsx hsxd hsxa hsxb hsxc; rw [← hu5]; first | omega | (simp_all; done) | (rintro (h | h | h | h) <;> first | omega | (simp_all; done))), if_neg (by clear hx hQx hsx hsxd hsxa hsxb hsxc hu5; first | omega | (simp_all; done) | (simp_all; omega)), if_pos (by simp_all)]
         refine W.skip (N.seq (W.seq (W.region ?_)))
         refine WL.fieldAddr fo_32_4 rfl rfl rfl ?_
         refine WL.load1 (v := .string x.name) one_9 rfl rfl rfl (hS.cell 0 rfl rfl) ?_
         refine WL.eqStr rfl rfl rfl rfl ?_
         refine WL.assign rfl rfl rfl (WL.nil (N.seq ?_))
         refine Fin.ret1 rfl (v := .bool (decide (x.name = ⟨#[]⟩))) rfl ?_
         have hbz := hS.below
         clear hS
         refine ⟨?_, hbz⟩
         congr 1
         rw [inst5, if_neg (by clear hx hQx hsx hsxd hsxa hsxb hsxc; rw [← hu5]; first | omega | (simp_all; done) | (rintro (h | h | h | h) <;> first | omega | (simp_all; done))), if_neg (by clear hx hQx hsx hsxd hsxa hsxb hsxc hu5; first | omega | (simp_all; done) | (simp_all; omega)), if_neg (by simp_all)]
        have hg103p : ¬ (x.k = 0) := by simpa using hg103
        refine WL.skp rfl rfl (WL.skp rfl rfl (WL.skp rfl rfl (WL.skp rfl rfl (WL.skp rfl rfl (WL.skp rfl rfl (WL.skp rfl rfl (WL.skp rfl rfl (WL.skp rfl rfl (WL.pick (v := .bool true) rfl rfl rfl rfl rfl rfl ?_)))))))))
        refine WL.nil (N.seq (W.condT rfl (W.seq (W.region (WL.assign rfl rfl rfl (WL.nil (N.seq ?_)))))))
        refine Fin.ret1 rfl (v := .bool false) rfl ?_
        have hbz := hS.below
        clear hS
        refine ⟨?_, hbz⟩
        congr 1
        rw [inst5, if_neg (by clear hx hQx hsx hsxd hsxa hsxb hsxc; rw [← hu5]; first | omega | (simp_all; done) | (rintro (h | h | h | h) <;> first | omega | (simp_all; done))), if_pos (by clear hx hQx hsx hsxd hsxa hsxb hsxc hu5; first | omega | (simp_all; done) | (simp_all; omega))]
       have hg93p : ¬ (x.b = 0) := by simpa using hg93
       refine WL.skp rfl rfl (WL.skp rfl rfl (WL.skp rfl rfl (WL.skp rfl rfl (WL.skp rfl rfl (WL.skp rfl rfl (WL.skp rfl rfl (WL.skp rfl rfl (WL.pick (v := .bool true) rfl rfl rfl rfl rfl rfl (WL.move rfl rfl rfl ?_)))))))))
       refine WL.skp rfl rfl (WL.skp rfl rfl (WL.skp rfl rfl (WL.skp rfl rfl (WL.skp rfl rfl (WL.skp rfl rfl (WL.skp rfl rfl (WL.skp rfl rfl (WL.skp rfl rfl (WL.pick (v := .bool true) rfl rfl rfl rfl rfl rfl ?_)))))))))
       refine WL.nil (N.seq (W.condT rfl (W.seq (W.region (WL.assign rfl rfl rfl (WL.nil (N.seq ?_)))))))
       refine Fin.ret1 rfl (v := .bool false) rfl ?_
       have hbz := hS.below
       clear hS
       refine ⟨?_, hbz⟩
       congr 1
       rw [inst5, if_neg (by clear hx hQx hsx hsxd hsxa hsxb hsxc; rw [← hu5]; first | omega | (simp_all; done) | (rintro (h | h | h | h) <;> first | omega | (simp_all; done))), if_pos (by clear hx hQx hsx hsxd hsxa hsxb hsxc hu5; first | omega | (simp_all; done) | (simp_all; omega))]
      have hg92p : ¬ (x.a = 0) := by simpa using hg92
      refine WL.skp rfl rfl (WL.skp rfl rfl (WL.skp rfl rfl (WL.skp rfl rfl (WL.skp rfl rfl (WL.skp rfl rfl (WL.skp rfl rfl (WL.pick (v := .bool true) rfl rfl rfl rfl rfl rfl (WL.move rfl rfl rfl (WL.skp rfl rfl ?_)))))))))
      refine WL.skp rfl rfl (WL.skp rfl rfl (WL.skp rfl rfl (WL.skp rfl rfl (WL.skp rfl rfl (WL.skp rfl rfl (WL.skp rfl rfl (WL.pick (v := .bool true) rfl rfl rfl rfl rfl rfl (WL.move rfl rfl rfl (WL.skp rfl rfl ?_)))))))))
      refine WL.skp rfl rfl (WL.skp rfl rfl (WL.skp rfl rfl (WL.skp rfl rfl (WL.skp rfl rfl (WL.skp rfl rfl (WL.skp rfl rfl (WL.skp rfl rfl (WL.pick (v := .bool true) rfl rfl rfl rfl rfl rfl (WL.nil ?_)))))))))
      refine N.seq (W.condT rfl (W.seq (W.region (WL.assign rfl rfl rfl (WL.nil (N.seq ?_))))))
      refine Fin.ret1 rfl (v := .bool false) rfl ?_
      have hbz := hS.below
      clear hS
      refine ⟨?_, hbz⟩
      congr 1
      rw [inst5, if_neg (by clear hx hQx hsx hsxd hsxa hsxb hsxc; rw [← hu5]; first | omega | (simp_all; done) | (rintro (h | h | h | h) <;> first | omega | (simp_all; done))), if_pos (by clear hx hQx hsx hsxd hsxa hsxb hsxc hu5; first | omega | (simp_all; done) | (simp_all; omega))]
     have hg71p : x.op = 13 := by simpa using hg71
     refine WL.skp rfl rfl (WL.skp rfl rfl (WL.skp rfl rfl (WL.pick (v := .bool true) rfl rfl rfl rfl rfl rfl (WL.assign rfl rfl rfl (WL.nil (N.seq (W.seq (W.region ?_))))))))
     refine WL.fieldAddr fo_32_0 rfl rfl rfl ?_
     refine WL.load1 (v := .int .i64 x.op) one_3 rfl rfl rfl (hS.cell 0 rfl rfl) ?_
     refine WL.bin rfl rfl rfl rfl rfl ?_
     refine WL.set 51 (v' := .bool true) rfl (by rw [hg9]) ?_
     refine WL.move rfl rfl rfl ?_
     refine WL.fieldAddr fo_32_0 rfl rfl rfl ?_
     refine WL.load1 (v := .int .i64 x.op) one_3 rfl rfl rfl (hS.cell 0 rfl rfl) ?_
     refine WL.bin rfl rfl rfl rfl rfl ?_
     refine WL.set 55 (v' := .bool false) rfl (by rw [hg70]) ?_
     refine WL.pick (v := .bool false) rfl rfl rfl rfl rfl rfl (WL.assign rfl rfl rfl (WL.nil (N.seq (W.seq (W.seq (W.region (WL.move rfl rfl rfl (WL.not rfl rfl rfl ?_))))))))
     refine WL.set 58 (v' := .bool false) rfl rfl ?_
     refine WL.move rfl rfl rfl (WL.skp rfl rfl (WL.skp rfl rfl (WL.skp rfl rfl (WL.pick (v := .bool false) rfl rfl rfl rfl rfl rfl (WL.move rfl rfl rfl (WL.move rfl rfl rfl (WL.not rfl rfl rfl ?_)))))))
     refine WL.set 66 (v' := .bool true) rfl rfl ?_
     refine WL.move rfl rfl rfl ?_
     refine WL.fieldAddr fo_32_2 rfl rfl rfl ?_
     refine WL.load1 (v := .int .i64 x.b) one_3 rfl rfl rfl (hS.cell 0 rfl rfl) ?_
     refine WL.bin rfl rfl rfl rfl rfl ?_
     refine WL.pick (v := .bool (!decide (x.b = 0))) rfl rfl rfl rfl rfl rfl ?_
     refine WL.pick (v := .bool (!decide (x.b = 0))) rfl rfl rfl rfl rfl rfl ?_
     refine WL.move rfl rfl rfl ?_
     cases hg112 : (!decide (x.b = 0))
     ·
      have hg112p : x.b = 0 := by simpa using hg112
      refine WL.fieldAddr fo_32_0 rfl rfl rfl ?_
      refine WL.load1 (v := .int .i64 x.op) one_3 rfl rfl rfl (hS.cell 0 rfl rfl) ?_
      refine WL.bin rfl rfl rfl rfl rfl (WL.move rfl rfl rfl ?_)
      cases hg113 : (!decide (x.op = 1))
      ·
       have hg113p : x.op = 1 := by simpa using hg113
       refine WL.skp rfl rfl (WL.skp rfl rfl (WL.skp rfl rfl (WL.pick (v := .bool false) rfl rfl rfl rfl rfl rfl (WL.pick (v := .bool false) rfl rfl rfl rfl rfl rfl (WL.move rfl rfl rfl ?_)))))
       refine WL.fieldAddr fo_32_0 rfl rfl rfl ?_
       refine WL.load1 (v := .int .i64 x.op) one_3 rfl rfl rfl (hS.cell 0 rfl rfl) ?_
       refine WL.bin rfl rfl rfl rfl rfl (WL.move rfl rfl rfl ?_)
       cases hg114 : (!decide (x.op = 14))
       ·
        have hg114p : x.op = 14 := by simpa using hg114
        refine WL.skp rfl rfl (WL.skp rfl rfl (WL.skp rfl rfl (WL.skp rfl rfl (WL.pick (v := .bool false) rfl rfl rfl rfl rfl rfl (WL.pick (v := .bool false) rfl rfl rfl rfl rfl rfl (WL.nil (N.seq (W.condF rfl (W.skip ?_)))))))))
        refine N.seq (W.seq (W.region ?_))
        refine WL.loadN (cs := [.int .i64 x.op, .int .i64 x.a, .int .i64 x.b, .int .u64 x.k, .string x.name, .slice adx x.args.length capx]) agg_32 rfl rfl rfl rfl (hS.cells 0 (m := 6) rfl rfl) ?_
        refine WL.callF (vs := [.agg #[.int .i64 x.op, .int .i64 x.a, .int .i64 x.b, .int .u64 x.k, .string x.name, .slice adx x.args.length capx]]) Try.func39 (by kernel_rfl) rfl rfl rfl (named5_ret x _ (ro := ro) (fun b hb => (hS.snap b hb).1) (hQx.keep hS.alike)) ?_
        rintro v w115 ⟨rfl, hbl⟩
        replace hS := hS.grow hbl
        refine WL.assign rfl rfl rfl (WL.nil (N.seq (W.seq (W.seq (W.region (WL.move rfl rfl rfl (WL.nil (N.seq ?_))))))))
        refine W.cond rfl (fun hc116 => ?_) (fun hc116 => ?_)
        ·
         refine W.seq (W.region ?_)
         refine WL.fieldAddr fo_32_4 rfl rfl rfl ?_
         refine WL.load1 (v := .string x.name) one_9 rfl rfl rfl (hS.cell 0 rfl rfl) ?_
         refine WL.callF (vs := [.string x.name]) Try.func26 (by kernel_rfl) rfl rfl rfl (name5_ret x.name hnx (ro := ro) (fun b hb => (hS.snap b hb).1)) ?_
         rintro v w117 ⟨rfl, hbl⟩
         replace hS := hS.grow hbl
         refine WL.assign rfl rfl rfl (WL.nil (N.seq ?_))
         refine Fin.ret1 rfl (v := .bool (name5 x.name)) rfl ?_
         have hbz := hS.below
         clear hS
         refine ⟨?_, hbz⟩
         congr 1
         rw [inst5, if_neg (by clear hx hQx hsx hsxd hsxa hsxb hsxc; rw [← hu5]; first | omega | (simp_all; done) | (rintro (h | h | h | h) <;> first | omega | (simp_all; done))), if_neg (by clear hx hQx hsx hsxd hsxa hsxb hsxc hu5; first | omega | (simp_all; done) | (simp_all; omega)), if_pos (by simp_all)]
        refine W.skip (N.seq (W.seq (W.region ?_)))
        refine WL.fieldAddr fo_32_4 rfl rfl rfl ?_
        refine WL.load1 (v := .string x.name) one_9 rfl rfl rfl (hS.cell 0 rfl rfl) ?_
        refine WL.eqStr rfl rfl rfl rfl ?_
        refine WL.assign rfl rfl rfl (WL.nil (N.seq ?_))
        refine Fin.ret1 rfl (v := .bool (decide (x.name = ⟨#[]⟩))) rfl ?_
        have hbz := hS.below
        clear hS
        refine ⟨?_, hbz⟩
        congr 1
        rw [inst5, if_neg (by clear hx hQx hsx hsxd hsxa hsxb hsxc; rw [← hu5]; first | omega | (simp_all; done) | (rintro (h | h | h | h) <;> first | omega | (simp_all; done))), if_neg (by clear hx hQx hsx hsxd hsxa hsxb hsxc hu5; first | omega | (simp_all; done) | (simp_all; omega)), if_neg (by simp_all)]
       have hg114p : ¬ (x.op = 14) := by simpa using hg114
       refine WL.fieldAddr fo_32_5 rfl rfl rfl ?_
       refine WL.load1 (v := .slice adx x.args.length capx) one_25 rfl rfl rfl (hS.cell 0 rfl rfl) ?_
       refine WL.lenSlice Try.underlying25 rfl rfl rfl ?_
       refine WL.bin rfl rfl rfl rfl rfl ?_
       refine WL.pick (v := .bool (decide (0 < (x.args.length : Int)))) rfl rfl rfl rfl rfl rfl ?_
       refine WL.pick (v := .bool (decide (0 < (x.args.length : Int)))) rfl rfl rfl rfl rfl rfl ?_
       refine WL.nil (N.seq ?_)
       refine W.cond rfl (fun hc118 => ?_) (fun hc118 => ?_)
       ·
        have hc118p : 0 < (x.args.length : Int) := by simpa using hc118
        refine W.seq (W.region (WL.assign rfl rfl rfl (WL.nil (N.seq ?_))))
        refine Fin.ret1 rfl (v := .bool false) rfl ?_
        have hbz := hS.below
        clear hS
        refine ⟨?_, hbz⟩
        congr 1
        rw [inst5, if_neg (by clear hx hQx hsx hsxd hsxa hsxb hsxc; rw [← hu5]; first | omega | (simp_all; done) | (rintro (h | h | h | h) <;> first | omega | (simp_all; done))), if_pos (by clear hx hQx hsx hsxd hsxa hsxb hsxc hu5; first | omega | (simp_all; done) | (simp_all; omega))]
       have hc118p : ¬ (0 < (x.args.length : Int)) := by simpa using hc118
       refine W.skip (N.seq (W.seq (W.region ?_)))
       refine WL.loadN (cs := [.int .i64 x.op, .int .i64 x.a, .int .i64 x.b, .int .u64 x.k, .string x.name, .slice adx x.args.length capx]) agg_32 rfl rfl rfl rfl (hS.cells 0 (m := 6) rfl rfl) ?_
       refine WL.callF (vs := [.agg #[.int .i64 x.op, .int .i64 x.a, .int .i64 x.b, .int .u64 x.k, .string x.name, .slice adx x.args.length capx]]) Try.func39 (by kernel_rfl) rfl rfl rfl (named5_ret x _ (ro := ro) (fun b hb => (hS.snap b hb).1) (hQx.keep hS.alike)) ?_
       rintro v w119 ⟨rfl, hbl⟩
       replace hS := hS.grow hbl
       refine WL.assign rfl rfl rfl (WL.nil (N.seq (W.seq (W.seq (W.region (WL.move rfl rfl rfl (WL.nil (N.seq ?_))))))))
       refine W.cond rfl (fun hc120 => ?_) (fun hc120 => ?_)
       ·
        refine W.seq (W.region ?_)
        refine WL.fieldAddr fo_32_4 rfl rfl rfl ?_
        refine WL.load1 (v := .string x.name) one_9 rfl rfl rfl (hS.cell 0 rfl rfl) ?_
        refine WL.callF (vs := [.string x.name]) Try.func26 (by kernel_rfl) rfl rfl rfl (name5_ret x.name hnx (ro := ro) (fun b hb => (hS.snap b hb).1)) ?_
        rintro v w121 ⟨rfl, hbl⟩
        replace hS := hS.grow hbl
        refine WL.assign rfl rfl rfl (WL.nil (N.seq ?_))
        refine Fin.ret1 rfl (v := .bool (name5 x.name)) rfl ?_
        have hbz := hS.below
        clear hS
        refine ⟨?_, hbz⟩
        congr 1
        rw [inst5, if_neg (by clear hx hQx hsx hsxd hsxa hsxb hsxc; rw [← hu5]; first | omega | (simp_all; done) | (rintro (h | h | h | h) <;> first | omega | (simp_all; done))), if_neg (by clear hx hQx hsx hsxd hsxa hsxb hsxc hu5; first | omega | (simp_all; done) | (simp_all; omega)), if_pos (by simp_all)]
       refine W.skip (N.seq (W.seq (W.region ?_)))
       refine WL.fieldAddr fo_32_4 rfl rfl rfl ?_
       refine WL.load1 (v := .string x.name) one_9 rfl rfl rfl (hS.cell 0 rfl rfl) ?_
       refine WL.eqStr rfl rfl rfl rfl ?_
       refine WL.assign rfl rfl rfl (WL.nil (N.seq ?_))
       refine Fin.ret1 rfl (v := .bool (decide (x.name = ⟨#[]⟩))) rfl ?_
       have hbz := hS.below
       clear hS
       refine ⟨?_, hbz⟩
       congr 1
       rw [inst5, if_neg (by clear hx hQx hsx hsxd hsxa hsxb hsxc; rw [← hu5]; first | omega | (simp_all; done) | (rintro (h | h | h | h) <;> first | omega | (simp_all; done))), if_neg (by clear hx hQx hsx hsxd hsxa hsxb hsxc hu5; first | omega | (simp_all; done) | (simp_all; omega)), if_neg (by simp_all)]
      have hg113p : ¬ (x.op = 1) := by simpa using hg113
      refine WL.fieldAddr fo_32_3 rfl rfl rfl ?_
      refine WL.load1 (v := .int .u64 x.k) one_22 rfl rfl rfl (hS.cell 0 rfl rfl) ?_
      refine WL.bin rfl rfl rfl rfl rfl ?_
      refine WL.pick (v := .bool (!decide (x.k = 0))) rfl rfl rfl rfl rfl rfl ?_
      refine WL.pick (v := .bool (!decide (x.k = 0))) rfl rfl rfl rfl rfl rfl ?_
      refine WL.move rfl rfl rfl ?_
      cases hg122 : (!decide (x.k = 0))
      ·
       have hg122p : x.k = 0 := by simpa using hg122
       refine WL.fieldAddr fo_32_0 rfl rfl rfl ?_
       refine WL.load1 (v := .int .i64 x.op) one_3 rfl rfl rfl (hS.cell 0 rfl rfl) ?_
       refine WL.bin rfl rfl rfl rfl rfl (WL.move rfl rfl rfl ?_)
       cases hg123 : (!decide (x.op = 14))
       ·
        have hg123p : x.op = 14 := by simpa using hg123
        refine WL.skp rfl rfl (WL.skp rfl rfl (WL.skp rfl rfl (WL.skp rfl rfl (WL.pick (v := .bool false) rfl rfl rfl rfl rfl rfl (WL.pick (v := .bool false) rfl rfl rfl rfl rfl rfl (WL.nil (N.seq (W.condF rfl (W.skip ?_)))))))))
        refine N.seq (W.seq (W.region ?_))
        refine WL.loadN (cs := [.int .i64 x.op, .int .i64 x.a, .int .i64 x.b, .int .u64 x.k, .string x.name, .slice adx x.args.length capx]) agg_32 rfl rfl rfl rfl (hS.cells 0 (m := 6) rfl rfl) ?_
        refine WL.callF (vs := [.agg #[.int .i64 x.op, .int .i64 x.a, .int .i64 x.b, .int .u64 x.k, .string x.name, .slice adx x.args.length capx]]) Try.func39 (by kernel_rfl) rfl rfl rfl (named5_ret x _ (ro := ro) (fun b hb => (hS.snap b hb).1) (hQx.keep hS.alike)) ?_
        rintro v w124 ⟨rfl, hbl⟩
        replace hS := hS.grow hbl
        refine WL.assign rfl rfl rfl (WL.nil (N.seq (W.seq (W.seq (W.region (WL.move rfl rfl rfl (WL.nil (N.seq ?_))))))))
        refine W.cond rfl (fun hc125 => ?_) (fun hc125 => ?_)
        ·
         refine W.seq (W.region ?_)
         refine WL.fieldAddr fo_32_4 rfl rfl rfl ?_
         refine WL.load1 (v := .string x.name) one_9 rfl rfl rfl (hS.cell 0 rfl rfl) ?_
         refine WL.callF (vs := [.string x.name]) Try.func26 (by kernel_rfl) rfl rfl rfl (name5_ret x.name hnx (ro := ro) (fun b hb => (hS.snap b hb).1)) ?_
         rintro v w126 ⟨rfl, hbl⟩
         replace hS := hS.grow hbl
         refine WL.assign rfl rfl rfl (WL.nil (N.seq ?_))
         refine Fin.ret1 rfl (v := .bool (name5 x.name)) rfl ?_
         have hbz := hS.below
         clear hS
         refine ⟨?_, hbz⟩
         congr 1
         rw [inst5, if_neg (by clear hx hQx hsx hsxd hsxa hsxb hsxc; rw [← hu5]; first | omega | (simp_all; done) | (rintro (h | h | h | h) <;> first | omega | (simp_all; done))), if_neg (by clear hx hQx hsx hsxd hsxa hsxb hsxc hu5; first | omega | (simp_all; done) | (simp_all; omega)), if_pos (by simp_all)]
        refine W.skip (N.seq (W.seq (W.region ?_)))
        refine WL.fieldAddr fo_32_4 rfl rfl rfl ?_
        refine WL.load1 (v := .string x.name) one_9 rfl rfl rfl (hS.cell 0 rfl rfl) ?_
        refine WL.eqStr rfl rfl rfl rfl ?_
        refine WL.assign rfl rfl rfl (WL.nil (N.seq ?_))
        refine Fin.ret1 rfl (v := .bool (decide (x.name = ⟨#[]⟩))) rfl ?_
        have hbz := hS.below
        clear hS
        refine ⟨?_, hbz⟩
        congr 1
        rw [inst5, if_neg (by clear hx hQx hsx hsxd hsxa hsxb hsxc; rw [← hu5]; first | omega | (simp_all; done) | (rintro (h | h | h | h) <;> first | omega | (simp_all; done))), if_neg (by clear hx hQx hsx hsxd hsxa hsxb hsxc hu5; first | omega | (simp_all; done) | (simp_all; omega)), if_neg (by simp_all)]
       have hg123p : ¬ (x.op = 14) := by simpa using hg123
       refine WL.fieldAddr fo_32_5 rfl rfl rfl ?_
       refine WL.load1 (v := .slice adx x.args.length capx) one_25 rfl rfl rfl (hS.cell 0 rfl rfl) ?_
       refine WL.lenSlice Try.underlying25 rfl rfl rfl ?_
       refine WL.bin rfl rfl rfl rfl rfl ?_
       refine WL.pick (v := .bool (decide (0 < (x.args.length : Int)))) rfl rfl rfl rfl rfl rfl ?_
       refine WL.pick (v := .bool (decide (0 < (x.args.length : Int)))) rfl rfl rfl rfl rfl rfl ?_
       refine WL.nil (N.seq ?_)
       refine W.cond rfl (fun hc127 => ?_) (fun hc127 => ?_)
       ·
        have hc127p : 0 < (x.args.length : Int) := by simpa using hc127
        refine W.seq (W.region (WL.assign rfl rfl rfl (WL.nil (N.seq ?_))))
        refine Fin.ret1 rfl (v := .bool false) rfl ?_
        have hbz := hS.below
        clear hS
        refine ⟨?_, hbz⟩
        congr 1
        rw [inst5, if_neg (by clear hx hQx hsx hsxd hsxa hsxb hsxc; rw [← hu5]; first | omega | (simp_all; done) | (rintro (h | h | h | h) <;> first | omega | (simp_all; done))), if_pos (by clear hx hQx hsx hsxd hsxa hsxb hsxc hu5; first | omega | (simp_all; done) | (simp_all; omega))]
       have hc127p : ¬ (0 < (x.args.length : Int)) := by simpa using hc127
       refine W.skip (N.seq (W.seq (W.region ?_)))
       refine WL.loadN (cs := [.int .i64 x.op, .int .i64 x.a, .int .i64 x.b, .int .u64 x.k, .string x.name, .slice adx x.args.length capx]) agg_32 rfl rfl rfl rfl (hS.cells 0 (m := 6) rfl rfl) ?_
       refine WL.callF (vs := [.agg #[.int .i64 x.op, .int .i64 x.a, .int .i64 x.b, .int .u64 x.k, .string x.name, .slice adx x.args.length capx]]) Try.func39 (by kernel_rfl) rfl rfl rfl (named5_ret x _ (ro := ro) (fun b hb => (hS.snap b hb).1) (hQx.keep hS.alike)) ?_
       rintro v w128 ⟨rfl, hbl⟩
       replace hS := hS.grow hbl
       refine WL.assign rfl rfl rfl (WL.nil (N.seq (W.seq (W.seq (W.region (WL.move rfl rfl rfl (WL.nil (N.seq ?_))))))))
       refine W.cond rfl (fun hc129 => ?_) (fun hc129 => ?_)
       ·
        refine W.seq (W.region ?_)
        refine WL.fieldAddr fo_32_4 rfl rfl rfl ?_
        refine WL.load1 (v := .string x.name) one_9 rfl rfl rfl (hS.cell 0 rfl rfl) ?_
        refine WL.callF (vs := [.string x.name]) Try.func26 (by kernel_rfl) rfl rfl rfl (name5_ret x.name hnx (ro := ro) (fun b hb => (hS.snap b hb).1)) ?_
        rintro v w130 ⟨rfl, hbl⟩
        replace hS := hS.grow hbl
        refine WL.assign rfl rfl rfl (WL.nil (N.seq ?_))
        refine Fin.ret1 rfl (v := .bool (name5 x.name)) rfl ?_
        have hbz := hS.below
        clear hS
        refine ⟨?_, hbz⟩
        congr 1
        rw [inst5, if_neg (by clear hx hQx hsx hsxd hsxa hsxb hsxc; rw [← hu5]; first | omega | (simp_all; done) | (rintro (h | h | h | h) <;> first | omega | (simp_all; done))), if_neg (by clear hx hQx hsx hsxd hsxa hsxb hsxc hu5; first | omega | (simp_all; done) | (simp_all; omega)), if_pos (by simp_all)]
       refine W.skip (N.seq (W.seq (W.region ?_)))
       refine WL.fieldAddr fo_32_4 rfl rfl rfl ?_
       refine WL.load1 (v := .string x.name) one_9 rfl rfl rfl (hS.cell 0 rfl rfl) ?_
       refine WL.eqStr rfl rfl rfl rfl ?_
       refine WL.assign rfl rfl rfl (WL.nil (N.seq ?_))
       refine Fin.ret1 rfl (v := .bool (decide (x.name = ⟨#[]⟩))) rfl ?_
       have hbz := hS.below
       clear hS
       refine ⟨?_, hbz⟩
       congr 1
       rw [inst5, if_neg (by clear hx hQx hsx hsxd hsxa hsxb hsxc; rw [← hu5]; first | omega | (simp_all; done) | (rintro (h | h | h | h) <;> first | omega | (simp_all; done))), if_neg (by clear hx hQx hsx hsxd hsxa hsxb hsxc hu5; first | omega | (simp_all; done) | (simp_all; omega)), if_neg (by simp_all)]
      have hg122p : ¬ (x.k = 0) := by simpa using hg122
      refine WL.skp rfl rfl (WL.skp rfl rfl (WL.skp rfl rfl (WL.skp rfl rfl (WL.skp rfl rfl (WL.skp rfl rfl (WL.skp rfl rfl (WL.skp rfl rfl (WL.skp rfl rfl (WL.pick (v := .bool true) rfl rfl rfl rfl rfl rfl ?_)))))))))
      refine WL.nil (N.seq (W.condT rfl (W.seq (W.region (WL.assign rfl rfl rfl (WL.nil (N.seq ?_)))))))
      refine Fin.ret1 rfl (v := .bool false) rfl ?_
      have hbz := hS.below
      clear hS
      refine ⟨?_, hbz⟩
      congr 1
      rw [inst5, if_neg (by clear hx hQx hsx hsxd hsxa hsxb hsxc; rw [← hu5]; first | omega | (simp_all; done) | (rintro (h | h | h | h) <;> first | omega | (simp_all; done))), if_pos (by clear hx hQx hsx hsxd hsxa hsxb hsxc hu5; first | omega | (simp_all; done) | (simp_all; omega))]
     have hg112p : ¬ (x.b = 0) := by simpa using hg112
     refine WL.skp rfl rfl (WL.skp rfl rfl (WL.skp rfl rfl (WL.skp rfl rfl (WL.skp rfl rfl (WL.skp rfl rfl (WL.skp rfl rfl (WL.skp rfl rfl (WL.pick (v := .bool true) rfl rfl rfl rfl rfl rfl (WL.move rfl rfl rfl ?_)))))))))
     refine WL.skp rfl rfl (WL.skp rfl rfl (WL.skp rfl rfl (WL.skp rfl rfl (WL.skp rfl rfl (WL.skp rfl rfl (WL.skp rfl rfl (WL.skp rfl rfl (WL.skp rfl rfl (WL.pick (v := .bool true) rfl rfl rfl rfl rfl rfl ?_)))))))))
     refine WL.nil (N.seq (W.condT rfl (W.seq (W.region (WL.assign rfl rfl rfl (WL.nil (N.seq ?_)))))))
     refine Fin.ret1 rfl (v := .bool false) rfl ?_
     have hbz := hS.below
     clear hS
     refine ⟨?_, hbz⟩
     congr 1
     rw [inst5, if_neg (by clear hx hQx hsx hsxd hsxa hsxb hsxc; rw [← hu5]; first | omega | (simp_all; done) | (rintro (h | h | h | h) <;> first | omega | (simp_all; done))), if_pos (by clear hx hQx hsx hsxd hsxa hsxb hsxc hu5; first | omega | (simp_all; done) | (simp_all; omega))]
    have hg70p : x.op ≤ 11 := by simpa using hg70
    refine WL.skp rfl rfl (WL.skp rfl rfl (WL.skp rfl rfl (WL.pick (v := .bool true) rfl rfl rfl rfl rfl rfl (WL.move rfl rfl rfl (WL.skp rfl rfl (WL.skp rfl rfl (WL.skp rfl rfl (WL.pick (v := .bool true) rfl rfl rfl rfl rfl rfl (WL.assign rfl rfl rfl ?_)))))))))
    refine WL.nil (N.seq (W.seq (W.region ?_)))
    refine WL.fieldAddr fo_32_0 rfl rfl rfl ?_
    refine WL.load1 (v := .int .i64 x.op) one_3 rfl rfl rfl (hS.cell 0 rfl rfl) ?_
    refine WL.bin rfl rfl rfl rfl rfl ?_
    refine WL.set 51 (v' := .bool true) rfl (by rw [hg9]) ?_
    refine WL.move rfl rfl rfl ?_
    refine WL.fieldAddr fo_32_0 rfl rfl rfl ?_
    refine WL.load1 (v := .int .i64 x.op) one_3 rfl rfl rfl (hS.cell 0 rfl rfl) ?_
    refine WL.bin rfl rfl rfl rfl rfl ?_
    refine WL.set 55 (v' := .bool true) rfl (by rw [hg70]) ?_
    refine WL.pick (v := .bool true) rfl rfl rfl rfl rfl rfl (WL.assign rfl rfl rfl (WL.nil (N.seq (W.seq (W.seq (W.region (WL.move rfl rfl rfl (WL.not rfl rfl rfl ?_))))))))
    refine WL.set 58 (v' := .bool false) rfl rfl ?_
    refine WL.move rfl rfl rfl (WL.skp rfl rfl (WL.skp rfl rfl (WL.skp rfl rfl (WL.pick (v := .bool false) rfl rfl rfl rfl rfl rfl (WL.move rfl rfl rfl (WL.move rfl rfl rfl (WL.not rfl rfl rfl ?_)))))))
    refine WL.set 66 (v' := .bool false) rfl rfl ?_
    refine WL.move rfl rfl rfl (WL.skp rfl rfl (WL.skp rfl rfl (WL.skp rfl rfl (WL.pick (v := .bool false) rfl rfl rfl rfl rfl rfl (WL.pick (v := .bool false) rfl rfl rfl rfl rfl rfl (WL.move rfl rfl rfl ?_))))))
    refine WL.fieldAddr fo_32_0 rfl rfl rfl ?_
    refine WL.load1 (v := .int .i64 x.op) one_3 rfl rfl rfl (hS.cell 0 rfl rfl) ?_
    refine WL.bin rfl rfl rfl rfl rfl (WL.move rfl rfl rfl ?_)
    cases hg131 : (!decide (x.op = 1))
    ·
     have hg131p : x.op = 1 := by simpa using hg131
     refine WL.skp rfl rfl (WL.skp rfl rfl (WL.skp rfl rfl (WL.pick (v := .bool false) rfl rfl rfl rfl rfl rfl (WL.pick (v := .bool false) rfl rfl rfl rfl rfl rfl (WL.move rfl rfl rfl ?_)))))
     refine WL.fieldAddr fo_32_0 rfl rfl rfl ?_
     refine WL.load1 (v := .int .i64 x.op) one_3 rfl rfl rfl (hS.cell 0 rfl rfl) ?_
     refine WL.bin rfl rfl rfl rfl rfl (WL.move rfl rfl rfl ?_)
     cases hg132 : (!decide (x.op = 14))
     ·
      have hg132p : x.op = 14 := by simpa using hg132
      refine WL.skp rfl rfl (WL.skp rfl rfl (WL.skp rfl rfl (WL.skp rfl rfl (WL.pick (v := .bool false) rfl rfl rfl rfl rfl rfl (WL.pick (v := .bool false) rfl rfl rfl rfl rfl rfl (WL.nil (N.seq (W.condF rfl (W.skip ?_)))))))))
      refine N.seq (W.seq (W.region ?_))
      refine WL.loadN (cs := [.int .i64 x.op, .int .i64 x.a, .int .i64 x.b, .int .u64 x.k, .string x.name, .slice adx x.args.length capx]) agg_32 rfl rfl rfl rfl (hS.cells 0 (m := 6) rfl rfl) ?_
      refine WL.callF (vs := [.agg #[.int .i64 x.op, .int .i64 x.a, .int .i64 x.b, .int .u64 x.k, .string x.name, .slice adx x.args.length capx]]) Try.func39 (by kernel_rfl) rfl rfl rfl (named5_ret x _ (ro := ro) (fun b hb => (hS.snap b hb).1) (hQx.keep hS.alike)) ?_
      rintro v w133 ⟨rfl, hbl⟩
      replace hS := hS.grow hbl
      refine WL.assign rfl rfl rfl (WL.nil (N.seq (W.seq (W.seq (W.region (WL.move rfl rfl rfl (WL.nil (N.seq ?_))))))))
      refine W.cond rfl (fun hc134 => ?_) (fun hc134 => ?_)
      ·
       refine W.seq (W.region ?_)
       refine WL.fieldAddr fo_32_4 rfl rfl rfl ?_
       refine WL.load1 (v := .string x.name) one_9 rfl rfl rfl (hS.cell 0 rfl rfl) ?_
       refine WL.callF (vs := [.string x.name]) Try.func26 (by kernel_rfl) rfl rfl rfl (name5_ret x.name hnx (ro := ro) (fun b hb => (hS.snap b hb).1)) ?_
       rintro v w135 ⟨rfl, hbl⟩
       replace hS := hS.grow hbl
       refine WL.assign rfl rfl rfl (WL.nil (N.seq ?_))
       refine Fin.ret1 rfl (v := .bool (name5 x.name)) rfl ?_
       have hbz := hS.below
       clear hS
       refine ⟨?_, hbz⟩
       congr 1
       rw [inst5, if_neg (by clear hx hQx hsx hsxd hsxa hsxb hsxc; rw [← hu5]; first | omega | (simp_all; done) | (rintro (h | h | h | h) <;> first | omega | (simp_all; done))), if_neg (by clear hx hQx hsx hsxd hsxa hsxb hsxc hu5; first | omega | (simp_all; done) | (simp_all; omega)), if_pos (by simp_all)]
      refine W.skip (N.seq (W.seq (W.region ?_)))
      refine WL.fieldAddr fo_32_4 rfl rfl rfl ?_
      refine WL.load1 (v := .string x.name) one_9 rfl rfl rfl (hS.cell 0 rfl rfl) ?_
      refine WL.eqStr rfl rfl rfl rfl ?_
      refine WL.assign rfl rfl rfl (WL.nil (N.seq ?_))
      refine Fin.ret1 rfl (v := .bool (decide (x.name = ⟨#[]⟩))) rfl ?_
      have hbz := hS.below
      clear hS
      refine ⟨?_, hbz⟩
      congr 1
      rw [inst5, if_neg (by clear hx hQx hsx hsxd hsxa hsxb hsxc; rw [← hu5]; first | omega | (simp_all; done) | (rintro (h | h | h | h) <;> first | omega | (simp_all; done))), if_neg (by clear hx hQx hsx hsxd hsxa hsxb hsxc hu5; first | omega | (simp_all; done) | (simp_all; omega)), if_neg (by simp_all)]
     have hg132p : ¬ (x.op = 14) := by simpa using hg132
     refine WL.fieldAddr fo_32_5 rfl rfl rfl ?_
     refine WL.load1 (v := .slice adx x.args.length capx) one_25 rfl rfl rfl (hS.cell 0 rfl rfl) ?_
     refine WL.lenSlice Try.underlying25 rfl rfl rfl ?_
     refine WL.bin rfl rfl rfl rfl rfl ?_
     refine WL.pick (v := .bool (decide (0 < (x.args.length : Int)))) rfl rfl rfl rfl rfl rfl ?_
     refine WL.pick (v := .bool (decide (0 < (x.args.length : Int)))) rfl rfl rfl rfl rfl rfl ?_
     refine WL.nil (N.seq ?_)
     refine W.cond rfl (fun hc136 => ?_) (fun hc136 => ?_)
     ·
      have hc136p : 0 < (x.args.length : Int) := by simpa using hc136
      refine W.seq (W.region (WL.assign rfl rfl rfl (WL.nil (N.seq ?_))))
      refine Fin.ret1 rfl (v := .bool false) rfl ?_
      have hbz := hS.below
      clear hS
      refine ⟨?_, hbz⟩
      congr 1
      rw [inst5, if_neg (by clear hx hQx hsx hsxd hsxa hsxb hsxc; rw [← hu5]; first | omega | (simp_all; done) | (rintro (h | h | h | h) <;> first | omega | (simp_all; done))), if_pos (by clear hx hQx hsx hsxd hsxa hsxb hsxc hu5; first | omega | (simp_all; done) | (simp_all; omega))]
     have hc136p : ¬ (0 < (x.args.length : Int)) := by simpa using hc136
     refine W.skip (N.seq (W.seq (W.region ?_)))
     refine WL.loadN (cs := [.int .i64 x.op, .int .i64 x.a, .int .i64 x.b, .int .u64 x.k, .string x.name, .slice adx x.args.length capx]) agg_32 rfl rfl rfl rfl (hS.cells 0 (m := 6) rfl rfl) ?_
     refine WL.callF (vs := [.agg #[.int .i64 x.op, .int .i64 x.a, .int .i64 x.b, .int .u64 x.k, .string x.name, .slice adx x.args.length capx]]) Try.func39 (by kernel_rfl) rfl rfl rfl (named5_ret x _ (ro := ro) (fun b hb => (hS.snap b hb).1) (hQx.keep hS.alike)) ?_
     rintro v w137 ⟨rfl, hbl⟩
     replace hS := hS.grow hbl
     refine WL.assign rfl rfl rfl (WL.nil (N.seq (W.seq (W.seq (W.region (WL.move rfl rfl rfl (WL.nil (N.seq ?_))))))))
     refine W.cond rfl (fun hc138 => ?_) (fun hc138 => ?_)
     ·
      refine W.seq (W.region ?_)
      refine WL.fieldAddr fo_32_4 rfl rfl rfl ?_
      refine WL.load1 (v := .string x.name) one_9 rfl rfl rfl (hS.cell 0 rfl rfl) ?_
      refine WL.callF (vs := [.string x.name]) Try.func26 (by kernel_rfl) rfl rfl rfl (name5_ret x.name hnx (ro := ro) (fun b hb => (hS.snap b hb).1)) ?_
      rintro v w139 ⟨rfl, hbl⟩
      replace hS := hS.grow hbl
      refine WL.assign rfl rfl rfl (WL.nil (N.seq ?_))
      refine Fin.ret1 rfl (v := .bool (name5 x.name)) rfl ?_
      have hbz := hS.below
      clear hS
      refine ⟨?_, hbz⟩
      congr 1
      rw [inst5, if_neg (by clear hx hQx hsx hsxd hsxa hsxb hsxc; rw [← hu5]; first | omega | (simp_all; done) | (rintro (h | h | h | h) <;> first | omega | (simp_all; done))), if_neg (by clear hx hQx hsx hsxd hsxa hsxb hsxc hu5; first | omega | (simp_all; done) | (simp_all; omega)), if_pos (by simp_all)]
     refine W.skip (N.seq (W.seq (W.region ?_)))
     refine WL.fieldAddr fo_32_4 rfl rfl rfl ?_
     refine WL.load1 (v := .string x.name) one_9 rfl rfl rfl (hS.cell 0 rfl rfl) ?_
     refine WL.eqStr rfl rfl rfl rfl ?_
     refine WL.assign rfl rfl rfl (WL.nil (N.seq ?_))
     refine Fin.ret1 rfl (v := .bool (decide (x.name = ⟨#[]⟩))) rfl ?_
     have hbz := hS.below
     clear hS
     refine ⟨?_, hbz⟩
     congr 1
     rw [inst5, if_neg (by clear hx hQx hsx hsxd hsxa hsxb hsxc; rw [← hu5]; first | omega | (simp_all; done) | (rintro (h | h | h | h) <;> first | omega | (simp_all; done))), if_neg (by clear hx hQx hsx hsxd hsxa hsxb hsxc hu5; first | omega | (simp_all; done) | (simp_all; omega)), if_neg (by simp_all)]
    have hg131p : ¬ (x.op = 1) := by simpa using hg131
    refine WL.fieldAddr fo_32_3 rfl rfl rfl ?_
    refine WL.load1 (v := .int .u64 x.k) one_22 rfl rfl rfl (hS.cell 0 rfl rfl) ?_
    refine WL.bin rfl rfl rfl rfl rfl ?_
    refine WL.pick (v := .bool (!decide (x.k = 0))) rfl rfl rfl rfl rfl rfl ?_
    refine WL.pick (v := .bool (!decide (x.k = 0))) rfl rfl rfl rfl rfl rfl ?_
    refine WL.move rfl rfl rfl ?_
    cases hg140 : (!decide (x.k = 0))
    ·
     have hg140p : x.k = 0 := by simpa using hg140
     refine WL.fieldAddr fo_32_0 rfl rfl rfl ?_
     refine WL.load1 (v := .int .i64 x.op) one_3 rfl rfl rfl (hS.cell 0 rfl rfl) ?_
     refine WL.bin rfl rfl rfl rfl rfl (WL.move rfl rfl rfl ?_)
     cases hg141 : (!decide (x.op = 14))
     ·
      have hg141p : x.op = 14 := by simpa using hg141
      refine WL.skp rfl rfl (WL.skp rfl rfl (WL.skp rfl rfl (WL.skp rfl rfl (WL.pick (v := .bool false) rfl rfl rfl rfl rfl rfl (WL.pick (v := .bool false) rfl rfl rfl rfl rfl rfl (WL.nil (N.seq (W.condF rfl (W.skip ?_)))))))))
      refine N.seq (W.seq (W.region ?_))
      refine WL.loadN (cs := [.int .i64 x.op, .int .i64 x.a, .int .i64 x.b, .int .u64 x.k, .string x.name, .slice adx x.args.length capx]) agg_32 rfl rfl rfl rfl (hS.cells 0 (m := 6) rfl rfl) ?_
      refine WL.callF (vs := [.agg #[.int .i64 x.op, .int .i64 x.a, .int .i64 x.b, .int .u64 x.k, .string x.name, .slice adx x.args.length capx]]) Try.func39 (by kernel_rfl) rfl rfl rfl (named5_ret x _ (ro := ro) (fun b hb => (hS.snap b hb).1) (hQx.keep hS.alike)) ?_
      rintro v w142 ⟨rfl, hbl⟩
      replace hS := hS.grow hbl
      refine WL.assign rfl rfl rfl (WL.nil (N.seq (W.seq (W.seq (W.region (WL.move rfl rfl rfl (WL.nil (N.seq ?_))))))))
      refine W.cond rfl (fun hc143 => ?_) (fun hc143 => ?_)
      ·
       refine W.seq (W.region ?_)
       refine WL.fieldAddr fo_32_4 rfl rfl rfl ?_
       refine WL.load1 (v := .string x.name) one_9 rfl rfl rfl (hS.cell 0 rfl rfl) ?_
       refine WL.callF (vs := [.string x.name]) Try.func26 (by kernel_rfl) rfl rfl rfl (name5_ret x.name hnx (ro := ro) (fun b hb => (hS.snap b hb).1)) ?_
       rintro v w144 ⟨rfl, hbl⟩
       replace hS := hS.grow hbl
       refine WL.assign rfl rfl rfl (WL.nil (N.seq ?_))
       refine Fin.ret1 rfl (v := .bool (name5 x.name)) rfl ?_
       have hbz := hS.below
       clear hS
       refine ⟨?_, hbz⟩
       congr 1
       rw [inst5, if_neg (by clear hx hQx hsx hsxd hsxa hsxb hsxc; rw [← hu5]; first | omega | (simp_all; done) | (rintro (h | h | h | h) <;> first | omega | (simp_all; done))), if_neg (by clear hx hQx hsx hsxd hsxa hsxb hsxc hu5; first | omega | (simp_all; done) | (simp_all; omega)), if_pos (by simp_all)]
      refine W.skip (N.seq (W.seq (W.region ?_)))
      refine WL.fieldAddr fo_32_4 rfl rfl rfl ?_
      refine WL.load1 (v := .string x.name) one_9 rfl rfl rfl (hS.cell 0 rfl rfl) ?_
      refine WL.eqStr rfl rfl rfl rfl ?_
      refine WL.assign rfl rfl rfl (WL.nil (N.seq ?_))
      refine Fin.ret1 rfl (v := .bool (decide (x.name = ⟨#[]⟩))) rfl ?_
      have hbz := hS.below
      clear hS
      refine ⟨?_, hbz⟩
      congr 1
      rw [inst5, if_neg (by clear hx hQx hsx hsxd hsxa hsxb hsxc; rw [← hu5]; first | omega | (simp_all; done) | (rintro (h | h | h | h) <;> first | omega | (simp_all; done))), if_neg (by clear hx hQx hsx hsxd hsxa hsxb hsxc hu5; first | omega | (simp_all; done) | (simp_all; omega)), if_neg (by simp_all)]
     have hg141p : ¬ (x.op = 14) := by simpa using hg141
     refine WL.fieldAddr fo_32_5 rfl rfl rfl ?_
     refine WL.load1 (v := .slice adx x.args.length capx) one_25 rfl rfl rfl (hS.cell 0 rfl rfl) ?_
     refine WL.lenSlice Try.underlying25 rfl rfl rfl ?_
     refine WL.bin rfl rfl rfl rfl rfl ?_
     refine WL.pick (v := .bool (decide (0 < (x.args.length : Int)))) rfl rfl rfl rfl rfl rfl ?_
     refine WL.pick (v := .bool (decide (0 < (x.args.length : Int)))) rfl rfl rfl rfl rfl rfl ?_
     refine WL.nil (N.seq ?_)
     refine W.cond rfl (fun hc145 => ?_) (fun hc145 => ?_)
     ·
      have hc145p : 0 < (x.args.length : Int) := by simpa using hc145
      refine W.seq (W.region (WL.assign rfl rfl rfl (WL.nil (N.seq ?_))))
      refine Fin.ret1 rfl (v := .bool false) rfl ?_
      have hbz := hS.below
      clear hS
      refine ⟨?_, hbz⟩
      congr 1
      rw [inst5, if_neg (by clear hx hQx hsx hsxd hsxa hsxb hsxc; rw [← hu5]; first | omega | (simp_all; done) | (rintro (h | h | h | h) <;> first | omega | (simp_all; done))), if_pos (by clear hx hQx hsx hsxd hsxa hsxb hsxc hu5; first | omega | (simp_all; done) | (simp_all; omega))]
     have hc145p : ¬ (0 < (x.args.length : Int)) := by simpa using hc145
     refine W.skip (N.seq (W.seq (W.region ?_)))
     refine WL.loadN (cs := [.int .i64 x.op, .int .i64 x.a, .int .i64 x.b, .int .u64 x.k, .string x.name, .slice adx x.args.length capx]) agg_32 rfl rfl rfl rfl (hS.cells 0 (m := 6) rfl rfl) ?_
     refine WL.callF (vs := [.agg #[.int .i64 x.op, .int .i64 x.a, .int .i64 x.b, .int .u64 x.k, .string x.name, .slice adx x.args.length capx]]) Try.func39 (by kernel_rfl) rfl rfl rfl (named5_ret x _ (ro := ro) (fun b hb => (hS.snap b hb).1) (hQx.keep hS.alike)) ?_
     rintro v w146 ⟨rfl, hbl⟩
     replace hS := hS.grow hbl
     refine WL.assign rfl rfl rfl (WL.nil (N.seq (W.seq (W.seq (W.region (WL.move rfl rfl rfl (WL.nil (N.seq ?_))))))))
     refine W.cond rfl (fun hc147 => ?_) (fun hc147 => ?_)
     ·
      refine W.seq (W.region ?_)
      refine WL.fieldAddr fo_32_4 rfl rfl rfl ?_
      refine WL.load1 (v := .string x.name) one_9 rfl rfl rfl (hS.cell 0 rfl rfl) ?_
      refine WL.callF (vs := [.string x.name]) Try.func26 (by kernel_rfl) rfl rfl rfl (name5_ret x.name hnx (ro := ro) (fun b hb => (hS.snap b hb).1)) ?_
      rintro v w148 ⟨rfl, hbl⟩
      replace hS := hS.grow hbl
      refine WL.assign rfl rfl rfl (WL.nil (N.seq ?_))
      refine Fin.ret1 rfl (v := .bool (name5 x.name)) rfl ?_
      have hbz := hS.below
      clear hS
      refine ⟨?_, hbz⟩
      congr 1
      rw [inst5, if_neg (by clear hx hQx hsx hsxd hsxa hsxb hsxc; rw [← hu5]; first | omega | (simp_all; done) | (rintro (h | h | h | h) <;> first | omega | (simp_all; done))), if_neg (by clear hx hQx hsx hsxd hsxa hsxb hsxc hu5; first | omega | (simp_all; done) | (simp_all; omega)), if_pos (by simp_all)]
     refine W.skip (N.seq (W.seq (W.region ?_)))
     refine WL.fieldAddr fo_32_4 rfl rfl rfl ?_
     refine WL.load1 (v := .string x.name) one_9 rfl rfl rfl (hS.cell 0 rfl rfl) ?_
     refine WL.eqStr rfl rfl rfl rfl ?_
     refine WL.assign rfl rfl rfl (WL.nil (N.seq ?_))
     refine Fin.ret1 rfl (v := .bool (decide (x.name = ⟨#[]⟩))) rfl ?_
     have hbz := hS.below
     clear hS
     refine ⟨?_, hbz⟩
     congr 1
     rw [inst5, if_neg (by clear hx hQx hsx hsxd hsxa hsxb hsxc; rw [← hu5]; first | omega | (simp_all; done) | (rintro (h | h | h | h) <;> first | omega | (simp_all; done))), if_neg (by clear hx hQx hsx hsxd hsxa hsxb hsxc hu5; first | omega | (simp_all; done) | (simp_all; omega)), if_neg (by simp_all)]
    have hg140p : ¬ (x.k = 0) := by simpa using hg140
    refine WL.skp rfl rfl (WL.skp rfl rfl (WL.skp rfl rfl (WL.skp rfl rfl (WL.skp rfl rfl (WL.skp rfl rfl (WL.skp rfl rfl (WL.skp rfl rfl (WL.skp rfl rfl (WL.pick (v := .bool true) rfl rfl rfl rfl rfl rfl ?_)))))))))
    refine WL.nil (N.seq (W.condT rfl (W.seq (W.region (WL.assign rfl rfl rfl (WL.nil (N.seq ?_)))))))
    refine Fin.ret1 rfl (v := .bool false) rfl ?_
    have hbz := hS.below
    clear hS
    refine ⟨?_, hbz⟩
    congr 1
    rw [inst5, if_neg (by clear hx hQx hsx hsxd hsxa hsxb hsxc; rw [← hu5]; first | omega | (simp_all; done) | (rintro (h | h | h | h) <;> first | omega | (simp_all; done))), if_pos (by clear hx hQx hsx hsxd hsxa hsxb hsxc hu5; first | omega | (simp_all; done) | (simp_all; omega))]
   refine WL.skp rfl rfl (WL.skp rfl rfl (WL.skp rfl rfl (WL.skp rfl rfl (WL.pick (v := .bool true) rfl rfl rfl rfl rfl rfl (WL.nil (N.seq (W.condT rfl (W.seq (W.region ?_)))))))))
   refine WL.assign rfl rfl rfl (WL.nil (N.seq ?_))
   refine Fin.ret1 rfl (v := .bool false) rfl ?_
   have hbz := hS.below
   clear hS
   refine ⟨?_, hbz⟩
   congr 1
   rw [inst5, if_pos (by clear hx hQx hsx hsxd hsxa hsxb hsxc; rw [← hu5]; first | omega | (simp_all; done) | (rintro (h | h | h | h) <;> first | omega | (simp_all; done)))]
  have hg6p : 16 < x.op := by simpa using hg6
  refine WL.skp rfl rfl (WL.skp rfl rfl (WL.pick (v := .bool true) rfl rfl rfl rfl rfl rfl (WL.move rfl rfl rfl (WL.skp rfl rfl (WL.skp rfl rfl (WL.skp rfl rfl (WL.skp rfl rfl (WL.pick (v := .bool true) rfl rfl rfl rfl rfl rfl (WL.nil ?_)))))))))
  refine N.seq (W.condT rfl (W.seq (W.region (WL.assign rfl rfl rfl (WL.nil (N.seq ?_))))))
  refine Fin.ret1 rfl (v := .bool false) rfl ?_
  have hbz := hS.below
  clear hS
  refine ⟨?_, hbz⟩
  congr 1
  rw [inst5, if_pos (by clear hx hQx hsx hsxd hsxa hsxb hsxc; rw [← hu5]; first | omega | (simp_all; done) | (rintro (h | h | h | h) <;> first | omega | (simp_all; done)))]
 have hg5p : x.op < 1 := by simpa using hg5
 refine WL.skp rfl rfl (WL.skp rfl rfl (WL.skp rfl rfl (WL.pick (v := .bool true) rfl rfl rfl rfl rfl rfl (WL.move rfl rfl rfl (WL.skp rfl rfl (WL.skp rfl rfl (WL.pick (v := .bool true) rfl rfl rfl rfl rfl rfl (WL.move rfl rfl rfl (WL.skp rfl rfl ?_)))))))))
 refine WL.skp rfl rfl (WL.skp rfl rfl (WL.skp rfl rfl (WL.pick (v := .bool true) rfl rfl rfl rfl rfl rfl (WL.nil (N.seq (W.condT rfl (W.seq (W.region (WL.assign rfl rfl rfl ?_)))))))))
 refine WL.nil (N.seq ?_)
 refine Fin.ret1 rfl (v := .bool false) rfl ?_
 have hbz := hS.below
 clear hS
 refine ⟨?_, hbz⟩
 congr 1
 rw [inst5, if_pos (by clear hx hQx hsx hsxd hsxa hsxb hsxc; rw [← hu5]; first | omega | (simp_all; done) | (rintro (h | h | h | h) <;> first | omega | (simp_all; done)))]

def goes5 (f : DFunc) (to : Int) (args : List Int) (n : Int) : Bool :=
  if to < 0 then false else match f.blocks[to.toNat]? with
  | some b => if (args.length : Int) = b.params then below5 args n else false
  | none => false

theorem goes5_ret (f : DFunc) (cf : List Value) (to : Int) (args : List Int) (va : Value) (n : Int) {w : World} {ro : Nat → Prop} (hro : ∀ b, ro b → b < w.heap.size) (hx : FuncC ro w cf f) (hy : IntsV ro w va args) : Ret Try.prog 45 #[.agg cf.toArray, .int .i64 to, va, .int .i64 n] w fun v w' => v = .bool (goes5 f to args n) ∧ Below w.heap.size w w' := by
 obtain ⟨sb, rfl, hbl, hnm, hbd, hpr⟩ := id hx
 obtain ⟨adb, capb, rfl, hbka, hbkb, hbkc, hbkd⟩ := id hbl
 have hbkm : f.blocks.length ≤ 9223372036854775807 := by have h1 := hbka; have h2 := hbkb; unfold maxLen at h2; omega
 obtain ⟨ada, capa, rfl, hya, hyb, hyc, hyd⟩ := id hy
 have hym : args.length ≤ 9223372036854775807 := by have h1 := hya; have h2 := hyb; unfold maxLen at h2; omega
 refine Ret.enter (P := Try.prog) (n := 32) (args := [.agg #[.string f.name, .int .i64 f.bind, .int .i64 f.params, .slice adb f.blocks.length capb], .int .i64 to, .slice ada args.length capa, .int .i64 n]) (σ := [(0, .agg #[.string f.name, .int .i64 f.bind, .int .i64 f.params, .slice adb f.blocks.length capb]), (1, .int .i64 to), (2, .slice ada args.length capa), (3, .int .i64 n)]) Try.func45 rfl rfl rfl rfl ?_
 have hS := St.start (ro := ro) hro
 refine W.seq (W.region ?_)
 refine WL.box (v := .agg #[.string f.name, .int .i64 f.bind, .int .i64 f.params, .slice adb f.blocks.length capb]) (cs := [.string f.name, .int .i64 f.bind, .int .i64 f.params, .slice adb f.blocks.length capb]) rfl rfl rfl rfl hS ?_
 clear hS; intro w2 b1 hb_b1 hS
 refine WL.assign rfl rfl rfl (WL.nil (N.seq (W.seq (W.seq (W.region (WL.move rfl rfl rfl (WL.bin rfl rfl rfl rfl rfl (WL.move rfl rfl rfl ?_))))))))
 cases hg3 : (decide (to < 0))
 ·
  have hg3p : ¬ (to < 0) := by simpa using hg3
  refine WL.move rfl rfl rfl ?_
  refine WL.fieldAddr fo_67_3 rfl rfl rfl ?_
  refine WL.load1 (v := .slice adb f.blocks.length capb) one_65 rfl rfl rfl (hS.cell 0 rfl rfl) ?_
  refine WL.lenSlice Try.underlying65 rfl rfl rfl ?_
  refine WL.bin rfl rfl rfl rfl rfl ?_
  refine WL.pick (v := .bool (decide ((f.blocks.length : Int) ≤ to))) rfl rfl rfl rfl rfl rfl ?_
  refine WL.move rfl rfl rfl ?_
  cases hg4 : (decide ((f.blocks.length : Int) ≤ to))
  ·
   have hg4p : ¬ ((f.blocks.length : Int) ≤ to) := by simpa using hg4
   refine WL.move rfl rfl rfl ?_
   refine WL.lenSlice Try.underlying25 rfl rfl rfl ?_
   refine WL.fieldAddr fo_67_3 rfl rfl rfl ?_
   refine WL.load1 (v := .slice adb f.blocks.length capb) one_65 rfl rfl rfl (hS.cell 0 rfl rfl) ?_
   refine WL.move rfl rfl rfl ?_
   refine WL.set 23 (v' := .int .i64 (to.toNat : Int)) rfl (by congr 1; omega) ?_
   have hj5 : to.toNat < f.blocks.length := by omega
   obtain ⟨x5, hx5⟩ : ∃ zz, f.blocks[to.toNat]? = some zz := ⟨_, List.getElem?_eq_getElem hj5⟩
   obtain ⟨b5, o5, cs5, hE5, hr5, hl5, hc5, hQ5⟩ := hbkd to.toNat _ hx5
   obtain ⟨si5, tsx5, rfl, hin5, hfin5, hpar5⟩ := id hQ5
   obtain ⟨adi5, capi5, rfl, hin5a, hin5b, hin5c, hin5d⟩ := id hin5
   have hin5m : x5.ins.length ≤ 9223372036854775807 := by have h1 := hin5a; have h2 := hin5b; unfold maxLen at h2; omega
   obtain ⟨sp5, sq5, rfl, ht15, ht25, htk5, hta5, htt5, hte5⟩ := id hfin5
   obtain ⟨adp5, capp5, rfl, htp5a, htp5b, htp5c, htp5d⟩ := id ht15
   have htp5m : x5.fin.args.length ≤ 9223372036854775807 := by have h1 := htp5a; have h2 := htp5b; unfold maxLen at h2; omega
   obtain ⟨adq5, capq5, rfl, htq5a, htq5b, htq5c, htq5d⟩ := id ht25
   have htq5m : x5.fin.elses.length ≤ 9223372036854775807 := by have h1 := htq5a; have h2 := htq5b; unfold maxLen at h2; omega
   refine WL.indexAddrE (j := to.toNat) Try.underlying65 isz_29 rfl rfl rfl rfl hj5 hE5 ?_
   refine WL.fieldAddr fo_29_0 rfl rfl rfl ?_
   refine WL.load1 (v := .int .i64 x5.params) one_3 rfl rfl rfl (hS.roCells hr5 hc5 0 _ rfl) ?_
   refine WL.bin rfl rfl rfl rfl rfl ?_
   refine WL.pick (v := .bool (!decide ((args.length : Int) = x5.params))) rfl rfl rfl rfl rfl rfl ?_
   refine WL.nil (N.seq ?_)
   refine W.cond rfl (fun hc6 => ?_) (fun hc6 => ?_)
   ·
    have hc6p : ¬ ((args.length : Int) = x5.params) := by simpa using hc6
    refine W.seq (W.region (WL.assign rfl rfl rfl (WL.nil (N.seq ?_))))
    refine Fin.ret1 rfl (v := .bool false) rfl ?_
    have hbz := hS.below
    clear hS
    refine ⟨?_, hbz⟩
    congr 1
    rw [goes5, if_neg (by omega), hx5]
    dsimp only
    rw [if_neg (by omega)]
   have hc6p : (args.length : Int) = x5.params := by simpa using hc6
   refine W.skip (N.seq (W.seq (W.region (WL.move rfl rfl rfl (WL.move rfl rfl rfl ?_)))))
   refine WL.callF (vs := [.slice ada args.length capa, .int .i64 n]) Try.func46 (by kernel_rfl) rfl rfl rfl (below5_ret args _ n (ro := ro) (fun b hb => (hS.snap b hb).1) (IntsV.keep hy hS.alike)) ?_
   rintro v w7 ⟨rfl, hbl⟩
   replace hS := hS.grow hbl
   refine WL.assign rfl rfl rfl (WL.nil (N.seq ?_))
   refine Fin.ret1 rfl (v := .bool (below5 args n)) rfl ?_
   have hbz := hS.below
   clear hS
   refine ⟨?_, hbz⟩
   congr 1
   rw [goes5, if_neg (by omega), hx5]
   dsimp only
   rw [if_pos (by omega)]
  have hg4p : (f.blocks.length : Int) ≤ to := by simpa using hg4
  refine WL.skp rfl rfl (WL.skp rfl rfl (WL.skp rfl rfl (WL.skp rfl rfl (WL.skp rfl rfl (WL.skp rfl rfl (WL.skp rfl rfl (WL.skp rfl rfl (WL.skp rfl rfl (WL.pick (v := .bool true) rfl rfl rfl rfl rfl rfl ?_)))))))))
  refine WL.nil (N.seq (W.condT rfl (W.seq (W.region (WL.assign rfl rfl rfl (WL.nil (N.seq ?_)))))))
  refine Fin.ret1 rfl (v := .bool false) rfl ?_
  have hbz := hS.below
  clear hS
  refine ⟨?_, hbz⟩
  congr 1
  rw [goes5, if_neg (by omega), List.getElem?_eq_none (by omega)]
 have hg3p : to < 0 := by simpa using hg3
 refine WL.skp rfl rfl (WL.skp rfl rfl (WL.skp rfl rfl (WL.skp rfl rfl (WL.skp rfl rfl (WL.pick (v := .bool true) rfl rfl rfl rfl rfl rfl (WL.move rfl rfl rfl (WL.skp rfl rfl (WL.skp rfl rfl (WL.skp rfl rfl ?_)))))))))
 refine WL.skp rfl rfl (WL.skp rfl rfl (WL.skp rfl rfl (WL.skp rfl rfl (WL.skp rfl rfl (WL.skp rfl rfl (WL.pick (v := .bool true) rfl rfl rfl rfl rfl rfl (WL.nil (N.seq (W.condT rfl ?_)))))))))
 refine W.seq (W.region (WL.assign rfl rfl rfl (WL.nil (N.seq ?_))))
 refine Fin.ret1 rfl (v := .bool false) rfl ?_
 have hbz := hS.below
 clear hS
 refine ⟨?_, hbz⟩
 congr 1
 rw [goes5, if_pos (by omega)]

end Go.Proofs.Ytokkiaokpfediaa
