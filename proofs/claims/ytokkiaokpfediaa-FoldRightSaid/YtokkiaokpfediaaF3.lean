/-
  Contracts of layer 12. No condition beyond those that each theorem states.
-/
import Derived.Test.YtokkiaokpfediaaF2
namespace Go.Proofs.Ytokkiaokpfediaa
open Go.RowKit

def iK (k : Int) : DInst := ⟨1, 0, 0, k, ⟨#[]⟩, []⟩
def bShown : DBlock := ⟨0, [iK 2, iK 3, ⟨4, 0, 1, 0, ⟨#[]⟩, []⟩], ⟨3, 0, 0, [], 0, []⟩⟩
def rShown : DBlock := ⟨0, [iK 2, iK 3, iK 6], ⟨3, 0, 0, [], 0, []⟩⟩
theorem shown_eq : foldBlock bShown = rShown := by rfl
def bReck (op a b : Int) : DBlock := ⟨0, [iK a, iK b, ⟨op, 0, 1, 0, ⟨#[]⟩, []⟩], ⟨3, 2, 0, [], 0, []⟩⟩
def rReck (op a b : Int) : DBlock := ⟨0, [iK a, iK b, iK (reckI op a b)], ⟨3, 2, 0, [], 0, []⟩⟩
theorem reck_eq (op a b : Int) (h : 2 ≤ op ∧ op ≤ 11) : foldBlock (bReck op a b) = rReck op a b := by
  have h1 : ¬ op = 1 := by omega
  simp [foldBlock, bReck, rReck, vals, vals0, valsF, stepK, katG, foldIns, foldTerm, iK, cInst, h1, h.1, h.2]
theorem intI {x : Int} (h : -1000 ≤ x ∧ x ≤ 1000) : inI x := by unfold inI; omega
theorem instLit {ro : Nat → Prop} {w : World} (op a b k : Int) (h1 : inI op) (h2 : inI a) (h3 : inI b) (h4 : inU k) : InstC ro w [.int .i64 op, .int .i64 a, .int .i64 b, .int .u64 k, .string ⟨#[]⟩, .slice none 0 0] ⟨op, a, b, k, ⟨#[]⟩, []⟩ :=
  ⟨_, rfl, intsNil, h1, h2, h3, h4, Nat.zero_le _⟩
theorem termLit {ro : Nat → Prop} {w : World} (k a to els : Int) (h1 : inI k) (h2 : inI a) (h3 : inI to) (h4 : inI els) : TermC ro w [.int .i64 k, .int .i64 a, .int .i64 to, .slice none 0 0, .int .i64 els, .slice none 0 0] ⟨k, a, to, [], els, []⟩ :=
  ⟨_, _, rfl, intsNil, intsNil, h1, h2, h3, h4⟩
/-- Cells that lie in one block, in chunks: a slice over it. -/
theorem slv_block {α : Type} {ro : Nat → Prop} {w : World} {b e sz : Nat} {c : Array Value} {Q : List Value → α → Prop} {cs : List Value} {xs : List α} (hb : w.heap[b]? = some (.cells c e (0, 0))) (hc : c.toList.take cs.length = cs) (h : Chunks sz Q cs xs) (hr : ro b) (hm : xs.length ≤ maxLen) :
    SlV ro w sz Q (.slice (some ⟨b, 0, none⟩) xs.length xs.length) xs := ⟨_, _, rfl, Nat.le_refl _, hm, (fun e => by cases e), elems_block hb hc h hr⟩
theorem chunks3 {α : Type} {sz : Nat} {Q : List Value → α → Prop} {a b c : List Value} {x y z : α} (ha : a.length = sz) (hb : b.length = sz) (hc : c.length = sz) (h1 : Q a x) (h2 : Q b y) (h3 : Q c z) : Chunks sz Q (a ++ b ++ c) [x, y, z] := by
  have := ((Chunks.nil (sz := sz) (Q := Q)).snoc ha h1).snoc hb h2
  simpa using this.snoc hc h3

theorem shown_ret {w : World} {ro : Nat → Prop} (hro : ∀ b, ro b → b < w.heap.size) : Ret Try.prog 8 #[] w fun v w' => v = .bool true ∧ Below w.heap.size w w' := by
  refine Ret.enter (P := Try.prog) (n := 29) (args := []) (σ := []) Try.func8 rfl rfl rfl rfl ?_
  have hS := St.start (ro := ro) hro
  refine W.seq ?_
  refine W.region ?_
  refine WL.assign rfl rfl rfl ?_
  refine WL.nil ?_
  refine N.seq ?_
  refine W.seq ?_
  refine W.region ?_
  refine WL.build (ps := [(0, .int .i64 1), (3, .int .u64 2)]) (cs := [.int .i64 1, .int .i64 0, .int .i64 0, .int .u64 2, .string ⟨#[]⟩, .slice none 0 0]) rfl rfl rfl (by kernel_rfl) ?_
  refine WL.build (ps := [(0, .int .i64 1), (3, .int .u64 3)]) (cs := [.int .i64 1, .int .i64 0, .int .i64 0, .int .u64 3, .string ⟨#[]⟩, .slice none 0 0]) rfl rfl rfl (by kernel_rfl) ?_
  refine WL.build (ps := [(0, .int .i64 4), (1, .int .i64 0), (2, .int .i64 1)]) (cs := [.int .i64 4, .int .i64 0, .int .i64 1, .int .u64 0, .string ⟨#[]⟩, .slice none 0 0]) rfl rfl rfl (by kernel_rfl) ?_
  refine WL.buildSlice (ps := [(0, .agg #[.int .i64 1, .int .i64 0, .int .i64 0, .int .u64 2, .string ⟨#[]⟩, .slice none 0 0]), (1, .agg #[.int .i64 1, .int .i64 0, .int .i64 0, .int .u64 3, .string ⟨#[]⟩, .slice none 0 0]), (2, .agg #[.int .i64 4, .int .i64 0, .int .i64 1, .int .u64 0, .string ⟨#[]⟩, .slice none 0 0])]) (cs := [.int .i64 1, .int .i64 0, .int .i64 0, .int .u64 2, .string ⟨#[]⟩, .slice none 0 0, .int .i64 1, .int .i64 0, .int .i64 0, .int .u64 3, .string ⟨#[]⟩, .slice none 0 0, .int .i64 4, .int .i64 0, .int .i64 1, .int .u64 0, .string ⟨#[]⟩, .slice none 0 0]) Try.underlying24 (tyZero_spec zer_32) rfl rfl rfl rfl (by kernel_rfl) hS ?_
  clear hS; intro w2 b1 hb_b1 hS
  refine WL.build (ps := [(0, .int .i64 3)]) (cs := [.int .i64 3, .int .i64 0, .int .i64 0, .slice none 0 0, .int .i64 0, .slice none 0 0]) rfl rfl rfl (by kernel_rfl) ?_
  refine WL.build (ps := [(1, .slice (some ⟨b1, 0, none⟩) 3 3), (2, .agg #[.int .i64 3, .int .i64 0, .int .i64 0, .slice none 0 0, .int .i64 0, .slice none 0 0])]) (cs := [.int .i64 0, .slice (some ⟨b1, 0, none⟩) 3 3, .int .i64 3, .int .i64 0, .int .i64 0, .slice none 0 0, .int .i64 0, .slice none 0 0]) rfl rfl rfl (by kernel_rfl) ?_
  have hsv : InstsV (fun x => x < w2.heap.size) w2 (.slice (some ⟨b1, 0, none⟩) 3 3) (bShown).ins := slv_block (hS.own _ List.mem_cons_self) rfl (chunks3 (a := [.int .i64 1, .int .i64 0, .int .i64 0, .int .u64 2, .string ⟨#[]⟩, .slice none 0 0]) (b := [.int .i64 1, .int .i64 0, .int .i64 0, .int .u64 3, .string ⟨#[]⟩, .slice none 0 0]) (c := [.int .i64 4, .int .i64 0, .int .i64 1, .int .u64 0, .string ⟨#[]⟩, .slice none 0 0]) rfl rfl rfl (instLit _ _ _ _ (intI (by decide)) (intI (by decide)) (intI (by decide)) (by unfold inU; decide)) (instLit _ _ _ _ (intI (by decide)) (intI (by decide)) (intI (by decide)) (by unfold inU; decide)) (instLit _ _ _ _ (intI (by decide)) (intI (by decide)) (intI (by decide)) (by unfold inU; decide))) (hS.keys b1 (by simp [keysOf])).2.1 (by show (3 : Nat) ≤ maxLen; decide)
  have hbb : BlockC (fun x => x < w2.heap.size) w2 [.int .i64 0, .slice (some ⟨b1, 0, none⟩) 3 3, .int .i64 3, .int .i64 0, .int .i64 0, .slice none 0 0, .int .i64 0, .slice none 0 0] (bShown) := ⟨_, _, rfl, hsv, termLit _ _ _ _ (intI (by decide)) (intI (by decide)) (intI (by decide)) (intI (by decide)), (show inI 0 from intI (by decide))⟩
  refine WL.callF (vs := [.agg #[.int .i64 0, .slice (some ⟨b1, 0, none⟩) 3 3, .int .i64 3, .int .i64 0, .int .i64 0, .slice none 0 0, .int .i64 0, .slice none 0 0]]) Try.func9 (by kernel_rfl) rfl rfl rfl (block_ret (bShown) [.int .i64 0, .slice (some ⟨b1, 0, none⟩) 3 3, .int .i64 3, .int .i64 0, .int .i64 0, .slice none 0 0, .int .i64 0, .slice none 0 0] (ro := fun x => x < w2.heap.size) (fun _ h => h) hbb (by show (0 : Int) ≤ 1000; decide) (by show (3 : Nat) ≤ _; decide)) ?_
  rintro v w3 ⟨csr, rfl, hB, hbl⟩
  rw [shown_eq] at hB
  replace hS := hS.readAll hbl
  have hB2 := hB.keep (alikeAll hbl)
  obtain ⟨sir, tsxr, rfl, hinr, hfinr, hparr⟩ := id hB2
  obtain ⟨adir, capir, rfl, hinra, hinrb, hinrc, hinrd⟩ := id hinr
  have hinrm : ((rShown).ins).length ≤ 9223372036854775807 := by have h1 := hinra; have h2 := hinrb; unfold maxLen at h2; omega
  obtain ⟨spr, sqr, rfl, ht1r, ht2r, htkr, htar, httr, hter⟩ := id hfinr
  obtain ⟨adpr, cappr, rfl, htpra, htprb, htprc, htprd⟩ := id ht1r
  have htprm : ((rShown).fin.args).length ≤ 9223372036854775807 := by have h1 := htpra; have h2 := htprb; unfold maxLen at h2; omega
  obtain ⟨adqr, capqr, rfl, htqra, htqrb, htqrc, htqrd⟩ := id ht2r
  have htqrm : ((rShown).fin.elses).length ≤ 9223372036854775807 := by have h1 := htqra; have h2 := htqrb; unfold maxLen at h2; omega
  refine WL.alloc (tyZero_spec zer_29) rfl rfl hS ?_
  clear hS; intro w5 b4 hb_b4 hS
  refine WL.store (cs := [.int .i64 ((rShown).params), .slice adir (((rShown).ins).length) capir, .int .i64 ((rShown).fin.kind), .int .i64 ((rShown).fin.a), .int .i64 ((rShown).fin.to), .slice adpr (((rShown).fin.args).length) cappr, .int .i64 ((rShown).fin.els), .slice adqr (((rShown).fin.elses).length) capqr]) (c' := #[.int .i64 ((rShown).params), .slice adir (((rShown).ins).length) capir, .int .i64 ((rShown).fin.kind), .int .i64 ((rShown).fin.a), .int .i64 ((rShown).fin.to), .slice adpr (((rShown).fin.args).length) cappr, .int .i64 ((rShown).fin.els), .slice adqr (((rShown).fin.elses).length) capqr]) (L' := [(b4, .cells #[.int .i64 ((rShown).params), .slice adir (((rShown).ins).length) capir, .int .i64 ((rShown).fin.kind), .int .i64 ((rShown).fin.a), .int .i64 ((rShown).fin.to), .slice adpr (((rShown).fin.args).length) cappr, .int .i64 ((rShown).fin.els), .slice adqr (((rShown).fin.elses).length) capqr] 29 (0, 0))]) 0 rfl rfl rfl rfl siz_29 rfl rfl rfl rfl rfl hS ?_
  clear hS; intro w6 hS
  refine WL.nil ?_
  refine N.seq ?_
  refine W.seq ?_
  refine W.region ?_
  refine WL.fieldAddr fo_29_1 rfl rfl rfl ?_
  refine WL.load1 (v := .slice adir (((rShown).ins).length) capir) one_24 rfl rfl rfl (hS.cell 0 rfl rfl) ?_
  refine WL.lenSlice Try.underlying24 rfl rfl rfl ?_
  refine WL.bin rfl rfl rfl rfl rfl ?_
  refine WL.set 12 (v' := .bool true) rfl (rfl) ?_
  refine WL.move rfl rfl rfl ?_
  refine WL.fieldAddr fo_29_1 rfl rfl rfl ?_
  refine WL.load1 (v := .slice adir (((rShown).ins).length) capir) one_24 rfl rfl rfl (hS.cell 0 rfl rfl) ?_
  have hj7 : 2 < (rShown).ins.length := by decide
  obtain ⟨x7, hx7⟩ : ∃ zz, (rShown).ins[2]? = some zz := ⟨_, List.getElem?_eq_getElem hj7⟩
  obtain ⟨b7, o7, cs7, hE7, hr7, hl7, hc7, hQ7⟩ := hinrd 2 _ hx7
  obtain rfl : (iK 6) = x7 := Option.some.inj hx7
  have hQk7 := hQ7
  obtain ⟨sv7, rfl, hs7, ho7, ha7, hb7, hk7, hn7⟩ := hQ7
  obtain ⟨ad7, cap7, rfl, hs7a, hs7b, hs7c, hs7d⟩ := id hs7
  have hs7m : ((iK 6).args).length ≤ 9223372036854775807 := by have h1 := hs7a; have h2 := hs7b; unfold maxLen at h2; omega
  refine WL.indexAddrE (j := 2) Try.underlying24 isz_32 rfl rfl rfl rfl hj7 hE7 ?_
  refine WL.fieldAddr fo_32_0 rfl rfl rfl ?_
  refine WL.load1 (v := .int .i64 ((iK 6).op)) one_3 rfl rfl rfl (hS.roCells hr7 hc7 0 _ rfl) ?_
  refine WL.bin rfl rfl rfl rfl rfl ?_
  refine WL.set 19 (v' := .bool true) rfl (rfl) ?_
  refine WL.pick (v := .bool true) rfl rfl rfl rfl rfl rfl ?_
  refine WL.move rfl rfl rfl ?_
  refine WL.fieldAddr fo_29_1 rfl rfl rfl ?_
  refine WL.load1 (v := .slice adir (((rShown).ins).length) capir) one_24 rfl rfl rfl (hS.cell 0 rfl rfl) ?_
  refine WL.indexAddrE (j := 2) Try.underlying24 isz_32 rfl rfl rfl rfl hj7 hE7 ?_
  refine WL.fieldAddr fo_32_3 rfl rfl rfl ?_
  refine WL.load1 (v := .int .u64 ((iK 6).k)) one_22 rfl rfl rfl (hS.roCells hr7 hc7 3 _ rfl) ?_
  refine WL.bin rfl rfl rfl rfl rfl ?_
  refine WL.set 27 (v' := .bool true) rfl (rfl) ?_
  refine WL.pick (v := .bool true) rfl rfl rfl rfl rfl rfl ?_
  refine WL.assign rfl rfl rfl ?_
  refine WL.nil ?_
  refine N.seq ?_
  refine Fin.ret1 rfl (v := .bool true) rfl ?_
  exact ⟨rfl, hS.below⟩

theorem foldReckons_ret (op a b : Int) (ho : inI op) (ha : inU a) (hb : inU b) {w : World} {ro : Nat → Prop} (hro : ∀ b, ro b → b < w.heap.size) : Ret Try.prog 3 #[.int .i64 op, .int .u64 a, .int .u64 b] w fun v w' => v = .bool true ∧ Below w.heap.size w w' := by
  refine Ret.enter (P := Try.prog) (n := 60) (args := [.int .i64 op, .int .u64 a, .int .u64 b]) (σ := [(0, .int .i64 op), (1, .int .u64 a), (2, .int .u64 b)]) Try.func3 rfl rfl rfl rfl ?_
  have hS := St.start (ro := ro) hro
  refine W.seq ?_
  refine W.region ?_
  refine WL.assign rfl rfl rfl ?_
  refine WL.nil ?_
  refine N.seq ?_
  refine W.seq ?_
  refine W.region ?_
  refine WL.callF (vs := []) Try.func8 (by kernel_rfl) rfl rfl rfl (shown_ret (ro := ro) (fun b hb => (hS.snap b hb).1)) ?_
  rintro v w1 ⟨rfl, hbl⟩
  replace hS := hS.grow hbl
  refine WL.assign rfl rfl rfl ?_
  refine WL.nil ?_
  refine N.seq ?_
  refine W.seq ?_
  refine W.seq ?_
  refine W.region ?_
  refine WL.move rfl rfl rfl ?_
  refine WL.bin rfl rfl rfl rfl rfl ?_
  refine WL.move rfl rfl rfl ?_
  cases hg2 : (decide (op < 2))
  ·
    have hg2p : ¬ (op < 2) := by simpa using hg2
    refine WL.move rfl rfl rfl ?_
    refine WL.bin rfl rfl rfl rfl rfl ?_
    refine WL.pick (v := .bool (decide (11 < op))) rfl rfl rfl rfl rfl rfl ?_
    refine WL.nil ?_
    refine N.seq ?_
    refine W.cond rfl (fun hc3 => ?_) (fun hc3 => ?_)
    ·
      have hc3p : 11 < op := by simpa using hc3
      refine W.seq ?_
      refine W.region ?_
      refine WL.move rfl rfl rfl ?_
      refine WL.assign rfl rfl rfl ?_
      refine WL.nil ?_
      refine N.seq ?_
      refine Fin.ret1 rfl (v := .bool true) rfl ?_
      exact ⟨rfl, hS.below⟩
    ·
      have hc3p : ¬ (11 < op) := by simpa using hc3
      refine W.skip ?_
      refine N.seq ?_
      refine W.seq ?_
      refine W.region ?_
      refine WL.move rfl rfl rfl ?_
      refine WL.build (ps := [(0, .int .i64 1), (3, .int .u64 a)]) (cs := [.int .i64 1, .int .i64 0, .int .i64 0, .int .u64 a, .string ⟨#[]⟩, .slice none 0 0]) rfl rfl rfl (by kernel_rfl) ?_
      refine WL.move rfl rfl rfl ?_
      refine WL.build (ps := [(0, .int .i64 1), (3, .int .u64 b)]) (cs := [.int .i64 1, .int .i64 0, .int .i64 0, .int .u64 b, .string ⟨#[]⟩, .slice none 0 0]) rfl rfl rfl (by kernel_rfl) ?_
      refine WL.move rfl rfl rfl ?_
      refine WL.build (ps := [(0, .int .i64 op), (1, .int .i64 0), (2, .int .i64 1)]) (cs := [.int .i64 op, .int .i64 0, .int .i64 1, .int .u64 0, .string ⟨#[]⟩, .slice none 0 0]) rfl rfl rfl (by kernel_rfl) ?_
      refine WL.buildSlice (ps := [(0, .agg #[.int .i64 1, .int .i64 0, .int .i64 0, .int .u64 a, .string ⟨#[]⟩, .slice none 0 0]), (1, .agg #[.int .i64 1, .int .i64 0, .int .i64 0, .int .u64 b, .string ⟨#[]⟩, .slice none 0 0]), (2, .agg #[.int .i64 op, .int .i64 0, .int .i64 1, .int .u64 0, .string ⟨#[]⟩, .slice none 0 0])]) (cs := [.int .i64 1, .int .i64 0, .int .i64 0, .int .u64 a, .string ⟨#[]⟩, .slice none 0 0, .int .i64 1, .int .i64 0, .int .i64 0, .int .u64 b, .string ⟨#[]⟩, .slice none 0 0, .int .i64 op, .int .i64 0, .int .i64 1, .int .u64 0, .string ⟨#[]⟩, .slice none 0 0]) Try.underlying24 (tyZero_spec zer_32) rfl rfl rfl rfl (by kernel_rfl) hS ?_
      clear hS; intro w5 b4 hb_b4 hS
      refine WL.build (ps := [(0, .int .i64 3), (1, .int .i64 2)]) (cs := [.int .i64 3, .int .i64 2, .int .i64 0, .slice none 0 0, .int .i64 0, .slice none 0 0]) rfl rfl rfl (by kernel_rfl) ?_
      refine WL.build (ps := [(1, .slice (some ⟨b4, 0, none⟩) 3 3), (2, .agg #[.int .i64 3, .int .i64 2, .int .i64 0, .slice none 0 0, .int .i64 0, .slice none 0 0])]) (cs := [.int .i64 0, .slice (some ⟨b4, 0, none⟩) 3 3, .int .i64 3, .int .i64 2, .int .i64 0, .slice none 0 0, .int .i64 0, .slice none 0 0]) rfl rfl rfl (by kernel_rfl) ?_
      have hsv : InstsV (fun x => x < w5.heap.size) w5 (.slice (some ⟨b4, 0, none⟩) 3 3) (bReck op a b).ins := slv_block (hS.own _ List.mem_cons_self) rfl (chunks3 (a := [.int .i64 1, .int .i64 0, .int .i64 0, .int .u64 a, .string ⟨#[]⟩, .slice none 0 0]) (b := [.int .i64 1, .int .i64 0, .int .i64 0, .int .u64 b, .string ⟨#[]⟩, .slice none 0 0]) (c := [.int .i64 op, .int .i64 0, .int .i64 1, .int .u64 0, .string ⟨#[]⟩, .slice none 0 0]) rfl rfl rfl (instLit _ _ _ _ (intI (by decide)) (intI (by decide)) (intI (by decide)) ha) (instLit _ _ _ _ (intI (by decide)) (intI (by decide)) (intI (by decide)) hb) (instLit _ _ _ _ ho (intI (by decide)) (intI (by decide)) (by unfold inU; decide))) (hS.keys b4 (by simp [keysOf])).2.1 (by show (3 : Nat) ≤ maxLen; decide)
      have hbb : BlockC (fun x => x < w5.heap.size) w5 [.int .i64 0, .slice (some ⟨b4, 0, none⟩) 3 3, .int .i64 3, .int .i64 2, .int .i64 0, .slice none 0 0, .int .i64 0, .slice none 0 0] (bReck op a b) := ⟨_, _, rfl, hsv, termLit _ _ _ _ (intI (by decide)) (intI (by decide)) (intI (by decide)) (intI (by decide)), (show inI 0 from intI (by decide))⟩
      refine WL.callF (vs := [.agg #[.int .i64 0, .slice (some ⟨b4, 0, none⟩) 3 3, .int .i64 3, .int .i64 2, .int .i64 0, .slice none 0 0, .int .i64 0, .slice none 0 0]]) Try.func9 (by kernel_rfl) rfl rfl rfl (block_ret (bReck op a b) [.int .i64 0, .slice (some ⟨b4, 0, none⟩) 3 3, .int .i64 3, .int .i64 2, .int .i64 0, .slice none 0 0, .int .i64 0, .slice none 0 0] (ro := fun x => x < w5.heap.size) (fun _ h => h) hbb (by show (0 : Int) ≤ 1000; decide) (by show (3 : Nat) ≤ _; decide)) ?_
      rintro v w6 ⟨csr, rfl, hB, hbl⟩
      rw [reck_eq op a b (by omega)] at hB
      replace hS := hS.readAll hbl
      have hB2 := hB.keep (alikeAll hbl)
      obtain ⟨sir, tsxr, rfl, hinr, hfinr, hparr⟩ := id hB2
      obtain ⟨adir, capir, rfl, hinra, hinrb, hinrc, hinrd⟩ := id hinr
      have hinrm : ((rReck op a b).ins).length ≤ 9223372036854775807 := by have h1 := hinra; have h2 := hinrb; unfold maxLen at h2; omega
      obtain ⟨spr, sqr, rfl, ht1r, ht2r, htkr, htar, httr, hter⟩ := id hfinr
      obtain ⟨adpr, cappr, rfl, htpra, htprb, htprc, htprd⟩ := id ht1r
      have htprm : ((rReck op a b).fin.args).length ≤ 9223372036854775807 := by have h1 := htpra; have h2 := htprb; unfold maxLen at h2; omega
      obtain ⟨adqr, capqr, rfl, htqra, htqrb, htqrc, htqrd⟩ := id ht2r
      have htqrm : ((rReck op a b).fin.elses).length ≤ 9223372036854775807 := by have h1 := htqra; have h2 := htqrb; unfold maxLen at h2; omega
      refine WL.alloc (tyZero_spec zer_29) rfl rfl hS ?_
      clear hS; intro w8 b7 hb_b7 hS
      refine WL.store (cs := [.int .i64 ((rReck op a b).params), .slice adir (((rReck op a b).ins).length) capir, .int .i64 ((rReck op a b).fin.kind), .int .i64 ((rReck op a b).fin.a), .int .i64 ((rReck op a b).fin.to), .slice adpr (((rReck op a b).fin.args).length) cappr, .int .i64 ((rReck op a b).fin.els), .slice adqr (((rReck op a b).fin.elses).length) capqr]) (c' := #[.int .i64 ((rReck op a b).params), .slice adir (((rReck op a b).ins).length) capir, .int .i64 ((rReck op a b).fin.kind), .int .i64 ((rReck op a b).fin.a), .int .i64 ((rReck op a b).fin.to), .slice adpr (((rReck op a b).fin.args).length) cappr, .int .i64 ((rReck op a b).fin.els), .slice adqr (((rReck op a b).fin.elses).length) capqr]) (L' := [(b7, .cells #[.int .i64 ((rReck op a b).params), .slice adir (((rReck op a b).ins).length) capir, .int .i64 ((rReck op a b).fin.kind), .int .i64 ((rReck op a b).fin.a), .int .i64 ((rReck op a b).fin.to), .slice adpr (((rReck op a b).fin.args).length) cappr, .int .i64 ((rReck op a b).fin.els), .slice adqr (((rReck op a b).fin.elses).length) capqr] 29 (0, 0))]) 0 rfl rfl rfl rfl siz_29 rfl rfl rfl rfl rfl hS ?_
      clear hS; intro w9 hS
      refine WL.nil ?_
      refine N.seq ?_
      refine W.seq ?_
      have hj10 : 2 < (rReck op a b).ins.length := by simp [rReck]
      obtain ⟨x10, hx10⟩ : ∃ zz, (rReck op a b).ins[2]? = some zz := ⟨_, List.getElem?_eq_getElem hj10⟩
      obtain ⟨b10, o10, cs10, hE10, hr10, hl10, hc10, hQ10⟩ := hinrd 2 _ hx10
      obtain rfl : (iK (reckI op a b)) = x10 := Option.some.inj hx10
      have hQk10 := hQ10
      obtain ⟨sv10, rfl, hs10, ho10, ha10, hb10, hk10, hn10⟩ := hQ10
      obtain ⟨ad10, cap10, rfl, hs10a, hs10b, hs10c, hs10d⟩ := id hs10
      have hs10m : ((iK (reckI op a b)).args).length ≤ 9223372036854775807 := by have h1 := hs10a; have h2 := hs10b; unfold maxLen at h2; omega
      refine W.drawL (by kernel_rfl) 33 [.q (.bool true), .q (.bool true), .q (.pointer (some ⟨b7, 1, none⟩)), .q (.slice adir (((rReck op a b).ins).length) capir), .q (.int .i64 (((rReck op a b).ins).length : Int)), .q (.bool true), .q (.bool true), .q (.bool true), .q (.pointer (some ⟨b7, 1, none⟩)), .q (.slice adir (((rReck op a b).ins).length) capir), .q (.pointer (some ⟨b10, o10 + 2 * 6, none⟩)), .q (.pointer (some ⟨b10, o10 + 2 * 6, none⟩)), .q (.int .i64 ((iK (reckI op a b)).op)), .q (.bool true), .q (.bool true), .q (.bool true), .q (.pointer (some ⟨b7, 1, none⟩)), .q (.slice adir (((rReck op a b).ins).length) capir), .q (.pointer (some ⟨b10, o10 + 2 * 6, none⟩)), .q (.pointer (some ⟨b10, o10 + 2 * 6 + 3, none⟩)), .q (.int .u64 ((iK (reckI op a b)).k)), .q (.int .i64 op), .q (.int .u64 a), .q (.int .u64 b), .q (.int .u64 (reckI op a b)), .q (.bool true), .q (.bool true), .q (.bool true), .q (.pointer (some ⟨b7, 2, none⟩)), .q (.pointer (some ⟨b7, 3, none⟩)), .q (.int .i64 ((rReck op a b).fin.a)), .q (.bool true), .q (.bool true)] (by kernel_rfl) rfl [(0, .int .i64 op), (1, .int .u64 a), (2, .int .u64 b), (6, .bool false), (7, .bool true), (8, .pointer (some ⟨b7, 0, none⟩)), (9, .bool true), (10, .int .i64 op), (11, .bool false), (12, .bool false), (13, .int .i64 op), (14, .bool (decide (11 < op))), (15, .bool (decide (11 < op))), (17, .int .u64 a), (18, .agg #[.int .i64 1, .int .i64 0, .int .i64 0, .int .u64 a, .string ⟨#[]⟩, .slice none 0 0]), (19, .int .u64 b), (20, .agg #[.int .i64 1, .int .i64 0, .int .i64 0, .int .u64 b, .string ⟨#[]⟩, .slice none 0 0]), (21, .int .i64 op), (22, .agg #[.int .i64 op, .int .i64 0, .int .i64 1, .int .u64 0, .string ⟨#[]⟩, .slice none 0 0]), (23, .slice (some ⟨b4, 0, none⟩) 3 3), (24, .agg #[.int .i64 3, .int .i64 2, .int .i64 0, .slice none 0 0, .int .i64 0, .slice none 0 0]), (25, .agg #[.int .i64 0, .slice (some ⟨b4, 0, none⟩) 3 3, .int .i64 3, .int .i64 2, .int .i64 0, .slice none 0 0, .int .i64 0, .slice none 0 0]), (26, .agg #[.int .i64 ((rReck op a b).params), .slice adir (((rReck op a b).ins).length) capir, .int .i64 ((rReck op a b).fin.kind), .int .i64 ((rReck op a b).fin.a), .int .i64 ((rReck op a b).fin.to), .slice adpr (((rReck op a b).fin.args).length) cappr, .int .i64 ((rReck op a b).fin.els), .slice adqr (((rReck op a b).fin.elses).length) capqr])] ⟨rfl, rfl, rfl, rfl, rfl, rfl, rfl, rfl, rfl, rfl, rfl, rfl, rfl, rfl, rfl, rfl, rfl, rfl, rfl, rfl, rfl, rfl, rfl, trivial⟩ rfl hS ?_ ?_
      ·
        refine And.intro (fun β w hS => ?_) ?_
        ·
          refine WL.sub (σ' := [(7, .bool true)]) ⟨rfl, trivial⟩ ?_
          refine WL.move rfl rfl rfl ?_
          exact WL.nil (N.cut () ⟨rfl, trivial⟩ (Below.refl _ _))
        refine And.intro (fun β w hS => ?_) ?_
        ·
          refine WL.sub (σ' := [(27, .bool true)]) ⟨rfl, trivial⟩ ?_
          refine WL.move rfl rfl rfl ?_
          exact WL.nil (N.cut () ⟨rfl, trivial⟩ (Below.refl _ _))
        refine And.intro (fun β w hS => ?_) ?_
        ·
          refine WL.sub (σ' := [(8, .pointer (some ⟨b7, 0, none⟩)), (28, .bool true)]) ⟨rfl, rfl, trivial⟩ ?_
          refine WL.fieldAddr fo_29_1 rfl rfl rfl ?_
          exact WL.nil (N.cut () ⟨rfl, trivial⟩ (Below.refl _ _))
        refine And.intro (fun β w hS => ?_) ?_
        ·
          refine WL.sub (σ' := [(28, .bool true), (29, .pointer (some ⟨b7, 1, none⟩))]) ⟨rfl, rfl, trivial⟩ ?_
          refine WL.load1 (v := .slice adir (((rReck op a b).ins).length) capir) one_24 rfl rfl rfl (hS.cell 0 rfl rfl) ?_
          exact WL.nil (N.cut () ⟨rfl, trivial⟩ (Below.refl _ _))
        refine And.intro (fun β w hS => ?_) ?_
        ·
          refine WL.sub (σ' := [(28, .bool true), (30, .slice adir (((rReck op a b).ins).length) capir)]) ⟨rfl, rfl, trivial⟩ ?_
          refine WL.lenSlice Try.underlying24 rfl rfl rfl ?_
          exact WL.nil (N.cut () ⟨rfl, trivial⟩ (Below.refl _ _))
        refine And.intro (fun β w hS => ?_) ?_
        ·
          refine WL.sub (σ' := [(28, .bool true), (31, .int .i64 (((rReck op a b).ins).length : Int))]) ⟨rfl, rfl, trivial⟩ ?_
          refine WL.bin rfl rfl rfl rfl rfl ?_
          refine WL.set 32 (v' := .bool true) rfl (by simp [rReck, iK]) ?_
          exact WL.nil (N.cut () ⟨rfl, trivial⟩ (Below.refl _ _))
        refine And.intro (fun β w hS => ?_) ?_
        ·
          refine WL.sub (σ' := [(28, .bool true), (32, .bool true)]) ⟨rfl, rfl, trivial⟩ ?_
          refine WL.pick (v := .bool true) rfl rfl rfl rfl rfl rfl ?_
          exact WL.nil (N.cut () ⟨rfl, trivial⟩ (Below.refl _ _))
        refine And.intro (fun β w hS => ?_) ?_
        ·
          refine WL.sub (σ' := [(33, .bool true)]) ⟨rfl, trivial⟩ ?_
          refine WL.move rfl rfl rfl ?_
          exact WL.nil (N.cut () ⟨rfl, trivial⟩ (Below.refl _ _))
        refine And.intro (fun β w hS => ?_) ?_
        ·
          refine WL.sub (σ' := [(8, .pointer (some ⟨b7, 0, none⟩)), (34, .bool true)]) ⟨rfl, rfl, trivial⟩ ?_
          refine WL.fieldAddr fo_29_1 rfl rfl rfl ?_
          exact WL.nil (N.cut () ⟨rfl, trivial⟩ (Below.refl _ _))
        refine And.intro (fun β w hS => ?_) ?_
        ·
          refine WL.sub (σ' := [(34, .bool true), (35, .pointer (some ⟨b7, 1, none⟩))]) ⟨rfl, rfl, trivial⟩ ?_
          refine WL.load1 (v := .slice adir (((rReck op a b).ins).length) capir) one_24 rfl rfl rfl (hS.cell 0 rfl rfl) ?_
          exact WL.nil (N.cut () ⟨rfl, trivial⟩ (Below.refl _ _))
        refine And.intro (fun β w hS => ?_) ?_
        ·
          refine WL.sub (σ' := [(34, .bool true), (36, .slice adir (((rReck op a b).ins).length) capir)]) ⟨rfl, rfl, trivial⟩ ?_
          refine WL.indexAddrE (j := 2) Try.underlying24 isz_32 rfl rfl rfl rfl hj10 hE10 ?_
          exact WL.nil (N.cut () ⟨rfl, trivial⟩ (Below.refl _ _))
        refine And.intro (fun β w hS => ?_) ?_
        ·
          refine WL.sub (σ' := [(34, .bool true), (37, .pointer (some ⟨b10, o10 + 2 * 6, none⟩))]) ⟨rfl, rfl, trivial⟩ ?_
          refine WL.fieldAddr fo_32_0 rfl rfl rfl ?_
          exact WL.nil (N.cut () ⟨rfl, trivial⟩ (Below.refl _ _))
        refine And.intro (fun β w hS => ?_) ?_
        ·
          refine WL.sub (σ' := [(34, .bool true), (38, .pointer (some ⟨b10, o10 + 2 * 6, none⟩))]) ⟨rfl, rfl, trivial⟩ ?_
          refine WL.load1 (v := .int .i64 ((iK (reckI op a b)).op)) one_3 rfl rfl rfl (hS.roCells hr10 hc10 0 _ rfl) ?_
          exact WL.nil (N.cut () ⟨rfl, trivial⟩ (Below.refl _ _))
        refine And.intro (fun β w hS => ?_) ?_
        ·
          refine WL.sub (σ' := [(34, .bool true), (39, .int .i64 ((iK (reckI op a b)).op))]) ⟨rfl, rfl, trivial⟩ ?_
          refine WL.bin rfl rfl rfl rfl rfl ?_
          refine WL.set 40 (v' := .bool true) rfl (by simp [rReck, iK]) ?_
          exact WL.nil (N.cut () ⟨rfl, trivial⟩ (Below.refl _ _))
        refine And.intro (fun β w hS => ?_) ?_
        ·
          refine WL.sub (σ' := [(34, .bool true), (40, .bool true)]) ⟨rfl, rfl, trivial⟩ ?_
          refine WL.pick (v := .bool true) rfl rfl rfl rfl rfl rfl ?_
          exact WL.nil (N.cut () ⟨rfl, trivial⟩ (Below.refl _ _))
        refine And.intro (fun β w hS => ?_) ?_
        ·
          refine WL.sub (σ' := [(41, .bool true)]) ⟨rfl, trivial⟩ ?_
          refine WL.move rfl rfl rfl ?_
          exact WL.nil (N.cut () ⟨rfl, trivial⟩ (Below.refl _ _))
        refine And.intro (fun β w hS => ?_) ?_
        ·
          refine WL.sub (σ' := [(8, .pointer (some ⟨b7, 0, none⟩)), (42, .bool true)]) ⟨rfl, rfl, trivial⟩ ?_
          refine WL.fieldAddr fo_29_1 rfl rfl rfl ?_
          exact WL.nil (N.cut () ⟨rfl, trivial⟩ (Below.refl _ _))
        refine And.intro (fun β w hS => ?_) ?_
        ·
          refine WL.sub (σ' := [(42, .bool true), (43, .pointer (some ⟨b7, 1, none⟩))]) ⟨rfl, rfl, trivial⟩ ?_
          refine WL.load1 (v := .slice adir (((rReck op a b).ins).length) capir) one_24 rfl rfl rfl (hS.cell 0 rfl rfl) ?_
          exact WL.nil (N.cut () ⟨rfl, trivial⟩ (Below.refl _ _))
        refine And.intro (fun β w hS => ?_) ?_
        ·
          refine WL.sub (σ' := [(42, .bool true), (44, .slice adir (((rReck op a b).ins).length) capir)]) ⟨rfl, rfl, trivial⟩ ?_
          refine WL.indexAddrE (j := 2) Try.underlying24 isz_32 rfl rfl rfl rfl hj10 hE10 ?_
          exact WL.nil (N.cut () ⟨rfl, trivial⟩ (Below.refl _ _))
        refine And.intro (fun β w hS => ?_) ?_
        ·
          refine WL.sub (σ' := [(42, .bool true), (45, .pointer (some ⟨b10, o10 + 2 * 6, none⟩))]) ⟨rfl, rfl, trivial⟩ ?_
          refine WL.fieldAddr fo_32_3 rfl rfl rfl ?_
          exact WL.nil (N.cut () ⟨rfl, trivial⟩ (Below.refl _ _))
        refine And.intro (fun β w hS => ?_) ?_
        ·
          refine WL.sub (σ' := [(42, .bool true), (46, .pointer (some ⟨b10, o10 + 2 * 6 + 3, none⟩))]) ⟨rfl, rfl, trivial⟩ ?_
          refine WL.load1 (v := .int .u64 ((iK (reckI op a b)).k)) one_22 rfl rfl rfl (hS.roCells hr10 hc10 3 _ rfl) ?_
          exact WL.nil (N.cut () ⟨rfl, trivial⟩ (Below.refl _ _))
        refine And.intro (fun β w hS => ?_) ?_
        ·
          refine WL.sub (σ' := [(0, .int .i64 op), (42, .bool true)]) ⟨rfl, rfl, trivial⟩ ?_
          refine WL.move rfl rfl rfl ?_
          exact WL.nil (N.cut () ⟨rfl, trivial⟩ (Below.refl _ _))
        refine And.intro (fun β w hS => ?_) ?_
        ·
          refine WL.sub (σ' := [(1, .int .u64 a), (42, .bool true)]) ⟨rfl, rfl, trivial⟩ ?_
          refine WL.move rfl rfl rfl ?_
          exact WL.nil (N.cut () ⟨rfl, trivial⟩ (Below.refl _ _))
        refine And.intro (fun β w hS => ?_) ?_
        ·
          refine WL.sub (σ' := [(2, .int .u64 b), (42, .bool true)]) ⟨rfl, rfl, trivial⟩ ?_
          refine WL.move rfl rfl rfl ?_
          exact WL.nil (N.cut () ⟨rfl, trivial⟩ (Below.refl _ _))
        refine And.intro (fun β w hS => ?_) ?_
        ·
          refine WL.sub (σ' := [(42, .bool true), (48, .int .i64 op), (49, .int .u64 a), (50, .int .u64 b)]) ⟨rfl, rfl, rfl, rfl, trivial⟩ ?_
          refine WL.callF (vs := [.int .i64 op, .int .u64 a, .int .u64 b]) Try.func10 (by kernel_rfl) rfl rfl rfl (rreckon_ret op a b ha hb (ro := _) (fun b hb => (hS.snap b hb).1)) ?_
          rintro v w12 ⟨rfl, hbl⟩
          replace hS := hS.grow hbl
          exact WL.nil (N.cut () ⟨rfl, trivial⟩ hbl)
        refine And.intro (fun β w hS => ?_) ?_
        ·
          refine WL.sub (σ' := [(42, .bool true), (47, .int .u64 ((iK (reckI op a b)).k)), (51, .int .u64 (reckI op a b))]) ⟨rfl, rfl, rfl, trivial⟩ ?_
          refine WL.bin rfl rfl rfl rfl rfl ?_
          refine WL.set 52 (v' := .bool true) rfl (by simp [rReck, iK]) ?_
          exact WL.nil (N.cut () ⟨rfl, trivial⟩ (Below.refl _ _))
        refine And.intro (fun β w hS => ?_) ?_
        ·
          refine WL.sub (σ' := [(42, .bool true), (52, .bool true)]) ⟨rfl, rfl, trivial⟩ ?_
          refine WL.pick (v := .bool true) rfl rfl rfl rfl rfl rfl ?_
          exact WL.nil (N.cut () ⟨rfl, trivial⟩ (Below.refl _ _))
        refine And.intro (fun β w hS => ?_) ?_
        ·
          refine WL.sub (σ' := [(53, .bool true)]) ⟨rfl, trivial⟩ ?_
          refine WL.move rfl rfl rfl ?_
          exact WL.nil (N.cut () ⟨rfl, trivial⟩ (Below.refl _ _))
        refine And.intro (fun β w hS => ?_) ?_
        ·
          refine WL.sub (σ' := [(8, .pointer (some ⟨b7, 0, none⟩)), (54, .bool true)]) ⟨rfl, rfl, trivial⟩ ?_
          refine WL.fieldAddr fo_29_2 rfl rfl rfl ?_
          exact WL.nil (N.cut () ⟨rfl, trivial⟩ (Below.refl _ _))
        refine And.intro (fun β w hS => ?_) ?_
        ·
          refine WL.sub (σ' := [(54, .bool true), (55, .pointer (some ⟨b7, 2, none⟩))]) ⟨rfl, rfl, trivial⟩ ?_
          refine WL.fieldAddr fo_27_1 rfl rfl rfl ?_
          exact WL.nil (N.cut () ⟨rfl, trivial⟩ (Below.refl _ _))
        refine And.intro (fun β w hS => ?_) ?_
        ·
          refine WL.sub (σ' := [(54, .bool true), (56, .pointer (some ⟨b7, 3, none⟩))]) ⟨rfl, rfl, trivial⟩ ?_
          refine WL.load1 (v := .int .i64 ((rReck op a b).fin.a)) one_3 rfl rfl rfl (hS.cell 0 rfl rfl) ?_
          exact WL.nil (N.cut () ⟨rfl, trivial⟩ (Below.refl _ _))
        refine And.intro (fun β w hS => ?_) ?_
        ·
          refine WL.sub (σ' := [(54, .bool true), (57, .int .i64 ((rReck op a b).fin.a))]) ⟨rfl, rfl, trivial⟩ ?_
          refine WL.bin rfl rfl rfl rfl rfl ?_
          refine WL.set 58 (v' := .bool true) rfl (by simp [rReck, iK]) ?_
          exact WL.nil (N.cut () ⟨rfl, trivial⟩ (Below.refl _ _))
        refine And.intro (fun β w hS => ?_) ?_
        ·
          refine WL.sub (σ' := [(54, .bool true), (58, .bool true)]) ⟨rfl, rfl, trivial⟩ ?_
          refine WL.pick (v := .bool true) rfl rfl rfl rfl rfl rfl ?_
          exact WL.nil (N.cut () ⟨rfl, trivial⟩ (Below.refl _ _))
        trivial
      ·
        clear hS; intro w13 β hS
        refine WL.sub (σ' := [(0, .int .i64 op), (1, .int .u64 a), (2, .int .u64 b), (6, .bool false), (7, .bool true), (8, .pointer (some ⟨b7, 0, none⟩)), (9, .bool true), (10, .int .i64 op), (11, .bool false), (12, .bool false), (13, .int .i64 op), (14, .bool (decide (11 < op))), (15, .bool (decide (11 < op))), (17, .int .u64 a), (18, .agg #[.int .i64 1, .int .i64 0, .int .i64 0, .int .u64 a, .string ⟨#[]⟩, .slice none 0 0]), (19, .int .u64 b), (20, .agg #[.int .i64 1, .int .i64 0, .int .i64 0, .int .u64 b, .string ⟨#[]⟩, .slice none 0 0]), (21, .int .i64 op), (22, .agg #[.int .i64 op, .int .i64 0, .int .i64 1, .int .u64 0, .string ⟨#[]⟩, .slice none 0 0]), (23, .slice (some ⟨b4, 0, none⟩) 3 3), (24, .agg #[.int .i64 3, .int .i64 2, .int .i64 0, .slice none 0 0, .int .i64 0, .slice none 0 0]), (25, .agg #[.int .i64 0, .slice (some ⟨b4, 0, none⟩) 3 3, .int .i64 3, .int .i64 2, .int .i64 0, .slice none 0 0, .int .i64 0, .slice none 0 0]), (26, .agg #[.int .i64 ((rReck op a b).params), .slice adir (((rReck op a b).ins).length) capir, .int .i64 ((rReck op a b).fin.kind), .int .i64 ((rReck op a b).fin.a), .int .i64 ((rReck op a b).fin.to), .slice adpr (((rReck op a b).fin.args).length) cappr, .int .i64 ((rReck op a b).fin.els), .slice adqr (((rReck op a b).fin.elses).length) capqr]), (27, .bool true), (28, .bool true), (29, .pointer (some ⟨b7, 1, none⟩)), (30, .slice adir (((rReck op a b).ins).length) capir), (31, .int .i64 (((rReck op a b).ins).length : Int)), (32, .bool true), (33, .bool true), (34, .bool true), (35, .pointer (some ⟨b7, 1, none⟩)), (36, .slice adir (((rReck op a b).ins).length) capir), (37, .pointer (some ⟨b10, o10 + 2 * 6, none⟩)), (38, .pointer (some ⟨b10, o10 + 2 * 6, none⟩)), (39, .int .i64 ((iK (reckI op a b)).op)), (40, .bool true), (41, .bool true), (42, .bool true), (43, .pointer (some ⟨b7, 1, none⟩)), (44, .slice adir (((rReck op a b).ins).length) capir), (45, .pointer (some ⟨b10, o10 + 2 * 6, none⟩)), (46, .pointer (some ⟨b10, o10 + 2 * 6 + 3, none⟩)), (47, .int .u64 ((iK (reckI op a b)).k)), (48, .int .i64 op), (49, .int .u64 a), (50, .int .u64 b), (51, .int .u64 (reckI op a b)), (52, .bool true), (53, .bool true), (54, .bool true), (55, .pointer (some ⟨b7, 2, none⟩)), (56, .pointer (some ⟨b7, 3, none⟩)), (57, .int .i64 ((rReck op a b).fin.a)), (58, .bool true), (59, .bool true)]) ⟨rfl, rfl, rfl, rfl, rfl, rfl, rfl, rfl, rfl, rfl, rfl, rfl, rfl, rfl, rfl, rfl, rfl, rfl, rfl, rfl, rfl, rfl, rfl, rfl, rfl, rfl, rfl, rfl, rfl, rfl, rfl, rfl, rfl, rfl, rfl, rfl, rfl, rfl, rfl, rfl, rfl, rfl, rfl, rfl, rfl, rfl, rfl, rfl, rfl, rfl, rfl, rfl, rfl, rfl, rfl, rfl, trivial⟩ ?_
        refine WL.assign rfl rfl rfl ?_
        refine WL.nil ?_
        refine N.seq ?_
        refine Fin.ret1 rfl (v := .bool true) rfl ?_
        exact ⟨rfl, hS.below⟩
  ·
    have hg2p : op < 2 := by simpa using hg2
    refine WL.skp rfl rfl ?_
    refine WL.skp rfl rfl ?_
    refine WL.pick (v := .bool true) rfl rfl rfl rfl rfl rfl ?_
    refine WL.nil ?_
    refine N.seq ?_
    refine W.condT rfl ?_
    refine W.seq ?_
    refine W.region ?_
    refine WL.move rfl rfl rfl ?_
    refine WL.assign rfl rfl rfl ?_
    refine WL.nil ?_
    refine N.seq ?_
    refine Fin.ret1 rfl (v := .bool true) rfl ?_
    exact ⟨rfl, hS.below⟩

end Go.Proofs.Ytokkiaokpfediaa
