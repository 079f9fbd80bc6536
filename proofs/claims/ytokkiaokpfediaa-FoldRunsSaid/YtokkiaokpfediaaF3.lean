/-
  Contracts of layer 12 (fold). No condition beyond those that each theorem states.
-/
import Derived.Test.YtokkiaokpfediaaF2
namespace Go.Proofs.Ytokkiaokpfediaa
open Go.RowKit

def iK (k : Int) : DInst := ⟨1, 0, 0, k, ⟨#[]⟩, []⟩
def bShown : DBlock := ⟨0, [iK 2, iK 3, ⟨4, 0, 1, 0, ⟨#[]⟩, []⟩], ⟨3, 0, 0, [], 0, []⟩⟩
def rShown : DBlock := ⟨0, [iK 2, iK 3, iK 6], ⟨3, 0, 0, [], 0, []⟩⟩
theorem shown_eq : foldBlock bShown = rShown := by rfl
def bReck (op a b : Int) : DBlock := ⟨0, [iK a, iK b, ⟨op, 0, 1, 0, ⟨#[]⟩, []⟩], ⟨3, 2, 0, [], 0, []⟩⟩
def rReck (op a b : Int) : DBlock := ⟨0, [iK a, iK b, iK (reckI op a b)], ⟨3, 2, 0, [], 0, []⟩⟩
theorem reck_eq (op a b : Int) (h : 2 ≤ op ∧ op ≤ 11) : foldBlock (bReck op a b) = rReck op a b := by
  have h1 : ¬ op = 1 := by omega
  simp [foldBlock, bReck, rReck, vals, vals0, valsF, stepK, katG, foldIns, foldTerm, iK, cInst, h1, h.1, h.2]
theorem intI {x : Int} (h : -1000 ≤ x ∧ x ≤ 1000) : inI x := by unfold inI; omega
theorem instLit {ro : Nat → Prop} {w : World} (op a b k : Int) (h1 : inI op) (h2 : inI a) (h3 : inI b) (h4 : inU k) : InstC ro w [.int .i64 op, .int .i64 a, .int .i64 b, .int .u64 k, .string ⟨#[]⟩, .slice none 0 0] ⟨op, a, b, k, ⟨#[]⟩, []⟩ :=
  ⟨_, rfl, intsNil, h1, h2, h3, h4, Nat.zero_le _⟩
theorem termLit {ro : Nat → Prop} {w : World} (k a to els : Int) (h1 : inI k) (h2 : inI a) (h3 : inI to) (h4 : inI els) : TermC ro w [.int .i64 k, .int .i64 a, .int .i64 to, .slice none 0 0, .int .i64 els, .slice none 0 0] ⟨k, a, to, [], els, []⟩ :=
  ⟨_, _, rfl, intsNil, intsNil, h1, h2, h3, h4⟩
/-- Cells that lie in one block, in chunks: a slice over it. -/
theorem slv_block {α : Type} {ro : Nat → Prop} {w : World} {b e sz : Nat} {c : Array Value} {Q : List Value → α → Prop} {cs : List Value} {xs : List α} (hb : w.heap[b]? = some (.cells c e (0, 0))) (hc : c.toList.take cs.length = cs) (h : Chunks sz Q cs xs) (hr : ro b) (hm : xs.length ≤ maxLen) :
    SlV ro w sz Q (.slice (some ⟨b, 0, none⟩) xs.length xs.length) xs := ⟨_, _, rfl, Nat.le_refl _, hm, (fun e => by cases e), elems_block hb hc h hr⟩
theorem chunks3 {α : Type} {sz : Nat} {Q : List Value → α → Prop} {a b c : List Value} {x y z : α} (ha : a.length = sz) (hb : b.length = sz) (hc : c.length = sz) (h1 : Q a x) (h2 : Q b y) (h3 : Q c z) : Chunks sz Q (a ++ b ++ c) [x, y, z] := by
  have := ((Chunks.nil (sz := sz) (Q := Q)).snoc ha h1).snoc hb h2
  simpa using this.snoc hc h3

theorem shown_ret {w : World} {ro : Nat → Prop} (hro : ∀ b, ro b → b < w.heap.size) : Ret Try.prog 8 #[] w fun v w' => v = .bool true ∧ Below w.heap.size w w' := by
 refine Ret.enter (P := Try.prog) (n := 29) (args := []) (σ := []) Try.func8 rfl rfl rfl rfl ?_
 have hS := St.start (ro := ro) hro
 refine W.seq (W.region (WL.assign rfl rfl rfl (WL.nil (N.seq (W.seq (W.region ?_))))))
 refine WL.build (ps := [(0, .int .i64 1), (3, .int .u64 2)]) (cs := [.int .i64 1, .int .i64 0, .int .i64 0, .int .u64 2, .string ⟨#[]⟩, .slice none 0 0]) rfl rfl rfl (by kernel_rfl) ?_
 refine WL.build (ps := [(0, .int .i64 1), (3, .int .u64 3)]) (cs := [.int .i64 1, .int .i64 0, .int .i64 0, .int .u64 3, .string ⟨#[]⟩, .slice none 0 0]) rfl rfl rfl (by kernel_rfl) ?_
 refine WL.build (ps := [(0, .int .i64 4), (1, .int .i64 0), (2, .int .i64 1)]) (cs := [.int .i64 4, .int .i64 0, .int .i64 1, .int .u64 0, .string ⟨#[]⟩, .slice none 0 0]) rfl rfl rfl (by kernel_rfl) ?_
 refine WL.buildSlice (ps := [(0, .agg #[.int .i64 1, .int .i64 0, .int .i64 0, .int .u64 2, .string ⟨#[]⟩, .slice none 0 0]), (1, .agg #[.int .i64 1, .int .i64 0, .int .i64 0, .int .u64 3, .string ⟨#[]⟩, .slice none 0 0]), (2, .agg #[.int .i64 4, .int .i64 0, .int .i64 1, .int .u64 0, .string ⟨#[]⟩, .slice none 0 0])]) (cs := [.int .i64 1, .int .i64 0, .int .i64 0, .int .u64 2, .string ⟨#[]⟩, .slice none 0 0, .int .i64 1, .int .i64 0, .int .i64 0, .int .u64 3, .string ⟨#[]⟩, .slice none 0 0, .int .i64 4, .int .i64 0, .int .i64 1, .int .u64 0, .string ⟨#[]⟩, .slice none 0 0]) Try.underlying24 (tyZero_spec zer_32) rfl rfl rfl rfl (by kernel_rfl) hS ?_
 clear hS; intro w2 b1 hb_b1 hS
 refine WL.build (ps := [(0, .int .i64 3)]) (cs := [.int .i64 3, .int .i64 0, .int .i64 0, .slice none 0 0, .int .i64 0, .slice none 0 0]) rfl rfl rfl (by kernel_rfl) ?_
 refine WL.build (ps := [(1, .slice (some ⟨b1, 0, none⟩) 3 3), (2, .agg #[.int .i64 3, .int .i64 0, .int .i64 0, .slice none 0 0, .int .i64 0, .slice none 0 0])]) (cs := [.int .i64 0, .slice (some ⟨b1, 0, none⟩) 3 3, .int .i64 3, .int .i64 0, .int .i64 0, .slice none 0 0, .int .i64 0, .slice none 0 0]) rfl rfl rfl (by kernel_rfl) ?_
 have hsv : InstsV (fun x => x < w2.heap.size) w2 (.slice (some ⟨b1, 0, none⟩) 3 3) (bShown).ins := slv_block (hS.own _ List.mem_cons_self) rfl (chunks3 (a := [.int .i64 1, .int .i64 0, .int .i64 0, .int .u64 2, .string ⟨#[]⟩, .slice none 0 0]) (b := [.int .i64 1, .int .i64 0, .int .i64 0, .int .u64 3, .string ⟨#[]⟩, .slice none 0 0]) (c := [.int .i64 4, .int .i64 0, .int .i64 1, .int .u64 0, .string ⟨#[]⟩, .slice none 0 0]) rfl rfl rfl (instLit _ _ _ _ (intI (by decide)) (intI (by decide)) (intI (by decide)) (by unfold inU; decide)) (instLit _ _ _ _ (intI (by decide)) (intI (by decide)) (intI (by decide)) (by unfold inU; decide)) (instLit _ _ _ _ (intI (by decide)) (intI (by decide)) (intI (by decide)) (by unfold inU; decide))) (hS.keys b1 (by simp [keysOf])).2.1 (by show (3 : Nat) ≤ maxLen; decide)
 have hbb : BlockC (fun x => x < w2.heap.size) w2 [.int .i64 0, .slice (some ⟨b1, 0, none⟩) 3 3, .int .i64 3, .int .i64 0, .int .i64 0, .slice none 0 0, .int .i64 0, .slice none 0 0] (bShown) := ⟨_, _, rfl, hsv, termLit _ _ _ _ (intI (by decide)) (intI (by decide)) (intI (by decide)) (intI (by decide)), (show inI 0 from intI (by decide))⟩
 refine WL.callF (vs := [.agg #[.int .i64 0, .slice (some ⟨b1, 0, none⟩) 3 3, .int .i64 3, .int .i64 0, .int .i64 0, .slice none 0 0, .int .i64 0, .slice none 0 0]]) Try.func9 (by kernel_rfl) rfl rfl rfl (block_ret (bShown) [.int .i64 0, .slice (some ⟨b1, 0, none⟩) 3 3, .int .i64 3, .int .i64 0, .int .i64 0, .slice none 0 0, .int .i64 0, .slice none 0 0] (ro := fun x => x < w2.heap.size) (fun _ h => h) hbb (by show (0 : Int) ≤ 1000; decide) (by show (3 : Nat) ≤ _; decide)) ?_
 rintro v w3 ⟨csr, rfl, hB, hbl⟩
 rw [shown_eq] at hB
 replace hS := hS.readAll hbl
 have hB2 := hB.keep (alikeAll hbl)
 obtain ⟨sir, tsxr, rfl, hinr, hfinr, hparr⟩ := id hB2
 obtain ⟨adir, capir, rfl, hinra, hinrb, hinrc, hinrd⟩ := id hinr
 have hinrm : ((rShown).ins).length ≤ 9223372036854775807 := by have h1 := hinra; have h2 := hinrb; unfold maxLen at h2; omega
 obtain ⟨spr, sqr, rfl, ht1r, ht2r, htkr, htar, httr, hter⟩ := id hfinr
 obtain ⟨adpr, cappr, rfl, htpra, htprb, htprc, htprd⟩ := id ht1r
 have htprm : ((rShown).fin.args).length ≤ 9223372036854775807 := by have h1 := htpra; have h2 := htprb; unfold maxLen at h2; omega
 obtain ⟨adqr, capqr, rfl, htqra, htqrb, htqrc, htqrd⟩ := id ht2r
 have htqrm : ((rShown).fin.elses).length ≤ 9223372036854775807 := by have h1 := htqra; have h2 := htqrb; unfold maxLen at h2; omega
 refine WL.alloc (tyZero_spec zer_29) rfl rfl hS ?_
 clear hS; intro w5 b4 hb_b4 hS
 refine WL.store (cs := [.int .i64 ((rShown).params), .slice adir (((rShown).ins).length) capir, .int .i64 ((rShown).fin.kind), .int .i64 ((rShown).fin.a), .int .i64 ((rShown).fin.to), .slice adpr (((rShown).fin.args).length) cappr, .int .i64 ((rShown).fin.els), .slice adqr (((rShown).fin.elses).length) capqr]) (c' := #[.int .i64 ((rShown).params), .slice adir (((rShown).ins).length) capir, .int .i64 ((rShown).fin.kind), .int .i64 ((rShown).fin.a), .int .i64 ((rShown).fin.to), .slice adpr (((rShown).fin.args).length) cappr, .int .i64 ((rShown).fin.els), .slice adqr (((rShown).fin.elses).length) capqr]) (L' := [(b4, .cells #[.int .i64 ((rShown).params), .slice adir (((rShown).ins).length) capir, .int .i64 ((rShown).fin.kind), .int .i64 ((rShown).fin.a), .int .i64 ((rShown).fin.to), .slice adpr (((rShown).fin.args).length) cappr, .int .i64 ((rShown).fin.els), .slice adqr (((rShown).fin.elses).length) capqr] 29 (0, 0))]) 0 rfl rfl rfl rfl siz_29 rfl rfl rfl rfl rfl hS ?_
 clear hS; intro w6 hS
 refine WL.nil (N.seq (W.seq (W.region ?_)))
 refine WL.fieldAddr fo_29_1 rfl rfl rfl ?_
 refine WL.load1 (v := .slice adir (((rShown).ins).length) capir) one_24 rfl rfl rfl (hS.cell 0 rfl rfl) ?_
 refine WL.lenSlice Try.underlying24 rfl rfl rfl ?_
 refine WL.bin rfl rfl rfl rfl rfl ?_
 refine WL.set 12 (v' := .bool true) rfl (rfl) ?_
 refine WL.move rfl rfl rfl ?_
 refine WL.fieldAddr fo_29_1 rfl rfl rfl ?_
 refine WL.load1 (v := .slice adir (((rShown).ins).length) capir) one_24 rfl rfl rfl (hS.cell 0 rfl rfl) ?_
 have hj7 : 2 < (rShown).ins.length := by decide
 obtain ⟨x7, hx7⟩ : ∃ zz, (rShown).ins[2]? = some zz := ⟨_, List.getElem?_eq_getElem hj7⟩
 obtain ⟨b7, o7, cs7, hE7, hr7, hl7, hc7, hQ7⟩ := hinrd 2 _ hx7
 obtain rfl : (iK 6) = x7 := Option.some.inj hx7
 have hQk7 := hQ7
 obtain ⟨sv7, rfl, hs7, ho7, ha7, hb7, hk7, hn7⟩ := hQ7
 obtain ⟨ad7, cap7, rfl, hs7a, hs7b, hs7c, hs7d⟩ := id hs7
 have hs7m : ((iK 6).args).length ≤ 9223372036854775807 := by have h1 := hs7a; have h2 := hs7b; unfold maxLen at h2; omega
 refine WL.indexAddrE (j := 2) Try.underlying24 isz_32 rfl rfl rfl rfl hj7 hE7 ?_
 refine WL.fieldAddr fo_32_0 rfl rfl rfl ?_
 refine WL.load1 (v := .int .i64 ((iK 6).op)) one_3 rfl rfl rfl (hS.roCells hr7 hc7 0 _ rfl) ?_
 refine WL.bin rfl rfl rfl rfl rfl ?_
 refine WL.set 19 (v' := .bool true) rfl (rfl) ?_
 refine WL.pick (v := .bool true) rfl rfl rfl rfl rfl rfl (WL.move rfl rfl rfl ?_)
 refine WL.fieldAddr fo_29_1 rfl rfl rfl ?_
 refine WL.load1 (v := .slice adir (((rShown).ins).length) capir) one_24 rfl rfl rfl (hS.cell 0 rfl rfl) ?_
 refine WL.indexAddrE (j := 2) Try.underlying24 isz_32 rfl rfl rfl rfl hj7 hE7 ?_
 refine WL.fieldAddr fo_32_3 rfl rfl rfl ?_
 refine WL.load1 (v := .int .u64 ((iK 6).k)) one_22 rfl rfl rfl (hS.roCells hr7 hc7 3 _ rfl) ?_
 refine WL.bin rfl rfl rfl rfl rfl ?_
 refine WL.set 27 (v' := .bool true) rfl (rfl) ?_
 refine WL.pick (v := .bool true) rfl rfl rfl rfl rfl rfl (WL.assign rfl rfl rfl (WL.nil (N.seq ?_)))
 refine Fin.ret1 rfl (v := .bool true) rfl ?_
 exact ⟨rfl, hS.below⟩

end Go.Proofs.Ytokkiaokpfediaa
