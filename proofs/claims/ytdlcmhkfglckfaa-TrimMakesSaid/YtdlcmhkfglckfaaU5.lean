/-
  Contracts of layer 13 (trim). No condition beyond those that each theorem states.
-/
import Derived.Test.YtdlcmhkfglckfaaU4
namespace Go.Proofs.Ytdlcmhkfglckfaa
open Go.RowKit

theorem ok13_of5 {f : DFunc} {b : DBlock} (h : func5 f = true) (hb : b ∈ f.blocks) : Ok13 b := by
  have hb5 := (func5_all h).2 b hb
  obtain ⟨p0, p1, hn⟩ := block5_all hb5
  obtain ⟨hall, hterm⟩ := block5_more hb5
  obtain ⟨t1, t2, t3, t4, _, _, t7, _, _⟩ := term5_all hterm h
  have hN : ((b.params.toNat + b.ins.length : Nat) : Int) = b.params + b.ins.length := by omega
  have hx : ∀ x ∈ b.ins, ∃ i : Nat, i < b.ins.length ∧ inst5 x (b.params + i) = true := fun x hx => by
    obtain ⟨i, hi⟩ := List.mem_iff_getElem?.1 hx
    exact ⟨i, (List.getElem?_eq_some_iff.1 hi).1, allFrom_at b.ins b.params i x hall hi⟩
  refine ⟨p0, by omega, by omega, by omega, by omega, fun x hx' => ?_, fun v hv => ?_, fun x hx' v hv => ?_⟩
  · obtain ⟨i, _, h5⟩ := hx x hx'; have := (inst5_all h5).1; omega
  · rw [hN]
    unfold ends13 at hv
    simp only [List.mem_append] at hv
    rcases hv with (hv | hv) | hv
    · exact t3 v hv
    · exact t4 v hv
    · split at hv
      · cases hv
      · rename_i hk
        simp only [List.mem_cons, List.not_mem_nil, or_false] at hv
        rw [hv]; exact t7 hk
  · obtain ⟨i, hi, h5⟩ := hx x hx'
    have := (inst5_all h5).2.1 v hv
    rw [hN]; omega
def iK (k : Int) : DInst := ⟨1, 0, 0, k, ⟨#[]⟩, []⟩
def bSh13 : DBlock := ⟨0, [iK 1, iK 2], ⟨3, 1, 0, [], 0, []⟩⟩
def rSh13 : DBlock := ⟨0, [iK 2], ⟨3, 0, 0, [], 0, []⟩⟩
theorem sh13_eq : block13 bSh13 = rSh13 := by rfl
theorem ok13_sh : Ok13 bSh13 := ⟨by decide, by decide, by decide, by decide, by decide, by decide, by decide, by decide⟩
theorem intI {x : Int} (h : -1000 ≤ x ∧ x ≤ 1000) : inI x := by unfold inI; omega
theorem instLit {ro : Nat → Prop} {w : World} (op a b k : Int) (h1 : inI op) (h2 : inI a) (h3 : inI b) (h4 : inU k) : InstC ro w [.int .i64 op, .int .i64 a, .int .i64 b, .int .u64 k, .string ⟨#[]⟩, .slice none 0 0] ⟨op, a, b, k, ⟨#[]⟩, []⟩ :=
  ⟨_, rfl, slv_nil, h1, h2, h3, h4, Nat.zero_le _⟩
theorem termLit {ro : Nat → Prop} {w : World} (k a to els : Int) (h1 : inI k) (h2 : inI a) (h3 : inI to) (h4 : inI els) : TermC ro w [.int .i64 k, .int .i64 a, .int .i64 to, .slice none 0 0, .int .i64 els, .slice none 0 0] ⟨k, a, to, [], els, []⟩ :=
  ⟨_, _, rfl, slv_nil, slv_nil, h1, h2, h3, h4⟩

theorem shown13_ret {w : World} {ro : Nat → Prop} (hro : ∀ b, ro b → b < w.heap.size) : Ret Try.prog 9 #[] w fun v w' => v = .bool true ∧ Below w.heap.size w w' := by
 refine Ret.enter (P := Try.prog) (n := 26) (args := []) (σ := []) Try.func9 rfl rfl rfl rfl ?_
 have hS := St.start (ro := ro) hro
 refine W.seq (W.region (WL.assign rfl rfl rfl (WL.nil (N.seq (W.seq (W.region ?_))))))
 refine WL.build (ps := [(0, .int .i64 1), (3, .int .u64 1)]) (cs := [.int .i64 1, .int .i64 0, .int .i64 0, .int .u64 1, .string ⟨#[]⟩, .slice none 0 0]) rfl rfl rfl (by kernel_rfl) ?_
 refine WL.build (ps := [(0, .int .i64 1), (3, .int .u64 2)]) (cs := [.int .i64 1, .int .i64 0, .int .i64 0, .int .u64 2, .string ⟨#[]⟩, .slice none 0 0]) rfl rfl rfl (by kernel_rfl) ?_
 refine WL.buildSlice (ps := [(0, .agg #[.int .i64 1, .int .i64 0, .int .i64 0, .int .u64 1, .string ⟨#[]⟩, .slice none 0 0]), (1, .agg #[.int .i64 1, .int .i64 0, .int .i64 0, .int .u64 2, .string ⟨#[]⟩, .slice none 0 0])]) (cs := [.int .i64 1, .int .i64 0, .int .i64 0, .int .u64 1, .string ⟨#[]⟩, .slice none 0 0, .int .i64 1, .int .i64 0, .int .i64 0, .int .u64 2, .string ⟨#[]⟩, .slice none 0 0]) Try.underlying27 (tyZero_spec zer_36) rfl rfl rfl rfl (by kernel_rfl) hS ?_
 clear hS; intro w2 b1 hb_b1 hS
 refine WL.build (ps := [(0, .int .i64 3), (1, .int .i64 1)]) (cs := [.int .i64 3, .int .i64 1, .int .i64 0, .slice none 0 0, .int .i64 0, .slice none 0 0]) rfl rfl rfl (by kernel_rfl) ?_
 refine WL.build (ps := [(1, .slice (some ⟨b1, 0, none⟩) 2 2), (2, .agg #[.int .i64 3, .int .i64 1, .int .i64 0, .slice none 0 0, .int .i64 0, .slice none 0 0])]) (cs := [.int .i64 0, .slice (some ⟨b1, 0, none⟩) 2 2, .int .i64 3, .int .i64 1, .int .i64 0, .slice none 0 0, .int .i64 0, .slice none 0 0]) rfl rfl rfl (by kernel_rfl) ?_
 have hsv : InstsV (fun x => x < w2.heap.size) w2 (.slice (some ⟨b1, 0, none⟩) 2 2) bSh13.ins := slv_blk (hS.own _ List.mem_cons_self) rfl ((Chunks.nil.snoc (c := [.int .i64 1, .int .i64 0, .int .i64 0, .int .u64 1, .string ⟨#[]⟩, .slice none 0 0]) rfl (instLit 1 0 0 1 (intI (by decide)) (intI (by decide)) (intI (by decide)) (by unfold inU; decide))).snoc (c := [.int .i64 1, .int .i64 0, .int .i64 0, .int .u64 2, .string ⟨#[]⟩, .slice none 0 0]) rfl (instLit 1 0 0 2 (intI (by decide)) (intI (by decide)) (intI (by decide)) (by unfold inU; decide))) (hS.keys b1 (by simp [keysOf])).2.1 rfl (by decide)
 have hbb : BlockC (fun x => x < w2.heap.size) w2 [.int .i64 0, .slice (some ⟨b1, 0, none⟩) 2 2, .int .i64 3, .int .i64 1, .int .i64 0, .slice none 0 0, .int .i64 0, .slice none 0 0] bSh13 := ⟨_, _, rfl, hsv, termLit _ _ _ _ (intI (by decide)) (intI (by decide)) (intI (by decide)) (intI (by decide)), (show inI 0 from intI (by decide))⟩
 refine WL.callF (vs := [.agg #[.int .i64 0, .slice (some ⟨b1, 0, none⟩) 2 2, .int .i64 3, .int .i64 1, .int .i64 0, .slice none 0 0, .int .i64 0, .slice none 0 0]]) Try.func11 (by kernel_rfl) rfl rfl rfl (block13_ret bSh13 _ (ro := fun x => x < w2.heap.size) (fun _ h => h) hbb ok13_sh) ?_
 rintro v w3 ⟨csr, rfl, hB, hbl⟩
 rw [sh13_eq] at hB
 replace hS := hS.readAll hbl
 have hB2 := hB.keep (alikeAll hbl)
 obtain ⟨sir, tsxr, rfl, hinr, hfinr, hparr⟩ := id hB2
 obtain ⟨adir, capir, rfl, hinra, hinrb, hinrc, hinrd⟩ := id hinr
 have hinrm : rSh13.ins.length ≤ 9223372036854775807 := by have h1 := hinra; have h2 := hinrb; unfold maxLen at h2; omega
 obtain ⟨spr, sqr, rfl, ht1r, ht2r, htkr, htar, httr, hter⟩ := id hfinr
 obtain ⟨adpr, cappr, rfl, htpra, htprb, htprc, htprd⟩ := id ht1r
 have htprm : rSh13.fin.args.length ≤ 9223372036854775807 := by have h1 := htpra; have h2 := htprb; unfold maxLen at h2; omega
 obtain ⟨adqr, capqr, rfl, htqra, htqrb, htqrc, htqrd⟩ := id ht2r
 have htqrm : rSh13.fin.elses.length ≤ 9223372036854775807 := by have h1 := htqra; have h2 := htqrb; unfold maxLen at h2; omega
 refine WL.alloc (tyZero_spec zer_32) rfl rfl hS ?_
 clear hS; intro w5 b4 hb_b4 hS
 refine WL.store (L' := [(b4, .cells #[.int .i64 rSh13.params, .slice adir rSh13.ins.length capir, .int .i64 rSh13.fin.kind, .int .i64 rSh13.fin.a, .int .i64 rSh13.fin.to, .slice adpr rSh13.fin.args.length cappr, .int .i64 rSh13.fin.els, .slice adqr rSh13.fin.elses.length capqr] 32 (0, 0))]) 0 rfl rfl rfl rfl siz_32 rfl rfl rfl rfl rfl hS ?_
 clear hS; intro w6 hS
 refine WL.nil (N.seq (W.seq (W.region (WL.fieldAddr fo_32_1 rfl rfl rfl (WL.load1 (v := .slice adir rSh13.ins.length capir) one_27 rfl rfl rfl (hS.cell 0 rfl rfl) (WL.lenSlice Try.underlying27 rfl rfl rfl (WL.bin rfl rfl rfl rfl rfl ?_)))))))
 refine WL.set 11 (v' := .bool true) rfl (rfl) ?_
 refine WL.move rfl rfl rfl (WL.fieldAddr fo_32_1 rfl rfl rfl (WL.load1 (v := .slice adir rSh13.ins.length capir) one_27 rfl rfl rfl (hS.cell 0 rfl rfl) ?_))
 have hj7 : 0 < rSh13.ins.length := by decide
 obtain ⟨x7, hx7⟩ : ∃ zz, rSh13.ins[0]? = some zz := ⟨_, List.getElem?_eq_getElem hj7⟩
 obtain ⟨b7, o7, cs7, hE7, hr7, hl7, hc7, hQ7⟩ := hinrd 0 _ hx7
 obtain rfl : (iK 2) = x7 := Option.some.inj hx7
 have hQk7 := hQ7
 obtain ⟨sv7, rfl, hs7, ho7, ha7, hb7, hk7, hn7⟩ := hQ7
 obtain ⟨ad7, cap7, rfl, hs7a, hs7b, hs7c, hs7d⟩ := id hs7
 have hs7m : ((iK 2).args).length ≤ 9223372036854775807 := by have h1 := hs7a; have h2 := hs7b; unfold maxLen at h2; omega
 refine WL.indexAddrE (j := 0) Try.underlying27 isz_36 rfl rfl rfl rfl hj7 hE7 (WL.fieldAddr fo_36_3 rfl rfl rfl (WL.load1 (v := .int .u64 ((iK 2).k)) one_34 rfl rfl rfl (hS.roCells hr7 hc7 3 _ rfl) (WL.bin rfl rfl rfl rfl rfl ?_)))
 refine WL.set 18 (v' := .bool true) rfl (rfl) ?_
 refine WL.pick (v := .bool true) rfl rfl rfl rfl rfl rfl (WL.move rfl rfl rfl (WL.fieldAddr fo_32_2 rfl rfl rfl (WL.fieldAddr fo_30_1 rfl rfl rfl (WL.load1 (v := .int .i64 rSh13.fin.a) one_3 rfl rfl rfl (hS.cell 0 rfl rfl) (WL.bin rfl rfl rfl rfl rfl ?_)))))
 refine WL.set 24 (v' := .bool true) rfl (rfl) ?_
 refine WL.pick (v := .bool true) rfl rfl rfl rfl rfl rfl (WL.assign rfl rfl rfl (WL.nil (N.seq ?_)))
 refine Fin.ret1 rfl (v := .bool true) rfl ?_
 exact ⟨rfl, hS.below⟩

end Go.Proofs.Ytdlcmhkfglckfaa
