/-
  Contracts of layer 13 (trim). No condition beyond those that each theorem states.
-/
import Derived.Test.YtdlcmhkfglckfaaL8
namespace Go.Proofs.Ytdlcmhkfglckfaa
open Go.RowKit
theorem siz_27 : tySize Try.prog 27 1 = true := by kernel_rfl
theorem chunks_bools : ∀ us : List Bool, Chunks 1 BoolC (us.map Value.bool) us := fun us => by
  induction us using snoc_ind with
  | h0 => exact Chunks.nil
  | h1 l x ih => rw [List.map_append]; exact ih.snoc rfl rfl

theorem rinstC {ro : Nat → Prop} {w : World} {cx : List Value} {us : List Bool} {x : DInst} {v : Value} (h : InstC ro w cx x) (hv : SlV ro w 1 IntC v (x.args.map (num13 us))) (hl : us.length ≤ 1000000) :
    InstC ro w [.int .i64 x.op, .int .i64 (rinst13 us x).a, .int .i64 (rinst13 us x).b, .int .u64 x.k, .string x.name, v] (rinst13 us x) := by
  obtain ⟨_, _, _, h1, h2, h3, h4, h5⟩ := h
  refine ⟨_, rfl, hv, h1, ?_, ?_, h4, h5⟩
  · unfold rinst13; dsimp only; split
    · have := num13_le us x.a; unfold inI; omega
    · exact h2
  · unfold rinst13; dsimp only; split
    · have := num13_le us x.b; unfold inI; omega
    · exact h3

set_option maxRecDepth 10000 in
set_option maxHeartbeats 4000000 in
theorem rblock13_ret (f : DFunc) (b : DBlock) (cs : List Value) {w : World} {ro : Nat → Prop} (hro : ∀ b, ro b → b < w.heap.size) (hx : BlockC ro w cs b) (h5 : func5 f = true) (hb : b ∈ f.blocks) : Ret Try.prog 20 #[.agg cs.toArray] w fun v w' => ∃ cs, v = .agg cs.toArray ∧ BlockC (roFrom ro w w') w' cs (block13 b) ∧ Below w.heap.size w w' := by
 obtain ⟨si, tsx, rfl, hin, hfin, hpar⟩ := id hx
 obtain ⟨adi, capi, rfl, hina, hinb, hinc, hind⟩ := id hin
 have hinm : b.ins.length ≤ 9223372036854775807 := by have h1 := hina; have h2 := hinb; unfold maxLen at h2; omega
 obtain ⟨sp, sq, rfl, ht1, ht2, htk, hta, htt, hte⟩ := id hfin
 obtain ⟨adp, capp, rfl, htpa, htpb, htpc, htpd⟩ := id ht1
 have htpm : b.fin.args.length ≤ 9223372036854775807 := by have h1 := htpa; have h2 := htpb; unfold maxLen at h2; omega
 obtain ⟨adq, capq, rfl, htqa, htqb, htqc, htqd⟩ := id ht2
 have htqm : b.fin.elses.length ≤ 9223372036854775807 := by have h1 := htqa; have h2 := htqb; unfold maxLen at h2; omega
 refine Ret.enter (P := Try.prog) (n := 148) (args := [.agg #[.int .i64 b.params, .slice adi b.ins.length capi, .int .i64 b.fin.kind, .int .i64 b.fin.a, .int .i64 b.fin.to, .slice adp b.fin.args.length capp, .int .i64 b.fin.els, .slice adq b.fin.elses.length capq]]) (σ := [(0, .agg #[.int .i64 b.params, .slice adi b.ins.length capi, .int .i64 b.fin.kind, .int .i64 b.fin.a, .int .i64 b.fin.to, .slice adp b.fin.args.length capp, .int .i64 b.fin.els, .slice adq b.fin.elses.length capq])]) Try.func20 rfl rfl rfl rfl ?_
 have hS := St.start (ro := ro) hro
 have hok := ok13_of5 h5 hb; have hokn := hok.n; have hokp := hok.p0; have hokq := hok.p1
 have hsub : ∀ b, ro b → ro b ∨ w.heap.size ≤ b := fun _ h => .inl h
 refine W.seq (W.region ?_)
 refine WL.box (v := .agg #[.int .i64 b.params, .slice adi b.ins.length capi, .int .i64 b.fin.kind, .int .i64 b.fin.a, .int .i64 b.fin.to, .slice adp b.fin.args.length capp, .int .i64 b.fin.els, .slice adq b.fin.elses.length capq]) (cs := [.int .i64 b.params, .slice adi b.ins.length capi, .int .i64 b.fin.kind, .int .i64 b.fin.a, .int .i64 b.fin.to, .slice adp b.fin.args.length capp, .int .i64 b.fin.els, .slice adq b.fin.elses.length capq]) rfl rfl rfl rfl hS ?_
 clear hS; intro w2 b1 hb_b1 hS
 refine WL.alloc (tyZero_spec zer_32) rfl rfl hS ?_
 clear hS; intro w4 b3 hb_b3 hS
 refine WL.nil (N.seq (W.seq (W.region (WL.loadN (cs := [.int .i64 b.params, .slice adi b.ins.length capi, .int .i64 b.fin.kind, .int .i64 b.fin.a, .int .i64 b.fin.to, .slice adp b.fin.args.length capp, .int .i64 b.fin.els, .slice adq b.fin.elses.length capq]) agg_32 rfl rfl rfl rfl (hS.cells 1 (m := 8) rfl rfl) ?_))))
 refine WL.callF (vs := [.agg #[.int .i64 b.params, .slice adi b.ins.length capi, .int .i64 b.fin.kind, .int .i64 b.fin.a, .int .i64 b.fin.to, .slice adp b.fin.args.length capp, .int .i64 b.fin.els, .slice adq b.fin.elses.length capq]]) Try.func22 (by kernel_rfl) rfl rfl rfl (rused13_ret b _ (ro := ro) (fun b hb => (hS.snap b hb).1) (hx.keep hS.alike) hok) ?_
 rintro v w5 ⟨g13, rfl, hge, hgo13, hbl⟩
 replace hS := hS.callOwn hbl hge hgo13
 refine WL.assign rfl rfl rfl (WL.nil (N.seq (W.seq (W.seq (W.region (WL.assign rfl rfl rfl (WL.nil (N.seq (W.block ?_)))))))))
 refine W.loop (α := Nat × List Bool) (fun ⟨i, us⟩ => [(1, .pointer (some ⟨b1, 0, none⟩)), (2, .pointer (some ⟨b3, 0, none⟩)), (3, .slice (some ⟨g13, 0, none⟩) (b.params.toNat + b.ins.length) (b.params.toNat + b.ins.length)), (4, .int .i64 (i : Int))]) (fun ⟨i, us⟩ u => St w w u ro [(g13, arrO Value.bool 4 us), (b3, .cells #[.int .i64 0, .slice none 0 0, .int .i64 0, .int .i64 0, .int .i64 0, .slice none 0 0, .int .i64 0, .slice none 0 0] 32 (0, 0)), (b1, .cells #[.int .i64 b.params, .slice adi b.ins.length capi, .int .i64 b.fin.kind, .int .i64 b.fin.a, .int .i64 b.fin.to, .slice adp b.fin.args.length capp, .int .i64 b.fin.els, .slice adq b.fin.elses.length capq] 32 (0, 0))] [] ∧ i ≤ b.params.toNat ∧ PrmTo b us i) (fun ⟨i, us⟩ => b.params.toNat - i) (0, (used13 b)) ⟨rfl, rfl, rfl, rfl, trivial⟩ ⟨hS, Nat.zero_le _, prm_zero b⟩ ?_
 clear hS
 rintro ⟨i, us⟩ w6 ⟨hS, hi, hus⟩
 refine W.seq (W.seq (W.region (WL.move rfl rfl rfl (WL.fieldAddr fo_32_0 rfl rfl rfl (WL.load1 (v := .int .i64 b.params) one_3 rfl rfl rfl (hS.cell 2 rfl rfl) (WL.bin rfl rfl rfl rfl rfl (WL.nil (N.seq ?_))))))))
 refine W.cond rfl (fun hc7 => ?_) (fun hc7 => ?_)
 ·
  have hc7p : (i : Int) < b.params := by simpa using hc7
  refine W.skip (N.seq (W.seq (W.block (W.region (WL.move rfl rfl rfl (WL.move rfl rfl rfl ?_))))))
  refine WL.indexAddr (j := i) Try.underlying40 isz_4 rfl rfl rfl rfl (by omega) ?_
  refine WL.storeArr (v := true) 0 rfl rfl rfl rfl siz_4 rfl rfl (by have := hus.1; omega) hS ?_
  clear hS; intro w8 hS
  refine WL.nil (N.blk (N.seq (W.region (WL.move rfl rfl rfl ?_))))
  refine WL.add (c := (i : Int) + 1) rfl rfl rfl rfl (rfl) (by omega) ?_
  refine WL.assign rfl rfl rfl (WL.nil ?_)
  exact N.loop (i + 1, us.set i true) ⟨rfl, rfl, rfl, rfl, trivial⟩ ⟨hS, by omega, prm_step hus (by omega)⟩ (by first | omega | (simp only; omega))
 have hc7p : ¬ ((i : Int) < b.params) := by simpa using hc7
 refine W.exit (X.seq (X.loop (X.blk (N.seq (W.seq (W.seq (W.region (WL.assign rfl rfl rfl (WL.nil ?_)))))))))
 refine N.seq (W.block ?_)
 refine W.loop (α := Nat × List Bool) (fun ⟨q, us1⟩ => [(1, .pointer (some ⟨b1, 0, none⟩)), (2, .pointer (some ⟨b3, 0, none⟩)), (3, .slice (some ⟨g13, 0, none⟩) (b.params.toNat + b.ins.length) (b.params.toNat + b.ins.length)), (5, .int .i64 (q : Int))]) (fun ⟨q, us1⟩ u => St w w u ro [(g13, arrO Value.bool 4 us1), (b3, .cells #[.int .i64 0, .slice none 0 0, .int .i64 0, .int .i64 0, .int .i64 0, .slice none 0 0, .int .i64 0, .slice none 0 0] 32 (0, 0)), (b1, .cells #[.int .i64 b.params, .slice adi b.ins.length capi, .int .i64 b.fin.kind, .int .i64 b.fin.a, .int .i64 b.fin.to, .slice adp b.fin.args.length capp, .int .i64 b.fin.els, .slice adq b.fin.elses.length capq] 32 (0, 0))] [] ∧ q ≤ b.ins.length ∧ DoTo b us1 q) (fun ⟨q, us1⟩ => b.ins.length - q) (0, us) ⟨rfl, rfl, rfl, rfl, trivial⟩ ⟨hS, Nat.zero_le _, do_zero hus (by omega)⟩ ?_
 clear hS
 rintro ⟨q, us1⟩ w9 ⟨hS, hq, hdo⟩
 refine W.seq (W.seq (W.region (WL.move rfl rfl rfl (WL.fieldAddr fo_32_1 rfl rfl rfl (WL.load1 (v := .slice adi b.ins.length capi) one_27 rfl rfl rfl (hS.cell 2 rfl rfl) (WL.lenSlice Try.underlying27 rfl rfl rfl (WL.bin rfl rfl rfl rfl rfl (WL.nil (N.seq ?_)))))))))
 refine W.cond rfl (fun hc10 => ?_) (fun hc10 => ?_)
 ·
  have hc10p : (q : Int) < (b.ins.length : Int) := by simpa using hc10
  refine W.skip (N.seq (W.seq (W.block (W.seq (W.region (WL.fieldAddr fo_32_1 rfl rfl rfl (WL.load1 (v := .slice adi b.ins.length capi) one_27 rfl rfl rfl (hS.cell 2 rfl rfl) (WL.move rfl rfl rfl ?_))))))))
  have hj11 : q < b.ins.length := by omega
  obtain ⟨x11, hx11⟩ : ∃ zz, b.ins[q]? = some zz := ⟨_, List.getElem?_eq_getElem hj11⟩
  obtain ⟨b11, o11, cs11, hE11, hr11, hl11, hc11, hQ11⟩ := hind q _ hx11
  have hQk11 := hQ11
  obtain ⟨sv11, rfl, hs11, ho11, ha11, hb11, hk11, hn11⟩ := hQ11
  obtain ⟨ad11, cap11, rfl, hs11a, hs11b, hs11c, hs11d⟩ := id hs11
  have hs11m : x11.args.length ≤ 9223372036854775807 := by have h1 := hs11a; have h2 := hs11b; unfold maxLen at h2; omega
  refine WL.indexAddrE (j := q) Try.underlying27 isz_36 rfl rfl rfl rfl hj11 hE11 (WL.loadN (cs := [.int .i64 x11.op, .int .i64 x11.a, .int .i64 x11.b, .int .u64 x11.k, .string x11.name, .slice ad11 x11.args.length cap11]) agg_36 rfl rfl rfl rfl (hS.roCells hr11 hc11) ?_)
  refine WL.callF (vs := [.agg #[.int .i64 x11.op, .int .i64 x11.a, .int .i64 x11.b, .int .u64 x11.k, .string x11.name, .slice ad11 x11.args.length cap11]]) Try.func12 (by kernel_rfl) rfl rfl rfl (rdoes_ret x11 _ (ro := ro) (fun b hb => (hS.snap b hb).1) (hQk11.keep hS.alike)) ?_
  rintro v w12 ⟨rfl, hbl⟩
  replace hS := hS.grow hbl
  refine WL.assign rfl rfl rfl (WL.nil (N.seq ?_))
  obtain ⟨x13, hx13⟩ : ∃ zz, us1[(b.params.toNat + q : Nat)]? = some zz := ⟨_, List.getElem?_eq_getElem (by have := hdo.1; omega)⟩
  rcases (Bool.eq_false_or_eq_true x13).symm with hg14 | hg14
  ·
   refine W.drawL (by kernel_rfl) 16 ((.q (.slice (some ⟨g13, 0, none⟩) (b.params.toNat + b.ins.length) (b.params.toNat + b.ins.length))) :: (.q (.pointer (some ⟨b1, 0, none⟩))) :: (.q (.int .i64 b.params)) :: (.q (.int .i64 (q : Int))) :: (.q (.int .i64 ((b.params.toNat + q : Nat) : Int))) :: (.q (.slice (some ⟨g13, 0, none⟩) (b.params.toNat + b.ins.length) (b.params.toNat + b.ins.length))) :: (.q (.pointer (some ⟨b1, 0, none⟩))) :: (.q (.int .i64 b.params)) :: (.q (.int .i64 (q : Int))) :: (.q (.int .i64 ((b.params.toNat + q : Nat) : Int))) :: (.q (.pointer (some ⟨g13, 0 + (b.params.toNat + q : Nat) * 1, none⟩))) :: (.q (.bool false)) :: (.q (.bool false)) :: (.q (.bool (does13 x11))) :: (.q (.bool (does13 x11))) :: (.q (.pointer (some ⟨g13, 0 + (b.params.toNat + q : Nat) * 1, none⟩))) :: []) (by kernel_rfl) (by kernel_rfl) [(1, .pointer (some ⟨b1, 0, none⟩)), (2, .pointer (some ⟨b3, 0, none⟩)), (3, .slice (some ⟨g13, 0, none⟩) (b.params.toNat + b.ins.length) (b.params.toNat + b.ins.length)), (5, .int .i64 (q : Int)), (6, .bool (does13 x11))] ⟨rfl, rfl, rfl, rfl, rfl, trivial⟩ (by kernel_rfl) hS ?_ ?_
   ·
    refine And.intro (fun β w hS => ?_) ?_
    ·
     refine WL.sub (σ' := [(3, .slice (some ⟨g13, 0, none⟩) (b.params.toNat + b.ins.length) (b.params.toNat + b.ins.length))]) ⟨rfl, trivial⟩ ?_
     refine WL.move rfl rfl rfl ?_
     exact WL.nil (N.cut () ⟨rfl, trivial⟩ (Below.refl _ _))
    refine And.intro (fun β w hS => ?_) ?_
    ·
     refine WL.sub (σ' := [(1, .pointer (some ⟨b1, 0, none⟩))]) ⟨rfl, trivial⟩ ?_
     refine WL.fieldAddr fo_32_0 rfl rfl rfl ?_
     exact WL.nil (N.cut () ⟨rfl, trivial⟩ (Below.refl _ _))
    refine And.intro (fun β w hS => ?_) ?_
    ·
     refine WL.sub (σ' := [(35, .pointer (some ⟨b1, 0, none⟩))]) ⟨rfl, trivial⟩ ?_
     refine WL.load1 (v := .int .i64 b.params) one_3 rfl rfl rfl (hS.cell 2 rfl rfl) ?_
     exact WL.nil (N.cut () ⟨rfl, trivial⟩ (Below.refl _ _))
    refine And.intro (fun β w hS => ?_) ?_
    ·
     refine WL.sub (σ' := [(5, .int .i64 (q : Int))]) ⟨rfl, trivial⟩ ?_
     refine WL.move rfl rfl rfl ?_
     exact WL.nil (N.cut () ⟨rfl, trivial⟩ (Below.refl _ _))
    refine And.intro (fun β w hS => ?_) ?_
    ·
     refine WL.sub (σ' := [(36, .int .i64 b.params), (37, .int .i64 (q : Int))]) ⟨rfl, rfl, trivial⟩ ?_
     refine WL.add (c := ((b.params.toNat + q : Nat) : Int)) rfl rfl rfl rfl (by omega) (by omega) ?_
     exact WL.nil (N.cut () ⟨rfl, trivial⟩ (Below.refl _ _))
    refine And.intro (fun β w hS => ?_) ?_
    ·
     refine WL.sub (σ' := [(3, .slice (some ⟨g13, 0, none⟩) (b.params.toNat + b.ins.length) (b.params.toNat + b.ins.length))]) ⟨rfl, trivial⟩ ?_
     refine WL.move rfl rfl rfl ?_
     exact WL.nil (N.cut () ⟨rfl, trivial⟩ (Below.refl _ _))
    refine And.intro (fun β w hS => ?_) ?_
    ·
     refine WL.sub (σ' := [(1, .pointer (some ⟨b1, 0, none⟩))]) ⟨rfl, trivial⟩ ?_
     refine WL.fieldAddr fo_32_0 rfl rfl rfl ?_
     exact WL.nil (N.cut () ⟨rfl, trivial⟩ (Below.refl _ _))
    refine And.intro (fun β w hS => ?_) ?_
    ·
     refine WL.sub (σ' := [(40, .pointer (some ⟨b1, 0, none⟩))]) ⟨rfl, trivial⟩ ?_
     refine WL.load1 (v := .int .i64 b.params) one_3 rfl rfl rfl (hS.cell 2 rfl rfl) ?_
     exact WL.nil (N.cut () ⟨rfl, trivial⟩ (Below.refl _ _))
    refine And.intro (fun β w hS => ?_) ?_
    ·
     refine WL.sub (σ' := [(5, .int .i64 (q : Int))]) ⟨rfl, trivial⟩ ?_
     refine WL.move rfl rfl rfl ?_
     exact WL.nil (N.cut () ⟨rfl, trivial⟩ (Below.refl _ _))
    refine And.intro (fun β w hS => ?_) ?_
    ·
     refine WL.sub (σ' := [(41, .int .i64 b.params), (42, .int .i64 (q : Int))]) ⟨rfl, rfl, trivial⟩ ?_
     refine WL.add (c := ((b.params.toNat + q : Nat) : Int)) rfl rfl rfl rfl (by omega) (by omega) ?_
     exact WL.nil (N.cut () ⟨rfl, trivial⟩ (Below.refl _ _))
    refine And.intro (fun β w hS => ?_) ?_
    ·
     refine WL.sub (σ' := [(39, .slice (some ⟨g13, 0, none⟩) (b.params.toNat + b.ins.length) (b.params.toNat + b.ins.length)), (43, .int .i64 ((b.params.toNat + q : Nat) : Int))]) ⟨rfl, rfl, trivial⟩ ?_
     refine WL.indexAddr (j := (b.params.toNat + q : Nat)) Try.underlying40 isz_4 rfl rfl rfl rfl (by omega) ?_
     exact WL.nil (N.cut () ⟨rfl, trivial⟩ (Below.refl _ _))
    refine And.intro (fun β w hS => ?_) ?_
    ·
     refine WL.sub (σ' := [(44, .pointer (some ⟨g13, 0 + (b.params.toNat + q : Nat) * 1, none⟩))]) ⟨rfl, trivial⟩ ?_
     refine WL.load1 (v := .bool x13) one_4 rfl rfl rfl (hS.arr 0 rfl hx13) ?_
     refine WL.set 45 (v' := .bool false) rfl (by rw [hg14]) ?_
     exact WL.nil (N.cut () ⟨rfl, trivial⟩ (Below.refl _ _))
    refine And.intro (fun β w hS => ?_) ?_
    ·
     refine WL.sub (σ' := [(45, .bool false)]) ⟨rfl, trivial⟩ ?_
     refine WL.move rfl rfl rfl ?_
     exact WL.nil (N.cut () ⟨rfl, trivial⟩ (Below.refl _ _))
    refine And.intro (fun β w hS => ?_) ?_
    ·
     refine WL.sub (σ' := [(6, .bool (does13 x11)), (46, .bool false)]) ⟨rfl, rfl, trivial⟩ ?_
     refine WL.move rfl rfl rfl ?_
     exact WL.nil (N.cut () ⟨rfl, trivial⟩ (Below.refl _ _))
    refine And.intro (fun β w hS => ?_) ?_
    ·
     refine WL.sub (σ' := [(46, .bool false), (47, .bool (does13 x11))]) ⟨rfl, rfl, trivial⟩ ?_
     refine WL.pick (v := .bool (does13 x11)) rfl rfl rfl rfl rfl rfl ?_
     exact WL.nil (N.cut () ⟨rfl, trivial⟩ (Below.refl _ _))
    refine And.intro (fun β w hS => ?_) ?_
    ·
     refine WL.sub (σ' := [(34, .slice (some ⟨g13, 0, none⟩) (b.params.toNat + b.ins.length) (b.params.toNat + b.ins.length)), (38, .int .i64 ((b.params.toNat + q : Nat) : Int))]) ⟨rfl, rfl, trivial⟩ ?_
     refine WL.indexAddr (j := (b.params.toNat + q : Nat)) Try.underlying40 isz_4 rfl rfl rfl rfl (by omega) ?_
     exact WL.nil (N.cut () ⟨rfl, trivial⟩ (Below.refl _ _))
    trivial
   clear hS; intro w15 β hS
   refine WL.sub (σ' := [(1, .pointer (some ⟨b1, 0, none⟩)), (2, .pointer (some ⟨b3, 0, none⟩)), (3, .slice (some ⟨g13, 0, none⟩) (b.params.toNat + b.ins.length) (b.params.toNat + b.ins.length)), (5, .int .i64 (q : Int)), (48, .bool (does13 x11)), (49, .pointer (some ⟨g13, 0 + (b.params.toNat + q : Nat) * 1, none⟩))]) ⟨rfl, rfl, rfl, rfl, rfl, rfl, trivial⟩ ?_
   refine WL.storeArr (v := does13 x11) 0 rfl rfl rfl rfl siz_4 rfl rfl (by have := hdo.1; omega) hS ?_
   clear hS; intro w16 hS
   refine WL.nil (N.blk (N.seq (W.region (WL.move rfl rfl rfl ?_))))
   refine WL.add (c := (q : Int) + 1) rfl rfl rfl rfl (rfl) (by omega) ?_
   refine WL.assign rfl rfl rfl (WL.nil ?_)
   exact N.loop (q + 1, us1.set (b.params.toNat + q : Nat) (does13 x11)) ⟨rfl, rfl, rfl, rfl, trivial⟩ ⟨hS, by omega, do_step hdo hx11 hx13 (by first | rfl | simp [*])⟩ (by first | omega | (simp only; omega))
  refine W.drawL (by kernel_rfl) 16 ((.q (.slice (some ⟨g13, 0, none⟩) (b.params.toNat + b.ins.length) (b.params.toNat + b.ins.length))) :: (.q (.pointer (some ⟨b1, 0, none⟩))) :: (.q (.int .i64 b.params)) :: (.q (.int .i64 (q : Int))) :: (.q (.int .i64 ((b.params.toNat + q : Nat) : Int))) :: (.q (.slice (some ⟨g13, 0, none⟩) (b.params.toNat + b.ins.length) (b.params.toNat + b.ins.length))) :: (.q (.pointer (some ⟨b1, 0, none⟩))) :: (.q (.int .i64 b.params)) :: (.q (.int .i64 (q : Int))) :: (.q (.int .i64 ((b.params.toNat + q : Nat) : Int))) :: (.q (.pointer (some ⟨g13, 0 + (b.params.toNat + q : Nat) * 1, none⟩))) :: (.q (.bool true)) :: (.q (.bool true)) :: (.q undef) :: (.q (.bool true)) :: (.q (.pointer (some ⟨g13, 0 + (b.params.toNat + q : Nat) * 1, none⟩))) :: []) (by kernel_rfl) (by kernel_rfl) [(1, .pointer (some ⟨b1, 0, none⟩)), (2, .pointer (some ⟨b3, 0, none⟩)), (3, .slice (some ⟨g13, 0, none⟩) (b.params.toNat + b.ins.length) (b.params.toNat + b.ins.length)), (5, .int .i64 (q : Int)), (6, .bool (does13 x11))] ⟨rfl, rfl, rfl, rfl, rfl, trivial⟩ (by kernel_rfl) hS ?_ ?_
  ·
   refine And.intro (fun β w hS => ?_) ?_
   ·
    refine WL.sub (σ' := [(3, .slice (some ⟨g13, 0, none⟩) (b.params.toNat + b.ins.length) (b.params.toNat + b.ins.length))]) ⟨rfl, trivial⟩ ?_
    refine WL.move rfl rfl rfl ?_
    exact WL.nil (N.cut () ⟨rfl, trivial⟩ (Below.refl _ _))
   refine And.intro (fun β w hS => ?_) ?_
   ·
    refine WL.sub (σ' := [(1, .pointer (some ⟨b1, 0, none⟩))]) ⟨rfl, trivial⟩ ?_
    refine WL.fieldAddr fo_32_0 rfl rfl rfl ?_
    exact WL.nil (N.cut () ⟨rfl, trivial⟩ (Below.refl _ _))
   refine And.intro (fun β w hS => ?_) ?_
   ·
    refine WL.sub (σ' := [(35, .pointer (some ⟨b1, 0, none⟩))]) ⟨rfl, trivial⟩ ?_
    refine WL.load1 (v := .int .i64 b.params) one_3 rfl rfl rfl (hS.cell 2 rfl rfl) ?_
    exact WL.nil (N.cut () ⟨rfl, trivial⟩ (Below.refl _ _))
   refine And.intro (fun β w hS => ?_) ?_
   ·
    refine WL.sub (σ' := [(5, .int .i64 (q : Int))]) ⟨rfl, trivial⟩ ?_
    refine WL.move rfl rfl rfl ?_
    exact WL.nil (N.cut () ⟨rfl, trivial⟩ (Below.refl _ _))
   refine And.intro (fun β w hS => ?_) ?_
   ·
    refine WL.sub (σ' := [(36, .int .i64 b.params), (37, .int .i64 (q : Int))]) ⟨rfl, rfl, trivial⟩ ?_
    refine WL.add (c := ((b.params.toNat + q : Nat) : Int)) rfl rfl rfl rfl (by omega) (by omega) ?_
    exact WL.nil (N.cut () ⟨rfl, trivial⟩ (Below.refl _ _))
   refine And.intro (fun β w hS => ?_) ?_
   ·
    refine WL.sub (σ' := [(3, .slice (some ⟨g13, 0, none⟩) (b.params.toNat + b.ins.length) (b.params.toNat + b.ins.length))]) ⟨rfl, trivial⟩ ?_
    refine WL.move rfl rfl rfl ?_
    exact WL.nil (N.cut () ⟨rfl, trivial⟩ (Below.refl _ _))
   refine And.intro (fun β w hS => ?_) ?_
   ·
    refine WL.sub (σ' := [(1, .pointer (some ⟨b1, 0, none⟩))]) ⟨rfl, trivial⟩ ?_
    refine WL.fieldAddr fo_32_0 rfl rfl rfl ?_
    exact WL.nil (N.cut () ⟨rfl, trivial⟩ (Below.refl _ _))
   refine And.intro (fun β w hS => ?_) ?_
   ·
    refine WL.sub (σ' := [(40, .pointer (some ⟨b1, 0, none⟩))]) ⟨rfl, trivial⟩ ?_
    refine WL.load1 (v := .int .i64 b.params) one_3 rfl rfl rfl (hS.cell 2 rfl rfl) ?_
    exact WL.nil (N.cut () ⟨rfl, trivial⟩ (Below.refl _ _))
   refine And.intro (fun β w hS => ?_) ?_
   ·
    refine WL.sub (σ' := [(5, .int .i64 (q : Int))]) ⟨rfl, trivial⟩ ?_
    refine WL.move rfl rfl rfl ?_
    exact WL.nil (N.cut () ⟨rfl, trivial⟩ (Below.refl _ _))
   refine And.intro (fun β w hS => ?_) ?_
   ·
    refine WL.sub (σ' := [(41, .int .i64 b.params), (42, .int .i64 (q : Int))]) ⟨rfl, rfl, trivial⟩ ?_
    refine WL.add (c := ((b.params.toNat + q : Nat) : Int)) rfl rfl rfl rfl (by omega) (by omega) ?_
    exact WL.nil (N.cut () ⟨rfl, trivial⟩ (Below.refl _ _))
   refine And.intro (fun β w hS => ?_) ?_
   ·
    refine WL.sub (σ' := [(39, .slice (some ⟨g13, 0, none⟩) (b.params.toNat + b.ins.length) (b.params.toNat + b.ins.length)), (43, .int .i64 ((b.params.toNat + q : Nat) : Int))]) ⟨rfl, rfl, trivial⟩ ?_
    refine WL.indexAddr (j := (b.params.toNat + q : Nat)) Try.underlying40 isz_4 rfl rfl rfl rfl (by omega) ?_
    exact WL.nil (N.cut () ⟨rfl, trivial⟩ (Below.refl _ _))
   refine And.intro (fun β w hS => ?_) ?_
   ·
    refine WL.sub (σ' := [(44, .pointer (some ⟨g13, 0 + (b.params.toNat + q : Nat) * 1, none⟩))]) ⟨rfl, trivial⟩ ?_
    refine WL.load1 (v := .bool x13) one_4 rfl rfl rfl (hS.arr 0 rfl hx13) ?_
    refine WL.set 45 (v' := .bool true) rfl (by rw [hg14]) ?_
    exact WL.nil (N.cut () ⟨rfl, trivial⟩ (Below.refl _ _))
   refine And.intro (fun β w hS => ?_) ?_
   ·
    refine WL.sub (σ' := [(45, .bool true)]) ⟨rfl, trivial⟩ ?_
    refine WL.move rfl rfl rfl ?_
    exact WL.nil (N.cut () ⟨rfl, trivial⟩ (Below.refl _ _))
   refine And.intro (fun β w hS => ?_) ?_
   ·
    refine WL.sub (σ' := [(6, .bool (does13 x11)), (46, .bool true)]) ⟨rfl, rfl, trivial⟩ ?_
    refine WL.skp rfl rfl ?_
    exact WL.nil (N.cut () ⟨rfl, trivial⟩ (Below.refl _ _))
   refine And.intro (fun β w hS => ?_) ?_
   ·
    refine WL.sub (σ' := [(46, .bool true), (47, undef)]) ⟨rfl, rfl, trivial⟩ ?_
    refine WL.pick (v := .bool true) rfl rfl rfl rfl rfl rfl ?_
    exact WL.nil (N.cut () ⟨rfl, trivial⟩ (Below.refl _ _))
   refine And.intro (fun β w hS => ?_) ?_
   ·
    refine WL.sub (σ' := [(34, .slice (some ⟨g13, 0, none⟩) (b.params.toNat + b.ins.length) (b.params.toNat + b.ins.length)), (38, .int .i64 ((b.params.toNat + q : Nat) : Int))]) ⟨rfl, rfl, trivial⟩ ?_
    refine WL.indexAddr (j := (b.params.toNat + q : Nat)) Try.underlying40 isz_4 rfl rfl rfl rfl (by omega) ?_
    exact WL.nil (N.cut () ⟨rfl, trivial⟩ (Below.refl _ _))
   trivial
  clear hS; intro w17 β hS
  refine WL.sub (σ' := [(1, .pointer (some ⟨b1, 0, none⟩)), (2, .pointer (some ⟨b3, 0, none⟩)), (3, .slice (some ⟨g13, 0, none⟩) (b.params.toNat + b.ins.length) (b.params.toNat + b.ins.length)), (5, .int .i64 (q : Int)), (48, .bool true), (49, .pointer (some ⟨g13, 0 + (b.params.toNat + q : Nat) * 1, none⟩))]) ⟨rfl, rfl, rfl, rfl, rfl, rfl, trivial⟩ ?_
  refine WL.storeArr (v := true) 0 rfl rfl rfl rfl siz_4 rfl rfl (by have := hdo.1; omega) hS ?_
  clear hS; intro w18 hS
  refine WL.nil (N.blk (N.seq (W.region (WL.move rfl rfl rfl ?_))))
  refine WL.add (c := (q : Int) + 1) rfl rfl rfl rfl (rfl) (by omega) ?_
  refine WL.assign rfl rfl rfl (WL.nil ?_)
  exact N.loop (q + 1, us1.set (b.params.toNat + q : Nat) true) ⟨rfl, rfl, rfl, rfl, trivial⟩ ⟨hS, by omega, do_step hdo hx11 hx13 (by first | rfl | simp [*])⟩ (by first | omega | (simp only; omega))
 have hc10p : ¬ ((q : Int) < (b.ins.length : Int)) := by simpa using hc10
 refine W.exit (X.seq (X.loop (X.blk (N.seq (W.seq (W.region (WL.fieldAddr fo_32_0 rfl rfl rfl (WL.load1 (v := .int .i64 b.params) one_3 rfl rfl rfl (hS.cell 2 rfl rfl) (WL.fieldAddr fo_32_2 rfl rfl rfl ?_)))))))))
 refine WL.loadN (cs := [.int .i64 b.fin.kind, .int .i64 b.fin.a, .int .i64 b.fin.to, .slice adp b.fin.args.length capp, .int .i64 b.fin.els, .slice adq b.fin.elses.length capq]) agg_30 rfl rfl rfl rfl (hS.cells 2 (m := 6) rfl rfl) ?_
 refine WL.build (ps := [(0, .int .i64 b.params), (2, .agg #[.int .i64 b.fin.kind, .int .i64 b.fin.a, .int .i64 b.fin.to, .slice adp b.fin.args.length capp, .int .i64 b.fin.els, .slice adq b.fin.elses.length capq])]) (cs := [.int .i64 b.params, .slice none 0 0, .int .i64 b.fin.kind, .int .i64 b.fin.a, .int .i64 b.fin.to, .slice adp b.fin.args.length capp, .int .i64 b.fin.els, .slice adq b.fin.elses.length capq]) rfl rfl rfl (by kernel_rfl) ?_
 refine WL.alloc (tyZero_spec zer_32) rfl rfl hS ?_
 clear hS; intro w20 b19 hb_b19 hS
 refine WL.store (L' := [(b19, .cells #[.int .i64 b.params, .slice none 0 0, .int .i64 b.fin.kind, .int .i64 b.fin.a, .int .i64 b.fin.to, .slice adp b.fin.args.length capp, .int .i64 b.fin.els, .slice adq b.fin.elses.length capq] 32 (0, 0)), (g13, arrO Value.bool 4 us1), (b3, .cells #[.int .i64 0, .slice none 0 0, .int .i64 0, .int .i64 0, .int .i64 0, .slice none 0 0, .int .i64 0, .slice none 0 0] 32 (0, 0)), (b1, .cells #[.int .i64 b.params, .slice adi b.ins.length capi, .int .i64 b.fin.kind, .int .i64 b.fin.a, .int .i64 b.fin.to, .slice adp b.fin.args.length capp, .int .i64 b.fin.els, .slice adq b.fin.elses.length capq] 32 (0, 0))]) 0 rfl rfl rfl rfl siz_32 rfl rfl rfl rfl rfl hS ?_
 clear hS; intro w21 hS
 refine WL.nil (N.seq (W.seq (W.seq (W.region (WL.assign rfl rfl rfl (WL.nil (N.seq (W.block ?_))))))))
 have hst := do_all hdo (by omega)
 have hul : us1.length = (b.params.toNat + b.ins.length) := hst.1
 have hrt := rterm_in h5 hb hst
 replace hS := hS.row0 36 6
 replace hS : St w w w21 ro [(g13, arrO Value.bool 4 us1), (b19, .cells #[.int .i64 b.params, .slice none 0 0, .int .i64 b.fin.kind, .int .i64 b.fin.a, .int .i64 b.fin.to, .slice adp b.fin.args.length capp, .int .i64 b.fin.els, .slice adq b.fin.elses.length capq] 32 (0, 0)), (b3, .cells #[.int .i64 0, .slice none 0 0, .int .i64 0, .int .i64 0, .int .i64 0, .slice none 0 0, .int .i64 0, .slice none 0 0] 32 (0, 0)), (b1, .cells #[.int .i64 b.params, .slice adi b.ins.length capi, .int .i64 b.fin.kind, .int .i64 b.fin.a, .int .i64 b.fin.to, .slice adp b.fin.args.length capp, .int .i64 b.fin.els, .slice adq b.fin.elses.length capq] 32 (0, 0))] [⟨.slice none 0 0, 36, 6, 0, []⟩] := hS.perm ((List.Perm.swap _ _ _))
 have hal22 := hS.giveAlike
 replace hsub : ∀ b, (fun x => ro x ∨ x = g13) b → ro b ∨ w.heap.size ≤ b := fun b hb => hb.elim (hsub b) (fun h => .inr (by rw [h]; exact hS.giveLe))
 replace hx := hx.keep hal22
 replace hind := hind.keep hal22 (fun _ _ h => h.keep hal22)
 replace hfin := hfin.keep hal22
 replace ht1 := SlV.keep ht1 hal22 (fun _ _ h => h)
 replace ht2 := SlV.keep ht2 hal22 (fun _ _ h => h)
 have hown23 := hS.own _ List.mem_cons_self
 replace hS := hS.give
 have hsv : SlV (fun x => ro x ∨ x = g13) w21 1 BoolC (.slice (some ⟨g13, 0, none⟩) (b.params.toNat + b.ins.length) (b.params.toNat + b.ins.length)) us1 := by rw [← hul]; exact slv_blk hown23 (by simp [List.take_of_length_le]) (chunks_bools us1) (.inr rfl) (by simp) (by unfold maxLen; omega)
 refine W.loop (α := Nat × Value × List Value × Nat × Value × (Nat → Prop) × World) (fun ⟨k, v, cs, c, vst, R2, ws2⟩ => [(1, .pointer (some ⟨b1, 0, none⟩)), (2, .pointer (some ⟨b3, 0, none⟩)), (3, vst), (7, .pointer (some ⟨b19, 0, none⟩)), (8, .int .i64 (k : Int))]) (fun ⟨k, v, cs, c, vst, R2, ws2⟩ u => St w ws2 u R2 [(b19, .cells #[.int .i64 b.params, v, .int .i64 b.fin.kind, .int .i64 b.fin.a, .int .i64 b.fin.to, .slice adp b.fin.args.length capp, .int .i64 b.fin.els, .slice adq b.fin.elses.length capq] 32 (0, 0)), (b3, .cells #[.int .i64 0, .slice none 0 0, .int .i64 0, .int .i64 0, .int .i64 0, .slice none 0 0, .int .i64 0, .slice none 0 0] 32 (0, 0)), (b1, .cells #[.int .i64 b.params, .slice adi b.ins.length capi, .int .i64 b.fin.kind, .int .i64 b.fin.a, .int .i64 b.fin.to, .slice adp b.fin.args.length capp, .int .i64 b.fin.els, .slice adq b.fin.elses.length capq] 32 (0, 0))] [⟨v, 36, 6, c, cs⟩] ∧ k ≤ b.ins.length ∧ Chunks 6 (InstC R2 ws2) cs (at13 b k).2 ∧ c = (at13 b k).2.length ∧ SlV R2 ws2 1 BoolC vst us1 ∧ Alike (fun x => ro x ∨ x = g13) w21 R2 ws2 ∧ (∀ b, R2 b → ro b ∨ w.heap.size ≤ b)) (fun ⟨k, v, cs, c, vst, R2, ws2⟩ => b.ins.length - k) (0, (.slice none 0 0), [], 0, (.slice (some ⟨g13, 0, none⟩) (b.params.toNat + b.ins.length) (b.params.toNat + b.ins.length)), (fun x => ro x ∨ x = g13), w21) ⟨rfl, rfl, rfl, rfl, rfl, trivial⟩ ⟨hS, Nat.zero_le _, by simpa [at13, go13] using Chunks.nil, by simp [at13, go13], hsv, Alike.refl, hsub⟩ ?_
 clear hS
 rintro ⟨k, v, cs, c, vst, R2, ws2⟩ w24 ⟨hS, hk, hch, hc, hsv, halL2, hsub⟩
 replace hx := hx.keep halL2
 replace hind := hind.keep halL2 (fun _ _ h => h.keep halL2)
 replace hfin := hfin.keep halL2
 replace ht1 := SlV.keep ht1 halL2 (fun _ _ h => h)
 replace ht2 := SlV.keep ht2 halL2 (fun _ _ h => h)
 have hrow : w24.ownsRow w.heap.size 36 6 v (c) _ := hS.rows _ List.mem_cons_self
 obtain ⟨adv, capv, rfl, hr1v, hr2v, hr3v⟩ := row_shape hrow
 clear hrow
 obtain ⟨adst, capst, rfl, hsva, hsvb, hsvc, hsvd⟩ := id hsv
 have hsvm : us1.length ≤ 9223372036854775807 := by have h1 := hsva; have h2 := hsvb; unfold maxLen at h2; omega
 have hln := at13_len b k hk
 refine W.seq (W.seq (W.region (WL.move rfl rfl rfl (WL.fieldAddr fo_32_1 rfl rfl rfl (WL.load1 (v := .slice adi b.ins.length capi) one_27 rfl rfl rfl (hS.cell 2 rfl rfl) (WL.lenSlice Try.underlying27 rfl rfl rfl (WL.bin rfl rfl rfl rfl rfl (WL.nil (N.seq ?_)))))))))
 refine W.cond rfl (fun hc25 => ?_) (fun hc25 => ?_)
 ·
  have hc25p : (k : Int) < (b.ins.length : Int) := by simpa using hc25
  refine W.skip (N.seq (W.seq (W.block (W.seq (W.seq (W.region (WL.move rfl rfl rfl (WL.fieldAddr fo_32_0 rfl rfl rfl (WL.load1 (v := .int .i64 b.params) one_3 rfl rfl rfl (hS.cell 2 rfl rfl) ?_)))))))))
  refine WL.move rfl rfl rfl ?_
  refine WL.add (c := ((b.params.toNat + k : Nat) : Int)) rfl rfl rfl rfl (by omega) (by omega) ?_
  have hj26 : (b.params.toNat + k : Nat) < us1.length := by omega
  obtain ⟨x26, hx26⟩ : ∃ zz, us1[(b.params.toNat + k : Nat)]? = some zz := ⟨_, List.getElem?_eq_getElem hj26⟩
  obtain ⟨b26, o26, cs26, hE26, hr26, hl26, hc26, hQ26⟩ := hsvd (b.params.toNat + k : Nat) _ hx26
  cases hQ26
  refine WL.indexAddrE (j := (b.params.toNat + k : Nat)) Try.underlying40 isz_4 rfl rfl rfl rfl hj26 hE26 (WL.load1 (v := .bool x26) one_4 rfl rfl rfl (hS.roCells hr26 hc26 0 _ rfl) (WL.not rfl rfl rfl (WL.nil (N.seq ?_))))
  refine W.cond rfl (fun hc27 => ?_) (fun hc27 => ?_)
  ·
   refine W.exit (X.seq (X.blk (N.seq (W.region (WL.move rfl rfl rfl ?_)))))
   refine WL.add (c := (k : Int) + 1) rfl rfl rfl rfl (rfl) (by omega) ?_
   refine WL.assign rfl rfl rfl (WL.nil ?_)
   have hxi := List.getElem?_eq_getElem (show k < b.ins.length by omega)
   have hsp := at13_drop hxi (fun hkp => by have h2 := (hst.2.2 k _ hxi).2 hkp; rw [hx26] at h2; have h3 := hc27; simp_all)
   exact N.loop (k + 1, .slice adv c capv, cs, c, .slice adst us1.length capst, R2, ws2) ⟨rfl, rfl, rfl, rfl, rfl, trivial⟩ ⟨hS, by omega, by rw [hsp]; exact hch, by rw [hsp]; exact hc, hsv, halL2, hsub⟩ (by first | omega | (simp only; omega))
  refine W.skip (N.seq (W.seq ?_))
  have hj28 : k < b.ins.length := by omega
  obtain ⟨x28, hx28⟩ : ∃ zz, b.ins[k]? = some zz := ⟨_, List.getElem?_eq_getElem hj28⟩
  obtain ⟨b28, o28, cs28, hE28, hr28, hl28, hc28, hQ28⟩ := hind k _ hx28
  have hQk28 := hQ28
  obtain ⟨sv28, rfl, hs28, ho28, ha28, hb28, hk28, hn28⟩ := hQ28
  obtain ⟨ad28, cap28, rfl, hs28a, hs28b, hs28c, hs28d⟩ := id hs28
  have hs28m : x28.args.length ≤ 9223372036854775807 := by have h1 := hs28a; have h2 := hs28b; unfold maxLen at h2; omega
  have hkp : Kept13 b k x28 := (hst.2.2 k _ hx28).1 (by rw [hx26]; have h3 := hc27; simp_all)
  have hsp := at13_kept hkp
  rw [rinst_at h5 hb hst hkp] at hsp
  obtain ⟨hna, hnb, hnr, hnl⟩ := rinst_in h5 hb hst (List.mem_of_getElem? hx28)
  refine W.region (WL.fieldAddr fo_32_1 rfl rfl rfl (WL.load1 (v := .slice adi b.ins.length capi) one_27 rfl rfl rfl (hS.cell 2 rfl rfl) (WL.move rfl rfl rfl (WL.indexAddrE (j := k) Try.underlying27 isz_36 rfl rfl rfl rfl hj28 hE28 (WL.loadN (cs := [.int .i64 x28.op, .int .i64 x28.a, .int .i64 x28.b, .int .u64 x28.k, .string x28.name, .slice ad28 x28.args.length cap28]) agg_36 rfl rfl rfl rfl (hS.roCells hr28 hc28) ?_)))))
  refine WL.alloc (tyZero_spec zer_36) rfl rfl hS ?_
  clear hS; intro w30 b29 hb_b29 hS
  refine WL.store (L' := [(b29, .cells #[.int .i64 x28.op, .int .i64 x28.a, .int .i64 x28.b, .int .u64 x28.k, .string x28.name, .slice ad28 x28.args.length cap28] 36 (0, 0)), (b19, .cells #[.int .i64 b.params, .slice adv c capv, .int .i64 b.fin.kind, .int .i64 b.fin.a, .int .i64 b.fin.to, .slice adp b.fin.args.length capp, .int .i64 b.fin.els, .slice adq b.fin.elses.length capq] 32 (0, 0)), (b3, .cells #[.int .i64 0, .slice none 0 0, .int .i64 0, .int .i64 0, .int .i64 0, .slice none 0 0, .int .i64 0, .slice none 0 0] 32 (0, 0)), (b1, .cells #[.int .i64 b.params, .slice adi b.ins.length capi, .int .i64 b.fin.kind, .int .i64 b.fin.a, .int .i64 b.fin.to, .slice adp b.fin.args.length capp, .int .i64 b.fin.els, .slice adq b.fin.elses.length capq] 32 (0, 0))]) 0 rfl rfl rfl rfl siz_36 rfl rfl rfl rfl rfl hS ?_
  clear hS; intro w31 hS
  refine WL.nil (N.seq ?_)
  refine W.cut (α := Int) (fun (aa : Int) => [(1, .pointer (some ⟨b1, 0, none⟩)), (2, .pointer (some ⟨b3, 0, none⟩)), (3, .slice adst us1.length capst), (7, .pointer (some ⟨b19, 0, none⟩)), (8, .int .i64 (k : Int)), (9, .pointer (some ⟨b29, 0, none⟩))]) (fun (aa : Int) u => St w ws2 u R2 [(b29, .cells #[.int .i64 x28.op, .int .i64 aa, .int .i64 x28.b, .int .u64 x28.k, .string x28.name, .slice ad28 x28.args.length cap28] 36 (0, 0)), (b19, .cells #[.int .i64 b.params, .slice adv c capv, .int .i64 b.fin.kind, .int .i64 b.fin.a, .int .i64 b.fin.to, .slice adp b.fin.args.length capp, .int .i64 b.fin.els, .slice adq b.fin.elses.length capq] 32 (0, 0)), (b3, .cells #[.int .i64 0, .slice none 0 0, .int .i64 0, .int .i64 0, .int .i64 0, .slice none 0 0, .int .i64 0, .slice none 0 0] 32 (0, 0)), (b1, .cells #[.int .i64 b.params, .slice adi b.ins.length capi, .int .i64 b.fin.kind, .int .i64 b.fin.a, .int .i64 b.fin.to, .slice adp b.fin.args.length capp, .int .i64 b.fin.els, .slice adq b.fin.elses.length capq] 32 (0, 0))] [⟨.slice adv c capv, 36, 6, c, cs⟩] ∧ aa = (rinst13 us1 x28).a) ?_ ?_
  ·
   refine W.cut (α := Bool) (fun (q92 : Bool) => [(1, .pointer (some ⟨b1, 0, none⟩)), (2, .pointer (some ⟨b3, 0, none⟩)), (3, .slice adst us1.length capst), (7, .pointer (some ⟨b19, 0, none⟩)), (8, .int .i64 (k : Int)), (9, .pointer (some ⟨b29, 0, none⟩)), (92, .bool q92)]) (fun (q92 : Bool) u => St w ws2 u R2 [(b29, .cells #[.int .i64 x28.op, .int .i64 x28.a, .int .i64 x28.b, .int .u64 x28.k, .string x28.name, .slice ad28 x28.args.length cap28] 36 (0, 0)), (b19, .cells #[.int .i64 b.params, .slice adv c capv, .int .i64 b.fin.kind, .int .i64 b.fin.a, .int .i64 b.fin.to, .slice adp b.fin.args.length capp, .int .i64 b.fin.els, .slice adq b.fin.elses.length capq] 32 (0, 0)), (b3, .cells #[.int .i64 0, .slice none 0 0, .int .i64 0, .int .i64 0, .int .i64 0, .slice none 0 0, .int .i64 0, .slice none 0 0] 32 (0, 0)), (b1, .cells #[.int .i64 b.params, .slice adi b.ins.length capi, .int .i64 b.fin.kind, .int .i64 b.fin.a, .int .i64 b.fin.to, .slice adp b.fin.args.length capp, .int .i64 b.fin.els, .slice adq b.fin.elses.length capq] 32 (0, 0))] [⟨.slice adv c capv, 36, 6, c, cs⟩] ∧ q92 = decide ((2 ≤ x28.op ∧ x28.op ≤ 11) ∨ x28.op = 13 ∨ x28.op = 16)) ?_ ?_
   ·
    refine W.region (WL.fieldAddr fo_36_0 rfl rfl rfl (WL.load1 (v := .int .i64 x28.op) one_3 rfl rfl rfl (hS.cell 0 rfl rfl) (WL.bin rfl rfl rfl rfl rfl (WL.move rfl rfl rfl ?_))))
    rcases (Bool.eq_false_or_eq_true (decide (2 ≤ x28.op))).symm with hg32 | hg32
    ·
     refine WL.set 77 (v' := .bool false) rfl (by rw [hg32]) ?_
     refine WL.set 78 (v' := .bool false) rfl (by rw [hg32]) ?_
     have hg32p : ¬ (2 ≤ x28.op) := by simpa using hg32
     refine WL.skp rfl rfl (WL.skp rfl rfl (WL.skp rfl rfl (WL.pick (v := .bool false) rfl rfl rfl rfl rfl rfl (WL.move rfl rfl rfl (WL.fieldAddr fo_36_0 rfl rfl rfl (WL.load1 (v := .int .i64 x28.op) one_3 rfl rfl rfl (hS.cell 0 rfl rfl) (WL.bin rfl rfl rfl rfl rfl (WL.pick (v := .bool (decide (x28.op = 13))) rfl rfl rfl rfl rfl rfl (WL.move rfl rfl rfl ?_)))))))))
     rcases (Bool.eq_false_or_eq_true (decide (x28.op = 13))).symm with hg33 | hg33
     ·
      refine WL.set 86 (v' := .bool false) rfl (by rw [hg33]) ?_
      refine WL.set 87 (v' := .bool false) rfl (by rw [hg33]) ?_
      refine WL.set 88 (v' := .bool false) rfl (by rw [hg33]) ?_
      have hg33p : ¬ (x28.op = 13) := by simpa using hg33
      refine WL.fieldAddr fo_36_0 rfl rfl rfl (WL.load1 (v := .int .i64 x28.op) one_3 rfl rfl rfl (hS.cell 0 rfl rfl) (WL.bin rfl rfl rfl rfl rfl (WL.pick (v := .bool (decide (x28.op = 16))) rfl rfl rfl rfl rfl rfl (WL.nil ?_))))
      exact N.cut (decide (x28.op = 16)) ⟨rfl, rfl, rfl, rfl, rfl, rfl, rfl, trivial⟩ ⟨hS, decide_eq_decide.2 (by omega)⟩
     refine WL.set 86 (v' := .bool true) rfl (by rw [hg33]) ?_
     refine WL.set 87 (v' := .bool true) rfl (by rw [hg33]) ?_
     refine WL.set 88 (v' := .bool true) rfl (by rw [hg33]) ?_
     have hg33p : x28.op = 13 := by simpa using hg33
     refine WL.skp rfl rfl (WL.skp rfl rfl (WL.skp rfl rfl (WL.pick (v := .bool true) rfl rfl rfl rfl rfl rfl (WL.nil ?_))))
     exact N.cut true ⟨rfl, rfl, rfl, rfl, rfl, rfl, rfl, trivial⟩ ⟨hS, (decide_eq_true (by omega)).symm⟩
    refine WL.set 77 (v' := .bool true) rfl (by rw [hg32]) ?_
    refine WL.set 78 (v' := .bool true) rfl (by rw [hg32]) ?_
    have hg32p : 2 ≤ x28.op := by simpa using hg32
    refine WL.fieldAddr fo_36_0 rfl rfl rfl (WL.load1 (v := .int .i64 x28.op) one_3 rfl rfl rfl (hS.cell 0 rfl rfl) (WL.bin rfl rfl rfl rfl rfl (WL.pick (v := .bool (decide (x28.op ≤ 11))) rfl rfl rfl rfl rfl rfl (WL.move rfl rfl rfl ?_))))
    rcases (Bool.eq_false_or_eq_true (decide (x28.op ≤ 11))).symm with hg34 | hg34
    ·
     refine WL.set 81 (v' := .bool false) rfl (by rw [hg34]) ?_
     refine WL.set 82 (v' := .bool false) rfl (by rw [hg34]) ?_
     refine WL.set 83 (v' := .bool false) rfl (by rw [hg34]) ?_
     have hg34p : ¬ (x28.op ≤ 11) := by simpa using hg34
     refine WL.fieldAddr fo_36_0 rfl rfl rfl (WL.load1 (v := .int .i64 x28.op) one_3 rfl rfl rfl (hS.cell 0 rfl rfl) (WL.bin rfl rfl rfl rfl rfl (WL.pick (v := .bool (decide (x28.op = 13))) rfl rfl rfl rfl rfl rfl (WL.move rfl rfl rfl ?_))))
     rcases (Bool.eq_false_or_eq_true (decide (x28.op = 13))).symm with hg35 | hg35
     ·
      refine WL.set 86 (v' := .bool false) rfl (by rw [hg35]) ?_
      refine WL.set 87 (v' := .bool false) rfl (by rw [hg35]) ?_
      refine WL.set 88 (v' := .bool false) rfl (by rw [hg35]) ?_
      have hg35p : ¬ (x28.op = 13) := by simpa using hg35
      refine WL.fieldAddr fo_36_0 rfl rfl rfl (WL.load1 (v := .int .i64 x28.op) one_3 rfl rfl rfl (hS.cell 0 rfl rfl) (WL.bin rfl rfl rfl rfl rfl (WL.pick (v := .bool (decide (x28.op = 16))) rfl rfl rfl rfl rfl rfl (WL.nil ?_))))
      exact N.cut (decide (x28.op = 16)) ⟨rfl, rfl, rfl, rfl, rfl, rfl, rfl, trivial⟩ ⟨hS, decide_eq_decide.2 (by omega)⟩
     refine WL.set 86 (v' := .bool true) rfl (by rw [hg35]) ?_
     refine WL.set 87 (v' := .bool true) rfl (by rw [hg35]) ?_
     refine WL.set 88 (v' := .bool true) rfl (by rw [hg35]) ?_
     have hg35p : x28.op = 13 := by simpa using hg35
     refine WL.skp rfl rfl (WL.skp rfl rfl (WL.skp rfl rfl (WL.pick (v := .bool true) rfl rfl rfl rfl rfl rfl (WL.nil ?_))))
     exact N.cut true ⟨rfl, rfl, rfl, rfl, rfl, rfl, rfl, trivial⟩ ⟨hS, (decide_eq_true (by omega)).symm⟩
    refine WL.set 81 (v' := .bool true) rfl (by rw [hg34]) ?_
    refine WL.set 82 (v' := .bool true) rfl (by rw [hg34]) ?_
    refine WL.set 83 (v' := .bool true) rfl (by rw [hg34]) ?_
    have hg34p : x28.op ≤ 11 := by simpa using hg34
    refine WL.skp rfl rfl (WL.skp rfl rfl (WL.skp rfl rfl (WL.pick (v := .bool true) rfl rfl rfl rfl rfl rfl (WL.move rfl rfl rfl (WL.skp rfl rfl (WL.skp rfl rfl (WL.skp rfl rfl (WL.pick (v := .bool true) rfl rfl rfl rfl rfl rfl (WL.nil ?_)))))))))
    exact N.cut true ⟨rfl, rfl, rfl, rfl, rfl, rfl, rfl, trivial⟩ ⟨hS, (decide_eq_true (by omega)).symm⟩
   clear hS
   rintro q92 w36 ⟨hS, hq92⟩
   refine W.cond rfl (fun hc37 => ?_) (fun hc37 => ?_)
   ·
    have hq92v : ((2 ≤ x28.op ∧ x28.op ≤ 11) ∨ x28.op = 13 ∨ x28.op = 16) := of_decide_eq_true (by rw [← hq92]; simpa using hc37)
    refine W.region (WL.move rfl rfl rfl (WL.fieldAddr fo_36_1 rfl rfl rfl (WL.load1 (v := .int .i64 x28.a) one_3 rfl rfl rfl (hS.cell 0 rfl rfl) ?_)))
    refine WL.callF (vs := [.slice adst us1.length capst, .int .i64 x28.a]) Try.func42 (by kernel_rfl) rfl rfl rfl (number13_ret us1 _ x28.a (ro := R2) (fun b hb => (hS.snap b hb).1) (SlV.keep hsv hS.alike fun _ _ h => h) (hna hq92v) (by omega)) ?_
    rintro v w38 ⟨rfl, hbl⟩
    replace hS := hS.grow hbl
    refine WL.fieldAddr fo_36_1 rfl rfl rfl ?_
    refine WL.store (L' := [(b29, .cells #[.int .i64 x28.op, .int .i64 (num13 us1 x28.a), .int .i64 x28.b, .int .u64 x28.k, .string x28.name, .slice ad28 x28.args.length cap28] 36 (0, 0)), (b19, .cells #[.int .i64 b.params, .slice adv c capv, .int .i64 b.fin.kind, .int .i64 b.fin.a, .int .i64 b.fin.to, .slice adp b.fin.args.length capp, .int .i64 b.fin.els, .slice adq b.fin.elses.length capq] 32 (0, 0)), (b3, .cells #[.int .i64 0, .slice none 0 0, .int .i64 0, .int .i64 0, .int .i64 0, .slice none 0 0, .int .i64 0, .slice none 0 0] 32 (0, 0)), (b1, .cells #[.int .i64 b.params, .slice adi b.ins.length capi, .int .i64 b.fin.kind, .int .i64 b.fin.a, .int .i64 b.fin.to, .slice adp b.fin.args.length capp, .int .i64 b.fin.els, .slice adq b.fin.elses.length capq] 32 (0, 0))]) 0 rfl rfl rfl rfl siz_3 rfl rfl rfl rfl rfl hS ?_
    clear hS; intro w39 hS
    refine WL.nil ?_
    exact N.cut (num13 us1 x28.a) ⟨rfl, rfl, rfl, rfl, rfl, rfl, trivial⟩ ⟨hS, by unfold rinst13; dsimp only; rw [if_pos hq92v]⟩
   have hq92v : ¬ ((2 ≤ x28.op ∧ x28.op ≤ 11) ∨ x28.op = 13 ∨ x28.op = 16) := of_decide_eq_false (by rw [← hq92]; simpa using hc37)
   refine W.skip ?_
   exact N.cut x28.a ⟨rfl, rfl, rfl, rfl, rfl, rfl, trivial⟩ ⟨hS, by unfold rinst13; dsimp only; rw [if_neg hq92v]⟩
  clear hS
  rintro aa w40 ⟨hS, hra⟩
  refine W.cut (α := Int) (fun (bb : Int) => [(1, .pointer (some ⟨b1, 0, none⟩)), (2, .pointer (some ⟨b3, 0, none⟩)), (3, .slice adst us1.length capst), (7, .pointer (some ⟨b19, 0, none⟩)), (8, .int .i64 (k : Int)), (9, .pointer (some ⟨b29, 0, none⟩))]) (fun (bb : Int) u => St w ws2 u R2 [(b29, .cells #[.int .i64 x28.op, .int .i64 aa, .int .i64 bb, .int .u64 x28.k, .string x28.name, .slice ad28 x28.args.length cap28] 36 (0, 0)), (b19, .cells #[.int .i64 b.params, .slice adv c capv, .int .i64 b.fin.kind, .int .i64 b.fin.a, .int .i64 b.fin.to, .slice adp b.fin.args.length capp, .int .i64 b.fin.els, .slice adq b.fin.elses.length capq] 32 (0, 0)), (b3, .cells #[.int .i64 0, .slice none 0 0, .int .i64 0, .int .i64 0, .int .i64 0, .slice none 0 0, .int .i64 0, .slice none 0 0] 32 (0, 0)), (b1, .cells #[.int .i64 b.params, .slice adi b.ins.length capi, .int .i64 b.fin.kind, .int .i64 b.fin.a, .int .i64 b.fin.to, .slice adp b.fin.args.length capp, .int .i64 b.fin.els, .slice adq b.fin.elses.length capq] 32 (0, 0))] [⟨.slice adv c capv, 36, 6, c, cs⟩] ∧ bb = (rinst13 us1 x28).b) ?_ ?_
  ·
   refine W.cut (α := Bool) (fun (q105 : Bool) => [(1, .pointer (some ⟨b1, 0, none⟩)), (2, .pointer (some ⟨b3, 0, none⟩)), (3, .slice adst us1.length capst), (7, .pointer (some ⟨b19, 0, none⟩)), (8, .int .i64 (k : Int)), (9, .pointer (some ⟨b29, 0, none⟩)), (105, .bool q105)]) (fun (q105 : Bool) u => St w ws2 u R2 [(b29, .cells #[.int .i64 x28.op, .int .i64 aa, .int .i64 x28.b, .int .u64 x28.k, .string x28.name, .slice ad28 x28.args.length cap28] 36 (0, 0)), (b19, .cells #[.int .i64 b.params, .slice adv c capv, .int .i64 b.fin.kind, .int .i64 b.fin.a, .int .i64 b.fin.to, .slice adp b.fin.args.length capp, .int .i64 b.fin.els, .slice adq b.fin.elses.length capq] 32 (0, 0)), (b3, .cells #[.int .i64 0, .slice none 0 0, .int .i64 0, .int .i64 0, .int .i64 0, .slice none 0 0, .int .i64 0, .slice none 0 0] 32 (0, 0)), (b1, .cells #[.int .i64 b.params, .slice adi b.ins.length capi, .int .i64 b.fin.kind, .int .i64 b.fin.a, .int .i64 b.fin.to, .slice adp b.fin.args.length capp, .int .i64 b.fin.els, .slice adq b.fin.elses.length capq] 32 (0, 0))] [⟨.slice adv c capv, 36, 6, c, cs⟩] ∧ q105 = decide (2 ≤ x28.op ∧ x28.op ≤ 11)) ?_ ?_
   ·
    refine W.region (WL.fieldAddr fo_36_0 rfl rfl rfl (WL.load1 (v := .int .i64 x28.op) one_3 rfl rfl rfl (hS.cell 0 rfl rfl) (WL.bin rfl rfl rfl rfl rfl (WL.move rfl rfl rfl ?_))))
    rcases (Bool.eq_false_or_eq_true (decide (2 ≤ x28.op))).symm with hg41 | hg41
    ·
     refine WL.set 100 (v' := .bool false) rfl (by rw [hg41]) ?_
     refine WL.set 101 (v' := .bool false) rfl (by rw [hg41]) ?_
     have hg41p : ¬ (2 ≤ x28.op) := by simpa using hg41
     refine WL.skp rfl rfl (WL.skp rfl rfl (WL.skp rfl rfl (WL.pick (v := .bool false) rfl rfl rfl rfl rfl rfl (WL.nil ?_))))
     exact N.cut false ⟨rfl, rfl, rfl, rfl, rfl, rfl, rfl, trivial⟩ ⟨hS, (decide_eq_false (by omega)).symm⟩
    refine WL.set 100 (v' := .bool true) rfl (by rw [hg41]) ?_
    refine WL.set 101 (v' := .bool true) rfl (by rw [hg41]) ?_
    have hg41p : 2 ≤ x28.op := by simpa using hg41
    refine WL.fieldAddr fo_36_0 rfl rfl rfl (WL.load1 (v := .int .i64 x28.op) one_3 rfl rfl rfl (hS.cell 0 rfl rfl) (WL.bin rfl rfl rfl rfl rfl (WL.pick (v := .bool (decide (x28.op ≤ 11))) rfl rfl rfl rfl rfl rfl (WL.nil ?_))))
    exact N.cut (decide (x28.op ≤ 11)) ⟨rfl, rfl, rfl, rfl, rfl, rfl, rfl, trivial⟩ ⟨hS, decide_eq_decide.2 (by omega)⟩
   clear hS
   rintro q105 w42 ⟨hS, hq105⟩
   refine W.cond rfl (fun hc43 => ?_) (fun hc43 => ?_)
   ·
    have hq105v : (2 ≤ x28.op ∧ x28.op ≤ 11) := of_decide_eq_true (by rw [← hq105]; simpa using hc43)
    refine W.region (WL.move rfl rfl rfl (WL.fieldAddr fo_36_2 rfl rfl rfl (WL.load1 (v := .int .i64 x28.b) one_3 rfl rfl rfl (hS.cell 0 rfl rfl) ?_)))
    refine WL.callF (vs := [.slice adst us1.length capst, .int .i64 x28.b]) Try.func42 (by kernel_rfl) rfl rfl rfl (number13_ret us1 _ x28.b (ro := R2) (fun b hb => (hS.snap b hb).1) (SlV.keep hsv hS.alike fun _ _ h => h) (hnb hq105v) (by omega)) ?_
    rintro v w44 ⟨rfl, hbl⟩
    replace hS := hS.grow hbl
    refine WL.fieldAddr fo_36_2 rfl rfl rfl ?_
    refine WL.store (L' := [(b29, .cells #[.int .i64 x28.op, .int .i64 aa, .int .i64 (num13 us1 x28.b), .int .u64 x28.k, .string x28.name, .slice ad28 x28.args.length cap28] 36 (0, 0)), (b19, .cells #[.int .i64 b.params, .slice adv c capv, .int .i64 b.fin.kind, .int .i64 b.fin.a, .int .i64 b.fin.to, .slice adp b.fin.args.length capp, .int .i64 b.fin.els, .slice adq b.fin.elses.length capq] 32 (0, 0)), (b3, .cells #[.int .i64 0, .slice none 0 0, .int .i64 0, .int .i64 0, .int .i64 0, .slice none 0 0, .int .i64 0, .slice none 0 0] 32 (0, 0)), (b1, .cells #[.int .i64 b.params, .slice adi b.ins.length capi, .int .i64 b.fin.kind, .int .i64 b.fin.a, .int .i64 b.fin.to, .slice adp b.fin.args.length capp, .int .i64 b.fin.els, .slice adq b.fin.elses.length capq] 32 (0, 0))]) 0 rfl rfl rfl rfl siz_3 rfl rfl rfl rfl rfl hS ?_
    clear hS; intro w45 hS
    refine WL.nil ?_
    exact N.cut (num13 us1 x28.b) ⟨rfl, rfl, rfl, rfl, rfl, rfl, trivial⟩ ⟨hS, by unfold rinst13; dsimp only; rw [if_pos hq105v]⟩
   have hq105v : ¬ (2 ≤ x28.op ∧ x28.op ≤ 11) := of_decide_eq_false (by rw [← hq105]; simpa using hc43)
   refine W.skip ?_
   exact N.cut x28.b ⟨rfl, rfl, rfl, rfl, rfl, rfl, trivial⟩ ⟨hS, by unfold rinst13; dsimp only; rw [if_neg hq105v]⟩
  clear hS
  rintro bb w46 ⟨hS, hrb⟩
  refine W.seq (W.region (WL.move rfl rfl rfl (WL.fieldAddr fo_36_5 rfl rfl rfl (WL.load1 (v := .slice ad28 x28.args.length cap28) one_28 rfl rfl rfl (hS.cell 0 rfl rfl) ?_))))
  refine WL.callF (vs := [.slice adst us1.length capst, .slice ad28 x28.args.length cap28]) Try.func43 (by kernel_rfl) rfl rfl rfl (numbers13_ret us1 x28.args _ _ (ro := R2) (fun b hb => (hS.snap b hb).1) (SlV.keep hsv hS.alike fun _ _ h => h) (SlV.keep hs28 hS.alike fun _ _ h => h) hnr (by omega) (by omega)) ?_
  rintro vn w47 ⟨hvn, hbl⟩
  have hal48 := hS.alikeTo hbl (ro' := (roFrom R2 w46 w47)) (fun b hb => .inl hb)
  replace hsub : ∀ b, (roFrom R2 w46 w47) b → ro b ∨ w.heap.size ≤ b := fun b hb => hb.elim (hsub b) (fun h => .inr (Nat.le_trans hS.below.size h.1))
  replace halL2 := halL2.trans hal48
  replace hx := hx.keep hal48
  replace hfin := hfin.keep hal48
  replace ht1 := SlV.keep ht1 hal48 (fun _ _ h => h)
  replace ht2 := SlV.keep ht2 hal48 (fun _ _ h => h)
  replace hch := hch.mono fun _ _ h => h.keep hal48
  replace hsv := SlV.keep hsv hal48 (fun _ _ h => h)
  replace hQk28 := hQk28.keep hal48
  replace hS := hS.readNew hbl
  replace hvn := SlV.keep hvn (ro' := (roFrom R2 w46 w47)) (w' := w47) (Q' := IntC) (fun x hx => ⟨.inr hx, rfl⟩) (fun _ _ h => h)
  obtain ⟨adn, capn, rfl, _, _, _, _⟩ := id hvn
  refine WL.fieldAddr fo_36_5 rfl rfl rfl ?_
  refine WL.store (L' := [(b29, .cells #[.int .i64 x28.op, .int .i64 aa, .int .i64 bb, .int .u64 x28.k, .string x28.name, .slice adn ((x28.args.map (num13 us1)).length) capn] 36 (0, 0)), (b19, .cells #[.int .i64 b.params, .slice adv c capv, .int .i64 b.fin.kind, .int .i64 b.fin.a, .int .i64 b.fin.to, .slice adp b.fin.args.length capp, .int .i64 b.fin.els, .slice adq b.fin.elses.length capq] 32 (0, 0)), (b3, .cells #[.int .i64 0, .slice none 0 0, .int .i64 0, .int .i64 0, .int .i64 0, .slice none 0 0, .int .i64 0, .slice none 0 0] 32 (0, 0)), (b1, .cells #[.int .i64 b.params, .slice adi b.ins.length capi, .int .i64 b.fin.kind, .int .i64 b.fin.a, .int .i64 b.fin.to, .slice adp b.fin.args.length capp, .int .i64 b.fin.els, .slice adq b.fin.elses.length capq] 32 (0, 0))]) 0 rfl rfl rfl rfl siz_28 rfl rfl rfl rfl rfl hS ?_
  clear hS; intro w49 hS
  refine WL.nil (N.seq (W.region (WL.fieldAddr fo_32_1 rfl rfl rfl (WL.load1 (v := .slice adv c capv) one_27 rfl rfl rfl (hS.cell 1 rfl rfl) (WL.loadN (cs := [.int .i64 x28.op, .int .i64 aa, .int .i64 bb, .int .u64 x28.k, .string x28.name, .slice adn ((x28.args.map (num13 us1)).length) capn]) agg_36 rfl rfl rfl rfl (hS.cells 0 (m := 6) rfl rfl) ?_)))))
  refine WL.buildSlice (ps := [(0, .agg #[.int .i64 x28.op, .int .i64 aa, .int .i64 bb, .int .u64 x28.k, .string x28.name, .slice adn ((x28.args.map (num13 us1)).length) capn])]) (cs := [.int .i64 x28.op, .int .i64 aa, .int .i64 bb, .int .u64 x28.k, .string x28.name, .slice adn ((x28.args.map (num13 us1)).length) capn]) Try.underlying27 (tyZero_spec zer_36) rfl rfl rfl rfl (by kernel_rfl) hS ?_
  clear hS; intro w51 b50 hb_b50 hS
  have hIC : InstC (roFrom R2 w46 w47) w47 [.int .i64 x28.op, .int .i64 aa, .int .i64 bb, .int .u64 x28.k, .string x28.name, .slice adn ((x28.args.map (num13 us1)).length) capn] (rinst13 us1 x28) := by rw [hra, hrb]; exact rinstC hQk28 hvn (by omega)
  refine WL.append (r := ⟨.slice adv c capv, 36, 6, c, cs⟩) (cs := [.int .i64 x28.op, .int .i64 aa, .int .i64 bb, .int .u64 x28.k, .string x28.name, .slice adn ((x28.args.map (num13 us1)).length) capn]) 72 Try.underlying27 (tyZero_spec zer_36) byt_36 rfl rfl rfl rfl rfl rfl rfl rfl rfl hS (by unfold maxLen; simp only; omega) (by simp only; omega) ?_
  clear hS; intro w52 v53 hn_v53 hS
  have hrow : w52.ownsRow w.heap.size 36 6 v53 (c + 1) _ := hS.rows _ List.mem_cons_self
  obtain ⟨av53, cv53, rfl, hc1_v53, hc2_v53, hc3_v53⟩ := row_shape hrow
  clear hrow
  refine WL.fieldAddr fo_32_1 rfl rfl rfl ?_
  refine WL.store (L' := [(b29, .cells #[.int .i64 x28.op, .int .i64 aa, .int .i64 bb, .int .u64 x28.k, .string x28.name, .slice adn ((x28.args.map (num13 us1)).length) capn] 36 (0, 0)), (b19, .cells #[.int .i64 b.params, .slice av53 (c + 1) cv53, .int .i64 b.fin.kind, .int .i64 b.fin.a, .int .i64 b.fin.to, .slice adp b.fin.args.length capp, .int .i64 b.fin.els, .slice adq b.fin.elses.length capq] 32 (0, 0)), (b3, .cells #[.int .i64 0, .slice none 0 0, .int .i64 0, .int .i64 0, .int .i64 0, .slice none 0 0, .int .i64 0, .slice none 0 0] 32 (0, 0)), (b1, .cells #[.int .i64 b.params, .slice adi b.ins.length capi, .int .i64 b.fin.kind, .int .i64 b.fin.a, .int .i64 b.fin.to, .slice adp b.fin.args.length capp, .int .i64 b.fin.els, .slice adq b.fin.elses.length capq] 32 (0, 0))]) 1 rfl rfl rfl rfl siz_27 rfl rfl rfl rfl rfl hS ?_
  clear hS; intro w54 hS
  refine WL.nil (N.blk (N.seq (W.region (WL.move rfl rfl rfl ?_))))
  refine WL.add (c := (k : Int) + 1) rfl rfl rfl rfl (rfl) (by omega) ?_
  refine WL.assign rfl rfl rfl (WL.nil ?_)
  have hS := hS.dropN 1
  exact N.loop (k + 1, .slice av53 (c + 1) cv53, cs ++ ([.int .i64 x28.op, .int .i64 aa, .int .i64 bb, .int .u64 x28.k, .string x28.name, .slice adn ((x28.args.map (num13 us1)).length) capn] : List Value), c + 1, .slice adst us1.length capst, (roFrom R2 w46 w47), w47) ⟨rfl, rfl, rfl, rfl, rfl, trivial⟩ ⟨hS, by omega, by rw [hsp]; exact hch.snoc rfl hIC, by rw [hsp, List.length_append, ← hc]; rfl, hsv, halL2, hsub⟩ (by first | omega | (simp only; omega))
 have hc25p : ¬ ((k : Int) < (b.ins.length : Int)) := by simpa using hc25
 refine W.exit (X.seq (X.loop (X.blk (N.seq (W.seq (W.region (WL.move rfl rfl rfl (WL.fieldAddr fo_32_2 rfl rfl rfl (WL.fieldAddr fo_30_3 rfl rfl rfl ?_)))))))))
 refine WL.load1 (v := .slice adp b.fin.args.length capp) one_28 rfl rfl rfl (hS.cell 2 rfl rfl) ?_
 refine WL.callF (vs := [.slice adst us1.length capst, .slice adp b.fin.args.length capp]) Try.func43 (by kernel_rfl) rfl rfl rfl (numbers13_ret us1 b.fin.args _ _ (ro := R2) (fun b hb => (hS.snap b hb).1) (SlV.keep hsv hS.alike fun _ _ h => h) (SlV.keep ht1 hS.alike fun _ _ h => h) hrt.1 (by omega) (by omega)) ?_
 rintro vy9 w55 ⟨hvy9, hbl⟩
 have hal56 := hS.alikeTo hbl (ro' := (roFrom R2 w24 w55)) (fun b hb => .inl hb)
 replace hsub : ∀ b, (roFrom R2 w24 w55) b → ro b ∨ w.heap.size ≤ b := fun b hb => hb.elim (hsub b) (fun h => .inr (Nat.le_trans hS.below.size h.1))
 replace hx := hx.keep hal56
 replace hfin := hfin.keep hal56
 replace ht2 := SlV.keep ht2 hal56 (fun _ _ h => h)
 replace hch := hch.mono fun _ _ h => h.keep hal56
 replace hsv := SlV.keep hsv hal56 (fun _ _ h => h)
 replace hS := hS.readNew hbl
 replace hvy9 := SlV.keep hvy9 (ro' := (roFrom R2 w24 w55)) (w' := w55) (Q' := IntC) (fun x hx => ⟨.inr hx, rfl⟩) (fun _ _ h => h)
 obtain ⟨ady9, capy9, rfl, _, _, _, _⟩ := id hvy9
 refine WL.fieldAddr fo_32_2 rfl rfl rfl (WL.fieldAddr fo_30_3 rfl rfl rfl ?_)
 refine WL.store (L' := [(b19, .cells #[.int .i64 b.params, .slice adv c capv, .int .i64 b.fin.kind, .int .i64 b.fin.a, .int .i64 b.fin.to, .slice ady9 ((b.fin.args.map (num13 us1)).length) capy9, .int .i64 b.fin.els, .slice adq b.fin.elses.length capq] 32 (0, 0)), (b3, .cells #[.int .i64 0, .slice none 0 0, .int .i64 0, .int .i64 0, .int .i64 0, .slice none 0 0, .int .i64 0, .slice none 0 0] 32 (0, 0)), (b1, .cells #[.int .i64 b.params, .slice adi b.ins.length capi, .int .i64 b.fin.kind, .int .i64 b.fin.a, .int .i64 b.fin.to, .slice adp b.fin.args.length capp, .int .i64 b.fin.els, .slice adq b.fin.elses.length capq] 32 (0, 0))]) 0 rfl rfl rfl rfl siz_28 rfl rfl rfl rfl rfl hS ?_
 clear hS; intro w57 hS
 refine WL.nil (N.seq (W.seq (W.region (WL.move rfl rfl rfl (WL.fieldAddr fo_32_2 rfl rfl rfl (WL.fieldAddr fo_30_5 rfl rfl rfl (WL.load1 (v := .slice adq b.fin.elses.length capq) one_28 rfl rfl rfl (hS.cell 2 rfl rfl) ?_)))))))
 refine WL.callF (vs := [.slice adst us1.length capst, .slice adq b.fin.elses.length capq]) Try.func43 (by kernel_rfl) rfl rfl rfl (numbers13_ret us1 b.fin.elses _ _ (ro := (roFrom R2 w24 w55)) (fun b hb => (hS.snap b hb).1) (SlV.keep hsv hS.alike fun _ _ h => h) (SlV.keep ht2 hS.alike fun _ _ h => h) hrt.2.1 (by omega) (by omega)) ?_
 rintro vz9 w58 ⟨hvz9, hbl⟩
 have hal59 := hS.alikeTo hbl (ro' := (roFrom (roFrom R2 w24 w55) w57 w58)) (fun b hb => .inl hb)
 replace hsub : ∀ b, (roFrom (roFrom R2 w24 w55) w57 w58) b → ro b ∨ w.heap.size ≤ b := fun b hb => hb.elim (hsub b) (fun h => .inr (Nat.le_trans hS.below.size h.1))
 replace hx := hx.keep hal59
 replace hfin := hfin.keep hal59
 replace hch := hch.mono fun _ _ h => h.keep hal59
 replace hsv := SlV.keep hsv hal59 (fun _ _ h => h)
 replace hvy9 := SlV.keep hvy9 hal59 (fun _ _ h => h)
 replace hS := hS.readNew hbl
 replace hvz9 := SlV.keep hvz9 (ro' := (roFrom (roFrom R2 w24 w55) w57 w58)) (w' := w58) (Q' := IntC) (fun x hx => ⟨.inr hx, rfl⟩) (fun _ _ h => h)
 obtain ⟨adz9, capz9, rfl, _, _, _, _⟩ := id hvz9
 refine WL.fieldAddr fo_32_2 rfl rfl rfl (WL.fieldAddr fo_30_5 rfl rfl rfl ?_)
 refine WL.store (L' := [(b19, .cells #[.int .i64 b.params, .slice adv c capv, .int .i64 b.fin.kind, .int .i64 b.fin.a, .int .i64 b.fin.to, .slice ady9 ((b.fin.args.map (num13 us1)).length) capy9, .int .i64 b.fin.els, .slice adz9 ((b.fin.elses.map (num13 us1)).length) capz9] 32 (0, 0)), (b3, .cells #[.int .i64 0, .slice none 0 0, .int .i64 0, .int .i64 0, .int .i64 0, .slice none 0 0, .int .i64 0, .slice none 0 0] 32 (0, 0)), (b1, .cells #[.int .i64 b.params, .slice adi b.ins.length capi, .int .i64 b.fin.kind, .int .i64 b.fin.a, .int .i64 b.fin.to, .slice adp b.fin.args.length capp, .int .i64 b.fin.els, .slice adq b.fin.elses.length capq] 32 (0, 0))]) 0 rfl rfl rfl rfl siz_28 rfl rfl rfl rfl rfl hS ?_
 clear hS; intro w60 hS
 refine WL.nil (N.seq (W.seq (W.seq (W.region (WL.fieldAddr fo_32_2 rfl rfl rfl (WL.fieldAddr fo_30_0 rfl rfl rfl (WL.load1 (v := .int .i64 b.fin.kind) one_3 rfl rfl rfl (hS.cell 2 rfl rfl) (WL.bin rfl rfl rfl rfl rfl (WL.nil ?_)))))))))
 refine N.seq ?_
 refine W.cond rfl (fun hc61 => ?_) (fun hc61 => ?_)
 ·
  have hc61p : ¬ (b.fin.kind = 1) := by simpa using hc61
  refine W.region (WL.move rfl rfl rfl (WL.fieldAddr fo_32_2 rfl rfl rfl (WL.fieldAddr fo_30_1 rfl rfl rfl (WL.load1 (v := .int .i64 b.fin.a) one_3 rfl rfl rfl (hS.cell 2 rfl rfl) ?_))))
  refine WL.callF (vs := [.slice adst us1.length capst, .int .i64 b.fin.a]) Try.func42 (by kernel_rfl) rfl rfl rfl (number13_ret us1 _ b.fin.a (ro := (roFrom (roFrom R2 w24 w55) w57 w58)) (fun b hb => (hS.snap b hb).1) (SlV.keep hsv hS.alike fun _ _ h => h) (hrt.2.2.1 (by first | assumption | omega)) (by omega)) ?_
  rintro v w62 ⟨rfl, hbl⟩
  replace hS := hS.grow hbl
  refine WL.fieldAddr fo_32_2 rfl rfl rfl (WL.fieldAddr fo_30_1 rfl rfl rfl ?_)
  refine WL.store (L' := [(b19, .cells #[.int .i64 b.params, .slice adv c capv, .int .i64 b.fin.kind, .int .i64 (num13 us1 b.fin.a), .int .i64 b.fin.to, .slice ady9 ((b.fin.args.map (num13 us1)).length) capy9, .int .i64 b.fin.els, .slice adz9 ((b.fin.elses.map (num13 us1)).length) capz9] 32 (0, 0)), (b3, .cells #[.int .i64 0, .slice none 0 0, .int .i64 0, .int .i64 0, .int .i64 0, .slice none 0 0, .int .i64 0, .slice none 0 0] 32 (0, 0)), (b1, .cells #[.int .i64 b.params, .slice adi b.ins.length capi, .int .i64 b.fin.kind, .int .i64 b.fin.a, .int .i64 b.fin.to, .slice adp b.fin.args.length capp, .int .i64 b.fin.els, .slice adq b.fin.elses.length capq] 32 (0, 0))]) 0 rfl rfl rfl rfl siz_3 rfl rfl rfl rfl rfl hS ?_
  clear hS; intro w63 hS
  refine WL.nil (N.seq (W.seq (W.region (WL.loadN (cs := [.int .i64 b.params, .slice adv c capv, .int .i64 b.fin.kind, .int .i64 (num13 us1 b.fin.a), .int .i64 b.fin.to, .slice ady9 ((b.fin.args.map (num13 us1)).length) capy9, .int .i64 b.fin.els, .slice adz9 ((b.fin.elses.map (num13 us1)).length) capz9]) agg_32 rfl rfl rfl rfl (hS.cells 0 (m := 8) rfl rfl) ?_))))
  refine WL.store (L' := [(b19, .cells #[.int .i64 b.params, .slice adv c capv, .int .i64 b.fin.kind, .int .i64 (num13 us1 b.fin.a), .int .i64 b.fin.to, .slice ady9 ((b.fin.args.map (num13 us1)).length) capy9, .int .i64 b.fin.els, .slice adz9 ((b.fin.elses.map (num13 us1)).length) capz9] 32 (0, 0)), (b3, .cells #[.int .i64 b.params, .slice adv c capv, .int .i64 b.fin.kind, .int .i64 (num13 us1 b.fin.a), .int .i64 b.fin.to, .slice ady9 ((b.fin.args.map (num13 us1)).length) capy9, .int .i64 b.fin.els, .slice adz9 ((b.fin.elses.map (num13 us1)).length) capz9] 32 (0, 0)), (b1, .cells #[.int .i64 b.params, .slice adi b.ins.length capi, .int .i64 b.fin.kind, .int .i64 b.fin.a, .int .i64 b.fin.to, .slice adp b.fin.args.length capp, .int .i64 b.fin.els, .slice adq b.fin.elses.length capq] 32 (0, 0))]) 1 rfl rfl rfl rfl siz_32 rfl rfl rfl rfl rfl hS ?_
  clear hS; intro w64 hS
  refine WL.nil (N.seq ?_)
  refine Fin.retC rfl (v := .agg #[.int .i64 b.params, .slice adv c capv, .int .i64 b.fin.kind, .int .i64 (num13 us1 b.fin.a), .int .i64 b.fin.to, .slice ady9 ((b.fin.args.map (num13 us1)).length) capy9, .int .i64 b.fin.els, .slice adz9 ((b.fin.elses.map (num13 us1)).length) capz9]) rfl (tyAgg_run agg_32 (cs := [.int .i64 b.params, .slice adv c capv, .int .i64 b.fin.kind, .int .i64 (num13 us1 b.fin.a), .int .i64 b.fin.to, .slice ady9 ((b.fin.args.map (num13 us1)).length) capy9, .int .i64 b.fin.els, .slice adz9 ((b.fin.elses.map (num13 us1)).length) capz9]) rfl (hS.cells 1 (m := 8) rfl rfl)) ?_
  have hke : k = b.ins.length := by omega
  have hfin : Alike (roFrom (roFrom R2 w24 w55) w57 w58) w58 (roFrom ro w w64) w64 := fun b hb => ⟨(hsub b hb).elim .inl (fun h => .inr ⟨h, (hS.snap b hb).1⟩), (hS.snap b hb).2⟩
  have hbe : block13 b = ⟨b.params, (at13 b k).2, ⟨b.fin.kind, if b.fin.kind = 1 then b.fin.a else num13 us1 b.fin.a, b.fin.to, b.fin.args.map (num13 us1), b.fin.els, b.fin.elses.map (num13 us1)⟩⟩ := by rw [hke, ← rterm_eq h5 hb hst]; rfl
  rw [hbe, if_neg (by omega)]
  refine ⟨_, rfl, ⟨_, _, rfl, row_slv (hS.rows _ List.mem_cons_self) (hch.mono fun _ _ h => h.keep hfin) hc (fun x hx => .inr ((hS.keys x (by simp only [keysOf, List.mem_append, List.mem_filterMap]; exact .inr ⟨_, List.mem_cons_self, hx⟩)).imp id (·.1))), ?_, hpar⟩, hS.below⟩
  exact ⟨_, _, rfl, SlV.keep hvy9 hfin (fun _ _ h => h), SlV.keep hvz9 hfin (fun _ _ h => h), htk, (show inI (num13 us1 b.fin.a) from (by have := num13_le us1 b.fin.a; unfold inI; omega)), htt, hte⟩
 have hc61p : b.fin.kind = 1 := by simpa using hc61
 refine W.skip (N.seq (W.seq (W.region (WL.loadN (cs := [.int .i64 b.params, .slice adv c capv, .int .i64 b.fin.kind, .int .i64 b.fin.a, .int .i64 b.fin.to, .slice ady9 ((b.fin.args.map (num13 us1)).length) capy9, .int .i64 b.fin.els, .slice adz9 ((b.fin.elses.map (num13 us1)).length) capz9]) agg_32 rfl rfl rfl rfl (hS.cells 0 (m := 8) rfl rfl) ?_))))
 refine WL.store (L' := [(b19, .cells #[.int .i64 b.params, .slice adv c capv, .int .i64 b.fin.kind, .int .i64 b.fin.a, .int .i64 b.fin.to, .slice ady9 ((b.fin.args.map (num13 us1)).length) capy9, .int .i64 b.fin.els, .slice adz9 ((b.fin.elses.map (num13 us1)).length) capz9] 32 (0, 0)), (b3, .cells #[.int .i64 b.params, .slice adv c capv, .int .i64 b.fin.kind, .int .i64 b.fin.a, .int .i64 b.fin.to, .slice ady9 ((b.fin.args.map (num13 us1)).length) capy9, .int .i64 b.fin.els, .slice adz9 ((b.fin.elses.map (num13 us1)).length) capz9] 32 (0, 0)), (b1, .cells #[.int .i64 b.params, .slice adi b.ins.length capi, .int .i64 b.fin.kind, .int .i64 b.fin.a, .int .i64 b.fin.to, .slice adp b.fin.args.length capp, .int .i64 b.fin.els, .slice adq b.fin.elses.length capq] 32 (0, 0))]) 1 rfl rfl rfl rfl siz_32 rfl rfl rfl rfl rfl hS ?_
 clear hS; intro w65 hS
 refine WL.nil (N.seq ?_)
 refine Fin.retC rfl (v := .agg #[.int .i64 b.params, .slice adv c capv, .int .i64 b.fin.kind, .int .i64 b.fin.a, .int .i64 b.fin.to, .slice ady9 ((b.fin.args.map (num13 us1)).length) capy9, .int .i64 b.fin.els, .slice adz9 ((b.fin.elses.map (num13 us1)).length) capz9]) rfl (tyAgg_run agg_32 (cs := [.int .i64 b.params, .slice adv c capv, .int .i64 b.fin.kind, .int .i64 b.fin.a, .int .i64 b.fin.to, .slice ady9 ((b.fin.args.map (num13 us1)).length) capy9, .int .i64 b.fin.els, .slice adz9 ((b.fin.elses.map (num13 us1)).length) capz9]) rfl (hS.cells 1 (m := 8) rfl rfl)) ?_
 have hke : k = b.ins.length := by omega
 have hfin : Alike (roFrom (roFrom R2 w24 w55) w57 w58) w58 (roFrom ro w w65) w65 := fun b hb => ⟨(hsub b hb).elim .inl (fun h => .inr ⟨h, (hS.snap b hb).1⟩), (hS.snap b hb).2⟩
 have hbe : block13 b = ⟨b.params, (at13 b k).2, ⟨b.fin.kind, if b.fin.kind = 1 then b.fin.a else num13 us1 b.fin.a, b.fin.to, b.fin.args.map (num13 us1), b.fin.els, b.fin.elses.map (num13 us1)⟩⟩ := by rw [hke, ← rterm_eq h5 hb hst]; rfl
 rw [hbe, if_pos (by omega)]
 refine ⟨_, rfl, ⟨_, _, rfl, row_slv (hS.rows _ List.mem_cons_self) (hch.mono fun _ _ h => h.keep hfin) hc (fun x hx => .inr ((hS.keys x (by simp only [keysOf, List.mem_append, List.mem_filterMap]; exact .inr ⟨_, List.mem_cons_self, hx⟩)).imp id (·.1))), ?_, hpar⟩, hS.below⟩
 exact ⟨_, _, rfl, SlV.keep hvy9 hfin (fun _ _ h => h), SlV.keep hvz9 hfin (fun _ _ h => h), htk, hta, htt, hte⟩

end Go.Proofs.Ytdlcmhkfglckfaa
