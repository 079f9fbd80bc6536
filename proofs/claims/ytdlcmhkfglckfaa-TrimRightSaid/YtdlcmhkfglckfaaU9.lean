/-
  Contracts of layer 13 (trim). No condition beyond those that each theorem states.
-/
import Derived.Test.YtdlcmhkfglckfaaU8
import Derived.Test.YtdlcmhkfglckfaaL2
namespace Go.Proofs.Ytdlcmhkfglckfaa
open Go.RowKit

set_option maxRecDepth 10000 in
set_option maxHeartbeats 4000000 in
theorem trimAll_ret (f : DFunc) (cf : List Value) {w : World} {ro : Nat → Prop} (hro : ∀ b, ro b → b < w.heap.size) (hx : FuncC ro w cf f) (hok : okFunc f) : Ret Try.prog 4 #[.agg cf.toArray] w fun v w' => v = .bool true ∧ Below w.heap.size w w' := by
  obtain ⟨sbF, rfl, hblF, hnmF, hbdF, hprF⟩ := id hx
  obtain ⟨adbF, capbF, rfl, hbkFa, hbkFb, hbkFc, hbkFd⟩ := id hblF
  have hbkFm : f.blocks.length ≤ 9223372036854775807 := by have h1 := hbkFa; have h2 := hbkFb; unfold maxLen at h2; omega
  refine Ret.enter (P := Try.prog) (n := 84) (args := [.agg #[.string f.name, .int .i64 f.bind, .int .i64 f.params, .slice adbF f.blocks.length capbF]]) (σ := [(0, .agg #[.string f.name, .int .i64 f.bind, .int .i64 f.params, .slice adbF f.blocks.length capbF])]) Try.func4 rfl rfl rfl rfl ?_
  have hS := St.start (ro := ro) hro
  have hsub : ∀ b, ro b → ro b ∨ w.heap.size ≤ b := fun _ h => .inl h
  have halT : Alike ro w ro w := Alike.refl
  refine W.seq ?_
  refine W.region ?_
  refine WL.box (v := .agg #[.string f.name, .int .i64 f.bind, .int .i64 f.params, .slice adbF f.blocks.length capbF]) (cs := [.string f.name, .int .i64 f.bind, .int .i64 f.params, .slice adbF f.blocks.length capbF]) rfl rfl rfl rfl hS ?_
  clear hS; intro w2 b1 hb_b1 hS
  refine WL.assign rfl rfl rfl ?_
  refine WL.nil ?_
  refine N.seq ?_
  refine W.seq ?_
  refine W.region ?_
  refine WL.callF (vs := []) Try.func9 (by kernel_rfl) rfl rfl rfl (shown13_ret (ro := ro) (fun b hb => (hS.snap b hb).1)) ?_
  rintro v w3 ⟨rfl, hbl⟩
  replace hS := hS.grow hbl
  refine WL.assign rfl rfl rfl ?_
  refine WL.nil ?_
  refine N.seq ?_
  refine W.seq ?_
  refine W.region ?_
  refine WL.loadN (cs := [.string f.name, .int .i64 f.bind, .int .i64 f.params, .slice adbF f.blocks.length capbF]) agg_24 rfl rfl rfl rfl (hS.cells 0 (m := 4) rfl rfl) ?_
  refine WL.callF (vs := [.agg #[.string f.name, .int .i64 f.bind, .int .i64 f.params, .slice adbF f.blocks.length capbF]]) Try.func10 (by kernel_rfl) rfl rfl rfl (func5_ret f _ (ro := ro) (fun b hb => (hS.snap b hb).1) (hx.keep hS.alike) hok) ?_
  rintro v w4 ⟨rfl, hbl⟩
  replace hS := hS.grow hbl
  refine WL.assign rfl rfl rfl ?_
  refine WL.nil ?_
  refine N.seq ?_
  refine W.seq ?_
  refine W.seq ?_
  refine W.region ?_
  refine WL.move rfl rfl rfl ?_
  refine WL.not rfl rfl rfl ?_
  refine WL.nil ?_
  refine N.seq ?_
  refine W.cond rfl (fun hc5 => ?_) (fun hc5 => ?_)
  ·
    refine W.seq ?_
    refine W.region ?_
    refine WL.move rfl rfl rfl ?_
    refine WL.assign rfl rfl rfl ?_
    refine WL.nil ?_
    refine N.seq ?_
    refine Fin.ret1 rfl (v := .bool true) rfl ?_
    exact ⟨rfl, hS.below⟩
  ·
    refine W.skip ?_
    refine N.seq ?_
    refine W.seq ?_
    refine W.region ?_
    refine WL.loadN (cs := [.string f.name, .int .i64 f.bind, .int .i64 f.params, .slice adbF f.blocks.length capbF]) agg_24 rfl rfl rfl rfl (hS.cells 0 (m := 4) rfl rfl) ?_
    have hf5 : func5 f = true := by simpa using hc5
    have hgo := goes13_of5 hf5
    have hsc : ∀ b ∈ f.blocks, Sc13 b := fun b hb => sc13_of5 hf5 hb
    have hl16 := (func5_all hf5).1
    refine WL.callF (vs := [.agg #[.string f.name, .int .i64 f.bind, .int .i64 f.params, .slice adbF f.blocks.length capbF]]) Try.func13 (by kernel_rfl) rfl rfl rfl (func13_ret f _ (ro := ro) (fun b hb => (hS.snap b hb).1) (hx.keep hS.alike) hgo (fun b hb => (hsc b hb).ok) (by omega)) ?_
    rintro v w6 ⟨csq, rfl, hF, hbl⟩
    have hgo2 := goes_func13 hgo; have hsc2 := sc_func13 hsc; have hrl := reached13_length (func13 f); have hfl : (func13 f).blocks.length ≤ f.blocks.length := outs13_len _ _ _
    have har := fun (j : Nat) (hj : j < (func13 f).blocks.length) => all_func13 hgo hj
    have hai := fun {c : DBlock} (hc : c ∈ (func13 f).blocks) {j : Nat} {y : DInst} (hy : c.ins[j]? = some y) => all_ins13 hsc hc hy
    obtain ⟨Q, hQe⟩ : ∃ z, z = func13 f := ⟨_, rfl⟩
    rw [← hQe] at hF hgo2 hsc2 hrl hfl har hai
    have hal7 := hS.alikeTo hbl (ro' := (roFrom ro w4 w6)) (fun b hb => .inl hb)
    replace hsub : ∀ b, (roFrom ro w4 w6) b → ro b ∨ w.heap.size ≤ b := fun b hb => hb.elim (hsub b) (fun h => .inr (Nat.le_trans hS.below.size h.1))
    replace halT := halT.trans hal7
    replace hx := hx.keep hal7
    replace hbkFd : Elems (roFrom ro w4 w6) w6 8 (BlockC (roFrom ro w4 w6) w6) adbF f.blocks := hbkFd.keep hal7 (fun _ _ h => h.keep hal7)
    replace hblF : SlV (roFrom ro w4 w6) w6 8 (BlockC (roFrom ro w4 w6) w6) (.slice adbF f.blocks.length capbF) f.blocks := SlV.keep hblF hal7 (fun _ _ h => h.keep hal7)
    replace hS := hS.readNew hbl
    obtain ⟨sbQ, rfl, hblQ, hnmQ, hbdQ, hprQ⟩ := id hF
    obtain ⟨adbQ, capbQ, rfl, hbkQa, hbkQb, hbkQc, hbkQd⟩ := id hblQ
    have hbkQm : Q.blocks.length ≤ 9223372036854775807 := by have h1 := hbkQa; have h2 := hbkQb; unfold maxLen at h2; omega
    refine WL.alloc (tyZero_spec zer_24) rfl rfl hS ?_
    clear hS; intro w9 b8 hb_b8 hS
    refine WL.store (cs := [.string Q.name, .int .i64 Q.bind, .int .i64 Q.params, .slice adbQ Q.blocks.length capbQ]) (c' := #[.string Q.name, .int .i64 Q.bind, .int .i64 Q.params, .slice adbQ Q.blocks.length capbQ]) (L' := [(b8, .cells #[.string Q.name, .int .i64 Q.bind, .int .i64 Q.params, .slice adbQ Q.blocks.length capbQ] 24 (0, 0)), (b1, .cells #[.string f.name, .int .i64 f.bind, .int .i64 f.params, .slice adbF f.blocks.length capbF] 24 (0, 0))]) 0 rfl rfl rfl rfl siz_24 rfl rfl rfl rfl rfl hS ?_
    clear hS; intro w10 hS
    refine WL.nil ?_
    refine N.seq ?_
    refine W.seq ?_
    refine W.region ?_
    refine WL.loadN (cs := [.string Q.name, .int .i64 Q.bind, .int .i64 Q.params, .slice adbQ Q.blocks.length capbQ]) agg_24 rfl rfl rfl rfl (hS.cells 0 (m := 4) rfl rfl) ?_
    refine WL.callF (vs := [.agg #[.string Q.name, .int .i64 Q.bind, .int .i64 Q.params, .slice adbQ Q.blocks.length capbQ]]) Try.func14 (by kernel_rfl) rfl rfl rfl (reached_ret Q _ (ro := (roFrom ro w4 w6)) (fun b hb => (hS.snap b hb).1) (hF.keep hS.alike) hgo2 (by omega)) ?_
    rintro vi w11 ⟨hvi, hbl⟩
    have hal12 := hS.alikeTo hbl (ro' := (roFrom (roFrom ro w4 w6) w10 w11)) (fun b hb => .inl hb)
    replace hsub : ∀ b, (roFrom (roFrom ro w4 w6) w10 w11) b → ro b ∨ w.heap.size ≤ b := fun b hb => hb.elim (hsub b) (fun h => .inr (Nat.le_trans hS.below.size h.1))
    replace halT := halT.trans hal12
    replace hx := hx.keep hal12
    replace hbkFd : Elems (roFrom (roFrom ro w4 w6) w10 w11) w11 8 (BlockC (roFrom (roFrom ro w4 w6) w10 w11) w11) adbF f.blocks := hbkFd.keep hal12 (fun _ _ h => h.keep hal12)
    replace hblF : SlV (roFrom (roFrom ro w4 w6) w10 w11) w11 8 (BlockC (roFrom (roFrom ro w4 w6) w10 w11) w11) (.slice adbF f.blocks.length capbF) f.blocks := SlV.keep hblF hal12 (fun _ _ h => h.keep hal12)
    replace hF := hF.keep hal12
    replace hbkQd : Elems (roFrom (roFrom ro w4 w6) w10 w11) w11 8 (BlockC (roFrom (roFrom ro w4 w6) w10 w11) w11) adbQ Q.blocks := hbkQd.keep hal12 (fun _ _ h => h.keep hal12)
    replace hblQ : SlV (roFrom (roFrom ro w4 w6) w10 w11) w11 8 (BlockC (roFrom (roFrom ro w4 w6) w10 w11) w11) (.slice adbQ Q.blocks.length capbQ) Q.blocks := SlV.keep hblQ hal12 (fun _ _ h => h.keep hal12)
    replace hS := hS.readNew hbl
    replace hvi := SlV.keep hvi (ro' := (roFrom (roFrom ro w4 w6) w10 w11)) (w' := w11) (Q' := BoolC) (fun x hx => ⟨.inr hx, rfl⟩) (fun _ _ h => h)
    obtain ⟨adn, capn, rfl, hvia, hvib, hvic, hvid⟩ := id hvi
    have hvim : (reached13 Q).length ≤ 9223372036854775807 := by have h1 := hvia; have h2 := hvib; unfold maxLen at h2; omega
    refine WL.assign rfl rfl rfl ?_
    refine WL.nil ?_
    refine N.seq ?_
    refine W.seq ?_
    refine W.seq ?_
    refine W.region ?_
    refine WL.move rfl rfl rfl ?_
    refine WL.lenSlice Try.underlying40 rfl rfl rfl ?_
    refine WL.fieldAddr fo_24_3 rfl rfl rfl ?_
    refine WL.load1 (v := .slice adbQ Q.blocks.length capbQ) one_22 rfl rfl rfl (hS.cell 0 rfl rfl) ?_
    refine WL.lenSlice Try.underlying22 rfl rfl rfl ?_
    refine WL.bin rfl rfl rfl rfl rfl ?_
    refine WL.set 27 (v' := .bool false) rfl (by rw [decide_eq_true (by omega)]; rfl) ?_
    refine WL.nil ?_
    refine N.seq ?_
    refine W.condF rfl ?_
    refine W.skip ?_
    refine N.seq ?_
    refine W.seq ?_
    refine W.seq ?_
    refine W.region ?_
    refine WL.assign rfl rfl rfl ?_
    refine WL.nil ?_
    refine N.seq ?_
    refine W.block ?_
    refine W.loop (α := Nat × (Nat → Prop) × World) (fun ⟨k, R2, ws2⟩ => [(0, .agg #[.string f.name, .int .i64 f.bind, .int .i64 f.params, .slice adbF f.blocks.length capbF]), (1, .pointer (some ⟨b1, 0, none⟩)), (3, .bool true), (4, .bool (func5 f)), (5, .pointer (some ⟨b8, 0, none⟩)), (6, .slice adn ((reached13 Q).length) capn), (7, .int .i64 (k : Int)), (12, .bool true), (13, .agg #[.string f.name, .int .i64 f.bind, .int .i64 f.params, .slice adbF f.blocks.length capbF]), (14, .bool (func5 f)), (15, .bool (func5 f)), (16, .bool (!(func5 f))), (18, .agg #[.string f.name, .int .i64 f.bind, .int .i64 f.params, .slice adbF f.blocks.length capbF]), (19, .agg #[.string Q.name, .int .i64 Q.bind, .int .i64 Q.params, .slice adbQ Q.blocks.length capbQ]), (20, .agg #[.string Q.name, .int .i64 Q.bind, .int .i64 Q.params, .slice adbQ Q.blocks.length capbQ]), (21, .slice adn ((reached13 Q).length) capn), (22, .slice adn ((reached13 Q).length) capn), (23, .int .i64 ((reached13 Q).length : Int)), (24, .pointer (some ⟨b8, 3, none⟩)), (25, .slice adbQ Q.blocks.length capbQ), (26, .int .i64 (Q.blocks.length : Int)), (27, .bool false)]) (fun ⟨k, R2, ws2⟩ u => St w ws2 u R2 [(b8, .cells #[.string Q.name, .int .i64 Q.bind, .int .i64 Q.params, .slice adbQ Q.blocks.length capbQ] 24 (0, 0)), (b1, .cells #[.string f.name, .int .i64 f.bind, .int .i64 f.params, .slice adbF f.blocks.length capbF] 24 (0, 0))] [] ∧ k ≤ Q.blocks.length ∧ Alike (roFrom (roFrom ro w4 w6) w10 w11) w11 R2 ws2 ∧ (∀ b, R2 b → ro b ∨ w.heap.size ≤ b)) (fun ⟨k, R2, ws2⟩ => Q.blocks.length - k) (0, (roFrom (roFrom ro w4 w6) w10 w11), w11) ⟨rfl, rfl, rfl, rfl, rfl, rfl, rfl, rfl, rfl, rfl, rfl, rfl, rfl, rfl, rfl, rfl, rfl, rfl, rfl, rfl, rfl, rfl, trivial⟩ ⟨hS, Nat.zero_le _, Alike.refl, hsub⟩ ?_
    clear hS
    rintro ⟨k, R2, ws2⟩ w13 ⟨hS, hk, halL0, hsub⟩
    replace halT := halT.trans halL0
    replace hx := hx.keep halL0
    replace hbkFd : Elems R2 ws2 8 (BlockC R2 ws2) adbF f.blocks := hbkFd.keep halL0 (fun _ _ h => h.keep halL0)
    replace hblF : SlV R2 ws2 8 (BlockC R2 ws2) (.slice adbF f.blocks.length capbF) f.blocks := SlV.keep hblF halL0 (fun _ _ h => h.keep halL0)
    replace hF := hF.keep halL0
    replace hbkQd : Elems R2 ws2 8 (BlockC R2 ws2) adbQ Q.blocks := hbkQd.keep halL0 (fun _ _ h => h.keep halL0)
    replace hblQ : SlV R2 ws2 8 (BlockC R2 ws2) (.slice adbQ Q.blocks.length capbQ) Q.blocks := SlV.keep hblQ halL0 (fun _ _ h => h.keep halL0)
    replace hvid : Elems R2 ws2 1 BoolC adn (reached13 Q) := hvid.keep halL0 (fun _ _ h => h)
    replace hvi : SlV R2 ws2 1 BoolC (.slice adn ((reached13 Q).length) capn) (reached13 Q) := SlV.keep hvi halL0 (fun _ _ h => h)
    refine W.seq ?_
    refine W.seq ?_
    refine W.region ?_
    refine WL.move rfl rfl rfl ?_
    refine WL.fieldAddr fo_24_3 rfl rfl rfl ?_
    refine WL.load1 (v := .slice adbQ Q.blocks.length capbQ) one_22 rfl rfl rfl (hS.cell 0 rfl rfl) ?_
    refine WL.lenSlice Try.underlying22 rfl rfl rfl ?_
    refine WL.bin rfl rfl rfl rfl rfl ?_
    refine WL.nil ?_
    refine N.seq ?_
    refine W.cond rfl (fun hc14 => ?_) (fun hc14 => ?_)
    ·
      have hc14p : (k : Int) < (Q.blocks.length : Int) := by simpa using hc14
      refine W.skip ?_
      refine N.seq ?_
      refine W.seq ?_
      refine W.block ?_
      refine W.seq ?_
      refine W.region ?_
      refine WL.fieldAddr fo_24_3 rfl rfl rfl ?_
      refine WL.load1 (v := .slice adbQ Q.blocks.length capbQ) one_22 rfl rfl rfl (hS.cell 0 rfl rfl) ?_
      refine WL.move rfl rfl rfl ?_
      have hj15 : k < Q.blocks.length := by omega
      obtain ⟨x15, hx15⟩ : ∃ zz, Q.blocks[k]? = some zz := ⟨_, List.getElem?_eq_getElem hj15⟩
      obtain ⟨b15, o15, cs15, hE15, hr15, hl15, hc15, hQ15⟩ := hbkQd k _ hx15
      obtain ⟨si15, tsx15, rfl, hin15, hfin15, hpar15⟩ := id hQ15
      obtain ⟨adi15, capi15, rfl, hin15a, hin15b, hin15c, hin15d⟩ := id hin15
      have hin15m : x15.ins.length ≤ 9223372036854775807 := by have h1 := hin15a; have h2 := hin15b; unfold maxLen at h2; omega
      obtain ⟨sp15, sq15, rfl, ht115, ht215, htk15, hta15, htt15, hte15⟩ := id hfin15
      obtain ⟨adp15, capp15, rfl, htp15a, htp15b, htp15c, htp15d⟩ := id ht115
      have htp15m : x15.fin.args.length ≤ 9223372036854775807 := by have h1 := htp15a; have h2 := htp15b; unfold maxLen at h2; omega
      obtain ⟨adq15, capq15, rfl, htq15a, htq15b, htq15c, htq15d⟩ := id ht215
      have htq15m : x15.fin.elses.length ≤ 9223372036854775807 := by have h1 := htq15a; have h2 := htq15b; unfold maxLen at h2; omega
      refine WL.indexAddrE (j := k) Try.underlying22 isz_32 rfl rfl rfl rfl hj15 hE15 ?_
      refine WL.loadN (cs := [.int .i64 x15.params, .slice adi15 x15.ins.length capi15, .int .i64 x15.fin.kind, .int .i64 x15.fin.a, .int .i64 x15.fin.to, .slice adp15 x15.fin.args.length capp15, .int .i64 x15.fin.els, .slice adq15 x15.fin.elses.length capq15]) agg_32 rfl rfl rfl rfl (hS.roCells hr15 hc15) ?_
      refine WL.alloc (tyZero_spec zer_32) rfl rfl hS ?_
      clear hS; intro w17 b16 hb_b16 hS
      refine WL.store (cs := [.int .i64 x15.params, .slice adi15 x15.ins.length capi15, .int .i64 x15.fin.kind, .int .i64 x15.fin.a, .int .i64 x15.fin.to, .slice adp15 x15.fin.args.length capp15, .int .i64 x15.fin.els, .slice adq15 x15.fin.elses.length capq15]) (c' := #[.int .i64 x15.params, .slice adi15 x15.ins.length capi15, .int .i64 x15.fin.kind, .int .i64 x15.fin.a, .int .i64 x15.fin.to, .slice adp15 x15.fin.args.length capp15, .int .i64 x15.fin.els, .slice adq15 x15.fin.elses.length capq15]) (L' := [(b16, .cells #[.int .i64 x15.params, .slice adi15 x15.ins.length capi15, .int .i64 x15.fin.kind, .int .i64 x15.fin.a, .int .i64 x15.fin.to, .slice adp15 x15.fin.args.length capp15, .int .i64 x15.fin.els, .slice adq15 x15.fin.elses.length capq15] 32 (0, 0)), (b8, .cells #[.string Q.name, .int .i64 Q.bind, .int .i64 Q.params, .slice adbQ Q.blocks.length capbQ] 24 (0, 0)), (b1, .cells #[.string f.name, .int .i64 f.bind, .int .i64 f.params, .slice adbF f.blocks.length capbF] 24 (0, 0))]) 0 rfl rfl rfl rfl siz_32 rfl rfl rfl rfl rfl hS ?_
      clear hS; intro w18 hS
      refine WL.nil ?_
      refine N.seq ?_
      refine W.seq ?_
      refine W.region ?_
      refine WL.loadN (cs := [.int .i64 x15.params, .slice adi15 x15.ins.length capi15, .int .i64 x15.fin.kind, .int .i64 x15.fin.a, .int .i64 x15.fin.to, .slice adp15 x15.fin.args.length capp15, .int .i64 x15.fin.els, .slice adq15 x15.fin.elses.length capq15]) agg_32 rfl rfl rfl rfl (hS.cells 0 (m := 8) rfl rfl) ?_
      have hscx := hsc2 _ (List.mem_of_getElem? hx15)
      have hp0 := hscx.ok.p0; have hp1 := hscx.ok.p1; have hpn := hscx.ok.n; have hul := used13_length x15
      refine WL.callF (vs := [.agg #[.int .i64 x15.params, .slice adi15 x15.ins.length capi15, .int .i64 x15.fin.kind, .int .i64 x15.fin.a, .int .i64 x15.fin.to, .slice adp15 x15.fin.args.length capp15, .int .i64 x15.fin.els, .slice adq15 x15.fin.elses.length capq15]]) Try.func15 (by kernel_rfl) rfl rfl rfl (used_ret x15 _ (ro := R2) (fun b hb => (hS.snap b hb).1) (hQ15.keep hS.alike) hscx.ok) ?_
      rintro vu w19 ⟨hvu, hbl⟩
      have hal20 := hS.alikeTo hbl (ro' := (roFrom R2 w18 w19)) (fun b hb => .inl hb)
      replace hsub : ∀ b, (roFrom R2 w18 w19) b → ro b ∨ w.heap.size ≤ b := fun b hb => hb.elim (hsub b) (fun h => .inr (Nat.le_trans hS.below.size h.1))
      replace halT := halT.trans hal20
      replace halL0 := halL0.trans hal20
      replace hx := hx.keep hal20
      replace hbkFd : Elems (roFrom R2 w18 w19) w19 8 (BlockC (roFrom R2 w18 w19) w19) adbF f.blocks := hbkFd.keep hal20 (fun _ _ h => h.keep hal20)
      replace hblF : SlV (roFrom R2 w18 w19) w19 8 (BlockC (roFrom R2 w18 w19) w19) (.slice adbF f.blocks.length capbF) f.blocks := SlV.keep hblF hal20 (fun _ _ h => h.keep hal20)
      replace hF := hF.keep hal20
      replace hbkQd : Elems (roFrom R2 w18 w19) w19 8 (BlockC (roFrom R2 w18 w19) w19) adbQ Q.blocks := hbkQd.keep hal20 (fun _ _ h => h.keep hal20)
      replace hblQ : SlV (roFrom R2 w18 w19) w19 8 (BlockC (roFrom R2 w18 w19) w19) (.slice adbQ Q.blocks.length capbQ) Q.blocks := SlV.keep hblQ hal20 (fun _ _ h => h.keep hal20)
      replace hvid : Elems (roFrom R2 w18 w19) w19 1 BoolC adn (reached13 Q) := hvid.keep hal20 (fun _ _ h => h)
      replace hvi : SlV (roFrom R2 w18 w19) w19 1 BoolC (.slice adn ((reached13 Q).length) capn) (reached13 Q) := SlV.keep hvi hal20 (fun _ _ h => h)
      replace hQ15 := hQ15.keep hal20
      replace hin15d : Elems (roFrom R2 w18 w19) w19 6 (InstC (roFrom R2 w18 w19) w19) adi15 x15.ins := hin15d.keep hal20 (fun _ _ h => h.keep hal20)
      replace hin15 : SlV (roFrom R2 w18 w19) w19 6 (InstC (roFrom R2 w18 w19) w19) (.slice adi15 x15.ins.length capi15) x15.ins := SlV.keep hin15 hal20 (fun _ _ h => h.keep hal20)
      replace hfin15 := hfin15.keep hal20
      replace htp15d : Elems (roFrom R2 w18 w19) w19 1 IntC adp15 x15.fin.args := htp15d.keep hal20 (fun _ _ h => h)
      replace ht115 : SlV (roFrom R2 w18 w19) w19 1 IntC (.slice adp15 x15.fin.args.length capp15) x15.fin.args := SlV.keep ht115 hal20 (fun _ _ h => h)
      replace htq15d : Elems (roFrom R2 w18 w19) w19 1 IntC adq15 x15.fin.elses := htq15d.keep hal20 (fun _ _ h => h)
      replace ht215 : SlV (roFrom R2 w18 w19) w19 1 IntC (.slice adq15 x15.fin.elses.length capq15) x15.fin.elses := SlV.keep ht215 hal20 (fun _ _ h => h)
      replace hc15 := hc15.keep (hal20 _ hr15).2
      replace hr15 := (hal20 _ hr15).1
      replace hS := hS.readNew hbl
      replace hvu := SlV.keep hvu (ro' := (roFrom R2 w18 w19)) (w' := w19) (Q' := BoolC) (fun x hx => ⟨.inr hx, rfl⟩) (fun _ _ h => h)
      obtain ⟨adu, capu, rfl, hvua, hvub, hvuc, hvud⟩ := id hvu
      have hvum : (used13 x15).length ≤ 9223372036854775807 := by have h1 := hvua; have h2 := hvub; unfold maxLen at h2; omega
      refine WL.assign rfl rfl rfl ?_
      refine WL.nil ?_
      refine N.seq ?_
      refine W.seq ?_
      refine W.seq ?_
      refine W.region ?_
      refine WL.move rfl rfl rfl ?_
      refine WL.move rfl rfl rfl ?_
      have hj21 : k < (reached13 Q).length := by omega
      obtain ⟨x21, hx21⟩ : ∃ zz, (reached13 Q)[k]? = some zz := ⟨_, List.getElem?_eq_getElem hj21⟩
      obtain ⟨b21, o21, cs21, hE21, hr21, hl21, hc21, hQ21⟩ := hvid k _ hx21
      cases hQ21
      refine WL.indexAddrE (j := k) Try.underlying40 isz_4 rfl rfl rfl rfl hj21 hE21 ?_
      refine WL.load1 (v := .bool x21) one_4 rfl rfl rfl (hS.roCells hr21 hc21 0 _ rfl) ?_
      refine WL.not rfl rfl rfl ?_
      refine WL.move rfl rfl rfl ?_
      cases hg22 : (!x21)
      ·
        refine WL.move rfl rfl rfl ?_
        refine WL.lenSlice Try.underlying40 rfl rfl rfl ?_
        refine WL.fieldAddr fo_32_0 rfl rfl rfl ?_
        refine WL.load1 (v := .int .i64 x15.params) one_3 rfl rfl rfl (hS.cell 0 rfl rfl) ?_
        refine WL.fieldAddr fo_32_1 rfl rfl rfl ?_
        refine WL.load1 (v := .slice adi15 x15.ins.length capi15) one_27 rfl rfl rfl (hS.cell 0 rfl rfl) ?_
        refine WL.lenSlice Try.underlying27 rfl rfl rfl ?_
        refine WL.add (c := x15.params + (x15.ins.length : Int)) rfl rfl rfl rfl (rfl) (by omega) ?_
        refine WL.bin rfl rfl rfl rfl rfl ?_
        refine WL.set 56 (v' := .bool false) rfl (by rw [decide_eq_true (by omega)]; rfl) ?_
        refine WL.pick (v := .bool false) rfl rfl rfl rfl rfl rfl ?_
        refine WL.nil ?_
        refine N.seq ?_
        refine W.condF rfl ?_
        refine W.skip ?_
        refine N.seq ?_
        refine W.seq ?_
        refine W.region ?_
        refine WL.assign rfl rfl rfl ?_
        refine WL.nil ?_
        refine N.seq ?_
        refine W.block ?_
        refine W.loop (α := Nat) (fun (i : Nat) => [(0, .agg #[.string f.name, .int .i64 f.bind, .int .i64 f.params, .slice adbF f.blocks.length capbF]), (1, .pointer (some ⟨b1, 0, none⟩)), (3, .bool true), (4, .bool (func5 f)), (5, .pointer (some ⟨b8, 0, none⟩)), (6, .slice adn ((reached13 Q).length) capn), (7, .int .i64 (k : Int)), (8, .pointer (some ⟨b16, 0, none⟩)), (9, .slice adu ((used13 x15).length) capu), (10, .int .i64 (i : Int)), (12, .bool true), (13, .agg #[.string f.name, .int .i64 f.bind, .int .i64 f.params, .slice adbF f.blocks.length capbF]), (14, .bool (func5 f)), (15, .bool (func5 f)), (16, .bool (!(func5 f))), (18, .agg #[.string f.name, .int .i64 f.bind, .int .i64 f.params, .slice adbF f.blocks.length capbF]), (19, .agg #[.string Q.name, .int .i64 Q.bind, .int .i64 Q.params, .slice adbQ Q.blocks.length capbQ]), (20, .agg #[.string Q.name, .int .i64 Q.bind, .int .i64 Q.params, .slice adbQ Q.blocks.length capbQ]), (21, .slice adn ((reached13 Q).length) capn), (22, .slice adn ((reached13 Q).length) capn), (23, .int .i64 ((reached13 Q).length : Int)), (24, .pointer (some ⟨b8, 3, none⟩)), (25, .slice adbQ Q.blocks.length capbQ), (26, .int .i64 (Q.blocks.length : Int)), (27, .bool false), (28, .int .i64 (k : Int)), (29, .pointer (some ⟨b8, 3, none⟩)), (30, .slice adbQ Q.blocks.length capbQ), (31, .int .i64 (Q.blocks.length : Int)), (32, .bool (decide ((k : Int) < (Q.blocks.length : Int)))), (35, .pointer (some ⟨b8, 3, none⟩)), (36, .slice adbQ Q.blocks.length capbQ), (37, .int .i64 (k : Int)), (38, .pointer (some ⟨b15, o15 + k * 8, none⟩)), (39, .agg #[.int .i64 x15.params, .slice adi15 x15.ins.length capi15, .int .i64 x15.fin.kind, .int .i64 x15.fin.a, .int .i64 x15.fin.to, .slice adp15 x15.fin.args.length capp15, .int .i64 x15.fin.els, .slice adq15 x15.fin.elses.length capq15]), (40, .agg #[.int .i64 x15.params, .slice adi15 x15.ins.length capi15, .int .i64 x15.fin.kind, .int .i64 x15.fin.a, .int .i64 x15.fin.to, .slice adp15 x15.fin.args.length capp15, .int .i64 x15.fin.els, .slice adq15 x15.fin.elses.length capq15]), (41, .slice adu ((used13 x15).length) capu), (42, .slice adn ((reached13 Q).length) capn), (43, .int .i64 (k : Int)), (44, .pointer (some ⟨b21, o21 + k * 1, none⟩)), (45, .bool x21), (46, .bool false), (47, .bool false), (48, .slice adu ((used13 x15).length) capu), (49, .int .i64 ((used13 x15).length : Int)), (50, .pointer (some ⟨b16, 0, none⟩)), (51, .int .i64 x15.params), (52, .pointer (some ⟨b16, 1, none⟩)), (53, .slice adi15 x15.ins.length capi15), (54, .int .i64 (x15.ins.length : Int)), (55, .int .i64 (x15.params + (x15.ins.length : Int))), (56, .bool false), (57, .bool false)]) (fun (i : Nat) u => St w w19 u (roFrom R2 w18 w19) [(b16, .cells #[.int .i64 x15.params, .slice adi15 x15.ins.length capi15, .int .i64 x15.fin.kind, .int .i64 x15.fin.a, .int .i64 x15.fin.to, .slice adp15 x15.fin.args.length capp15, .int .i64 x15.fin.els, .slice adq15 x15.fin.elses.length capq15] 32 (0, 0)), (b8, .cells #[.string Q.name, .int .i64 Q.bind, .int .i64 Q.params, .slice adbQ Q.blocks.length capbQ] 24 (0, 0)), (b1, .cells #[.string f.name, .int .i64 f.bind, .int .i64 f.params, .slice adbF f.blocks.length capbF] 24 (0, 0))] [] ∧ i ≤ x15.ins.length) (fun (i : Nat) => x15.ins.length - i) 0 ⟨rfl, rfl, rfl, rfl, rfl, rfl, rfl, rfl, rfl, rfl, rfl, rfl, rfl, rfl, rfl, rfl, rfl, rfl, rfl, rfl, rfl, rfl, rfl, rfl, rfl, rfl, rfl, rfl, rfl, rfl, rfl, rfl, rfl, rfl, rfl, rfl, rfl, rfl, rfl, rfl, rfl, rfl, rfl, rfl, rfl, rfl, rfl, rfl, rfl, rfl, rfl, rfl, rfl, trivial⟩ ⟨hS, Nat.zero_le _⟩ ?_
        clear hS
        rintro i w23 ⟨hS, hi⟩
        refine W.seq ?_
        refine W.seq ?_
        refine W.region ?_
        refine WL.move rfl rfl rfl ?_
        refine WL.fieldAddr fo_32_1 rfl rfl rfl ?_
        refine WL.load1 (v := .slice adi15 x15.ins.length capi15) one_27 rfl rfl rfl (hS.cell 0 rfl rfl) ?_
        refine WL.lenSlice Try.underlying27 rfl rfl rfl ?_
        refine WL.bin rfl rfl rfl rfl rfl ?_
        refine WL.nil ?_
        refine N.seq ?_
        refine W.cond rfl (fun hc24 => ?_) (fun hc24 => ?_)
        ·
          have hc24p : (i : Int) < (x15.ins.length : Int) := by simpa using hc24
          refine W.skip ?_
          refine N.seq ?_
          refine W.seq ?_
          refine W.block ?_
          refine W.seq ?_
          refine W.region ?_
          refine WL.fieldAddr fo_32_1 rfl rfl rfl ?_
          refine WL.load1 (v := .slice adi15 x15.ins.length capi15) one_27 rfl rfl rfl (hS.cell 0 rfl rfl) ?_
          refine WL.move rfl rfl rfl ?_
          have hj25 : i < x15.ins.length := by omega
          obtain ⟨x25, hx25⟩ : ∃ zz, x15.ins[i]? = some zz := ⟨_, List.getElem?_eq_getElem hj25⟩
          obtain ⟨b25, o25, cs25, hE25, hr25, hl25, hc25, hQ25⟩ := hin15d i _ hx25
          have hQk25 := hQ25
          obtain ⟨sv25, rfl, hs25, ho25, ha25, hb25, hk25, hn25⟩ := hQ25
          obtain ⟨ad25, cap25, rfl, hs25a, hs25b, hs25c, hs25d⟩ := id hs25
          have hs25m : x25.args.length ≤ 9223372036854775807 := by have h1 := hs25a; have h2 := hs25b; unfold maxLen at h2; omega
          refine WL.indexAddrE (j := i) Try.underlying27 isz_36 rfl rfl rfl rfl hj25 hE25 ?_
          refine WL.loadN (cs := [.int .i64 x25.op, .int .i64 x25.a, .int .i64 x25.b, .int .u64 x25.k, .string x25.name, .slice ad25 x25.args.length cap25]) agg_36 rfl rfl rfl rfl (hS.roCells hr25 hc25) ?_
          refine WL.callF (vs := [.agg #[.int .i64 x25.op, .int .i64 x25.a, .int .i64 x25.b, .int .u64 x25.k, .string x25.name, .slice ad25 x25.args.length cap25]]) Try.func12 (by kernel_rfl) rfl rfl rfl (rdoes_ret x25 _ (ro := (roFrom R2 w18 w19)) (fun b hb => (hS.snap b hb).1) (hQk25.keep hS.alike)) ?_
          rintro v w26 ⟨rfl, hbl⟩
          replace hS := hS.grow hbl
          refine WL.assign rfl rfl rfl ?_
          refine WL.nil ?_
          refine N.seq ?_
          refine W.seq ?_
          refine W.region ?_
          refine WL.move rfl rfl rfl ?_
          refine WL.not rfl rfl rfl ?_
          refine WL.move rfl rfl rfl ?_
          cases hg27 : (!(does13 x25))
          ·
            refine WL.skp rfl rfl ?_
            refine WL.skp rfl rfl ?_
            refine WL.skp rfl rfl ?_
            refine WL.skp rfl rfl ?_
            refine WL.skp rfl rfl ?_
            refine WL.skp rfl rfl ?_
            refine WL.skp rfl rfl ?_
            refine WL.skp rfl rfl ?_
            refine WL.pick (v := .bool false) rfl rfl rfl rfl rfl rfl ?_
            refine WL.nil ?_
            refine N.seq ?_
            refine W.condF rfl ?_
            refine W.skip ?_
            refine N.blk ?_
            refine N.seq ?_
            refine W.region ?_
            refine WL.move rfl rfl rfl ?_
            refine WL.add (c := (i : Int) + 1) rfl rfl rfl rfl (rfl) (by omega) ?_
            refine WL.assign rfl rfl rfl ?_
            refine WL.nil ?_
            exact N.loop (i + 1) ⟨rfl, rfl, rfl, rfl, rfl, rfl, rfl, rfl, rfl, rfl, rfl, rfl, rfl, rfl, rfl, rfl, rfl, rfl, rfl, rfl, rfl, rfl, rfl, rfl, rfl, rfl, rfl, rfl, rfl, rfl, rfl, rfl, rfl, rfl, rfl, rfl, rfl, rfl, rfl, rfl, rfl, rfl, rfl, rfl, rfl, rfl, rfl, rfl, rfl, rfl, rfl, rfl, rfl, trivial⟩ ⟨hS, by omega⟩ (by first | omega | (simp only; omega))
          ·
            refine WL.move rfl rfl rfl ?_
            refine WL.fieldAddr fo_32_0 rfl rfl rfl ?_
            refine WL.load1 (v := .int .i64 x15.params) one_3 rfl rfl rfl (hS.cell 0 rfl rfl) ?_
            refine WL.move rfl rfl rfl ?_
            refine WL.add (c := ((x15.params.toNat + i : Nat) : Int)) rfl rfl rfl rfl (by omega) (by omega) ?_
            have hj28 : (x15.params.toNat + i : Nat) < (used13 x15).length := by omega
            obtain ⟨x28, hx28⟩ : ∃ zz, (used13 x15)[(x15.params.toNat + i : Nat)]? = some zz := ⟨_, List.getElem?_eq_getElem hj28⟩
            obtain ⟨b28, o28, cs28, hE28, hr28, hl28, hc28, hQ28⟩ := hvud (x15.params.toNat + i : Nat) _ hx28
            cases hQ28
            refine WL.indexAddrE (j := (x15.params.toNat + i : Nat)) Try.underlying40 isz_4 rfl rfl rfl rfl hj28 hE28 ?_
            refine WL.load1 (v := .bool x28) one_4 rfl rfl rfl (hS.roCells hr28 hc28 0 _ rfl) ?_
            refine WL.not rfl rfl rfl ?_
            refine WL.pick (v := .bool (!x28)) rfl rfl rfl rfl rfl rfl ?_
            refine WL.nil ?_
            refine N.seq ?_
            refine W.cond rfl (fun hc29 => ?_) (fun hc29 => ?_)
            ·
              exact absurd (hai (List.mem_of_getElem? hx15) hx25) (fun hh => hh.elim (fun hh => by simp [hh] at hg27) (fun hh => by rw [hx28] at hh; simp at hc29; simp [hc29] at hh))
            ·
              refine W.skip ?_
              refine N.blk ?_
              refine N.seq ?_
              refine W.region ?_
              refine WL.move rfl rfl rfl ?_
              refine WL.add (c := (i : Int) + 1) rfl rfl rfl rfl (rfl) (by omega) ?_
              refine WL.assign rfl rfl rfl ?_
              refine WL.nil ?_
              exact N.loop (i + 1) ⟨rfl, rfl, rfl, rfl, rfl, rfl, rfl, rfl, rfl, rfl, rfl, rfl, rfl, rfl, rfl, rfl, rfl, rfl, rfl, rfl, rfl, rfl, rfl, rfl, rfl, rfl, rfl, rfl, rfl, rfl, rfl, rfl, rfl, rfl, rfl, rfl, rfl, rfl, rfl, rfl, rfl, rfl, rfl, rfl, rfl, rfl, rfl, rfl, rfl, rfl, rfl, rfl, rfl, trivial⟩ ⟨hS, by omega⟩ (by first | omega | (simp only; omega))
        ·
          have hc24p : ¬ ((i : Int) < (x15.ins.length : Int)) := by simpa using hc24
          refine W.exit ?_
          refine X.seq ?_
          refine X.loop ?_
          refine X.blk ?_
          refine N.blk ?_
          refine N.seq ?_
          refine W.region ?_
          refine WL.move rfl rfl rfl ?_
          refine WL.add (c := (k : Int) + 1) rfl rfl rfl rfl (rfl) (by omega) ?_
          refine WL.assign rfl rfl rfl ?_
          refine WL.nil ?_
          have hS := hS.dropN 1
          exact N.loop (k + 1, (roFrom R2 w18 w19), w19) ⟨rfl, rfl, rfl, rfl, rfl, rfl, rfl, rfl, rfl, rfl, rfl, rfl, rfl, rfl, rfl, rfl, rfl, rfl, rfl, rfl, rfl, rfl, trivial⟩ ⟨hS, by omega, halL0, hsub⟩ (by first | omega | (simp only; omega))
      ·
        exact absurd (har k (by omega)) (by rw [hx21]; simpa using hg22)
    ·
      have hc14p : ¬ ((k : Int) < (Q.blocks.length : Int)) := by simpa using hc14
      refine W.exit ?_
      refine X.seq ?_
      refine X.loop ?_
      refine X.blk ?_
      refine N.seq ?_
      refine W.seq ?_
      refine W.region ?_
      refine WL.move rfl rfl rfl ?_
      refine WL.assign rfl rfl rfl ?_
      refine WL.nil ?_
      refine N.seq ?_
      refine Fin.ret1 rfl (v := .bool true) rfl ?_
      exact ⟨rfl, hS.below⟩

end Go.Proofs.Ytdlcmhkfglckfaa
