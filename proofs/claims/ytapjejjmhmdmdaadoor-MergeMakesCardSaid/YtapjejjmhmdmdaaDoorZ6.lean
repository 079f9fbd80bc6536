/-
  Contracts of layer 10 (merge). No condition beyond those that each theorem states.
-/
import Derived.Test.YtapjejjmhmdmdaaDoorP4
namespace Go.Proofs.YtapjejjmhmdmdaaDoor
open Go.RowKit
theorem byt_86 : (Tryd.prog.info? 86).map (·.bytes) = some 72 := by kernel_rfl
theorem byt_91 : (Tryd.prog.info? 91).map (·.bytes) = some 112 := by kernel_rfl
theorem siz_33 : tySize Tryd.prog 33 1 = true := by kernel_rfl
theorem siz_87 : tySize Tryd.prog 87 1 = true := by kernel_rfl
theorem siz_9 : tySize Tryd.prog 9 1 = true := by kernel_rfl
theorem cloneInst_ret {α : Type} {Q : List Value → α → Prop} (ad : Option Addr) (cap : Nat) (xs : List α) {w : World} {ro : Nat → Prop} (hro : ∀ b, ro b → b < w.heap.size) (hel : Elems ro w 6 Q ad xs) (hcap : xs.length ≤ cap) (hnil : ad = none → cap = 0) (hone : ∀ c x, Q c x → ∀ u ∈ c, u.oneCell' = true) (hmx : xs.length ≤ maxLen) (hby : xs.length * 72 ≤ 140737488355328) : Ret Tryd.prog 89 #[.slice ad xs.length cap] w fun v w' => ∃ cs, w'.ownsRow w.heap.size 86 6 v xs.length cs ∧ Chunks 6 Q cs xs ∧ Below w.heap.size w w' := by
 refine Ret.enter (P := Tryd.prog) (n := 8) (args := [.slice ad xs.length cap]) (σ := [(0, .slice ad xs.length cap)]) Tryd.func89 rfl rfl rfl rfl ?_
 have hS := St.start (ro := ro) hro
 obtain ⟨news, hch, hnw, hsp⟩ := elems_news hel
 refine W.seq (W.region (WL.assign rfl rfl rfl (WL.nil (N.seq (W.seq (W.seq (W.region (WL.move rfl rfl rfl ?_))))))))
 refine WL.eqNil Tryd.underlying87 rfl rfl rfl rfl ?_
 refine WL.nil (N.seq ?_)
 refine W.cond rfl (fun hc1 => ?_) (fun hc1 => ?_)
 ·
  refine W.seq (W.region (WL.assign rfl rfl rfl (WL.nil (N.seq ?_))))
  refine Fin.ret1 rfl (v := .slice none 0 0) rfl ?_
  have hx0 : xs = [] := by
    cases ad with
    | none => exact List.eq_nil_of_length_eq_zero (by have := hnil rfl; omega)
    | some a => simp at hc1
  subst hx0
  exact ⟨[], World.ownsRow_nil _ _ _ _, Chunks.nil, hS.below⟩
 refine W.skip (N.seq (W.seq (W.region ?_)))
 refine WL.buildSlice0 Tryd.underlying87 isz_86 rfl rfl hS ?_
 clear hS; intro w3 b2 hS
 refine WL.move rfl rfl rfl ?_
 refine WL.appendRo (r := ⟨.slice (some ⟨b2, 0, none⟩) 0 0, 86, 6, 0, []⟩) (news := news) 72 Tryd.underlying87 (tyZero_spec zer_86) byt_86 rfl rfl rfl rfl rfl hch.1 (fun e => ⟨by have := hnil e; omega, hnil e⟩) ?_ hsp (chunks_all hch (by decide) hone) rfl rfl hS (by simp only; omega) (by simp only; omega) ?_
 ·
  intro b off e
  by_cases hn0 : news = []
  ·
   subst hn0; intro j v hj; simp at hj
  exact hS.roCells ((hnw b off e).2 hn0) (hnw b off e).1
 clear hS; intro w4 v5 hS hnn
 refine WL.assign rfl rfl rfl (WL.nil (N.seq ?_))
 refine Fin.ret1 rfl (v := v5) rfl ?_
 refine ⟨news, ?_, hch, hS.below⟩
 have := hS.rows _ List.mem_cons_self
 simpa using this

theorem cloneBlock_ret {α : Type} {Q : List Value → α → Prop} (ad : Option Addr) (cap : Nat) (xs : List α) {w : World} {ro : Nat → Prop} (hro : ∀ b, ro b → b < w.heap.size) (hel : Elems ro w 8 Q ad xs) (hcap : xs.length ≤ cap) (hnil : ad = none → cap = 0) (hone : ∀ c x, Q c x → ∀ u ∈ c, u.oneCell' = true) (hmx : xs.length ≤ maxLen) (hby : xs.length * 112 ≤ 140737488355328) : Ret Tryd.prog 88 #[.slice ad xs.length cap] w fun v w' => ∃ cs, w'.ownsRow w.heap.size 91 8 v xs.length cs ∧ Chunks 8 Q cs xs ∧ Below w.heap.size w w' := by
 refine Ret.enter (P := Tryd.prog) (n := 8) (args := [.slice ad xs.length cap]) (σ := [(0, .slice ad xs.length cap)]) Tryd.func88 rfl rfl rfl rfl ?_
 have hS := St.start (ro := ro) hro
 obtain ⟨news, hch, hnw, hsp⟩ := elems_news hel
 refine W.seq (W.region (WL.assign rfl rfl rfl (WL.nil (N.seq (W.seq (W.seq (W.region (WL.move rfl rfl rfl ?_))))))))
 refine WL.eqNil Tryd.underlying33 rfl rfl rfl rfl ?_
 refine WL.nil (N.seq ?_)
 refine W.cond rfl (fun hc1 => ?_) (fun hc1 => ?_)
 ·
  refine W.seq (W.region (WL.assign rfl rfl rfl (WL.nil (N.seq ?_))))
  refine Fin.ret1 rfl (v := .slice none 0 0) rfl ?_
  have hx0 : xs = [] := by
    cases ad with
    | none => exact List.eq_nil_of_length_eq_zero (by have := hnil rfl; omega)
    | some a => simp at hc1
  subst hx0
  exact ⟨[], World.ownsRow_nil _ _ _ _, Chunks.nil, hS.below⟩
 refine W.skip (N.seq (W.seq (W.region ?_)))
 refine WL.buildSlice0 Tryd.underlying33 isz_91 rfl rfl hS ?_
 clear hS; intro w3 b2 hS
 refine WL.move rfl rfl rfl ?_
 refine WL.appendRo (r := ⟨.slice (some ⟨b2, 0, none⟩) 0 0, 91, 8, 0, []⟩) (news := news) 112 Tryd.underlying33 (tyZero_spec zer_91) byt_91 rfl rfl rfl rfl rfl hch.1 (fun e => ⟨by have := hnil e; omega, hnil e⟩) ?_ hsp (chunks_all hch (by decide) hone) rfl rfl hS (by simp only; omega) (by simp only; omega) ?_
 ·
  intro b off e
  by_cases hn0 : news = []
  ·
   subst hn0; intro j v hj; simp at hj
  exact hS.roCells ((hnw b off e).2 hn0) (hnw b off e).1
 clear hS; intro w4 v5 hS hnn
 refine WL.assign rfl rfl rfl (WL.nil (N.seq ?_))
 refine Fin.ret1 rfl (v := v5) rfl ?_
 refine ⟨news, ?_, hch, hS.below⟩
 have := hS.rows _ List.mem_cons_self
 simpa using this

theorem of_ret (g : Ren) (vm : Value) (s : ByteArray) {w : World} {ro : Nat → Prop} (hro : ∀ b, ro b → b < w.heap.size) (hm : MapC ro w [vm] g) : Ret Tryd.prog 66 #[vm, .string s] w fun v w' => v = .string (ren10 g s) ∧ Below w.heap.size w w' := by
 obtain ⟨bm, es, ck, c, e, hrm, hmp, hM⟩ := hm
 cases e
 refine Ret.enter (P := Tryd.prog) (n := 16) (args := [.map (some bm), .string s]) (σ := [(0, .map (some bm)), (1, .string s)]) Tryd.func66 rfl rfl rfl rfl ?_
 have hS := St.start (ro := ro) hro
 refine W.seq (W.region (WL.assign rfl rfl rfl (WL.nil (N.seq (W.seq (W.seq (W.region (WL.move rfl rfl rfl (WL.move rfl rfl rfl ?_)))))))))
 refine WL.mapGetOk (c := (g s).isSome) s keyE_str Tryd.underlying128 Tryd.underlying9 zb_9 hM rfl rfl rfl rfl ((hS.snap _ hrm).2.trans hmp) (v := .string ((g s).getD ⟨#[]⟩)) (by cases g s <;> rfl) rfl ?_
 refine WL.move rfl rfl rfl (WL.extract (v := .string ((g s).getD ⟨#[]⟩)) rfl rfl rfl rfl (WL.extract (v := .bool ((g s).isSome)) rfl rfl rfl rfl (WL.assign rfl rfl rfl (WL.assign rfl rfl rfl (WL.nil (N.seq (W.seq (W.region (WL.move rfl rfl rfl ?_)))))))))
 refine WL.nil (N.seq ?_)
 refine W.cond rfl (fun hc1 => ?_) (fun hc1 => ?_)
 ·
  refine W.seq (W.region (WL.move rfl rfl rfl (WL.assign rfl rfl rfl (WL.nil (N.seq ?_)))))
  refine Fin.ret1 rfl (v := .string ((g s).getD ⟨#[]⟩)) rfl ?_
  refine ⟨?_, hS.below⟩
  unfold ren10
  cases h : g s <;> simp_all
 refine W.skip (N.seq (W.seq (W.region (WL.move rfl rfl rfl (WL.assign rfl rfl rfl (WL.nil (N.seq ?_)))))))
 refine Fin.ret1 rfl (v := .string s) rfl ?_
 refine ⟨?_, hS.below⟩
 unfold ren10
 cases h : g s <;> simp_all

set_option maxRecDepth 10000 in
set_option maxHeartbeats 4000000 in
theorem rename_ret (f : DFunc) (cf : List Value) (g : Ren) (vm : Value) {w : World} {ro : Nat → Prop} (hro : ∀ b, ro b → b < w.heap.size) (hx : FuncC ro w cf f) (hm : MapC ro w [vm] g) (hgs : ∀ s v, g s = some v → v.size ≤ maxLen) (hnb : f.blocks.length ≤ 16) (hbi : ∀ b ∈ f.blocks, b.ins.length ≤ 32) : Ret Tryd.prog 65 #[.agg cf.toArray, vm] w fun v w' => ∃ cs, v = .agg cs.toArray ∧ FuncC (roFrom ro w w') w' cs (rename10 g f) ∧ Below w.heap.size w w' := by
 obtain ⟨sbF, rfl, hblF, hnmF, hbdF, hprF⟩ := id hx
 obtain ⟨adbF, capbF, rfl, hbkFa, hbkFb, hbkFc, hbkFd⟩ := id hblF
 have hbkFm : f.blocks.length ≤ 9223372036854775807 := by have h1 := hbkFa; have h2 := hbkFb; unfold maxLen at h2; omega
 refine Ret.enter (P := Tryd.prog) (n := 64) (args := [.agg #[.string f.name, .int .i64 f.bind, .int .i64 f.params, .slice adbF f.blocks.length capbF], vm]) (σ := [(0, .agg #[.string f.name, .int .i64 f.bind, .int .i64 f.params, .slice adbF f.blocks.length capbF]), (1, vm)]) Tryd.func65 rfl rfl rfl rfl ?_
 have hS := St.start (ro := ro) hro
 have hsub : ∀ b, ro b → ro b ∨ w.heap.size ≤ b := fun _ h => .inl h
 refine W.seq (W.region ?_)
 refine WL.box (v := .agg #[.string f.name, .int .i64 f.bind, .int .i64 f.params, .slice adbF f.blocks.length capbF]) (cs := [.string f.name, .int .i64 f.bind, .int .i64 f.params, .slice adbF f.blocks.length capbF]) rfl rfl rfl rfl hS ?_
 clear hS; intro w2 b1 hb_b1 hS
 refine WL.alloc (tyZero_spec zer_35) rfl rfl hS ?_
 clear hS; intro w4 b3 hb_b3 hS
 refine WL.nil (N.seq (W.seq (W.region (WL.move rfl rfl rfl ?_))))
 refine WL.makeFuncB (bs := #[vm]) (vs := #[]) rfl rfl rfl rfl ?_
 refine WL.assign rfl rfl rfl (WL.nil (N.seq (W.seq (W.region (WL.move rfl rfl rfl (WL.fieldAddr fo_35_0 rfl rfl rfl (WL.load1 (v := .string f.name) one_9 rfl rfl rfl (hS.cell 1 rfl rfl) ?_)))))))
 refine WL.callVB (vs := [.string f.name]) (bs := #[vm]) (cs := #[]) Tryd.func66 (by kernel_rfl) rfl rfl rfl rfl (of_ret g vm f.name (ro := ro) (fun b hb => (hS.snap b hb).1) (hm.keep hS.alike)) ?_
 rintro _ w5 ⟨rfl, hbl⟩
 replace hS := hS.grow hbl
 refine WL.fieldAddr fo_35_0 rfl rfl rfl ?_
 refine WL.store (L' := [(b3, .cells #[.string ⟨#[]⟩, .int .i64 0, .int .i64 0, .slice none 0 0] 35 (0, 0)), (b1, .cells #[.string (ren10 g f.name), .int .i64 f.bind, .int .i64 f.params, .slice adbF f.blocks.length capbF] 35 (0, 0))]) 1 rfl rfl rfl rfl siz_9 rfl rfl rfl rfl rfl hS ?_
 clear hS; intro w6 hS
 refine WL.nil (N.seq (W.seq (W.region (WL.fieldAddr fo_35_3 rfl rfl rfl (WL.load1 (v := .slice adbF f.blocks.length capbF) one_33 rfl rfl rfl (hS.cell 1 rfl rfl) ?_)))))
 have hel3 : Elems ro w6 8 (BlockC ro w) adbF f.blocks := hbkFd.keep hS.alike (fun _ _ h => h)
 refine WL.callF (vs := [.slice adbF f.blocks.length capbF]) Tryd.func88 (by kernel_rfl) rfl rfl rfl (cloneBlock_ret adbF capbF f.blocks (ro := ro) (fun b hb => (hS.snap b hb).1) hel3 hbkFa hbkFc (fun _ _ h => one_block h) (by unfold maxLen; omega) (by omega)) ?_
 rintro v w7 ⟨ics, how, hics, hbl⟩
 replace hS := hS.callRow hbl how
 obtain ⟨adr, capr, rfl, hr1, hr2, hr3⟩ := row_shape how
 refine WL.fieldAddr fo_35_3 rfl rfl rfl ?_
 refine WL.store (L' := [(b3, .cells #[.string ⟨#[]⟩, .int .i64 0, .int .i64 0, .slice none 0 0] 35 (0, 0)), (b1, .cells #[.string (ren10 g f.name), .int .i64 f.bind, .int .i64 f.params, .slice adr f.blocks.length capr] 35 (0, 0))]) 1 rfl rfl rfl rfl siz_33 rfl rfl rfl rfl rfl hS ?_
 clear hS; intro w8 hS
 refine WL.nil (N.seq (W.seq (W.seq (W.region (WL.fieldAddr fo_35_3 rfl rfl rfl (WL.load1 (v := .slice adr f.blocks.length capr) one_33 rfl rfl rfl (hS.cell 1 rfl rfl) (WL.lenSlice Tryd.underlying33 rfl rfl rfl (WL.move rfl rfl rfl (WL.nil ?_)))))))))
 refine N.seq (W.block ?_)
 refine W.loop (α := Nat × List Value × (Nat → Prop) × World) (fun ⟨k, cs, R2, ws2⟩ => [(2, .pointer (some ⟨b1, 0, none⟩)), (4, .pointer (some ⟨b3, 0, none⟩)), (5, .func (.func 66) #[vm] #[]), (22, .slice adr f.blocks.length capr), (23, .int .i64 (f.blocks.length : Int)), (24, .int .i64 (k : Int))]) (fun ⟨k, cs, R2, ws2⟩ u => St w ws2 u R2 [(b3, .cells #[.string ⟨#[]⟩, .int .i64 0, .int .i64 0, .slice none 0 0] 35 (0, 0)), (b1, .cells #[.string (ren10 g f.name), .int .i64 f.bind, .int .i64 f.params, .slice adr f.blocks.length capr] 35 (0, 0))] [⟨.slice adr f.blocks.length capr, 91, 8, f.blocks.length, cs⟩] ∧ k ≤ f.blocks.length ∧ Chunks 8 (BlockC R2 ws2) cs (mixL k (f.blocks.map (renB g)) f.blocks) ∧ Alike ro w R2 ws2 ∧ (∀ b, R2 b → ro b ∨ w.heap.size ≤ b)) (fun ⟨k, cs, R2, ws2⟩ => f.blocks.length - k) (0, ics, ro, w) ⟨rfl, rfl, rfl, rfl, rfl, rfl, trivial⟩ ⟨hS, Nat.zero_le _, by simpa [mixL] using hics, Alike.refl, hsub⟩ ?_
 clear hS
 rintro ⟨k, cs, R2, ws2⟩ w9 ⟨hS, hk, hch, halL0, hsub⟩
 replace hx := hx.keep halL0
 replace hm := hm.keep halL0
 refine W.seq (W.region (WL.bin rfl rfl rfl rfl rfl (WL.nil (N.seq (W.seq ?_)))))
 refine W.cond rfl (fun hc10 => ?_) (fun hc10 => ?_)
 ·
  have hc10p : (k : Int) < (f.blocks.length : Int) := by simpa using hc10
  refine W.skip (N.seq (W.seq (W.block (W.seq ?_))))
  have hcl := hch.1
  rw [mix_length (by simp) hk] at hcl
  obtain ⟨gq12, rfl⟩ : ∃ g, adr = some ⟨g, 0, none⟩ := row_some (hS.rows _ (List.mem_of_getElem? (i := 0) rfl)) (by omega)
  have hj11 : k < (mixL k (f.blocks.map (renB g)) f.blocks).length := by rw [mix_length (by simp) hk]; omega
  obtain ⟨x11, hx11⟩ : ∃ zz, (mixL k (f.blocks.map (renB g)) f.blocks)[k]? = some zz := ⟨_, List.getElem?_eq_getElem hj11⟩
  have hQ11 := hch.2 k _ hx11
  generalize hk11 : (cs.drop (k * 8)).take 8 = c11 at hQ11
  obtain ⟨si11, tsx11, rfl, hin11, hfin11, hpar11⟩ := id hQ11
  obtain ⟨adi11, capi11, rfl, hin11a, hin11b, hin11c, hin11d⟩ := id hin11
  have hin11m : x11.ins.length ≤ 9223372036854775807 := by have h1 := hin11a; have h2 := hin11b; unfold maxLen at h2; omega
  obtain ⟨sp11, sq11, rfl, ht111, ht211, htk11, hta11, htt11, hte11⟩ := id hfin11
  obtain ⟨adp11, capp11, rfl, htp11a, htp11b, htp11c, htp11d⟩ := id ht111
  have htp11m : x11.fin.args.length ≤ 9223372036854775807 := by have h1 := htp11a; have h2 := htp11b; unfold maxLen at h2; omega
  obtain ⟨adq11, capq11, rfl, htq11a, htq11b, htq11c, htq11d⟩ := id ht211
  have htq11m : x11.fin.elses.length ≤ 9223372036854775807 := by have h1 := htq11a; have h2 := htq11b; unfold maxLen at h2; omega
  have hxb : f.blocks[k]? = some x11 := by rw [← mix_at (a := (f.blocks.map (renB g))) (by simp) (by omega)]; exact hx11
  have hbi3 := hbi x11 (List.mem_of_getElem? hxb)
  refine W.region (WL.move rfl rfl rfl ?_)
  refine WL.indexAddr (j := k) Tryd.underlying33 isz_91 rfl rfl rfl rfl (by omega) ?_
  refine WL.loadN (cs := [.int .i64 x11.params, .slice adi11 x11.ins.length capi11, .int .i64 x11.fin.kind, .int .i64 x11.fin.a, .int .i64 x11.fin.to, .slice adp11 x11.fin.args.length capp11, .int .i64 x11.fin.els, .slice adq11 x11.fin.elses.length capq11]) agg_91 rfl rfl rfl rfl (hS.rowCells 0 rfl hk11) ?_
  refine WL.alloc (tyZero_spec zer_91) rfl rfl hS ?_
  clear hS; intro w14 b13 hb_b13 hS
  refine WL.assign rfl rfl rfl ?_
  refine WL.store (L' := [(b13, .cells #[.int .i64 x11.params, .slice adi11 x11.ins.length capi11, .int .i64 x11.fin.kind, .int .i64 x11.fin.a, .int .i64 x11.fin.to, .slice adp11 x11.fin.args.length capp11, .int .i64 x11.fin.els, .slice adq11 x11.fin.elses.length capq11] 91 (0, 0)), (b3, .cells #[.string ⟨#[]⟩, .int .i64 0, .int .i64 0, .slice none 0 0] 35 (0, 0)), (b1, .cells #[.string (ren10 g f.name), .int .i64 f.bind, .int .i64 f.params, .slice (some ⟨gq12, 0, none⟩) f.blocks.length capr] 35 (0, 0))]) 0 rfl rfl rfl rfl siz_91 rfl rfl rfl rfl rfl hS ?_
  clear hS; intro w15 hS
  refine WL.nil (N.seq (W.seq ?_))
  refine W.drawA0 (S := fun u => True) (by kernel_rfl) (fun w16 hbd => ?_)
  replace hS := hS.grow hbd
  refine WA.conv (fuel' := 8 + 1) (listed' := #[false, false, false, false, false, false, false, false, false]) (by kernel_rfl) (by kernel_rfl) (WA.phaseI [(0, (fun v _ => v = .pointer (some ⟨b1, 3, none⟩))), (1, (fun v _ => v = .slice (some ⟨gq12, 0, none⟩) f.blocks.length capr)), (2, (fun v _ => v = .int .i64 (k : Int))), (3, (fun v _ => v = .pointer (some ⟨b13, 1, none⟩))), (4, (fun v _ => v = .slice adi11 x11.ins.length capi11)), (5, (fun v u => ∃ ics, u.ownsRow w16.heap.size 86 6 v x11.ins.length ics ∧ Chunks 6 (InstC R2 ws2) ics x11.ins)), (6, (fun v _ => v = .pointer (some ⟨gq12, 0 + k * 8, none⟩))), (7, (fun v _ => v = .pointer (some ⟨gq12, 0 + k * 8 + 1, none⟩)))] (by kernel_rfl) [(2, .pointer (some ⟨b1, 0, none⟩)), (4, .pointer (some ⟨b3, 0, none⟩)), (5, .func (.func 66) #[vm] #[]), (6, .int .i64 (k : Int)), (7, .pointer (some ⟨b13, 0, none⟩)), (22, .slice (some ⟨gq12, 0, none⟩) f.blocks.length capr), (23, .int .i64 (f.blocks.length : Int)), (24, .int .i64 (k : Int))] ⟨rfl, rfl, rfl, rfl, rfl, rfl, rfl, rfl, trivial⟩ (by kernel_rfl) ⟨stays_eq, stays_eq, stays_eq, stays_eq, stays_eq, (fun _ _ _ ⟨cs, h1, h2⟩ hb => ⟨cs, stays_own _ _ _ h1 hb, h2⟩), stays_eq, stays_eq, trivial⟩ ?_ (fun _ _ => trivial) ?_)
  ·
   refine ⟨fun β wd hb hD => ⟨_, rfl, ?_⟩, ?_⟩
   ·
    refine WL.sub (σ' := [(2, .pointer (some ⟨b1, 0, none⟩))]) ⟨rfl, trivial⟩ ?_
    have hS := hS.grow hb
    refine WL.fieldAddr fo_35_3 rfl rfl rfl ?_
    exact WL.nil (N.cut (.pointer (some ⟨b1, 3, none⟩)) ⟨rfl, trivial⟩ ⟨(Below.refl _ _), rfl⟩)
   refine ⟨fun β wd hb hD => ⟨_, rfl, ?_⟩, ?_⟩
   ·
    obtain ⟨hp0, _⟩ := hD
    replace hp0 : β 0 = .pointer (some ⟨b1, 3, none⟩) := hp0
    refine WL.sub (σ' := [(29, .pointer (some ⟨b1, 3, none⟩))]) ⟨congrArg some hp0, trivial⟩ ?_
    have hS := hS.grow hb
    refine WL.load1 (v := .slice (some ⟨gq12, 0, none⟩) f.blocks.length capr) one_33 rfl rfl rfl (hS.cell 2 rfl rfl) ?_
    exact WL.nil (N.cut (.slice (some ⟨gq12, 0, none⟩) f.blocks.length capr) ⟨rfl, trivial⟩ ⟨(Below.refl _ _), rfl⟩)
   refine ⟨fun β wd hb hD => ⟨_, rfl, ?_⟩, ?_⟩
   ·
    refine WL.sub (σ' := [(6, .int .i64 (k : Int))]) ⟨rfl, trivial⟩ ?_
    have hS := hS.grow hb
    refine WL.move rfl rfl rfl ?_
    exact WL.nil (N.cut (.int .i64 (k : Int)) ⟨rfl, trivial⟩ ⟨(Below.refl _ _), rfl⟩)
   refine ⟨fun β wd hb hD => ⟨_, rfl, ?_⟩, ?_⟩
   ·
    refine WL.sub (σ' := [(7, .pointer (some ⟨b13, 0, none⟩))]) ⟨rfl, trivial⟩ ?_
    have hS := hS.grow hb
    refine WL.fieldAddr fo_91_1 rfl rfl rfl ?_
    exact WL.nil (N.cut (.pointer (some ⟨b13, 1, none⟩)) ⟨rfl, trivial⟩ ⟨(Below.refl _ _), rfl⟩)
   refine ⟨fun β wd hb hD => ⟨_, rfl, ?_⟩, ?_⟩
   ·
    obtain ⟨hp3, _⟩ := hD
    replace hp3 : β 3 = .pointer (some ⟨b13, 1, none⟩) := hp3
    refine WL.sub (σ' := [(32, .pointer (some ⟨b13, 1, none⟩))]) ⟨congrArg some hp3, trivial⟩ ?_
    have hS := hS.grow hb
    refine WL.load1 (v := .slice adi11 x11.ins.length capi11) one_87 rfl rfl rfl (hS.cell 0 rfl rfl) ?_
    exact WL.nil (N.cut (.slice adi11 x11.ins.length capi11) ⟨rfl, trivial⟩ ⟨(Below.refl _ _), rfl⟩)
   refine ⟨fun β wd hb hD => ⟨_, rfl, ?_⟩, ?_⟩
   ·
    obtain ⟨hp4, _⟩ := hD
    replace hp4 : β 4 = .slice adi11 x11.ins.length capi11 := hp4
    refine WL.sub (σ' := [(33, .slice adi11 x11.ins.length capi11)]) ⟨congrArg some hp4, trivial⟩ ?_
    have hS := hS.grow hb
    have hel3 : Elems R2 wd 6 (InstC R2 ws2) adi11 x11.ins := hin11d.keep hS.alike (fun _ _ h => h)
    refine WL.callF (vs := [.slice adi11 x11.ins.length capi11]) Tryd.func89 (by kernel_rfl) rfl rfl rfl (cloneInst_ret adi11 capi11 x11.ins (ro := R2) (fun b hb => (hS.snap b hb).1) hel3 hin11a hin11c (fun _ _ h => one_inst h) (by unfold maxLen; omega) (by omega)) ?_
    rintro v w17 ⟨ics, how, hics, hbl⟩
    replace hS := hS.grow hbl
    exact WL.nil (N.cut v ⟨rfl, trivial⟩ ⟨hbl, ⟨ics, ownsRow_base how hb.size, hics⟩⟩)
   refine ⟨fun β wd hb hD => ⟨_, rfl, ?_⟩, ?_⟩
   ·
    obtain ⟨hp1, hp2, _, _, _, _, _, _, _⟩ := hD
    replace hp1 : β 1 = .slice (some ⟨gq12, 0, none⟩) f.blocks.length capr := hp1
    replace hp2 : β 2 = .int .i64 (k : Int) := hp2
    refine WL.sub (σ' := [(30, .slice (some ⟨gq12, 0, none⟩) f.blocks.length capr), (31, .int .i64 (k : Int))]) ⟨congrArg some hp1, congrArg some hp2, trivial⟩ ?_
    have hS := hS.grow hb
    refine WL.indexAddr (j := k) Tryd.underlying33 isz_91 rfl rfl rfl rfl (by omega) ?_
    exact WL.nil (N.cut (.pointer (some ⟨gq12, 0 + k * 8, none⟩)) ⟨rfl, trivial⟩ ⟨(Below.refl _ _), rfl⟩)
   refine ⟨fun β wd hb hD => ⟨_, rfl, ?_⟩, ?_⟩
   ·
    obtain ⟨hp6, _, _, _, _, _, _, _⟩ := hD
    replace hp6 : β 6 = .pointer (some ⟨gq12, 0 + k * 8, none⟩) := hp6
    refine WL.sub (σ' := [(35, .pointer (some ⟨gq12, 0 + k * 8, none⟩))]) ⟨congrArg some hp6, trivial⟩ ?_
    have hS := hS.grow hb
    refine WL.fieldAddr fo_91_1 rfl rfl rfl ?_
    exact WL.nil (N.cut (.pointer (some ⟨gq12, 0 + k * 8 + 1, none⟩)) ⟨rfl, trivial⟩ ⟨(Below.refl _ _), rfl⟩)
   trivial
  intro β w18 hb hD
  obtain ⟨hp0, hp1, hp2, hp3, hp4, hp5, hp6, hp7, _⟩ := hD
  refine WA.sub (σ' := [(2, .pointer (some ⟨b1, 0, none⟩)), (4, .pointer (some ⟨b3, 0, none⟩)), (5, .func (.func 66) #[vm] #[]), (6, .int .i64 (k : Int)), (7, .pointer (some ⟨b13, 0, none⟩)), (22, .slice (some ⟨gq12, 0, none⟩) f.blocks.length capr), (23, .int .i64 (f.blocks.length : Int)), (24, .int .i64 (k : Int)), (34, (β 5)), (36, .pointer (some ⟨gq12, 0 + k * 8 + 1, none⟩))]) ⟨rfl, rfl, rfl, rfl, rfl, rfl, rfl, rfl, rfl, congrArg some (show β 7 = .pointer (some ⟨gq12, 0 + k * 8 + 1, none⟩) from hp7), trivial⟩ ?_
  have hSd := hS
  replace hS := hS.grow hb
  replace hp5 : (fun v u => ∃ ics, u.ownsRow w16.heap.size 86 6 v x11.ins.length ics ∧ Chunks 6 (InstC R2 ws2) ics x11.ins) (β 5) w18 := hp5
  generalize β 5 = z5 at hp5 ⊢
  obtain ⟨ics, how, hics⟩ := hp5
  replace hS := hSd.callRow hb how
  obtain ⟨adq, capq, rfl, hq1, hq2, hq3⟩ := row_shape how
  refine WA.conv (fuel' := 0 + 1) (listed' := #[true, true, true, true, true, true, true, true, false]) (by kernel_rfl) (by kernel_rfl) (WA.stepS 8 (by kernel_rfl) rfl ?_)
  replace hS : St w ws2 w18 R2 [(b13, .cells #[.int .i64 x11.params, .slice adi11 x11.ins.length capi11, .int .i64 x11.fin.kind, .int .i64 x11.fin.a, .int .i64 x11.fin.to, .slice adp11 x11.fin.args.length capp11, .int .i64 x11.fin.els, .slice adq11 x11.fin.elses.length capq11] 91 (0, 0)), (b3, .cells #[.string ⟨#[]⟩, .int .i64 0, .int .i64 0, .slice none 0 0] 35 (0, 0)), (b1, .cells #[.string (ren10 g f.name), .int .i64 f.bind, .int .i64 f.params, .slice (some ⟨gq12, 0, none⟩) f.blocks.length capr] 35 (0, 0))] [⟨.slice (some ⟨gq12, 0, none⟩) f.blocks.length capr, 91, 8, f.blocks.length, cs⟩, ⟨.slice adq x11.ins.length capq, 86, 6, x11.ins.length, ics⟩] := hS.permR ((List.Perm.swap _ _ _))
  refine WL.storeRow (cs := [.slice adq x11.ins.length capq]) rfl rfl rfl rfl siz_87 rfl hS (by simp only [List.length_cons, List.length_nil]; omega) ?_
  clear hS; intro w19 hS
  replace hS : St w ws2 w19 R2 [(b13, .cells #[.int .i64 x11.params, .slice adi11 x11.ins.length capi11, .int .i64 x11.fin.kind, .int .i64 x11.fin.a, .int .i64 x11.fin.to, .slice adp11 x11.fin.args.length capp11, .int .i64 x11.fin.els, .slice adq11 x11.fin.elses.length capq11] 91 (0, 0)), (b3, .cells #[.string ⟨#[]⟩, .int .i64 0, .int .i64 0, .slice none 0 0] 35 (0, 0)), (b1, .cells #[.string (ren10 g f.name), .int .i64 f.bind, .int .i64 f.params, .slice (some ⟨gq12, 0, none⟩) f.blocks.length capr] 35 (0, 0))] [⟨.slice (some ⟨gq12, 0, none⟩) f.blocks.length capr, 91, 8, f.blocks.length, cs.take (0 + k * 8 + 1) ++ ([.slice adq x11.ins.length capq] : List Value) ++ cs.drop (0 + k * 8 + 1 + 1)⟩, ⟨.slice adq x11.ins.length capq, 86, 6, x11.ins.length, ics⟩] := hS
  obtain ⟨cq, hcq⟩ : ∃ cq : List Value, cq = cs.take (0 + k * 8 + 1) ++ ([.slice adq x11.ins.length capq] : List Value) ++ cs.drop (0 + k * 8 + 1 + 1) := ⟨_, rfl⟩
  rw [← hcq] at hS
  have hkq : (cq.drop (k * 8)).take 8 = [.int .i64 x11.params, .slice adq x11.ins.length capq, .int .i64 x11.fin.kind, .int .i64 x11.fin.a, .int .i64 x11.fin.to, .slice adp11 x11.fin.args.length capp11, .int .i64 x11.fin.els, .slice adq11 x11.fin.elses.length capq11] := by rw [hcq, take_setCell (by omega) (by decide), hk11]; rfl
  replace hS : St w ws2 w19 R2 [(b13, .cells #[.int .i64 x11.params, .slice adi11 x11.ins.length capi11, .int .i64 x11.fin.kind, .int .i64 x11.fin.a, .int .i64 x11.fin.to, .slice adp11 x11.fin.args.length capp11, .int .i64 x11.fin.els, .slice adq11 x11.fin.elses.length capq11] 91 (0, 0)), (b3, .cells #[.string ⟨#[]⟩, .int .i64 0, .int .i64 0, .slice none 0 0] 35 (0, 0)), (b1, .cells #[.string (ren10 g f.name), .int .i64 f.bind, .int .i64 f.params, .slice (some ⟨gq12, 0, none⟩) f.blocks.length capr] 35 (0, 0))] [⟨.slice adq x11.ins.length capq, 86, 6, x11.ins.length, ics⟩, ⟨.slice (some ⟨gq12, 0, none⟩) f.blocks.length capr, 91, 8, f.blocks.length, cq⟩] := hS.permR ((List.Perm.swap _ _ _))
  refine WL.nil (N.restS trivial ?_)
  refine WA.doneN (by kernel_rfl) ?_
  refine N.seq (W.seq (W.region (WL.fieldAddr fo_91_1 rfl rfl rfl (WL.load1 (v := .slice adi11 x11.ins.length capi11) one_87 rfl rfl rfl (hS.cell 0 rfl rfl) (WL.lenSlice Tryd.underlying87 rfl rfl rfl (WL.move rfl rfl rfl (WL.nil (N.seq (W.block ?_)))))))))
  refine W.loop (α := Nat × List Value) (fun ⟨j, ds⟩ => [(2, .pointer (some ⟨b1, 0, none⟩)), (4, .pointer (some ⟨b3, 0, none⟩)), (5, .func (.func 66) #[vm] #[]), (6, .int .i64 (k : Int)), (22, .slice (some ⟨gq12, 0, none⟩) f.blocks.length capr), (23, .int .i64 (f.blocks.length : Int)), (24, .int .i64 (k : Int)), (38, .slice adi11 x11.ins.length capi11), (39, .int .i64 (x11.ins.length : Int)), (40, .int .i64 (j : Int))]) (fun ⟨j, ds⟩ u => St w ws2 u R2 [(b13, .cells #[.int .i64 x11.params, .slice adi11 x11.ins.length capi11, .int .i64 x11.fin.kind, .int .i64 x11.fin.a, .int .i64 x11.fin.to, .slice adp11 x11.fin.args.length capp11, .int .i64 x11.fin.els, .slice adq11 x11.fin.elses.length capq11] 91 (0, 0)), (b3, .cells #[.string ⟨#[]⟩, .int .i64 0, .int .i64 0, .slice none 0 0] 35 (0, 0)), (b1, .cells #[.string (ren10 g f.name), .int .i64 f.bind, .int .i64 f.params, .slice (some ⟨gq12, 0, none⟩) f.blocks.length capr] 35 (0, 0))] [⟨.slice adq x11.ins.length capq, 86, 6, x11.ins.length, ds⟩, ⟨.slice (some ⟨gq12, 0, none⟩) f.blocks.length capr, 91, 8, f.blocks.length, cq⟩] ∧ j ≤ x11.ins.length ∧ Chunks 6 (InstC R2 ws2) ds (mixL j (x11.ins.map (renI g)) x11.ins)) (fun ⟨j, ds⟩ => x11.ins.length - j) (0, ics) ⟨rfl, rfl, rfl, rfl, rfl, rfl, rfl, rfl, rfl, rfl, trivial⟩ ⟨hS, Nat.zero_le _, by simpa [mixL] using hics⟩ ?_
  clear hS
  rintro ⟨j, ds⟩ w20 ⟨hS, hj9, hd⟩
  refine W.seq (W.region (WL.bin rfl rfl rfl rfl rfl (WL.nil (N.seq (W.seq ?_)))))
  refine W.cond rfl (fun hc21 => ?_) (fun hc21 => ?_)
  ·
   have hc21p : (j : Int) < (x11.ins.length : Int) := by simpa using hc21
   refine W.skip (N.seq (W.seq (W.block (W.seq ?_))))
   obtain ⟨gq22, rfl⟩ : ∃ g, adq = some ⟨g, 0, none⟩ := row_some (hS.rows _ (List.mem_of_getElem? (i := 0) rfl)) (show x11.ins.length ≠ 0 by omega)
   have hdl := hd.1
   rw [mix_length (by simp) hj9] at hdl
   refine W.region (WL.move rfl rfl rfl ?_)
   have hj23 : j < x11.ins.length := by omega
   obtain ⟨x23, hx23⟩ : ∃ zz, x11.ins[j]? = some zz := ⟨_, List.getElem?_eq_getElem hj23⟩
   obtain ⟨b23, o23, cs23, hE23, hr23, hl23, hc23, hQ23⟩ := hin11d j _ hx23
   have hQk23 := hQ23
   obtain ⟨sv23, rfl, hs23, ho23, ha23, hb23, hk23, hn23⟩ := hQ23
   obtain ⟨ad23, cap23, rfl, hs23a, hs23b, hs23c, hs23d⟩ := id hs23
   have hs23m : x23.args.length ≤ 9223372036854775807 := by have h1 := hs23a; have h2 := hs23b; unfold maxLen at h2; omega
   refine WL.indexAddrE (j := j) Tryd.underlying87 isz_86 rfl rfl rfl rfl hj23 hE23 (WL.loadN (cs := [.int .i64 x23.op, .int .i64 x23.a, .int .i64 x23.b, .int .u64 x23.k, .string x23.name, .slice ad23 x23.args.length cap23]) agg_86 rfl rfl rfl rfl (hS.roCells hr23 hc23) ?_)
   refine WL.alloc (tyZero_spec zer_86) rfl rfl hS ?_
   clear hS; intro w25 b24 hb_b24 hS
   refine WL.assign rfl rfl rfl ?_
   refine WL.store (L' := [(b24, .cells #[.int .i64 x23.op, .int .i64 x23.a, .int .i64 x23.b, .int .u64 x23.k, .string x23.name, .slice ad23 x23.args.length cap23] 86 (0, 0)), (b13, .cells #[.int .i64 x11.params, .slice adi11 x11.ins.length capi11, .int .i64 x11.fin.kind, .int .i64 x11.fin.a, .int .i64 x11.fin.to, .slice adp11 x11.fin.args.length capp11, .int .i64 x11.fin.els, .slice adq11 x11.fin.elses.length capq11] 91 (0, 0)), (b3, .cells #[.string ⟨#[]⟩, .int .i64 0, .int .i64 0, .slice none 0 0] 35 (0, 0)), (b1, .cells #[.string (ren10 g f.name), .int .i64 f.bind, .int .i64 f.params, .slice (some ⟨gq12, 0, none⟩) f.blocks.length capr] 35 (0, 0))]) 0 rfl rfl rfl rfl siz_86 rfl rfl rfl rfl rfl hS ?_
   clear hS; intro w26 hS
   refine WL.nil (N.seq (W.seq (W.region (WL.fieldAddr fo_86_4 rfl rfl rfl (WL.load1 (v := .string x23.name) one_9 rfl rfl rfl (hS.cell 0 rfl rfl) (WL.neStr rfl rfl rfl rfl (WL.nil (N.seq ?_))))))))
   refine W.cond rfl (fun hc27 => ?_) (fun hc27 => ?_)
   ·
    have hc27p : ¬ (x23.name = ⟨#[]⟩) := by simpa using hc27
    refine W.drawL (by kernel_rfl) 13 ((.q (.pointer (some ⟨b1, 3, none⟩))) :: (.q (.slice (some ⟨gq12, 0, none⟩) f.blocks.length capr)) :: (.q (.int .i64 (k : Int))) :: (.q (.pointer (some ⟨gq12, 0 + k * 8, none⟩))) :: (.q (.pointer (some ⟨gq12, 0 + k * 8 + 1, none⟩))) :: (.q (.slice (some ⟨gq22, 0, none⟩) x11.ins.length capq)) :: (.q (.int .i64 (j : Int))) :: (.q (.func (.func 66) #[vm] #[])) :: (.q (.pointer (some ⟨b24, 4, none⟩))) :: (.q (.string x23.name)) :: (.q (.string (ren10 g x23.name))) :: (.q (.pointer (some ⟨gq22, 0 + j * 6, none⟩))) :: (.q (.pointer (some ⟨gq22, 0 + j * 6 + 4, none⟩))) :: []) (by kernel_rfl) (by kernel_rfl) [(2, .pointer (some ⟨b1, 0, none⟩)), (4, .pointer (some ⟨b3, 0, none⟩)), (5, .func (.func 66) #[vm] #[]), (6, .int .i64 (k : Int)), (8, .int .i64 (j : Int)), (9, .pointer (some ⟨b24, 0, none⟩)), (22, .slice (some ⟨gq12, 0, none⟩) f.blocks.length capr), (23, .int .i64 (f.blocks.length : Int)), (24, .int .i64 (k : Int)), (38, .slice adi11 x11.ins.length capi11), (39, .int .i64 (x11.ins.length : Int)), (40, .int .i64 (j : Int))] ⟨rfl, rfl, rfl, rfl, rfl, rfl, rfl, rfl, rfl, rfl, rfl, rfl, trivial⟩ (by kernel_rfl) hS ?_ ?_
    ·
     refine And.intro (fun β w hS => ?_) ?_
     ·
      refine WL.sub (σ' := [(2, .pointer (some ⟨b1, 0, none⟩))]) ⟨rfl, trivial⟩ ?_
      refine WL.fieldAddr fo_35_3 rfl rfl rfl ?_
      exact WL.nil (N.cut () ⟨rfl, trivial⟩ (Below.refl _ _))
     refine And.intro (fun β w hS => ?_) ?_
     ·
      refine WL.sub (σ' := [(48, .pointer (some ⟨b1, 3, none⟩))]) ⟨rfl, trivial⟩ ?_
      refine WL.load1 (v := .slice (some ⟨gq12, 0, none⟩) f.blocks.length capr) one_33 rfl rfl rfl (hS.cell 3 rfl rfl) ?_
      exact WL.nil (N.cut () ⟨rfl, trivial⟩ (Below.refl _ _))
     refine And.intro (fun β w hS => ?_) ?_
     ·
      refine WL.sub (σ' := [(6, .int .i64 (k : Int))]) ⟨rfl, trivial⟩ ?_
      refine WL.move rfl rfl rfl ?_
      exact WL.nil (N.cut () ⟨rfl, trivial⟩ (Below.refl _ _))
     refine And.intro (fun β w hS => ?_) ?_
     ·
      refine WL.sub (σ' := [(49, .slice (some ⟨gq12, 0, none⟩) f.blocks.length capr), (50, .int .i64 (k : Int))]) ⟨rfl, rfl, trivial⟩ ?_
      refine WL.indexAddr (j := k) Tryd.underlying33 isz_91 rfl rfl rfl rfl (by omega) ?_
      exact WL.nil (N.cut () ⟨rfl, trivial⟩ (Below.refl _ _))
     refine And.intro (fun β w hS => ?_) ?_
     ·
      refine WL.sub (σ' := [(51, .pointer (some ⟨gq12, 0 + k * 8, none⟩))]) ⟨rfl, trivial⟩ ?_
      refine WL.fieldAddr fo_91_1 rfl rfl rfl ?_
      exact WL.nil (N.cut () ⟨rfl, trivial⟩ (Below.refl _ _))
     refine And.intro (fun β w hS => ?_) ?_
     ·
      refine WL.sub (σ' := [(52, .pointer (some ⟨gq12, 0 + k * 8 + 1, none⟩))]) ⟨rfl, trivial⟩ ?_
      refine WL.load1 (v := .slice (some ⟨gq22, 0, none⟩) x11.ins.length capq) one_87 rfl rfl rfl ((hS.rowCells 1 rfl hkq) 1 _ rfl) ?_
      exact WL.nil (N.cut () ⟨rfl, trivial⟩ (Below.refl _ _))
     refine And.intro (fun β w hS => ?_) ?_
     ·
      refine WL.sub (σ' := [(8, .int .i64 (j : Int))]) ⟨rfl, trivial⟩ ?_
      refine WL.move rfl rfl rfl ?_
      exact WL.nil (N.cut () ⟨rfl, trivial⟩ (Below.refl _ _))
     refine And.intro (fun β w hS => ?_) ?_
     ·
      refine WL.sub (σ' := [(5, .func (.func 66) #[vm] #[])]) ⟨rfl, trivial⟩ ?_
      refine WL.move rfl rfl rfl ?_
      exact WL.nil (N.cut () ⟨rfl, trivial⟩ (Below.refl _ _))
     refine And.intro (fun β w hS => ?_) ?_
     ·
      refine WL.sub (σ' := [(9, .pointer (some ⟨b24, 0, none⟩))]) ⟨rfl, trivial⟩ ?_
      refine WL.fieldAddr fo_86_4 rfl rfl rfl ?_
      exact WL.nil (N.cut () ⟨rfl, trivial⟩ (Below.refl _ _))
     refine And.intro (fun β w hS => ?_) ?_
     ·
      refine WL.sub (σ' := [(56, .pointer (some ⟨b24, 4, none⟩))]) ⟨rfl, trivial⟩ ?_
      refine WL.load1 (v := .string x23.name) one_9 rfl rfl rfl (hS.cell 0 rfl rfl) ?_
      exact WL.nil (N.cut () ⟨rfl, trivial⟩ (Below.refl _ _))
     refine And.intro (fun β w hS => ?_) ?_
     ·
      refine WL.sub (σ' := [(55, .func (.func 66) #[vm] #[]), (57, .string x23.name)]) ⟨rfl, rfl, trivial⟩ ?_
      refine WL.callVB (vs := [.string x23.name]) (bs := #[vm]) (cs := #[]) Tryd.func66 (by kernel_rfl) rfl rfl rfl rfl (of_ret g vm x23.name (ro := R2) (fun b hb => (hS.snap b hb).1) (hm.keep hS.alike)) ?_
      rintro _ w29 ⟨rfl, hbl⟩
      replace hS := hS.grow hbl
      exact WL.nil (N.cut () ⟨rfl, trivial⟩ hbl)
     refine And.intro (fun β w hS => ?_) ?_
     ·
      refine WL.sub (σ' := [(53, .slice (some ⟨gq22, 0, none⟩) x11.ins.length capq), (54, .int .i64 (j : Int))]) ⟨rfl, rfl, trivial⟩ ?_
      refine WL.indexAddr (j := j) Tryd.underlying87 isz_86 rfl rfl rfl rfl (by omega) ?_
      exact WL.nil (N.cut () ⟨rfl, trivial⟩ (Below.refl _ _))
     refine And.intro (fun β w hS => ?_) ?_
     ·
      refine WL.sub (σ' := [(59, .pointer (some ⟨gq22, 0 + j * 6, none⟩))]) ⟨rfl, trivial⟩ ?_
      refine WL.fieldAddr fo_86_4 rfl rfl rfl ?_
      exact WL.nil (N.cut () ⟨rfl, trivial⟩ (Below.refl _ _))
     trivial
    clear hS; intro w30 β hS
    refine WL.sub (σ' := [(2, .pointer (some ⟨b1, 0, none⟩)), (4, .pointer (some ⟨b3, 0, none⟩)), (5, .func (.func 66) #[vm] #[]), (6, .int .i64 (k : Int)), (22, .slice (some ⟨gq12, 0, none⟩) f.blocks.length capr), (23, .int .i64 (f.blocks.length : Int)), (24, .int .i64 (k : Int)), (38, .slice adi11 x11.ins.length capi11), (39, .int .i64 (x11.ins.length : Int)), (40, .int .i64 (j : Int)), (58, .string (ren10 g x23.name)), (60, .pointer (some ⟨gq22, 0 + j * 6 + 4, none⟩))]) (Sub.ofEq (by kernel_rfl)) ?_
    refine WL.storeRow (cs := [.string (ren10 g x23.name)]) rfl rfl rfl rfl siz_9 rfl hS (by simp only [List.length_cons, List.length_nil]; omega) ?_
    clear hS; intro w31 hS
    replace hS : St w ws2 w31 R2 [(b24, .cells #[.int .i64 x23.op, .int .i64 x23.a, .int .i64 x23.b, .int .u64 x23.k, .string x23.name, .slice ad23 x23.args.length cap23] 86 (0, 0)), (b13, .cells #[.int .i64 x11.params, .slice adi11 x11.ins.length capi11, .int .i64 x11.fin.kind, .int .i64 x11.fin.a, .int .i64 x11.fin.to, .slice adp11 x11.fin.args.length capp11, .int .i64 x11.fin.els, .slice adq11 x11.fin.elses.length capq11] 91 (0, 0)), (b3, .cells #[.string ⟨#[]⟩, .int .i64 0, .int .i64 0, .slice none 0 0] 35 (0, 0)), (b1, .cells #[.string (ren10 g f.name), .int .i64 f.bind, .int .i64 f.params, .slice (some ⟨gq12, 0, none⟩) f.blocks.length capr] 35 (0, 0))] [⟨.slice (some ⟨gq22, 0, none⟩) x11.ins.length capq, 86, 6, x11.ins.length, ds.take (0 + j * 6 + 4) ++ ([.string (ren10 g x23.name)] : List Value) ++ ds.drop (0 + j * 6 + 4 + 1)⟩, ⟨.slice (some ⟨gq12, 0, none⟩) f.blocks.length capr, 91, 8, f.blocks.length, cq⟩] := hS
    have hset : Chunks 6 (InstC R2 ws2) (ds.take (0 + j * 6 + 4) ++ ([.string (ren10 g x23.name)] : List Value) ++ ds.drop (0 + j * 6 + 4 + 1)) (mixL (j + 1) (x11.ins.map (renI g)) x11.ins) := by
     have h1 := hd.setCell (i := j) (c := 4) (v := .string (ren10 g x23.name)) (y := renI g x23) (by rw [mix_at (by simp) (by omega)]; exact hx23) (by decide) (by rintro l ⟨_, rfl, h1, h2, h3, h4, h5, h6⟩; unfold renI; rw [if_neg (by simpa using hc27p)]; exact ⟨_, rfl, h1, h2, h3, h4, h5, ren10_size hgs h6⟩)
     rw [mix_set (by simp) (by omega) (by rw [List.getElem?_map, hx23]; rfl)] at h1
     simpa using h1
    refine WL.nil (N.blk (N.seq (W.region ?_)))
    refine WL.add (c := (j : Int) + 1) rfl rfl rfl rfl (rfl) (by omega) ?_
    refine WL.move rfl rfl rfl (WL.nil ?_)
    have hS := hS.dropN 1
    exact N.loop (j + 1, ds.take (0 + j * 6 + 4) ++ ([.string (ren10 g x23.name)] : List Value) ++ ds.drop (0 + j * 6 + 4 + 1)) ⟨rfl, rfl, rfl, rfl, rfl, rfl, rfl, rfl, rfl, rfl, trivial⟩ ⟨hS, by omega, hset⟩ (by first | omega | (simp only; omega))
   have hc27p : x23.name = ⟨#[]⟩ := by simpa using hc27
   refine W.skip (N.blk (N.seq (W.region ?_)))
   refine WL.add (c := (j : Int) + 1) rfl rfl rfl rfl (rfl) (by omega) ?_
   refine WL.move rfl rfl rfl (WL.nil ?_)
   have hS := hS.dropN 1
   have hset : Chunks 6 (InstC R2 ws2) ds (mixL (j + 1) (x11.ins.map (renI g)) x11.ins) := by rw [← mix_same (a := (x11.ins.map (renI g))) (by simp) (by omega) (x := x23) (by rw [List.getElem?_map, hx23]; unfold renI; rw [Option.map_some, if_pos (by simpa using hc27p)]) hx23]; exact hd
   exact N.loop (j + 1, ds) ⟨rfl, rfl, rfl, rfl, rfl, rfl, rfl, rfl, rfl, rfl, trivial⟩ ⟨hS, by omega, hset⟩ (by first | omega | (simp only; omega))
  have hc21p : ¬ ((j : Int) < (x11.ins.length : Int)) := by simpa using hc21
  refine W.exit (X.seq (X.loop (X.blk (N.blk (N.seq (W.region ?_))))))
  refine WL.add (c := (k : Int) + 1) rfl rfl rfl rfl (rfl) (by omega) ?_
  refine WL.move rfl rfl rfl (WL.nil ?_)
  have hS := hS.dropN 1
  rw [show j = x11.ins.length by omega, mix_full (by simp)] at hd
  have hqn := hS.rows _ List.mem_cons_self
  have hal32 := hS.giveRowAlike
  replace hsub : ∀ b, (fun x => R2 x ∨ (.slice adq x11.ins.length capq : Value).ownBlock = some x) b → ro b ∨ w.heap.size ≤ b := fun b hb => hb.elim (hsub b) (fun h => .inr (hS.giveRowLe b h))
  replace halL0 := halL0.trans hal32
  replace hx := hx.keep hal32
  replace hch := hch.mono fun _ _ h => h.keep hal32
  replace hd := hd.mono fun _ _ h => h.keep hal32
  have hrow33 := hS.rows _ List.mem_cons_self
  replace hS := hS.giveRow
  have hins2 : SlV (fun x => R2 x ∨ (.slice adq x11.ins.length capq : Value).ownBlock = some x) w20 6 (InstC (fun x => R2 x ∨ (.slice adq x11.ins.length capq : Value).ownBlock = some x) w20) (.slice adq x11.ins.length capq) (x11.ins.map (renI g)) := row_slv hrow33 hd (by simp) (fun b hb => .inr hb)
  have hset : Chunks 8 (BlockC (fun x => R2 x ∨ (.slice adq x11.ins.length capq : Value).ownBlock = some x) w20) cq (mixL (k + 1) (f.blocks.map (renB g)) f.blocks) := by
   have h1 := hch.setCell (i := k) (c := 1) (v := .slice adq x11.ins.length capq) (y := renB g x11) (by rw [mix_at (by simp) (by omega)]; exact hxb) (by decide) (by rintro l ⟨_, _, rfl, h1, h2, h3⟩; exact ⟨_, _, rfl, hins2, h2, h3⟩)
   rw [mix_set (by simp) (by omega) (by rw [List.getElem?_map, hxb]; rfl)] at h1
   rw [hcq]; simpa using h1
  exact N.loop (k + 1, cq, (fun x => R2 x ∨ (.slice adq x11.ins.length capq : Value).ownBlock = some x), w20) ⟨rfl, rfl, rfl, rfl, rfl, rfl, trivial⟩ ⟨hS, by omega, hset, halL0, hsub⟩ (by first | omega | (simp only; omega))
 have hc10p : ¬ ((k : Int) < (f.blocks.length : Int)) := by simpa using hc10
 refine W.exit (X.seq (X.loop (X.blk (N.seq (W.seq (W.region (WL.loadN (cs := [.string (ren10 g f.name), .int .i64 f.bind, .int .i64 f.params, .slice adr f.blocks.length capr]) agg_35 rfl rfl rfl rfl (hS.cells 1 (m := 4) rfl rfl) ?_)))))))
 refine WL.store (L' := [(b3, .cells #[.string (ren10 g f.name), .int .i64 f.bind, .int .i64 f.params, .slice adr f.blocks.length capr] 35 (0, 0)), (b1, .cells #[.string (ren10 g f.name), .int .i64 f.bind, .int .i64 f.params, .slice adr f.blocks.length capr] 35 (0, 0))]) 0 rfl rfl rfl rfl siz_35 rfl rfl rfl rfl rfl hS ?_
 clear hS; intro w34 hS
 refine WL.nil (N.seq ?_)
 refine Fin.retC rfl (v := .agg #[.string (ren10 g f.name), .int .i64 f.bind, .int .i64 f.params, .slice adr f.blocks.length capr]) rfl (tyAgg_run agg_35 (cs := [.string (ren10 g f.name), .int .i64 f.bind, .int .i64 f.params, .slice adr f.blocks.length capr]) rfl (hS.cells 0 (m := 4) rfl rfl)) ?_
 have hfin : Alike R2 ws2 (roFrom ro w w34) w34 := fun b hb => ⟨(hsub b hb).elim .inl (fun h => .inr ⟨h, (hS.snap b hb).1⟩), (hS.snap b hb).2⟩
 have hke : k = f.blocks.length := by omega
 rw [hke, mix_full (by simp)] at hch
 exact ⟨_, rfl, ⟨_, rfl, row_slv (hS.rows _ List.mem_cons_self) (hch.mono fun _ _ h => h.keep hfin) (by simp [rename10]) (fun x hx => .inr ((hS.keys x (by simp only [keysOf, List.mem_append, List.mem_filterMap]; exact .inr ⟨_, List.mem_cons_self, hx⟩)).imp id (·.1))), ren10_size hgs hnmF, hbdF, hprF⟩, hS.below⟩

end Go.Proofs.YtapjejjmhmdmdaaDoor
