/-
  Contracts of layer 10 (merge). No condition beyond those that each theorem states.
-/
import Derived.Test.YtapjejjmhmdmdaaDoorY3
namespace Go.Proofs.YtapjejjmhmdmdaaDoor
open Go.RowKit

theorem lkp_at : ∀ (us vs : List ByteArray) (k : Nat) (s v : ByteArray), us[k]? = some s → ¬ s ∈ us.take k → vs[k]? = some v → us.length = vs.length → lkp us vs s = some v
  | a :: us, b :: vs, 0, s, v, h, _, hv, _ => by
    simp only [List.getElem?_cons_zero, Option.some.injEq] at h hv
    unfold lkp; rw [if_pos h, hv]
  | a :: us, b :: vs, k + 1, s, v, h, hn, hv, hl => by
    simp only [List.take_succ_cons, List.mem_cons, not_or] at hn
    unfold lkp
    rw [if_neg (fun e => hn.1 e.symm)]
    exact lkp_at us vs k s v (by simpa using h) hn.2 (by simpa using hv) (by simpa using hl)
  | [], _, _, s, v, h, _, _, _ => by simp at h
  | a :: us, [], _, s, v, h, _, _, hl => by simp at hl
theorem lkp_no {us vs : List ByteArray} {s : ByteArray} (hl : us.length = vs.length) (h : ¬ s ∈ us) : lkp us vs s = none := by
  have := lkp_mem us vs hl s
  cases e : lkp us vs s with
  | none => rfl
  | some v => rw [e] at this; simp [h] at this

theorem rnew_ret (g : Giv) (t : ByteArray) (cg : List Value) {w : World} {ro : Nat → Prop} (hro : ∀ b, ro b → b < w.heap.size) (hx : GivC ro w cg g) (hlen : g.1.length = g.2.length) : Ret Tryd.prog 38 #[.agg cg.toArray, .string t] w fun v w' => v = .string (ren10 (rG g) t) ∧ Below w.heap.size w w' := by
 obtain ⟨sog, sng, rfl, hsog, hsng⟩ := id hx
 obtain ⟨adog, capog, rfl, hsoga, hsogb, hsogc, hsogd⟩ := id hsog
 have hsogm : g.1.length ≤ 9223372036854775807 := by have h1 := hsoga; have h2 := hsogb; unfold maxLen at h2; omega
 obtain ⟨adwg, capwg, rfl, hsnga, hsngb, hsngc, hsngd⟩ := id hsng
 have hsngm : g.2.length ≤ 9223372036854775807 := by have h1 := hsnga; have h2 := hsngb; unfold maxLen at h2; omega
 refine Ret.enter (P := Tryd.prog) (n := 26) (args := [.agg #[.slice adog g.1.length capog, .slice adwg g.2.length capwg], .string t]) (σ := [(0, .agg #[.slice adog g.1.length capog, .slice adwg g.2.length capwg]), (1, .string t)]) Tryd.func38 rfl rfl rfl rfl ?_
 have hS := St.start (ro := ro) hro
 refine W.seq (W.region ?_)
 refine WL.box (v := .agg #[.slice adog g.1.length capog, .slice adwg g.2.length capwg]) (cs := [.slice adog g.1.length capog, .slice adwg g.2.length capwg]) rfl rfl rfl rfl hS ?_
 clear hS; intro w2 b1 hb_b1 hS
 refine WL.assign rfl rfl rfl (WL.nil (N.seq (W.seq (W.seq (W.region (WL.assign rfl rfl rfl (WL.nil (N.seq (W.block ?_)))))))))
 refine W.loop (α := Nat) (fun (k : Nat) => [(1, .string t), (2, .pointer (some ⟨b1, 0, none⟩)), (5, .int .i64 (k : Int))]) (fun (k : Nat) u => St w w u ro [(b1, .cells #[.slice adog g.1.length capog, .slice adwg g.2.length capwg] 94 (0, 0))] [] ∧ k ≤ g.1.length ∧ ¬ t ∈ g.1.take k) (fun (k : Nat) => g.1.length - k) 0 ⟨rfl, rfl, rfl, trivial⟩ ⟨hS, Nat.zero_le _, by simp⟩ ?_
 clear hS
 rintro k w3 ⟨hS, hk, hnt⟩
 refine W.seq (W.seq (W.region (WL.move rfl rfl rfl (WL.fieldAddr fo_94_0 rfl rfl rfl (WL.load1 (v := .slice adog g.1.length capog) one_25 rfl rfl rfl (hS.cell 0 rfl rfl) (WL.lenSlice Tryd.underlying25 rfl rfl rfl (WL.bin rfl rfl rfl rfl rfl (WL.nil (N.seq ?_)))))))))
 refine W.cond rfl (fun hc4 => ?_) (fun hc4 => ?_)
 ·
  have hc4p : (k : Int) < (g.1.length : Int) := by simpa using hc4
  refine W.skip (N.seq (W.seq (W.block (W.seq (W.region (WL.fieldAddr fo_94_0 rfl rfl rfl (WL.load1 (v := .slice adog g.1.length capog) one_25 rfl rfl rfl (hS.cell 0 rfl rfl) (WL.move rfl rfl rfl ?_))))))))
  have hj5 : k < g.1.length := by omega
  obtain ⟨x5, hx5⟩ : ∃ zz, g.1[k]? = some zz := ⟨_, List.getElem?_eq_getElem hj5⟩
  obtain ⟨b5, o5, cs5, hE5, hr5, hl5, hc5, hQ5⟩ := hsogd k _ hx5
  obtain ⟨rfl, hsz5⟩ := hQ5
  refine WL.indexAddrE (j := k) Tryd.underlying25 isz_9 rfl rfl rfl rfl hj5 hE5 (WL.load1 (v := .string x5) one_9 rfl rfl rfl (hS.roCells hr5 hc5 0 _ rfl) (WL.move rfl rfl rfl (WL.eqStr rfl rfl rfl rfl (WL.nil (N.seq ?_)))))
  refine W.cond rfl (fun hc6 => ?_) (fun hc6 => ?_)
  ·
   have hc6p : x5 = t := by simpa using hc6
   refine W.seq (W.region (WL.fieldAddr fo_94_1 rfl rfl rfl (WL.load1 (v := .slice adwg g.2.length capwg) one_25 rfl rfl rfl (hS.cell 0 rfl rfl) (WL.move rfl rfl rfl ?_))))
   have hj7 : k < g.2.length := by omega
   obtain ⟨x7, hx7⟩ : ∃ zz, g.2[k]? = some zz := ⟨_, List.getElem?_eq_getElem hj7⟩
   obtain ⟨b7, o7, cs7, hE7, hr7, hl7, hc7, hQ7⟩ := hsngd k _ hx7
   obtain ⟨rfl, hsz7⟩ := hQ7
   refine WL.indexAddrE (j := k) Tryd.underlying25 isz_9 rfl rfl rfl rfl hj7 hE7 (WL.load1 (v := .string x7) one_9 rfl rfl rfl (hS.roCells hr7 hc7 0 _ rfl) (WL.assign rfl rfl rfl (WL.nil (N.seq ?_))))
   refine Fin.ret1 rfl (v := .string x7) rfl ?_
   have e : ren10 (rG g) t = x7 := by unfold ren10 rG; rw [lkp_at g.1 g.2 k t x7 (by rw [← hc6p]; exact hx5) hnt hx7 hlen]; rfl
   exact ⟨by rw [e], hS.below⟩
  have hc6p : ¬ (x5 = t) := by simpa using hc6
  refine W.skip (N.blk (N.seq (W.region (WL.move rfl rfl rfl ?_))))
  refine WL.add (c := (k : Int) + 1) rfl rfl rfl rfl (rfl) (by omega) ?_
  refine WL.assign rfl rfl rfl (WL.nil ?_)
  have hnt2 : ¬ t ∈ g.1.take (k + 1) := by rw [take_next hx5, List.mem_append, List.mem_singleton]; exact fun e => e.elim hnt fun e2 => hc6p e2.symm
  exact N.loop (k + 1) ⟨rfl, rfl, rfl, trivial⟩ ⟨hS, by omega, hnt2⟩ (by first | omega | (simp only; omega))
 have hc4p : ¬ ((k : Int) < (g.1.length : Int)) := by simpa using hc4
 refine W.exit (X.seq (X.loop (X.blk (N.seq (W.seq (W.region (WL.move rfl rfl rfl (WL.assign rfl rfl rfl (WL.nil ?_)))))))))
 refine N.seq ?_
 refine Fin.ret1 rfl (v := .string t) rfl ?_
 have e : k = g.1.length := by omega
 rw [e, List.take_length] at hnt
 have e2 : ren10 (rG g) t = t := by unfold ren10 rG; rw [lkp_no hlen hnt]; rfl
 exact ⟨by rw [e2], hS.below⟩

theorem rbind_ret (ks : List ByteArray) (s : ByteArray) (vx : Value) {w : World} {ro : Nat → Prop} (hro : ∀ b, ro b → b < w.heap.size) (hx : SlV ro w 1 StrC vx ks) : Ret Tryd.prog 36 #[vx, .string s] w fun v w' => v = .int .i64 (bind10 ks s) ∧ Below w.heap.size w w' := by
 refine Ret.enter (P := Tryd.prog) (n := 14) (args := [vx, .string s]) (σ := [(0, vx), (1, .string s)]) Tryd.func36 rfl rfl rfl rfl ?_
 have hS := St.start (ro := ro) hro
 refine W.seq (W.region (WL.assign rfl rfl rfl (WL.nil (N.seq (W.seq (W.region (WL.move rfl rfl rfl (WL.move rfl rfl rfl ?_))))))))
 refine WL.callF (vs := [vx, .string s]) Tryd.func35 (by kernel_rfl) rfl rfl rfl (has8_ret ks s _ (ro := ro) (fun b hb => (hS.snap b hb).1) (SlV.keep hx hS.alike (fun _ _ q => q))) ?_
 rintro v w1 ⟨rfl, hbl⟩
 replace hS := hS.grow hbl
 refine WL.assign rfl rfl rfl (WL.nil (N.seq (W.seq (W.seq (W.region (WL.move rfl rfl rfl (WL.eqStr rfl rfl rfl rfl (WL.move rfl rfl rfl ?_))))))))
 rcases (Bool.eq_false_or_eq_true (decide (s = ⟨#[109, 97, 105, 110]⟩))).symm with hg2 | hg2
 ·
  refine WL.set 10 (v' := .bool false) rfl (by rw [hg2]) ?_
  refine WL.set 11 (v' := .bool false) rfl (by rw [hg2]) ?_
  have hg2p : ¬ (s = ⟨#[109, 97, 105, 110]⟩) := by simpa using hg2
  refine WL.move rfl rfl rfl (WL.pick (v := .bool (decide (s ∈ ks))) rfl rfl rfl rfl rfl rfl (WL.nil (N.seq ?_)))
  refine W.cond rfl (fun hc3 => ?_) (fun hc3 => ?_)
  ·
   have hc3p : s ∈ ks := by simpa using hc3
   refine W.seq (W.region (WL.assign rfl rfl rfl (WL.nil (N.seq ?_))))
   refine Fin.ret1 rfl (v := .int .i64 2) rfl ?_
   have e : bind10 ks s = 2 := by unfold bind10; rw [if_pos (by first | exact .inl (by assumption) | exact .inr (by assumption))]
   exact ⟨by rw [e], hS.below⟩
  have hc3p : ¬ (s ∈ ks) := by simpa using hc3
  refine W.skip (N.seq (W.seq (W.region (WL.assign rfl rfl rfl (WL.nil (N.seq ?_))))))
  refine Fin.ret1 rfl (v := .int .i64 1) rfl ?_
  have e : bind10 ks s = 1 := by unfold bind10; rw [if_neg (by rintro (h | h) <;> first | (exact absurd h (by assumption)))]
  exact ⟨by rw [e], hS.below⟩
 refine WL.set 10 (v' := .bool true) rfl (by rw [hg2]) ?_
 refine WL.set 11 (v' := .bool true) rfl (by rw [hg2]) ?_
 have hg2p : s = ⟨#[109, 97, 105, 110]⟩ := by simpa using hg2
 refine WL.skp rfl rfl (WL.pick (v := .bool true) rfl rfl rfl rfl rfl rfl (WL.nil (N.seq (W.condT rfl (W.seq (W.region (WL.assign rfl rfl rfl (WL.nil (N.seq ?_)))))))))
 refine Fin.ret1 rfl (v := .int .i64 2) rfl ?_
 have e : bind10 ks s = 2 := by unfold bind10; rw [if_pos (by first | exact .inl (by assumption) | exact .inr (by assumption))]
 exact ⟨by rw [e], hS.below⟩

set_option maxRecDepth 10000 in
set_option maxHeartbeats 4000000 in
theorem rrename_ret (f : DFunc) (g : Giv) (cf cg : List Value) {w : World} {ro : Nat → Prop} (hro : ∀ b, ro b → b < w.heap.size) (hx : FuncC ro w cf f) (hg : GivC ro w cg g) (hlen : g.1.length = g.2.length) (hgs : ∀ s v, rG g s = some v → v.size ≤ maxLen) (hnb : f.blocks.length ≤ 16) (hbi : ∀ b ∈ f.blocks, b.ins.length ≤ 32) : Ret Tryd.prog 37 #[.agg cf.toArray, .agg cg.toArray] w fun v w' => ∃ cs, v = .agg cs.toArray ∧ FuncC (roFrom ro w w') w' cs (rename10 (rG g) f) ∧ Below w.heap.size w w' := by
 obtain ⟨sbF, rfl, hblF, hnmF, hbdF, hprF⟩ := id hx
 obtain ⟨adbF, capbF, rfl, hbkFa, hbkFb, hbkFc, hbkFd⟩ := id hblF
 have hbkFm : f.blocks.length ≤ 9223372036854775807 := by have h1 := hbkFa; have h2 := hbkFb; unfold maxLen at h2; omega
 obtain ⟨sog, sng, rfl, hsog, hsng⟩ := id hg
 obtain ⟨adog, capog, rfl, hsoga, hsogb, hsogc, hsogd⟩ := id hsog
 have hsogm : g.1.length ≤ 9223372036854775807 := by have h1 := hsoga; have h2 := hsogb; unfold maxLen at h2; omega
 obtain ⟨adwg, capwg, rfl, hsnga, hsngb, hsngc, hsngd⟩ := id hsng
 have hsngm : g.2.length ≤ 9223372036854775807 := by have h1 := hsnga; have h2 := hsngb; unfold maxLen at h2; omega
 refine Ret.enter (P := Tryd.prog) (n := 80) (args := [.agg #[.string f.name, .int .i64 f.bind, .int .i64 f.params, .slice adbF f.blocks.length capbF], .agg #[.slice adog g.1.length capog, .slice adwg g.2.length capwg]]) (σ := [(0, .agg #[.string f.name, .int .i64 f.bind, .int .i64 f.params, .slice adbF f.blocks.length capbF]), (1, .agg #[.slice adog g.1.length capog, .slice adwg g.2.length capwg])]) Tryd.func37 rfl rfl rfl rfl ?_
 have hS := St.start (ro := ro) hro
 have hsub : ∀ b, ro b → ro b ∨ w.heap.size ≤ b := fun _ h => .inl h
 refine W.seq (W.region ?_)
 refine WL.box (v := .agg #[.string f.name, .int .i64 f.bind, .int .i64 f.params, .slice adbF f.blocks.length capbF]) (cs := [.string f.name, .int .i64 f.bind, .int .i64 f.params, .slice adbF f.blocks.length capbF]) rfl rfl rfl rfl hS ?_
 clear hS; intro w2 b1 hb_b1 hS
 refine WL.box (v := .agg #[.slice adog g.1.length capog, .slice adwg g.2.length capwg]) (cs := [.slice adog g.1.length capog, .slice adwg g.2.length capwg]) rfl rfl rfl rfl hS ?_
 clear hS; intro w4 b3 hb_b3 hS
 refine WL.alloc (tyZero_spec zer_35) rfl rfl hS ?_
 clear hS; intro w6 b5 hb_b5 hS
 refine WL.nil (N.seq (W.seq ?_))
 refine W.drawL (by kernel_rfl) 10 ((.q (.agg #[.slice adog g.1.length capog, .slice adwg g.2.length capwg])) :: (.q (.pointer (some ⟨b1, 0, none⟩))) :: (.q (.string f.name)) :: (.q (.string (ren10 (rG g) f.name))) :: (.q (.pointer (some ⟨b1, 1, none⟩))) :: (.q (.int .i64 f.bind)) :: (.q (.pointer (some ⟨b1, 2, none⟩))) :: (.q (.int .i64 f.params)) :: (.q (.agg #[.string (ren10 (rG g) f.name), .int .i64 f.bind, .int .i64 f.params, .slice none 0 0])) :: (.a 35 [.string ⟨#[]⟩, .int .i64 0, .int .i64 0, .slice none 0 0]) :: []) (by kernel_rfl) (by kernel_rfl) [(2, .pointer (some ⟨b1, 0, none⟩)), (3, .pointer (some ⟨b3, 0, none⟩)), (4, .pointer (some ⟨b5, 0, none⟩))] ⟨rfl, rfl, rfl, trivial⟩ (by kernel_rfl) hS ?_ ?_
 ·
  refine And.intro (fun β w hS => ?_) ?_
  ·
   refine WL.sub (σ' := [(3, .pointer (some ⟨b3, 0, none⟩))]) ⟨rfl, trivial⟩ ?_
   refine WL.loadN (cs := [.slice adog g.1.length capog, .slice adwg g.2.length capwg]) agg_94 rfl rfl rfl rfl (hS.cells 1 (m := 2) rfl rfl) ?_
   exact WL.nil (N.cut () ⟨rfl, trivial⟩ (Below.refl _ _))
  refine And.intro (fun β w hS => ?_) ?_
  ·
   refine WL.sub (σ' := [(2, .pointer (some ⟨b1, 0, none⟩))]) ⟨rfl, trivial⟩ ?_
   refine WL.fieldAddr fo_35_0 rfl rfl rfl ?_
   exact WL.nil (N.cut () ⟨rfl, trivial⟩ (Below.refl _ _))
  refine And.intro (fun β w hS => ?_) ?_
  ·
   refine WL.sub (σ' := [(11, .pointer (some ⟨b1, 0, none⟩))]) ⟨rfl, trivial⟩ ?_
   refine WL.load1 (v := .string f.name) one_9 rfl rfl rfl (hS.cell 2 rfl rfl) ?_
   exact WL.nil (N.cut () ⟨rfl, trivial⟩ (Below.refl _ _))
  refine And.intro (fun β w hS => ?_) ?_
  ·
   refine WL.sub (σ' := [(10, .agg #[.slice adog g.1.length capog, .slice adwg g.2.length capwg]), (12, .string f.name)]) ⟨rfl, rfl, trivial⟩ ?_
   refine WL.callF (vs := [.agg #[.slice adog g.1.length capog, .slice adwg g.2.length capwg], .string f.name]) Tryd.func38 (by kernel_rfl) rfl rfl rfl (rnew_ret g f.name _ (ro := ro) (fun b hb => (hS.snap b hb).1) (hg.keep hS.alike) hlen) ?_
   rintro v w8 ⟨rfl, hbl⟩
   replace hS := hS.grow hbl
   exact WL.nil (N.cut () ⟨rfl, trivial⟩ hbl)
  refine And.intro (fun β w hS => ?_) ?_
  ·
   refine WL.sub (σ' := [(2, .pointer (some ⟨b1, 0, none⟩))]) ⟨rfl, trivial⟩ ?_
   refine WL.fieldAddr fo_35_1 rfl rfl rfl ?_
   exact WL.nil (N.cut () ⟨rfl, trivial⟩ (Below.refl _ _))
  refine And.intro (fun β w hS => ?_) ?_
  ·
   refine WL.sub (σ' := [(14, .pointer (some ⟨b1, 1, none⟩))]) ⟨rfl, trivial⟩ ?_
   refine WL.load1 (v := .int .i64 f.bind) one_3 rfl rfl rfl (hS.cell 2 rfl rfl) ?_
   exact WL.nil (N.cut () ⟨rfl, trivial⟩ (Below.refl _ _))
  refine And.intro (fun β w hS => ?_) ?_
  ·
   refine WL.sub (σ' := [(2, .pointer (some ⟨b1, 0, none⟩))]) ⟨rfl, trivial⟩ ?_
   refine WL.fieldAddr fo_35_2 rfl rfl rfl ?_
   exact WL.nil (N.cut () ⟨rfl, trivial⟩ (Below.refl _ _))
  refine And.intro (fun β w hS => ?_) ?_
  ·
   refine WL.sub (σ' := [(16, .pointer (some ⟨b1, 2, none⟩))]) ⟨rfl, trivial⟩ ?_
   refine WL.load1 (v := .int .i64 f.params) one_3 rfl rfl rfl (hS.cell 2 rfl rfl) ?_
   exact WL.nil (N.cut () ⟨rfl, trivial⟩ (Below.refl _ _))
  refine And.intro (fun β w hS => ?_) ?_
  ·
   refine WL.sub (σ' := [(13, .string (ren10 (rG g) f.name)), (15, .int .i64 f.bind), (17, .int .i64 f.params)]) ⟨rfl, rfl, rfl, trivial⟩ ?_
   refine WL.build (ps := [(0, .string (ren10 (rG g) f.name)), (1, .int .i64 f.bind), (2, .int .i64 f.params)]) (cs := [.string (ren10 (rG g) f.name), .int .i64 f.bind, .int .i64 f.params, .slice none 0 0]) rfl rfl rfl (by kernel_rfl) ?_
   exact WL.nil (N.cut () ⟨rfl, trivial⟩ (Below.refl _ _))
  refine And.intro ⟨rfl, rfl, tyZero_spec zer_35⟩ ?_
  trivial
 clear hS; intro w9 β hS
 obtain ⟨b10, hb10⟩ : ∃ x, β 9 = x := ⟨_, rfl⟩
 replace hS : St w w w9 ro [(b10, .cells #[.string ⟨#[]⟩, .int .i64 0, .int .i64 0, .slice none 0 0] 35 (0, 0)), (b5, .cells #[.string ⟨#[]⟩, .int .i64 0, .int .i64 0, .slice none 0 0] 35 (0, 0)), (b3, .cells #[.slice adog g.1.length capog, .slice adwg g.2.length capwg] 94 (0, 0)), (b1, .cells #[.string f.name, .int .i64 f.bind, .int .i64 f.params, .slice adbF f.blocks.length capbF] 35 (0, 0))] [] := by rw [← hb10]; exact hS
 refine WL.sub (σ' := [(2, .pointer (some ⟨b1, 0, none⟩)), (3, .pointer (some ⟨b3, 0, none⟩)), (4, .pointer (some ⟨b5, 0, none⟩)), (5, .pointer (some ⟨b10, 0, none⟩)), (18, .agg #[.string (ren10 (rG g) f.name), .int .i64 f.bind, .int .i64 f.params, .slice none 0 0])]) ⟨rfl, rfl, rfl, by rw [← hb10]; rfl, rfl, trivial⟩ ?_
 refine WL.store (L' := [(b10, .cells #[.string (ren10 (rG g) f.name), .int .i64 f.bind, .int .i64 f.params, .slice none 0 0] 35 (0, 0)), (b5, .cells #[.string ⟨#[]⟩, .int .i64 0, .int .i64 0, .slice none 0 0] 35 (0, 0)), (b3, .cells #[.slice adog g.1.length capog, .slice adwg g.2.length capwg] 94 (0, 0)), (b1, .cells #[.string f.name, .int .i64 f.bind, .int .i64 f.params, .slice adbF f.blocks.length capbF] 35 (0, 0))]) 0 rfl rfl rfl rfl siz_35 rfl rfl rfl rfl rfl hS ?_
 clear hS; intro w11 hS
 refine WL.nil (N.seq (W.seq (W.seq (W.region (WL.assign rfl rfl rfl (WL.nil (N.seq (W.block ?_))))))))
 replace hS := hS.row0 91 8
 refine W.loop (α := Nat × Value × List Value × (Nat → Prop) × World) (fun ⟨i, v, cs, R2, ws2⟩ => [(2, .pointer (some ⟨b1, 0, none⟩)), (3, .pointer (some ⟨b3, 0, none⟩)), (4, .pointer (some ⟨b5, 0, none⟩)), (5, .pointer (some ⟨b10, 0, none⟩)), (6, .int .i64 (i : Int))]) (fun ⟨i, v, cs, R2, ws2⟩ u => St w ws2 u R2 [(b10, .cells #[.string (ren10 (rG g) f.name), .int .i64 f.bind, .int .i64 f.params, v] 35 (0, 0)), (b5, .cells #[.string ⟨#[]⟩, .int .i64 0, .int .i64 0, .slice none 0 0] 35 (0, 0)), (b3, .cells #[.slice adog g.1.length capog, .slice adwg g.2.length capwg] 94 (0, 0)), (b1, .cells #[.string f.name, .int .i64 f.bind, .int .i64 f.params, .slice adbF f.blocks.length capbF] 35 (0, 0))] [⟨v, 91, 8, i, cs⟩] ∧ i ≤ f.blocks.length ∧ Chunks 8 (BlockC R2 ws2) cs ((f.blocks.take i).map (renB (rG g))) ∧ Alike ro w R2 ws2 ∧ (∀ b, R2 b → ro b ∨ w.heap.size ≤ b)) (fun ⟨i, v, cs, R2, ws2⟩ => f.blocks.length - i) (0, (.slice none 0 0), [], ro, w) ⟨rfl, rfl, rfl, rfl, rfl, trivial⟩ ⟨hS, Nat.zero_le _, Chunks.nil, Alike.refl, hsub⟩ ?_
 clear hS
 rintro ⟨i, v, cs, R2, ws2⟩ w12 ⟨hS, hi, hch, halL0, hsub⟩
 replace hx := hx.keep halL0
 replace hbkFd := hbkFd.keep halL0 (fun _ _ h => h.keep halL0)
 replace hg := hg.keep halL0
 have hrow : w12.ownsRow w.heap.size 91 8 v (i) _ := hS.rows _ List.mem_cons_self
 obtain ⟨adv, capv, rfl, hr1v, hr2v, hr3v⟩ := row_shape hrow
 clear hrow
 refine W.seq (W.seq (W.region (WL.move rfl rfl rfl (WL.fieldAddr fo_35_3 rfl rfl rfl (WL.load1 (v := .slice adbF f.blocks.length capbF) one_33 rfl rfl rfl (hS.cell 3 rfl rfl) (WL.lenSlice Tryd.underlying33 rfl rfl rfl (WL.bin rfl rfl rfl rfl rfl (WL.nil (N.seq ?_)))))))))
 refine W.cond rfl (fun hc13 => ?_) (fun hc13 => ?_)
 ·
  have hc13p : (i : Int) < (f.blocks.length : Int) := by simpa using hc13
  refine W.skip (N.seq (W.seq (W.block (W.seq ?_))))
  have hj14 : i < f.blocks.length := by omega
  obtain ⟨x14, hx14⟩ : ∃ zz, f.blocks[i]? = some zz := ⟨_, List.getElem?_eq_getElem hj14⟩
  obtain ⟨b14, o14, cs14, hE14, hr14, hl14, hc14, hQ14⟩ := hbkFd i _ hx14
  obtain ⟨si14, tsx14, rfl, hin14, hfin14, hpar14⟩ := id hQ14
  obtain ⟨adi14, capi14, rfl, hin14a, hin14b, hin14c, hin14d⟩ := id hin14
  have hin14m : x14.ins.length ≤ 9223372036854775807 := by have h1 := hin14a; have h2 := hin14b; unfold maxLen at h2; omega
  obtain ⟨sp14, sq14, rfl, ht114, ht214, htk14, hta14, htt14, hte14⟩ := id hfin14
  obtain ⟨adp14, capp14, rfl, htp14a, htp14b, htp14c, htp14d⟩ := id ht114
  have htp14m : x14.fin.args.length ≤ 9223372036854775807 := by have h1 := htp14a; have h2 := htp14b; unfold maxLen at h2; omega
  obtain ⟨adq14, capq14, rfl, htq14a, htq14b, htq14c, htq14d⟩ := id ht214
  have htq14m : x14.fin.elses.length ≤ 9223372036854775807 := by have h1 := htq14a; have h2 := htq14b; unfold maxLen at h2; omega
  have hib := hbi _ (List.mem_of_getElem? hx14)
  refine W.drawL (by kernel_rfl) 14 ((.q (.pointer (some ⟨b1, 3, none⟩))) :: (.q (.slice adbF f.blocks.length capbF)) :: (.q (.int .i64 (i : Int))) :: (.q (.pointer (some ⟨b14, o14 + i * 8, none⟩))) :: (.q (.pointer (some ⟨b14, o14 + i * 8, none⟩))) :: (.q (.int .i64 x14.params)) :: (.q (.pointer (some ⟨b1, 3, none⟩))) :: (.q (.slice adbF f.blocks.length capbF)) :: (.q (.int .i64 (i : Int))) :: (.q (.pointer (some ⟨b14, o14 + i * 8, none⟩))) :: (.q (.pointer (some ⟨b14, o14 + i * 8 + 2, none⟩))) :: (.q (.agg #[.int .i64 x14.fin.kind, .int .i64 x14.fin.a, .int .i64 x14.fin.to, .slice adp14 x14.fin.args.length capp14, .int .i64 x14.fin.els, .slice adq14 x14.fin.elses.length capq14])) :: (.q (.agg #[.int .i64 x14.params, .slice none 0 0, .int .i64 x14.fin.kind, .int .i64 x14.fin.a, .int .i64 x14.fin.to, .slice adp14 x14.fin.args.length capp14, .int .i64 x14.fin.els, .slice adq14 x14.fin.elses.length capq14])) :: (.a 91 [.int .i64 0, .slice none 0 0, .int .i64 0, .int .i64 0, .int .i64 0, .slice none 0 0, .int .i64 0, .slice none 0 0]) :: []) (by kernel_rfl) (by kernel_rfl) [(2, .pointer (some ⟨b1, 0, none⟩)), (3, .pointer (some ⟨b3, 0, none⟩)), (4, .pointer (some ⟨b5, 0, none⟩)), (5, .pointer (some ⟨b10, 0, none⟩)), (6, .int .i64 (i : Int))] ⟨rfl, rfl, rfl, rfl, rfl, trivial⟩ (by kernel_rfl) hS ?_ ?_
  ·
   refine And.intro (fun β w hS => ?_) ?_
   ·
    refine WL.sub (σ' := [(2, .pointer (some ⟨b1, 0, none⟩))]) ⟨rfl, trivial⟩ ?_
    refine WL.fieldAddr fo_35_3 rfl rfl rfl ?_
    exact WL.nil (N.cut () ⟨rfl, trivial⟩ (Below.refl _ _))
   refine And.intro (fun β w hS => ?_) ?_
   ·
    refine WL.sub (σ' := [(26, .pointer (some ⟨b1, 3, none⟩))]) ⟨rfl, trivial⟩ ?_
    refine WL.load1 (v := .slice adbF f.blocks.length capbF) one_33 rfl rfl rfl (hS.cell 3 rfl rfl) ?_
    exact WL.nil (N.cut () ⟨rfl, trivial⟩ (Below.refl _ _))
   refine And.intro (fun β w hS => ?_) ?_
   ·
    refine WL.sub (σ' := [(6, .int .i64 (i : Int))]) ⟨rfl, trivial⟩ ?_
    refine WL.move rfl rfl rfl ?_
    exact WL.nil (N.cut () ⟨rfl, trivial⟩ (Below.refl _ _))
   refine And.intro (fun β w hS => ?_) ?_
   ·
    refine WL.sub (σ' := [(27, .slice adbF f.blocks.length capbF), (28, .int .i64 (i : Int))]) ⟨rfl, rfl, trivial⟩ ?_
    refine WL.indexAddrE (j := i) Tryd.underlying33 isz_91 rfl rfl rfl rfl hj14 hE14 ?_
    exact WL.nil (N.cut () ⟨rfl, trivial⟩ (Below.refl _ _))
   refine And.intro (fun β w hS => ?_) ?_
   ·
    refine WL.sub (σ' := [(29, .pointer (some ⟨b14, o14 + i * 8, none⟩))]) ⟨rfl, trivial⟩ ?_
    refine WL.fieldAddr fo_91_0 rfl rfl rfl ?_
    exact WL.nil (N.cut () ⟨rfl, trivial⟩ (Below.refl _ _))
   refine And.intro (fun β w hS => ?_) ?_
   ·
    refine WL.sub (σ' := [(30, .pointer (some ⟨b14, o14 + i * 8, none⟩))]) ⟨rfl, trivial⟩ ?_
    refine WL.load1 (v := .int .i64 x14.params) one_3 rfl rfl rfl (hS.roCells hr14 hc14 0 _ rfl) ?_
    exact WL.nil (N.cut () ⟨rfl, trivial⟩ (Below.refl _ _))
   refine And.intro (fun β w hS => ?_) ?_
   ·
    refine WL.sub (σ' := [(2, .pointer (some ⟨b1, 0, none⟩))]) ⟨rfl, trivial⟩ ?_
    refine WL.fieldAddr fo_35_3 rfl rfl rfl ?_
    exact WL.nil (N.cut () ⟨rfl, trivial⟩ (Below.refl _ _))
   refine And.intro (fun β w hS => ?_) ?_
   ·
    refine WL.sub (σ' := [(32, .pointer (some ⟨b1, 3, none⟩))]) ⟨rfl, trivial⟩ ?_
    refine WL.load1 (v := .slice adbF f.blocks.length capbF) one_33 rfl rfl rfl (hS.cell 3 rfl rfl) ?_
    exact WL.nil (N.cut () ⟨rfl, trivial⟩ (Below.refl _ _))
   refine And.intro (fun β w hS => ?_) ?_
   ·
    refine WL.sub (σ' := [(6, .int .i64 (i : Int))]) ⟨rfl, trivial⟩ ?_
    refine WL.move rfl rfl rfl ?_
    exact WL.nil (N.cut () ⟨rfl, trivial⟩ (Below.refl _ _))
   refine And.intro (fun β w hS => ?_) ?_
   ·
    refine WL.sub (σ' := [(33, .slice adbF f.blocks.length capbF), (34, .int .i64 (i : Int))]) ⟨rfl, rfl, trivial⟩ ?_
    refine WL.indexAddrE (j := i) Tryd.underlying33 isz_91 rfl rfl rfl rfl hj14 hE14 ?_
    exact WL.nil (N.cut () ⟨rfl, trivial⟩ (Below.refl _ _))
   refine And.intro (fun β w hS => ?_) ?_
   ·
    refine WL.sub (σ' := [(35, .pointer (some ⟨b14, o14 + i * 8, none⟩))]) ⟨rfl, trivial⟩ ?_
    refine WL.fieldAddr fo_91_2 rfl rfl rfl ?_
    exact WL.nil (N.cut () ⟨rfl, trivial⟩ (Below.refl _ _))
   refine And.intro (fun β w hS => ?_) ?_
   ·
    refine WL.sub (σ' := [(36, .pointer (some ⟨b14, o14 + i * 8 + 2, none⟩))]) ⟨rfl, trivial⟩ ?_
    refine WL.loadN (cs := [.int .i64 x14.fin.kind, .int .i64 x14.fin.a, .int .i64 x14.fin.to, .slice adp14 x14.fin.args.length capp14, .int .i64 x14.fin.els, .slice adq14 x14.fin.elses.length capq14]) agg_89 rfl rfl rfl rfl (CellsAt.part (hS.roCells hr14 hc14) 2 6 rfl) ?_
    exact WL.nil (N.cut () ⟨rfl, trivial⟩ (Below.refl _ _))
   refine And.intro (fun β w hS => ?_) ?_
   ·
    refine WL.sub (σ' := [(31, .int .i64 x14.params), (37, .agg #[.int .i64 x14.fin.kind, .int .i64 x14.fin.a, .int .i64 x14.fin.to, .slice adp14 x14.fin.args.length capp14, .int .i64 x14.fin.els, .slice adq14 x14.fin.elses.length capq14])]) ⟨rfl, rfl, trivial⟩ ?_
    refine WL.build (ps := [(0, .int .i64 x14.params), (2, .agg #[.int .i64 x14.fin.kind, .int .i64 x14.fin.a, .int .i64 x14.fin.to, .slice adp14 x14.fin.args.length capp14, .int .i64 x14.fin.els, .slice adq14 x14.fin.elses.length capq14])]) (cs := [.int .i64 x14.params, .slice none 0 0, .int .i64 x14.fin.kind, .int .i64 x14.fin.a, .int .i64 x14.fin.to, .slice adp14 x14.fin.args.length capp14, .int .i64 x14.fin.els, .slice adq14 x14.fin.elses.length capq14]) rfl rfl rfl (by kernel_rfl) ?_
    exact WL.nil (N.cut () ⟨rfl, trivial⟩ (Below.refl _ _))
   refine And.intro ⟨rfl, rfl, tyZero_spec zer_91⟩ ?_
   trivial
  clear hS; intro w15 β hS
  obtain ⟨b16, hb16⟩ : ∃ x, β 13 = x := ⟨_, rfl⟩
  replace hS : St w ws2 w15 R2 [(b16, .cells #[.int .i64 0, .slice none 0 0, .int .i64 0, .int .i64 0, .int .i64 0, .slice none 0 0, .int .i64 0, .slice none 0 0] 91 (0, 0)), (b10, .cells #[.string (ren10 (rG g) f.name), .int .i64 f.bind, .int .i64 f.params, .slice adv i capv] 35 (0, 0)), (b5, .cells #[.string ⟨#[]⟩, .int .i64 0, .int .i64 0, .slice none 0 0] 35 (0, 0)), (b3, .cells #[.slice adog g.1.length capog, .slice adwg g.2.length capwg] 94 (0, 0)), (b1, .cells #[.string f.name, .int .i64 f.bind, .int .i64 f.params, .slice adbF f.blocks.length capbF] 35 (0, 0))] [⟨.slice adv i capv, 91, 8, i, cs⟩] := by rw [← hb16]; exact hS
  refine WL.sub (σ' := [(2, .pointer (some ⟨b1, 0, none⟩)), (3, .pointer (some ⟨b3, 0, none⟩)), (4, .pointer (some ⟨b5, 0, none⟩)), (5, .pointer (some ⟨b10, 0, none⟩)), (6, .int .i64 (i : Int)), (7, .pointer (some ⟨b16, 0, none⟩)), (38, .agg #[.int .i64 x14.params, .slice none 0 0, .int .i64 x14.fin.kind, .int .i64 x14.fin.a, .int .i64 x14.fin.to, .slice adp14 x14.fin.args.length capp14, .int .i64 x14.fin.els, .slice adq14 x14.fin.elses.length capq14])]) ⟨rfl, rfl, rfl, rfl, rfl, by rw [← hb16]; rfl, rfl, trivial⟩ ?_
  refine WL.store (L' := [(b16, .cells #[.int .i64 x14.params, .slice none 0 0, .int .i64 x14.fin.kind, .int .i64 x14.fin.a, .int .i64 x14.fin.to, .slice adp14 x14.fin.args.length capp14, .int .i64 x14.fin.els, .slice adq14 x14.fin.elses.length capq14] 91 (0, 0)), (b10, .cells #[.string (ren10 (rG g) f.name), .int .i64 f.bind, .int .i64 f.params, .slice adv i capv] 35 (0, 0)), (b5, .cells #[.string ⟨#[]⟩, .int .i64 0, .int .i64 0, .slice none 0 0] 35 (0, 0)), (b3, .cells #[.slice adog g.1.length capog, .slice adwg g.2.length capwg] 94 (0, 0)), (b1, .cells #[.string f.name, .int .i64 f.bind, .int .i64 f.params, .slice adbF f.blocks.length capbF] 35 (0, 0))]) 0 rfl rfl rfl rfl siz_91 rfl rfl rfl rfl rfl hS ?_
  clear hS; intro w17 hS
  refine WL.nil (N.seq (W.seq (W.seq (W.region (WL.assign rfl rfl rfl (WL.nil (N.seq (W.block ?_))))))))
  replace hS := hS.row0 86 6
  refine W.loop (α := Nat × Value × List Value) (fun ⟨j, v1, cs1⟩ => [(2, .pointer (some ⟨b1, 0, none⟩)), (3, .pointer (some ⟨b3, 0, none⟩)), (4, .pointer (some ⟨b5, 0, none⟩)), (5, .pointer (some ⟨b10, 0, none⟩)), (6, .int .i64 (i : Int)), (7, .pointer (some ⟨b16, 0, none⟩)), (8, .int .i64 (j : Int))]) (fun ⟨j, v1, cs1⟩ u => St w ws2 u R2 [(b16, .cells #[.int .i64 x14.params, v1, .int .i64 x14.fin.kind, .int .i64 x14.fin.a, .int .i64 x14.fin.to, .slice adp14 x14.fin.args.length capp14, .int .i64 x14.fin.els, .slice adq14 x14.fin.elses.length capq14] 91 (0, 0)), (b10, .cells #[.string (ren10 (rG g) f.name), .int .i64 f.bind, .int .i64 f.params, .slice adv i capv] 35 (0, 0)), (b5, .cells #[.string ⟨#[]⟩, .int .i64 0, .int .i64 0, .slice none 0 0] 35 (0, 0)), (b3, .cells #[.slice adog g.1.length capog, .slice adwg g.2.length capwg] 94 (0, 0)), (b1, .cells #[.string f.name, .int .i64 f.bind, .int .i64 f.params, .slice adbF f.blocks.length capbF] 35 (0, 0))] [⟨v1, 86, 6, j, cs1⟩, ⟨.slice adv i capv, 91, 8, i, cs⟩] ∧ j ≤ x14.ins.length ∧ Chunks 6 (InstC R2 ws2) cs1 ((x14.ins.take j).map (renI (rG g)))) (fun ⟨j, v1, cs1⟩ => x14.ins.length - j) (0, (.slice none 0 0), []) ⟨rfl, rfl, rfl, rfl, rfl, rfl, rfl, trivial⟩ ⟨hS, Nat.zero_le _, Chunks.nil⟩ ?_
  clear hS
  rintro ⟨j, v1, cs1⟩ w18 ⟨hS, hj, hc1⟩
  have hrow : w18.ownsRow w.heap.size 86 6 v1 (j) _ := hS.rows _ List.mem_cons_self
  obtain ⟨adv1, capv1, rfl, hr1v1, hr2v1, hr3v1⟩ := row_shape hrow
  clear hrow
  refine W.seq (W.seq (W.region (WL.move rfl rfl rfl (WL.fieldAddr fo_35_3 rfl rfl rfl (WL.load1 (v := .slice adbF f.blocks.length capbF) one_33 rfl rfl rfl (hS.cell 4 rfl rfl) (WL.move rfl rfl rfl (WL.indexAddrE (j := i) Tryd.underlying33 isz_91 rfl rfl rfl rfl hj14 hE14 (WL.fieldAddr fo_91_1 rfl rfl rfl (WL.load1 (v := .slice adi14 x14.ins.length capi14) one_87 rfl rfl rfl (hS.roCells hr14 hc14 1 _ rfl) ?_)))))))))
  refine WL.lenSlice Tryd.underlying87 rfl rfl rfl (WL.bin rfl rfl rfl rfl rfl (WL.nil (N.seq ?_)))
  refine W.cond rfl (fun hc19 => ?_) (fun hc19 => ?_)
  ·
   have hc19p : (j : Int) < (x14.ins.length : Int) := by simpa using hc19
   refine W.skip (N.seq (W.seq (W.block (W.seq (W.region (WL.fieldAddr fo_35_3 rfl rfl rfl (WL.load1 (v := .slice adbF f.blocks.length capbF) one_33 rfl rfl rfl (hS.cell 4 rfl rfl) (WL.move rfl rfl rfl (WL.indexAddrE (j := i) Tryd.underlying33 isz_91 rfl rfl rfl rfl hj14 hE14 ?_)))))))))
   refine WL.fieldAddr fo_91_1 rfl rfl rfl (WL.load1 (v := .slice adi14 x14.ins.length capi14) one_87 rfl rfl rfl (hS.roCells hr14 hc14 1 _ rfl) (WL.move rfl rfl rfl ?_))
   have hj20 : j < x14.ins.length := by omega
   obtain ⟨x20, hx20⟩ : ∃ zz, x14.ins[j]? = some zz := ⟨_, List.getElem?_eq_getElem hj20⟩
   obtain ⟨b20, o20, cs20, hE20, hr20, hl20, hc20, hQ20⟩ := hin14d j _ hx20
   have hQk20 := hQ20
   obtain ⟨sv20, rfl, hs20, ho20, ha20, hb20, hk20, hn20⟩ := hQ20
   obtain ⟨ad20, cap20, rfl, hs20a, hs20b, hs20c, hs20d⟩ := id hs20
   have hs20m : x20.args.length ≤ 9223372036854775807 := by have h1 := hs20a; have h2 := hs20b; unfold maxLen at h2; omega
   refine WL.indexAddrE (j := j) Tryd.underlying87 isz_86 rfl rfl rfl rfl hj20 hE20 (WL.loadN (cs := [.int .i64 x20.op, .int .i64 x20.a, .int .i64 x20.b, .int .u64 x20.k, .string x20.name, .slice ad20 x20.args.length cap20]) agg_86 rfl rfl rfl rfl (hS.roCells hr20 hc20) ?_)
   refine WL.alloc (tyZero_spec zer_86) rfl rfl hS ?_
   clear hS; intro w22 b21 hb_b21 hS
   refine WL.store (L' := [(b21, .cells #[.int .i64 x20.op, .int .i64 x20.a, .int .i64 x20.b, .int .u64 x20.k, .string x20.name, .slice ad20 x20.args.length cap20] 86 (0, 0)), (b16, .cells #[.int .i64 x14.params, .slice adv1 j capv1, .int .i64 x14.fin.kind, .int .i64 x14.fin.a, .int .i64 x14.fin.to, .slice adp14 x14.fin.args.length capp14, .int .i64 x14.fin.els, .slice adq14 x14.fin.elses.length capq14] 91 (0, 0)), (b10, .cells #[.string (ren10 (rG g) f.name), .int .i64 f.bind, .int .i64 f.params, .slice adv i capv] 35 (0, 0)), (b5, .cells #[.string ⟨#[]⟩, .int .i64 0, .int .i64 0, .slice none 0 0] 35 (0, 0)), (b3, .cells #[.slice adog g.1.length capog, .slice adwg g.2.length capwg] 94 (0, 0)), (b1, .cells #[.string f.name, .int .i64 f.bind, .int .i64 f.params, .slice adbF f.blocks.length capbF] 35 (0, 0))]) 0 rfl rfl rfl rfl siz_86 rfl rfl rfl rfl rfl hS ?_
   clear hS; intro w23 hS
   refine WL.nil (N.seq (W.seq (W.seq (W.region (WL.fieldAddr fo_86_4 rfl rfl rfl (WL.load1 (v := .string x20.name) one_9 rfl rfl rfl (hS.cell 0 rfl rfl) (WL.neStr rfl rfl rfl rfl (WL.nil (N.seq ?_)))))))))
   refine W.cond rfl (fun hc24 => ?_) (fun hc24 => ?_)
   ·
    have hc24p : ¬ (x20.name = ⟨#[]⟩) := by simpa using hc24
    refine W.region (WL.loadN (cs := [.slice adog g.1.length capog, .slice adwg g.2.length capwg]) agg_94 rfl rfl rfl rfl (hS.cells 4 (m := 2) rfl rfl) (WL.fieldAddr fo_86_4 rfl rfl rfl (WL.load1 (v := .string x20.name) one_9 rfl rfl rfl (hS.cell 0 rfl rfl) ?_)))
    refine WL.callF (vs := [.agg #[.slice adog g.1.length capog, .slice adwg g.2.length capwg], .string x20.name]) Tryd.func38 (by kernel_rfl) rfl rfl rfl (rnew_ret g x20.name _ (ro := R2) (fun b hb => (hS.snap b hb).1) (hg.keep hS.alike) hlen) ?_
    rintro v w25 ⟨rfl, hbl⟩
    replace hS := hS.grow hbl
    refine WL.fieldAddr fo_86_4 rfl rfl rfl ?_
    refine WL.store (L' := [(b21, .cells #[.int .i64 x20.op, .int .i64 x20.a, .int .i64 x20.b, .int .u64 x20.k, .string (ren10 (rG g) x20.name), .slice ad20 x20.args.length cap20] 86 (0, 0)), (b16, .cells #[.int .i64 x14.params, .slice adv1 j capv1, .int .i64 x14.fin.kind, .int .i64 x14.fin.a, .int .i64 x14.fin.to, .slice adp14 x14.fin.args.length capp14, .int .i64 x14.fin.els, .slice adq14 x14.fin.elses.length capq14] 91 (0, 0)), (b10, .cells #[.string (ren10 (rG g) f.name), .int .i64 f.bind, .int .i64 f.params, .slice adv i capv] 35 (0, 0)), (b5, .cells #[.string ⟨#[]⟩, .int .i64 0, .int .i64 0, .slice none 0 0] 35 (0, 0)), (b3, .cells #[.slice adog g.1.length capog, .slice adwg g.2.length capwg] 94 (0, 0)), (b1, .cells #[.string f.name, .int .i64 f.bind, .int .i64 f.params, .slice adbF f.blocks.length capbF] 35 (0, 0))]) 0 rfl rfl rfl rfl siz_9 rfl rfl rfl rfl rfl hS ?_
    clear hS; intro w26 hS
    refine WL.nil (N.seq (W.region (WL.fieldAddr fo_91_1 rfl rfl rfl (WL.load1 (v := .slice adv1 j capv1) one_87 rfl rfl rfl (hS.cell 1 rfl rfl) (WL.loadN (cs := [.int .i64 x20.op, .int .i64 x20.a, .int .i64 x20.b, .int .u64 x20.k, .string (ren10 (rG g) x20.name), .slice ad20 x20.args.length cap20]) agg_86 rfl rfl rfl rfl (hS.cells 0 (m := 6) rfl rfl) ?_)))))
    refine WL.buildSlice (ps := [(0, .agg #[.int .i64 x20.op, .int .i64 x20.a, .int .i64 x20.b, .int .u64 x20.k, .string (ren10 (rG g) x20.name), .slice ad20 x20.args.length cap20])]) (cs := [.int .i64 x20.op, .int .i64 x20.a, .int .i64 x20.b, .int .u64 x20.k, .string (ren10 (rG g) x20.name), .slice ad20 x20.args.length cap20]) Tryd.underlying87 (tyZero_spec zer_86) rfl rfl rfl rfl (by kernel_rfl) hS ?_
    clear hS; intro w28 b27 hb_b27 hS
    refine WL.append (r := ⟨.slice adv1 j capv1, 86, 6, j, cs1⟩) (cs := [.int .i64 x20.op, .int .i64 x20.a, .int .i64 x20.b, .int .u64 x20.k, .string (ren10 (rG g) x20.name), .slice ad20 x20.args.length cap20]) 72 Tryd.underlying87 (tyZero_spec zer_86) byt_86 rfl rfl rfl rfl rfl rfl rfl rfl rfl hS (by unfold maxLen; simp only; omega) (by simp only; omega) ?_
    clear hS; intro w29 v30 hn_v30 hS
    have hrow : w29.ownsRow w.heap.size 86 6 v30 (j + 1) _ := hS.rows _ List.mem_cons_self
    obtain ⟨av30, cv30, rfl, hc1_v30, hc2_v30, hc3_v30⟩ := row_shape hrow
    clear hrow
    refine WL.fieldAddr fo_91_1 rfl rfl rfl ?_
    refine WL.store (L' := [(b21, .cells #[.int .i64 x20.op, .int .i64 x20.a, .int .i64 x20.b, .int .u64 x20.k, .string (ren10 (rG g) x20.name), .slice ad20 x20.args.length cap20] 86 (0, 0)), (b16, .cells #[.int .i64 x14.params, .slice av30 (j + 1) cv30, .int .i64 x14.fin.kind, .int .i64 x14.fin.a, .int .i64 x14.fin.to, .slice adp14 x14.fin.args.length capp14, .int .i64 x14.fin.els, .slice adq14 x14.fin.elses.length capq14] 91 (0, 0)), (b10, .cells #[.string (ren10 (rG g) f.name), .int .i64 f.bind, .int .i64 f.params, .slice adv i capv] 35 (0, 0)), (b5, .cells #[.string ⟨#[]⟩, .int .i64 0, .int .i64 0, .slice none 0 0] 35 (0, 0)), (b3, .cells #[.slice adog g.1.length capog, .slice adwg g.2.length capwg] 94 (0, 0)), (b1, .cells #[.string f.name, .int .i64 f.bind, .int .i64 f.params, .slice adbF f.blocks.length capbF] 35 (0, 0))]) 1 rfl rfl rfl rfl siz_87 rfl rfl rfl rfl rfl hS ?_
    clear hS; intro w31 hS
    refine WL.nil (N.blk (N.seq (W.region (WL.move rfl rfl rfl ?_))))
    refine WL.add (c := (j : Int) + 1) rfl rfl rfl rfl (rfl) (by omega) ?_
    refine WL.assign rfl rfl rfl (WL.nil ?_)
    have hS := hS.dropN 1
    have hic : InstC R2 ws2 [.int .i64 x20.op, .int .i64 x20.a, .int .i64 x20.b, .int .u64 x20.k, .string (ren10 (rG g) x20.name), .slice ad20 x20.args.length cap20] (renI (rG g) x20) := by unfold renI; rw [if_neg (by simpa using hc24p)]; exact ⟨_, rfl, hs20, ho20, ha20, hb20, hk20, ren10_size hgs hn20⟩
    have hc5 : Chunks 6 (InstC R2 ws2) (cs1 ++ ([.int .i64 x20.op, .int .i64 x20.a, .int .i64 x20.b, .int .u64 x20.k, .string (ren10 (rG g) x20.name), .slice ad20 x20.args.length cap20] : List Value)) ((x14.ins.take (j + 1)).map (renI (rG g))) := by rw [take_next hx20, List.map_append]; exact hc1.snoc rfl hic
    exact N.loop (j + 1, .slice av30 (j + 1) cv30, cs1 ++ ([.int .i64 x20.op, .int .i64 x20.a, .int .i64 x20.b, .int .u64 x20.k, .string (ren10 (rG g) x20.name), .slice ad20 x20.args.length cap20] : List Value)) ⟨rfl, rfl, rfl, rfl, rfl, rfl, rfl, trivial⟩ ⟨hS, by omega, hc5⟩ (by first | omega | (simp only; omega))
   have hc24p : x20.name = ⟨#[]⟩ := by simpa using hc24
   refine W.skip (N.seq (W.region (WL.fieldAddr fo_91_1 rfl rfl rfl (WL.load1 (v := .slice adv1 j capv1) one_87 rfl rfl rfl (hS.cell 1 rfl rfl) (WL.loadN (cs := [.int .i64 x20.op, .int .i64 x20.a, .int .i64 x20.b, .int .u64 x20.k, .string x20.name, .slice ad20 x20.args.length cap20]) agg_86 rfl rfl rfl rfl (hS.cells 0 (m := 6) rfl rfl) ?_)))))
   refine WL.buildSlice (ps := [(0, .agg #[.int .i64 x20.op, .int .i64 x20.a, .int .i64 x20.b, .int .u64 x20.k, .string x20.name, .slice ad20 x20.args.length cap20])]) (cs := [.int .i64 x20.op, .int .i64 x20.a, .int .i64 x20.b, .int .u64 x20.k, .string x20.name, .slice ad20 x20.args.length cap20]) Tryd.underlying87 (tyZero_spec zer_86) rfl rfl rfl rfl (by kernel_rfl) hS ?_
   clear hS; intro w33 b32 hb_b32 hS
   refine WL.append (r := ⟨.slice adv1 j capv1, 86, 6, j, cs1⟩) (cs := [.int .i64 x20.op, .int .i64 x20.a, .int .i64 x20.b, .int .u64 x20.k, .string x20.name, .slice ad20 x20.args.length cap20]) 72 Tryd.underlying87 (tyZero_spec zer_86) byt_86 rfl rfl rfl rfl rfl rfl rfl rfl rfl hS (by unfold maxLen; simp only; omega) (by simp only; omega) ?_
   clear hS; intro w34 v35 hn_v35 hS
   have hrow : w34.ownsRow w.heap.size 86 6 v35 (j + 1) _ := hS.rows _ List.mem_cons_self
   obtain ⟨av35, cv35, rfl, hc1_v35, hc2_v35, hc3_v35⟩ := row_shape hrow
   clear hrow
   refine WL.fieldAddr fo_91_1 rfl rfl rfl ?_
   refine WL.store (L' := [(b21, .cells #[.int .i64 x20.op, .int .i64 x20.a, .int .i64 x20.b, .int .u64 x20.k, .string x20.name, .slice ad20 x20.args.length cap20] 86 (0, 0)), (b16, .cells #[.int .i64 x14.params, .slice av35 (j + 1) cv35, .int .i64 x14.fin.kind, .int .i64 x14.fin.a, .int .i64 x14.fin.to, .slice adp14 x14.fin.args.length capp14, .int .i64 x14.fin.els, .slice adq14 x14.fin.elses.length capq14] 91 (0, 0)), (b10, .cells #[.string (ren10 (rG g) f.name), .int .i64 f.bind, .int .i64 f.params, .slice adv i capv] 35 (0, 0)), (b5, .cells #[.string ⟨#[]⟩, .int .i64 0, .int .i64 0, .slice none 0 0] 35 (0, 0)), (b3, .cells #[.slice adog g.1.length capog, .slice adwg g.2.length capwg] 94 (0, 0)), (b1, .cells #[.string f.name, .int .i64 f.bind, .int .i64 f.params, .slice adbF f.blocks.length capbF] 35 (0, 0))]) 1 rfl rfl rfl rfl siz_87 rfl rfl rfl rfl rfl hS ?_
   clear hS; intro w36 hS
   refine WL.nil (N.blk (N.seq (W.region (WL.move rfl rfl rfl ?_))))
   refine WL.add (c := (j : Int) + 1) rfl rfl rfl rfl (rfl) (by omega) ?_
   refine WL.assign rfl rfl rfl (WL.nil ?_)
   have hS := hS.dropN 1
   have hic : InstC R2 ws2 [.int .i64 x20.op, .int .i64 x20.a, .int .i64 x20.b, .int .u64 x20.k, .string x20.name, .slice ad20 x20.args.length cap20] (renI (rG g) x20) := by unfold renI; rw [if_pos (by simpa using hc24p)]; exact ⟨_, rfl, hs20, ho20, ha20, hb20, hk20, hn20⟩
   have hc5 : Chunks 6 (InstC R2 ws2) (cs1 ++ ([.int .i64 x20.op, .int .i64 x20.a, .int .i64 x20.b, .int .u64 x20.k, .string x20.name, .slice ad20 x20.args.length cap20] : List Value)) ((x14.ins.take (j + 1)).map (renI (rG g))) := by rw [take_next hx20, List.map_append]; exact hc1.snoc rfl hic
   exact N.loop (j + 1, .slice av35 (j + 1) cv35, cs1 ++ ([.int .i64 x20.op, .int .i64 x20.a, .int .i64 x20.b, .int .u64 x20.k, .string x20.name, .slice ad20 x20.args.length cap20] : List Value)) ⟨rfl, rfl, rfl, rfl, rfl, rfl, rfl, trivial⟩ ⟨hS, by omega, hc5⟩ (by first | omega | (simp only; omega))
  have hc19p : ¬ ((j : Int) < (x14.ins.length : Int)) := by simpa using hc19
  refine W.exit (X.seq (X.loop (X.blk (N.seq ?_))))
  have hje : j = x14.ins.length := by omega
  rw [hje, List.take_length] at hc1
  have hal37 := hS.giveRowAlike
  replace hsub : ∀ b, (fun x => R2 x ∨ (.slice adv1 j capv1 : Value).ownBlock = some x) b → ro b ∨ w.heap.size ≤ b := fun b hb => hb.elim (hsub b) (fun h => .inr (hS.giveRowLe b h))
  replace halL0 := halL0.trans hal37
  replace hx := hx.keep hal37
  replace hch := hch.mono fun _ _ h => h.keep hal37
  replace hfin14 := hfin14.keep hal37
  replace hc1 := hc1.mono fun _ _ h => h.keep hal37
  have hrow38 := hS.rows _ List.mem_cons_self
  replace hS := hS.giveRow
  have hins : SlV (fun x => R2 x ∨ (.slice adv1 j capv1 : Value).ownBlock = some x) w18 6 (InstC (fun x => R2 x ∨ (.slice adv1 j capv1 : Value).ownBlock = some x) w18) (.slice adv1 j capv1) (x14.ins.map (renI (rG g))) := row_slv hrow38 (hc1.mono fun _ _ h => h) (by rw [List.length_map]; exact hje) (fun b hb => .inr hb)
  refine W.region (WL.fieldAddr fo_35_3 rfl rfl rfl (WL.load1 (v := .slice adv i capv) one_33 rfl rfl rfl (hS.cell 1 rfl rfl) (WL.loadN (cs := [.int .i64 x14.params, .slice adv1 j capv1, .int .i64 x14.fin.kind, .int .i64 x14.fin.a, .int .i64 x14.fin.to, .slice adp14 x14.fin.args.length capp14, .int .i64 x14.fin.els, .slice adq14 x14.fin.elses.length capq14]) agg_91 rfl rfl rfl rfl (hS.cells 0 (m := 8) rfl rfl) ?_)))
  refine WL.buildSlice (ps := [(0, .agg #[.int .i64 x14.params, .slice adv1 j capv1, .int .i64 x14.fin.kind, .int .i64 x14.fin.a, .int .i64 x14.fin.to, .slice adp14 x14.fin.args.length capp14, .int .i64 x14.fin.els, .slice adq14 x14.fin.elses.length capq14])]) (cs := [.int .i64 x14.params, .slice adv1 j capv1, .int .i64 x14.fin.kind, .int .i64 x14.fin.a, .int .i64 x14.fin.to, .slice adp14 x14.fin.args.length capp14, .int .i64 x14.fin.els, .slice adq14 x14.fin.elses.length capq14]) Tryd.underlying33 (tyZero_spec zer_91) rfl rfl rfl rfl (by kernel_rfl) hS ?_
  clear hS; intro w40 b39 hb_b39 hS
  have hbc : BlockC (fun x => R2 x ∨ (.slice adv1 j capv1 : Value).ownBlock = some x) w18 [.int .i64 x14.params, .slice adv1 j capv1, .int .i64 x14.fin.kind, .int .i64 x14.fin.a, .int .i64 x14.fin.to, .slice adp14 x14.fin.args.length capp14, .int .i64 x14.fin.els, .slice adq14 x14.fin.elses.length capq14] (renB (rG g) x14) := ⟨_, _, rfl, hins, hfin14, hpar14⟩
  refine WL.append (r := ⟨.slice adv i capv, 91, 8, i, cs⟩) (cs := [.int .i64 x14.params, .slice adv1 j capv1, .int .i64 x14.fin.kind, .int .i64 x14.fin.a, .int .i64 x14.fin.to, .slice adp14 x14.fin.args.length capp14, .int .i64 x14.fin.els, .slice adq14 x14.fin.elses.length capq14]) 112 Tryd.underlying33 (tyZero_spec zer_91) byt_91 rfl rfl rfl rfl rfl rfl rfl rfl rfl hS (by unfold maxLen; simp only; omega) (by simp only; omega) ?_
  clear hS; intro w41 v42 hn_v42 hS
  have hrow : w41.ownsRow w.heap.size 91 8 v42 (i + 1) _ := hS.rows _ List.mem_cons_self
  obtain ⟨av42, cv42, rfl, hc1_v42, hc2_v42, hc3_v42⟩ := row_shape hrow
  clear hrow
  have hch5 : Chunks 8 (BlockC (fun x => R2 x ∨ (.slice adv1 j capv1 : Value).ownBlock = some x) w18) (cs ++ ([.int .i64 x14.params, .slice adv1 j capv1, .int .i64 x14.fin.kind, .int .i64 x14.fin.a, .int .i64 x14.fin.to, .slice adp14 x14.fin.args.length capp14, .int .i64 x14.fin.els, .slice adq14 x14.fin.elses.length capq14] : List Value)) ((f.blocks.take (i + 1)).map (renB (rG g))) := by rw [take_next hx14, List.map_append]; exact hch.snoc rfl hbc
  refine WL.fieldAddr fo_35_3 rfl rfl rfl ?_
  refine WL.store (L' := [(b16, .cells #[.int .i64 x14.params, .slice adv1 j capv1, .int .i64 x14.fin.kind, .int .i64 x14.fin.a, .int .i64 x14.fin.to, .slice adp14 x14.fin.args.length capp14, .int .i64 x14.fin.els, .slice adq14 x14.fin.elses.length capq14] 91 (0, 0)), (b10, .cells #[.string (ren10 (rG g) f.name), .int .i64 f.bind, .int .i64 f.params, .slice av42 (i + 1) cv42] 35 (0, 0)), (b5, .cells #[.string ⟨#[]⟩, .int .i64 0, .int .i64 0, .slice none 0 0] 35 (0, 0)), (b3, .cells #[.slice adog g.1.length capog, .slice adwg g.2.length capwg] 94 (0, 0)), (b1, .cells #[.string f.name, .int .i64 f.bind, .int .i64 f.params, .slice adbF f.blocks.length capbF] 35 (0, 0))]) 1 rfl rfl rfl rfl siz_33 rfl rfl rfl rfl rfl hS ?_
  clear hS; intro w43 hS
  refine WL.nil (N.blk (N.seq (W.region (WL.move rfl rfl rfl ?_))))
  refine WL.add (c := (i : Int) + 1) rfl rfl rfl rfl (rfl) (by omega) ?_
  refine WL.assign rfl rfl rfl (WL.nil ?_)
  have hS := hS.dropN 1
  exact N.loop (i + 1, .slice av42 (i + 1) cv42, cs ++ ([.int .i64 x14.params, .slice adv1 j capv1, .int .i64 x14.fin.kind, .int .i64 x14.fin.a, .int .i64 x14.fin.to, .slice adp14 x14.fin.args.length capp14, .int .i64 x14.fin.els, .slice adq14 x14.fin.elses.length capq14] : List Value), (fun x => R2 x ∨ (.slice adv1 j capv1 : Value).ownBlock = some x), w18) ⟨rfl, rfl, rfl, rfl, rfl, trivial⟩ ⟨hS, by omega, hch5, halL0, hsub⟩ (by first | omega | (simp only; omega))
 have hc13p : ¬ ((i : Int) < (f.blocks.length : Int)) := by simpa using hc13
 refine W.exit (X.seq (X.loop (X.blk (N.seq (W.seq (W.region (WL.loadN (cs := [.string (ren10 (rG g) f.name), .int .i64 f.bind, .int .i64 f.params, .slice adv i capv]) agg_35 rfl rfl rfl rfl (hS.cells 0 (m := 4) rfl rfl) ?_)))))))
 refine WL.store (L' := [(b10, .cells #[.string (ren10 (rG g) f.name), .int .i64 f.bind, .int .i64 f.params, .slice adv i capv] 35 (0, 0)), (b5, .cells #[.string (ren10 (rG g) f.name), .int .i64 f.bind, .int .i64 f.params, .slice adv i capv] 35 (0, 0)), (b3, .cells #[.slice adog g.1.length capog, .slice adwg g.2.length capwg] 94 (0, 0)), (b1, .cells #[.string f.name, .int .i64 f.bind, .int .i64 f.params, .slice adbF f.blocks.length capbF] 35 (0, 0))]) 1 rfl rfl rfl rfl siz_35 rfl rfl rfl rfl rfl hS ?_
 clear hS; intro w44 hS
 refine WL.nil (N.seq ?_)
 refine Fin.retC rfl (v := .agg #[.string (ren10 (rG g) f.name), .int .i64 f.bind, .int .i64 f.params, .slice adv i capv]) rfl (tyAgg_run agg_35 (cs := [.string (ren10 (rG g) f.name), .int .i64 f.bind, .int .i64 f.params, .slice adv i capv]) rfl (hS.cells 1 (m := 4) rfl rfl)) ?_
 have hfin : Alike R2 ws2 (roFrom ro w w44) w44 := fun b hb => ⟨(hsub b hb).elim .inl (fun h => .inr ⟨h, (hS.snap b hb).1⟩), (hS.snap b hb).2⟩
 have hie : i = f.blocks.length := by omega
 rw [hie, List.take_length] at hch
 exact ⟨_, rfl, ⟨_, rfl, row_slv (hS.rows _ List.mem_cons_self) (hch.mono fun _ _ h => h.keep hfin) (by show i = (f.blocks.map _).length; rw [List.length_map]; exact hie) (fun x hx => .inr ((hS.keys x (by simp only [keysOf, List.mem_append, List.mem_filterMap]; exact .inr ⟨_, List.mem_cons_self, hx⟩)).imp id (·.1))), ren10_size hgs hnmF, hbdF, hprF⟩, hS.below⟩

end Go.Proofs.YtapjejjmhmdmdaaDoor
