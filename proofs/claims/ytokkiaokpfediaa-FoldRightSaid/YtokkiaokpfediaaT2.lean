/-
  Contracts that several laws use: lists and instructions compared, what is known. No condition beyond those that each theorem states.
-/
import Derived.Test.YtokkiaokpfediaaF3
namespace Go.Proofs.Ytokkiaokpfediaa
open Go.RowKit
theorem byt_4 : (Try.prog.info? 4).map (·.bytes) = some 1 := by kernel_rfl
theorem isz_4 : (Try.prog.info? 4).map (·.size) = some 1 := by kernel_rfl
theorem zer_4 : tyZero Try.prog 4 = some [.bool false] := by kernel_rfl
theorem known1_ret (k : Int × Bool) {w : World} {ro : Nat → Prop} (hro : ∀ b, ro b → b < w.heap.size) : Ret Try.prog 23 #[.agg #[.int .u64 k.1, .bool k.2]] w fun v w' => v = .bool k.2 ∧ Below w.heap.size w w' := by
  refine Ret.enter (P := Try.prog) (n := 5) (args := [.agg #[.int .u64 k.1, .bool k.2]]) (σ := [(0, .agg #[.int .u64 k.1, .bool k.2])]) Try.func23 rfl rfl rfl rfl ?_
  have hS := St.start (ro := ro) hro
  refine W.seq ?_
  refine W.region ?_
  refine WL.box (v := .agg #[.int .u64 k.1, .bool k.2]) (cs := [.int .u64 k.1, .bool k.2]) rfl rfl rfl rfl hS ?_
  clear hS; intro w2 b1 hb_b1 hS
  refine WL.assign rfl rfl rfl ?_
  refine WL.nil ?_
  refine N.seq ?_
  refine W.seq ?_
  refine W.region ?_
  refine WL.fieldAddr fo_59_1 rfl rfl rfl ?_
  refine WL.load1 (v := .bool k.2) one_4 rfl rfl rfl (hS.cell 0 rfl rfl) ?_
  refine WL.assign rfl rfl rfl ?_
  refine WL.nil ?_
  refine N.seq ?_
  refine Fin.ret1 rfl (v := .bool k.2) rfl ?_
  exact ⟨rfl, hS.below⟩

theorem eachKnown_ret (ks : List (Int × Bool)) (vx : Value) {w : World} {ro : Nat → Prop} (hro : ∀ b, ro b → b < w.heap.size) (hx : SlV ro w 2 KnownC vx ks) (hl : ks.length ≤ 100000000000000) : Ret Try.prog 22 #[vx, .func (.func 23) #[] #[]] w fun v w' => SlV (fun x => w.heap.size ≤ x ∧ x < w'.heap.size) w' 1 BoolC v (ks.map (·.2)) ∧ Below w.heap.size w w' := by
  obtain ⟨ad, cap, rfl, haa, hab, hac, had⟩ := id hx
  have ham : ks.length ≤ 9223372036854775807 := by have h1 := haa; have h2 := hab; unfold maxLen at h2; omega
  refine Ret.enter (P := Try.prog) (n := 22) (args := [.slice ad ks.length cap, .func (.func 23) #[] #[]]) (σ := [(0, .slice ad ks.length cap), (1, .func (.func 23) #[] #[])]) Try.func22 rfl rfl rfl rfl ?_
  have hS := St.start (ro := ro) hro
  refine W.seq ?_
  refine W.region ?_
  refine WL.assign rfl rfl rfl ?_
  refine WL.nil ?_
  refine N.seq ?_
  refine W.seq ?_
  refine W.region ?_
  refine WL.assign rfl rfl rfl ?_
  refine WL.nil ?_
  refine N.seq ?_
  refine W.seq ?_
  refine W.seq ?_
  refine W.region ?_
  refine WL.move rfl rfl rfl ?_
  refine WL.lenSlice Try.underlying55 rfl rfl rfl ?_
  refine WL.move rfl rfl rfl ?_
  refine WL.nil ?_
  refine N.seq ?_
  refine W.block ?_
  replace hS := hS.row0 4 1
  refine W.loop (α := Nat × Value × List Value) (fun ⟨k, v, cs⟩ => [(0, .slice ad ks.length cap), (1, .func (.func 23) #[] #[]), (4, .slice none 0 0), (5, v), (8, .slice ad ks.length cap), (9, .int .i64 (ks.length : Int)), (10, .int .i64 (k : Int))]) (fun ⟨k, v, cs⟩ u => St w w u ro [] [⟨v, 4, 1, k, cs⟩] ∧ k ≤ ks.length ∧ Chunks 1 BoolC cs ((ks.take k).map (·.2))) (fun ⟨k, v, cs⟩ => ks.length - k) (0, (.slice none 0 0), []) ⟨rfl, rfl, rfl, rfl, rfl, rfl, rfl, trivial⟩ ⟨hS, Nat.zero_le _, Chunks.nil⟩ ?_
  clear hS
  rintro ⟨k, v, cs⟩ w1 ⟨hS, hk, hch⟩
  have hrow : w1.ownsRow w.heap.size 4 1 v (k) _ := hS.rows _ List.mem_cons_self
  obtain ⟨adv, capv, rfl, hr1v, hr2v, hr3v⟩ := row_shape hrow
  clear hrow
  refine W.seq ?_
  refine W.region ?_
  refine WL.bin rfl rfl rfl rfl rfl ?_
  refine WL.nil ?_
  refine N.seq ?_
  refine W.seq ?_
  refine W.cond rfl (fun hc2 => ?_) (fun hc2 => ?_)
  ·
    have hc2p : (k : Int) < (ks.length : Int) := by simpa using hc2
    refine W.skip ?_
    refine N.seq ?_
    refine W.seq ?_
    refine W.block ?_
    refine W.seq ?_
    refine W.region ?_
    have hj3 : k < ks.length := by omega
    obtain ⟨x3, hx3⟩ : ∃ zz, ks[k]? = some zz := ⟨_, List.getElem?_eq_getElem hj3⟩
    obtain ⟨b3, o3, cs3, hE3, hr3, hl3, hc3, hQ3⟩ := had k _ hx3
    obtain ⟨rfl, hku3⟩ := hQ3
    refine WL.indexAddrE (j := k) Try.underlying55 isz_59 rfl rfl rfl rfl hj3 hE3 ?_
    refine WL.loadN (cs := [.int .u64 x3.1, .bool x3.2]) agg_59 rfl rfl rfl rfl (hS.roCells hr3 hc3) ?_
    refine WL.alloc (tyZero_spec zer_59) rfl rfl hS ?_
    clear hS; intro w5 b4 hb_b4 hS
    refine WL.store (cs := [.int .u64 x3.1, .bool x3.2]) (c' := #[.int .u64 x3.1, .bool x3.2]) (L' := [(b4, .cells #[.int .u64 x3.1, .bool x3.2] 59 (0, 0))]) 0 rfl rfl rfl rfl siz_59 rfl rfl rfl rfl rfl hS ?_
    clear hS; intro w6 hS
    refine WL.nil ?_
    refine N.seq ?_
    refine W.region ?_
    refine WL.move rfl rfl rfl ?_
    refine WL.move rfl rfl rfl ?_
    refine WL.loadN (cs := [.int .u64 x3.1, .bool x3.2]) agg_59 rfl rfl rfl rfl (hS.cells 0 (m := 2) rfl rfl) ?_
    refine WL.callV (vs := [.agg #[.int .u64 x3.1, .bool x3.2]]) (cs := #[]) Try.func23 (by kernel_rfl) rfl rfl rfl rfl (known1_ret x3 (ro := ro) (fun b hb => (hS.snap b hb).1)) ?_
    rintro v w7 ⟨rfl, hbl⟩
    replace hS := hS.grow hbl
    refine WL.buildSlice (ps := [(0, .bool x3.2)]) (cs := [.bool x3.2]) Try.underlying36 (tyZero_spec zer_4) rfl rfl rfl rfl (by kernel_rfl) hS ?_
    clear hS; intro w9 b8 hb_b8 hS
    refine WL.append (r := ⟨.slice adv k capv, 4, 1, k, cs⟩) (cs := [.bool x3.2]) 1 Try.underlying36 (tyZero_spec zer_4) byt_4 rfl rfl rfl rfl rfl rfl rfl rfl rfl hS (by unfold maxLen; simp only; omega) (by simp only; omega) ?_
    clear hS; intro w10 v11 hn_v11 hS
    have hrow : w10.ownsRow w.heap.size 4 1 v11 (k + 1) _ := hS.rows _ List.mem_cons_self
    obtain ⟨av11, cv11, rfl, hc1_v11, hc2_v11, hc3_v11⟩ := row_shape hrow
    clear hrow
    refine WL.assign rfl rfl rfl ?_
    refine WL.nil ?_
    refine N.blk ?_
    refine N.seq ?_
    refine W.region ?_
    refine WL.add (c := (k : Int) + 1) rfl rfl rfl rfl (rfl) (by omega) ?_
    refine WL.move rfl rfl rfl ?_
    refine WL.nil ?_
    have hS := hS.dropN 1
    have hch2 : Chunks 1 BoolC (cs ++ ([.bool x3.2] : List Value)) ((ks.take (k + 1)).map (·.2)) := by rw [take_next hx3, List.map_append]; exact hch.snoc rfl rfl
    exact N.loop (k + 1, .slice av11 (k + 1) cv11, cs ++ ([.bool x3.2] : List Value)) ⟨rfl, rfl, rfl, rfl, rfl, rfl, rfl, trivial⟩ ⟨hS, by omega, hch2⟩ (by first | omega | (simp only; omega))
  ·
    have hc2p : ¬ ((k : Int) < (ks.length : Int)) := by simpa using hc2
    refine W.exit ?_
    refine X.seq ?_
    refine X.loop ?_
    refine X.blk ?_
    refine N.seq ?_
    refine W.seq ?_
    refine W.region ?_
    refine WL.move rfl rfl rfl ?_
    refine WL.assign rfl rfl rfl ?_
    refine WL.nil ?_
    refine N.seq ?_
    refine Fin.ret1 rfl (v := .slice adv k capv) rfl ?_
    have hke : k = ks.length := by omega
    subst hke
    rw [List.take_length] at hch
    refine ⟨row_slv (hS.rows _ List.mem_cons_self) hch (by simp) (fun x hx => ?_), hS.below⟩
    exact (hS.keys x (by simp only [keysOf, List.mem_append, List.mem_filterMap]; exact .inr ⟨_, List.mem_cons_self, hx⟩)).imp id (·.1)

theorem known_ret (b : DBlock) (cs : List Value) {w : World} {ro : Nat → Prop} (hro : ∀ b, ro b → b < w.heap.size) (hb : BlockC ro w cs b) (hp : b.params ≤ 1000) (hl : b.ins.length ≤ 1954687338211) : Ret Try.prog 12 #[.agg cs.toArray] w fun v w' => SlV (fun x => w.heap.size ≤ x ∧ x < w'.heap.size) w' 1 BoolC v ((vals b).map (·.2)) ∧ Below w.heap.size w w' := by
  obtain ⟨si, tsx, rfl, hin, hfin, hpar⟩ := id hb
  obtain ⟨adi, capi, rfl, hina, hinb, hinc, hind⟩ := id hin
  have hinm : b.ins.length ≤ 9223372036854775807 := by have h1 := hina; have h2 := hinb; unfold maxLen at h2; omega
  obtain ⟨sp, sq, rfl, ht1, ht2, htk, hta, htt, hte⟩ := id hfin
  obtain ⟨adp, capp, rfl, htpa, htpb, htpc, htpd⟩ := id ht1
  have htpm : b.fin.args.length ≤ 9223372036854775807 := by have h1 := htpa; have h2 := htpb; unfold maxLen at h2; omega
  obtain ⟨adq, capq, rfl, htqa, htqb, htqc, htqd⟩ := id ht2
  have htqm : b.fin.elses.length ≤ 9223372036854775807 := by have h1 := htqa; have h2 := htqb; unfold maxLen at h2; omega
  refine Ret.enter (P := Try.prog) (n := 6) (args := [.agg #[.int .i64 b.params, .slice adi b.ins.length capi, .int .i64 b.fin.kind, .int .i64 b.fin.a, .int .i64 b.fin.to, .slice adp b.fin.args.length capp, .int .i64 b.fin.els, .slice adq b.fin.elses.length capq]]) (σ := [(0, .agg #[.int .i64 b.params, .slice adi b.ins.length capi, .int .i64 b.fin.kind, .int .i64 b.fin.a, .int .i64 b.fin.to, .slice adp b.fin.args.length capp, .int .i64 b.fin.els, .slice adq b.fin.elses.length capq])]) Try.func12 rfl rfl rfl rfl ?_
  have hS := St.start (ro := ro) hro
  refine W.seq ?_
  refine W.region ?_
  refine WL.box (v := .agg #[.int .i64 b.params, .slice adi b.ins.length capi, .int .i64 b.fin.kind, .int .i64 b.fin.a, .int .i64 b.fin.to, .slice adp b.fin.args.length capp, .int .i64 b.fin.els, .slice adq b.fin.elses.length capq]) (cs := [.int .i64 b.params, .slice adi b.ins.length capi, .int .i64 b.fin.kind, .int .i64 b.fin.a, .int .i64 b.fin.to, .slice adp b.fin.args.length capp, .int .i64 b.fin.els, .slice adq b.fin.elses.length capq]) rfl rfl rfl rfl hS ?_
  clear hS; intro w2 b1 hb_b1 hS
  refine WL.assign rfl rfl rfl ?_
  refine WL.nil ?_
  refine N.seq ?_
  refine W.seq ?_
  refine W.region ?_
  refine WL.loadN (cs := [.int .i64 b.params, .slice adi b.ins.length capi, .int .i64 b.fin.kind, .int .i64 b.fin.a, .int .i64 b.fin.to, .slice adp b.fin.args.length capp, .int .i64 b.fin.els, .slice adq b.fin.elses.length capq]) agg_29 rfl rfl rfl rfl (hS.cells 0 (m := 8) rfl rfl) ?_
  have hS0 := hS
  refine WL.callF (vs := [.agg #[.int .i64 b.params, .slice adi b.ins.length capi, .int .i64 b.fin.kind, .int .i64 b.fin.a, .int .i64 b.fin.to, .slice adp b.fin.args.length capp, .int .i64 b.fin.els, .slice adq b.fin.elses.length capq]]) Try.func19 (by kernel_rfl) rfl rfl rfl (values_ret b _ (ro := ro) (fun b hb => (hS.snap b hb).1) (hb.keep hS.alike) hp hl) ?_
  rintro v w3 ⟨hks, hbl⟩
  replace hS := hS.grow hbl
  have hbl1 := hbl
  obtain ⟨adk, capk, rfl, hk1, hk2, hk3, hk4⟩ := id hks
  refine WL.callF (vs := [.slice adk ((vals b).length) capk, .func (.func 23) #[] #[]]) Try.func22 (by kernel_rfl) rfl rfl rfl (eachKnown_ret (vals b) _ (ro := fun x => w2.heap.size ≤ x ∧ x < w3.heap.size) (fun _ h => h.2) hks (by rw [vals_length]; omega)) ?_
  rintro v w4 ⟨hkb, hbl⟩
  replace hS := hS.grow hbl
  refine WL.assign rfl rfl rfl ?_
  refine WL.nil ?_
  refine N.seq ?_
  refine Fin.ret1 rfl (v := v) rfl ?_
  refine ⟨hkb.keep (fun x hx => ⟨⟨Nat.le_trans (Nat.le_trans hS0.below.size hbl1.size) hx.1, hx.2⟩, rfl⟩) (fun _ _ h => h), hS.below⟩

theorem bools_ret (xs ys : List Bool) (vx vy : Value) {w : World} {ro : Nat → Prop} (hro : ∀ b, ro b → b < w.heap.size) (hx : SlV ro w 1 BoolC vx xs) (hy : SlV ro w 1 BoolC vy ys) : Ret Try.prog 11 #[vx, vy] w fun v w' => v = .bool (decide (xs = ys)) ∧ Below w.heap.size w w' := by
  obtain ⟨ad, cap, rfl, haa, hab, hac, had⟩ := id hx
  have ham : xs.length ≤ 9223372036854775807 := by have h1 := haa; have h2 := hab; unfold maxLen at h2; omega
  obtain ⟨bd, cbp, rfl, hba, hbb, hbc, hbd⟩ := id hy
  have hbm : ys.length ≤ 9223372036854775807 := by have h1 := hba; have h2 := hbb; unfold maxLen at h2; omega
  refine Ret.enter (P := Try.prog) (n := 26) (args := [.slice ad xs.length cap, .slice bd ys.length cbp]) (σ := [(0, .slice ad xs.length cap), (1, .slice bd ys.length cbp)]) Try.func11 rfl rfl rfl rfl ?_
  have hS := St.start (ro := ro) hro
  refine W.seq ?_
  refine W.region ?_
  refine WL.assign rfl rfl rfl ?_
  refine WL.nil ?_
  refine N.seq ?_
  refine W.seq ?_
  refine W.seq ?_
  refine W.region ?_
  refine WL.move rfl rfl rfl ?_
  refine WL.lenSlice Try.underlying36 rfl rfl rfl ?_
  refine WL.move rfl rfl rfl ?_
  refine WL.lenSlice Try.underlying36 rfl rfl rfl ?_
  refine WL.bin rfl rfl rfl rfl rfl ?_
  refine WL.nil ?_
  refine N.seq ?_
  refine W.cond rfl (fun hc1 => ?_) (fun hc1 => ?_)
  ·
    have hc1p : ¬ ((xs.length : Int) = (ys.length : Int)) := by simpa using hc1
    refine W.seq ?_
    refine W.region ?_
    refine WL.assign rfl rfl rfl ?_
    refine WL.nil ?_
    refine N.seq ?_
    refine Fin.ret1 rfl (v := .bool false) rfl ?_
    have hne : ¬ xs = ys := by intro e; rw [e] at hc1p; simp at hc1p
    exact ⟨by rw [decide_eq_false hne], hS.below⟩
  ·
    have hc1p : (xs.length : Int) = (ys.length : Int) := by simpa using hc1
    refine W.skip ?_
    refine N.seq ?_
    refine W.seq ?_
    refine W.seq ?_
    refine W.region ?_
    refine WL.assign rfl rfl rfl ?_
    refine WL.nil ?_
    refine N.seq ?_
    refine W.block ?_
    refine W.loop (α := Nat) (fun (k : Nat) => [(0, .slice ad xs.length cap), (1, .slice bd ys.length cbp), (5, .int .i64 (k : Int)), (6, .slice ad xs.length cap), (7, .int .i64 (xs.length : Int)), (8, .slice bd ys.length cbp), (9, .int .i64 (ys.length : Int)), (10, .bool (!decide ((xs.length : Int) = (ys.length : Int))))]) (fun (k : Nat) u => St w w u ro [] [] ∧ k ≤ xs.length ∧ xs.take k = ys.take k) (fun (k : Nat) => xs.length - k) 0 ⟨rfl, rfl, rfl, rfl, rfl, rfl, rfl, rfl, trivial⟩ ⟨hS, Nat.zero_le _, rfl⟩ ?_
    clear hS
    rintro k w2 ⟨hS, hk, htk⟩
    refine W.seq ?_
    refine W.seq ?_
    refine W.region ?_
    refine WL.move rfl rfl rfl ?_
    refine WL.move rfl rfl rfl ?_
    refine WL.lenSlice Try.underlying36 rfl rfl rfl ?_
    refine WL.bin rfl rfl rfl rfl rfl ?_
    refine WL.nil ?_
    refine N.seq ?_
    refine W.cond rfl (fun hc3 => ?_) (fun hc3 => ?_)
    ·
      have hc3p : (k : Int) < (xs.length : Int) := by simpa using hc3
      refine W.skip ?_
      refine N.seq ?_
      refine W.seq ?_
      refine W.block ?_
      refine W.seq ?_
      have hj4 : k < xs.length := by omega
      obtain ⟨x4, hx4⟩ : ∃ zz, xs[k]? = some zz := ⟨_, List.getElem?_eq_getElem hj4⟩
      obtain ⟨b4, o4, cs4, hE4, hr4, hl4, hc4, hQ4⟩ := had k _ hx4
      cases hQ4
      have hj5 : k < ys.length := by omega
      obtain ⟨x5, hx5⟩ : ∃ zz, ys[k]? = some zz := ⟨_, List.getElem?_eq_getElem hj5⟩
      obtain ⟨b5, o5, cs5, hE5, hr5, hl5, hc5, hQ5⟩ := hbd k _ hx5
      cases hQ5
      refine W.drawL (by kernel_rfl) 9 [.q (.slice ad xs.length cap), .q (.int .i64 (k : Int)), .q (.pointer (some ⟨b4, o4 + k * 1, none⟩)), .q (.bool x4), .q (.slice bd ys.length cbp), .q (.int .i64 (k : Int)), .q (.pointer (some ⟨b5, o5 + k * 1, none⟩)), .q (.bool x5), .q (.bool (x4 != x5))] (by kernel_rfl) rfl [(0, .slice ad xs.length cap), (1, .slice bd ys.length cbp), (5, .int .i64 (k : Int)), (6, .slice ad xs.length cap), (7, .int .i64 (xs.length : Int)), (8, .slice bd ys.length cbp), (9, .int .i64 (ys.length : Int)), (10, .bool (!decide ((xs.length : Int) = (ys.length : Int)))), (11, .int .i64 (k : Int)), (12, .slice ad xs.length cap), (13, .int .i64 (xs.length : Int)), (14, .bool (decide ((k : Int) < (xs.length : Int))))] ⟨rfl, rfl, rfl, rfl, rfl, rfl, rfl, rfl, rfl, rfl, rfl, rfl, trivial⟩ rfl hS ?_ ?_
      ·
        refine And.intro (fun β w hS => ?_) ?_
        ·
          refine WL.sub (σ' := [(0, .slice ad xs.length cap)]) ⟨rfl, trivial⟩ ?_
          refine WL.move rfl rfl rfl ?_
          exact WL.nil (N.cut () ⟨rfl, trivial⟩ (Below.refl _ _))
        refine And.intro (fun β w hS => ?_) ?_
        ·
          refine WL.sub (σ' := [(5, .int .i64 (k : Int))]) ⟨rfl, trivial⟩ ?_
          refine WL.move rfl rfl rfl ?_
          exact WL.nil (N.cut () ⟨rfl, trivial⟩ (Below.refl _ _))
        refine And.intro (fun β w hS => ?_) ?_
        ·
          refine WL.sub (σ' := [(17, .slice ad xs.length cap), (18, .int .i64 (k : Int))]) ⟨rfl, rfl, trivial⟩ ?_
          refine WL.indexAddrE (j := k) Try.underlying36 isz_4 rfl rfl rfl rfl hj4 hE4 ?_
          exact WL.nil (N.cut () ⟨rfl, trivial⟩ (Below.refl _ _))
        refine And.intro (fun β w hS => ?_) ?_
        ·
          refine WL.sub (σ' := [(19, .pointer (some ⟨b4, o4 + k * 1, none⟩))]) ⟨rfl, trivial⟩ ?_
          refine WL.load1 (v := .bool x4) one_4 rfl rfl rfl (hS.roCells hr4 hc4 0 _ rfl) ?_
          exact WL.nil (N.cut () ⟨rfl, trivial⟩ (Below.refl _ _))
        refine And.intro (fun β w hS => ?_) ?_
        ·
          refine WL.sub (σ' := [(1, .slice bd ys.length cbp)]) ⟨rfl, trivial⟩ ?_
          refine WL.move rfl rfl rfl ?_
          exact WL.nil (N.cut () ⟨rfl, trivial⟩ (Below.refl _ _))
        refine And.intro (fun β w hS => ?_) ?_
        ·
          refine WL.sub (σ' := [(5, .int .i64 (k : Int))]) ⟨rfl, trivial⟩ ?_
          refine WL.move rfl rfl rfl ?_
          exact WL.nil (N.cut () ⟨rfl, trivial⟩ (Below.refl _ _))
        refine And.intro (fun β w hS => ?_) ?_
        ·
          refine WL.sub (σ' := [(21, .slice bd ys.length cbp), (22, .int .i64 (k : Int))]) ⟨rfl, rfl, trivial⟩ ?_
          refine WL.indexAddrE (j := k) Try.underlying36 isz_4 rfl rfl rfl rfl hj5 hE5 ?_
          exact WL.nil (N.cut () ⟨rfl, trivial⟩ (Below.refl _ _))
        refine And.intro (fun β w hS => ?_) ?_
        ·
          refine WL.sub (σ' := [(23, .pointer (some ⟨b5, o5 + k * 1, none⟩))]) ⟨rfl, trivial⟩ ?_
          refine WL.load1 (v := .bool x5) one_4 rfl rfl rfl (hS.roCells hr5 hc5 0 _ rfl) ?_
          exact WL.nil (N.cut () ⟨rfl, trivial⟩ (Below.refl _ _))
        refine And.intro (fun β w hS => ?_) ?_
        ·
          refine WL.sub (σ' := [(20, .bool x4), (24, .bool x5)]) ⟨rfl, rfl, trivial⟩ ?_
          refine WL.neBool Try.underlying4 rfl rfl rfl rfl ?_
          exact WL.nil (N.cut () ⟨rfl, trivial⟩ (Below.refl _ _))
        trivial
      ·
        clear hS; intro w6 β hS
        refine WL.sub (σ' := [(0, .slice ad xs.length cap), (1, .slice bd ys.length cbp), (5, .int .i64 (k : Int)), (6, .slice ad xs.length cap), (7, .int .i64 (xs.length : Int)), (8, .slice bd ys.length cbp), (9, .int .i64 (ys.length : Int)), (10, .bool (!decide ((xs.length : Int) = (ys.length : Int)))), (11, .int .i64 (k : Int)), (12, .slice ad xs.length cap), (13, .int .i64 (xs.length : Int)), (14, .bool (decide ((k : Int) < (xs.length : Int)))), (17, .slice ad xs.length cap), (18, .int .i64 (k : Int)), (19, .pointer (some ⟨b4, o4 + k * 1, none⟩)), (20, .bool x4), (21, .slice bd ys.length cbp), (22, .int .i64 (k : Int)), (23, .pointer (some ⟨b5, o5 + k * 1, none⟩)), (24, .bool x5), (25, .bool (x4 != x5))]) ⟨rfl, rfl, rfl, rfl, rfl, rfl, rfl, rfl, rfl, rfl, rfl, rfl, rfl, rfl, rfl, rfl, rfl, rfl, rfl, rfl, rfl, trivial⟩ ?_
        refine WL.nil ?_
        refine N.seq ?_
        refine W.cond rfl (fun hc7 => ?_) (fun hc7 => ?_)
        ·
          refine W.seq ?_
          refine W.region ?_
          refine WL.assign rfl rfl rfl ?_
          refine WL.nil ?_
          refine N.seq ?_
          refine Fin.ret1 rfl (v := .bool false) rfl ?_
          have hne : ¬ xs = ys := by
              intro e; rw [e, hx5] at hx4; rw [Option.some.inj hx4] at hc7; simp at hc7
          exact ⟨by rw [decide_eq_false hne], hS.below⟩
        ·
          refine W.skip ?_
          refine N.blk ?_
          refine N.seq ?_
          refine W.region ?_
          refine WL.move rfl rfl rfl ?_
          refine WL.add (c := (k : Int) + 1) rfl rfl rfl rfl (rfl) (by omega) ?_
          refine WL.assign rfl rfl rfl ?_
          refine WL.nil ?_
          have hxy : x4 = x5 := by simpa using hc7
          have htk2 : xs.take (k + 1) = ys.take (k + 1) := by rw [take_next hx4, take_next hx5, htk, hxy]
          exact N.loop (k + 1) ⟨rfl, rfl, rfl, rfl, rfl, rfl, rfl, rfl, trivial⟩ ⟨hS, by omega, htk2⟩ (by first | omega | (simp only; omega))
    ·
      have hc3p : ¬ ((k : Int) < (xs.length : Int)) := by simpa using hc3
      refine W.exit ?_
      refine X.seq ?_
      refine X.loop ?_
      refine X.blk ?_
      refine N.seq ?_
      refine W.seq ?_
      refine W.region ?_
      refine WL.assign rfl rfl rfl ?_
      refine WL.nil ?_
      refine N.seq ?_
      refine Fin.ret1 rfl (v := .bool true) rfl ?_
      have e : xs = ys := take_full htk (by omega) (by omega)
      exact ⟨by rw [decide_eq_true e], hS.below⟩

end Go.Proofs.Ytokkiaokpfediaa
