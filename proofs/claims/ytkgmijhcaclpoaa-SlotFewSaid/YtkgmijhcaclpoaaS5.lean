/-
  Contracts of layer 16 (slot). No condition beyond those that each theorem states.
-/
import Derived.Test.YtkgmijhcaclpoaaS4
namespace Go.Proofs.Ytkgmijhcaclpoaa
open Go.RowKit

structure RApart (b : DBlock) (l : List Int) : Prop where
  len : l.length = (last16 b).length
  nn : ∀ (v : Nat) x, l[v]? = some x → 0 ≤ x
  ap : ∀ (v w : Nat) x z, w < v → l[v]? = some x → l[w]? = some x → (last16 b)[w]? = some z → b.params ≤ v ∧ z ≤ v - b.params
/-- What stands between the steps: whose value is needed still holds its slot. -/
structure Inv16 (b : DBlock) (v : Nat) (T : Int → Option Int) (out : List Int) : Prop where
  low : ∀ w : Nat, w < v → (w : Int) < b.params → out[w]? = some (w : Int)
  held : ∀ (w : Nat) x z, w < v → out[w]? = some x → (last16 b)[w]? = some z → ((v : Int) ≤ b.params ∨ (v : Int) - 1 - b.params < z) → T x = some z
  ap : ∀ (u w : Nat) x z, w < u → out[u]? = some x → out[w]? = some x → (last16 b)[w]? = some z → b.params ≤ u ∧ z ≤ u - b.params
theorem inv16 {b : DBlock} (hok : Ok16 b) (v : Nat) (hv : v ≤ (last16 b).length) : Inv16 b v (giveAt16 b v).1 (giveAt16 b v).2 := by
  induction v with
  | zero => exact ⟨fun w h => by omega, fun w x z h => by omega, fun u w x z _ h => by simp [giveAt16] at h⟩
  | succ v ih =>
    obtain ⟨i1, i2, i3⟩ := ih (by omega)
    have hg := given16 hok v (by omega)
    have hlen := hg.len
    have hget : (last16 b).getD v 0 = (last16 b)[v]'(by omega) := by rw [List.getD_eq_getElem?_getD, List.getElem?_eq_getElem (by omega)]; rfl
    have hlv : ∀ z, (last16 b)[v]? = some z → z = (last16 b).getD v 0 := fun z hz => by rw [List.getD_eq_getElem?_getD, hz]; rfl
    rw [giveAt16_succ]
    unfold giveStep16
    have old : ∀ {x f : Int} {w : Nat}, w < v → ((giveAt16 b v).2 ++ [f])[w]? = some x → (giveAt16 b v).2[w]? = some x := fun hw h => by rwa [List.getElem?_append_left (by omega)] at h
    have new : ∀ {x f : Int}, ((giveAt16 b v).2 ++ [f])[v]? = some x → x = f := fun h => by
      rw [List.getElem?_append_right (by omega), hlen, Nat.sub_self] at h; simpa using h.symm
    by_cases hp : (v : Int) < b.params
    · rw [if_pos hp]
      refine ⟨fun w hw hwp => ?_, fun w x z hw hx hz hc => ?_, fun u w x z hwu hu hx hz => ?_⟩
      · by_cases e : w = v
        · subst e; rw [List.getElem?_append_right (by omega), hlen]; simp
        · rw [List.getElem?_append_left (by omega)]; exact i1 w (by omega) hwp
      · simp only [updG]
        by_cases e : w = v
        · subst e; rw [if_pos (new hx), hlv z hz]
        · have hx' := old (by omega) hx
          have h1 := i1 w (by omega) (by omega)
          rw [h1] at hx'; cases hx'
          rw [if_neg (by omega)]
          exact i2 w _ z (by omega) h1 hz (.inl (by omega))
      · by_cases e : u = v
        · subst e
          have h1 := i1 w hwu (by omega)
          have h2 := old hwu hx
          rw [h1] at h2; cases h2
          have := new hu
          omega
        · have hul : u < v := by
            have := (List.getElem?_eq_some_iff.1 hu).1
            rw [List.length_append, List.length_cons, List.length_nil] at this; omega
          exact i3 u w x z hwu (old hul hu) (old (by omega) hx) hz
    · rw [if_neg hp]
      have hf := first16_spec (T := freeG (giveAt16 b v).1 ((v : Int) - b.params)) (n := (last16 b).length) (out := (giveAt16 b v).2) (fun k l h => hg.key k l (freeG_some h).1) (by omega)
      have keep : ∀ (w : Nat) x z, w < v → (giveAt16 b v).2[w]? = some x → (last16 b)[w]? = some z → (v : Int) - b.params < z → freeG (giveAt16 b v).1 ((v : Int) - b.params) x = some z := fun w x z hw hx hz hc => by
        have h1 := i2 w x z hw hx hz (by omega)
        unfold freeG
        rw [h1]
        dsimp only
        rw [if_neg (by omega)]
      refine ⟨fun w hw hwp => ?_, fun w x z hw hx hz hc => ?_, fun u w x z hwu hu hx hz => ?_⟩
      · rw [List.getElem?_append_left (by omega)]; exact i1 w (by omega) hwp
      · simp only [updG]
        by_cases e : w = v
        · subst e; rw [if_pos (new hx), hlv z hz]
        · have h1 := keep w x z (by omega) (old (by omega) hx) hz (by omega)
          rw [if_neg (fun e => by rw [e, hf.1] at h1; cases h1)]
          exact h1
      · by_cases e : u = v
        · subst e
          refine ⟨by omega, ?_⟩
          by_cases hc : (u : Int) - b.params < z
          · have h1 := keep w x z hwu (old hwu hx) hz hc
            rw [new hu, hf.1] at h1; cases h1
          · omega
        · have hul : u < v := by
            have := (List.getElem?_eq_some_iff.1 hu).1
            rw [List.length_append, List.length_cons, List.length_nil] at this; omega
          exact i3 u w x z hwu (old hul hu) (old (by omega) hx) hz
theorem give16_apart {b : DBlock} (hok : Ok16 b) : RApart b (give16 b) := by
  have h := inv16 hok _ (Nat.le_refl _)
  refine ⟨by rw [give16_length hok, last16_length], fun v x hx => ?_, h.ap⟩
  exact ((given16 hok _ (Nat.le_refl _)).out x (List.mem_of_getElem? hx)).1
def iC (op a b : Int) : DInst := ⟨op, a, b, 0, ⟨#[]⟩, []⟩
def bSh16 : DBlock := ⟨0, [iC 1 0 0, iC 1 0 0, iC 2 0 1], ⟨3, 2, 0, [], 0, []⟩⟩
theorem sh16_eq : give16 bSh16 = [0, 1, 0] := by rfl
theorem ok16_sh : Ok16 bSh16 := ⟨by decide, by decide, by decide, by decide, by decide, by decide, by decide, by decide, by decide, by decide⟩
theorem intI {x : Int} (h : -1000 ≤ x ∧ x ≤ 1000) : inI x := by unfold inI; omega
theorem instLit {ro : Nat → Prop} {w : World} (op a b k : Int) (h1 : inI op) (h2 : inI a) (h3 : inI b) (h4 : inU k) : InstC ro w [.int .i64 op, .int .i64 a, .int .i64 b, .int .u64 k, .string ⟨#[]⟩, .slice none 0 0] ⟨op, a, b, k, ⟨#[]⟩, []⟩ :=
  ⟨_, rfl, slv_nil, h1, h2, h3, h4, Nat.zero_le _⟩
theorem termLit {ro : Nat → Prop} {w : World} (k a to els : Int) (h1 : inI k) (h2 : inI a) (h3 : inI to) (h4 : inI els) : TermC ro w [.int .i64 k, .int .i64 a, .int .i64 to, .slice none 0 0, .int .i64 els, .slice none 0 0] ⟨k, a, to, [], els, []⟩ :=
  ⟨_, _, rfl, slv_nil, slv_nil, h1, h2, h3, h4⟩

set_option maxRecDepth 10000 in
set_option maxHeartbeats 2000000 in
theorem rapart16_ret (b : DBlock) (cs : List Value) (l : List Int) (va : Value) {w : World} {ro : Nat → Prop} (hro : ∀ b, ro b → b < w.heap.size) (hb : BlockC ro w cs b) (hy : SlV ro w 1 IntC va l) (hok : Ok16 b) (hA : RApart b l) : Ret Try.prog 9 #[.agg cs.toArray, va] w fun v w' => v = .bool true ∧ Below w.heap.size w w' := by
  obtain ⟨si, tsx, rfl, hin, hfin, hpar⟩ := id hb
  obtain ⟨adi, capi, rfl, hina, hinb, hinc, hind⟩ := id hin
  have hinm : b.ins.length ≤ 9223372036854775807 := by have h1 := hina; have h2 := hinb; unfold maxLen at h2; omega
  obtain ⟨sp, sq, rfl, ht1, ht2, htk, hta, htt, hte⟩ := id hfin
  obtain ⟨adp, capp, rfl, htpa, htpb, htpc, htpd⟩ := id ht1
  have htpm : b.fin.args.length ≤ 9223372036854775807 := by have h1 := htpa; have h2 := htpb; unfold maxLen at h2; omega
  obtain ⟨adq, capq, rfl, htqa, htqb, htqc, htqd⟩ := id ht2
  have htqm : b.fin.elses.length ≤ 9223372036854775807 := by have h1 := htqa; have h2 := htqb; unfold maxLen at h2; omega
  obtain ⟨ada, capa, rfl, hya, hyb, hyc, hyd⟩ := id hy
  have hym : l.length ≤ 9223372036854775807 := by have h1 := hya; have h2 := hyb; unfold maxLen at h2; omega
  refine Ret.enter (P := Try.prog) (n := 54) (args := [.agg #[.int .i64 b.params, .slice adi b.ins.length capi, .int .i64 b.fin.kind, .int .i64 b.fin.a, .int .i64 b.fin.to, .slice adp b.fin.args.length capp, .int .i64 b.fin.els, .slice adq b.fin.elses.length capq], .slice ada l.length capa]) (σ := [(0, .agg #[.int .i64 b.params, .slice adi b.ins.length capi, .int .i64 b.fin.kind, .int .i64 b.fin.a, .int .i64 b.fin.to, .slice adp b.fin.args.length capp, .int .i64 b.fin.els, .slice adq b.fin.elses.length capq]), (1, .slice ada l.length capa)]) Try.func9 rfl rfl rfl rfl ?_
  have hS := St.start (ro := ro) hro
  have hokn := hok.n; have hokp := hok.p0; have hokq := hok.p1
  have hsub : ∀ b, ro b → ro b ∨ w.heap.size ≤ b := fun _ h => .inl h
  have halT : Alike ro w ro w := Alike.refl
  refine W.seq ?_
  refine W.region ?_
  refine WL.box (v := .agg #[.int .i64 b.params, .slice adi b.ins.length capi, .int .i64 b.fin.kind, .int .i64 b.fin.a, .int .i64 b.fin.to, .slice adp b.fin.args.length capp, .int .i64 b.fin.els, .slice adq b.fin.elses.length capq]) (cs := [.int .i64 b.params, .slice adi b.ins.length capi, .int .i64 b.fin.kind, .int .i64 b.fin.a, .int .i64 b.fin.to, .slice adp b.fin.args.length capp, .int .i64 b.fin.els, .slice adq b.fin.elses.length capq]) rfl rfl rfl rfl hS ?_
  clear hS; intro w2 b1 hb_b1 hS
  refine WL.assign rfl rfl rfl ?_
  refine WL.nil ?_
  refine N.seq ?_
  refine W.seq ?_
  refine W.region ?_
  refine WL.loadN (cs := [.int .i64 b.params, .slice adi b.ins.length capi, .int .i64 b.fin.kind, .int .i64 b.fin.a, .int .i64 b.fin.to, .slice adp b.fin.args.length capp, .int .i64 b.fin.els, .slice adq b.fin.elses.length capq]) agg_33 rfl rfl rfl rfl (hS.cells 0 (m := 8) rfl rfl) ?_
  refine WL.callF (vs := [.agg #[.int .i64 b.params, .slice adi b.ins.length capi, .int .i64 b.fin.kind, .int .i64 b.fin.a, .int .i64 b.fin.to, .slice adp b.fin.args.length capp, .int .i64 b.fin.els, .slice adq b.fin.elses.length capq]]) Try.func18 (by kernel_rfl) rfl rfl rfl (rlast16_ret b _ (ro := ro) (fun b hb => (hS.snap b hb).1) (hb.keep hS.alike) hok) ?_
  rintro vl w3 ⟨hvl, hbl⟩
  have hal4 := hS.alikeTo hbl (ro' := (roFrom ro w2 w3)) (fun b hb => .inl hb)
  replace hsub : ∀ b, (roFrom ro w2 w3) b → ro b ∨ w.heap.size ≤ b := fun b hb => hb.elim (hsub b) (fun h => .inr (Nat.le_trans hS.below.size h.1))
  replace halT := halT.trans hal4
  replace hb := hb.keep hal4
  replace hind : Elems (roFrom ro w2 w3) w3 6 (InstC (roFrom ro w2 w3) w3) adi b.ins := hind.keep hal4 (fun _ _ h => h.keep hal4)
  replace hin : SlV (roFrom ro w2 w3) w3 6 (InstC (roFrom ro w2 w3) w3) (.slice adi b.ins.length capi) b.ins := SlV.keep hin hal4 (fun _ _ h => h.keep hal4)
  replace hfin := hfin.keep hal4
  replace htpd : Elems (roFrom ro w2 w3) w3 1 IntC adp b.fin.args := htpd.keep hal4 (fun _ _ h => h)
  replace ht1 : SlV (roFrom ro w2 w3) w3 1 IntC (.slice adp b.fin.args.length capp) b.fin.args := SlV.keep ht1 hal4 (fun _ _ h => h)
  replace htqd : Elems (roFrom ro w2 w3) w3 1 IntC adq b.fin.elses := htqd.keep hal4 (fun _ _ h => h)
  replace ht2 : SlV (roFrom ro w2 w3) w3 1 IntC (.slice adq b.fin.elses.length capq) b.fin.elses := SlV.keep ht2 hal4 (fun _ _ h => h)
  replace hyd : Elems (roFrom ro w2 w3) w3 1 IntC ada l := hyd.keep hal4 (fun _ _ h => h)
  replace hy : SlV (roFrom ro w2 w3) w3 1 IntC (.slice ada l.length capa) l := SlV.keep hy hal4 (fun _ _ h => h)
  replace hS := hS.readNew hbl
  replace hvl := SlV.keep hvl (ro' := (roFrom ro w2 w3)) (w' := w3) (Q' := IntC) (fun x hx => ⟨.inr hx, rfl⟩) (fun _ _ h => h)
  obtain ⟨adl, capl, rfl, hvla, hvlb, hvlc, hvld⟩ := id hvl
  have hvlm : (last16 b).length ≤ 9223372036854775807 := by have h1 := hvla; have h2 := hvlb; unfold maxLen at h2; omega
  have hll := last16_length b
  have hlen := hA.len
  refine WL.assign rfl rfl rfl ?_
  refine WL.nil ?_
  refine N.seq ?_
  refine W.seq ?_
  refine W.seq ?_
  refine W.region ?_
  refine WL.move rfl rfl rfl ?_
  refine WL.lenSlice Try.underlying29 rfl rfl rfl ?_
  refine WL.move rfl rfl rfl ?_
  refine WL.lenSlice Try.underlying29 rfl rfl rfl ?_
  refine WL.bin rfl rfl rfl rfl rfl ?_
  refine WL.nil ?_
  refine N.seq ?_
  refine W.cond rfl (fun hc5 => ?_) (fun hc5 => ?_)
  ·
    have hc5p : ¬ ((l.length : Int) = ((last16 b).length : Int)) := by simpa using hc5
    refine W.seq ?_
    refine W.region ?_
    refine WL.assign rfl rfl rfl ?_
    refine WL.nil ?_
    refine N.seq ?_
    refine Fin.ret1 rfl (v := .bool false) rfl ?_
    exact absurd hlen (by omega)
  ·
    have hc5p : (l.length : Int) = ((last16 b).length : Int) := by simpa using hc5
    refine W.skip ?_
    refine N.seq ?_
    refine W.seq ?_
    refine W.seq ?_
    refine W.region ?_
    refine WL.assign rfl rfl rfl ?_
    refine WL.nil ?_
    refine N.seq ?_
    refine W.block ?_
    refine W.loop (α := Nat) (fun (v : Nat) => [(0, .agg #[.int .i64 b.params, .slice adi b.ins.length capi, .int .i64 b.fin.kind, .int .i64 b.fin.a, .int .i64 b.fin.to, .slice adp b.fin.args.length capp, .int .i64 b.fin.els, .slice adq b.fin.elses.length capq]), (1, .slice ada l.length capa), (2, .pointer (some ⟨b1, 0, none⟩)), (5, .slice adl ((last16 b).length) capl), (6, .int .i64 (v : Int)), (8, .agg #[.int .i64 b.params, .slice adi b.ins.length capi, .int .i64 b.fin.kind, .int .i64 b.fin.a, .int .i64 b.fin.to, .slice adp b.fin.args.length capp, .int .i64 b.fin.els, .slice adq b.fin.elses.length capq]), (9, .slice adl ((last16 b).length) capl), (10, .slice ada l.length capa), (11, .int .i64 (l.length : Int)), (12, .slice adl ((last16 b).length) capl), (13, .int .i64 ((last16 b).length : Int)), (14, .bool (!decide ((l.length : Int) = ((last16 b).length : Int))))]) (fun (v : Nat) u => St w w3 u (roFrom ro w2 w3) [(b1, .cells #[.int .i64 b.params, .slice adi b.ins.length capi, .int .i64 b.fin.kind, .int .i64 b.fin.a, .int .i64 b.fin.to, .slice adp b.fin.args.length capp, .int .i64 b.fin.els, .slice adq b.fin.elses.length capq] 33 (0, 0))] [] ∧ v ≤ l.length) (fun (v : Nat) => l.length - v) 0 ⟨rfl, rfl, rfl, rfl, rfl, rfl, rfl, rfl, rfl, rfl, rfl, rfl, trivial⟩ ⟨hS, Nat.zero_le _⟩ ?_
    clear hS
    rintro v w6 ⟨hS, hv⟩
    refine W.seq ?_
    refine W.seq ?_
    refine W.region ?_
    refine WL.move rfl rfl rfl ?_
    refine WL.move rfl rfl rfl ?_
    refine WL.lenSlice Try.underlying29 rfl rfl rfl ?_
    refine WL.bin rfl rfl rfl rfl rfl ?_
    refine WL.nil ?_
    refine N.seq ?_
    refine W.cond rfl (fun hc7 => ?_) (fun hc7 => ?_)
    ·
      have hc7p : (v : Int) < (l.length : Int) := by simpa using hc7
      refine W.skip ?_
      refine N.seq ?_
      refine W.seq ?_
      refine W.block ?_
      refine W.seq ?_
      refine W.seq ?_
      refine W.region ?_
      refine WL.move rfl rfl rfl ?_
      refine WL.move rfl rfl rfl ?_
      have hj8 : v < l.length := by omega
      obtain ⟨x8, hx8⟩ : ∃ zz, l[v]? = some zz := ⟨_, List.getElem?_eq_getElem hj8⟩
      obtain ⟨b8, o8, cs8, hE8, hr8, hl8, hc8, hQ8⟩ := hyd v _ hx8
      obtain ⟨rfl, hi8⟩ := hQ8
      refine WL.indexAddrE (j := v) Try.underlying29 isz_3 rfl rfl rfl rfl hj8 hE8 ?_
      refine WL.load1 (v := .int .i64 x8) one_3 rfl rfl rfl (hS.roCells hr8 hc8 0 _ rfl) ?_
      refine WL.bin rfl rfl rfl rfl rfl ?_
      refine WL.nil ?_
      refine N.seq ?_
      refine W.cond rfl (fun hc9 => ?_) (fun hc9 => ?_)
      ·
        have hc9p : x8 < 0 := by simpa using hc9
        exact absurd (hA.nn v _ hx8) (by omega)
      ·
        have hc9p : ¬ (x8 < 0) := by simpa using hc9
        refine W.skip ?_
        refine N.seq ?_
        refine W.seq ?_
        refine W.region ?_
        refine WL.assign rfl rfl rfl ?_
        refine WL.nil ?_
        refine N.seq ?_
        refine W.block ?_
        refine W.loop (α := Nat) (fun (q : Nat) => [(0, .agg #[.int .i64 b.params, .slice adi b.ins.length capi, .int .i64 b.fin.kind, .int .i64 b.fin.a, .int .i64 b.fin.to, .slice adp b.fin.args.length capp, .int .i64 b.fin.els, .slice adq b.fin.elses.length capq]), (1, .slice ada l.length capa), (2, .pointer (some ⟨b1, 0, none⟩)), (5, .slice adl ((last16 b).length) capl), (6, .int .i64 (v : Int)), (7, .int .i64 (q : Int)), (8, .agg #[.int .i64 b.params, .slice adi b.ins.length capi, .int .i64 b.fin.kind, .int .i64 b.fin.a, .int .i64 b.fin.to, .slice adp b.fin.args.length capp, .int .i64 b.fin.els, .slice adq b.fin.elses.length capq]), (9, .slice adl ((last16 b).length) capl), (10, .slice ada l.length capa), (11, .int .i64 (l.length : Int)), (12, .slice adl ((last16 b).length) capl), (13, .int .i64 ((last16 b).length : Int)), (14, .bool (!decide ((l.length : Int) = ((last16 b).length : Int)))), (15, .int .i64 (v : Int)), (16, .slice ada l.length capa), (17, .int .i64 (l.length : Int)), (18, .bool (decide ((v : Int) < (l.length : Int)))), (21, .slice ada l.length capa), (22, .int .i64 (v : Int)), (23, .pointer (some ⟨b8, o8 + v * 1, none⟩)), (24, .int .i64 x8), (25, .bool (decide (x8 < 0)))]) (fun (q : Nat) u => St w w3 u (roFrom ro w2 w3) [(b1, .cells #[.int .i64 b.params, .slice adi b.ins.length capi, .int .i64 b.fin.kind, .int .i64 b.fin.a, .int .i64 b.fin.to, .slice adp b.fin.args.length capp, .int .i64 b.fin.els, .slice adq b.fin.elses.length capq] 33 (0, 0))] [] ∧ q ≤ v) (fun (q : Nat) => v - q) 0 ⟨rfl, rfl, rfl, rfl, rfl, rfl, rfl, rfl, rfl, rfl, rfl, rfl, rfl, rfl, rfl, rfl, rfl, rfl, rfl, rfl, rfl, rfl, trivial⟩ ⟨hS, Nat.zero_le _⟩ ?_
        clear hS
        rintro q w10 ⟨hS, hq⟩
        refine W.seq ?_
        refine W.seq ?_
        refine W.region ?_
        refine WL.move rfl rfl rfl ?_
        refine WL.move rfl rfl rfl ?_
        refine WL.bin rfl rfl rfl rfl rfl ?_
        refine WL.nil ?_
        refine N.seq ?_
        refine W.cond rfl (fun hc11 => ?_) (fun hc11 => ?_)
        ·
          have hc11p : (q : Int) < (v : Int) := by simpa using hc11
          refine W.skip ?_
          refine N.seq ?_
          refine W.seq ?_
          refine W.block ?_
          refine W.seq ?_
          refine W.seq ?_
          have hj12 : q < l.length := by omega
          obtain ⟨x12, hx12⟩ : ∃ zz, l[q]? = some zz := ⟨_, List.getElem?_eq_getElem hj12⟩
          obtain ⟨b12, o12, cs12, hE12, hr12, hl12, hc12, hQ12⟩ := hyd q _ hx12
          obtain ⟨rfl, hi12⟩ := hQ12
          refine W.drawL (by kernel_rfl) 9 [.q (.slice ada l.length capa), .q (.int .i64 (v : Int)), .q (.pointer (some ⟨b8, o8 + v * 1, none⟩)), .q (.int .i64 x8), .q (.slice ada l.length capa), .q (.int .i64 (q : Int)), .q (.pointer (some ⟨b12, o12 + q * 1, none⟩)), .q (.int .i64 x12), .q (.bool (!decide (x8 = x12)))] (by kernel_rfl) rfl [(0, .agg #[.int .i64 b.params, .slice adi b.ins.length capi, .int .i64 b.fin.kind, .int .i64 b.fin.a, .int .i64 b.fin.to, .slice adp b.fin.args.length capp, .int .i64 b.fin.els, .slice adq b.fin.elses.length capq]), (1, .slice ada l.length capa), (2, .pointer (some ⟨b1, 0, none⟩)), (5, .slice adl ((last16 b).length) capl), (6, .int .i64 (v : Int)), (7, .int .i64 (q : Int)), (8, .agg #[.int .i64 b.params, .slice adi b.ins.length capi, .int .i64 b.fin.kind, .int .i64 b.fin.a, .int .i64 b.fin.to, .slice adp b.fin.args.length capp, .int .i64 b.fin.els, .slice adq b.fin.elses.length capq]), (9, .slice adl ((last16 b).length) capl), (10, .slice ada l.length capa), (11, .int .i64 (l.length : Int)), (12, .slice adl ((last16 b).length) capl), (13, .int .i64 ((last16 b).length : Int)), (14, .bool (!decide ((l.length : Int) = ((last16 b).length : Int)))), (15, .int .i64 (v : Int)), (16, .slice ada l.length capa), (17, .int .i64 (l.length : Int)), (18, .bool (decide ((v : Int) < (l.length : Int)))), (21, .slice ada l.length capa), (22, .int .i64 (v : Int)), (23, .pointer (some ⟨b8, o8 + v * 1, none⟩)), (24, .int .i64 x8), (25, .bool (decide (x8 < 0))), (26, .int .i64 (q : Int)), (27, .int .i64 (v : Int)), (28, .bool (decide ((q : Int) < (v : Int))))] ⟨rfl, rfl, rfl, rfl, rfl, rfl, rfl, rfl, rfl, rfl, rfl, rfl, rfl, rfl, rfl, rfl, rfl, rfl, rfl, rfl, rfl, rfl, rfl, rfl, rfl, trivial⟩ rfl hS ?_ ?_
          ·
            refine And.intro (fun β w hS => ?_) ?_
            ·
              refine WL.sub (σ' := [(1, .slice ada l.length capa)]) ⟨rfl, trivial⟩ ?_
              refine WL.move rfl rfl rfl ?_
              exact WL.nil (N.cut () ⟨rfl, trivial⟩ (Below.refl _ _))
            refine And.intro (fun β w hS => ?_) ?_
            ·
              refine WL.sub (σ' := [(6, .int .i64 (v : Int))]) ⟨rfl, trivial⟩ ?_
              refine WL.move rfl rfl rfl ?_
              exact WL.nil (N.cut () ⟨rfl, trivial⟩ (Below.refl _ _))
            refine And.intro (fun β w hS => ?_) ?_
            ·
              refine WL.sub (σ' := [(31, .slice ada l.length capa), (32, .int .i64 (v : Int))]) ⟨rfl, rfl, trivial⟩ ?_
              refine WL.indexAddrE (j := v) Try.underlying29 isz_3 rfl rfl rfl rfl hj8 hE8 ?_
              exact WL.nil (N.cut () ⟨rfl, trivial⟩ (Below.refl _ _))
            refine And.intro (fun β w hS => ?_) ?_
            ·
              refine WL.sub (σ' := [(33, .pointer (some ⟨b8, o8 + v * 1, none⟩))]) ⟨rfl, trivial⟩ ?_
              refine WL.load1 (v := .int .i64 x8) one_3 rfl rfl rfl (hS.roCells hr8 hc8 0 _ rfl) ?_
              exact WL.nil (N.cut () ⟨rfl, trivial⟩ (Below.refl _ _))
            refine And.intro (fun β w hS => ?_) ?_
            ·
              refine WL.sub (σ' := [(1, .slice ada l.length capa)]) ⟨rfl, trivial⟩ ?_
              refine WL.move rfl rfl rfl ?_
              exact WL.nil (N.cut () ⟨rfl, trivial⟩ (Below.refl _ _))
            refine And.intro (fun β w hS => ?_) ?_
            ·
              refine WL.sub (σ' := [(7, .int .i64 (q : Int))]) ⟨rfl, trivial⟩ ?_
              refine WL.move rfl rfl rfl ?_
              exact WL.nil (N.cut () ⟨rfl, trivial⟩ (Below.refl _ _))
            refine And.intro (fun β w hS => ?_) ?_
            ·
              refine WL.sub (σ' := [(35, .slice ada l.length capa), (36, .int .i64 (q : Int))]) ⟨rfl, rfl, trivial⟩ ?_
              refine WL.indexAddrE (j := q) Try.underlying29 isz_3 rfl rfl rfl rfl hj12 hE12 ?_
              exact WL.nil (N.cut () ⟨rfl, trivial⟩ (Below.refl _ _))
            refine And.intro (fun β w hS => ?_) ?_
            ·
              refine WL.sub (σ' := [(37, .pointer (some ⟨b12, o12 + q * 1, none⟩))]) ⟨rfl, trivial⟩ ?_
              refine WL.load1 (v := .int .i64 x12) one_3 rfl rfl rfl (hS.roCells hr12 hc12 0 _ rfl) ?_
              exact WL.nil (N.cut () ⟨rfl, trivial⟩ (Below.refl _ _))
            refine And.intro (fun β w hS => ?_) ?_
            ·
              refine WL.sub (σ' := [(34, .int .i64 x8), (38, .int .i64 x12)]) ⟨rfl, rfl, trivial⟩ ?_
              refine WL.bin rfl rfl rfl rfl rfl ?_
              exact WL.nil (N.cut () ⟨rfl, trivial⟩ (Below.refl _ _))
            trivial
          ·
            clear hS; intro w13 β hS
            refine WL.sub (σ' := [(0, .agg #[.int .i64 b.params, .slice adi b.ins.length capi, .int .i64 b.fin.kind, .int .i64 b.fin.a, .int .i64 b.fin.to, .slice adp b.fin.args.length capp, .int .i64 b.fin.els, .slice adq b.fin.elses.length capq]), (1, .slice ada l.length capa), (2, .pointer (some ⟨b1, 0, none⟩)), (5, .slice adl ((last16 b).length) capl), (6, .int .i64 (v : Int)), (7, .int .i64 (q : Int)), (8, .agg #[.int .i64 b.params, .slice adi b.ins.length capi, .int .i64 b.fin.kind, .int .i64 b.fin.a, .int .i64 b.fin.to, .slice adp b.fin.args.length capp, .int .i64 b.fin.els, .slice adq b.fin.elses.length capq]), (9, .slice adl ((last16 b).length) capl), (10, .slice ada l.length capa), (11, .int .i64 (l.length : Int)), (12, .slice adl ((last16 b).length) capl), (13, .int .i64 ((last16 b).length : Int)), (14, .bool (!decide ((l.length : Int) = ((last16 b).length : Int)))), (15, .int .i64 (v : Int)), (16, .slice ada l.length capa), (17, .int .i64 (l.length : Int)), (18, .bool (decide ((v : Int) < (l.length : Int)))), (21, .slice ada l.length capa), (22, .int .i64 (v : Int)), (23, .pointer (some ⟨b8, o8 + v * 1, none⟩)), (24, .int .i64 x8), (25, .bool (decide (x8 < 0))), (26, .int .i64 (q : Int)), (27, .int .i64 (v : Int)), (28, .bool (decide ((q : Int) < (v : Int)))), (31, .slice ada l.length capa), (32, .int .i64 (v : Int)), (33, .pointer (some ⟨b8, o8 + v * 1, none⟩)), (34, .int .i64 x8), (35, .slice ada l.length capa), (36, .int .i64 (q : Int)), (37, .pointer (some ⟨b12, o12 + q * 1, none⟩)), (38, .int .i64 x12), (39, .bool (!decide (x8 = x12)))]) ⟨rfl, rfl, rfl, rfl, rfl, rfl, rfl, rfl, rfl, rfl, rfl, rfl, rfl, rfl, rfl, rfl, rfl, rfl, rfl, rfl, rfl, rfl, rfl, rfl, rfl, rfl, rfl, rfl, rfl, rfl, rfl, rfl, rfl, rfl, trivial⟩ ?_
            refine WL.nil ?_
            refine N.seq ?_
            refine W.cond rfl (fun hc14 => ?_) (fun hc14 => ?_)
            ·
              have hc14p : ¬ (x8 = x12) := by simpa using hc14
              refine W.exit ?_
              refine X.seq ?_
              refine X.blk ?_
              refine N.seq ?_
              refine W.region ?_
              refine WL.move rfl rfl rfl ?_
              refine WL.add (c := (q : Int) + 1) rfl rfl rfl rfl (rfl) (by omega) ?_
              refine WL.assign rfl rfl rfl ?_
              refine WL.nil ?_
              exact N.loop (q + 1) ⟨rfl, rfl, rfl, rfl, rfl, rfl, rfl, rfl, rfl, rfl, rfl, rfl, rfl, rfl, rfl, rfl, rfl, rfl, rfl, rfl, rfl, rfl, trivial⟩ ⟨hS, by omega⟩ (by first | omega | (simp only; omega))
            ·
              have hc14p : x8 = x12 := by simpa using hc14
              have hxy : x8 = x12 := hc14p
              refine W.skip ?_
              refine N.seq ?_
              refine W.seq ?_
              cases hg15 : (decide ((v : Int) < b.params))
              ·
                have hg15p : ¬ ((v : Int) < b.params) := by simpa using hg15
                have hj16 : q < (last16 b).length := by omega
                obtain ⟨x16, hx16⟩ : ∃ zz, (last16 b)[q]? = some zz := ⟨_, List.getElem?_eq_getElem hj16⟩
                obtain ⟨b16, o16, cs16, hE16, hr16, hl16, hc16, hQ16⟩ := hvld q _ hx16
                obtain ⟨rfl, hi16⟩ := hQ16
                refine W.drawL (by kernel_rfl) 14 [.q (.int .i64 (v : Int)), .q (.pointer (some ⟨b1, 0, none⟩)), .q (.int .i64 b.params), .q (.bool false), .q (.bool false), .q (.slice adl ((last16 b).length) capl), .q (.int .i64 (q : Int)), .q (.pointer (some ⟨b16, o16 + q * 1, none⟩)), .q (.int .i64 x16), .q (.agg #[.int .i64 b.params, .slice adi b.ins.length capi, .int .i64 b.fin.kind, .int .i64 b.fin.a, .int .i64 b.fin.to, .slice adp b.fin.args.length capp, .int .i64 b.fin.els, .slice adq b.fin.elses.length capq]), .q (.int .i64 (v : Int)), .q (.int .i64 (given16i b v)), .q (.bool (decide (given16i b v < x16))), .q (.bool (decide (given16i b v < x16)))] (by kernel_rfl) rfl [(0, .agg #[.int .i64 b.params, .slice adi b.ins.length capi, .int .i64 b.fin.kind, .int .i64 b.fin.a, .int .i64 b.fin.to, .slice adp b.fin.args.length capp, .int .i64 b.fin.els, .slice adq b.fin.elses.length capq]), (1, .slice ada l.length capa), (2, .pointer (some ⟨b1, 0, none⟩)), (5, .slice adl ((last16 b).length) capl), (6, .int .i64 (v : Int)), (7, .int .i64 (q : Int)), (8, .agg #[.int .i64 b.params, .slice adi b.ins.length capi, .int .i64 b.fin.kind, .int .i64 b.fin.a, .int .i64 b.fin.to, .slice adp b.fin.args.length capp, .int .i64 b.fin.els, .slice adq b.fin.elses.length capq]), (9, .slice adl ((last16 b).length) capl), (10, .slice ada l.length capa), (11, .int .i64 (l.length : Int)), (12, .slice adl ((last16 b).length) capl), (13, .int .i64 ((last16 b).length : Int)), (14, .bool (!decide ((l.length : Int) = ((last16 b).length : Int)))), (15, .int .i64 (v : Int)), (16, .slice ada l.length capa), (17, .int .i64 (l.length : Int)), (18, .bool (decide ((v : Int) < (l.length : Int)))), (21, .slice ada l.length capa), (22, .int .i64 (v : Int)), (23, .pointer (some ⟨b8, o8 + v * 1, none⟩)), (24, .int .i64 x8), (25, .bool (decide (x8 < 0))), (26, .int .i64 (q : Int)), (27, .int .i64 (v : Int)), (28, .bool (decide ((q : Int) < (v : Int)))), (31, .slice ada l.length capa), (32, .int .i64 (v : Int)), (33, .pointer (some ⟨b8, o8 + v * 1, none⟩)), (34, .int .i64 x8), (35, .slice ada l.length capa), (36, .int .i64 (q : Int)), (37, .pointer (some ⟨b12, o12 + q * 1, none⟩)), (38, .int .i64 x12), (39, .bool (!decide (x8 = x12)))] ⟨rfl, rfl, rfl, rfl, rfl, rfl, rfl, rfl, rfl, rfl, rfl, rfl, rfl, rfl, rfl, rfl, rfl, rfl, rfl, rfl, rfl, rfl, rfl, rfl, rfl, rfl, rfl, rfl, rfl, rfl, rfl, rfl, rfl, rfl, trivial⟩ rfl hS ?_ ?_
                ·
                  refine And.intro (fun β w hS => ?_) ?_
                  ·
                    refine WL.sub (σ' := [(6, .int .i64 (v : Int))]) ⟨rfl, trivial⟩ ?_
                    refine WL.move rfl rfl rfl ?_
                    exact WL.nil (N.cut () ⟨rfl, trivial⟩ (Below.refl _ _))
                  refine And.intro (fun β w hS => ?_) ?_
                  ·
                    refine WL.sub (σ' := [(2, .pointer (some ⟨b1, 0, none⟩))]) ⟨rfl, trivial⟩ ?_
                    refine WL.fieldAddr fo_33_0 rfl rfl rfl ?_
                    exact WL.nil (N.cut () ⟨rfl, trivial⟩ (Below.refl _ _))
                  refine And.intro (fun β w hS => ?_) ?_
                  ·
                    refine WL.sub (σ' := [(41, .pointer (some ⟨b1, 0, none⟩))]) ⟨rfl, trivial⟩ ?_
                    refine WL.load1 (v := .int .i64 b.params) one_3 rfl rfl rfl (hS.cell 0 rfl rfl) ?_
                    exact WL.nil (N.cut () ⟨rfl, trivial⟩ (Below.refl _ _))
                  refine And.intro (fun β w hS => ?_) ?_
                  ·
                    refine WL.sub (σ' := [(40, .int .i64 (v : Int)), (42, .int .i64 b.params)]) ⟨rfl, rfl, trivial⟩ ?_
                    refine WL.bin rfl rfl rfl rfl rfl ?_
                    refine WL.set 43 (v' := .bool false) rfl (by rw [hg15]) ?_
                    exact WL.nil (N.cut () ⟨rfl, trivial⟩ (Below.refl _ _))
                  refine And.intro (fun β w hS => ?_) ?_
                  ·
                    refine WL.sub (σ' := [(43, .bool false)]) ⟨rfl, trivial⟩ ?_
                    refine WL.move rfl rfl rfl ?_
                    exact WL.nil (N.cut () ⟨rfl, trivial⟩ (Below.refl _ _))
                  refine And.intro (fun β w hS => ?_) ?_
                  ·
                    refine WL.sub (σ' := [(5, .slice adl ((last16 b).length) capl), (44, .bool false)]) ⟨rfl, rfl, trivial⟩ ?_
                    refine WL.move rfl rfl rfl ?_
                    exact WL.nil (N.cut () ⟨rfl, trivial⟩ (Below.refl _ _))
                  refine And.intro (fun β w hS => ?_) ?_
                  ·
                    refine WL.sub (σ' := [(7, .int .i64 (q : Int)), (44, .bool false)]) ⟨rfl, rfl, trivial⟩ ?_
                    refine WL.move rfl rfl rfl ?_
                    exact WL.nil (N.cut () ⟨rfl, trivial⟩ (Below.refl _ _))
                  refine And.intro (fun β w hS => ?_) ?_
                  ·
                    refine WL.sub (σ' := [(44, .bool false), (45, .slice adl ((last16 b).length) capl), (46, .int .i64 (q : Int))]) ⟨rfl, rfl, rfl, trivial⟩ ?_
                    refine WL.indexAddrE (j := q) Try.underlying29 isz_3 rfl rfl rfl rfl hj16 hE16 ?_
                    exact WL.nil (N.cut () ⟨rfl, trivial⟩ (Below.refl _ _))
                  refine And.intro (fun β w hS => ?_) ?_
                  ·
                    refine WL.sub (σ' := [(44, .bool false), (47, .pointer (some ⟨b16, o16 + q * 1, none⟩))]) ⟨rfl, rfl, trivial⟩ ?_
                    refine WL.load1 (v := .int .i64 x16) one_3 rfl rfl rfl (hS.roCells hr16 hc16 0 _ rfl) ?_
                    exact WL.nil (N.cut () ⟨rfl, trivial⟩ (Below.refl _ _))
                  refine And.intro (fun β w hS => ?_) ?_
                  ·
                    refine WL.sub (σ' := [(2, .pointer (some ⟨b1, 0, none⟩)), (44, .bool false)]) ⟨rfl, rfl, trivial⟩ ?_
                    refine WL.loadN (cs := [.int .i64 b.params, .slice adi b.ins.length capi, .int .i64 b.fin.kind, .int .i64 b.fin.a, .int .i64 b.fin.to, .slice adp b.fin.args.length capp, .int .i64 b.fin.els, .slice adq b.fin.elses.length capq]) agg_33 rfl rfl rfl rfl (hS.cells 0 (m := 8) rfl rfl) ?_
                    exact WL.nil (N.cut () ⟨rfl, trivial⟩ (Below.refl _ _))
                  refine And.intro (fun β w hS => ?_) ?_
                  ·
                    refine WL.sub (σ' := [(6, .int .i64 (v : Int)), (44, .bool false)]) ⟨rfl, rfl, trivial⟩ ?_
                    refine WL.move rfl rfl rfl ?_
                    exact WL.nil (N.cut () ⟨rfl, trivial⟩ (Below.refl _ _))
                  refine And.intro (fun β w hS => ?_) ?_
                  ·
                    refine WL.sub (σ' := [(44, .bool false), (49, .agg #[.int .i64 b.params, .slice adi b.ins.length capi, .int .i64 b.fin.kind, .int .i64 b.fin.a, .int .i64 b.fin.to, .slice adp b.fin.args.length capp, .int .i64 b.fin.els, .slice adq b.fin.elses.length capq]), (50, .int .i64 (v : Int))]) ⟨rfl, rfl, rfl, trivial⟩ ?_
                    refine WL.callF (vs := [.agg #[.int .i64 b.params, .slice adi b.ins.length capi, .int .i64 b.fin.kind, .int .i64 b.fin.a, .int .i64 b.fin.to, .slice adp b.fin.args.length capp, .int .i64 b.fin.els, .slice adq b.fin.elses.length capq], .int .i64 (v : Int)]) Try.func19 (by kernel_rfl) rfl rfl rfl (given16_ret b _ (v : Int) (ro := (roFrom ro w2 w3)) (fun b hb => (hS.snap b hb).1) (hb.keep hS.alike) ⟨hok.p0, hok.p1⟩ (by omega)) ?_
                    rintro r w18 ⟨rfl, hbl⟩
                    replace hS := hS.grow hbl
                    exact WL.nil (N.cut () ⟨rfl, trivial⟩ hbl)
                  refine And.intro (fun β w hS => ?_) ?_
                  ·
                    refine WL.sub (σ' := [(44, .bool false), (48, .int .i64 x16), (51, .int .i64 (given16i b v))]) ⟨rfl, rfl, rfl, trivial⟩ ?_
                    refine WL.bin rfl rfl rfl rfl rfl ?_
                    exact WL.nil (N.cut () ⟨rfl, trivial⟩ (Below.refl _ _))
                  refine And.intro (fun β w hS => ?_) ?_
                  ·
                    refine WL.sub (σ' := [(44, .bool false), (52, .bool (decide (given16i b v < x16)))]) ⟨rfl, rfl, trivial⟩ ?_
                    refine WL.pick (v := .bool (decide (given16i b v < x16))) rfl rfl rfl rfl rfl rfl ?_
                    exact WL.nil (N.cut () ⟨rfl, trivial⟩ (Below.refl _ _))
                  trivial
                ·
                  clear hS; intro w19 β hS
                  refine WL.sub (σ' := [(0, .agg #[.int .i64 b.params, .slice adi b.ins.length capi, .int .i64 b.fin.kind, .int .i64 b.fin.a, .int .i64 b.fin.to, .slice adp b.fin.args.length capp, .int .i64 b.fin.els, .slice adq b.fin.elses.length capq]), (1, .slice ada l.length capa), (2, .pointer (some ⟨b1, 0, none⟩)), (5, .slice adl ((last16 b).length) capl), (6, .int .i64 (v : Int)), (7, .int .i64 (q : Int)), (8, .agg #[.int .i64 b.params, .slice adi b.ins.length capi, .int .i64 b.fin.kind, .int .i64 b.fin.a, .int .i64 b.fin.to, .slice adp b.fin.args.length capp, .int .i64 b.fin.els, .slice adq b.fin.elses.length capq]), (9, .slice adl ((last16 b).length) capl), (10, .slice ada l.length capa), (11, .int .i64 (l.length : Int)), (12, .slice adl ((last16 b).length) capl), (13, .int .i64 ((last16 b).length : Int)), (14, .bool (!decide ((l.length : Int) = ((last16 b).length : Int)))), (15, .int .i64 (v : Int)), (16, .slice ada l.length capa), (17, .int .i64 (l.length : Int)), (18, .bool (decide ((v : Int) < (l.length : Int)))), (21, .slice ada l.length capa), (22, .int .i64 (v : Int)), (23, .pointer (some ⟨b8, o8 + v * 1, none⟩)), (24, .int .i64 x8), (25, .bool (decide (x8 < 0))), (26, .int .i64 (q : Int)), (27, .int .i64 (v : Int)), (28, .bool (decide ((q : Int) < (v : Int)))), (31, .slice ada l.length capa), (32, .int .i64 (v : Int)), (33, .pointer (some ⟨b8, o8 + v * 1, none⟩)), (34, .int .i64 x8), (35, .slice ada l.length capa), (36, .int .i64 (q : Int)), (37, .pointer (some ⟨b12, o12 + q * 1, none⟩)), (38, .int .i64 x12), (39, .bool (!decide (x8 = x12))), (40, .int .i64 (v : Int)), (41, .pointer (some ⟨b1, 0, none⟩)), (42, .int .i64 b.params), (43, .bool false), (44, .bool false), (45, .slice adl ((last16 b).length) capl), (46, .int .i64 (q : Int)), (47, .pointer (some ⟨b16, o16 + q * 1, none⟩)), (48, .int .i64 x16), (49, .agg #[.int .i64 b.params, .slice adi b.ins.length capi, .int .i64 b.fin.kind, .int .i64 b.fin.a, .int .i64 b.fin.to, .slice adp b.fin.args.length capp, .int .i64 b.fin.els, .slice adq b.fin.elses.length capq]), (50, .int .i64 (v : Int)), (51, .int .i64 (given16i b v)), (52, .bool (decide (given16i b v < x16))), (53, .bool (decide (given16i b v < x16)))]) ⟨rfl, rfl, rfl, rfl, rfl, rfl, rfl, rfl, rfl, rfl, rfl, rfl, rfl, rfl, rfl, rfl, rfl, rfl, rfl, rfl, rfl, rfl, rfl, rfl, rfl, rfl, rfl, rfl, rfl, rfl, rfl, rfl, rfl, rfl, rfl, rfl, rfl, rfl, rfl, rfl, rfl, rfl, rfl, rfl, rfl, rfl, rfl, rfl, trivial⟩ ?_
                  refine WL.nil ?_
                  refine N.seq ?_
                  refine W.cond rfl (fun hc20 => ?_) (fun hc20 => ?_)
                  ·
                    have hc20p : given16i b v < x16 := by simpa using hc20
                    have hap := hA.ap v q _ _ (by omega) hx8 (by rw [hxy]; exact hx12) hx16
                    exact absurd hc20p (by unfold given16i; rw [if_neg (by omega)]; omega)
                  ·
                    have hc20p : ¬ (given16i b v < x16) := by simpa using hc20
                    refine W.skip ?_
                    refine N.blk ?_
                    refine N.seq ?_
                    refine W.region ?_
                    refine WL.move rfl rfl rfl ?_
                    refine WL.add (c := (q : Int) + 1) rfl rfl rfl rfl (rfl) (by omega) ?_
                    refine WL.assign rfl rfl rfl ?_
                    refine WL.nil ?_
                    exact N.loop (q + 1) ⟨rfl, rfl, rfl, rfl, rfl, rfl, rfl, rfl, rfl, rfl, rfl, rfl, rfl, rfl, rfl, rfl, rfl, rfl, rfl, rfl, rfl, rfl, trivial⟩ ⟨hS, by omega⟩ (by first | omega | (simp only; omega))
              ·
                have hg15p : (v : Int) < b.params := by simpa using hg15
                obtain ⟨y, hy⟩ : ∃ y, (last16 b)[q]? = some y := ⟨_, List.getElem?_eq_getElem (by omega)⟩
                exact absurd (hA.ap v q _ y (by omega) hx8 (by rw [hxy]; exact hx12) hy).1 (by omega)
        ·
          have hc11p : ¬ ((q : Int) < (v : Int)) := by simpa using hc11
          refine W.exit ?_
          refine X.seq ?_
          refine X.loop ?_
          refine X.blk ?_
          refine N.blk ?_
          refine N.seq ?_
          refine W.region ?_
          refine WL.move rfl rfl rfl ?_
          refine WL.add (c := (v : Int) + 1) rfl rfl rfl rfl (rfl) (by omega) ?_
          refine WL.assign rfl rfl rfl ?_
          refine WL.nil ?_
          exact N.loop (v + 1) ⟨rfl, rfl, rfl, rfl, rfl, rfl, rfl, rfl, rfl, rfl, rfl, rfl, trivial⟩ ⟨hS, by omega⟩ (by first | omega | (simp only; omega))
    ·
      have hc7p : ¬ ((v : Int) < (l.length : Int)) := by simpa using hc7
      refine W.exit ?_
      refine X.seq ?_
      refine X.loop ?_
      refine X.blk ?_
      refine N.seq ?_
      refine W.seq ?_
      refine W.region ?_
      refine WL.assign rfl rfl rfl ?_
      refine WL.nil ?_
      refine N.seq ?_
      refine Fin.ret1 rfl (v := .bool true) rfl ?_
      exact ⟨rfl, hS.below⟩

theorem shown16_ret {w : World} {ro : Nat → Prop} (hro : ∀ b, ro b → b < w.heap.size) : Ret Try.prog 7 #[] w fun v w' => v = .bool true ∧ Below w.heap.size w w' := by
  refine Ret.enter (P := Try.prog) (n := 30) (args := []) (σ := []) Try.func7 rfl rfl rfl rfl ?_
  have hS := St.start (ro := ro) hro
  refine W.seq ?_
  refine W.region ?_
  refine WL.assign rfl rfl rfl ?_
  refine WL.nil ?_
  refine N.seq ?_
  refine W.seq ?_
  refine W.region ?_
  refine WL.build (ps := [(0, .int .i64 1)]) (cs := [.int .i64 1, .int .i64 0, .int .i64 0, .int .u64 0, .string ⟨#[]⟩, .slice none 0 0]) rfl rfl rfl (by kernel_rfl) ?_
  refine WL.build (ps := [(0, .int .i64 1)]) (cs := [.int .i64 1, .int .i64 0, .int .i64 0, .int .u64 0, .string ⟨#[]⟩, .slice none 0 0]) rfl rfl rfl (by kernel_rfl) ?_
  refine WL.build (ps := [(0, .int .i64 2), (1, .int .i64 0), (2, .int .i64 1)]) (cs := [.int .i64 2, .int .i64 0, .int .i64 1, .int .u64 0, .string ⟨#[]⟩, .slice none 0 0]) rfl rfl rfl (by kernel_rfl) ?_
  refine WL.buildSlice (ps := [(0, .agg #[.int .i64 1, .int .i64 0, .int .i64 0, .int .u64 0, .string ⟨#[]⟩, .slice none 0 0]), (1, .agg #[.int .i64 1, .int .i64 0, .int .i64 0, .int .u64 0, .string ⟨#[]⟩, .slice none 0 0]), (2, .agg #[.int .i64 2, .int .i64 0, .int .i64 1, .int .u64 0, .string ⟨#[]⟩, .slice none 0 0])]) (cs := [.int .i64 1, .int .i64 0, .int .i64 0, .int .u64 0, .string ⟨#[]⟩, .slice none 0 0, .int .i64 1, .int .i64 0, .int .i64 0, .int .u64 0, .string ⟨#[]⟩, .slice none 0 0, .int .i64 2, .int .i64 0, .int .i64 1, .int .u64 0, .string ⟨#[]⟩, .slice none 0 0]) Try.underlying28 (tyZero_spec zer_39) rfl rfl rfl rfl (by kernel_rfl) hS ?_
  clear hS; intro w2 b1 hb_b1 hS
  refine WL.build (ps := [(0, .int .i64 3), (1, .int .i64 2)]) (cs := [.int .i64 3, .int .i64 2, .int .i64 0, .slice none 0 0, .int .i64 0, .slice none 0 0]) rfl rfl rfl (by kernel_rfl) ?_
  refine WL.build (ps := [(1, .slice (some ⟨b1, 0, none⟩) 3 3), (2, .agg #[.int .i64 3, .int .i64 2, .int .i64 0, .slice none 0 0, .int .i64 0, .slice none 0 0])]) (cs := [.int .i64 0, .slice (some ⟨b1, 0, none⟩) 3 3, .int .i64 3, .int .i64 2, .int .i64 0, .slice none 0 0, .int .i64 0, .slice none 0 0]) rfl rfl rfl (by kernel_rfl) ?_
  have hsv : InstsV (fun x => x < w2.heap.size) w2 (.slice (some ⟨b1, 0, none⟩) 3 3) bSh16.ins := slv_blk (hS.own _ List.mem_cons_self) rfl (((Chunks.nil.snoc (c := [.int .i64 1, .int .i64 0, .int .i64 0, .int .u64 0, .string ⟨#[]⟩, .slice none 0 0]) rfl (instLit 1 0 0 0 (intI (by decide)) (intI (by decide)) (intI (by decide)) (by unfold inU; decide))).snoc (c := [.int .i64 1, .int .i64 0, .int .i64 0, .int .u64 0, .string ⟨#[]⟩, .slice none 0 0]) rfl (instLit 1 0 0 0 (intI (by decide)) (intI (by decide)) (intI (by decide)) (by unfold inU; decide))).snoc (c := [.int .i64 2, .int .i64 0, .int .i64 1, .int .u64 0, .string ⟨#[]⟩, .slice none 0 0]) rfl (instLit 2 0 1 0 (intI (by decide)) (intI (by decide)) (intI (by decide)) (by unfold inU; decide))) (hS.keys b1 (by simp [keysOf])).2.1 rfl (by decide)
  have hbb : BlockC (fun x => x < w2.heap.size) w2 [.int .i64 0, .slice (some ⟨b1, 0, none⟩) 3 3, .int .i64 3, .int .i64 2, .int .i64 0, .slice none 0 0, .int .i64 0, .slice none 0 0] bSh16 := ⟨_, _, rfl, hsv, termLit _ _ _ _ (intI (by decide)) (intI (by decide)) (intI (by decide)) (intI (by decide)), (show inI 0 from intI (by decide))⟩
  refine WL.callF (vs := [.agg #[.int .i64 0, .slice (some ⟨b1, 0, none⟩) 3 3, .int .i64 3, .int .i64 2, .int .i64 0, .slice none 0 0, .int .i64 0, .slice none 0 0]]) Try.func10 (by kernel_rfl) rfl rfl rfl (give16_ret bSh16 _ (ro := fun x => x < w2.heap.size) (fun _ h => h) hbb ok16_sh) ?_
  rintro v w3 ⟨hg, hbl⟩
  rw [sh16_eq] at hg
  replace hS := hS.readAll hbl
  have hg2 := SlV.keep hg (ro' := fun x => x < w3.heap.size) (w' := w3) (Q' := IntC) (fun b hb => ⟨hb.2, rfl⟩) (fun _ _ h => h)
  obtain ⟨adg, capg, rfl, hg2a, hg2b, hg2c, hg2d⟩ := id hg2
  have hg2m : ([0, 1, 0] : List Int).length ≤ 9223372036854775807 := by have h1 := hg2a; have h2 := hg2b; unfold maxLen at h2; omega
  refine WL.assign rfl rfl rfl ?_
  refine WL.nil ?_
  refine N.seq ?_
  refine W.seq ?_
  refine W.region ?_
  refine WL.move rfl rfl rfl ?_
  refine WL.lenSlice Try.underlying29 rfl rfl rfl ?_
  refine WL.bin rfl rfl rfl rfl rfl ?_
  refine WL.set 11 (v' := .bool true) rfl (rfl) ?_
  refine WL.move rfl rfl rfl ?_
  refine WL.move rfl rfl rfl ?_
  have hj4 : 0 < ([0, 1, 0] : List Int).length := by decide
  obtain ⟨x4, hx4⟩ : ∃ zz, ([0, 1, 0] : List Int)[0]? = some zz := ⟨_, List.getElem?_eq_getElem hj4⟩
  obtain ⟨b4, o4, cs4, hE4, hr4, hl4, hc4, hQ4⟩ := hg2d 0 _ hx4
  obtain rfl : (0 : Int) = x4 := Option.some.inj hx4
  obtain ⟨rfl, hi4⟩ := hQ4
  refine WL.indexAddrE (j := 0) Try.underlying29 isz_3 rfl rfl rfl rfl hj4 hE4 ?_
  refine WL.load1 (v := .int .i64 0) one_3 rfl rfl rfl (hS.roCells hr4 hc4 0 _ rfl) ?_
  refine WL.bin rfl rfl rfl rfl rfl ?_
  refine WL.set 16 (v' := .bool true) rfl rfl ?_
  refine WL.pick (v := .bool true) rfl rfl rfl rfl rfl rfl ?_
  refine WL.move rfl rfl rfl ?_
  refine WL.move rfl rfl rfl ?_
  have hj5 : 1 < ([0, 1, 0] : List Int).length := by decide
  obtain ⟨x5, hx5⟩ : ∃ zz, ([0, 1, 0] : List Int)[1]? = some zz := ⟨_, List.getElem?_eq_getElem hj5⟩
  obtain ⟨b5, o5, cs5, hE5, hr5, hl5, hc5, hQ5⟩ := hg2d 1 _ hx5
  obtain rfl : (1 : Int) = x5 := Option.some.inj hx5
  obtain ⟨rfl, hi5⟩ := hQ5
  refine WL.indexAddrE (j := 1) Try.underlying29 isz_3 rfl rfl rfl rfl hj5 hE5 ?_
  refine WL.load1 (v := .int .i64 1) one_3 rfl rfl rfl (hS.roCells hr5 hc5 0 _ rfl) ?_
  refine WL.bin rfl rfl rfl rfl rfl ?_
  refine WL.set 22 (v' := .bool true) rfl rfl ?_
  refine WL.pick (v := .bool true) rfl rfl rfl rfl rfl rfl ?_
  refine WL.move rfl rfl rfl ?_
  refine WL.move rfl rfl rfl ?_
  have hj6 : 2 < ([0, 1, 0] : List Int).length := by decide
  obtain ⟨x6, hx6⟩ : ∃ zz, ([0, 1, 0] : List Int)[2]? = some zz := ⟨_, List.getElem?_eq_getElem hj6⟩
  obtain ⟨b6, o6, cs6, hE6, hr6, hl6, hc6, hQ6⟩ := hg2d 2 _ hx6
  obtain rfl : (0 : Int) = x6 := Option.some.inj hx6
  obtain ⟨rfl, hi6⟩ := hQ6
  refine WL.indexAddrE (j := 2) Try.underlying29 isz_3 rfl rfl rfl rfl hj6 hE6 ?_
  refine WL.load1 (v := .int .i64 0) one_3 rfl rfl rfl (hS.roCells hr6 hc6 0 _ rfl) ?_
  refine WL.bin rfl rfl rfl rfl rfl ?_
  refine WL.set 28 (v' := .bool true) rfl rfl ?_
  refine WL.pick (v := .bool true) rfl rfl rfl rfl rfl rfl ?_
  refine WL.assign rfl rfl rfl ?_
  refine WL.nil ?_
  refine N.seq ?_
  refine Fin.ret1 rfl (v := .bool true) rfl ?_
  exact ⟨rfl, hS.below⟩

end Go.Proofs.Ytkgmijhcaclpoaa
