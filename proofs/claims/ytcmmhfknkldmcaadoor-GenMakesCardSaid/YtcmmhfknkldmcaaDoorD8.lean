/-
  Contracts of layer 17 (gen). No condition beyond those that each theorem states.
-/
import Derived.Test.YtcmmhfknkldmcaaDoorD7
import Derived.Test.YtcmmhfknkldmcaaDoorR5k
namespace Go.Proofs.YtcmmhfknkldmcaaDoor
open Go.RowKit

theorem check5_right {m : DMod} (h : check5 m = 0) : m.funcs.length ≤ 16 ∧ ∀ f ∈ m.funcs, func5 f = true := by
  unfold check5 at h
  by_cases h1 : 16 < m.funcs.length ∨ 16 < m.globs.length
  · rw [if_pos h1] at h; cases h
  · rw [if_neg h1] at h
    by_cases h2 : m.funcs.all func5 = false ∨ m.globs.all glob5 = false
    · rw [if_pos h2] at h; cases h
    · refine ⟨by omega, fun f hf => ?_⟩
      cases e : m.funcs.all func5 with
      | false => exact absurd (.inl e) h2
      | true => exact List.all_eq_true.1 e f hf
theorem stays_codes {R : Nat → Prop} {B : Nat} {l : List DCode} : Stays fun v u => SlV (fun b => (R b ∨ B ≤ b) ∧ b < u.heap.size) u 3 (CodeC (fun b => (R b ∨ B ≤ b) ∧ b < u.heap.size) u) v l := fun _ _ _ h hb => by
  have k : Alike (fun b => (R b ∨ B ≤ b) ∧ b < _) _ (fun b => (R b ∨ B ≤ b) ∧ b < _) _ := fun b hr => ⟨⟨hr.1, Nat.lt_of_lt_of_le hr.2 hb.size⟩, hb.block b hr.2⟩
  exact h.keep k fun _ _ q => q.keep k

set_option maxRecDepth 10000 in
set_option maxHeartbeats 4000000 in
theorem genMakes_ret (m : DMod) (a b : DCode) (cm ca cb : List Value) {w : World} {ro : Nat → Prop} (hro : ∀ b, ro b → b < w.heap.size) (hx : ModC ro w cm m) (hy : CodeC ro w ca a) (hz : CodeC ro w cb b) (hok : okMod m) (hr0 : ro 0) (hc0 : CellsAt w 0 0 [.int .i64 0, .int .i64 0, .int .i64 1, .int .i64 2, .int .i64 9, .int .i64 8, .int .i64 7, .int .i64 5, .int .i64 3, .int .i64 6, .int .i64 4, .int .i64 2]) : Ret Tryd.prog 7 #[.agg cm.toArray, .agg ca.toArray, .agg cb.toArray] w fun v w' => v = .bool true ∧ Below w.heap.size w w' := by
 obtain ⟨sfM, sgM, rfl, hfsM, hgsM⟩ := id hx
 obtain ⟨adfM, capfM, rfl, hfsMa, hfsMb, hfsMc, hfsMd⟩ := id hfsM
 have hfsMm : m.funcs.length ≤ 9223372036854775807 := by have h1 := hfsMa; have h2 := hfsMb; unfold maxLen at h2; omega
 obtain ⟨adgM, capgM, rfl, hgsMa, hgsMb, hgsMc, hgsMd⟩ := id hgsM
 have hgsMm : m.globs.length ≤ 9223372036854775807 := by have h1 := hgsMa; have h2 := hgsMb; unfold maxLen at h2; omega
 obtain ⟨soA, srA, rfl, hsoA, hsrA, hcnA⟩ := id hy
 obtain ⟨adoA, capoA, rfl, hsoAa, hsoAb, hsoAc, hsoAd⟩ := id hsoA
 have hsoAm : a.ops.length ≤ 9223372036854775807 := by have h1 := hsoAa; have h2 := hsoAb; unfold maxLen at h2; omega
 obtain ⟨adrA, caprA, rfl, hsrAa, hsrAb, hsrAc, hsrAd⟩ := id hsrA
 have hsrAm : a.rels.length ≤ 9223372036854775807 := by have h1 := hsrAa; have h2 := hsrAb; unfold maxLen at h2; omega
 obtain ⟨soB, srB, rfl, hsoB, hsrB, hcnB⟩ := id hz
 obtain ⟨adoB, capoB, rfl, hsoBa, hsoBb, hsoBc, hsoBd⟩ := id hsoB
 have hsoBm : b.ops.length ≤ 9223372036854775807 := by have h1 := hsoBa; have h2 := hsoBb; unfold maxLen at h2; omega
 obtain ⟨adrB, caprB, rfl, hsrBa, hsrBb, hsrBc, hsrBd⟩ := id hsrB
 have hsrBm : b.rels.length ≤ 9223372036854775807 := by have h1 := hsrBa; have h2 := hsrBb; unfold maxLen at h2; omega
 refine Ret.enter (P := Tryd.prog) (n := 37) (args := [.agg #[.slice adfM m.funcs.length capfM, .slice adgM m.globs.length capgM], .agg #[.string a.name, .slice adoA a.ops.length capoA, .slice adrA a.rels.length caprA], .agg #[.string b.name, .slice adoB b.ops.length capoB, .slice adrB b.rels.length caprB]]) (σ := [(0, .agg #[.slice adfM m.funcs.length capfM, .slice adgM m.globs.length capgM]), (1, .agg #[.string a.name, .slice adoA a.ops.length capoA, .slice adrA a.rels.length caprA]), (2, .agg #[.string b.name, .slice adoB b.ops.length capoB, .slice adrB b.rels.length caprB])]) Tryd.func7 rfl rfl rfl rfl ?_
 have hS := St.start (ro := ro) hro
 have hsub : ∀ b, ro b → ro b ∨ w.heap.size ≤ b := fun _ h => .inl h
 refine W.seq (W.region ?_)
 refine WL.box (v := .agg #[.slice adfM m.funcs.length capfM, .slice adgM m.globs.length capgM]) (cs := [.slice adfM m.funcs.length capfM, .slice adgM m.globs.length capgM]) rfl rfl rfl rfl hS ?_
 clear hS; intro w2 b1 hb_b1 hS
 refine WL.box (v := .agg #[.string a.name, .slice adoA a.ops.length capoA, .slice adrA a.rels.length caprA]) (cs := [.string a.name, .slice adoA a.ops.length capoA, .slice adrA a.rels.length caprA]) rfl rfl rfl rfl hS ?_
 clear hS; intro w4 b3 hb_b3 hS
 refine WL.box (v := .agg #[.string b.name, .slice adoB b.ops.length capoB, .slice adrB b.rels.length caprB]) (cs := [.string b.name, .slice adoB b.ops.length capoB, .slice adrB b.rels.length caprB]) rfl rfl rfl rfl hS ?_
 clear hS; intro w6 b5 hb_b5 hS
 refine WL.assign rfl rfl rfl (WL.nil (N.seq (W.seq (W.region ?_))))
 refine WL.callF (vs := []) Tryd.func8 (by kernel_rfl) rfl rfl rfl (shown17_ret (ro := ro) (fun b hb => (hS.snap b hb).1)) ?_
 rintro v w7 ⟨rfl, hbl⟩
 replace hS := hS.grow hbl
 refine WL.assign rfl rfl rfl (WL.nil (N.seq (W.seq (W.seq (W.region (WL.loadN (cs := [.slice adfM m.funcs.length capfM, .slice adgM m.globs.length capgM]) agg_44 rfl rfl rfl rfl (hS.cells 2 (m := 2) rfl rfl) ?_))))))
 refine WL.callF (vs := [.agg #[.slice adfM m.funcs.length capfM, .slice adgM m.globs.length capgM]]) Tryd.func14 (by kernel_rfl) rfl rfl rfl (check5_ret m _ (ro := ro) (fun b hb => (hS.snap b hb).1) (hx.keep hS.alike) hok) ?_
 rintro v w8 ⟨rfl, hbl⟩
 replace hS := hS.grow hbl
 refine WL.bin rfl rfl rfl rfl rfl (WL.nil (N.seq ?_))
 refine W.cond rfl (fun hc9 => ?_) (fun hc9 => ?_)
 ·
  have hc9p : ¬ (check5 m = 0) := by simpa using hc9
  refine W.seq (W.region (WL.move rfl rfl rfl (WL.assign rfl rfl rfl (WL.nil (N.seq ?_)))))
  refine Fin.ret1 rfl (v := .bool true) rfl ?_
  exact ⟨rfl, hS.below⟩
 have hc9p : check5 m = 0 := by simpa using hc9
 have hck := check5_right (m := m) (by have h9 := hc9p; simpa using h9)
 have hck := check5_right (m := m) (by have h9 := hc9p; simpa using h9)
 refine W.skip (N.seq (W.seq ?_))
 refine W.drawP (by kernel_rfl) 5 [(fun v _ => v = .agg #[.slice adfM m.funcs.length capfM, .slice adgM m.globs.length capgM]), (fun v u => SlV (fun b => (ro b ∨ w8.heap.size ≤ b) ∧ b < u.heap.size) u 3 (CodeC (fun b => (ro b ∨ w8.heap.size ≤ b) ∧ b < u.heap.size) u) v (codesL m.funcs)), (fun v _ => v = .agg #[.slice adfM m.funcs.length capfM, .slice adgM m.globs.length capgM]), (fun v u => SlV (fun b => (ro b ∨ w8.heap.size ≤ b) ∧ b < u.heap.size) u 3 (CodeC (fun b => (ro b ∨ w8.heap.size ≤ b) ∧ b < u.heap.size) u) v (codesL m.funcs)), (fun v _ => v = .bool true)] (by kernel_rfl) rfl (by kernel_rfl) [(3, .pointer (some ⟨b1, 0, none⟩)), (4, .pointer (some ⟨b3, 0, none⟩)), (5, .pointer (some ⟨b5, 0, none⟩)), (6, .bool false), (7, .bool true)] ⟨rfl, rfl, rfl, rfl, rfl, trivial⟩ rfl ⟨stays_eq, stays_codes, stays_eq, stays_codes, stays_eq, trivial⟩ ?_ ?_
 ·
  refine And.intro (fun β wd hb hD => ?_) ?_
  ·
   have hS := hS.grow hb
   refine WL.loadN (cs := [.slice adfM m.funcs.length capfM, .slice adgM m.globs.length capgM]) agg_44 rfl rfl rfl rfl (hS.cells 2 (m := 2) rfl rfl) ?_
   exact WL.nil (N.cut _ ⟨rfl, trivial⟩ ⟨(Below.refl _ _), rfl⟩)
  refine And.intro (fun β wd hb hD => ?_) ?_
  ·
   obtain ⟨hp0, _⟩ := hD
   replace hp0 : β 0 = .agg #[.slice adfM m.funcs.length capfM, .slice adgM m.globs.length capgM] := hp0
   refine WL.sub (σ' := [(14, .agg #[.slice adfM m.funcs.length capfM, .slice adgM m.globs.length capgM])]) ⟨congrArg some hp0, trivial⟩ ?_
   have hS := hS.grow hb
   refine WL.callF (vs := [.agg #[.slice adfM m.funcs.length capfM, .slice adgM m.globs.length capgM]]) Tryd.func16 (by kernel_rfl) rfl rfl rfl (gmodule_ret m _ (ro := ro) (fun b hb => (hS.snap b hb).1) (hx.keep hS.alike) hck.1 hck.2 hr0 (hS.roCells hr0 hc0)) ?_
   rintro v w10 ⟨hZ, hbl⟩
   replace hS := hS.grow hbl
   exact WL.nil (N.cut _ ⟨rfl, trivial⟩ ⟨hbl, (hZ.keep (fun b hb2 => ⟨⟨hb2.elim .inl (fun h => .inr (Nat.le_trans hb.size h.1)), hb2.elim (fun h => by first | exact (hS.snap b h).1 | exact Nat.lt_of_lt_of_le (hS.snap b h).1 hbl.size) (·.2)⟩, rfl⟩) fun _ _ q => q.keep (fun b hb2 => ⟨⟨hb2.elim .inl (fun h => .inr (Nat.le_trans hb.size h.1)), hb2.elim (fun h => by first | exact (hS.snap b h).1 | exact Nat.lt_of_lt_of_le (hS.snap b h).1 hbl.size) (·.2)⟩, rfl⟩))⟩)
  refine And.intro (fun β wd hb hD => ?_) ?_
  ·
   have hS := hS.grow hb
   refine WL.loadN (cs := [.slice adfM m.funcs.length capfM, .slice adgM m.globs.length capgM]) agg_44 rfl rfl rfl rfl (hS.cells 2 (m := 2) rfl rfl) ?_
   exact WL.nil (N.cut _ ⟨rfl, trivial⟩ ⟨(Below.refl _ _), rfl⟩)
  refine And.intro (fun β wd hb hD => ?_) ?_
  ·
   obtain ⟨hp2, _, _⟩ := hD
   replace hp2 : β 2 = .agg #[.slice adfM m.funcs.length capfM, .slice adgM m.globs.length capgM] := hp2
   refine WL.sub (σ' := [(16, .agg #[.slice adfM m.funcs.length capfM, .slice adgM m.globs.length capgM])]) ⟨congrArg some hp2, trivial⟩ ?_
   have hS := hS.grow hb
   refine WL.callF (vs := [.agg #[.slice adfM m.funcs.length capfM, .slice adgM m.globs.length capgM]]) Tryd.func17 (by kernel_rfl) rfl rfl rfl (rmodule17_ret m _ (ro := ro) (fun b hb => (hS.snap b hb).1) (hx.keep hS.alike) hck.1 hck.2) ?_
   rintro v w11 ⟨hZ, hbl⟩
   replace hS := hS.grow hbl
   exact WL.nil (N.cut _ ⟨rfl, trivial⟩ ⟨hbl, (hZ.keep (fun b hb2 => ⟨⟨hb2.elim .inl (fun h => .inr (Nat.le_trans hb.size h.1)), hb2.elim (fun h => by first | exact (hS.snap b h).1 | exact Nat.lt_of_lt_of_le (hS.snap b h).1 hbl.size) (·.2)⟩, rfl⟩) fun _ _ q => q.keep (fun b hb2 => ⟨⟨hb2.elim .inl (fun h => .inr (Nat.le_trans hb.size h.1)), hb2.elim (fun h => by first | exact (hS.snap b h).1 | exact Nat.lt_of_lt_of_le (hS.snap b h).1 hbl.size) (·.2)⟩, rfl⟩))⟩)
  refine And.intro (fun β wd hb hD => ?_) ?_
  ·
   obtain ⟨hp1, hp3, _, _⟩ := hD
   replace hp1 : (fun v u => SlV (fun b => (ro b ∨ w8.heap.size ≤ b) ∧ b < u.heap.size) u 3 (CodeC (fun b => (ro b ∨ w8.heap.size ≤ b) ∧ b < u.heap.size) u) v (codesL m.funcs)) (β 1) wd := hp1
   replace hp3 : (fun v u => SlV (fun b => (ro b ∨ w8.heap.size ≤ b) ∧ b < u.heap.size) u 3 (CodeC (fun b => (ro b ∨ w8.heap.size ≤ b) ∧ b < u.heap.size) u) v (codesL m.funcs)) (β 3) wd := hp3
   refine WL.sub (σ' := [(15, (β 1)), (17, (β 3))]) ⟨rfl, rfl, trivial⟩ ?_
   have hS := hS.grow hb
   generalize β 1 = z1 at hp1 ⊢
   have hY1 := hp1
   generalize β 3 = z3 at hp3 ⊢
   have hY3 := hp3
   refine WL.callF (vs := [z1, z3]) Tryd.func15 (by kernel_rfl) rfl rfl rfl (rsameAll_ret (codesL m.funcs) _ _ (ro := fun b => b < wd.heap.size) (fun _ h => h) (hY1.keep (fun b hb2 => ⟨hb2.2, rfl⟩) fun _ _ q => q.keep (fun b hb2 => ⟨hb2.2, rfl⟩)) (hY3.keep (fun b hb2 => ⟨hb2.2, rfl⟩) fun _ _ q => q.keep (fun b hb2 => ⟨hb2.2, rfl⟩))) ?_
   rintro v w12 ⟨rfl, hbl⟩
   replace hS := hS.grow hbl
   exact WL.nil (N.cut _ ⟨rfl, trivial⟩ ⟨hbl, rfl⟩)
  trivial
 intro β w13 hb hD
 obtain ⟨hp0, hp1, hp2, hp3, hp4, _⟩ := hD
 refine WL.sub (σ' := [(3, .pointer (some ⟨b1, 0, none⟩)), (4, .pointer (some ⟨b3, 0, none⟩)), (5, .pointer (some ⟨b5, 0, none⟩)), (6, .bool false), (7, .bool true), (14, .agg #[.slice adfM m.funcs.length capfM, .slice adgM m.globs.length capgM]), (15, (β 1)), (16, .agg #[.slice adfM m.funcs.length capfM, .slice adgM m.globs.length capgM]), (17, (β 3)), (18, .bool true)]) ⟨rfl, rfl, rfl, rfl, rfl, congrArg some (show β 0 = .agg #[.slice adfM m.funcs.length capfM, .slice adgM m.globs.length capgM] from hp0), rfl, congrArg some (show β 2 = .agg #[.slice adfM m.funcs.length capfM, .slice adgM m.globs.length capgM] from hp2), rfl, congrArg some (show β 4 = .bool true from hp4), trivial⟩ ?_
 have hSd := hS
 replace hS := hS.grow hb
 replace hp1 : (fun v u => SlV (fun b => (ro b ∨ w8.heap.size ≤ b) ∧ b < u.heap.size) u 3 (CodeC (fun b => (ro b ∨ w8.heap.size ≤ b) ∧ b < u.heap.size) u) v (codesL m.funcs)) (β 1) w13 := hp1
 generalize β 1 = z1 at hp1 ⊢
 replace hp3 : (fun v u => SlV (fun b => (ro b ∨ w8.heap.size ≤ b) ∧ b < u.heap.size) u 3 (CodeC (fun b => (ro b ∨ w8.heap.size ≤ b) ∧ b < u.heap.size) u) v (codesL m.funcs)) (β 3) w13 := hp3
 generalize β 3 = z3 at hp3 ⊢
 refine WL.assign rfl rfl rfl (WL.nil (N.seq (W.seq ?_)))
 refine W.drawL (by kernel_rfl) 18 ((.q (.bool true)) :: (.q (.bool true)) :: (.q (.bool true)) :: (.q (.bool true)) :: (.q (.bool true)) :: (.q (.agg #[.string a.name, .slice adoA a.ops.length capoA, .slice adrA a.rels.length caprA])) :: (.q (.agg #[.string b.name, .slice adoB b.ops.length capoB, .slice adrB b.rels.length caprB])) :: (.q (.bool (sameB a b))) :: (.q (.agg #[.string a.name, .slice adoA a.ops.length capoA, .slice adrA a.rels.length caprA])) :: (.q (.agg #[.string b.name, .slice adoB b.ops.length capoB, .slice adrB b.rels.length caprB])) :: (.q (.bool (sameB a b))) :: (.q (.bool true)) :: (.q (.bool true)) :: (.q (.bool true)) :: (.q (.agg #[.string a.name, .slice adoA a.ops.length capoA, .slice adrA a.rels.length caprA])) :: (.q (.agg #[.string a.name, .slice adoA a.ops.length capoA, .slice adrA a.rels.length caprA])) :: (.q (.bool true)) :: (.q (.bool true)) :: []) (by kernel_rfl) (by kernel_rfl) [(4, .pointer (some ⟨b3, 0, none⟩)), (5, .pointer (some ⟨b5, 0, none⟩)), (6, .bool false), (7, .bool true), (8, .bool true)] ⟨rfl, rfl, rfl, rfl, rfl, trivial⟩ (by kernel_rfl) hS ?_ ?_
 ·
  refine And.intro (fun β w hS => ?_) ?_
  ·
   refine WL.sub (σ' := [(7, .bool true)]) ⟨rfl, trivial⟩ ?_
   refine WL.move rfl rfl rfl ?_
   exact WL.nil (N.cut () ⟨rfl, trivial⟩ (Below.refl _ _))
  refine And.intro (fun β w hS => ?_) ?_
  ·
   refine WL.sub (σ' := [(19, .bool true)]) ⟨rfl, trivial⟩ ?_
   refine WL.move rfl rfl rfl ?_
   exact WL.nil (N.cut () ⟨rfl, trivial⟩ (Below.refl _ _))
  refine And.intro (fun β w hS => ?_) ?_
  ·
   refine WL.sub (σ' := [(8, .bool true), (20, .bool true)]) ⟨rfl, rfl, trivial⟩ ?_
   refine WL.move rfl rfl rfl ?_
   exact WL.nil (N.cut () ⟨rfl, trivial⟩ (Below.refl _ _))
  refine And.intro (fun β w hS => ?_) ?_
  ·
   refine WL.sub (σ' := [(20, .bool true), (21, .bool true)]) ⟨rfl, rfl, trivial⟩ ?_
   refine WL.pick (v := .bool true) rfl rfl rfl rfl rfl rfl ?_
   exact WL.nil (N.cut () ⟨rfl, trivial⟩ (Below.refl _ _))
  refine And.intro (fun β w hS => ?_) ?_
  ·
   refine WL.sub (σ' := [(22, .bool true)]) ⟨rfl, trivial⟩ ?_
   refine WL.move rfl rfl rfl ?_
   exact WL.nil (N.cut () ⟨rfl, trivial⟩ (Below.refl _ _))
  refine And.intro (fun β w hS => ?_) ?_
  ·
   refine WL.sub (σ' := [(4, .pointer (some ⟨b3, 0, none⟩)), (23, .bool true)]) ⟨rfl, rfl, trivial⟩ ?_
   refine WL.loadN (cs := [.string a.name, .slice adoA a.ops.length capoA, .slice adrA a.rels.length caprA]) agg_30 rfl rfl rfl rfl (hS.cells 1 (m := 3) rfl rfl) ?_
   exact WL.nil (N.cut () ⟨rfl, trivial⟩ (Below.refl _ _))
  refine And.intro (fun β w hS => ?_) ?_
  ·
   refine WL.sub (σ' := [(5, .pointer (some ⟨b5, 0, none⟩)), (23, .bool true)]) ⟨rfl, rfl, trivial⟩ ?_
   refine WL.loadN (cs := [.string b.name, .slice adoB b.ops.length capoB, .slice adrB b.rels.length caprB]) agg_30 rfl rfl rfl rfl (hS.cells 0 (m := 3) rfl rfl) ?_
   exact WL.nil (N.cut () ⟨rfl, trivial⟩ (Below.refl _ _))
  refine And.intro (fun β w hS => ?_) ?_
  ·
   refine WL.sub (σ' := [(23, .bool true), (24, .agg #[.string a.name, .slice adoA a.ops.length capoA, .slice adrA a.rels.length caprA]), (25, .agg #[.string b.name, .slice adoB b.ops.length capoB, .slice adrB b.rels.length caprB])]) ⟨rfl, rfl, rfl, trivial⟩ ?_
   refine WL.callF (vs := [.agg #[.string a.name, .slice adoA a.ops.length capoA, .slice adrA a.rels.length caprA], .agg #[.string b.name, .slice adoB b.ops.length capoB, .slice adrB b.rels.length caprB]]) Tryd.func18 (by kernel_rfl) rfl rfl rfl (gsame_ret a b _ _ (ro := ro) (fun b hb => (hS.snap b hb).1) (hy.keep hS.alike) (hz.keep hS.alike)) ?_
   rintro v w17 ⟨rfl, hbl⟩
   replace hS := hS.grow hbl
   exact WL.nil (N.cut () ⟨rfl, trivial⟩ hbl)
  refine And.intro (fun β w hS => ?_) ?_
  ·
   refine WL.sub (σ' := [(4, .pointer (some ⟨b3, 0, none⟩)), (23, .bool true)]) ⟨rfl, rfl, trivial⟩ ?_
   refine WL.loadN (cs := [.string a.name, .slice adoA a.ops.length capoA, .slice adrA a.rels.length caprA]) agg_30 rfl rfl rfl rfl (hS.cells 1 (m := 3) rfl rfl) ?_
   exact WL.nil (N.cut () ⟨rfl, trivial⟩ (Below.refl _ _))
  refine And.intro (fun β w hS => ?_) ?_
  ·
   refine WL.sub (σ' := [(5, .pointer (some ⟨b5, 0, none⟩)), (23, .bool true)]) ⟨rfl, rfl, trivial⟩ ?_
   refine WL.loadN (cs := [.string b.name, .slice adoB b.ops.length capoB, .slice adrB b.rels.length caprB]) agg_30 rfl rfl rfl rfl (hS.cells 0 (m := 3) rfl rfl) ?_
   exact WL.nil (N.cut () ⟨rfl, trivial⟩ (Below.refl _ _))
  refine And.intro (fun β w hS => ?_) ?_
  ·
   refine WL.sub (σ' := [(23, .bool true), (27, .agg #[.string a.name, .slice adoA a.ops.length capoA, .slice adrA a.rels.length caprA]), (28, .agg #[.string b.name, .slice adoB b.ops.length capoB, .slice adrB b.rels.length caprB])]) ⟨rfl, rfl, rfl, trivial⟩ ?_
   refine WL.callF (vs := [.agg #[.string a.name, .slice adoA a.ops.length capoA, .slice adrA a.rels.length caprA], .agg #[.string b.name, .slice adoB b.ops.length capoB, .slice adrB b.rels.length caprB]]) Tryd.func19 (by kernel_rfl) rfl rfl rfl (rsame17_ret a b _ _ (ro := ro) (fun b hb => (hS.snap b hb).1) (hy.keep hS.alike) (hz.keep hS.alike)) ?_
   rintro v w18 ⟨rfl, hbl⟩
   replace hS := hS.grow hbl
   exact WL.nil (N.cut () ⟨rfl, trivial⟩ hbl)
  refine And.intro (fun β w hS => ?_) ?_
  ·
   refine WL.sub (σ' := [(23, .bool true), (26, .bool (sameB a b)), (29, .bool (sameB a b))]) ⟨rfl, rfl, rfl, trivial⟩ ?_
   refine WL.eqBool Tryd.underlying4 rfl rfl rfl rfl ?_
   refine WL.set 30 (v' := .bool true) rfl (congrArg Value.bool (beq_self_eq_true _)) ?_
   exact WL.nil (N.cut () ⟨rfl, trivial⟩ (Below.refl _ _))
  refine And.intro (fun β w hS => ?_) ?_
  ·
   refine WL.sub (σ' := [(23, .bool true), (30, .bool true)]) ⟨rfl, rfl, trivial⟩ ?_
   refine WL.pick (v := .bool true) rfl rfl rfl rfl rfl rfl ?_
   exact WL.nil (N.cut () ⟨rfl, trivial⟩ (Below.refl _ _))
  refine And.intro (fun β w hS => ?_) ?_
  ·
   refine WL.sub (σ' := [(31, .bool true)]) ⟨rfl, trivial⟩ ?_
   refine WL.move rfl rfl rfl ?_
   exact WL.nil (N.cut () ⟨rfl, trivial⟩ (Below.refl _ _))
  refine And.intro (fun β w hS => ?_) ?_
  ·
   refine WL.sub (σ' := [(4, .pointer (some ⟨b3, 0, none⟩)), (32, .bool true)]) ⟨rfl, rfl, trivial⟩ ?_
   refine WL.loadN (cs := [.string a.name, .slice adoA a.ops.length capoA, .slice adrA a.rels.length caprA]) agg_30 rfl rfl rfl rfl (hS.cells 1 (m := 3) rfl rfl) ?_
   exact WL.nil (N.cut () ⟨rfl, trivial⟩ (Below.refl _ _))
  refine And.intro (fun β w hS => ?_) ?_
  ·
   refine WL.sub (σ' := [(4, .pointer (some ⟨b3, 0, none⟩)), (32, .bool true)]) ⟨rfl, rfl, trivial⟩ ?_
   refine WL.loadN (cs := [.string a.name, .slice adoA a.ops.length capoA, .slice adrA a.rels.length caprA]) agg_30 rfl rfl rfl rfl (hS.cells 1 (m := 3) rfl rfl) ?_
   exact WL.nil (N.cut () ⟨rfl, trivial⟩ (Below.refl _ _))
  refine And.intro (fun β w hS => ?_) ?_
  ·
   refine WL.sub (σ' := [(32, .bool true), (33, .agg #[.string a.name, .slice adoA a.ops.length capoA, .slice adrA a.rels.length caprA]), (34, .agg #[.string a.name, .slice adoA a.ops.length capoA, .slice adrA a.rels.length caprA])]) ⟨rfl, rfl, rfl, trivial⟩ ?_
   refine WL.callF (vs := [.agg #[.string a.name, .slice adoA a.ops.length capoA, .slice adrA a.rels.length caprA], .agg #[.string a.name, .slice adoA a.ops.length capoA, .slice adrA a.rels.length caprA]]) Tryd.func18 (by kernel_rfl) rfl rfl rfl ((by have h := gsame_ret a a _ _ (ro := ro) (w := w) (fun b hb => (hS.snap b hb).1) (hy.keep hS.alike) (hy.keep hS.alike); rw [sameB_self] at h; exact h)) ?_
   rintro v w19 ⟨rfl, hbl⟩
   replace hS := hS.grow hbl
   exact WL.nil (N.cut () ⟨rfl, trivial⟩ hbl)
  refine And.intro (fun β w hS => ?_) ?_
  ·
   refine WL.sub (σ' := [(32, .bool true), (35, .bool true)]) ⟨rfl, rfl, trivial⟩ ?_
   refine WL.pick (v := .bool true) rfl rfl rfl rfl rfl rfl ?_
   exact WL.nil (N.cut () ⟨rfl, trivial⟩ (Below.refl _ _))
  trivial
 clear hS; intro w20 β hS
 refine WL.sub (σ' := [(6, .bool false), (36, .bool true)]) ⟨rfl, rfl, trivial⟩ ?_
 refine WL.assign rfl rfl rfl (WL.nil (N.seq ?_))
 refine Fin.ret1 rfl (v := .bool true) rfl ?_
 exact ⟨rfl, hS.below⟩

end Go.Proofs.YtcmmhfknkldmcaaDoor
