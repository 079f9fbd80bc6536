/-
  Contracts of layer 9 (resolve). No condition beyond those that each theorem states.
-/
import Derived.Test.YtapjejjmhmdmdaaDoorQ4
namespace Go.Proofs.YtapjejjmhmdmdaaDoor
open Go.RowKit
theorem byt_66 : (Tryd.prog.info? 66).map (·.bytes) = some 32 := by kernel_rfl
theorem fo_66_4 : fOff Tryd.prog 66 4 4 = true := by kernel_rfl
theorem isz_66 : (Tryd.prog.info? 66).map (·.size) = some 5 := by kernel_rfl
def mainB : ByteArray := ⟨#[109, 97, 105, 110]⟩
def isMain (g : List DItem) : Bool := decide ((g.getD 0 item0).name = mainB)
def okMain (g : List DItem) : Bool := (def9 g).here && (g.getD 0 item0).fn && decide ((g.getD 0 item0).params = 0)
def entry9 (gs : List (List DItem)) : Bool := match gs.find? isMain with
  | some g => okMain g
  | none => false
def all9 (xs : List DItem) : List DDef × Int :=
  if (grp9 xs).any oddG = true then ([], 10) else if (grp9 xs).any (fun g => decide (1 < many9 g)) = true then ([], 9) else if (grp9 xs).any missing9 = true then ([], 8) else
  if entry9 (grp9 xs) = true then ((grp9 xs).map def9, 0) else ([], 11)
theorem grp9_ne {xs : List DItem} {g : List DItem} (h : g ∈ grp9 xs) : 0 < g.length := by
  unfold grp9 at h
  obtain ⟨s, hs, rfl⟩ := List.mem_map.1 h
  obtain ⟨x, hx, e⟩ := (mem_nms9 _ _).1 hs
  exact List.length_pos_of_mem (List.mem_filter.2 ⟨hx, by simp [e]⟩)
theorem grp9_sub {xs : List DItem} {g : List DItem} (h : g ∈ grp9 xs) : ∀ x ∈ g, x ∈ xs := fun x hx => by
  unfold grp9 at h
  obtain ⟨s, hs, rfl⟩ := List.mem_map.1 h
  exact (List.mem_filter.1 hx).1
theorem getD_mem {α : Type} {l : List α} {i : Nat} (d : α) (h : i < l.length) : l.getD i d ∈ l := by
  rw [List.getD_eq_getElem?_getD, List.getElem?_eq_getElem h]; exact List.getElem_mem h
theorem di9_lt {g : List DItem} (h : 0 < g.length) : di9 g < g.length := by
  unfold di9
  split
  · exact h
  · rename_i h1
    split
    · obtain ⟨i, e, hi⟩ := ixI_nat h1; rw [e]; simpa using hi
    · rename_i h2; obtain ⟨i, e, hi⟩ := ixI_nat h2; rw [e]; simpa using hi
theorem def9_ok {g : List DItem} (h : 0 < g.length) (ho : ∀ x ∈ g, x.name.size ≤ maxLen ∧ inI x.mod ∧ inI x.params) : DefC (defL (def9 g)) (def9 g) :=
  ⟨rfl, (ho _ (getD_mem item0 h)).1, (ho _ (getD_mem item0 (di9_lt h))).2.1⟩
theorem entry_at {gs : List (List DItem)} {i : Nat} {g : List DItem} (h : ixI isMain gs = (i : Int)) (hg : gs[i]? = some g) : entry9 gs = okMain g := by
  unfold entry9
  have : gs.find? isMain = some g := by
    unfold ixI at h
    cases hf : gs.findIdx? isMain with
    | none => rw [hf] at h; have h2 : (-1 : Int) = (i : Int) := h; omega
    | some j =>
      rw [hf] at h
      have hj : j = i := by have h2 : (j : Int) = (i : Int) := h; omega
      subst hj
      rw [List.findIdx?_eq_some_iff_getElem] at hf
      obtain ⟨hlt, hp, hno⟩ := hf
      rw [List.find?_eq_some_iff_getElem]
      rw [List.getElem?_eq_getElem hlt] at hg
      cases hg
      exact ⟨hp, j, hlt, rfl, fun k hk => by simpa using hno k hk⟩
  rw [this]
theorem entry_none {gs : List (List DItem)} (h : ixI isMain gs < 0) : entry9 gs = false := by
  unfold entry9
  have : gs.find? isMain = none := by
    rw [List.find?_eq_none]
    intro x hx
    rcases ixI_cases isMain gs with ⟨_, h2⟩ | ⟨i, x, h1, _⟩
    · simpa using List.any_eq_false.1 h2 x hx
    · omega
  rw [this]

theorem all1_ret (g : List DItem) (vx : Value) {w : World} {ro : Nat → Prop} (hro : ∀ b, ro b → b < w.heap.size) (hx : SlV ro w 6 ItemC vx g) : Ret Tryd.prog 50 #[vx] w fun v w' => v = .bool (oddG g) ∧ Below w.heap.size w w' := by
 obtain ⟨ad, cap, rfl, haa, hab, hac, had⟩ := id hx
 have ham : g.length ≤ 9223372036854775807 := by have h1 := haa; have h2 := hab; unfold maxLen at h2; omega
 refine Ret.enter (P := Tryd.prog) (n := 6) (args := [.slice ad g.length cap]) (σ := [(0, .slice ad g.length cap)]) Tryd.func50 rfl rfl rfl rfl ?_
 have hS := St.start (ro := ro) hro
 refine W.seq (W.region (WL.assign rfl rfl rfl (WL.nil (N.seq (W.seq (W.region (WL.move rfl rfl rfl ?_)))))))
 refine WL.callF (vs := [.slice ad g.length cap]) Tryd.func51 (by kernel_rfl) rfl rfl rfl (shaped_ret g _ (ro := ro) (fun b hb => (hS.snap b hb).1) (SlV.keep hx hS.alike (fun _ _ q => q))) ?_
 rintro v w1 ⟨rfl, hbl⟩
 replace hS := hS.grow hbl
 refine WL.not rfl rfl rfl (WL.assign rfl rfl rfl (WL.nil (N.seq ?_)))
 refine Fin.ret1 rfl (v := .bool (!(!oddG g))) rfl ?_
 exact ⟨by simp, hS.below⟩

theorem all2_ret (g : List DItem) (vx : Value) {w : World} {ro : Nat → Prop} (hro : ∀ b, ro b → b < w.heap.size) (hx : SlV ro w 6 ItemC vx g) : Ret Tryd.prog 52 #[vx] w fun v w' => v = .bool (decide (1 < many9 g)) ∧ Below w.heap.size w w' := by
 obtain ⟨ad, cap, rfl, haa, hab, hac, had⟩ := id hx
 have ham : g.length ≤ 9223372036854775807 := by have h1 := haa; have h2 := hab; unfold maxLen at h2; omega
 refine Ret.enter (P := Tryd.prog) (n := 6) (args := [.slice ad g.length cap]) (σ := [(0, .slice ad g.length cap)]) Tryd.func52 rfl rfl rfl rfl ?_
 have hS := St.start (ro := ro) hro
 refine W.seq (W.region (WL.assign rfl rfl rfl (WL.nil (N.seq (W.seq (W.region (WL.move rfl rfl rfl ?_)))))))
 refine WL.callF (vs := [.slice ad g.length cap]) Tryd.func53 (by kernel_rfl) rfl rfl rfl (many_ret g _ (ro := ro) (fun b hb => (hS.snap b hb).1) (SlV.keep hx hS.alike (fun _ _ q => q))) ?_
 rintro v w1 ⟨rfl, hbl⟩
 replace hS := hS.grow hbl
 refine WL.bin rfl rfl rfl rfl rfl (WL.assign rfl rfl rfl (WL.nil (N.seq ?_)))
 refine Fin.ret1 rfl (v := .bool (decide (1 < many9 g))) rfl ?_
 exact ⟨rfl, hS.below⟩

theorem all3_ret (g : List DItem) (vx : Value) {w : World} {ro : Nat → Prop} (hro : ∀ b, ro b → b < w.heap.size) (hx : SlV ro w 6 ItemC vx g) (hg0 : 0 < g.length) : Ret Tryd.prog 57 #[vx] w fun v w' => v = .bool (isMain g) ∧ Below w.heap.size w w' := by
 obtain ⟨ad, cap, rfl, haa, hab, hac, had⟩ := id hx
 have ham : g.length ≤ 9223372036854775807 := by have h1 := haa; have h2 := hab; unfold maxLen at h2; omega
 refine Ret.enter (P := Tryd.prog) (n := 8) (args := [.slice ad g.length cap]) (σ := [(0, .slice ad g.length cap)]) Tryd.func57 rfl rfl rfl rfl ?_
 have hS := St.start (ro := ro) hro
 refine W.seq (W.region (WL.assign rfl rfl rfl (WL.nil (N.seq (W.seq (W.region (WL.move rfl rfl rfl ?_)))))))
 have hj1 : 0 < g.length := hg0
 obtain ⟨x1, hx1⟩ : ∃ zz, g[0]? = some zz := ⟨_, List.getElem?_eq_getElem hj1⟩
 obtain ⟨b1, o1, cs1, hE1, hr1, hl1, hc1, hQ1⟩ := had 0 _ hx1
 obtain ⟨rfl, hin1, him1, hip1⟩ := hQ1
 refine WL.indexAddrE (j := 0) Tryd.underlying115 isz_110 rfl rfl rfl rfl hj1 hE1 (WL.fieldAddr fo_110_0 rfl rfl rfl (WL.load1 (v := .string x1.name) one_9 rfl rfl rfl (hS.roCells hr1 hc1 0 _ rfl) (WL.eqStr rfl rfl rfl rfl (WL.assign rfl rfl rfl (WL.nil (N.seq ?_))))))
 refine Fin.ret1 rfl (v := .bool (decide (x1.name = ⟨#[109, 97, 105, 110]⟩))) rfl ?_
 have e0 : g.getD 0 item0 = x1 := by rw [List.getD_eq_getElem?_getD, hx1]; rfl
 exact ⟨by unfold isMain; rw [e0]; rfl, hS.below⟩

theorem all_ret (ms : List DMod) (vx : Value) {w : World} {ro : Nat → Prop} (hro : ∀ b, ro b → b < w.heap.size) (hx : SlV ro w 2 (ModC ro w) vx ms) (hmx : (items9 ms).length ≤ 1048576) (hit0 : ∀ x ∈ items9 ms, x.name.size ≤ maxLen ∧ inI x.mod ∧ inI x.params) : Ret Tryd.prog 26 #[vx] w fun v w' => ∃ sv, v = .tuple #[sv, .int .i64 (all9 (items9 ms)).2] ∧ SlV (roFrom ro w w') w' 5 DefC sv (all9 (items9 ms)).1 ∧ Below w.heap.size w w' := by
 refine Ret.enter (P := Tryd.prog) (n := 70) (args := [vx]) (σ := [(0, vx)]) Tryd.func26 rfl rfl rfl rfl ?_
 have hS := St.start (ro := ro) hro
 have hsub : ∀ b, ro b → ro b ∨ w.heap.size ≤ b := fun _ h => .inl h
 refine W.seq (W.region (WL.assign rfl rfl rfl (WL.assign rfl rfl rfl (WL.nil (N.seq (W.seq (W.region (WL.move rfl rfl rfl ?_))))))))
 refine WL.callF (vs := [vx]) Tryd.func48 (by kernel_rfl) rfl rfl rfl (groups_ret ms _ (ro := ro) (fun b hb => (hS.snap b hb).1) (SlV.keep hx hS.alike (fun _ _ q => q.keep hS.alike)) hmx hit0) ?_
 rintro vg w1 ⟨hgv, hbl⟩
 replace hsub : ∀ b, (roFrom ro w w1) b → ro b ∨ w.heap.size ≤ b := fun b hb => hb.elim (hsub b) (fun h => .inr (Nat.le_trans hS.below.size h.1))
 replace hS := hS.readNew hbl
 replace hgv := SlV.keep hgv (ro' := (roFrom ro w w1)) (w' := w1) (Q' := GroupC (roFrom ro w w1) w1) (fun x hx => ⟨.inr hx, rfl⟩) (fun _ _ h => h.keep (fun x hx => ⟨.inr hx, rfl⟩))
 obtain ⟨gs, hgsd⟩ : ∃ gs, gs = grp9 (items9 ms) := ⟨_, rfl⟩
 rw [← hgsd] at hgv
 have hne : ∀ g ∈ gs, 0 < g.length := fun g hg => grp9_ne (by rw [← hgsd]; exact hg)
 have hio : ∀ g ∈ gs, ∀ x ∈ g, x.name.size ≤ maxLen ∧ inI x.mod ∧ inI x.params := fun g hg x hx => hit0 x (grp9_sub (by rw [← hgsd]; exact hg) x hx)
 have hgl : gs.length ≤ 1048576 := by rw [hgsd, grp9_length]; exact Nat.le_trans (nms9_length _) hmx
 obtain ⟨adg, capg, rfl, hga, hgb, hgc, hgd⟩ := id hgv
 have hgm : gs.length ≤ 9223372036854775807 := by have h1 := hga; have h2 := hgb; unfold maxLen at h2; omega
 refine WL.assign rfl rfl rfl (WL.nil (N.seq (W.seq (W.region (WL.assign rfl rfl rfl (WL.nil (N.seq (W.seq (W.block ?_)))))))))
 refine W.seq (W.block (W.seq (W.block (W.seq (W.block (W.seq (W.block (W.seq (W.seq ?_)))))))))
 refine W.seq (W.region (WL.move rfl rfl rfl ?_))
 refine WL.callF (vs := [.slice adg gs.length capg, .func (.func 50) #[] #[]]) Tryd.func49 (by kernel_rfl) rfl rfl rfl (coGroup_ret gs oddG _ (ro := (roFrom ro w w1)) (fun b hb => (hS.snap b hb).1) (SlV.keep hgv hS.alike (fun _ _ q => q.keep hS.alike)) Tryd.func50 (by kernel_rfl) (fun x sv u hm hs hb => all1_ret x sv (ro := (roFrom ro w w1)) (fun b hbb => Nat.lt_of_lt_of_le (hS.snap b hbb).1 hb.size) hs)) ?_
 rintro v w3 ⟨rfl, hbl⟩
 replace hS := hS.grow hbl
 refine WL.assign rfl rfl rfl (WL.nil (N.seq ?_))
 refine W.cond rfl (fun hc4 => ?_) (fun hc4 => ?_)
 ·
  refine W.exit (X.seq (X.seq (X.blk (N.seq (W.seq (W.seq (W.region (WL.assign rfl rfl rfl (WL.assign rfl rfl rfl ?_)))))))))
  refine WL.nil (N.seq ?_)
  refine Fin.ret2 rfl (v := .slice none 0 0) (v' := .int .i64 10) rfl rfl ?_
  have e : all9 (items9 ms) = ([], 10) := by unfold all9; rw [← hgsd, if_pos hc4]
  rw [e]
  exact ⟨_, rfl, slv_nil, hS.below⟩
 refine W.skip (N.seq (W.seq (W.seq (W.region (WL.move rfl rfl rfl ?_)))))
 refine WL.callF (vs := [.slice adg gs.length capg, .func (.func 52) #[] #[]]) Tryd.func49 (by kernel_rfl) rfl rfl rfl (coGroup_ret gs (fun g => decide (1 < many9 g)) _ (ro := (roFrom ro w w1)) (fun b hb => (hS.snap b hb).1) (SlV.keep hgv hS.alike (fun _ _ q => q.keep hS.alike)) Tryd.func52 (by kernel_rfl) (fun x sv u hm hs hb => all2_ret x sv (ro := (roFrom ro w w1)) (fun b hbb => Nat.lt_of_lt_of_le (hS.snap b hbb).1 hb.size) hs)) ?_
 rintro v w5 ⟨rfl, hbl⟩
 replace hS := hS.grow hbl
 refine WL.assign rfl rfl rfl (WL.nil (N.seq ?_))
 refine W.cond rfl (fun hc6 => ?_) (fun hc6 => ?_)
 ·
  refine W.exit (X.seq (X.seq (X.blk_ne rfl (X.seq (X.blk (N.seq (W.seq (W.seq (W.region ?_)))))))))
  refine WL.assign rfl rfl rfl (WL.assign rfl rfl rfl (WL.nil (N.seq ?_)))
  refine Fin.ret2 rfl (v := .slice none 0 0) (v' := .int .i64 9) rfl rfl ?_
  have e : all9 (items9 ms) = ([], 9) := by unfold all9; rw [← hgsd, if_neg (by rw [hc4]; decide), if_pos hc6]
  rw [e]
  exact ⟨_, rfl, slv_nil, hS.below⟩
 refine W.skip (N.seq (W.seq (W.seq (W.region (WL.move rfl rfl rfl ?_)))))
 refine WL.callF (vs := [.slice adg gs.length capg, .func (.func 54) #[] #[]]) Tryd.func49 (by kernel_rfl) rfl rfl rfl (coGroup_ret gs missing9 _ (ro := (roFrom ro w w1)) (fun b hb => (hS.snap b hb).1) (SlV.keep hgv hS.alike (fun _ _ q => q.keep hS.alike)) Tryd.func54 (by kernel_rfl) (fun x sv u hm hs hb => missing_ret x sv (ro := (roFrom ro w w1)) (fun b hbb => Nat.lt_of_lt_of_le (hS.snap b hbb).1 hb.size) hs)) ?_
 rintro v w7 ⟨rfl, hbl⟩
 replace hS := hS.grow hbl
 refine WL.assign rfl rfl rfl (WL.nil (N.seq ?_))
 refine W.cond rfl (fun hc8 => ?_) (fun hc8 => ?_)
 ·
  refine W.exit (X.seq (X.seq (X.blk_ne rfl (X.seq (X.blk_ne rfl (X.seq (X.blk (N.seq (W.region ?_)))))))))
  refine WL.assign rfl rfl rfl (WL.nil (N.blk (N.seq (W.seq (W.seq (W.region (WL.move rfl rfl rfl (WL.assign rfl rfl rfl (WL.assign rfl rfl rfl ?_)))))))))
  refine WL.nil (N.seq ?_)
  refine Fin.ret2 rfl (v := .slice none 0 0) (v' := .int .i64 8) rfl rfl ?_
  have e : all9 (items9 ms) = ([], 8) := by unfold all9; rw [← hgsd, if_neg (by rw [hc4]; decide), if_neg (by rw [hc6]; decide), if_pos hc8]
  rw [e]
  exact ⟨_, rfl, slv_nil, hS.below⟩
 refine W.skip (N.seq (W.seq (W.region (WL.move rfl rfl rfl (WL.bin rfl rfl rfl rfl rfl ?_)))))
 refine WL.set 23 (v' := .bool false) rfl rfl ?_
 refine WL.assign rfl rfl rfl (WL.nil (N.seq (W.condF rfl (W.skip (N.seq (W.exit (X.blk_ne rfl (X.seq (X.blk_ne rfl ?_)))))))))
 refine X.seq (X.blk_ne rfl (X.seq (X.blk_ne rfl (X.seq (X.blk (N.seq (W.seq (W.region (WL.assign rfl rfl rfl ?_)))))))))
 refine WL.nil (N.seq (W.seq (W.seq (W.region (WL.move rfl rfl rfl (WL.lenSlice Tryd.underlying111 rfl rfl rfl (WL.move rfl rfl rfl (WL.nil (N.seq ?_)))))))))
 refine W.block ?_
 replace hS := hS.row0 66 5
 refine W.loop (α := Nat × Value × List Value) (fun ⟨k, vo, cs⟩ => [(2, .slice none 0 0), (3, .int .i64 0), (4, .slice adg gs.length capg), (6, vo), (25, .slice adg gs.length capg), (26, .int .i64 (gs.length : Int)), (27, .int .i64 (k : Int))]) (fun ⟨k, vo, cs⟩ u => St w w1 u (roFrom ro w w1) [] [⟨vo, 66, 5, k, cs⟩] ∧ k ≤ gs.length ∧ Chunks 5 DefC cs ((gs.take k).map def9)) (fun ⟨k, vo, cs⟩ => gs.length - k) (0, (.slice none 0 0), []) ⟨rfl, rfl, rfl, rfl, rfl, rfl, rfl, trivial⟩ ⟨hS, Nat.zero_le _, Chunks.nil⟩ ?_
 clear hS
 rintro ⟨k, vo, cs⟩ w9 ⟨hS, hk, hch⟩
 have hrow : w9.ownsRow w.heap.size 66 5 vo (k) _ := hS.rows _ List.mem_cons_self
 obtain ⟨advo, capvo, rfl, hr1vo, hr2vo, hr3vo⟩ := row_shape hrow
 clear hrow
 refine W.seq (W.region (WL.bin rfl rfl rfl rfl rfl (WL.nil (N.seq (W.seq ?_)))))
 refine W.cond rfl (fun hc10 => ?_) (fun hc10 => ?_)
 ·
  have hc10p : (k : Int) < (gs.length : Int) := by simpa using hc10
  refine W.skip (N.seq (W.seq (W.block (W.seq (W.region ?_)))))
  have hj11 : k < gs.length := by omega
  obtain ⟨x11, hx11⟩ : ∃ zz, gs[k]? = some zz := ⟨_, List.getElem?_eq_getElem hj11⟩
  obtain ⟨b11, o11, cs11, hE11, hr11, hl11, hc11, hQ11⟩ := hgd k _ hx11
  have hQk11 := hQ11
  obtain ⟨sg11, rfl, hsg11⟩ := hQ11
  obtain ⟨adg11, capg11, rfl, hsg11a, hsg11b, hsg11c, hsg11d⟩ := id hsg11
  have hsg11m : x11.length ≤ 9223372036854775807 := by have h1 := hsg11a; have h2 := hsg11b; unfold maxLen at h2; omega
  refine WL.indexAddrE (j := k) Tryd.underlying111 isz_115 rfl rfl rfl rfl hj11 hE11 (WL.load1 (v := .slice adg11 x11.length capg11) one_115 rfl rfl rfl (hS.roCells hr11 hc11 0 _ rfl) (WL.assign rfl rfl rfl (WL.nil (N.seq (W.region (WL.move rfl rfl rfl (WL.move rfl rfl rfl ?_)))))))
  refine WL.callF (vs := [.slice adg11 x11.length capg11]) Tryd.func55 (by kernel_rfl) rfl rfl rfl (def_ret x11 _ (ro := (roFrom ro w w1)) (fun b hb => (hS.snap b hb).1) (SlV.keep hsg11 hS.alike (fun _ _ q => q)) (hne _ (List.mem_of_getElem? hx11))) ?_
  rintro v w12 ⟨rfl, hbl⟩
  replace hS := hS.grow hbl
  refine WL.buildSlice (ps := [(0, .agg #[.string ((def9 x11).name), .int .i64 ((def9 x11).mod), .bool ((def9 x11).fn), .bool ((def9 x11).weak), .bool ((def9 x11).here)])]) (cs := [.string ((def9 x11).name), .int .i64 ((def9 x11).mod), .bool ((def9 x11).fn), .bool ((def9 x11).weak), .bool ((def9 x11).here)]) Tryd.underlying62 (tyZero_spec zer_66) rfl rfl rfl rfl (by kernel_rfl) hS ?_
  clear hS; intro w14 b13 hb_b13 hS
  refine WL.append (r := ⟨.slice advo k capvo, 66, 5, k, cs⟩) (cs := [.string ((def9 x11).name), .int .i64 ((def9 x11).mod), .bool ((def9 x11).fn), .bool ((def9 x11).weak), .bool ((def9 x11).here)]) 32 Tryd.underlying62 (tyZero_spec zer_66) byt_66 rfl rfl rfl rfl rfl rfl rfl rfl rfl hS (by unfold maxLen; simp only; omega) (by simp only; omega) ?_
  clear hS; intro w15 v16 hn_v16 hS
  have hrow : w15.ownsRow w.heap.size 66 5 v16 (k + 1) _ := hS.rows _ List.mem_cons_self
  obtain ⟨av16, cv16, rfl, hc1_v16, hc2_v16, hc3_v16⟩ := row_shape hrow
  clear hrow
  refine WL.assign rfl rfl rfl (WL.nil (N.blk (N.seq (W.region ?_))))
  refine WL.add (c := (k : Int) + 1) rfl rfl rfl rfl (rfl) (by omega) ?_
  refine WL.move rfl rfl rfl (WL.nil ?_)
  have hch2 : Chunks 5 DefC (cs ++ ([.string ((def9 x11).name), .int .i64 ((def9 x11).mod), .bool ((def9 x11).fn), .bool ((def9 x11).weak), .bool ((def9 x11).here)] : List Value)) ((gs.take (k + 1)).map def9) := by rw [take_next hx11, List.map_append]; exact hch.snoc rfl (def9_ok (hne _ (List.mem_of_getElem? hx11)) (hio _ (List.mem_of_getElem? hx11)))
  exact N.loop (k + 1, .slice av16 (k + 1) cv16, cs ++ ([.string ((def9 x11).name), .int .i64 ((def9 x11).mod), .bool ((def9 x11).fn), .bool ((def9 x11).weak), .bool ((def9 x11).here)] : List Value)) ⟨rfl, rfl, rfl, rfl, rfl, rfl, rfl, trivial⟩ ⟨hS, by omega, hch2⟩ (by first | omega | (simp only; omega))
 have hc10p : ¬ ((k : Int) < (gs.length : Int)) := by simpa using hc10
 refine W.exit (X.seq (X.loop (X.blk (N.seq (W.seq (W.region (WL.move rfl rfl rfl ?_)))))))
 have hke : k = (gs.map def9).length := by rw [List.length_map]; omega
 subst hke
 rw [List.length_map, List.take_length] at hch
 have hal17 := hS.giveRowAlike
 replace hsub : ∀ b, (fun x => (roFrom ro w w1) x ∨ (.slice advo ((gs.map def9).length) capvo : Value).ownBlock = some x) b → ro b ∨ w.heap.size ≤ b := fun b hb => hb.elim (hsub b) (fun h => .inr (hS.giveRowLe b h))
 replace hgd := hgd.keep hal17 (fun _ _ h => h.keep hal17)
 replace hgv := SlV.keep hgv hal17 (fun _ _ h => h.keep hal17)
 have hrow18 := hS.rows _ List.mem_cons_self
 replace hS := hS.giveRow
 have hsv : SlV (fun x => (roFrom ro w w1) x ∨ (.slice advo ((gs.map def9).length) capvo : Value).ownBlock = some x) w9 5 DefC (.slice advo ((gs.map def9).length) capvo) (gs.map def9) := row_slv hrow18 hch rfl (fun b hb => .inr hb)
 have hlm : (gs.map def9).length = gs.length := by rw [List.length_map]
 have hsvd : Elems (fun x => (roFrom ro w w1) x ∨ (.slice advo ((gs.map def9).length) capvo : Value).ownBlock = some x) w9 5 DefC advo (gs.map def9) := by obtain ⟨_, _, e, _, _, _, h⟩ := id hsv; cases e; exact h
 refine WL.callF (vs := [.slice adg gs.length capg, .func (.func 57) #[] #[]]) Tryd.func56 (by kernel_rfl) rfl rfl rfl (ixGroup_ret gs isMain _ (ro := (fun x => (roFrom ro w w1) x ∨ (.slice advo ((gs.map def9).length) capvo : Value).ownBlock = some x)) (fun b hb => (hS.snap b hb).1) (SlV.keep hgv hS.alike (fun _ _ q => q.keep hS.alike)) Tryd.func57 (by kernel_rfl) (fun x sv u hm hs hb => all3_ret x sv (ro := (fun x => (roFrom ro w w1) x ∨ (.slice advo ((gs.map def9).length) capvo : Value).ownBlock = some x)) (fun b hbb => Nat.lt_of_lt_of_le (hS.snap b hbb).1 hb.size) hs (hne _ hm))) ?_
 rintro v w19 ⟨rfl, hbl⟩
 replace hS := hS.grow hbl
 refine WL.assign rfl rfl rfl (WL.nil (N.seq (W.seq (W.seq (W.region (WL.move rfl rfl rfl (WL.bin rfl rfl rfl rfl rfl (WL.move rfl rfl rfl ?_))))))))
 cases hg20 : (decide (ixI isMain gs < 0))
 ·
  have hg20p : ¬ (ixI isMain gs < 0) := by simpa using hg20
  refine WL.move rfl rfl rfl (WL.move rfl rfl rfl ?_)
  obtain ⟨jm, hjm, hjl⟩ := ixI_nat hg20p
  refine WL.set 43 (v' := .int .i64 (jm : Int)) rfl (by rw [hjm]) ?_
  have hj21 : jm < (gs.map def9).length := by first | omega | (rw [List.length_map]; omega)
  obtain ⟨x21, hx21⟩ : ∃ zz, (gs.map def9)[jm]? = some zz := ⟨_, List.getElem?_eq_getElem hj21⟩
  obtain ⟨b21, o21, cs21, hE21, hr21, hl21, hc21, hQ21⟩ := hsvd jm _ hx21
  obtain ⟨rfl, hdn21, hdm21⟩ := hQ21
  refine WL.indexAddrE (j := jm) Tryd.underlying62 isz_66 rfl rfl rfl rfl hj21 hE21 (WL.fieldAddr fo_66_4 rfl rfl rfl (WL.load1 (v := .bool x21.here) one_4 rfl rfl rfl (hS.roCells hr21 hc21 4 _ rfl) (WL.not rfl rfl rfl (WL.pick (v := .bool (!x21.here)) rfl rfl rfl rfl rfl rfl (WL.move rfl rfl rfl ?_)))))
  cases hg22 : (!x21.here)
  ·
   refine WL.move rfl rfl rfl (WL.move rfl rfl rfl ?_)
   refine WL.set 51 (v' := .int .i64 (jm : Int)) rfl (by rw [hjm]) ?_
   have hj23 : jm < gs.length := by first | omega | (rw [List.length_map]; omega)
   obtain ⟨x23, hx23⟩ : ∃ zz, gs[jm]? = some zz := ⟨_, List.getElem?_eq_getElem hj23⟩
   obtain ⟨b23, o23, cs23, hE23, hr23, hl23, hc23, hQ23⟩ := hgd jm _ hx23
   have hQk23 := hQ23
   obtain ⟨sg23, rfl, hsg23⟩ := hQ23
   obtain ⟨adg23, capg23, rfl, hsg23a, hsg23b, hsg23c, hsg23d⟩ := id hsg23
   have hsg23m : x23.length ≤ 9223372036854775807 := by have h1 := hsg23a; have h2 := hsg23b; unfold maxLen at h2; omega
   refine WL.indexAddrE (j := jm) Tryd.underlying111 isz_115 rfl rfl rfl rfl hj23 hE23 (WL.load1 (v := .slice adg23 x23.length capg23) one_115 rfl rfl rfl (hS.roCells hr23 hc23 0 _ rfl) ?_)
   have hj24 : 0 < x23.length := hne _ (List.mem_of_getElem? hx23)
   obtain ⟨x24, hx24⟩ : ∃ zz, x23[0]? = some zz := ⟨_, List.getElem?_eq_getElem hj24⟩
   obtain ⟨b24, o24, cs24, hE24, hr24, hl24, hc24, hQ24⟩ := hsg23d 0 _ hx24
   obtain ⟨rfl, hin24, him24, hip24⟩ := hQ24
   refine WL.indexAddrE (j := 0) Tryd.underlying115 isz_110 rfl rfl rfl rfl hj24 hE24 (WL.fieldAddr fo_110_2 rfl rfl rfl (WL.load1 (v := .bool x24.fn) one_4 rfl rfl rfl (hS.roCells hr24 hc24 2 _ rfl) (WL.not rfl rfl rfl (WL.pick (v := .bool (!x24.fn)) rfl rfl rfl rfl rfl rfl (WL.move rfl rfl rfl ?_)))))
   cases hg25 : (!x24.fn)
   ·
    refine WL.move rfl rfl rfl (WL.move rfl rfl rfl ?_)
    refine WL.set 61 (v' := .int .i64 (jm : Int)) rfl (by rw [hjm]) ?_
    refine WL.indexAddrE (j := jm) Tryd.underlying111 isz_115 rfl rfl rfl rfl hj23 hE23 (WL.load1 (v := .slice adg23 x23.length capg23) one_115 rfl rfl rfl (hS.roCells hr23 hc23 0 _ rfl) (WL.indexAddrE (j := 0) Tryd.underlying115 isz_110 rfl rfl rfl rfl hj24 hE24 (WL.fieldAddr fo_110_3 rfl rfl rfl (WL.load1 (v := .int .i64 x24.params) one_3 rfl rfl rfl (hS.roCells hr24 hc24 3 _ rfl) (WL.bin rfl rfl rfl rfl rfl (WL.pick (v := .bool (!decide (x24.params = 0))) rfl rfl rfl rfl rfl rfl (WL.nil (N.seq ?_))))))))
    refine W.cond rfl (fun hc26 => ?_) (fun hc26 => ?_)
    ·
     have hc26p : ¬ (x24.params = 0) := by simpa using hc26
     refine W.seq (W.region (WL.assign rfl rfl rfl (WL.assign rfl rfl rfl (WL.nil (N.seq ?_)))))
     refine Fin.ret2 rfl (v := .slice none 0 0) (v' := .int .i64 11) rfl rfl ?_
     have en : entry9 gs = false := by
      rw [entry_at hjm hx23]; unfold okMain
      have ed : x21 = def9 x23 := by have h := hx21; rw [List.getElem?_map, hx23] at h; exact (Option.some.inj h).symm
      rw [← ed]
      have e0 : x23.getD 0 item0 = x24 := by rw [List.getD_eq_getElem?_getD, hx24]; rfl
      rw [e0]
      clear hS; simp_all
     have e : all9 (items9 ms) = ([], 11) := by unfold all9; rw [← hgsd, if_neg (by rw [hc4]; decide), if_neg (by rw [hc6]; decide), if_neg (by rw [hc8]; decide), if_neg (by rw [en]; decide)]
     rw [e]
     exact ⟨_, rfl, slv_nil, hS.below⟩
    have hc26p : x24.params = 0 := by simpa using hc26
    refine W.skip (N.seq (W.seq (W.region (WL.move rfl rfl rfl (WL.assign rfl rfl rfl (WL.assign rfl rfl rfl (WL.nil (N.seq ?_))))))))
    refine Fin.ret2 rfl (v := .slice advo ((gs.map def9).length) capvo) (v' := .int .i64 0) rfl rfl ?_
    have en : entry9 gs = true := by
     rw [entry_at hjm hx23]; unfold okMain
     have ed : x21 = def9 x23 := by have h := hx21; rw [List.getElem?_map, hx23] at h; exact (Option.some.inj h).symm
     rw [← ed]
     have e0 : x23.getD 0 item0 = x24 := by rw [List.getD_eq_getElem?_getD, hx24]; rfl
     rw [e0]
     clear hS; simp_all
    have e : all9 (items9 ms) = (gs.map def9, 0) := by unfold all9; rw [← hgsd, if_neg (by rw [hc4]; decide), if_neg (by rw [hc6]; decide), if_neg (by rw [hc8]; decide), if_pos en]
    have hfin : Alike (fun x => (roFrom ro w w1) x ∨ (.slice advo ((gs.map def9).length) capvo : Value).ownBlock = some x) w9 (roFrom ro w w19) w19 := fun b hb => ⟨(hsub b hb).elim .inl (fun h => .inr ⟨h, (hS.snap b hb).1⟩), (hS.snap b hb).2⟩
    rw [e]
    exact ⟨_, rfl, hsv.keep hfin (fun _ _ h => h), hS.below⟩
   refine WL.skp rfl rfl (WL.skp rfl rfl (WL.skp rfl rfl (WL.skp rfl rfl (WL.skp rfl rfl (WL.skp rfl rfl (WL.skp rfl rfl (WL.skp rfl rfl (WL.pick (v := .bool true) rfl rfl rfl rfl rfl rfl (WL.nil ?_)))))))))
   refine N.seq (W.condT rfl (W.seq (W.region (WL.assign rfl rfl rfl (WL.assign rfl rfl rfl (WL.nil (N.seq ?_)))))))
   refine Fin.ret2 rfl (v := .slice none 0 0) (v' := .int .i64 11) rfl rfl ?_
   have en : entry9 gs = false := by
    rw [entry_at hjm hx23]; unfold okMain
    have ed : x21 = def9 x23 := by have h := hx21; rw [List.getElem?_map, hx23] at h; exact (Option.some.inj h).symm
    rw [← ed]
    have e0 : x23.getD 0 item0 = x24 := by rw [List.getD_eq_getElem?_getD, hx24]; rfl
    rw [e0]
    clear hS; simp_all
   have e : all9 (items9 ms) = ([], 11) := by unfold all9; rw [← hgsd, if_neg (by rw [hc4]; decide), if_neg (by rw [hc6]; decide), if_neg (by rw [hc8]; decide), if_neg (by rw [en]; decide)]
   rw [e]
   exact ⟨_, rfl, slv_nil, hS.below⟩
  refine WL.skp rfl rfl (WL.skp rfl rfl (WL.skp rfl rfl (WL.skp rfl rfl (WL.skp rfl rfl (WL.skp rfl rfl (WL.skp rfl rfl (WL.skp rfl rfl (WL.pick (v := .bool true) rfl rfl rfl rfl rfl rfl (WL.move rfl rfl rfl ?_)))))))))
  refine WL.skp rfl rfl (WL.skp rfl rfl (WL.skp rfl rfl (WL.skp rfl rfl (WL.skp rfl rfl (WL.skp rfl rfl (WL.skp rfl rfl (WL.skp rfl rfl (WL.pick (v := .bool true) rfl rfl rfl rfl rfl rfl (WL.nil ?_)))))))))
  refine N.seq (W.condT rfl (W.seq (W.region (WL.assign rfl rfl rfl (WL.assign rfl rfl rfl (WL.nil (N.seq ?_)))))))
  refine Fin.ret2 rfl (v := .slice none 0 0) (v' := .int .i64 11) rfl rfl ?_
  have en : entry9 gs = false := by
   obtain ⟨xg, hxg⟩ : ∃ z, gs[jm]? = some z := ⟨_, List.getElem?_eq_getElem hjl⟩
   rw [entry_at hjm hxg]; unfold okMain
   have ed : x21 = def9 xg := by have h := hx21; rw [List.getElem?_map, hxg] at h; exact (Option.some.inj h).symm
   rw [← ed]
   clear hS; simp_all
  have e : all9 (items9 ms) = ([], 11) := by unfold all9; rw [← hgsd, if_neg (by rw [hc4]; decide), if_neg (by rw [hc6]; decide), if_neg (by rw [hc8]; decide), if_neg (by rw [en]; decide)]
  rw [e]
  exact ⟨_, rfl, slv_nil, hS.below⟩
 have hg20p : ixI isMain gs < 0 := by simpa using hg20
 refine WL.skp rfl rfl (WL.skp rfl rfl (WL.skp rfl rfl (WL.skp rfl rfl (WL.skp rfl rfl (WL.skp rfl rfl (WL.pick (v := .bool true) rfl rfl rfl rfl rfl rfl (WL.move rfl rfl rfl (WL.skp rfl rfl (WL.skp rfl rfl ?_)))))))))
 refine WL.skp rfl rfl (WL.skp rfl rfl (WL.skp rfl rfl (WL.skp rfl rfl (WL.skp rfl rfl (WL.skp rfl rfl (WL.pick (v := .bool true) rfl rfl rfl rfl rfl rfl (WL.move rfl rfl rfl (WL.skp rfl rfl (WL.skp rfl rfl ?_)))))))))
 refine WL.skp rfl rfl (WL.skp rfl rfl (WL.skp rfl rfl (WL.skp rfl rfl (WL.skp rfl rfl (WL.skp rfl rfl (WL.pick (v := .bool true) rfl rfl rfl rfl rfl rfl (WL.nil (N.seq (W.condT rfl ?_)))))))))
 refine W.seq (W.region (WL.assign rfl rfl rfl (WL.assign rfl rfl rfl (WL.nil (N.seq ?_)))))
 refine Fin.ret2 rfl (v := .slice none 0 0) (v' := .int .i64 11) rfl rfl ?_
 have en : entry9 gs = false := by
  exact entry_none hg20p
 have e : all9 (items9 ms) = ([], 11) := by unfold all9; rw [← hgsd, if_neg (by rw [hc4]; decide), if_neg (by rw [hc6]; decide), if_neg (by rw [hc8]; decide), if_neg (by rw [en]; decide)]
 rw [e]
 exact ⟨_, rfl, slv_nil, hS.below⟩

end Go.Proofs.YtapjejjmhmdmdaaDoor
