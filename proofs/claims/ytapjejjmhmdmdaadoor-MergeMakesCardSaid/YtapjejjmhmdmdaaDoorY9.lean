/-
  Contracts of layer 10 (merge). No condition beyond those that each theorem states.
-/
import Derived.Test.YtapjejjmhmdmdaaDoorY8
namespace Go.Proofs.YtapjejjmhmdmdaaDoor
open Go.RowKit
theorem isz_94 : (Tryd.prog.info? 94).map (·.size) = some 2 := by kernel_rfl
theorem fnd_ix {ms : List DMod} (hok : (all9 (items9 ms)).2 = 0) {s : ByteArray} (hs : s ∈ nm10 ms) : ∃ (j : Nat) (d : DDef), ixI (isName s) (ds10 ms) = (j : Int) ∧ (ds10 ms)[j]? = some d ∧ fnd9 (ds10 ms) s = (d, true) := by
  obtain ⟨g, e, _⟩ := fnd9_in hok hs
  rcases ixI_cases (isName s) (ds10 ms) with ⟨h1, _⟩ | ⟨j, d, h1, h2, _, _⟩
  · rw [fnd9_no (by omega)] at e; exact absurd (congrArg Prod.snd e) Bool.false_ne_true
  · exact ⟨j, d, h1, h2, fnd9_at h1 h2⟩
theorem lost_ix {ds : List DDef} {s : ByteArray} {z : Int} (hz : z = ixI (isName s) ds) : (z < 0 → lost10 ds s = true) ∧ ∀ (d : DDef), 0 ≤ z → ds[z.toNat]? = some d → lost10 ds s = !d.here := by
  refine ⟨fun h => ?_, fun d h0 hd => ?_⟩
  · unfold lost10; rw [fnd9_no (by omega)]; rfl
  · unfold lost10; rw [fnd9_at (j := z.toNat) (by omega) hd]; rfl
theorem done_upd {dB : ByteArray → Option Bool} {l : List ByteArray} (h : ∀ s, (dB s).getD false = decide (s ∈ l)) (x : ByteArray) : ∀ s, ((updG dB x true) s).getD false = decide (s ∈ l ++ [x]) := fun s => by
  unfold updG
  by_cases e : s = x
  · rw [if_pos e]; simp [e]
  · rw [if_neg e, h s]; simp [e]

set_option maxRecDepth 20000 in
set_option maxHeartbeats 8000000 in
theorem rall10_ret (ms : List DMod) (ks : List ByteArray) (vx vk : Value) {w : World} {ro : Nat → Prop} (hro : ∀ b, ro b → b < w.heap.size) (hx : SlV ro w 2 (ModC ro w) vx ms) (hk : SlV ro w 1 StrC vk ks) (hrt : ∀ m ∈ ms, check5 m = 0) (hml : ms.length ≤ 16) : Ret Tryd.prog 15 #[vx, vk] w fun v w' => ∃ cs, v = .tuple #[.agg cs.toArray, .int .i64 (merge10 ms ks).2] ∧ ModC (roFrom ro w w') w' cs (merge10 ms ks).1 ∧ Below w.heap.size w w' := by
 have hxo := hx
 obtain ⟨adl, capl, rfl, hla, hlb, hlc, hld⟩ := hxo
 have hlm : ms.length ≤ 9223372036854775807 := slv_len hx
 obtain ⟨adk, capk, rfl, hk0a, hk0b, hk0c, hk0d⟩ := id hk
 have hk0m : ks.length ≤ 9223372036854775807 := by have h1 := hk0a; have h2 := hk0b; unfold maxLen at h2; omega
 refine Ret.enter (P := Tryd.prog) (n := 228) (args := [.slice adl ms.length capl, .slice adk ks.length capk]) (σ := [(0, .slice adl ms.length capl), (1, .slice adk ks.length capk)]) Tryd.func15 rfl rfl rfl rfl ?_
 have hS := St.start (ro := ro) hro
 have hsub : ∀ b, ro b → ro b ∨ w.heap.size ≤ b := fun _ h => .inl h
 have hit : ∀ m ∈ ms, (its10 m).length ≤ 32 := fun m hm => its_small (hrt m hm)
 have hmx : (items9 ms).length ≤ 1048576 := Nat.le_trans (items_few hrt hml) (by decide)
 refine W.seq (W.region ?_)
 refine WL.alloc (tyZero_spec zer_32) rfl rfl hS ?_
 clear hS; intro w2 b1 hb_b1 hS
 refine WL.assign rfl rfl rfl (WL.nil (N.seq (W.seq (W.region (WL.move rfl rfl rfl ?_)))))
 refine WL.callF (vs := [.slice adl ms.length capl]) Tryd.func32 (by kernel_rfl) rfl rfl rfl (rall_ret ms _ (ro := ro) (fun b hb => (hS.snap b hb).1) (SlV.keep hx hS.alike (fun _ _ q => q.keep hS.alike)) hmx) ?_
 rintro v w3 ⟨sv, rfl, hdv, hbl⟩
 have hal4 := hS.alikeTo hbl (ro' := (roFrom ro w2 w3)) (fun b hb => .inl hb)
 replace hsub : ∀ b, (roFrom ro w2 w3) b → ro b ∨ w.heap.size ≤ b := fun b hb => hb.elim (hsub b) (fun h => .inr (Nat.le_trans hS.below.size h.1))
 replace hld := hld.keep hal4 (fun _ _ h => h.keep hal4)
 replace hx := SlV.keep hx hal4 (fun _ _ h => h.keep hal4)
 replace hk0d := hk0d.keep hal4 (fun _ _ h => h)
 replace hk := SlV.keep hk hal4 (fun _ _ h => h)
 replace hS := hS.readNew hbl
 obtain ⟨ds, hds⟩ : ∃ ds, ds = ds10 ms := ⟨_, rfl⟩
 replace hdv : SlV (roFrom ro w2 w3) w3 5 DefC sv ds := by rw [hds]; exact hdv
 obtain ⟨add, capd, rfl, hda, hdb, hdc, hdd⟩ := id hdv
 have hdm : ds.length ≤ 9223372036854775807 := by have h1 := hda; have h2 := hdb; unfold maxLen at h2; omega
 refine WL.move rfl rfl rfl (WL.extract (v := .slice add ds.length capd) rfl rfl rfl rfl (WL.extract (v := .int .i64 ((all9 (items9 ms)).2)) rfl rfl rfl rfl (WL.assign rfl rfl rfl (WL.assign rfl rfl rfl (WL.nil (N.seq (W.seq (W.seq (W.region ?_)))))))))
 refine WL.move rfl rfl rfl (WL.bin rfl rfl rfl rfl rfl (WL.nil (N.seq ?_)))
 refine W.cond rfl (fun hc5 => ?_) (fun hc5 => ?_)
 ·
  have hc5p : ¬ ((all9 (items9 ms)).2 = 0) := by simpa using hc5
  refine W.seq (W.region ?_)
  refine WL.build (ps := []) (cs := [.slice none 0 0, .slice none 0 0]) rfl rfl rfl (by kernel_rfl) ?_
  refine WL.move rfl rfl rfl ?_
  refine WL.store (L' := [(b1, .cells #[.slice none 0 0, .slice none 0 0] 32 (0, 0))]) 0 rfl rfl rfl rfl siz_32 rfl rfl rfl rfl rfl hS ?_
  clear hS; intro w6 hS
  refine WL.assign rfl rfl rfl (WL.nil (N.seq ?_))
  refine Fin.retCT rfl (v := .agg #[.slice none 0 0, .slice none 0 0]) (v' := .int .i64 ((all9 (items9 ms)).2)) rfl (tyAgg_run agg_32 (cs := [.slice none 0 0, .slice none 0 0]) rfl (hS.cells 0 (m := 2) rfl rfl)) rfl ?_
  have hne : ¬ (all9 (items9 ms)).2 = 0 := by simpa using hc5p
  have e : merge10 ms ks = (⟨[], []⟩, (all9 (items9 ms)).2) := by unfold merge10; rw [if_neg hne]
  rw [e]
  exact ⟨_, rfl, ⟨_, _, rfl, slv_nil, slv_nil⟩, hS.below⟩
 have hc5p : (all9 (items9 ms)).2 = 0 := by simpa using hc5
 refine W.skip (N.seq (W.seq (W.seq (W.region (WL.assign rfl rfl rfl (WL.nil (N.seq (W.block ?_))))))))
 have he0 : (all9 (items9 ms)).2 = 0 := by simpa using hc5p
 refine W.loop (α := Nat) (fun (i : Nat) => [(0, .slice adl ms.length capl), (1, .slice adk ks.length capk), (4, .pointer (some ⟨b1, 0, none⟩)), (6, .slice add ds.length capd), (8, .int .i64 (i : Int))]) (fun (i : Nat) u => St w w3 u (roFrom ro w2 w3) [(b1, .cells #[.slice none 0 0, .slice none 0 0] 32 (0, 0))] [] ∧ i ≤ ks.length ∧ (ks.take i).any (lost10 ds) = false) (fun (i : Nat) => ks.length - i) 0 ⟨rfl, rfl, rfl, rfl, rfl, trivial⟩ ⟨hS, Nat.zero_le _, rfl⟩ ?_
 clear hS
 rintro i w7 ⟨hS, hi, hlo⟩
 refine W.seq (W.seq (W.region (WL.move rfl rfl rfl (WL.move rfl rfl rfl (WL.lenSlice Tryd.underlying25 rfl rfl rfl (WL.bin rfl rfl rfl rfl rfl (WL.nil (N.seq ?_))))))))
 refine W.cond rfl (fun hc8 => ?_) (fun hc8 => ?_)
 ·
  have hc8p : (i : Int) < (ks.length : Int) := by simpa using hc8
  refine W.skip (N.seq (W.seq (W.block (W.seq (W.region (WL.move rfl rfl rfl (WL.move rfl rfl rfl (WL.move rfl rfl rfl ?_))))))))
  have hj9 : i < ks.length := by omega
  obtain ⟨x9, hx9⟩ : ∃ zz, ks[i]? = some zz := ⟨_, List.getElem?_eq_getElem hj9⟩
  obtain ⟨b9, o9, cs9, hE9, hr9, hl9, hc9, hQ9⟩ := hk0d i _ hx9
  obtain ⟨rfl, hsz9⟩ := hQ9
  refine WL.indexAddrE (j := i) Tryd.underlying25 isz_9 rfl rfl rfl rfl hj9 hE9 (WL.load1 (v := .string x9) one_9 rfl rfl rfl (hS.roCells hr9 hc9 0 _ rfl) ?_)
  refine WL.callF (vs := [.slice add ds.length capd, .string x9]) Tryd.func33 (by kernel_rfl) rfl rfl rfl (rfindd_ret ds x9 _ (ro := (roFrom ro w2 w3)) (fun b hb => (hS.snap b hb).1) (SlV.keep hdv hS.alike (fun _ _ q => q))) ?_
  rintro v w10 ⟨rfl, hbl⟩
  replace hS := hS.grow hbl
  obtain ⟨z, hz⟩ : ∃ z, z = ixI (isName x9) ds := ⟨_, rfl⟩
  rw [← hz]
  refine WL.assign rfl rfl rfl (WL.nil (N.seq (W.seq (W.region (WL.move rfl rfl rfl (WL.bin rfl rfl rfl rfl rfl (WL.move rfl rfl rfl ?_)))))))
  rcases (Bool.eq_false_or_eq_true (decide (z < 0))).symm with hg11 | hg11
  ·
   refine WL.set 44 (v' := .bool false) rfl (by rw [hg11]) ?_
   refine WL.set 45 (v' := .bool false) rfl (by rw [hg11]) ?_
   have hg11p : ¬ (z < 0) := by simpa using hg11
   have hzl : z.toNat < ds.length := by obtain ⟨q, q1, q2⟩ := ixI_nat (p := isName x9) (g := ds) (by rw [← hz]; exact hg11p); omega
   refine WL.move rfl rfl rfl (WL.move rfl rfl rfl ?_)
   refine WL.set 47 (v' := .int .i64 (z.toNat : Int)) rfl (by rw [Int.toNat_of_nonneg (by omega)]) ?_
   have hj12 : z.toNat < ds.length := hzl
   obtain ⟨x12, hx12⟩ : ∃ zz, ds[z.toNat]? = some zz := ⟨_, List.getElem?_eq_getElem hj12⟩
   obtain ⟨b12, o12, cs12, hE12, hr12, hl12, hc12, hQ12⟩ := hdd z.toNat _ hx12
   obtain ⟨rfl, hdn12, hdm12⟩ := hQ12
   refine WL.indexAddrE (j := z.toNat) Tryd.underlying62 isz_66 rfl rfl rfl rfl hj12 hE12 (WL.fieldAddr fo_66_4 rfl rfl rfl (WL.load1 (v := .bool x12.here) one_4 rfl rfl rfl (hS.roCells hr12 hc12 4 _ rfl) (WL.not rfl rfl rfl (WL.pick (v := .bool (!x12.here)) rfl rfl rfl rfl rfl rfl (WL.nil (N.seq ?_))))))
   refine W.cond rfl (fun hc13 => ?_) (fun hc13 => ?_)
   ·
    refine W.seq (W.region ?_)
    refine WL.build (ps := []) (cs := [.slice none 0 0, .slice none 0 0]) rfl rfl rfl (by kernel_rfl) ?_
    refine WL.store (L' := [(b1, .cells #[.slice none 0 0, .slice none 0 0] 32 (0, 0))]) 0 rfl rfl rfl rfl siz_32 rfl rfl rfl rfl rfl hS ?_
    clear hS; intro w14 hS
    refine WL.assign rfl rfl rfl (WL.nil (N.seq ?_))
    refine Fin.retCT rfl (v := .agg #[.slice none 0 0, .slice none 0 0]) (v' := .int .i64 8) rfl (tyAgg_run agg_32 (cs := [.slice none 0 0, .slice none 0 0]) rfl (hS.cells 0 (m := 2) rfl rfl)) rfl ?_
    have hl1 : lost10 ds x9 = true := by rw [(lost_ix hz).2 x12 (by omega) hx12]; exact hc13
    have hla : ks.any (lost10 (all9 (items9 ms)).1) = true := List.any_eq_true.2 ⟨x9, List.mem_of_getElem? hx9, by rw [show (all9 (items9 ms)).1 = ds from hds.symm]; exact hl1⟩
    have e : merge10 ms ks = (⟨[], []⟩, 8) := by unfold merge10; rw [if_pos he0, if_pos hla]
    rw [e]
    exact ⟨_, rfl, ⟨_, _, rfl, slv_nil, slv_nil⟩, hS.below⟩
   refine W.skip (N.blk (N.seq (W.region (WL.move rfl rfl rfl ?_))))
   refine WL.add (c := (i : Int) + 1) rfl rfl rfl rfl (rfl) (by omega) ?_
   refine WL.assign rfl rfl rfl (WL.nil ?_)
   have hl2 : (ks.take (i + 1)).any (lost10 ds) = false := by rw [take_next hx9, List.any_append, hlo]; simp only [List.any_cons, List.any_nil, Bool.or_false, Bool.false_or]; rw [(lost_ix hz).2 x12 (by omega) hx12]; simpa using hc13
   exact N.loop (i + 1) ⟨rfl, rfl, rfl, rfl, rfl, trivial⟩ ⟨hS, by omega, hl2⟩ (by first | omega | (simp only; omega))
  refine WL.set 44 (v' := .bool true) rfl (by rw [hg11]) ?_
  refine WL.set 45 (v' := .bool true) rfl (by rw [hg11]) ?_
  have hg11p : z < 0 := by simpa using hg11
  refine WL.skp rfl rfl (WL.skp rfl rfl (WL.skp rfl rfl (WL.skp rfl rfl (WL.skp rfl rfl (WL.skp rfl rfl (WL.pick (v := .bool true) rfl rfl rfl rfl rfl rfl (WL.nil (N.seq (W.condT rfl ?_)))))))))
  refine W.seq (W.region ?_)
  refine WL.build (ps := []) (cs := [.slice none 0 0, .slice none 0 0]) rfl rfl rfl (by kernel_rfl) ?_
  refine WL.store (L' := [(b1, .cells #[.slice none 0 0, .slice none 0 0] 32 (0, 0))]) 0 rfl rfl rfl rfl siz_32 rfl rfl rfl rfl rfl hS ?_
  clear hS; intro w15 hS
  refine WL.assign rfl rfl rfl (WL.nil (N.seq ?_))
  refine Fin.retCT rfl (v := .agg #[.slice none 0 0, .slice none 0 0]) (v' := .int .i64 8) rfl (tyAgg_run agg_32 (cs := [.slice none 0 0, .slice none 0 0]) rfl (hS.cells 0 (m := 2) rfl rfl)) rfl ?_
  have hl1 : lost10 ds x9 = true := (lost_ix hz).1 (by omega)
  have hla : ks.any (lost10 (all9 (items9 ms)).1) = true := List.any_eq_true.2 ⟨x9, List.mem_of_getElem? hx9, by rw [show (all9 (items9 ms)).1 = ds from hds.symm]; exact hl1⟩
  have e : merge10 ms ks = (⟨[], []⟩, 8) := by unfold merge10; rw [if_pos he0, if_pos hla]
  rw [e]
  exact ⟨_, rfl, ⟨_, _, rfl, slv_nil, slv_nil⟩, hS.below⟩
 have hc8p : ¬ ((i : Int) < (ks.length : Int)) := by simpa using hc8
 refine W.exit (X.seq (X.loop (X.blk (N.seq (W.seq ?_)))))
 have hlo0 : ks.any (lost10 ds) = false := by rw [show i = ks.length by omega, List.take_length] at hlo; exact hlo
 refine W.region (WL.move rfl rfl rfl ?_)
 refine WL.callF (vs := [.slice adl ms.length capl]) Tryd.func34 (by kernel_rfl) rfl rfl rfl (names10r_ret ms _ (ro := (roFrom ro w2 w3)) (fun b hb => (hS.snap b hb).1) (SlV.keep hx hS.alike (fun _ _ q => q.keep hS.alike)) hml hit hmx) ?_
 rintro v w16 ⟨hnv, hbl⟩
 have hal17 := hS.alikeTo hbl (ro' := (roFrom (roFrom ro w2 w3) w7 w16)) (fun b hb => .inl hb)
 replace hsub : ∀ b, (roFrom (roFrom ro w2 w3) w7 w16) b → ro b ∨ w.heap.size ≤ b := fun b hb => hb.elim (hsub b) (fun h => .inr (Nat.le_trans hS.below.size h.1))
 replace hld := hld.keep hal17 (fun _ _ h => h.keep hal17)
 replace hx := SlV.keep hx hal17 (fun _ _ h => h.keep hal17)
 replace hk := SlV.keep hk hal17 (fun _ _ h => h)
 replace hdd := hdd.keep hal17 (fun _ _ h => h)
 replace hdv := SlV.keep hdv hal17 (fun _ _ h => h)
 replace hS := hS.readNew hbl
 obtain ⟨gl, hgl⟩ : ∃ gl, gl = (gnam (nms9 (items9 ms)) ms).1 := ⟨_, rfl⟩
 rw [← hgl] at hnv
 obtain ⟨ada, capa, rfl, hna, hnb, hnc, hnd⟩ := id hnv
 have hnm : gl.length ≤ 9223372036854775807 := by have h1 := hna; have h2 := hnb; unfold maxLen at h2; omega
 have hnl : (nms9 (items9 ms)).length ≤ 1048576 := Nat.le_trans (nms9_length _) hmx
 obtain ⟨gr1, gr2, gr3⟩ := gnam_rel (nms9 (items9 ms)) ms
 rw [← hgl] at gr1 gr3
 obtain ⟨gs, hgs⟩ : ∃ gs, gs = gl.map rG := ⟨_, rfl⟩
 rw [← hgs] at gr1
 have hgll : gl.length = ms.length := by rw [← List.length_map (f := rG), ← hgs, gr1]; exact nam10_length _ _
 refine WL.assign rfl rfl rfl (WL.nil (N.seq (W.seq (W.region ?_))))
 refine WL.build (ps := []) (cs := [.slice none 0 0, .slice none 0 0]) rfl rfl rfl (by kernel_rfl) ?_
 refine WL.alloc (tyZero_spec zer_32) rfl rfl hS ?_
 clear hS; intro w19 b18 hb_b18 hS
 refine WL.store (L' := [(b18, .cells #[.slice none 0 0, .slice none 0 0] 32 (0, 0)), (b1, .cells #[.slice none 0 0, .slice none 0 0] 32 (0, 0))]) 0 rfl rfl rfl rfl siz_32 rfl rfl rfl rfl rfl hS ?_
 clear hS; intro w20 hS
 refine WL.nil (N.seq (W.seq (W.region (WL.assign rfl rfl rfl (WL.nil (N.seq (W.seq (W.seq (W.region ?_)))))))))
 refine WL.assign rfl rfl rfl (WL.nil (N.seq (W.block ?_)))
 replace hS := hS.row0 9 1
 replace hS := hS.row0 38 4
 replace hS := hS.row0 35 4
 refine W.loop (α := Nat × Value × Value × Value × List Value × List Value × List Value × S10 × List ByteArray × (Nat → Prop) × World) (fun ⟨i, v1, v2, v3, x1, x2, x3, So, dn, R2, ws2⟩ => [(0, .slice adl ms.length capl), (1, .slice adk ks.length capk), (4, .pointer (some ⟨b1, 0, none⟩)), (6, .slice add ds.length capd), (10, .slice ada gl.length capa), (11, .pointer (some ⟨b18, 0, none⟩)), (12, v3), (13, .int .i64 (i : Int))]) (fun ⟨i, v1, v2, v3, x1, x2, x3, So, dn, R2, ws2⟩ u => St w ws2 u R2 [(b18, .cells #[v1, v2] 32 (0, 0)), (b1, .cells #[.slice none 0 0, .slice none 0 0] 32 (0, 0))] [⟨v1, 35, 4, So.fs.length, x1⟩, ⟨v2, 38, 4, So.gs.length, x2⟩, ⟨v3, 9, 1, dn.length, x3⟩] ∧ i ≤ ms.length ∧ So = out10 ds ks ((zip10 ms gs).take i) ∧ Chunks 4 (FuncC R2 ws2) x1 So.fs ∧ Chunks 4 GlobC x2 So.gs ∧ Chunks 1 StrC x3 dn ∧ (∀ s, (So.done s).getD false = decide (s ∈ dn)) ∧ So.fs.length + So.gs.length ≤ i * 32 ∧ dn.length ≤ i * 32 ∧ Alike (roFrom (roFrom ro w2 w3) w7 w16) w16 R2 ws2 ∧ (∀ b, R2 b → ro b ∨ w.heap.size ≤ b)) (fun ⟨i, v1, v2, v3, x1, x2, x3, So, dn, R2, ws2⟩ => ms.length - i) (0, (.slice none 0 0), (.slice none 0 0), (.slice none 0 0), [], [], [], ⟨[], [], fun _ => none⟩, [], (roFrom (roFrom ro w2 w3) w7 w16), w16) ⟨rfl, rfl, rfl, rfl, rfl, rfl, rfl, rfl, trivial⟩ ⟨hS, Nat.zero_le _, rfl, Chunks.nil, Chunks.nil, Chunks.nil, (fun s => by simp), Nat.zero_le _, Nat.zero_le _, Alike.refl, hsub⟩ ?_
 clear hS
 rintro ⟨i, v1, v2, v3, x1, x2, x3, So, dn, R2, ws2⟩ w21 ⟨hS, hi, hSo, hc1, hc2, hc3, hdn, hbs, hbd, halL1, hsub⟩
 replace hld := hld.keep halL1 (fun _ _ h => h.keep halL1)
 replace hx := SlV.keep hx halL1 (fun _ _ h => h.keep halL1)
 replace hk := SlV.keep hk halL1 (fun _ _ h => h)
 replace hdd := hdd.keep halL1 (fun _ _ h => h)
 replace hdv := SlV.keep hdv halL1 (fun _ _ h => h)
 replace hnd := hnd.keep halL1 (fun _ _ h => h.keep halL1)
 have hrow : w21.ownsRow w.heap.size 35 4 v1 (So.fs.length) _ := hS.rows _ List.mem_cons_self
 obtain ⟨adv1, capv1, rfl, hr1v1, hr2v1, hr3v1⟩ := row_shape hrow
 clear hrow
 have hrow : w21.ownsRow w.heap.size 38 4 v2 (So.gs.length) _ := hS.rows _ (List.mem_cons_of_mem _ List.mem_cons_self)
 obtain ⟨adv2, capv2, rfl, hr1v2, hr2v2, hr3v2⟩ := row_shape hrow
 clear hrow
 have hrow : w21.ownsRow w.heap.size 9 1 v3 (dn.length) _ := hS.rows _ (List.mem_of_getElem? (i := 2) rfl)
 obtain ⟨adv3, capv3, rfl, hr1v3, hr2v3, hr3v3⟩ := row_shape hrow
 clear hrow
 refine W.seq (W.seq (W.region (WL.move rfl rfl rfl (WL.move rfl rfl rfl (WL.lenSlice Tryd.underlying22 rfl rfl rfl (WL.bin rfl rfl rfl rfl rfl (WL.nil (N.seq ?_))))))))
 refine W.cond rfl (fun hc22 => ?_) (fun hc22 => ?_)
 ·
  have hc22p : (i : Int) < (ms.length : Int) := by simpa using hc22
  refine W.skip (N.seq (W.seq (W.block (W.seq (W.seq ?_)))))
  have hj23 : i < ms.length := by omega
  obtain ⟨x23, hx23⟩ : ∃ zz, ms[i]? = some zz := ⟨_, List.getElem?_eq_getElem hj23⟩
  obtain ⟨b23, o23, cs23, hE23, hr23, hl23, hc23, hQ23⟩ := hld i _ hx23
  obtain ⟨sf23, sg23, rfl, hfs23, hgs23⟩ := id hQ23
  obtain ⟨adf23, capf23, rfl, hfs23a, hfs23b, hfs23c, hfs23d⟩ := id hfs23
  have hfs23m : x23.funcs.length ≤ 9223372036854775807 := by have h1 := hfs23a; have h2 := hfs23b; unfold maxLen at h2; omega
  obtain ⟨adg23, capg23, rfl, hgs23a, hgs23b, hgs23c, hgs23d⟩ := id hgs23
  have hgs23m : x23.globs.length ≤ 9223372036854775807 := by have h1 := hgs23a; have h2 := hgs23b; unfold maxLen at h2; omega
  have hj24 : i < gl.length := by rw [hgll]; omega
  obtain ⟨x24, hx24⟩ : ∃ zz, gl[i]? = some zz := ⟨_, List.getElem?_eq_getElem hj24⟩
  obtain ⟨b24, o24, cs24, hE24, hr24, hl24, hc24, hQ24⟩ := hnd i _ hx24
  obtain ⟨so24, sn24, rfl, hso24, hsn24⟩ := id hQ24
  obtain ⟨ado24, capo24, rfl, hso24a, hso24b, hso24c, hso24d⟩ := id hso24
  have hso24m : x24.1.length ≤ 9223372036854775807 := by have h1 := hso24a; have h2 := hso24b; unfold maxLen at h2; omega
  obtain ⟨adw24, capw24, rfl, hsn24a, hsn24b, hsn24c, hsn24d⟩ := id hsn24
  have hsn24m : x24.2.length ≤ 9223372036854775807 := by have h1 := hsn24a; have h2 := hsn24b; unfold maxLen at h2; omega
  obtain ⟨G, hG⟩ : ∃ G, G = rG x24 := ⟨_, rfl⟩
  have hga : gs[i]? = some G := by rw [hgs, List.getElem?_map, hx24, hG]; rfl
  have hlen := gr3 _ (List.mem_of_getElem? hx24)
  have hG2 : G = (mod10 (nms9 (items9 ms)) (nam10 (nms9 (items9 ms)) (ms.take i)).2 (its10 x23)).1 := by have h := nam10_at (t := nms9 (items9 ms)) hx23; rw [← gr1, hga] at h; exact Option.some.inj h
  have hgsz : ∀ s v, rG x24 s = some v → v.size ≤ maxLen := fun s v h => by
   rw [← hG, hG2] at h; obtain ⟨_, k9, e9, _, h9, _⟩ := fold10_keys _ _ _ _ h; rw [e9]
   have hn1 := mod10_num hnl (nam10 (nms9 (items9 ms)) (ms.take i)).2 (its10 x23); have hn2 := nam10_num hnl (ms.take i) (fun m hm => hit m (List.mem_of_mem_take hm)); have hn3 := hit x23 (List.mem_of_getElem? hx23); rw [List.length_take] at hn2
   exact Nat.le_trans (dot10_le k9 (by omega)) (by decide)
  have hck := hrt x23 (List.mem_of_getElem? hx23)
  obtain ⟨hcf, hcg, hc5, _⟩ := check5_all hck
  have hit5 := hit x23 (List.mem_of_getElem? hx23)
  rw [its_len] at hit5
  refine W.region (WL.assign rfl rfl rfl (WL.nil (N.seq (W.block ?_))))
  refine W.loop (α := Nat × Value × Value × List Value × List Value × S10 × List ByteArray × (Nat → Prop) × World) (fun ⟨kf, v1a, v3a, x1a, x3a, Sa, da, R3, ws3⟩ => [(0, .slice adl ms.length capl), (1, .slice adk ks.length capk), (4, .pointer (some ⟨b1, 0, none⟩)), (6, .slice add ds.length capd), (10, .slice ada gl.length capa), (11, .pointer (some ⟨b18, 0, none⟩)), (12, v3a), (13, .int .i64 (i : Int)), (14, .int .i64 (kf : Int))]) (fun ⟨kf, v1a, v3a, x1a, x3a, Sa, da, R3, ws3⟩ u => St w ws3 u R3 [(b18, .cells #[v1a, .slice adv2 So.gs.length capv2] 32 (0, 0)), (b1, .cells #[.slice none 0 0, .slice none 0 0] 32 (0, 0))] [⟨v1a, 35, 4, Sa.fs.length, x1a⟩, ⟨.slice adv2 So.gs.length capv2, 38, 4, So.gs.length, x2⟩, ⟨v3a, 9, 1, da.length, x3a⟩] ∧ kf ≤ x23.funcs.length ∧ Sa = (x23.funcs.take kf).foldl (fun10 ds ks i G) So ∧ Chunks 4 (FuncC R3 ws3) x1a Sa.fs ∧ Chunks 1 StrC x3a da ∧ (∀ s, (Sa.done s).getD false = decide (s ∈ da)) ∧ Sa.fs.length ≤ So.fs.length + kf ∧ da.length ≤ dn.length + kf ∧ Alike R2 ws2 R3 ws3 ∧ (∀ b, R3 b → ro b ∨ w.heap.size ≤ b)) (fun ⟨kf, v1a, v3a, x1a, x3a, Sa, da, R3, ws3⟩ => x23.funcs.length - kf) (0, .slice adv1 So.fs.length capv1, .slice adv3 dn.length capv3, x1, x3, So, dn, R2, ws2) ⟨rfl, rfl, rfl, rfl, rfl, rfl, rfl, rfl, rfl, trivial⟩ ⟨hS, Nat.zero_le _, rfl, hc1, hc3, hdn, Nat.le_refl _, Nat.le_refl _, Alike.refl, hsub⟩ ?_
  clear hS
  rintro ⟨kf, v1a, v3a, x1a, x3a, Sa, da, R3, ws3⟩ w25 ⟨hS, hkf, hSa, hc1a, hc3a, hda, hba, hbda, halL2, hsub⟩
  replace halL1 := halL1.trans halL2
  replace hx := SlV.keep hx halL2 (fun _ _ h => h.keep halL2)
  replace hk := SlV.keep hk halL2 (fun _ _ h => h)
  replace hdd := hdd.keep halL2 (fun _ _ h => h)
  replace hdv := SlV.keep hdv halL2 (fun _ _ h => h)
  replace hc1 := hc1.mono fun _ _ h => h.keep halL2
  replace hfs23d := hfs23d.keep halL2 (fun _ _ h => h.keep halL2)
  replace hgs23d := hgs23d.keep halL2 (fun _ _ h => h)
  replace hQ24 := hQ24.keep halL2
  replace hc23 := hc23.keep (halL2 _ hr23).2
  replace hr23 := (halL2 _ hr23).1
  replace hc24 := hc24.keep (halL2 _ hr24).2
  replace hr24 := (halL2 _ hr24).1
  have hrow : w25.ownsRow w.heap.size 35 4 v1a (Sa.fs.length) _ := hS.rows _ List.mem_cons_self
  obtain ⟨adv1a, capv1a, rfl, hr1v1a, hr2v1a, hr3v1a⟩ := row_shape hrow
  clear hrow
  have hrow : w25.ownsRow w.heap.size 9 1 v3a (da.length) _ := hS.rows _ (List.mem_of_getElem? (i := 2) rfl)
  obtain ⟨adv3a, capv3a, rfl, hr1v3a, hr2v3a, hr3v3a⟩ := row_shape hrow
  clear hrow
  refine W.seq (W.seq (W.region (WL.move rfl rfl rfl (WL.move rfl rfl rfl (WL.move rfl rfl rfl (WL.indexAddrE (j := i) Tryd.underlying22 isz_32 rfl rfl rfl rfl hj23 hE23 (WL.fieldAddr fo_32_0 rfl rfl rfl (WL.load1 (v := .slice adf23 x23.funcs.length capf23) one_29 rfl rfl rfl (hS.roCells hr23 hc23 0 _ rfl) (WL.lenSlice Tryd.underlying29 rfl rfl rfl ?_)))))))))
  refine WL.bin rfl rfl rfl rfl rfl (WL.nil (N.seq ?_))
  refine W.cond rfl (fun hc26 => ?_) (fun hc26 => ?_)
  ·
   have hc26p : (kf : Int) < (x23.funcs.length : Int) := by simpa using hc26
   refine W.skip (N.seq (W.seq (W.block (W.seq ?_))))
   have hj27 : kf < x23.funcs.length := by omega
   obtain ⟨x27, hx27⟩ : ∃ zz, x23.funcs[kf]? = some zz := ⟨_, List.getElem?_eq_getElem hj27⟩
   obtain ⟨b27, o27, cs27, hE27, hr27, hl27, hc27, hQ27⟩ := hfs23d kf _ hx27
   obtain ⟨sb27, rfl, hbl27, hnm27, hbd27, hpr27⟩ := id hQ27
   obtain ⟨adb27, capb27, rfl, hbk27a, hbk27b, hbk27c, hbk27d⟩ := id hbl27
   have hbk27m : x27.blocks.length ≤ 9223372036854775807 := by have h1 := hbk27a; have h2 := hbk27b; unfold maxLen at h2; omega
   have hfm := List.mem_of_getElem? hx27
   have hf5 := hc5 _ hfm
   have hfa := func5_all hf5
   have hfb : x27.blocks.length ≤ 16 ∧ ∀ b ∈ x27.blocks, b.ins.length ≤ 32 := ⟨hfa.1, fun b hb => (block5_all (hfa.2 b hb)).2.2⟩
   refine W.region (WL.move rfl rfl rfl (WL.move rfl rfl rfl (WL.indexAddrE (j := i) Tryd.underlying22 isz_32 rfl rfl rfl rfl hj23 hE23 (WL.fieldAddr fo_32_0 rfl rfl rfl (WL.load1 (v := .slice adf23 x23.funcs.length capf23) one_29 rfl rfl rfl (hS.roCells hr23 hc23 0 _ rfl) (WL.move rfl rfl rfl (WL.indexAddrE (j := kf) Tryd.underlying29 isz_35 rfl rfl rfl rfl hj27 hE27 (WL.loadN (cs := [.string x27.name, .int .i64 x27.bind, .int .i64 x27.params, .slice adb27 x27.blocks.length capb27]) agg_35 rfl rfl rfl rfl (hS.roCells hr27 hc27) ?_))))))))
   refine WL.alloc (tyZero_spec zer_35) rfl rfl hS ?_
   clear hS; intro w29 b28 hb_b28 hS
   refine WL.store (L' := [(b28, .cells #[.string x27.name, .int .i64 x27.bind, .int .i64 x27.params, .slice adb27 x27.blocks.length capb27] 35 (0, 0)), (b18, .cells #[.slice adv1a Sa.fs.length capv1a, .slice adv2 So.gs.length capv2] 32 (0, 0)), (b1, .cells #[.slice none 0 0, .slice none 0 0] 32 (0, 0))]) 0 rfl rfl rfl rfl siz_35 rfl rfl rfl rfl rfl hS ?_
   clear hS; intro w30 hS
   refine WL.nil (N.seq ?_)
   refine W.cut (α := DFunc × Value × Value × List Value × List ByteArray × (ByteArray → Option Bool) × (Nat → Prop) × World) (fun ⟨F, vb, v3b, x3b, db, dB, R5, ws5⟩ => [(0, .slice adl ms.length capl), (1, .slice adk ks.length capk), (4, .pointer (some ⟨b1, 0, none⟩)), (6, .slice add ds.length capd), (10, .slice ada gl.length capa), (11, .pointer (some ⟨b18, 0, none⟩)), (12, v3b), (13, .int .i64 (i : Int)), (14, .int .i64 (kf : Int)), (15, .pointer (some ⟨b28, 0, none⟩))]) (fun ⟨F, vb, v3b, x3b, db, dB, R5, ws5⟩ u => St w ws5 u R5 [(b28, .cells #[.string F.name, .int .i64 F.bind, .int .i64 F.params, vb] 35 (0, 0)), (b18, .cells #[.slice adv1a Sa.fs.length capv1a, .slice adv2 So.gs.length capv2] 32 (0, 0)), (b1, .cells #[.slice none 0 0, .slice none 0 0] 32 (0, 0))] [⟨.slice adv1a Sa.fs.length capv1a, 35, 4, Sa.fs.length, x1a⟩, ⟨.slice adv2 So.gs.length capv2, 38, 4, So.gs.length, x2⟩, ⟨v3b, 9, 1, db.length, x3b⟩] ∧ fun10 ds ks i G Sa x27 = ⟨Sa.fs ++ [rename10 G F], Sa.gs, dB⟩ ∧ FuncC R5 ws5 [.string F.name, .int .i64 F.bind, .int .i64 F.params, vb] F ∧ (F.blocks.length ≤ 16 ∧ ∀ b ∈ F.blocks, b.ins.length ≤ 32) ∧ Chunks 1 StrC x3b db ∧ (∀ s, (dB s).getD false = decide (s ∈ db)) ∧ db.length ≤ da.length + 1 ∧ Alike R3 ws3 R5 ws5 ∧ (∀ b, R5 b → ro b ∨ w.heap.size ≤ b)) ?_ ?_
   ·
    have halC31 : Alike R3 ws3 R3 ws3 := Alike.refl
    refine W.seq (W.region (WL.fieldAddr fo_35_1 rfl rfl rfl (WL.load1 (v := .int .i64 x27.bind) one_3 rfl rfl rfl (hS.cell 0 rfl rfl) (WL.bin rfl rfl rfl rfl rfl (WL.nil (N.seq ?_))))))
    refine W.cond rfl (fun hc32 => ?_) (fun hc32 => ?_)
    ·
     have hc32p : ¬ (x27.bind = 1) := by simpa using hc32
     refine W.seq ?_
     have hnb : ¬ x27.bind = 1 := by simpa using hc32p
     have hkd := kindF he0 hx23 (List.mem_of_getElem? hx27) hnb
     obtain ⟨jd, dd, hj1, hj2, hj3⟩ := fnd_ix he0 hkd.1
     rw [← hds] at hj1 hj2 hj3
     have hj33 : jd < ds.length := (List.getElem?_eq_some_iff.1 hj2).1
     have hx33 := hj2
     obtain ⟨b33, o33, cs33, hE33, hr33, hl33, hc33, hQ33⟩ := hdd jd _ hj2
     obtain ⟨rfl, hdn33, hdm33⟩ := hQ33
     refine W.region (WL.move rfl rfl rfl (WL.move rfl rfl rfl (WL.fieldAddr fo_35_0 rfl rfl rfl (WL.load1 (v := .string x27.name) one_9 rfl rfl rfl (hS.cell 0 rfl rfl) ?_))))
     refine WL.callF (vs := [.slice add ds.length capd, .string x27.name]) Tryd.func33 (by kernel_rfl) rfl rfl rfl ((by have h := rfindd_ret ds x27.name _ (w := w30) (ro := R3) (fun b hb => (hS.snap b hb).1) (SlV.keep hdv hS.alike (fun _ _ q => q)); rw [hj1] at h; exact h)) ?_
     rintro v w34 ⟨rfl, hbl⟩
     replace hS := hS.grow hbl
     refine WL.indexAddrE (j := jd) Tryd.underlying62 isz_66 rfl rfl rfl rfl hj33 hE33 (WL.loadN (cs := [.string dd.name, .int .i64 dd.mod, .bool dd.fn, .bool dd.weak, .bool dd.here]) agg_66 rfl rfl rfl rfl (hS.roCells hr33 hc33) ?_)
     refine WL.alloc (tyZero_spec zer_66) rfl rfl hS ?_
     clear hS; intro w36 b35 hb_b35 hS
     refine WL.store (L' := [(b35, .cells #[.string dd.name, .int .i64 dd.mod, .bool dd.fn, .bool dd.weak, .bool dd.here] 66 (0, 0)), (b28, .cells #[.string x27.name, .int .i64 x27.bind, .int .i64 x27.params, .slice adb27 x27.blocks.length capb27] 35 (0, 0)), (b18, .cells #[.slice adv1a Sa.fs.length capv1a, .slice adv2 So.gs.length capv2] 32 (0, 0)), (b1, .cells #[.slice none 0 0, .slice none 0 0] 32 (0, 0))]) 0 rfl rfl rfl rfl siz_66 rfl rfl rfl rfl rfl hS ?_
     clear hS; intro w37 hS
     refine WL.nil (N.seq (W.seq (W.region (WL.move rfl rfl rfl (WL.fieldAddr fo_35_0 rfl rfl rfl (WL.load1 (v := .string x27.name) one_9 rfl rfl rfl (hS.cell 1 rfl rfl) ?_))))))
     refine WL.callF (vs := [.slice adv3a da.length capv3a, .string x27.name]) Tryd.func35 (by kernel_rfl) rfl rfl rfl (has8_ret da x27.name _ (ro := fun z => z < w37.heap.size) (fun _ h => h) (row_slv (hS.rows _ (List.mem_of_getElem? (i := 2) rfl)) hc3a rfl (fun b hb => (hS.keys b (by simp only [keysOf, List.mem_append, List.mem_filterMap]; exact .inr ⟨_, List.mem_of_getElem? (i := 2) rfl, hb⟩)).2.1))) ?_
     rintro v w38 ⟨rfl, hbl⟩
     replace hS := hS.grow hbl
     refine WL.assign rfl rfl rfl (WL.nil (N.seq (W.seq (W.seq (W.region (WL.fieldAddr fo_66_1 rfl rfl rfl (WL.load1 (v := .int .i64 dd.mod) one_3 rfl rfl rfl (hS.cell 0 rfl rfl) (WL.move rfl rfl rfl (WL.bin rfl rfl rfl rfl rfl ?_)))))))))
     refine WL.move rfl rfl rfl ?_
     rcases (Bool.eq_false_or_eq_true (!decide (dd.mod = (i : Int)))).symm with hg39 | hg39
     ·
      refine WL.set 98 (v' := .bool false) rfl (by rw [hg39]) ?_
      refine WL.set 99 (v' := .bool false) rfl (by rw [hg39]) ?_
      have hg39p : dd.mod = (i : Int) := by simpa using hg39
      refine WL.move rfl rfl rfl (WL.pick (v := .bool (decide (x27.name ∈ da))) rfl rfl rfl rfl rfl rfl (WL.move rfl rfl rfl ?_))
      rcases (Bool.eq_false_or_eq_true (decide (x27.name ∈ da))).symm with hg40 | hg40
      ·
       refine WL.set 17 (v' := .bool false) rfl (by rw [hg40]) ?_
       refine WL.set 94 (v' := .bool false) rfl (by rw [hg40]) ?_
       refine WL.set 100 (v' := .bool false) rfl (by rw [hg40]) ?_
       refine WL.set 101 (v' := .bool false) rfl (by rw [hg40]) ?_
       refine WL.set 102 (v' := .bool false) rfl (by rw [hg40]) ?_
       have hg40p : ¬ (x27.name ∈ da) := by simpa using hg40
       refine WL.fieldAddr fo_66_4 rfl rfl rfl (WL.load1 (v := .bool dd.here) one_4 rfl rfl rfl (hS.cell 0 rfl rfl) (WL.fieldAddr fo_35_3 rfl rfl rfl (WL.load1 (v := .slice adb27 x27.blocks.length capb27) one_33 rfl rfl rfl (hS.cell 1 rfl rfl) (WL.lenSlice Tryd.underlying33 rfl rfl rfl (WL.bin rfl rfl rfl rfl rfl ?_)))))
       refine WL.neBool Tryd.underlying4 rfl rfl rfl rfl ?_
       refine WL.pick (v := .bool (dd.here != (decide (0 < (x27.blocks.length : Int))))) rfl rfl rfl rfl rfl rfl (WL.nil (N.seq ?_))
       refine W.cond rfl (fun hc41 => ?_) (fun hc41 => ?_)
       ·
        refine W.exit (X.seq (X.cut ?_))
        have w1 : (dd.mod = (i : Int)) := by simpa using hg39p
        have w2 : ¬ (x27.name ∈ da) := by simpa using hg40p
        have w3 : (dd.here != (hereF x27)) = true := hc41
        have hww : ¬ wants10 ds Sa.done x27.name (i : Int) (hereF x27) = true := by unfold wants10; rw [hj3, hda]; simp only; simp [w1, w2, w3]
        have hfun : fun10 ds ks i G Sa x27 = Sa := by unfold fun10; rw [if_neg hnb, if_neg hww]
        refine X.blk (N.seq (W.region (WL.move rfl rfl rfl ?_)))
        refine WL.add (c := (kf : Int) + 1) rfl rfl rfl rfl (rfl) (by omega) ?_
        refine WL.assign rfl rfl rfl (WL.nil ?_)
        have hS := hS.dropN 2
        exact N.loop (kf + 1, .slice adv1a Sa.fs.length capv1a, .slice adv3a da.length capv3a, x1a, x3a, Sa, da, R3, ws3) ⟨rfl, rfl, rfl, rfl, rfl, rfl, rfl, rfl, rfl, trivial⟩ ⟨hS, by omega, by rw [foldl_next hx27, ← hSa]; exact hfun.symm, hc1a, hc3a, hda, by omega, by omega, halL2, hsub⟩ (by first | omega | (simp only; omega))
       refine W.skip (N.seq (W.seq ?_))
       have w1 : (dd.mod = (i : Int)) := by simpa using hg39p
       have w2 : ¬ (x27.name ∈ da) := by simpa using hg40p
       have w3 : (dd.here != (hereF x27)) = false := hc41
       have hww : wants10 ds Sa.done x27.name (i : Int) (hereF x27) = true := by unfold wants10; rw [hj3, hda]; simp only; simp [w1, w2, w3]
       refine W.region (WL.move rfl rfl rfl (WL.fieldAddr fo_35_0 rfl rfl rfl (WL.load1 (v := .string x27.name) one_9 rfl rfl rfl (hS.cell 1 rfl rfl) ?_)))
       refine WL.buildSlice (ps := [(0, .string x27.name)]) (cs := [.string x27.name]) Tryd.underlying25 (tyZero_spec zer_9) rfl rfl rfl rfl (by kernel_rfl) hS ?_
       clear hS; intro w43 b42 hb_b42 hS
       replace hS : St w ws3 w43 R3 [(b42, .cells #[.string x27.name] 9 (0, 0)), (b35, .cells #[.string dd.name, .int .i64 dd.mod, .bool dd.fn, .bool dd.weak, .bool dd.here] 66 (0, 0)), (b28, .cells #[.string x27.name, .int .i64 x27.bind, .int .i64 x27.params, .slice adb27 x27.blocks.length capb27] 35 (0, 0)), (b18, .cells #[.slice adv1a Sa.fs.length capv1a, .slice adv2 So.gs.length capv2] 32 (0, 0)), (b1, .cells #[.slice none 0 0, .slice none 0 0] 32 (0, 0))] [⟨.slice adv3a da.length capv3a, 9, 1, da.length, x3a⟩, ⟨.slice adv1a Sa.fs.length capv1a, 35, 4, Sa.fs.length, x1a⟩, ⟨.slice adv2 So.gs.length capv2, 38, 4, So.gs.length, x2⟩] := hS.permR (((List.Perm.cons _ (List.Perm.swap _ _ _))).trans ((List.Perm.swap _ _ _)))
       refine WL.append (r := ⟨.slice adv3a da.length capv3a, 9, 1, da.length, x3a⟩) (cs := [.string x27.name]) 16 Tryd.underlying25 (tyZero_spec zer_9) byt_9 rfl rfl rfl rfl rfl rfl rfl rfl rfl hS (by unfold maxLen; simp only; omega) (by simp only; omega) ?_
       clear hS; intro w44 v45 hn_v45 hS
       have hrow : w44.ownsRow w.heap.size 9 1 v45 (da.length + 1) _ := hS.rows _ List.mem_cons_self
       obtain ⟨av45, cv45, rfl, hc1_v45, hc2_v45, hc3_v45⟩ := row_shape hrow
       clear hrow
       have hc3n : Chunks 1 StrC (x3a ++ ([.string x27.name] : List Value)) (da ++ [x27.name]) := hc3a.snoc rfl ⟨rfl, hnm27⟩
       have hlq : da.length + 1 = (da ++ [x27.name]).length := by rw [List.length_append]; rfl
       rw [hlq] at hS
       refine WL.set 115 (v' := .slice av45 ((da ++ [x27.name]).length) cv45) rfl (by rw [hlq]) ?_
       refine WL.assign rfl rfl rfl (WL.nil (N.seq (W.seq (W.region (WL.move rfl rfl rfl (WL.fieldAddr fo_35_0 rfl rfl rfl (WL.load1 (v := .string x27.name) one_9 rfl rfl rfl (hS.cell 1 rfl rfl) ?_)))))))
       refine WL.callF (vs := [.slice adk ks.length capk, .string x27.name]) Tryd.func36 (by kernel_rfl) rfl rfl rfl (rbind_ret ks x27.name _ (ro := R3) (fun b hb => (hS.snap b hb).1) (SlV.keep hk hS.alike (fun _ _ q => q))) ?_
       rintro v w46 ⟨rfl, hbl⟩
       replace hS := hS.grow hbl
       refine WL.fieldAddr fo_35_1 rfl rfl rfl ?_
       refine WL.store (L' := [(b35, .cells #[.string dd.name, .int .i64 dd.mod, .bool dd.fn, .bool dd.weak, .bool dd.here] 66 (0, 0)), (b28, .cells #[.string x27.name, .int .i64 (bind10 ks x27.name), .int .i64 x27.params, .slice adb27 x27.blocks.length capb27] 35 (0, 0)), (b18, .cells #[.slice adv1a Sa.fs.length capv1a, .slice adv2 So.gs.length capv2] 32 (0, 0)), (b1, .cells #[.slice none 0 0, .slice none 0 0] 32 (0, 0))]) 1 rfl rfl rfl rfl siz_3 rfl rfl rfl rfl rfl hS ?_
       clear hS; intro w47 hS
       refine WL.nil (N.seq (W.seq (W.region (WL.fieldAddr fo_66_4 rfl rfl rfl (WL.load1 (v := .bool dd.here) one_4 rfl rfl rfl (hS.cell 0 rfl rfl) (WL.not rfl rfl rfl (WL.nil (N.seq ?_))))))))
       refine W.cond rfl (fun hc48 => ?_) (fun hc48 => ?_)
       ·
        refine W.region (WL.fieldAddr fo_35_2 rfl rfl rfl (WL.load1 (v := .int .i64 x27.params) one_3 rfl rfl rfl (hS.cell 1 rfl rfl) ?_))
        refine WL.build (ps := [(0, .int .i64 1)]) (cs := [.int .i64 1, .int .i64 0, .int .i64 0, .int .u64 0, .string ⟨#[]⟩, .slice none 0 0]) rfl rfl rfl (by kernel_rfl) ?_
        refine WL.buildSlice (ps := [(0, .agg #[.int .i64 1, .int .i64 0, .int .i64 0, .int .u64 0, .string ⟨#[]⟩, .slice none 0 0])]) (cs := [.int .i64 1, .int .i64 0, .int .i64 0, .int .u64 0, .string ⟨#[]⟩, .slice none 0 0]) Tryd.underlying87 (tyZero_spec zer_86) rfl rfl rfl rfl (by kernel_rfl) hS ?_
        clear hS; intro w50 b49 hb_b49 hS
        refine WL.fieldAddr fo_35_2 rfl rfl rfl (WL.load1 (v := .int .i64 x27.params) one_3 rfl rfl rfl (hS.cell 2 rfl rfl) ?_)
        refine WL.build (ps := [(0, .int .i64 3), (1, .int .i64 x27.params)]) (cs := [.int .i64 3, .int .i64 x27.params, .int .i64 0, .slice none 0 0, .int .i64 0, .slice none 0 0]) rfl rfl rfl (by kernel_rfl) ?_
        refine WL.build (ps := [(0, .int .i64 x27.params), (1, .slice (some ⟨b49, 0, none⟩) 1 1), (2, .agg #[.int .i64 3, .int .i64 x27.params, .int .i64 0, .slice none 0 0, .int .i64 0, .slice none 0 0])]) (cs := [.int .i64 x27.params, .slice (some ⟨b49, 0, none⟩) 1 1, .int .i64 3, .int .i64 x27.params, .int .i64 0, .slice none 0 0, .int .i64 0, .slice none 0 0]) rfl rfl rfl (by kernel_rfl) ?_
        refine WL.buildSlice (ps := [(0, .agg #[.int .i64 x27.params, .slice (some ⟨b49, 0, none⟩) 1 1, .int .i64 3, .int .i64 x27.params, .int .i64 0, .slice none 0 0, .int .i64 0, .slice none 0 0])]) (cs := [.int .i64 x27.params, .slice (some ⟨b49, 0, none⟩) 1 1, .int .i64 3, .int .i64 x27.params, .int .i64 0, .slice none 0 0, .int .i64 0, .slice none 0 0]) Tryd.underlying33 (tyZero_spec zer_91) rfl rfl rfl rfl (by kernel_rfl) hS ?_
        clear hS; intro w52 b51 hb_b51 hS
        refine WL.fieldAddr fo_35_3 rfl rfl rfl ?_
        refine WL.store (L' := [(b51, .cells #[.int .i64 x27.params, .slice (some ⟨b49, 0, none⟩) 1 1, .int .i64 3, .int .i64 x27.params, .int .i64 0, .slice none 0 0, .int .i64 0, .slice none 0 0] 91 (0, 0)), (b49, .cells #[.int .i64 1, .int .i64 0, .int .i64 0, .int .u64 0, .string ⟨#[]⟩, .slice none 0 0] 86 (0, 0)), (b35, .cells #[.string dd.name, .int .i64 dd.mod, .bool dd.fn, .bool dd.weak, .bool dd.here] 66 (0, 0)), (b28, .cells #[.string x27.name, .int .i64 (bind10 ks x27.name), .int .i64 x27.params, .slice (some ⟨b51, 0, none⟩) 1 1] 35 (0, 0)), (b18, .cells #[.slice adv1a Sa.fs.length capv1a, .slice adv2 So.gs.length capv2] 32 (0, 0)), (b1, .cells #[.slice none 0 0, .slice none 0 0] 32 (0, 0))]) 3 rfl rfl rfl rfl siz_33 rfl rfl rfl rfl rfl hS ?_
        clear hS; intro w53 hS
        refine WL.nil ?_
        have hbd1 : ¬ x27.bind = 1 := by simpa using hc32p
        replace hS : St w ws3 w53 R3 [(b49, .cells #[.int .i64 1, .int .i64 0, .int .i64 0, .int .u64 0, .string ⟨#[]⟩, .slice none 0 0] 86 (0, 0)), (b51, .cells #[.int .i64 x27.params, .slice (some ⟨b49, 0, none⟩) 1 1, .int .i64 3, .int .i64 x27.params, .int .i64 0, .slice none 0 0, .int .i64 0, .slice none 0 0] 91 (0, 0)), (b35, .cells #[.string dd.name, .int .i64 dd.mod, .bool dd.fn, .bool dd.weak, .bool dd.here] 66 (0, 0)), (b28, .cells #[.string x27.name, .int .i64 (bind10 ks x27.name), .int .i64 x27.params, .slice (some ⟨b51, 0, none⟩) 1 1] 35 (0, 0)), (b18, .cells #[.slice adv1a Sa.fs.length capv1a, .slice adv2 So.gs.length capv2] 32 (0, 0)), (b1, .cells #[.slice none 0 0, .slice none 0 0] 32 (0, 0))] [⟨.slice av45 ((da ++ [x27.name]).length) cv45, 9, 1, (da ++ [x27.name]).length, x3a ++ ([.string x27.name] : List Value)⟩, ⟨.slice adv1a Sa.fs.length capv1a, 35, 4, Sa.fs.length, x1a⟩, ⟨.slice adv2 So.gs.length capv2, 38, 4, So.gs.length, x2⟩] := hS.perm ((List.Perm.swap _ _ _))
        have hal54 := hS.giveAlike
        replace hsub : ∀ b, (fun x => R3 x ∨ x = b49) b → ro b ∨ w.heap.size ≤ b := fun b hb => hb.elim (hsub b) (fun h => .inr (by rw [h]; exact hS.giveLe))
        replace halL1 := halL1.trans hal54
        replace halL2 := halL2.trans hal54
        replace halC31 := halC31.trans hal54
        replace hx := SlV.keep hx hal54 (fun _ _ h => h.keep hal54)
        replace hk := SlV.keep hk hal54 (fun _ _ h => h)
        replace hdd := hdd.keep hal54 (fun _ _ h => h)
        replace hdv := SlV.keep hdv hal54 (fun _ _ h => h)
        replace hc1 := hc1.mono fun _ _ h => h.keep hal54
        replace hgs23d := hgs23d.keep hal54 (fun _ _ h => h)
        replace hQ24 := hQ24.keep hal54
        replace hc1a := hc1a.mono fun _ _ h => h.keep hal54
        replace hQ27 := hQ27.keep hal54
        replace hbl27 := SlV.keep hbl27 hal54 (fun _ _ h => h.keep hal54)
        replace hc23 := hc23.keep (hal54 _ hr23).2
        replace hr23 := (hal54 _ hr23).1
        replace hc24 := hc24.keep (hal54 _ hr24).2
        replace hr24 := (hal54 _ hr24).1
        have hown55 := hS.own _ List.mem_cons_self
        replace hS := hS.give
        have hI1 : SlV (fun x => R3 x ∨ x = b49) w53 6 (InstC (fun x => R3 x ∨ x = b49) w53) (.slice (some ⟨b49, 0, none⟩) 1 1) [⟨1, 0, 0, 0, ⟨#[]⟩, []⟩] := slv_blk hown55 rfl (chunk1' rfl ⟨_, rfl, slv_nil, by decide, by decide, by decide, by decide, by decide⟩) (.inr rfl) rfl (by decide)
        have hal56 := hS.giveAlike
        replace hsub : ∀ b, (fun x => (fun x => R3 x ∨ x = b49) x ∨ x = b51) b → ro b ∨ w.heap.size ≤ b := fun b hb => hb.elim (hsub b) (fun h => .inr (by rw [h]; exact hS.giveLe))
        replace halL1 := halL1.trans hal56
        replace halL2 := halL2.trans hal56
        replace halC31 := halC31.trans hal56
        replace hx := SlV.keep hx hal56 (fun _ _ h => h.keep hal56)
        replace hk := SlV.keep hk hal56 (fun _ _ h => h)
        replace hdd := hdd.keep hal56 (fun _ _ h => h)
        replace hdv := SlV.keep hdv hal56 (fun _ _ h => h)
        replace hc1 := hc1.mono fun _ _ h => h.keep hal56
        replace hgs23d := hgs23d.keep hal56 (fun _ _ h => h)
        replace hQ24 := hQ24.keep hal56
        replace hc1a := hc1a.mono fun _ _ h => h.keep hal56
        replace hQ27 := hQ27.keep hal56
        replace hbl27 := SlV.keep hbl27 hal56 (fun _ _ h => h.keep hal56)
        replace hI1 := SlV.keep hI1 hal56 (fun _ _ h => h.keep hal56)
        replace hc23 := hc23.keep (hal56 _ hr23).2
        replace hr23 := (hal56 _ hr23).1
        replace hc24 := hc24.keep (hal56 _ hr24).2
        replace hr24 := (hal56 _ hr24).1
        have hown57 := hS.own _ List.mem_cons_self
        replace hS := hS.give
        have hNB : SlV (fun x => (fun x => R3 x ∨ x = b49) x ∨ x = b51) w53 8 (BlockC (fun x => (fun x => R3 x ∨ x = b49) x ∨ x = b51) w53) (.slice (some ⟨b51, 0, none⟩) 1 1) (nothing10 x27.params) := slv_blk hown57 rfl (chunk1' rfl ⟨_, _, rfl, hI1, ⟨_, _, rfl, slv_nil, slv_nil, show inI 3 by decide, hpr27, show inI 0 by decide, show inI 0 by decide⟩, hpr27⟩) (.inr rfl) rfl (show 1 ≤ maxLen by decide)
        replace hS := hS.dropN 1
        replace hS : St w w53 w53 (fun x => (fun x => R3 x ∨ x = b49) x ∨ x = b51) [(b28, .cells #[.string x27.name, .int .i64 (bind10 ks x27.name), .int .i64 x27.params, .slice (some ⟨b51, 0, none⟩) 1 1] 35 (0, 0)), (b18, .cells #[.slice adv1a Sa.fs.length capv1a, .slice adv2 So.gs.length capv2] 32 (0, 0)), (b1, .cells #[.slice none 0 0, .slice none 0 0] 32 (0, 0))] [⟨.slice adv1a Sa.fs.length capv1a, 35, 4, Sa.fs.length, x1a⟩, ⟨.slice adv2 So.gs.length capv2, 38, 4, So.gs.length, x2⟩, ⟨.slice av45 ((da ++ [x27.name]).length) cv45, 9, 1, (da ++ [x27.name]).length, x3a ++ ([.string x27.name] : List Value)⟩] := hS.permR (((List.Perm.swap _ _ _)).trans ((List.Perm.cons _ (List.Perm.swap _ _ _))))
        have hln0 : x27.blocks.length = 0 := by have h3 : dd.here = hereF x27 := (by simpa using w3); have h4 : dd.here = false := (by simpa using hc48); rw [h4] at h3; unfold hereF at h3; have h5 := of_decide_eq_false h3.symm; omega
        have hDF : FuncC (fun x => (fun x => R3 x ∨ x = b49) x ∨ x = b51) w53 [.string x27.name, .int .i64 (bind10 ks x27.name), .int .i64 x27.params, .slice (some ⟨b51, 0, none⟩) 1 1] (defF ks x27) := by unfold defF; rw [if_pos hln0]; exact ⟨_, rfl, hNB, hnm27, bind10_in ks x27.name, hpr27⟩
        have hFb : (defF ks x27).blocks.length ≤ 16 ∧ ∀ b ∈ (defF ks x27).blocks, b.ins.length ≤ 32 := by unfold defF; simp only; rw [if_pos hln0]; exact ⟨(by decide : 1 ≤ 16), fun b hb => by simp only [nothing10, List.mem_singleton] at hb; rw [hb]; simp⟩
        exact N.cut ((defF ks x27), .slice (some ⟨b51, 0, none⟩) 1 1, .slice av45 ((da ++ [x27.name]).length) cv45, x3a ++ ([.string x27.name] : List Value), (da ++ [x27.name]), (updG Sa.done x27.name true), (fun x => (fun x => R3 x ∨ x = b49) x ∨ x = b51), w53) ⟨rfl, rfl, rfl, rfl, rfl, rfl, rfl, rfl, rfl, rfl, trivial⟩ ⟨hS, by unfold fun10; rw [if_neg hbd1, if_pos hww], hDF, hFb, hc3n, done_upd hda _, by rw [List.length_append, List.length_singleton]; omega, halC31, hsub⟩
       refine W.skip ?_
       have hbd1 : ¬ x27.bind = 1 := by simpa using hc32p
       replace hS : St w ws3 w47 R3 [(b35, .cells #[.string dd.name, .int .i64 dd.mod, .bool dd.fn, .bool dd.weak, .bool dd.here] 66 (0, 0)), (b28, .cells #[.string x27.name, .int .i64 (bind10 ks x27.name), .int .i64 x27.params, .slice adb27 x27.blocks.length capb27] 35 (0, 0)), (b18, .cells #[.slice adv1a Sa.fs.length capv1a, .slice adv2 So.gs.length capv2] 32 (0, 0)), (b1, .cells #[.slice none 0 0, .slice none 0 0] 32 (0, 0))] [⟨.slice adv1a Sa.fs.length capv1a, 35, 4, Sa.fs.length, x1a⟩, ⟨.slice adv2 So.gs.length capv2, 38, 4, So.gs.length, x2⟩, ⟨.slice av45 ((da ++ [x27.name]).length) cv45, 9, 1, (da ++ [x27.name]).length, x3a ++ ([.string x27.name] : List Value)⟩] := hS.permR (((List.Perm.swap _ _ _)).trans ((List.Perm.cons _ (List.Perm.swap _ _ _))))
       have hln0 : ¬ x27.blocks.length = 0 := by have h3 : dd.here = hereF x27 := (by simpa using w3); have h4 : dd.here = true := (by simpa using hc48); rw [h4] at h3; unfold hereF at h3; have h5 := of_decide_eq_true h3.symm; omega
       have hDF : FuncC R3 ws3 [.string x27.name, .int .i64 (bind10 ks x27.name), .int .i64 x27.params, .slice adb27 x27.blocks.length capb27] (defF ks x27) := by unfold defF; rw [if_neg hln0]; exact ⟨_, rfl, hbl27, hnm27, bind10_in ks x27.name, hpr27⟩
       have hFb : (defF ks x27).blocks.length ≤ 16 ∧ ∀ b ∈ (defF ks x27).blocks, b.ins.length ≤ 32 := by unfold defF; simp only; rw [if_neg hln0]; exact hfb
       have hS := hS.dropN 1
       exact N.cut ((defF ks x27), .slice adb27 x27.blocks.length capb27, .slice av45 ((da ++ [x27.name]).length) cv45, x3a ++ ([.string x27.name] : List Value), (da ++ [x27.name]), (updG Sa.done x27.name true), R3, ws3) ⟨rfl, rfl, rfl, rfl, rfl, rfl, rfl, rfl, rfl, rfl, trivial⟩ ⟨hS, by unfold fun10; rw [if_neg hbd1, if_pos hww], hDF, hFb, hc3n, done_upd hda _, by rw [List.length_append, List.length_singleton]; omega, halC31, hsub⟩
      refine WL.set 17 (v' := .bool true) rfl (by rw [hg40]) ?_
      refine WL.set 94 (v' := .bool true) rfl (by rw [hg40]) ?_
      refine WL.set 100 (v' := .bool true) rfl (by rw [hg40]) ?_
      refine WL.set 101 (v' := .bool true) rfl (by rw [hg40]) ?_
      refine WL.set 102 (v' := .bool true) rfl (by rw [hg40]) ?_
      have hg40p : x27.name ∈ da := by simpa using hg40
      refine WL.skp rfl rfl (WL.skp rfl rfl (WL.skp rfl rfl (WL.skp rfl rfl (WL.skp rfl rfl (WL.skp rfl rfl (WL.skp rfl rfl (WL.pick (v := .bool true) rfl rfl rfl rfl rfl rfl (WL.nil (N.seq ?_)))))))))
      refine W.condT rfl (W.exit (X.seq (X.cut ?_)))
      have w1 : (dd.mod = (i : Int)) := by simpa using hg39p
      have w2 : (x27.name ∈ da) := by simpa using hg40p
      have hww : ¬ wants10 ds Sa.done x27.name (i : Int) (hereF x27) = true := by unfold wants10; rw [hj3, hda]; simp only; simp [w1, w2]
      have hfun : fun10 ds ks i G Sa x27 = Sa := by unfold fun10; rw [if_neg hnb, if_neg hww]
      refine X.blk (N.seq (W.region (WL.move rfl rfl rfl ?_)))
      refine WL.add (c := (kf : Int) + 1) rfl rfl rfl rfl (rfl) (by omega) ?_
      refine WL.assign rfl rfl rfl (WL.nil ?_)
      have hS := hS.dropN 2
      exact N.loop (kf + 1, .slice adv1a Sa.fs.length capv1a, .slice adv3a da.length capv3a, x1a, x3a, Sa, da, R3, ws3) ⟨rfl, rfl, rfl, rfl, rfl, rfl, rfl, rfl, rfl, trivial⟩ ⟨hS, by omega, by rw [foldl_next hx27, ← hSa]; exact hfun.symm, hc1a, hc3a, hda, by omega, by omega, halL2, hsub⟩ (by first | omega | (simp only; omega))
     refine WL.set 98 (v' := .bool true) rfl (by rw [hg39]) ?_
     refine WL.set 99 (v' := .bool true) rfl (by rw [hg39]) ?_
     have hg39p : ¬ (dd.mod = (i : Int)) := by simpa using hg39
     refine WL.skp rfl rfl (WL.pick (v := .bool true) rfl rfl rfl rfl rfl rfl (WL.move rfl rfl rfl (WL.skp rfl rfl (WL.skp rfl rfl (WL.skp rfl rfl (WL.skp rfl rfl (WL.skp rfl rfl (WL.skp rfl rfl (WL.skp rfl rfl ?_)))))))))
     refine WL.pick (v := .bool true) rfl rfl rfl rfl rfl rfl (WL.nil (N.seq (W.condT rfl (W.exit (X.seq (X.cut ?_))))))
     have w1 : ¬ (dd.mod = (i : Int)) := by simpa using hg39p
     have hww : ¬ wants10 ds Sa.done x27.name (i : Int) (hereF x27) = true := by unfold wants10; rw [hj3, hda]; simp only; simp [w1]
     have hfun : fun10 ds ks i G Sa x27 = Sa := by unfold fun10; rw [if_neg hnb, if_neg hww]
     refine X.blk (N.seq (W.region (WL.move rfl rfl rfl ?_)))
     refine WL.add (c := (kf : Int) + 1) rfl rfl rfl rfl (rfl) (by omega) ?_
     refine WL.assign rfl rfl rfl (WL.nil ?_)
     have hS := hS.dropN 2
     exact N.loop (kf + 1, .slice adv1a Sa.fs.length capv1a, .slice adv3a da.length capv3a, x1a, x3a, Sa, da, R3, ws3) ⟨rfl, rfl, rfl, rfl, rfl, rfl, rfl, rfl, rfl, trivial⟩ ⟨hS, by omega, by rw [foldl_next hx27, ← hSa]; exact hfun.symm, hc1a, hc3a, hda, by omega, by omega, halL2, hsub⟩ (by first | omega | (simp only; omega))
    have hc32p : x27.bind = 1 := by simpa using hc32
    refine W.skip ?_
    have hbd1 : x27.bind = 1 := by simpa using hc32p
    exact N.cut (x27, .slice adb27 x27.blocks.length capb27, .slice adv3a da.length capv3a, x3a, da, Sa.done, R3, ws3) ⟨rfl, rfl, rfl, rfl, rfl, rfl, rfl, rfl, rfl, rfl, trivial⟩ ⟨hS, by unfold fun10; rw [if_pos hbd1], hQ27, hfb, hc3a, hda, by omega, halC31, hsub⟩
   clear hS
   rintro ⟨F, vb, v3b, x3b, db, dB, R5, ws5⟩ w58 ⟨hS, hfun, hF, hFb, hc3b, hdb, hbdb, halC31, hsub⟩
   replace halL1 := halL1.trans halC31
   replace halL2 := halL2.trans halC31
   replace hx := SlV.keep hx halC31 (fun _ _ h => h.keep halC31)
   replace hk := SlV.keep hk halC31 (fun _ _ h => h)
   replace hdd := hdd.keep halC31 (fun _ _ h => h)
   replace hdv := SlV.keep hdv halC31 (fun _ _ h => h)
   replace hc1 := hc1.mono fun _ _ h => h.keep halC31
   replace hgs23d := hgs23d.keep halC31 (fun _ _ h => h)
   replace hQ24 := hQ24.keep halC31
   replace hc1a := hc1a.mono fun _ _ h => h.keep halC31
   replace hc23 := hc23.keep (halC31 _ hr23).2
   replace hr23 := (halC31 _ hr23).1
   replace hc24 := hc24.keep (halC31 _ hr24).2
   replace hr24 := (halC31 _ hr24).1
   have hrow : w58.ownsRow w.heap.size 9 1 v3b (db.length) _ := hS.rows _ (List.mem_of_getElem? (i := 2) rfl)
   obtain ⟨adv3b, capv3b, rfl, hr1v3b, hr2v3b, hr3v3b⟩ := row_shape hrow
   clear hrow
   obtain ⟨sbF, e9, hblF, hnmF, hbdF, hprF⟩ := id hF
   cases e9
   obtain ⟨adbF, capbF, rfl, hbFa, hbFb, hbFc, hbFd⟩ := id hblF
   have hbFm : F.blocks.length ≤ 9223372036854775807 := by have h1 := hbFa; have h2 := hbFb; unfold maxLen at h2; omega
   refine W.drawA0 (S := fun u => True) (by kernel_rfl) (fun w59 hbd => ?_)
   replace hS := hS.grow hbd
   refine WA.conv (fuel' := 9 + 3) (listed' := #[false, false, false, false, false, false, false, false, false, false, false, false]) (by kernel_rfl) (by kernel_rfl) (WA.phaseI [(0, (fun v _ => v = .pointer (some ⟨b18, 0, none⟩))), (1, (fun v _ => v = .slice adv1a Sa.fs.length capv1a)), (2, (fun v _ => v = .agg #[.string F.name, .int .i64 F.bind, .int .i64 F.params, .slice adbF F.blocks.length capbF])), (3, (fun v _ => v = .slice ada gl.length capa)), (4, (fun v _ => v = .int .i64 (i : Int))), (5, (fun v _ => v = .pointer (some ⟨b24, o24 + i * 2, none⟩))), (6, (fun v _ => v = .agg #[.slice ado24 x24.1.length capo24, .slice adw24 x24.2.length capw24])), (7, (fun v u => ∃ cs, v = .agg cs.toArray ∧ FuncC (fun b => (R5 b ∨ w59.heap.size ≤ b) ∧ b < u.heap.size) u cs (rename10 (rG x24) F))), (8, (fun v u => ∃ b cs, v = .slice (some ⟨b, 0, none⟩) 1 1 ∧ u.heap[b]? = some (.cells cs.toArray 35 (0, 0)) ∧ FuncC (fun b => (R5 b ∨ w59.heap.size ≤ b) ∧ b < u.heap.size) u cs (rename10 (rG x24) F)))] (by kernel_rfl) [(0, .slice adl ms.length capl), (1, .slice adk ks.length capk), (4, .pointer (some ⟨b1, 0, none⟩)), (6, .slice add ds.length capd), (10, .slice ada gl.length capa), (11, .pointer (some ⟨b18, 0, none⟩)), (12, .slice adv3b db.length capv3b), (13, .int .i64 (i : Int)), (14, .int .i64 (kf : Int)), (15, .pointer (some ⟨b28, 0, none⟩))] ⟨rfl, rfl, rfl, rfl, rfl, rfl, rfl, rfl, rfl, rfl, trivial⟩ (by kernel_rfl) ⟨stays_eq, stays_eq, stays_eq, stays_eq, stays_eq, stays_eq, stays_eq, stays_func (R := R5) (B := w59.heap.size), stays_lit (R := R5) (B := w59.heap.size), trivial⟩ ?_ (fun _ _ => trivial) ?_)
   ·
    refine ⟨fun β wd hb hD => ⟨_, rfl, ?_⟩, ?_⟩
    ·
     refine WL.sub (σ' := [(11, .pointer (some ⟨b18, 0, none⟩))]) ⟨rfl, trivial⟩ ?_
     have hS := hS.grow hb
     refine WL.fieldAddr fo_32_0 rfl rfl rfl ?_
     exact WL.nil (N.cut (.pointer (some ⟨b18, 0, none⟩)) ⟨rfl, trivial⟩ ⟨(Below.refl _ _), rfl⟩)
    refine ⟨fun β wd hb hD => ⟨_, rfl, ?_⟩, ?_⟩
    ·
     obtain ⟨hp0, _⟩ := hD
     replace hp0 : β 0 = .pointer (some ⟨b18, 0, none⟩) := hp0
     refine WL.sub (σ' := [(134, .pointer (some ⟨b18, 0, none⟩))]) ⟨congrArg some hp0, trivial⟩ ?_
     have hS := hS.grow hb
     refine WL.load1 (v := .slice adv1a Sa.fs.length capv1a) one_29 rfl rfl rfl (hS.cell 1 rfl rfl) ?_
     exact WL.nil (N.cut (.slice adv1a Sa.fs.length capv1a) ⟨rfl, trivial⟩ ⟨(Below.refl _ _), rfl⟩)
    refine ⟨fun β wd hb hD => ⟨_, rfl, ?_⟩, ?_⟩
    ·
     refine WL.sub (σ' := [(15, .pointer (some ⟨b28, 0, none⟩))]) ⟨rfl, trivial⟩ ?_
     have hS := hS.grow hb
     refine WL.loadN (cs := [.string F.name, .int .i64 F.bind, .int .i64 F.params, .slice adbF F.blocks.length capbF]) agg_35 rfl rfl rfl rfl (hS.cells 0 (m := 4) rfl rfl) ?_
     exact WL.nil (N.cut (.agg #[.string F.name, .int .i64 F.bind, .int .i64 F.params, .slice adbF F.blocks.length capbF]) ⟨rfl, trivial⟩ ⟨(Below.refl _ _), rfl⟩)
    refine ⟨fun β wd hb hD => ⟨_, rfl, ?_⟩, ?_⟩
    ·
     refine WL.sub (σ' := [(10, .slice ada gl.length capa)]) ⟨rfl, trivial⟩ ?_
     have hS := hS.grow hb
     refine WL.move rfl rfl rfl ?_
     exact WL.nil (N.cut (.slice ada gl.length capa) ⟨rfl, trivial⟩ ⟨(Below.refl _ _), rfl⟩)
    refine ⟨fun β wd hb hD => ⟨_, rfl, ?_⟩, ?_⟩
    ·
     refine WL.sub (σ' := [(13, .int .i64 (i : Int))]) ⟨rfl, trivial⟩ ?_
     have hS := hS.grow hb
     refine WL.move rfl rfl rfl ?_
     exact WL.nil (N.cut (.int .i64 (i : Int)) ⟨rfl, trivial⟩ ⟨(Below.refl _ _), rfl⟩)
    refine ⟨fun β wd hb hD => ⟨_, rfl, ?_⟩, ?_⟩
    ·
     obtain ⟨hp3, hp4, _⟩ := hD
     replace hp3 : β 3 = .slice ada gl.length capa := hp3
     replace hp4 : β 4 = .int .i64 (i : Int) := hp4
     refine WL.sub (σ' := [(137, .slice ada gl.length capa), (138, .int .i64 (i : Int))]) ⟨congrArg some hp3, congrArg some hp4, trivial⟩ ?_
     have hS := hS.grow hb
     refine WL.indexAddrE (j := i) Tryd.underlying80 isz_94 rfl rfl rfl rfl hj24 hE24 ?_
     exact WL.nil (N.cut (.pointer (some ⟨b24, o24 + i * 2, none⟩)) ⟨rfl, trivial⟩ ⟨(Below.refl _ _), rfl⟩)
    refine ⟨fun β wd hb hD => ⟨_, rfl, ?_⟩, ?_⟩
    ·
     obtain ⟨hp5, _⟩ := hD
     replace hp5 : β 5 = .pointer (some ⟨b24, o24 + i * 2, none⟩) := hp5
     refine WL.sub (σ' := [(139, .pointer (some ⟨b24, o24 + i * 2, none⟩))]) ⟨congrArg some hp5, trivial⟩ ?_
     have hS := hS.grow hb
     refine WL.loadN (cs := [.slice ado24 x24.1.length capo24, .slice adw24 x24.2.length capw24]) agg_94 rfl rfl rfl rfl (hS.roCells hr24 hc24) ?_
     exact WL.nil (N.cut (.agg #[.slice ado24 x24.1.length capo24, .slice adw24 x24.2.length capw24]) ⟨rfl, trivial⟩ ⟨(Below.refl _ _), rfl⟩)
    refine ⟨fun β wd hb hD => ⟨_, rfl, ?_⟩, ?_⟩
    ·
     obtain ⟨hp2, hp6, _⟩ := hD
     replace hp2 : β 2 = .agg #[.string F.name, .int .i64 F.bind, .int .i64 F.params, .slice adbF F.blocks.length capbF] := hp2
     replace hp6 : β 6 = .agg #[.slice ado24 x24.1.length capo24, .slice adw24 x24.2.length capw24] := hp6
     refine WL.sub (σ' := [(136, .agg #[.string F.name, .int .i64 F.bind, .int .i64 F.params, .slice adbF F.blocks.length capbF]), (140, .agg #[.slice ado24 x24.1.length capo24, .slice adw24 x24.2.length capw24])]) ⟨congrArg some hp2, congrArg some hp6, trivial⟩ ?_
     have hS := hS.grow hb
     refine WL.callF (vs := [.agg #[.string F.name, .int .i64 F.bind, .int .i64 F.params, .slice adbF F.blocks.length capbF], .agg #[.slice ado24 x24.1.length capo24, .slice adw24 x24.2.length capw24]]) Tryd.func37 (by kernel_rfl) rfl rfl rfl (rrename_ret F x24 _ _ (ro := R5) (fun b hb => (hS.snap b hb).1) (hF.keep hS.alike) (hQ24.keep hS.alike) hlen hgsz hFb.1 hFb.2) ?_
     rintro v w60 ⟨csq, rfl, hFn, hbl⟩
     replace hS := hS.grow hbl
     exact WL.nil (N.cut (.agg csq.toArray) ⟨rfl, trivial⟩ ⟨hbl, ⟨csq, rfl, hFn.keep (fun b hb2 => ⟨⟨hb2.elim .inl (fun h => .inr (Nat.le_trans hb.size h.1)), hb2.elim (fun h => by first | exact (hS.snap b h).1 | exact Nat.lt_of_lt_of_le (hS.snap b h).1 hbl.size) (·.2)⟩, rfl⟩)⟩⟩)
    refine ⟨fun β wd hb hD => ⟨_, rfl, ?_⟩, ?_⟩
    ·
     obtain ⟨hp7, _⟩ := hD
     replace hp7 : (fun v u => ∃ cs, v = .agg cs.toArray ∧ FuncC (fun b => (R5 b ∨ w59.heap.size ≤ b) ∧ b < u.heap.size) u cs (rename10 (rG x24) F)) (β 7) wd := hp7
     refine WL.sub (σ' := [(141, (β 7))]) ⟨rfl, trivial⟩ ?_
     have hS := hS.grow hb
     generalize β 7 = z7 at hp7 ⊢
     obtain ⟨cz8, rfl, hz8⟩ := hp7
     obtain ⟨sbz, rfl, hblz, hnmz, hbdz, hprz⟩ := id hz8
     obtain ⟨adbz, capbz, rfl, hbkza, hbkzb, hbkzc, hbkzd⟩ := id hblz
     have hbkzm : ((rename10 (rG x24) F).blocks).length ≤ 9223372036854775807 := by have h1 := hbkza; have h2 := hbkzb; unfold maxLen at h2; omega
     have hX := St.start (w := wd) (ro := fun z => z < wd.heap.size) (fun _ h => h)
     refine WL.buildSlice (ps := [(0, .agg #[.string ((rename10 (rG x24) F).name), .int .i64 ((rename10 (rG x24) F).bind), .int .i64 ((rename10 (rG x24) F).params), .slice adbz (((rename10 (rG x24) F).blocks).length) capbz])]) (cs := [.string ((rename10 (rG x24) F).name), .int .i64 ((rename10 (rG x24) F).bind), .int .i64 ((rename10 (rG x24) F).params), .slice adbz (((rename10 (rG x24) F).blocks).length) capbz]) Tryd.underlying29 (tyZero_spec zer_35) rfl rfl rfl rfl (by kernel_rfl) hX ?_
     clear hX; intro w62 b61 hb_b61 hX
     exact WL.nil (N.cut (.slice (some ⟨b61, 0, none⟩) 1 1) ⟨rfl, trivial⟩ ⟨hX.below, ⟨_, _, rfl, hX.own _ List.mem_cons_self, FuncC.keep (cs := [.string _, .int .i64 _, .int .i64 _, .slice _ _ _]) ⟨_, rfl, hblz, hnmz, hbdz, hprz⟩ (fun b hr => ⟨⟨hr.1, Nat.lt_of_lt_of_le hr.2 hX.below.size⟩, hX.below.block b hr.2⟩)⟩⟩)
    trivial
   intro β w63 hb hD
   obtain ⟨hp0, hp1, hp2, hp3, hp4, hp5, hp6, hp7, hp8, _⟩ := hD
   refine WA.sub (σ' := [(0, .slice adl ms.length capl), (1, .slice adk ks.length capk), (4, .pointer (some ⟨b1, 0, none⟩)), (6, .slice add ds.length capd), (10, .slice ada gl.length capa), (11, .pointer (some ⟨b18, 0, none⟩)), (12, .slice adv3b db.length capv3b), (13, .int .i64 (i : Int)), (14, .int .i64 (kf : Int)), (135, .slice adv1a Sa.fs.length capv1a), (142, (β 8))]) ⟨rfl, rfl, rfl, rfl, rfl, rfl, rfl, rfl, rfl, congrArg some (show β 1 = .slice adv1a Sa.fs.length capv1a from hp1), rfl, trivial⟩ ?_
   have hSd := hS
   replace hS := hS.grow hb
   replace hp7 : (fun v u => ∃ cs, v = .agg cs.toArray ∧ FuncC (fun b => (R5 b ∨ w59.heap.size ≤ b) ∧ b < u.heap.size) u cs (rename10 (rG x24) F)) (β 7) w63 := hp7
   generalize β 7 = z7 at hp7 ⊢
   have hal64 := hSd.alikeTo hb (ro' := (roFrom R5 w59 w63)) (fun b hb => .inl hb)
   replace hsub : ∀ b, (roFrom R5 w59 w63) b → ro b ∨ w.heap.size ≤ b := fun b hb => hb.elim (hsub b) (fun h => .inr (Nat.le_trans hSd.below.size h.1))
   replace halL1 := halL1.trans hal64
   replace halL2 := halL2.trans hal64
   replace hx := SlV.keep hx hal64 (fun _ _ h => h.keep hal64)
   replace hk := SlV.keep hk hal64 (fun _ _ h => h)
   replace hdd := hdd.keep hal64 (fun _ _ h => h)
   replace hdv := SlV.keep hdv hal64 (fun _ _ h => h)
   replace hc1 := hc1.mono fun _ _ h => h.keep hal64
   replace hgs23d := hgs23d.keep hal64 (fun _ _ h => h)
   replace hQ24 := hQ24.keep hal64
   replace hc1a := hc1a.mono fun _ _ h => h.keep hal64
   replace hc23 := hc23.keep (hal64 _ hr23).2
   replace hr23 := (hal64 _ hr23).1
   replace hc24 := hc24.keep (hal64 _ hr24).2
   replace hr24 := (hal64 _ hr24).1
   replace hS := hSd.readNew hb
   replace hp8 : (fun v u => ∃ b cs, v = .slice (some ⟨b, 0, none⟩) 1 1 ∧ u.heap[b]? = some (.cells cs.toArray 35 (0, 0)) ∧ FuncC (fun b => (R5 b ∨ w59.heap.size ≤ b) ∧ b < u.heap.size) u cs (rename10 (rG x24) F)) (β 8) w63 := hp8
   generalize β 8 = z8 at hp8 ⊢
   obtain ⟨bq, csq9, rfl, hbq, hFq⟩ := hp8
   replace hFq : FuncC (roFrom R5 w59 w63) w63 csq9 (rename10 (rG x24) F) := hFq.keep (fun b hb2 => ⟨hb2.1.elim .inl (fun h => .inr ⟨h, hb2.2⟩), rfl⟩)
   refine WA.conv (fuel' := 2 + 1) (listed' := #[true, true, true, true, true, true, true, true, true, false, false, false]) (by kernel_rfl) (by kernel_rfl) (WA.stepS 9 (by kernel_rfl) rfl ?_)
   have hlq : csq9.length = 1 * 4 := by obtain ⟨_, e, _⟩ := hFq; rw [e]; rfl
   have hcq := cellsAt_block hbq
   refine WL.appendRo (r := ⟨.slice adv1a Sa.fs.length capv1a, 35, 4, Sa.fs.length, x1a⟩) (news := csq9) 56 Tryd.underlying29 (tyZero_spec zer_35) byt_35 rfl rfl rfl rfl rfl hlq (fun e => by cases e) (fun b off e => by cases e; exact hcq) (fun a e _ => by cases e; rfl) (one_func hFq) rfl rfl hS (by simp only; unfold maxLen; omega) (by simp only; omega) ?_
   clear hS; intro w65 v66 hS _
   have hnx : Sa.fs.length + 1 = (Sa.fs ++ [rename10 G F]).length := by rw [List.length_append]; rfl
   rw [hnx] at hS
   have hrow : w65.ownsRow w.heap.size 35 4 v66 (Sa.fs ++ [rename10 G F]).length _ := hS.rows _ List.mem_cons_self
   obtain ⟨adw, capw, rfl, _, _, _⟩ := row_shape hrow
   clear hrow
   have hc1n : Chunks 4 (FuncC (roFrom R5 w59 w63) w63) (x1a ++ csq9) (Sa.fs ++ [rename10 G F]) := hc1a.snoc (by obtain ⟨_, e, _⟩ := hFq; rw [e]; rfl) (by rw [hG]; exact hFq)
   refine WL.nil (N.restS trivial ?_)
   refine WA.conv (fuel' := 1 + 1) (listed' := #[true, true, true, true, true, true, true, true, true, true, false, false]) (by kernel_rfl) (by kernel_rfl) (WA.stepS 10 (by kernel_rfl) rfl ?_)
   refine WL.fieldAddr fo_32_0 rfl rfl rfl ?_
   refine WL.nil (N.restS trivial ?_)
   refine WA.conv (fuel' := 0 + 1) (listed' := #[true, true, true, true, true, true, true, true, true, true, true, false]) (by kernel_rfl) (by kernel_rfl) (WA.stepS 11 (by kernel_rfl) rfl ?_)
   refine WL.store (L' := [(b28, .cells #[.string F.name, .int .i64 F.bind, .int .i64 F.params, .slice adbF F.blocks.length capbF] 35 (0, 0)), (b18, .cells #[.slice adw ((Sa.fs ++ [rename10 G F]).length) capw, .slice adv2 So.gs.length capv2] 32 (0, 0)), (b1, .cells #[.slice none 0 0, .slice none 0 0] 32 (0, 0))]) 1 rfl rfl rfl rfl siz_29 rfl rfl rfl rfl rfl hS ?_
   clear hS; intro w67 hS
   refine WL.nil (N.restS trivial ?_)
   refine WA.doneN (by kernel_rfl) ?_
   refine N.blk (N.seq (W.region (WL.move rfl rfl rfl ?_)))
   refine WL.add (c := (kf : Int) + 1) rfl rfl rfl rfl (rfl) (by omega) ?_
   refine WL.assign rfl rfl rfl (WL.nil ?_)
   have hS := hS.dropN 1
   exact N.loop (kf + 1, .slice adw ((Sa.fs ++ [rename10 G F]).length) capw, .slice adv3b db.length capv3b, x1a ++ csq9, x3b, ⟨Sa.fs ++ [rename10 G F], Sa.gs, dB⟩, db, (roFrom R5 w59 w63), w63) ⟨rfl, rfl, rfl, rfl, rfl, rfl, rfl, rfl, rfl, trivial⟩ ⟨hS, by omega, by rw [foldl_next hx27, ← hSa]; exact hfun.symm, hc1n, hc3b, hdb, by show (Sa.fs ++ [_]).length ≤ _; rw [List.length_append, List.length_singleton]; omega, by omega, halL2, hsub⟩ (by first | omega | (simp only; omega))
  have hc26p : ¬ ((kf : Int) < (x23.funcs.length : Int)) := by simpa using hc26
  refine W.exit (X.seq (X.loop (X.blk (N.seq (W.seq (W.region (WL.assign rfl rfl rfl (WL.nil (N.seq ?_)))))))))
  refine W.block ?_
  have hkx : kf = x23.funcs.length := by omega
  rw [hkx, List.take_length] at hSa
  have hgsx : Sa.gs = So.gs := by rw [hSa]; exact foldF_gs ds ks i G _ _
  refine W.loop (α := Nat × Value × Value × List Value × List Value × S10 × List ByteArray) (fun ⟨kg, v2b, v3c, x2b, x3c, Sc, dc⟩ => [(0, .slice adl ms.length capl), (1, .slice adk ks.length capk), (4, .pointer (some ⟨b1, 0, none⟩)), (6, .slice add ds.length capd), (10, .slice ada gl.length capa), (11, .pointer (some ⟨b18, 0, none⟩)), (12, v3c), (13, .int .i64 (i : Int)), (18, .int .i64 (kg : Int))]) (fun ⟨kg, v2b, v3c, x2b, x3c, Sc, dc⟩ u => St w ws3 u R3 [(b18, .cells #[.slice adv1a Sa.fs.length capv1a, v2b] 32 (0, 0)), (b1, .cells #[.slice none 0 0, .slice none 0 0] 32 (0, 0))] [⟨.slice adv1a Sa.fs.length capv1a, 35, 4, Sa.fs.length, x1a⟩, ⟨v2b, 38, 4, Sc.gs.length, x2b⟩, ⟨v3c, 9, 1, dc.length, x3c⟩] ∧ kg ≤ x23.globs.length ∧ Sc = (x23.globs.take kg).foldl (glob10 ds ks i G) Sa ∧ Chunks 4 GlobC x2b Sc.gs ∧ Chunks 1 StrC x3c dc ∧ (∀ s, (Sc.done s).getD false = decide (s ∈ dc)) ∧ Sc.gs.length ≤ So.gs.length + kg ∧ dc.length ≤ dn.length + x23.funcs.length + kg) (fun ⟨kg, v2b, v3c, x2b, x3c, Sc, dc⟩ => x23.globs.length - kg) (0, .slice adv2 So.gs.length capv2, .slice adv3a da.length capv3a, x2, x3a, Sa, da) ⟨rfl, rfl, rfl, rfl, rfl, rfl, rfl, rfl, rfl, trivial⟩ ⟨(by rw [hgsx]; exact hS), Nat.zero_le _, rfl, by rw [hgsx]; exact hc2, hc3a, hda, by rw [hgsx]; omega, by omega⟩ ?_
  clear hS
  rintro ⟨kg, v2b, v3c, x2b, x3c, Sc, dc⟩ w68 ⟨hS, hkg, hSc, hc2b, hc3c, hdc, hbc, hbdc⟩
  have hrow : w68.ownsRow w.heap.size 38 4 v2b (Sc.gs.length) _ := hS.rows _ (List.mem_cons_of_mem _ List.mem_cons_self)
  obtain ⟨adv2b, capv2b, rfl, hr1v2b, hr2v2b, hr3v2b⟩ := row_shape hrow
  clear hrow
  have hrow : w68.ownsRow w.heap.size 9 1 v3c (dc.length) _ := hS.rows _ (List.mem_of_getElem? (i := 2) rfl)
  obtain ⟨adv3c, capv3c, rfl, hr1v3c, hr2v3c, hr3v3c⟩ := row_shape hrow
  clear hrow
  refine W.seq (W.seq (W.region (WL.move rfl rfl rfl (WL.move rfl rfl rfl (WL.move rfl rfl rfl (WL.indexAddrE (j := i) Tryd.underlying22 isz_32 rfl rfl rfl rfl hj23 hE23 (WL.fieldAddr fo_32_1 rfl rfl rfl (WL.load1 (v := .slice adg23 x23.globs.length capg23) one_30 rfl rfl rfl (hS.roCells hr23 hc23 1 _ rfl) (WL.lenSlice Tryd.underlying30 rfl rfl rfl ?_)))))))))
  refine WL.bin rfl rfl rfl rfl rfl (WL.nil (N.seq ?_))
  refine W.cond rfl (fun hc69 => ?_) (fun hc69 => ?_)
  ·
   have hc69p : (kg : Int) < (x23.globs.length : Int) := by simpa using hc69
   refine W.skip (N.seq (W.seq (W.block (W.seq ?_))))
   have hj70 : kg < x23.globs.length := by omega
   obtain ⟨x70, hx70⟩ : ∃ zz, x23.globs[kg]? = some zz := ⟨_, List.getElem?_eq_getElem hj70⟩
   obtain ⟨b70, o70, cs70, hE70, hr70, hl70, hc70, hQ70⟩ := hgs23d kg _ hx70
   obtain ⟨rfl, hgn70, hgb70, hgi70⟩ := hQ70
   refine W.region (WL.move rfl rfl rfl (WL.move rfl rfl rfl (WL.indexAddrE (j := i) Tryd.underlying22 isz_32 rfl rfl rfl rfl hj23 hE23 (WL.fieldAddr fo_32_1 rfl rfl rfl (WL.load1 (v := .slice adg23 x23.globs.length capg23) one_30 rfl rfl rfl (hS.roCells hr23 hc23 1 _ rfl) (WL.move rfl rfl rfl (WL.indexAddrE (j := kg) Tryd.underlying30 isz_38 rfl rfl rfl rfl hj70 hE70 (WL.loadN (cs := [.string x70.name, .int .i64 x70.bind, .bool x70.here, .int .u64 x70.init]) agg_38 rfl rfl rfl rfl (hS.roCells hr70 hc70) ?_))))))))
   refine WL.alloc (tyZero_spec zer_38) rfl rfl hS ?_
   clear hS; intro w72 b71 hb_b71 hS
   refine WL.store (L' := [(b71, .cells #[.string x70.name, .int .i64 x70.bind, .bool x70.here, .int .u64 x70.init] 38 (0, 0)), (b18, .cells #[.slice adv1a Sa.fs.length capv1a, .slice adv2b Sc.gs.length capv2b] 32 (0, 0)), (b1, .cells #[.slice none 0 0, .slice none 0 0] 32 (0, 0))]) 0 rfl rfl rfl rfl siz_38 rfl rfl rfl rfl rfl hS ?_
   clear hS; intro w73 hS
   refine WL.nil (N.seq (W.seq (W.seq (W.region (WL.fieldAddr fo_38_1 rfl rfl rfl (WL.load1 (v := .int .i64 x70.bind) one_3 rfl rfl rfl (hS.cell 0 rfl rfl) (WL.bin rfl rfl rfl rfl rfl (WL.nil (N.seq ?_)))))))))
   refine W.cond rfl (fun hc74 => ?_) (fun hc74 => ?_)
   ·
    have hc74p : ¬ (x70.bind = 1) := by simpa using hc74
    refine W.seq ?_
    have hnb : ¬ x70.bind = 1 := by simpa using hc74p
    have hkd := kindG he0 hx23 (List.mem_of_getElem? hx70) hnb
    obtain ⟨jd, dd, hj1, hj2, hj3⟩ := fnd_ix he0 hkd.1
    rw [← hds] at hj1 hj2 hj3
    have hj75 : jd < ds.length := (List.getElem?_eq_some_iff.1 hj2).1
    have hx75 := hj2
    obtain ⟨b75, o75, cs75, hE75, hr75, hl75, hc75, hQ75⟩ := hdd jd _ hj2
    obtain ⟨rfl, hdn75, hdm75⟩ := hQ75
    refine W.region (WL.move rfl rfl rfl (WL.move rfl rfl rfl (WL.fieldAddr fo_38_0 rfl rfl rfl (WL.load1 (v := .string x70.name) one_9 rfl rfl rfl (hS.cell 0 rfl rfl) ?_))))
    refine WL.callF (vs := [.slice add ds.length capd, .string x70.name]) Tryd.func33 (by kernel_rfl) rfl rfl rfl ((by have h := rfindd_ret ds x70.name _ (w := w73) (ro := R3) (fun b hb => (hS.snap b hb).1) (SlV.keep hdv hS.alike (fun _ _ q => q)); rw [hj1] at h; exact h)) ?_
    rintro v w76 ⟨rfl, hbl⟩
    replace hS := hS.grow hbl
    refine WL.indexAddrE (j := jd) Tryd.underlying62 isz_66 rfl rfl rfl rfl hj75 hE75 (WL.loadN (cs := [.string dd.name, .int .i64 dd.mod, .bool dd.fn, .bool dd.weak, .bool dd.here]) agg_66 rfl rfl rfl rfl (hS.roCells hr75 hc75) ?_)
    refine WL.alloc (tyZero_spec zer_66) rfl rfl hS ?_
    clear hS; intro w78 b77 hb_b77 hS
    refine WL.store (L' := [(b77, .cells #[.string dd.name, .int .i64 dd.mod, .bool dd.fn, .bool dd.weak, .bool dd.here] 66 (0, 0)), (b71, .cells #[.string x70.name, .int .i64 x70.bind, .bool x70.here, .int .u64 x70.init] 38 (0, 0)), (b18, .cells #[.slice adv1a Sa.fs.length capv1a, .slice adv2b Sc.gs.length capv2b] 32 (0, 0)), (b1, .cells #[.slice none 0 0, .slice none 0 0] 32 (0, 0))]) 0 rfl rfl rfl rfl siz_66 rfl rfl rfl rfl rfl hS ?_
    clear hS; intro w79 hS
    refine WL.nil (N.seq (W.seq (W.region (WL.move rfl rfl rfl (WL.fieldAddr fo_38_0 rfl rfl rfl (WL.load1 (v := .string x70.name) one_9 rfl rfl rfl (hS.cell 1 rfl rfl) ?_))))))
    refine WL.callF (vs := [.slice adv3c dc.length capv3c, .string x70.name]) Tryd.func35 (by kernel_rfl) rfl rfl rfl (has8_ret dc x70.name _ (ro := fun z => z < w79.heap.size) (fun _ h => h) (row_slv (hS.rows _ (List.mem_of_getElem? (i := 2) rfl)) hc3c rfl (fun b hb => (hS.keys b (by simp only [keysOf, List.mem_append, List.mem_filterMap]; exact .inr ⟨_, List.mem_of_getElem? (i := 2) rfl, hb⟩)).2.1))) ?_
    rintro v w80 ⟨rfl, hbl⟩
    replace hS := hS.grow hbl
    refine WL.assign rfl rfl rfl (WL.nil (N.seq (W.seq (W.seq (W.region (WL.fieldAddr fo_66_1 rfl rfl rfl (WL.load1 (v := .int .i64 dd.mod) one_3 rfl rfl rfl (hS.cell 0 rfl rfl) (WL.move rfl rfl rfl (WL.bin rfl rfl rfl rfl rfl ?_)))))))))
    refine WL.move rfl rfl rfl ?_
    rcases (Bool.eq_false_or_eq_true (!decide (dd.mod = (i : Int)))).symm with hg81 | hg81
    ·
     refine WL.set 180 (v' := .bool false) rfl (by rw [hg81]) ?_
     refine WL.set 181 (v' := .bool false) rfl (by rw [hg81]) ?_
     have hg81p : dd.mod = (i : Int) := by simpa using hg81
     refine WL.move rfl rfl rfl (WL.pick (v := .bool (decide (x70.name ∈ dc))) rfl rfl rfl rfl rfl rfl (WL.move rfl rfl rfl ?_))
     rcases (Bool.eq_false_or_eq_true (decide (x70.name ∈ dc))).symm with hg82 | hg82
     ·
      refine WL.set 21 (v' := .bool false) rfl (by rw [hg82]) ?_
      refine WL.set 176 (v' := .bool false) rfl (by rw [hg82]) ?_
      refine WL.set 182 (v' := .bool false) rfl (by rw [hg82]) ?_
      refine WL.set 183 (v' := .bool false) rfl (by rw [hg82]) ?_
      refine WL.set 184 (v' := .bool false) rfl (by rw [hg82]) ?_
      have hg82p : ¬ (x70.name ∈ dc) := by simpa using hg82
      refine WL.fieldAddr fo_66_4 rfl rfl rfl (WL.load1 (v := .bool dd.here) one_4 rfl rfl rfl (hS.cell 0 rfl rfl) (WL.fieldAddr fo_38_2 rfl rfl rfl (WL.load1 (v := .bool x70.here) one_4 rfl rfl rfl (hS.cell 1 rfl rfl) ?_)))
      refine WL.neBool Tryd.underlying4 rfl rfl rfl rfl ?_
      refine WL.pick (v := .bool (dd.here != x70.here)) rfl rfl rfl rfl rfl rfl (WL.nil (N.seq ?_))
      refine W.cond rfl (fun hc83 => ?_) (fun hc83 => ?_)
      ·
       refine W.exit (X.seq (X.seq ?_))
       have w1 : (dd.mod = (i : Int)) := by simpa using hg81p
       have w2 : ¬ (x70.name ∈ dc) := by simpa using hg82p
       have w3 : (dd.here != x70.here) = true := hc83
       have hww : ¬ wants10 ds Sc.done x70.name (i : Int) x70.here = true := by unfold wants10; rw [hj3, hdc]; simp only; simp [w1, w2, w3]
       have hfun : glob10 ds ks i G Sc x70 = Sc := by unfold glob10; rw [if_neg hnb, if_neg hww]
       refine X.blk (N.seq (W.region (WL.move rfl rfl rfl ?_)))
       refine WL.add (c := (kg : Int) + 1) rfl rfl rfl rfl (rfl) (by omega) ?_
       refine WL.assign rfl rfl rfl (WL.nil ?_)
       have hS := hS.dropN 2
       exact N.loop (kg + 1, .slice adv2b Sc.gs.length capv2b, .slice adv3c dc.length capv3c, x2b, x3c, Sc, dc) ⟨rfl, rfl, rfl, rfl, rfl, rfl, rfl, rfl, rfl, trivial⟩ ⟨hS, by omega, by rw [foldl_next hx70, ← hSc]; exact hfun.symm, hc2b, hc3c, hdc, by omega, by omega⟩ (by first | omega | (simp only; omega))
      refine W.skip (N.seq (W.seq ?_))
      have w1 : (dd.mod = (i : Int)) := by simpa using hg81p
      have w2 : ¬ (x70.name ∈ dc) := by simpa using hg82p
      have w3 : (dd.here != x70.here) = false := hc83
      have hww : wants10 ds Sc.done x70.name (i : Int) x70.here = true := by unfold wants10; rw [hj3, hdc]; simp only; simp [w1, w2, w3]
      refine W.region (WL.move rfl rfl rfl (WL.fieldAddr fo_38_0 rfl rfl rfl (WL.load1 (v := .string x70.name) one_9 rfl rfl rfl (hS.cell 1 rfl rfl) ?_)))
      refine WL.buildSlice (ps := [(0, .string x70.name)]) (cs := [.string x70.name]) Tryd.underlying25 (tyZero_spec zer_9) rfl rfl rfl rfl (by kernel_rfl) hS ?_
      clear hS; intro w85 b84 hb_b84 hS
      replace hS : St w ws3 w85 R3 [(b84, .cells #[.string x70.name] 9 (0, 0)), (b77, .cells #[.string dd.name, .int .i64 dd.mod, .bool dd.fn, .bool dd.weak, .bool dd.here] 66 (0, 0)), (b71, .cells #[.string x70.name, .int .i64 x70.bind, .bool x70.here, .int .u64 x70.init] 38 (0, 0)), (b18, .cells #[.slice adv1a Sa.fs.length capv1a, .slice adv2b Sc.gs.length capv2b] 32 (0, 0)), (b1, .cells #[.slice none 0 0, .slice none 0 0] 32 (0, 0))] [⟨.slice adv3c dc.length capv3c, 9, 1, dc.length, x3c⟩, ⟨.slice adv1a Sa.fs.length capv1a, 35, 4, Sa.fs.length, x1a⟩, ⟨.slice adv2b Sc.gs.length capv2b, 38, 4, Sc.gs.length, x2b⟩] := hS.permR (((List.Perm.cons _ (List.Perm.swap _ _ _))).trans ((List.Perm.swap _ _ _)))
      refine WL.append (r := ⟨.slice adv3c dc.length capv3c, 9, 1, dc.length, x3c⟩) (cs := [.string x70.name]) 16 Tryd.underlying25 (tyZero_spec zer_9) byt_9 rfl rfl rfl rfl rfl rfl rfl rfl rfl hS (by unfold maxLen; simp only; omega) (by simp only; omega) ?_
      clear hS; intro w86 v87 hn_v87 hS
      have hrow : w86.ownsRow w.heap.size 9 1 v87 (dc.length + 1) _ := hS.rows _ List.mem_cons_self
      obtain ⟨av87, cv87, rfl, hc1_v87, hc2_v87, hc3_v87⟩ := row_shape hrow
      clear hrow
      have hc3n : Chunks 1 StrC (x3c ++ ([.string x70.name] : List Value)) (dc ++ [x70.name]) := hc3c.snoc rfl ⟨rfl, hgn70⟩
      have hlq : dc.length + 1 = (dc ++ [x70.name]).length := by rw [List.length_append]; rfl
      rw [hlq] at hS
      refine WL.set 195 (v' := .slice av87 ((dc ++ [x70.name]).length) cv87) rfl (by rw [hlq]) ?_
      refine WL.assign rfl rfl rfl (WL.nil (N.seq (W.seq (W.region (WL.move rfl rfl rfl (WL.fieldAddr fo_38_0 rfl rfl rfl (WL.load1 (v := .string x70.name) one_9 rfl rfl rfl (hS.cell 1 rfl rfl) ?_)))))))
      refine WL.callF (vs := [.slice adk ks.length capk, .string x70.name]) Tryd.func36 (by kernel_rfl) rfl rfl rfl (rbind_ret ks x70.name _ (ro := R3) (fun b hb => (hS.snap b hb).1) (SlV.keep hk hS.alike (fun _ _ q => q))) ?_
      rintro v w88 ⟨rfl, hbl⟩
      replace hS := hS.grow hbl
      refine WL.fieldAddr fo_38_1 rfl rfl rfl ?_
      refine WL.store (L' := [(b77, .cells #[.string dd.name, .int .i64 dd.mod, .bool dd.fn, .bool dd.weak, .bool dd.here] 66 (0, 0)), (b71, .cells #[.string x70.name, .int .i64 (bind10 ks x70.name), .bool x70.here, .int .u64 x70.init] 38 (0, 0)), (b18, .cells #[.slice adv1a Sa.fs.length capv1a, .slice adv2b Sc.gs.length capv2b] 32 (0, 0)), (b1, .cells #[.slice none 0 0, .slice none 0 0] 32 (0, 0))]) 1 rfl rfl rfl rfl siz_3 rfl rfl rfl rfl rfl hS ?_
      clear hS; intro w89 hS
      refine WL.nil (N.seq (W.region (WL.fieldAddr fo_38_2 rfl rfl rfl ?_)))
      refine WL.store (L' := [(b77, .cells #[.string dd.name, .int .i64 dd.mod, .bool dd.fn, .bool dd.weak, .bool dd.here] 66 (0, 0)), (b71, .cells #[.string x70.name, .int .i64 (bind10 ks x70.name), .bool true, .int .u64 x70.init] 38 (0, 0)), (b18, .cells #[.slice adv1a Sa.fs.length capv1a, .slice adv2b Sc.gs.length capv2b] 32 (0, 0)), (b1, .cells #[.slice none 0 0, .slice none 0 0] 32 (0, 0))]) 1 rfl rfl rfl rfl siz_4 rfl rfl rfl rfl rfl hS ?_
      clear hS; intro w90 hS
      refine WL.nil (N.seq (W.seq ?_))
      refine W.drawL (by kernel_rfl) 8 ((.q (.slice ada gl.length capa)) :: (.q (.int .i64 (i : Int))) :: (.q (.pointer (some ⟨b24, o24 + i * 2, none⟩))) :: (.q (.agg #[.slice ado24 x24.1.length capo24, .slice adw24 x24.2.length capw24])) :: (.q (.pointer (some ⟨b71, 0, none⟩))) :: (.q (.string x70.name)) :: (.q (.string (ren10 (rG x24) x70.name))) :: (.q (.pointer (some ⟨b71, 0, none⟩))) :: []) (by kernel_rfl) (by kernel_rfl) [(0, .slice adl ms.length capl), (1, .slice adk ks.length capk), (4, .pointer (some ⟨b1, 0, none⟩)), (6, .slice add ds.length capd), (10, .slice ada gl.length capa), (11, .pointer (some ⟨b18, 0, none⟩)), (12, .slice av87 ((dc ++ [x70.name]).length) cv87), (13, .int .i64 (i : Int)), (18, .int .i64 (kg : Int)), (19, .pointer (some ⟨b71, 0, none⟩))] ⟨rfl, rfl, rfl, rfl, rfl, rfl, rfl, rfl, rfl, rfl, trivial⟩ (by kernel_rfl) hS ?_ ?_
      ·
       refine And.intro (fun β w hS => ?_) ?_
       ·
        refine WL.sub (σ' := [(10, .slice ada gl.length capa)]) ⟨rfl, trivial⟩ ?_
        refine WL.move rfl rfl rfl ?_
        exact WL.nil (N.cut () ⟨rfl, trivial⟩ (Below.refl _ _))
       refine And.intro (fun β w hS => ?_) ?_
       ·
        refine WL.sub (σ' := [(13, .int .i64 (i : Int))]) ⟨rfl, trivial⟩ ?_
        refine WL.move rfl rfl rfl ?_
        exact WL.nil (N.cut () ⟨rfl, trivial⟩ (Below.refl _ _))
       refine And.intro (fun β w hS => ?_) ?_
       ·
        refine WL.sub (σ' := [(202, .slice ada gl.length capa), (203, .int .i64 (i : Int))]) ⟨rfl, rfl, trivial⟩ ?_
        refine WL.indexAddrE (j := i) Tryd.underlying80 isz_94 rfl rfl rfl rfl hj24 hE24 ?_
        exact WL.nil (N.cut () ⟨rfl, trivial⟩ (Below.refl _ _))
       refine And.intro (fun β w hS => ?_) ?_
       ·
        refine WL.sub (σ' := [(204, .pointer (some ⟨b24, o24 + i * 2, none⟩))]) ⟨rfl, trivial⟩ ?_
        refine WL.loadN (cs := [.slice ado24 x24.1.length capo24, .slice adw24 x24.2.length capw24]) agg_94 rfl rfl rfl rfl (hS.roCells hr24 hc24) ?_
        exact WL.nil (N.cut () ⟨rfl, trivial⟩ (Below.refl _ _))
       refine And.intro (fun β w hS => ?_) ?_
       ·
        refine WL.sub (σ' := [(19, .pointer (some ⟨b71, 0, none⟩))]) ⟨rfl, trivial⟩ ?_
        refine WL.fieldAddr fo_38_0 rfl rfl rfl ?_
        exact WL.nil (N.cut () ⟨rfl, trivial⟩ (Below.refl _ _))
       refine And.intro (fun β w hS => ?_) ?_
       ·
        refine WL.sub (σ' := [(206, .pointer (some ⟨b71, 0, none⟩))]) ⟨rfl, trivial⟩ ?_
        refine WL.load1 (v := .string x70.name) one_9 rfl rfl rfl (hS.cell 1 rfl rfl) ?_
        exact WL.nil (N.cut () ⟨rfl, trivial⟩ (Below.refl _ _))
       refine And.intro (fun β w hS => ?_) ?_
       ·
        refine WL.sub (σ' := [(205, .agg #[.slice ado24 x24.1.length capo24, .slice adw24 x24.2.length capw24]), (207, .string x70.name)]) ⟨rfl, rfl, trivial⟩ ?_
        refine WL.callF (vs := [.agg #[.slice ado24 x24.1.length capo24, .slice adw24 x24.2.length capw24], .string x70.name]) Tryd.func38 (by kernel_rfl) rfl rfl rfl (rnew_ret x24 x70.name _ (ro := R3) (fun b hb => (hS.snap b hb).1) (hQ24.keep hS.alike) hlen) ?_
        rintro v w92 ⟨rfl, hbl⟩
        replace hS := hS.grow hbl
        exact WL.nil (N.cut () ⟨rfl, trivial⟩ hbl)
       refine And.intro (fun β w hS => ?_) ?_
       ·
        refine WL.sub (σ' := [(19, .pointer (some ⟨b71, 0, none⟩))]) ⟨rfl, trivial⟩ ?_
        refine WL.fieldAddr fo_38_0 rfl rfl rfl ?_
        exact WL.nil (N.cut () ⟨rfl, trivial⟩ (Below.refl _ _))
       trivial
      clear hS; intro w93 β hS
      refine WL.sub (σ' := [(0, .slice adl ms.length capl), (1, .slice adk ks.length capk), (4, .pointer (some ⟨b1, 0, none⟩)), (6, .slice add ds.length capd), (10, .slice ada gl.length capa), (11, .pointer (some ⟨b18, 0, none⟩)), (12, .slice av87 ((dc ++ [x70.name]).length) cv87), (13, .int .i64 (i : Int)), (18, .int .i64 (kg : Int)), (19, .pointer (some ⟨b71, 0, none⟩)), (208, .string (ren10 (rG x24) x70.name)), (209, .pointer (some ⟨b71, 0, none⟩))]) (Sub.ofEq (by kernel_rfl)) ?_
      refine WL.store (L' := [(b77, .cells #[.string dd.name, .int .i64 dd.mod, .bool dd.fn, .bool dd.weak, .bool dd.here] 66 (0, 0)), (b71, .cells #[.string (ren10 (rG x24) x70.name), .int .i64 (bind10 ks x70.name), .bool true, .int .u64 x70.init] 38 (0, 0)), (b18, .cells #[.slice adv1a Sa.fs.length capv1a, .slice adv2b Sc.gs.length capv2b] 32 (0, 0)), (b1, .cells #[.slice none 0 0, .slice none 0 0] 32 (0, 0))]) 1 rfl rfl rfl rfl siz_9 rfl rfl rfl rfl rfl hS ?_
      clear hS; intro w94 hS
      refine WL.nil (N.seq (W.region (WL.fieldAddr fo_32_1 rfl rfl rfl (WL.load1 (v := .slice adv2b Sc.gs.length capv2b) one_30 rfl rfl rfl (hS.cell 2 rfl rfl) (WL.loadN (cs := [.string (ren10 (rG x24) x70.name), .int .i64 (bind10 ks x70.name), .bool true, .int .u64 x70.init]) agg_38 rfl rfl rfl rfl (hS.cells 1 (m := 4) rfl rfl) ?_)))))
      refine WL.buildSlice (ps := [(0, .agg #[.string (ren10 (rG x24) x70.name), .int .i64 (bind10 ks x70.name), .bool true, .int .u64 x70.init])]) (cs := [.string (ren10 (rG x24) x70.name), .int .i64 (bind10 ks x70.name), .bool true, .int .u64 x70.init]) Tryd.underlying30 (tyZero_spec zer_38) rfl rfl rfl rfl (by kernel_rfl) hS ?_
      clear hS; intro w96 b95 hb_b95 hS
      obtain ⟨gg, hgg⟩ : ∃ gg, gg = defG ks x70 := ⟨_, rfl⟩
      have hfun : glob10 ds ks i G Sc x70 = ⟨Sc.fs, Sc.gs ++ [renG G gg], updG Sc.done x70.name true⟩ := by unfold glob10; rw [if_neg hnb, if_pos hww, hgg]
      have hgc : GlobC [.string (ren10 (rG x24) x70.name), .int .i64 (bind10 ks x70.name), .bool true, .int .u64 x70.init] (renG G gg) := by rw [hgg, hG]; exact ⟨rfl, ren10_size hgsz hgn70, bind10_in ks _, hgi70⟩
      replace hS : St w ws3 w96 R3 [(b95, .cells #[.string (ren10 (rG x24) x70.name), .int .i64 (bind10 ks x70.name), .bool true, .int .u64 x70.init] 38 (0, 0)), (b77, .cells #[.string dd.name, .int .i64 dd.mod, .bool dd.fn, .bool dd.weak, .bool dd.here] 66 (0, 0)), (b71, .cells #[.string (ren10 (rG x24) x70.name), .int .i64 (bind10 ks x70.name), .bool true, .int .u64 x70.init] 38 (0, 0)), (b18, .cells #[.slice adv1a Sa.fs.length capv1a, .slice adv2b Sc.gs.length capv2b] 32 (0, 0)), (b1, .cells #[.slice none 0 0, .slice none 0 0] 32 (0, 0))] [⟨.slice adv2b Sc.gs.length capv2b, 38, 4, Sc.gs.length, x2b⟩, ⟨.slice av87 ((dc ++ [x70.name]).length) cv87, 9, 1, (dc ++ [x70.name]).length, x3c ++ ([.string x70.name] : List Value)⟩, ⟨.slice adv1a Sa.fs.length capv1a, 35, 4, Sa.fs.length, x1a⟩] := hS.permR (((List.Perm.cons _ (List.Perm.swap _ _ _))).trans ((List.Perm.swap _ _ _)))
      refine WL.append (r := ⟨.slice adv2b Sc.gs.length capv2b, 38, 4, Sc.gs.length, x2b⟩) (cs := [.string (ren10 (rG x24) x70.name), .int .i64 (bind10 ks x70.name), .bool true, .int .u64 x70.init]) 40 Tryd.underlying30 (tyZero_spec zer_38) byt_38 rfl rfl rfl rfl rfl rfl rfl rfl rfl hS (by unfold maxLen; simp only; omega) (by simp only; omega) ?_
      clear hS; intro w97 v98 hn_v98 hS
      have hrow : w97.ownsRow w.heap.size 38 4 v98 (Sc.gs.length + 1) _ := hS.rows _ List.mem_cons_self
      obtain ⟨av98, cv98, rfl, hc1_v98, hc2_v98, hc3_v98⟩ := row_shape hrow
      clear hrow
      have hnx : Sc.gs.length + 1 = (Sc.gs ++ [renG G gg]).length := by rw [List.length_append]; rfl
      rw [hnx] at hS
      refine WL.set 214 (v' := .slice av98 ((Sc.gs ++ [renG G gg]).length) cv98) rfl (by rw [hnx]) ?_
      have hc2n : Chunks 4 GlobC (x2b ++ ([.string (ren10 (rG x24) x70.name), .int .i64 (bind10 ks x70.name), .bool true, .int .u64 x70.init] : List Value)) (Sc.gs ++ [renG G gg]) := hc2b.snoc rfl hgc
      refine WL.fieldAddr fo_32_1 rfl rfl rfl ?_
      refine WL.store (L' := [(b77, .cells #[.string dd.name, .int .i64 dd.mod, .bool dd.fn, .bool dd.weak, .bool dd.here] 66 (0, 0)), (b71, .cells #[.string (ren10 (rG x24) x70.name), .int .i64 (bind10 ks x70.name), .bool true, .int .u64 x70.init] 38 (0, 0)), (b18, .cells #[.slice adv1a Sa.fs.length capv1a, .slice av98 ((Sc.gs ++ [renG G gg]).length) cv98] 32 (0, 0)), (b1, .cells #[.slice none 0 0, .slice none 0 0] 32 (0, 0))]) 2 rfl rfl rfl rfl siz_30 rfl rfl rfl rfl rfl hS ?_
      clear hS; intro w99 hS
      refine WL.nil (N.blk (N.seq (W.region (WL.move rfl rfl rfl ?_))))
      refine WL.add (c := (kg : Int) + 1) rfl rfl rfl rfl (rfl) (by omega) ?_
      refine WL.assign rfl rfl rfl (WL.nil ?_)
      have hS := hS.dropN 2
      replace hS : St w ws3 w99 R3 [(b18, .cells #[.slice adv1a Sa.fs.length capv1a, .slice av98 ((Sc.gs ++ [renG G gg]).length) cv98] 32 (0, 0)), (b1, .cells #[.slice none 0 0, .slice none 0 0] 32 (0, 0))] [⟨.slice adv1a Sa.fs.length capv1a, 35, 4, Sa.fs.length, x1a⟩, ⟨.slice av98 ((Sc.gs ++ [renG G gg]).length) cv98, 38, 4, (Sc.gs ++ [renG G gg]).length, x2b ++ ([.string (ren10 (rG x24) x70.name), .int .i64 (bind10 ks x70.name), .bool true, .int .u64 x70.init] : List Value)⟩, ⟨.slice av87 ((dc ++ [x70.name]).length) cv87, 9, 1, (dc ++ [x70.name]).length, x3c ++ ([.string x70.name] : List Value)⟩] := hS.permR (((List.Perm.cons _ (List.Perm.swap _ _ _))).trans ((List.Perm.swap _ _ _)))
      exact N.loop (kg + 1, .slice av98 ((Sc.gs ++ [renG G gg]).length) cv98, .slice av87 ((dc ++ [x70.name]).length) cv87, x2b ++ ([.string (ren10 (rG x24) x70.name), .int .i64 (bind10 ks x70.name), .bool true, .int .u64 x70.init] : List Value), x3c ++ ([.string x70.name] : List Value), ⟨Sc.fs, Sc.gs ++ [renG G gg], updG Sc.done x70.name true⟩, (dc ++ [x70.name])) ⟨rfl, rfl, rfl, rfl, rfl, rfl, rfl, rfl, rfl, trivial⟩ ⟨hS, by omega, by rw [foldl_next hx70, ← hSc]; exact hfun.symm, hc2n, hc3n, done_upd hdc _, by show (Sc.gs ++ [_]).length ≤ _; rw [List.length_append, List.length_singleton]; omega, by rw [List.length_append, List.length_singleton]; omega⟩ (by first | omega | (simp only; omega))
     refine WL.set 21 (v' := .bool true) rfl (by rw [hg82]) ?_
     refine WL.set 176 (v' := .bool true) rfl (by rw [hg82]) ?_
     refine WL.set 182 (v' := .bool true) rfl (by rw [hg82]) ?_
     refine WL.set 183 (v' := .bool true) rfl (by rw [hg82]) ?_
     refine WL.set 184 (v' := .bool true) rfl (by rw [hg82]) ?_
     have hg82p : x70.name ∈ dc := by simpa using hg82
     refine WL.skp rfl rfl (WL.skp rfl rfl (WL.skp rfl rfl (WL.skp rfl rfl (WL.skp rfl rfl (WL.pick (v := .bool true) rfl rfl rfl rfl rfl rfl (WL.nil (N.seq (W.condT rfl (W.exit ?_)))))))))
     refine X.seq (X.seq ?_)
     have w1 : (dd.mod = (i : Int)) := by simpa using hg81p
     have w2 : (x70.name ∈ dc) := by simpa using hg82p
     have hww : ¬ wants10 ds Sc.done x70.name (i : Int) x70.here = true := by unfold wants10; rw [hj3, hdc]; simp only; simp [w1, w2]
     have hfun : glob10 ds ks i G Sc x70 = Sc := by unfold glob10; rw [if_neg hnb, if_neg hww]
     refine X.blk (N.seq (W.region (WL.move rfl rfl rfl ?_)))
     refine WL.add (c := (kg : Int) + 1) rfl rfl rfl rfl (rfl) (by omega) ?_
     refine WL.assign rfl rfl rfl (WL.nil ?_)
     have hS := hS.dropN 2
     exact N.loop (kg + 1, .slice adv2b Sc.gs.length capv2b, .slice adv3c dc.length capv3c, x2b, x3c, Sc, dc) ⟨rfl, rfl, rfl, rfl, rfl, rfl, rfl, rfl, rfl, trivial⟩ ⟨hS, by omega, by rw [foldl_next hx70, ← hSc]; exact hfun.symm, hc2b, hc3c, hdc, by omega, by omega⟩ (by first | omega | (simp only; omega))
    refine WL.set 180 (v' := .bool true) rfl (by rw [hg81]) ?_
    refine WL.set 181 (v' := .bool true) rfl (by rw [hg81]) ?_
    have hg81p : ¬ (dd.mod = (i : Int)) := by simpa using hg81
    refine WL.skp rfl rfl (WL.pick (v := .bool true) rfl rfl rfl rfl rfl rfl (WL.move rfl rfl rfl (WL.skp rfl rfl (WL.skp rfl rfl (WL.skp rfl rfl (WL.skp rfl rfl (WL.skp rfl rfl (WL.pick (v := .bool true) rfl rfl rfl rfl rfl rfl (WL.nil ?_)))))))))
    refine N.seq (W.condT rfl (W.exit (X.seq (X.seq ?_))))
    have w1 : ¬ (dd.mod = (i : Int)) := by simpa using hg81p
    have hww : ¬ wants10 ds Sc.done x70.name (i : Int) x70.here = true := by unfold wants10; rw [hj3, hdc]; simp only; simp [w1]
    have hfun : glob10 ds ks i G Sc x70 = Sc := by unfold glob10; rw [if_neg hnb, if_neg hww]
    refine X.blk (N.seq (W.region (WL.move rfl rfl rfl ?_)))
    refine WL.add (c := (kg : Int) + 1) rfl rfl rfl rfl (rfl) (by omega) ?_
    refine WL.assign rfl rfl rfl (WL.nil ?_)
    have hS := hS.dropN 2
    exact N.loop (kg + 1, .slice adv2b Sc.gs.length capv2b, .slice adv3c dc.length capv3c, x2b, x3c, Sc, dc) ⟨rfl, rfl, rfl, rfl, rfl, rfl, rfl, rfl, rfl, trivial⟩ ⟨hS, by omega, by rw [foldl_next hx70, ← hSc]; exact hfun.symm, hc2b, hc3c, hdc, by omega, by omega⟩ (by first | omega | (simp only; omega))
   have hc74p : x70.bind = 1 := by simpa using hc74
   refine W.skip (N.seq (W.seq ?_))
   refine W.drawL (by kernel_rfl) 8 ((.q (.slice ada gl.length capa)) :: (.q (.int .i64 (i : Int))) :: (.q (.pointer (some ⟨b24, o24 + i * 2, none⟩))) :: (.q (.agg #[.slice ado24 x24.1.length capo24, .slice adw24 x24.2.length capw24])) :: (.q (.pointer (some ⟨b71, 0, none⟩))) :: (.q (.string x70.name)) :: (.q (.string (ren10 (rG x24) x70.name))) :: (.q (.pointer (some ⟨b71, 0, none⟩))) :: []) (by kernel_rfl) (by kernel_rfl) [(0, .slice adl ms.length capl), (1, .slice adk ks.length capk), (4, .pointer (some ⟨b1, 0, none⟩)), (6, .slice add ds.length capd), (10, .slice ada gl.length capa), (11, .pointer (some ⟨b18, 0, none⟩)), (12, .slice adv3c dc.length capv3c), (13, .int .i64 (i : Int)), (18, .int .i64 (kg : Int)), (19, .pointer (some ⟨b71, 0, none⟩))] ⟨rfl, rfl, rfl, rfl, rfl, rfl, rfl, rfl, rfl, rfl, trivial⟩ (by kernel_rfl) hS ?_ ?_
   ·
    refine And.intro (fun β w hS => ?_) ?_
    ·
     refine WL.sub (σ' := [(10, .slice ada gl.length capa)]) ⟨rfl, trivial⟩ ?_
     refine WL.move rfl rfl rfl ?_
     exact WL.nil (N.cut () ⟨rfl, trivial⟩ (Below.refl _ _))
    refine And.intro (fun β w hS => ?_) ?_
    ·
     refine WL.sub (σ' := [(13, .int .i64 (i : Int))]) ⟨rfl, trivial⟩ ?_
     refine WL.move rfl rfl rfl ?_
     exact WL.nil (N.cut () ⟨rfl, trivial⟩ (Below.refl _ _))
    refine And.intro (fun β w hS => ?_) ?_
    ·
     refine WL.sub (σ' := [(202, .slice ada gl.length capa), (203, .int .i64 (i : Int))]) ⟨rfl, rfl, trivial⟩ ?_
     refine WL.indexAddrE (j := i) Tryd.underlying80 isz_94 rfl rfl rfl rfl hj24 hE24 ?_
     exact WL.nil (N.cut () ⟨rfl, trivial⟩ (Below.refl _ _))
    refine And.intro (fun β w hS => ?_) ?_
    ·
     refine WL.sub (σ' := [(204, .pointer (some ⟨b24, o24 + i * 2, none⟩))]) ⟨rfl, trivial⟩ ?_
     refine WL.loadN (cs := [.slice ado24 x24.1.length capo24, .slice adw24 x24.2.length capw24]) agg_94 rfl rfl rfl rfl (hS.roCells hr24 hc24) ?_
     exact WL.nil (N.cut () ⟨rfl, trivial⟩ (Below.refl _ _))
    refine And.intro (fun β w hS => ?_) ?_
    ·
     refine WL.sub (σ' := [(19, .pointer (some ⟨b71, 0, none⟩))]) ⟨rfl, trivial⟩ ?_
     refine WL.fieldAddr fo_38_0 rfl rfl rfl ?_
     exact WL.nil (N.cut () ⟨rfl, trivial⟩ (Below.refl _ _))
    refine And.intro (fun β w hS => ?_) ?_
    ·
     refine WL.sub (σ' := [(206, .pointer (some ⟨b71, 0, none⟩))]) ⟨rfl, trivial⟩ ?_
     refine WL.load1 (v := .string x70.name) one_9 rfl rfl rfl (hS.cell 0 rfl rfl) ?_
     exact WL.nil (N.cut () ⟨rfl, trivial⟩ (Below.refl _ _))
    refine And.intro (fun β w hS => ?_) ?_
    ·
     refine WL.sub (σ' := [(205, .agg #[.slice ado24 x24.1.length capo24, .slice adw24 x24.2.length capw24]), (207, .string x70.name)]) ⟨rfl, rfl, trivial⟩ ?_
     refine WL.callF (vs := [.agg #[.slice ado24 x24.1.length capo24, .slice adw24 x24.2.length capw24], .string x70.name]) Tryd.func38 (by kernel_rfl) rfl rfl rfl (rnew_ret x24 x70.name _ (ro := R3) (fun b hb => (hS.snap b hb).1) (hQ24.keep hS.alike) hlen) ?_
     rintro v w101 ⟨rfl, hbl⟩
     replace hS := hS.grow hbl
     exact WL.nil (N.cut () ⟨rfl, trivial⟩ hbl)
    refine And.intro (fun β w hS => ?_) ?_
    ·
     refine WL.sub (σ' := [(19, .pointer (some ⟨b71, 0, none⟩))]) ⟨rfl, trivial⟩ ?_
     refine WL.fieldAddr fo_38_0 rfl rfl rfl ?_
     exact WL.nil (N.cut () ⟨rfl, trivial⟩ (Below.refl _ _))
    trivial
   clear hS; intro w102 β hS
   refine WL.sub (σ' := [(0, .slice adl ms.length capl), (1, .slice adk ks.length capk), (4, .pointer (some ⟨b1, 0, none⟩)), (6, .slice add ds.length capd), (10, .slice ada gl.length capa), (11, .pointer (some ⟨b18, 0, none⟩)), (12, .slice adv3c dc.length capv3c), (13, .int .i64 (i : Int)), (18, .int .i64 (kg : Int)), (19, .pointer (some ⟨b71, 0, none⟩)), (208, .string (ren10 (rG x24) x70.name)), (209, .pointer (some ⟨b71, 0, none⟩))]) (Sub.ofEq (by kernel_rfl)) ?_
   refine WL.store (L' := [(b71, .cells #[.string (ren10 (rG x24) x70.name), .int .i64 x70.bind, .bool x70.here, .int .u64 x70.init] 38 (0, 0)), (b18, .cells #[.slice adv1a Sa.fs.length capv1a, .slice adv2b Sc.gs.length capv2b] 32 (0, 0)), (b1, .cells #[.slice none 0 0, .slice none 0 0] 32 (0, 0))]) 0 rfl rfl rfl rfl siz_9 rfl rfl rfl rfl rfl hS ?_
   clear hS; intro w103 hS
   refine WL.nil (N.seq (W.region (WL.fieldAddr fo_32_1 rfl rfl rfl (WL.load1 (v := .slice adv2b Sc.gs.length capv2b) one_30 rfl rfl rfl (hS.cell 1 rfl rfl) (WL.loadN (cs := [.string (ren10 (rG x24) x70.name), .int .i64 x70.bind, .bool x70.here, .int .u64 x70.init]) agg_38 rfl rfl rfl rfl (hS.cells 0 (m := 4) rfl rfl) ?_)))))
   refine WL.buildSlice (ps := [(0, .agg #[.string (ren10 (rG x24) x70.name), .int .i64 x70.bind, .bool x70.here, .int .u64 x70.init])]) (cs := [.string (ren10 (rG x24) x70.name), .int .i64 x70.bind, .bool x70.here, .int .u64 x70.init]) Tryd.underlying30 (tyZero_spec zer_38) rfl rfl rfl rfl (by kernel_rfl) hS ?_
   clear hS; intro w105 b104 hb_b104 hS
   have hnb1 : x70.bind = 1 := by simpa using hc74p
   obtain ⟨gg, hgg⟩ : ∃ gg, gg = x70 := ⟨_, rfl⟩
   have hfun : glob10 ds ks i G Sc x70 = ⟨Sc.fs, Sc.gs ++ [renG G gg], Sc.done⟩ := by unfold glob10; rw [if_pos hnb1, hgg]
   have hgc : GlobC [.string (ren10 (rG x24) x70.name), .int .i64 x70.bind, .bool x70.here, .int .u64 x70.init] (renG G gg) := by rw [hgg, hG]; exact ⟨rfl, ren10_size hgsz hgn70, hgb70, hgi70⟩
   replace hS : St w ws3 w105 R3 [(b104, .cells #[.string (ren10 (rG x24) x70.name), .int .i64 x70.bind, .bool x70.here, .int .u64 x70.init] 38 (0, 0)), (b71, .cells #[.string (ren10 (rG x24) x70.name), .int .i64 x70.bind, .bool x70.here, .int .u64 x70.init] 38 (0, 0)), (b18, .cells #[.slice adv1a Sa.fs.length capv1a, .slice adv2b Sc.gs.length capv2b] 32 (0, 0)), (b1, .cells #[.slice none 0 0, .slice none 0 0] 32 (0, 0))] [⟨.slice adv2b Sc.gs.length capv2b, 38, 4, Sc.gs.length, x2b⟩, ⟨.slice adv1a Sa.fs.length capv1a, 35, 4, Sa.fs.length, x1a⟩, ⟨.slice adv3c dc.length capv3c, 9, 1, dc.length, x3c⟩] := hS.permR ((List.Perm.swap _ _ _))
   refine WL.append (r := ⟨.slice adv2b Sc.gs.length capv2b, 38, 4, Sc.gs.length, x2b⟩) (cs := [.string (ren10 (rG x24) x70.name), .int .i64 x70.bind, .bool x70.here, .int .u64 x70.init]) 40 Tryd.underlying30 (tyZero_spec zer_38) byt_38 rfl rfl rfl rfl rfl rfl rfl rfl rfl hS (by unfold maxLen; simp only; omega) (by simp only; omega) ?_
   clear hS; intro w106 v107 hn_v107 hS
   have hrow : w106.ownsRow w.heap.size 38 4 v107 (Sc.gs.length + 1) _ := hS.rows _ List.mem_cons_self
   obtain ⟨av107, cv107, rfl, hc1_v107, hc2_v107, hc3_v107⟩ := row_shape hrow
   clear hrow
   have hnx : Sc.gs.length + 1 = (Sc.gs ++ [renG G gg]).length := by rw [List.length_append]; rfl
   rw [hnx] at hS
   refine WL.set 214 (v' := .slice av107 ((Sc.gs ++ [renG G gg]).length) cv107) rfl (by rw [hnx]) ?_
   have hc2n : Chunks 4 GlobC (x2b ++ ([.string (ren10 (rG x24) x70.name), .int .i64 x70.bind, .bool x70.here, .int .u64 x70.init] : List Value)) (Sc.gs ++ [renG G gg]) := hc2b.snoc rfl hgc
   refine WL.fieldAddr fo_32_1 rfl rfl rfl ?_
   refine WL.store (L' := [(b71, .cells #[.string (ren10 (rG x24) x70.name), .int .i64 x70.bind, .bool x70.here, .int .u64 x70.init] 38 (0, 0)), (b18, .cells #[.slice adv1a Sa.fs.length capv1a, .slice av107 ((Sc.gs ++ [renG G gg]).length) cv107] 32 (0, 0)), (b1, .cells #[.slice none 0 0, .slice none 0 0] 32 (0, 0))]) 1 rfl rfl rfl rfl siz_30 rfl rfl rfl rfl rfl hS ?_
   clear hS; intro w108 hS
   refine WL.nil (N.blk (N.seq (W.region (WL.move rfl rfl rfl ?_))))
   refine WL.add (c := (kg : Int) + 1) rfl rfl rfl rfl (rfl) (by omega) ?_
   refine WL.assign rfl rfl rfl (WL.nil ?_)
   have hS := hS.dropN 1
   replace hS : St w ws3 w108 R3 [(b18, .cells #[.slice adv1a Sa.fs.length capv1a, .slice av107 ((Sc.gs ++ [renG G gg]).length) cv107] 32 (0, 0)), (b1, .cells #[.slice none 0 0, .slice none 0 0] 32 (0, 0))] [⟨.slice adv1a Sa.fs.length capv1a, 35, 4, Sa.fs.length, x1a⟩, ⟨.slice av107 ((Sc.gs ++ [renG G gg]).length) cv107, 38, 4, (Sc.gs ++ [renG G gg]).length, x2b ++ ([.string (ren10 (rG x24) x70.name), .int .i64 x70.bind, .bool x70.here, .int .u64 x70.init] : List Value)⟩, ⟨.slice adv3c dc.length capv3c, 9, 1, dc.length, x3c⟩] := hS.permR ((List.Perm.swap _ _ _))
   exact N.loop (kg + 1, .slice av107 ((Sc.gs ++ [renG G gg]).length) cv107, .slice adv3c dc.length capv3c, x2b ++ ([.string (ren10 (rG x24) x70.name), .int .i64 x70.bind, .bool x70.here, .int .u64 x70.init] : List Value), x3c, ⟨Sc.fs, Sc.gs ++ [renG G gg], Sc.done⟩, dc) ⟨rfl, rfl, rfl, rfl, rfl, rfl, rfl, rfl, rfl, trivial⟩ ⟨hS, by omega, by rw [foldl_next hx70, ← hSc]; exact hfun.symm, hc2n, hc3c, hdc, by show (Sc.gs ++ [_]).length ≤ _; rw [List.length_append, List.length_singleton]; omega, by omega⟩ (by first | omega | (simp only; omega))
  have hc69p : ¬ ((kg : Int) < (x23.globs.length : Int)) := by simpa using hc69
  refine W.exit (X.seq (X.loop (X.blk (N.blk (N.seq (W.region (WL.move rfl rfl rfl ?_)))))))
  refine WL.add (c := (i : Int) + 1) rfl rfl rfl rfl (rfl) (by omega) ?_
  refine WL.assign rfl rfl rfl (WL.nil ?_)
  have hgx : kg = x23.globs.length := by omega
  rw [hgx, List.take_length] at hSc
  have hSo2 : Sc = out10 ds ks ((zip10 ms gs).take (i + 1)) := by rw [out10_next (zip10_at hx23 hga)]; unfold mod10s; rw [← hSo, ← hSa]; exact hSc
  have hfsx : Sc.fs = Sa.fs := by rw [hSc]; exact foldG_fs ds ks i G _ _
  exact N.loop (i + 1, .slice adv1a Sa.fs.length capv1a, .slice adv2b Sc.gs.length capv2b, .slice adv3c dc.length capv3c, x1a, x2b, x3c, Sc, dc, R3, ws3) ⟨rfl, rfl, rfl, rfl, rfl, rfl, rfl, rfl, trivial⟩ ⟨(by rw [hfsx]; exact hS), by omega, hSo2, by rw [hfsx]; exact hc1a, hc2b, hc3c, hdc, by rw [hfsx]; omega, by omega, halL1, hsub⟩ (by first | omega | (simp only; omega))
 have hc22p : ¬ ((i : Int) < (ms.length : Int)) := by simpa using hc22
 refine W.exit (X.seq (X.loop (X.blk (N.seq (W.seq (W.seq (W.region (WL.fieldAddr fo_32_0 rfl rfl rfl (WL.load1 (v := .slice adv1 So.fs.length capv1) one_29 rfl rfl rfl (hS.cell 0 rfl rfl) ?_)))))))))
 refine WL.lenSlice Tryd.underlying29 rfl rfl rfl (WL.bin rfl rfl rfl rfl rfl (WL.move rfl rfl rfl ?_))
 rcases (Bool.eq_false_or_eq_true (decide (16 < (So.fs.length : Int)))).symm with hg109 | hg109
 ·
  refine WL.set 219 (v' := .bool false) rfl (by rw [hg109]) ?_
  refine WL.set 220 (v' := .bool false) rfl (by rw [hg109]) ?_
  have hg109p : ¬ (16 < (So.fs.length : Int)) := by simpa using hg109
  refine WL.fieldAddr fo_32_1 rfl rfl rfl (WL.load1 (v := .slice adv2 So.gs.length capv2) one_30 rfl rfl rfl (hS.cell 0 rfl rfl) (WL.lenSlice Tryd.underlying30 rfl rfl rfl (WL.bin rfl rfl rfl rfl rfl (WL.pick (v := .bool (decide (16 < (So.gs.length : Int)))) rfl rfl rfl rfl rfl rfl (WL.nil (N.seq ?_))))))
  refine W.cond rfl (fun hc110 => ?_) (fun hc110 => ?_)
  ·
   have hc110p : 16 < (So.gs.length : Int) := by simpa using hc110
   refine W.seq (W.region ?_)
   refine WL.build (ps := []) (cs := [.slice none 0 0, .slice none 0 0]) rfl rfl rfl (by kernel_rfl) ?_
   refine WL.store (L' := [(b18, .cells #[.slice adv1 So.fs.length capv1, .slice adv2 So.gs.length capv2] 32 (0, 0)), (b1, .cells #[.slice none 0 0, .slice none 0 0] 32 (0, 0))]) 1 rfl rfl rfl rfl siz_32 rfl rfl rfl rfl rfl hS ?_
   clear hS; intro w111 hS
   refine WL.assign rfl rfl rfl (WL.nil (N.seq ?_))
   refine Fin.retCT rfl (v := .agg #[.slice none 0 0, .slice none 0 0]) (v' := .int .i64 4) rfl (tyAgg_run agg_32 (cs := [.slice none 0 0, .slice none 0 0]) rfl (hS.cells 1 (m := 2) rfl rfl)) rfl ?_
   have hlo2 : ¬ ks.any (lost10 (all9 (items9 ms)).1) = true := by rw [show (all9 (items9 ms)).1 = ds from hds.symm]; have h := hlo0; simpa using h
   have hie : i = ms.length := by omega
   have hSo3 : So = out10 (all9 (items9 ms)).1 ks (zip10 ms (nam10 (nms9 (items9 ms)) ms).1) := by rw [hSo, hie, ← gr1, List.take_of_length_le (Nat.le_of_eq (zip10_len (by rw [hgs, List.length_map, hgll]))), hds]
   have hbg : (16 < So.fs.length ∨ 16 < So.gs.length) := by omega
   have e : merge10 ms ks = (⟨[], []⟩, 4) := by unfold merge10; rw [if_pos he0, if_neg hlo2]; dsimp only; rw [← hSo3]; exact if_pos hbg
   rw [e]
   exact ⟨_, rfl, ⟨_, _, rfl, slv_nil, slv_nil⟩, hS.below⟩
  have hc110p : ¬ (16 < (So.gs.length : Int)) := by simpa using hc110
  refine W.skip (N.seq (W.seq (W.region (WL.loadN (cs := [.slice adv1 So.fs.length capv1, .slice adv2 So.gs.length capv2]) agg_32 rfl rfl rfl rfl (hS.cells 0 (m := 2) rfl rfl) ?_))))
  refine WL.store (L' := [(b18, .cells #[.slice adv1 So.fs.length capv1, .slice adv2 So.gs.length capv2] 32 (0, 0)), (b1, .cells #[.slice adv1 So.fs.length capv1, .slice adv2 So.gs.length capv2] 32 (0, 0))]) 1 rfl rfl rfl rfl siz_32 rfl rfl rfl rfl rfl hS ?_
  clear hS; intro w112 hS
  refine WL.assign rfl rfl rfl (WL.nil (N.seq ?_))
  refine Fin.retCT rfl (v := .agg #[.slice adv1 So.fs.length capv1, .slice adv2 So.gs.length capv2]) (v' := .int .i64 0) rfl (tyAgg_run agg_32 (cs := [.slice adv1 So.fs.length capv1, .slice adv2 So.gs.length capv2]) rfl (hS.cells 1 (m := 2) rfl rfl)) rfl ?_
  have hlo2 : ¬ ks.any (lost10 (all9 (items9 ms)).1) = true := by rw [show (all9 (items9 ms)).1 = ds from hds.symm]; have h := hlo0; simpa using h
  have hie : i = ms.length := by omega
  have hSo3 : So = out10 (all9 (items9 ms)).1 ks (zip10 ms (nam10 (nms9 (items9 ms)) ms).1) := by rw [hSo, hie, ← gr1, List.take_of_length_le (Nat.le_of_eq (zip10_len (by rw [hgs, List.length_map, hgll]))), hds]
  have hbg : ¬ (16 < So.fs.length ∨ 16 < So.gs.length) := by omega
  have e : merge10 ms ks = (⟨So.fs, So.gs⟩, 0) := by unfold merge10; rw [if_pos he0, if_neg hlo2]; dsimp only; rw [← hSo3]; exact if_neg hbg
  rw [e]
  have hfin : Alike R2 ws2 (roFrom ro w w112) w112 := fun b hb => ⟨(hsub b hb).elim .inl (fun h => .inr ⟨h, (hS.snap b hb).1⟩), (hS.snap b hb).2⟩
  have hr1 := hS.rows _ List.mem_cons_self
  have hr2 := hS.rows _ (List.mem_cons_of_mem _ List.mem_cons_self)
  refine ⟨_, rfl, ⟨_, _, rfl, row_slv hr1 (hc1.mono fun _ _ h => h.keep hfin) rfl (fun x hx => .inr ((hS.keys x (by simp only [keysOf, List.mem_append, List.mem_filterMap]; exact .inr ⟨_, List.mem_cons_self, hx⟩)).imp id (·.1))), row_slv hr2 hc2 rfl (fun x hx => .inr ((hS.keys x (by simp only [keysOf, List.mem_append, List.mem_filterMap]; exact .inr ⟨_, (List.mem_cons_of_mem _ List.mem_cons_self), hx⟩)).imp id (·.1)))⟩, hS.below⟩
 refine WL.set 219 (v' := .bool true) rfl (by rw [hg109]) ?_
 refine WL.set 220 (v' := .bool true) rfl (by rw [hg109]) ?_
 have hg109p : 16 < (So.fs.length : Int) := by simpa using hg109
 refine WL.skp rfl rfl (WL.skp rfl rfl (WL.skp rfl rfl (WL.skp rfl rfl (WL.pick (v := .bool true) rfl rfl rfl rfl rfl rfl (WL.nil (N.seq (W.condT rfl (W.seq (W.region ?_)))))))))
 refine WL.build (ps := []) (cs := [.slice none 0 0, .slice none 0 0]) rfl rfl rfl (by kernel_rfl) ?_
 refine WL.store (L' := [(b18, .cells #[.slice adv1 So.fs.length capv1, .slice adv2 So.gs.length capv2] 32 (0, 0)), (b1, .cells #[.slice none 0 0, .slice none 0 0] 32 (0, 0))]) 1 rfl rfl rfl rfl siz_32 rfl rfl rfl rfl rfl hS ?_
 clear hS; intro w113 hS
 refine WL.assign rfl rfl rfl (WL.nil (N.seq ?_))
 refine Fin.retCT rfl (v := .agg #[.slice none 0 0, .slice none 0 0]) (v' := .int .i64 4) rfl (tyAgg_run agg_32 (cs := [.slice none 0 0, .slice none 0 0]) rfl (hS.cells 1 (m := 2) rfl rfl)) rfl ?_
 have hlo2 : ¬ ks.any (lost10 (all9 (items9 ms)).1) = true := by rw [show (all9 (items9 ms)).1 = ds from hds.symm]; have h := hlo0; simpa using h
 have hie : i = ms.length := by omega
 have hSo3 : So = out10 (all9 (items9 ms)).1 ks (zip10 ms (nam10 (nms9 (items9 ms)) ms).1) := by rw [hSo, hie, ← gr1, List.take_of_length_le (Nat.le_of_eq (zip10_len (by rw [hgs, List.length_map, hgll]))), hds]
 have hbg : (16 < So.fs.length ∨ 16 < So.gs.length) := by omega
 have e : merge10 ms ks = (⟨[], []⟩, 4) := by unfold merge10; rw [if_pos he0, if_neg hlo2]; dsimp only; rw [← hSo3]; exact if_pos hbg
 rw [e]
 exact ⟨_, rfl, ⟨_, _, rfl, slv_nil, slv_nil⟩, hS.below⟩

end Go.Proofs.YtapjejjmhmdmdaaDoor
