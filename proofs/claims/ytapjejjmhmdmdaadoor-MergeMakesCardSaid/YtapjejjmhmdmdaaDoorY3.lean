/-
  Contracts of layer 10 (merge). No condition beyond those that each theorem states.
-/
import Derived.Test.YtapjejjmhmdmdaaDoorY2
import Derived.Test.YtapjejjmhmdmdaaDoorZ12
namespace Go.Proofs.YtapjejjmhmdmdaaDoor
open Go.RowKit
theorem agg_94 : tyAgg Tryd.prog 94 2 = true := by kernel_rfl
theorem byt_94 : (Tryd.prog.info? 94).map (·.bytes) = some 48 := by kernel_rfl
theorem fo_94_0 : fOff Tryd.prog 94 0 0 = true := by kernel_rfl
theorem fo_94_1 : fOff Tryd.prog 94 1 1 = true := by kernel_rfl
theorem siz_94 : tySize Tryd.prog 94 2 = true := by kernel_rfl
theorem zer_94 : tyZero Tryd.prog 94 = some [.slice none 0 0, .slice none 0 0] := by kernel_rfl
def lcF (l : List DFunc) : List ByteArray := (l.filter fun f => decide (f.bind = 1)).map (·.name)
def lcG (l : List DGlob) : List ByteArray := (l.filter fun f => decide (f.bind = 1)).map (·.name)
def locs (m : DMod) : List ByteArray := lcF m.funcs ++ lcG m.globs
abbrev Giv := List ByteArray × List ByteArray
def gstep (t : List ByteArray) (s : Giv × Nat) (x : ByteArray) : Giv × Nat := if x ∈ s.1.1 then s else ((s.1.1 ++ [x], s.1.2 ++ [dot10 (loc10 t s.2)]), loc10 t s.2 + 1)
def gmod (t : List ByteArray) (n : Nat) (l : List ByteArray) : Giv × Nat := l.foldl (gstep t) (([], []), n)
def gnam (t : List ByteArray) (ms : List DMod) : List Giv × Nat := ms.foldl (fun s m => (s.1 ++ [(gmod t s.2 (locs m)).1], (gmod t s.2 (locs m)).2)) ([], 0)
theorem gmod_next {t : List ByteArray} {n : Nat} {l : List ByteArray} {k : Nat} {x : ByteArray} (h : l[k]? = some x) : gmod t n (l.take (k + 1)) = gstep t (gmod t n (l.take k)) x := by
  unfold gmod; rw [take_next h, List.foldl_append]; rfl
theorem gnam_next {t : List ByteArray} {ms : List DMod} {i : Nat} {m : DMod} (h : ms[i]? = some m) : gnam t (ms.take (i + 1)) = ((gnam t (ms.take i)).1 ++ [(gmod t (gnam t (ms.take i)).2 (locs m)).1], (gmod t (gnam t (ms.take i)).2 (locs m)).2) := by
  unfold gnam; rw [take_next h, List.foldl_append]; rfl
theorem gstep_had {t : List ByteArray} {s : Giv × Nat} {x : ByteArray} (h : x ∈ s.1.1) : gstep t s x = s := if_pos h
theorem gstep_new {t : List ByteArray} {s : Giv × Nat} {x : ByteArray} (h : ¬ x ∈ s.1.1) : gstep t s x = ((s.1.1 ++ [x], s.1.2 ++ [dot10 (loc10 t s.2)]), loc10 t s.2 + 1) := if_neg h
theorem lcF_next {l : List DFunc} {k : Nat} {x : DFunc} (h : l[k]? = some x) : lcF (l.take (k + 1)) = lcF (l.take k) ++ (if x.bind = 1 then [x.name] else []) := by
  unfold lcF; rw [take_next h, List.filter_append, List.map_append]
  congr 1
  by_cases hb : x.bind = 1 <;> simp [hb]
theorem lcG_next {l : List DGlob} {k : Nat} {x : DGlob} (h : l[k]? = some x) : lcG (l.take (k + 1)) = lcG (l.take k) ++ (if x.bind = 1 then [x.name] else []) := by
  unfold lcG; rw [take_next h, List.filter_append, List.map_append]
  congr 1
  by_cases hb : x.bind = 1 <;> simp [hb]
theorem lcF_le (l : List DFunc) : (lcF l).length ≤ l.length := by unfold lcF; rw [List.length_map]; exact List.length_filter_le _ _
theorem lcG_le (l : List DGlob) : (lcG l).length ≤ l.length := by unfold lcG; rw [List.length_map]; exact List.length_filter_le _ _
theorem locs_le (m : DMod) : (locs m).length ≤ (its10 m).length := by
  have h1 := lcF_le m.funcs; have h2 := lcG_le m.globs
  rw [its_len]; unfold locs; rw [List.length_append]; omega
/-- What a row of old names and a row of new ones say of a name. -/
def lkp : List ByteArray → List ByteArray → ByteArray → Option ByteArray
  | a :: us, b :: vs, s => if a = s then some b else lkp us vs s
  | _, _, _ => none
theorem lkp_mem : ∀ (us vs : List ByteArray), us.length = vs.length → ∀ s, (lkp us vs s).isSome = decide (s ∈ us)
  | [], [], _, s => by simp [lkp]
  | a :: us, b :: vs, h, s => by
    unfold lkp
    by_cases e : a = s
    · rw [if_pos e]; simp [e]
    · rw [if_neg e, lkp_mem us vs (by simpa using h) s]
      have : ¬ s = a := fun q => e q.symm
      simp [this]
  | [], b :: vs, h, s => by simp at h
  | a :: us, [], h, s => by simp at h
theorem lkp_snoc : ∀ (us vs : List ByteArray), us.length = vs.length → ∀ a b s, lkp (us ++ [a]) (vs ++ [b]) s = if s ∈ us then lkp us vs s else if a = s then some b else none
  | [], [], _, a, b, s => by simp [lkp]
  | c :: us, d :: vs, h, a, b, s => by
    simp only [List.cons_append, lkp]
    by_cases e : c = s
    · rw [if_pos e, if_pos e, if_pos (by simp [e])]
    · have h2 : (s ∈ c :: us) ↔ s ∈ us := by simp only [List.mem_cons]; exact ⟨fun q => q.elim (fun q => absurd q.symm e) id, .inr⟩
      rw [if_neg e, if_neg e, lkp_snoc us vs (by simpa using h) a b s]
      by_cases hm : s ∈ us
      · rw [if_pos hm, if_pos (h2.2 hm)]
      · rw [if_neg hm, if_neg (fun q => hm (h2.1 q))]
  | [], d :: vs, h, a, b, s => by simp at h
  | c :: us, [], h, a, b, s => by simp at h
def rG (x : Giv) : Ren := lkp x.1 x.2
structure GR (G : Giv × Nat) (s : Ren × Nat) : Prop where
  len : G.1.1.length = G.1.2.length
  eq : rG G.1 = s.1
  num : G.2 = s.2
theorem gr_step {t : List ByteArray} {G : Giv × Nat} {s : Ren × Nat} (h : GR G s) (x : ByteArray) : GR (gstep t G x) (give10 t s (x, 1)) := by
  obtain ⟨h1, h2, h3⟩ := h
  have hm : (s.1 x).isSome = decide (x ∈ G.1.1) := by rw [← h2]; exact lkp_mem _ _ h1 x
  by_cases hx : x ∈ G.1.1
  · rw [gstep_had hx, give10_no2 (by rw [hm]; simp [hx])]; exact ⟨h1, h2, h3⟩
  · rw [gstep_new hx, give10_yes rfl (by rw [hm]; simp [hx]), h3]
    refine ⟨by simp [h1], ?_, rfl⟩
    funext y
    show lkp (G.1.1 ++ [x]) (G.1.2 ++ [dot10 (loc10 t s.2)]) y = _
    rw [lkp_snoc _ _ h1]
    show _ = updG s.1 x _ y
    unfold updG
    by_cases e : y = x
    · subst e; rw [if_neg hx, if_pos rfl, if_pos rfl]
    · rw [if_neg e, ← h2]
      by_cases hy : y ∈ G.1.1
      · rw [if_pos hy]; rfl
      · rw [if_neg hy, if_neg (fun q => e q.symm)]
        have := lkp_mem _ _ h1 y
        rw [decide_eq_false hy] at this
        show none = lkp G.1.1 G.1.2 y
        cases e2 : lkp G.1.1 G.1.2 y with
        | none => rfl
        | some v => rw [e2] at this; simp at this
theorem fold_F (t : List ByteArray) : ∀ (l : List DFunc) (s : Ren × Nat), (l.map fun f => (f.name, f.bind)).foldl (give10 t) s = (lcF l).foldl (fun s x => give10 t s (x, 1)) s
  | [], s => rfl
  | f :: l, s => by
    rw [List.map_cons, List.foldl_cons, fold_F t l]
    unfold lcF
    by_cases hb : f.bind = 1
    · rw [List.filter_cons_of_pos (by simp [hb]), List.map_cons, List.foldl_cons, hb]
    · rw [List.filter_cons_of_neg (by simp [hb]), give10_no1 hb]
theorem fold_G (t : List ByteArray) : ∀ (l : List DGlob) (s : Ren × Nat), (l.map fun f => (f.name, f.bind)).foldl (give10 t) s = (lcG l).foldl (fun s x => give10 t s (x, 1)) s
  | [], s => rfl
  | f :: l, s => by
    rw [List.map_cons, List.foldl_cons, fold_G t l]
    unfold lcG
    by_cases hb : f.bind = 1
    · rw [List.filter_cons_of_pos (by simp [hb]), List.map_cons, List.foldl_cons, hb]
    · rw [List.filter_cons_of_neg (by simp [hb]), give10_no1 hb]
theorem gr_fold {t : List ByteArray} : ∀ (l : List ByteArray) {G : Giv × Nat} {s : Ren × Nat}, GR G s → GR (l.foldl (gstep t) G) (l.foldl (fun s x => give10 t s (x, 1)) s)
  | [], _, _, h => h
  | x :: l, _, _, h => gr_fold l (gr_step h x)
theorem gmod_rel (t : List ByteArray) (n : Nat) (m : DMod) : GR (gmod t n (locs m)) (mod10 t n (its10 m)) := by
  have e : mod10 t n (its10 m) = (locs m).foldl (fun s x => give10 t s (x, 1)) (fun _ => none, n) := by
    unfold mod10 its10 locs
    rw [List.foldl_append, List.foldl_append, fold_F, fold_G]
  rw [e]
  exact gr_fold _ ⟨rfl, by funext s; rfl, rfl⟩
theorem gnam_rel (t : List ByteArray) (ms : List DMod) : (gnam t ms).1.map rG = (nam10 t ms).1 ∧ (gnam t ms).2 = (nam10 t ms).2 ∧ ∀ g ∈ (gnam t ms).1, g.1.length = g.2.length := by
  induction ms using snoc_ind with
  | h0 => exact ⟨rfl, rfl, fun g hg => by cases hg⟩
  | h1 l m ih =>
    obtain ⟨h1, h2, h3⟩ := ih
    have e1 : gnam t (l ++ [m]) = ((gnam t l).1 ++ [(gmod t (gnam t l).2 (locs m)).1], (gmod t (gnam t l).2 (locs m)).2) := by unfold gnam; rw [List.foldl_append]; rfl
    have e2 : nam10 t (l ++ [m]) = namStep t (nam10 t l) m := by unfold nam10; rw [List.foldl_append]; rfl
    have r := gmod_rel t (gnam t l).2 m
    rw [h2] at r e1
    rw [e1, e2]
    refine ⟨?_, r.num, fun g hg => ?_⟩
    · show List.map rG (_ ++ [_]) = _ ++ [_]
      rw [List.map_append, h1, List.map_singleton, r.eq]
    · rcases List.mem_append.1 hg with hg | hg
      · exact h3 g hg
      · rw [List.mem_singleton.1 hg]; exact r.len
theorem gstep_num {t : List ByteArray} (ht : t.length ≤ 1048576) (s : Giv × Nat) (x : ByteArray) : (gstep t s x).2 ≤ s.2 + 1048577 := by
  unfold gstep
  split
  · omega
  · have := loc10_bounds t s.2; simp only; omega
theorem gmod_num {t : List ByteArray} (ht : t.length ≤ 1048576) (n : Nat) (l : List ByteArray) : (gmod t n l).2 ≤ n + l.length * 1048577 := by
  induction l using snoc_ind with
  | h0 => show n ≤ _; omega
  | h1 l x ih =>
    have e : gmod t n (l ++ [x]) = gstep t (gmod t n l) x := by unfold gmod; rw [List.foldl_append]; rfl
    have := gstep_num ht (gmod t n l) x
    rw [e, List.length_append, List.length_singleton]; omega
def GivC (ro : Nat → Prop) (w : World) (cs : List Value) (x : Giv) : Prop := ∃ s1 s2, cs = [s1, s2] ∧ SlV ro w 1 StrC s1 x.1 ∧ SlV ro w 1 StrC s2 x.2
theorem GivC.keep {ro ro' : Nat → Prop} {w w' : World} {cs : List Value} {x : Giv} (h : GivC ro w cs x) (ha : Alike ro w ro' w') : GivC ro' w' cs x := by
  obtain ⟨s1, s2, h1, h2, h3⟩ := h
  exact ⟨s1, s2, h1, SlV.keep h2 ha (fun _ _ q => q), SlV.keep h3 ha (fun _ _ q => q)⟩

set_option maxRecDepth 10000 in
set_option maxHeartbeats 4000000 in
theorem names10r_ret (ms : List DMod) (vx : Value) {w : World} {ro : Nat → Prop} (hro : ∀ b, ro b → b < w.heap.size) (hx : SlV ro w 2 (ModC ro w) vx ms) (hml : ms.length ≤ 16) (hit : ∀ m ∈ ms, (its10 m).length ≤ 32) (hmx : (items9 ms).length ≤ 1048576) : Ret Tryd.prog 34 #[vx] w fun v w' => SlV (roFrom ro w w') w' 2 (GivC (roFrom ro w w') w') v (gnam (nms9 (items9 ms)) ms).1 ∧ Below w.heap.size w w' := by
 have hxo := hx
 obtain ⟨adl, capl, rfl, hla, hlb, hlc, hld⟩ := hxo
 have hlm : ms.length ≤ 9223372036854775807 := slv_len hx
 refine Ret.enter (P := Tryd.prog) (n := 129) (args := [.slice adl ms.length capl]) (σ := [(0, .slice adl ms.length capl)]) Tryd.func34 rfl rfl rfl rfl ?_
 have hS := St.start (ro := ro) hro
 have hsub : ∀ b, ro b → ro b ∨ w.heap.size ≤ b := fun _ h => .inl h
 refine W.seq (W.region (WL.assign rfl rfl rfl (WL.nil (N.seq (W.seq (W.region (WL.move rfl rfl rfl ?_)))))))
 refine WL.callF (vs := [.slice adl ms.length capl]) Tryd.func11 (by kernel_rfl) rfl rfl rfl (rNames_ret ms _ (ro := ro) (fun b hb => (hS.snap b hb).1) (SlV.keep hx hS.alike (fun _ _ q => q.keep hS.alike)) hmx) ?_
 rintro vn w1 ⟨hnv, hbl⟩
 have hal2 := hS.alikeTo hbl (ro' := (roFrom ro w w1)) (fun b hb => .inl hb)
 replace hsub : ∀ b, (roFrom ro w w1) b → ro b ∨ w.heap.size ≤ b := fun b hb => hb.elim (hsub b) (fun h => .inr (Nat.le_trans hS.below.size h.1))
 replace hld := hld.keep hal2 (fun _ _ h => h.keep hal2)
 replace hx := SlV.keep hx hal2 (fun _ _ h => h.keep hal2)
 replace hS := hS.readNew hbl
 obtain ⟨ns, hns2⟩ : ∃ ns, ns = nms9 (items9 ms) := ⟨_, rfl⟩
 rw [← hns2] at hnv
 replace hnv := SlV.keep hnv (ro' := (roFrom ro w w1)) (w' := w1) (Q' := StrC) (fun x hx => ⟨.inr hx, rfl⟩) (fun _ _ h => h)
 obtain ⟨adn, capn, rfl, hna, hnb, hnc, hnd⟩ := id hnv
 have hnm : ns.length ≤ 9223372036854775807 := by have h1 := hna; have h2 := hnb; unfold maxLen at h2; omega
 have hnl : ns.length ≤ 1048576 := by rw [hns2]; exact Nat.le_trans (nms9_length _) hmx
 refine WL.assign rfl rfl rfl (WL.nil (N.seq (W.seq (W.region (WL.assign rfl rfl rfl (WL.nil (N.seq (W.seq (W.region ?_)))))))))
 refine WL.assign rfl rfl rfl (WL.nil (N.seq (W.seq (W.seq (W.region (WL.assign rfl rfl rfl (WL.nil (N.seq (W.block ?_)))))))))
 replace hS := hS.row0 94 2
 refine W.loop (α := Nat × Value × List Value × Nat × (Nat → Prop) × World) (fun ⟨i, v, cs, n0, R2, ws2⟩ => [(0, .slice adl ms.length capl), (2, .slice none 0 0), (3, .slice adn ns.length capn), (4, .int .i64 (n0 : Int)), (5, v), (6, .int .i64 (i : Int))]) (fun ⟨i, v, cs, n0, R2, ws2⟩ u => St w ws2 u R2 [] [⟨v, 94, 2, i, cs⟩] ∧ i ≤ ms.length ∧ Chunks 2 (GivC R2 ws2) cs (gnam ns (ms.take i)).1 ∧ n0 = (gnam ns (ms.take i)).2 ∧ Alike (roFrom ro w w1) w1 R2 ws2 ∧ (∀ b, R2 b → ro b ∨ w.heap.size ≤ b)) (fun ⟨i, v, cs, n0, R2, ws2⟩ => ms.length - i) (0, (.slice none 0 0), [], 0, (roFrom ro w w1), w1) ⟨rfl, rfl, rfl, rfl, rfl, rfl, trivial⟩ ⟨hS, Nat.zero_le _, Chunks.nil, rfl, Alike.refl, hsub⟩ ?_
 clear hS
 rintro ⟨i, v, cs, n0, R2, ws2⟩ w3 ⟨hS, hi, hch, hn0, halL0, hsub⟩
 replace hld := hld.keep halL0 (fun _ _ h => h.keep halL0)
 replace hx := SlV.keep hx halL0 (fun _ _ h => h.keep halL0)
 replace hnv := SlV.keep hnv halL0 (fun _ _ h => h)
 have hrow : w3.ownsRow w.heap.size 94 2 v (i) _ := hS.rows _ List.mem_cons_self
 obtain ⟨adv, capv, rfl, hr1v, hr2v, hr3v⟩ := row_shape hrow
 clear hrow
 have hnr := nam10_num hnl (ms.take i) (fun m hm => hit m (List.mem_of_mem_take hm))
 rw [← (gnam_rel ns (ms.take i)).2.1, List.length_take, Nat.min_eq_left hi, ← hn0] at hnr
 refine W.seq (W.seq (W.region (WL.move rfl rfl rfl (WL.move rfl rfl rfl (WL.lenSlice Tryd.underlying22 rfl rfl rfl (WL.bin rfl rfl rfl rfl rfl (WL.nil (N.seq ?_))))))))
 refine W.cond rfl (fun hc4 => ?_) (fun hc4 => ?_)
 ·
  have hc4p : (i : Int) < (ms.length : Int) := by simpa using hc4
  refine W.skip (N.seq (W.seq (W.block (W.seq (W.region (WL.assign rfl rfl rfl (WL.nil (N.seq (W.seq ?_)))))))))
  refine W.seq (W.region (WL.assign rfl rfl rfl (WL.nil (N.seq (W.block ?_)))))
  replace hS := hS.row0 9 1
  have hj5 : i < ms.length := by omega
  obtain ⟨x5, hx5⟩ : ∃ zz, ms[i]? = some zz := ⟨_, List.getElem?_eq_getElem hj5⟩
  obtain ⟨b5, o5, cs5, hE5, hr5, hl5, hc5, hQ5⟩ := hld i _ hx5
  obtain ⟨sf5, sg5, rfl, hfs5, hgs5⟩ := id hQ5
  obtain ⟨adf5, capf5, rfl, hfs5a, hfs5b, hfs5c, hfs5d⟩ := id hfs5
  have hfs5m : x5.funcs.length ≤ 9223372036854775807 := by have h1 := hfs5a; have h2 := hfs5b; unfold maxLen at h2; omega
  obtain ⟨adg5, capg5, rfl, hgs5a, hgs5b, hgs5c, hgs5d⟩ := id hgs5
  have hgs5m : x5.globs.length ≤ 9223372036854775807 := by have h1 := hgs5a; have h2 := hgs5b; unfold maxLen at h2; omega
  have hitl := hit x5 (List.mem_of_getElem? hx5)
  have hloc := locs_le x5
  rw [its_len] at hitl
  refine W.loop (α := Nat × Value × List Value × Nat) (fun ⟨kf, v1, cs1, q1⟩ => [(0, .slice adl ms.length capl), (2, .slice none 0 0), (3, .slice adn ns.length capn), (4, .int .i64 (n0 : Int)), (5, .slice adv i capv), (6, .int .i64 (i : Int)), (7, v1), (8, .int .i64 (kf : Int))]) (fun ⟨kf, v1, cs1, q1⟩ u => St w ws2 u R2 [] [⟨v1, 9, 1, q1, cs1⟩, ⟨.slice adv i capv, 94, 2, i, cs⟩] ∧ kf ≤ x5.funcs.length ∧ Chunks 1 StrC cs1 (lcF (x5.funcs.take kf)) ∧ q1 = (lcF (x5.funcs.take kf)).length ∧ q1 ≤ kf) (fun ⟨kf, v1, cs1, q1⟩ => x5.funcs.length - kf) (0, (.slice none 0 0), [], 0) ⟨rfl, rfl, rfl, rfl, rfl, rfl, rfl, rfl, trivial⟩ ⟨hS, Nat.zero_le _, Chunks.nil, rfl, Nat.zero_le _⟩ ?_
  clear hS
  rintro ⟨kf, v1, cs1, q1⟩ w6 ⟨hS, hkf, hc1, hq1, hqk1⟩
  have hrow : w6.ownsRow w.heap.size 9 1 v1 (q1) _ := hS.rows _ List.mem_cons_self
  obtain ⟨adv1, capv1, rfl, hr1v1, hr2v1, hr3v1⟩ := row_shape hrow
  clear hrow
  refine W.seq (W.seq (W.region (WL.move rfl rfl rfl (WL.move rfl rfl rfl (WL.move rfl rfl rfl (WL.indexAddrE (j := i) Tryd.underlying22 isz_32 rfl rfl rfl rfl hj5 hE5 (WL.fieldAddr fo_32_0 rfl rfl rfl (WL.load1 (v := .slice adf5 x5.funcs.length capf5) one_29 rfl rfl rfl (hS.roCells hr5 hc5 0 _ rfl) (WL.lenSlice Tryd.underlying29 rfl rfl rfl ?_)))))))))
  refine WL.bin rfl rfl rfl rfl rfl (WL.nil (N.seq ?_))
  refine W.cond rfl (fun hc7 => ?_) (fun hc7 => ?_)
  ·
   have hc7p : (kf : Int) < (x5.funcs.length : Int) := by simpa using hc7
   refine W.skip (N.seq (W.seq (W.block (W.seq (W.region (WL.move rfl rfl rfl (WL.move rfl rfl rfl (WL.indexAddrE (j := i) Tryd.underlying22 isz_32 rfl rfl rfl rfl hj5 hE5 (WL.fieldAddr fo_32_0 rfl rfl rfl ?_)))))))))
   refine WL.load1 (v := .slice adf5 x5.funcs.length capf5) one_29 rfl rfl rfl (hS.roCells hr5 hc5 0 _ rfl) (WL.move rfl rfl rfl ?_)
   have hj8 : kf < x5.funcs.length := by omega
   obtain ⟨x8, hx8⟩ : ∃ zz, x5.funcs[kf]? = some zz := ⟨_, List.getElem?_eq_getElem hj8⟩
   obtain ⟨b8, o8, cs8, hE8, hr8, hl8, hc8, hQ8⟩ := hfs5d kf _ hx8
   obtain ⟨sb8, rfl, hbl8, hnm8, hbd8, hpr8⟩ := id hQ8
   obtain ⟨adb8, capb8, rfl, hbk8a, hbk8b, hbk8c, hbk8d⟩ := id hbl8
   have hbk8m : x8.blocks.length ≤ 9223372036854775807 := by have h1 := hbk8a; have h2 := hbk8b; unfold maxLen at h2; omega
   refine WL.indexAddrE (j := kf) Tryd.underlying29 isz_35 rfl rfl rfl rfl hj8 hE8 (WL.fieldAddr fo_35_1 rfl rfl rfl (WL.load1 (v := .int .i64 x8.bind) one_3 rfl rfl rfl (hS.roCells hr8 hc8 1 _ rfl) (WL.bin rfl rfl rfl rfl rfl (WL.nil (N.seq ?_)))))
   refine W.cond rfl (fun hc9 => ?_) (fun hc9 => ?_)
   ·
    have hc9p : x8.bind = 1 := by simpa using hc9
    refine W.region (WL.move rfl rfl rfl (WL.move rfl rfl rfl (WL.move rfl rfl rfl (WL.indexAddrE (j := i) Tryd.underlying22 isz_32 rfl rfl rfl rfl hj5 hE5 (WL.fieldAddr fo_32_0 rfl rfl rfl (WL.load1 (v := .slice adf5 x5.funcs.length capf5) one_29 rfl rfl rfl (hS.roCells hr5 hc5 0 _ rfl) (WL.move rfl rfl rfl (WL.indexAddrE (j := kf) Tryd.underlying29 isz_35 rfl rfl rfl rfl hj8 hE8 (WL.fieldAddr fo_35_0 rfl rfl rfl ?_)))))))))
    refine WL.load1 (v := .string x8.name) one_9 rfl rfl rfl (hS.roCells hr8 hc8 0 _ rfl) ?_
    refine WL.buildSlice (ps := [(0, .string x8.name)]) (cs := [.string x8.name]) Tryd.underlying25 (tyZero_spec zer_9) rfl rfl rfl rfl (by kernel_rfl) hS ?_
    clear hS; intro w11 b10 hb_b10 hS
    refine WL.append (r := ⟨.slice adv1 q1 capv1, 9, 1, q1, cs1⟩) (cs := [.string x8.name]) 16 Tryd.underlying25 (tyZero_spec zer_9) byt_9 rfl rfl rfl rfl rfl rfl rfl rfl rfl hS (by unfold maxLen; simp only; omega) (by simp only; omega) ?_
    clear hS; intro w12 v13 hn_v13 hS
    have hrow : w12.ownsRow w.heap.size 9 1 v13 (q1 + 1) _ := hS.rows _ List.mem_cons_self
    obtain ⟨av13, cv13, rfl, hc1_v13, hc2_v13, hc3_v13⟩ := row_shape hrow
    clear hrow
    refine WL.assign rfl rfl rfl (WL.nil (N.blk (N.seq (W.region (WL.move rfl rfl rfl ?_)))))
    refine WL.add (c := (kf : Int) + 1) rfl rfl rfl rfl (rfl) (by omega) ?_
    refine WL.assign rfl rfl rfl (WL.nil ?_)
    have hc5 : Chunks 1 StrC (cs1 ++ ([.string x8.name] : List Value)) (lcF (x5.funcs.take (kf + 1))) := by rw [lcF_next hx8, if_pos hc9p]; exact hc1.snoc rfl ⟨rfl, hnm8⟩
    have hq5 : q1 + 1 = (lcF (x5.funcs.take (kf + 1))).length := by rw [lcF_next hx8, if_pos hc9p, hq1]; simp; try omega
    exact N.loop (kf + 1, .slice av13 (q1 + 1) cv13, cs1 ++ ([.string x8.name] : List Value), q1 + 1) ⟨rfl, rfl, rfl, rfl, rfl, rfl, rfl, rfl, trivial⟩ ⟨hS, by omega, hc5, hq5, by omega⟩ (by first | omega | (simp only; omega))
   have hc9p : ¬ (x8.bind = 1) := by simpa using hc9
   refine W.skip (N.blk (N.seq (W.region (WL.move rfl rfl rfl ?_))))
   refine WL.add (c := (kf : Int) + 1) rfl rfl rfl rfl (rfl) (by omega) ?_
   refine WL.assign rfl rfl rfl (WL.nil ?_)
   have hc5 : Chunks 1 StrC (cs1) (lcF (x5.funcs.take (kf + 1))) := by rw [lcF_next hx8, if_neg hc9p, List.append_nil]; exact hc1
   have hq5 : q1 = (lcF (x5.funcs.take (kf + 1))).length := by rw [lcF_next hx8, if_neg hc9p, List.append_nil]; exact hq1
   exact N.loop (kf + 1, .slice adv1 q1 capv1, cs1, q1) ⟨rfl, rfl, rfl, rfl, rfl, rfl, rfl, rfl, trivial⟩ ⟨hS, by omega, hc5, hq5, by omega⟩ (by first | omega | (simp only; omega))
  have hc7p : ¬ ((kf : Int) < (x5.funcs.length : Int)) := by simpa using hc7
  refine W.exit (X.seq (X.loop (X.blk (N.seq (W.seq (W.seq (W.region (WL.assign rfl rfl rfl (WL.nil ?_)))))))))
  refine N.seq (W.block ?_)
  have hkf : kf = x5.funcs.length := by omega
  rw [hkf, List.take_length] at hc1 hq1
  refine W.loop (α := Nat × Value × List Value × Nat) (fun ⟨kg, v2, cs2, q2⟩ => [(0, .slice adl ms.length capl), (2, .slice none 0 0), (3, .slice adn ns.length capn), (4, .int .i64 (n0 : Int)), (5, .slice adv i capv), (6, .int .i64 (i : Int)), (7, v2), (9, .int .i64 (kg : Int))]) (fun ⟨kg, v2, cs2, q2⟩ u => St w ws2 u R2 [] [⟨v2, 9, 1, q2, cs2⟩, ⟨.slice adv i capv, 94, 2, i, cs⟩] ∧ kg ≤ x5.globs.length ∧ Chunks 1 StrC cs2 (lcF x5.funcs ++ lcG (x5.globs.take kg)) ∧ q2 = (lcF x5.funcs ++ lcG (x5.globs.take kg)).length ∧ q2 ≤ x5.funcs.length + kg) (fun ⟨kg, v2, cs2, q2⟩ => x5.globs.length - kg) (0, .slice adv1 q1 capv1, cs1, q1) ⟨rfl, rfl, rfl, rfl, rfl, rfl, rfl, rfl, trivial⟩ ⟨hS, Nat.zero_le _, by simpa [lcG] using hc1, by simpa [lcG] using hq1, by omega⟩ ?_
  clear hS
  rintro ⟨kg, v2, cs2, q2⟩ w14 ⟨hS, hkg, hc2, hq2, hqk2⟩
  have hrow : w14.ownsRow w.heap.size 9 1 v2 (q2) _ := hS.rows _ List.mem_cons_self
  obtain ⟨adv2, capv2, rfl, hr1v2, hr2v2, hr3v2⟩ := row_shape hrow
  clear hrow
  refine W.seq (W.seq (W.region (WL.move rfl rfl rfl (WL.move rfl rfl rfl (WL.move rfl rfl rfl (WL.indexAddrE (j := i) Tryd.underlying22 isz_32 rfl rfl rfl rfl hj5 hE5 (WL.fieldAddr fo_32_1 rfl rfl rfl (WL.load1 (v := .slice adg5 x5.globs.length capg5) one_30 rfl rfl rfl (hS.roCells hr5 hc5 1 _ rfl) (WL.lenSlice Tryd.underlying30 rfl rfl rfl ?_)))))))))
  refine WL.bin rfl rfl rfl rfl rfl (WL.nil (N.seq ?_))
  refine W.cond rfl (fun hc15 => ?_) (fun hc15 => ?_)
  ·
   have hc15p : (kg : Int) < (x5.globs.length : Int) := by simpa using hc15
   refine W.skip (N.seq (W.seq (W.block (W.seq (W.region (WL.move rfl rfl rfl (WL.move rfl rfl rfl (WL.indexAddrE (j := i) Tryd.underlying22 isz_32 rfl rfl rfl rfl hj5 hE5 (WL.fieldAddr fo_32_1 rfl rfl rfl ?_)))))))))
   refine WL.load1 (v := .slice adg5 x5.globs.length capg5) one_30 rfl rfl rfl (hS.roCells hr5 hc5 1 _ rfl) (WL.move rfl rfl rfl ?_)
   have hj16 : kg < x5.globs.length := by omega
   obtain ⟨x16, hx16⟩ : ∃ zz, x5.globs[kg]? = some zz := ⟨_, List.getElem?_eq_getElem hj16⟩
   obtain ⟨b16, o16, cs16, hE16, hr16, hl16, hc16, hQ16⟩ := hgs5d kg _ hx16
   obtain ⟨rfl, hgn16, hgb16, hgi16⟩ := hQ16
   refine WL.indexAddrE (j := kg) Tryd.underlying30 isz_38 rfl rfl rfl rfl hj16 hE16 (WL.fieldAddr fo_38_1 rfl rfl rfl (WL.load1 (v := .int .i64 x16.bind) one_3 rfl rfl rfl (hS.roCells hr16 hc16 1 _ rfl) (WL.bin rfl rfl rfl rfl rfl (WL.nil (N.seq ?_)))))
   refine W.cond rfl (fun hc17 => ?_) (fun hc17 => ?_)
   ·
    have hc17p : x16.bind = 1 := by simpa using hc17
    refine W.region (WL.move rfl rfl rfl (WL.move rfl rfl rfl (WL.move rfl rfl rfl (WL.indexAddrE (j := i) Tryd.underlying22 isz_32 rfl rfl rfl rfl hj5 hE5 (WL.fieldAddr fo_32_1 rfl rfl rfl (WL.load1 (v := .slice adg5 x5.globs.length capg5) one_30 rfl rfl rfl (hS.roCells hr5 hc5 1 _ rfl) (WL.move rfl rfl rfl (WL.indexAddrE (j := kg) Tryd.underlying30 isz_38 rfl rfl rfl rfl hj16 hE16 (WL.fieldAddr fo_38_0 rfl rfl rfl ?_)))))))))
    refine WL.load1 (v := .string x16.name) one_9 rfl rfl rfl (hS.roCells hr16 hc16 0 _ rfl) ?_
    refine WL.buildSlice (ps := [(0, .string x16.name)]) (cs := [.string x16.name]) Tryd.underlying25 (tyZero_spec zer_9) rfl rfl rfl rfl (by kernel_rfl) hS ?_
    clear hS; intro w19 b18 hb_b18 hS
    refine WL.append (r := ⟨.slice adv2 q2 capv2, 9, 1, q2, cs2⟩) (cs := [.string x16.name]) 16 Tryd.underlying25 (tyZero_spec zer_9) byt_9 rfl rfl rfl rfl rfl rfl rfl rfl rfl hS (by unfold maxLen; simp only; omega) (by simp only; omega) ?_
    clear hS; intro w20 v21 hn_v21 hS
    have hrow : w20.ownsRow w.heap.size 9 1 v21 (q2 + 1) _ := hS.rows _ List.mem_cons_self
    obtain ⟨av21, cv21, rfl, hc1_v21, hc2_v21, hc3_v21⟩ := row_shape hrow
    clear hrow
    refine WL.assign rfl rfl rfl (WL.nil (N.blk (N.seq (W.region (WL.move rfl rfl rfl ?_)))))
    refine WL.add (c := (kg : Int) + 1) rfl rfl rfl rfl (rfl) (by omega) ?_
    refine WL.assign rfl rfl rfl (WL.nil ?_)
    have hc5 : Chunks 1 StrC (cs2 ++ ([.string x16.name] : List Value)) (lcF x5.funcs ++ lcG (x5.globs.take (kg + 1))) := by rw [lcG_next hx16, if_pos hc17p, ← List.append_assoc]; exact hc2.snoc rfl ⟨rfl, hgn16⟩
    have hq5 : q2 + 1 = (lcF x5.funcs ++ lcG (x5.globs.take (kg + 1))).length := by rw [lcG_next hx16, if_pos hc17p, hq2]; simp; try omega
    exact N.loop (kg + 1, .slice av21 (q2 + 1) cv21, cs2 ++ ([.string x16.name] : List Value), q2 + 1) ⟨rfl, rfl, rfl, rfl, rfl, rfl, rfl, rfl, trivial⟩ ⟨hS, by omega, hc5, hq5, by omega⟩ (by first | omega | (simp only; omega))
   have hc17p : ¬ (x16.bind = 1) := by simpa using hc17
   refine W.skip (N.blk (N.seq (W.region (WL.move rfl rfl rfl ?_))))
   refine WL.add (c := (kg : Int) + 1) rfl rfl rfl rfl (rfl) (by omega) ?_
   refine WL.assign rfl rfl rfl (WL.nil ?_)
   have hc5 : Chunks 1 StrC (cs2) (lcF x5.funcs ++ lcG (x5.globs.take (kg + 1))) := by rw [lcG_next hx16, if_neg hc17p, List.append_nil]; exact hc2
   have hq5 : q2 = (lcF x5.funcs ++ lcG (x5.globs.take (kg + 1))).length := by rw [lcG_next hx16, if_neg hc17p, List.append_nil]; exact hq2
   exact N.loop (kg + 1, .slice adv2 q2 capv2, cs2, q2) ⟨rfl, rfl, rfl, rfl, rfl, rfl, rfl, rfl, trivial⟩ ⟨hS, by omega, hc5, hq5, by omega⟩ (by first | omega | (simp only; omega))
  have hc15p : ¬ ((kg : Int) < (x5.globs.length : Int)) := by simpa using hc15
  refine W.exit (X.seq (X.loop (X.blk (N.seq (W.seq ?_)))))
  have hkg : kg = x5.globs.length := by omega
  rw [hkg, List.take_length] at hc2 hq2
  have hc2 : Chunks 1 StrC cs2 (locs x5) := hc2
  have hq2 : q2 = (locs x5).length := hq2
  have hal22 := hS.giveRowAlike
  replace hsub : ∀ b, (fun x => R2 x ∨ (.slice adv2 q2 capv2 : Value).ownBlock = some x) b → ro b ∨ w.heap.size ≤ b := fun b hb => hb.elim (hsub b) (fun h => .inr (hS.giveRowLe b h))
  replace halL0 := halL0.trans hal22
  replace hx := SlV.keep hx hal22 (fun _ _ h => h.keep hal22)
  replace hnv := SlV.keep hnv hal22 (fun _ _ h => h)
  replace hch := hch.mono fun _ _ h => h.keep hal22
  have hrow23 := hS.rows _ List.mem_cons_self
  replace hS := hS.giveRow
  have hlv : SlV (fun x => R2 x ∨ (.slice adv2 q2 capv2 : Value).ownBlock = some x) w14 1 StrC (.slice adv2 q2 capv2) (locs x5) := row_slv hrow23 hc2 hq2 (fun b hb => .inr hb)
  have hlvd : Elems (fun x => R2 x ∨ (.slice adv2 q2 capv2 : Value).ownBlock = some x) w14 1 StrC adv2 (locs x5) := by obtain ⟨_, _, e, _, _, _, h⟩ := id hlv; cases e; exact h
  refine W.set 7 (v' := .slice adv2 ((locs x5).length) capv2) rfl (by rw [hq2]) ?_
  refine W.region ?_
  refine WL.build (ps := []) (cs := [.slice none 0 0, .slice none 0 0]) rfl rfl rfl (by kernel_rfl) ?_
  refine WL.alloc (tyZero_spec zer_94) rfl rfl hS ?_
  clear hS; intro w25 b24 hb_b24 hS
  refine WL.store (L' := [(b24, .cells #[.slice none 0 0, .slice none 0 0] 94 (0, 0))]) 0 rfl rfl rfl rfl siz_94 rfl rfl rfl rfl rfl hS ?_
  clear hS; intro w26 hS
  refine WL.nil (N.seq (W.seq (W.seq (W.region (WL.assign rfl rfl rfl (WL.nil (N.seq (W.block ?_))))))))
  replace hS := hS.row0 9 1
  replace hS := hS.row0 9 1
  refine W.loop (α := Nat × Value × List Value × Value × List Value × Nat × Nat) (fun ⟨k, vo, co, vw, cw, qo, nn⟩ => [(0, .slice adl ms.length capl), (2, .slice none 0 0), (3, .slice adn ns.length capn), (4, .int .i64 (nn : Int)), (5, .slice adv i capv), (6, .int .i64 (i : Int)), (7, .slice adv2 ((locs x5).length) capv2), (10, .pointer (some ⟨b24, 0, none⟩)), (11, .int .i64 (k : Int))]) (fun ⟨k, vo, co, vw, cw, qo, nn⟩ u => St w w14 u (fun x => R2 x ∨ (.slice adv2 q2 capv2 : Value).ownBlock = some x) [(b24, .cells #[vo, vw] 94 (0, 0))] [⟨vo, 9, 1, qo, co⟩, ⟨vw, 9, 1, qo, cw⟩, ⟨.slice adv i capv, 94, 2, i, cs⟩] ∧ k ≤ (locs x5).length ∧ Chunks 1 StrC co (gmod ns n0 ((locs x5).take k)).1.1 ∧ Chunks 1 StrC cw (gmod ns n0 ((locs x5).take k)).1.2 ∧ qo = (gmod ns n0 ((locs x5).take k)).1.1.length ∧ qo = (gmod ns n0 ((locs x5).take k)).1.2.length ∧ qo ≤ k ∧ nn = (gmod ns n0 ((locs x5).take k)).2) (fun ⟨k, vo, co, vw, cw, qo, nn⟩ => (locs x5).length - k) (0, (.slice none 0 0), [], (.slice none 0 0), [], 0, n0) ⟨rfl, rfl, rfl, rfl, rfl, rfl, rfl, rfl, rfl, trivial⟩ ⟨hS, Nat.zero_le _, Chunks.nil, Chunks.nil, rfl, rfl, Nat.zero_le _, rfl⟩ ?_
  clear hS
  rintro ⟨k, vo, co, vw, cw, qo, nn⟩ w27 ⟨hS, hk, hco, hcw, hqo, hqw, hqk, hnu⟩
  have hrow : w27.ownsRow w.heap.size 9 1 vo (qo) _ := hS.rows _ List.mem_cons_self
  obtain ⟨advo, capvo, rfl, hr1vo, hr2vo, hr3vo⟩ := row_shape hrow
  clear hrow
  have hrow : w27.ownsRow w.heap.size 9 1 vw (qo) _ := hS.rows _ (List.mem_cons_of_mem _ List.mem_cons_self)
  obtain ⟨advw, capvw, rfl, hr1vw, hr2vw, hr3vw⟩ := row_shape hrow
  clear hrow
  have hnb := gmod_num hnl n0 ((locs x5).take k)
  rw [List.length_take, Nat.min_eq_left hk, ← hnu] at hnb
  refine W.seq (W.seq (W.region (WL.move rfl rfl rfl (WL.move rfl rfl rfl (WL.lenSlice Tryd.underlying25 rfl rfl rfl (WL.bin rfl rfl rfl rfl rfl (WL.nil (N.seq ?_))))))))
  refine W.cond rfl (fun hc28 => ?_) (fun hc28 => ?_)
  ·
   have hc28p : (k : Int) < ((locs x5).length : Int) := by simpa using hc28
   refine W.skip (N.seq (W.seq (W.block (W.seq ?_))))
   have hj29 : k < (locs x5).length := by omega
   obtain ⟨x29, hx29⟩ : ∃ zz, (locs x5)[k]? = some zz := ⟨_, List.getElem?_eq_getElem hj29⟩
   obtain ⟨b29, o29, cs29, hE29, hr29, hl29, hc29, hQ29⟩ := hlvd k _ hx29
   obtain ⟨rfl, hsz29⟩ := hQ29
   refine W.drawL (by kernel_rfl) 7 ((.q (.pointer (some ⟨b24, 0, none⟩))) :: (.q (.slice advo qo capvo)) :: (.q (.slice adv2 ((locs x5).length) capv2)) :: (.q (.int .i64 (k : Int))) :: (.q (.pointer (some ⟨b29, o29 + k * 1, none⟩))) :: (.q (.string x29)) :: (.q (.bool (decide (x29 ∈ (gmod ns n0 ((locs x5).take k)).1.1)))) :: []) (by kernel_rfl) (by kernel_rfl) [(0, .slice adl ms.length capl), (2, .slice none 0 0), (3, .slice adn ns.length capn), (4, .int .i64 (nn : Int)), (5, .slice adv i capv), (6, .int .i64 (i : Int)), (7, .slice adv2 ((locs x5).length) capv2), (10, .pointer (some ⟨b24, 0, none⟩)), (11, .int .i64 (k : Int))] ⟨rfl, rfl, rfl, rfl, rfl, rfl, rfl, rfl, rfl, trivial⟩ (by kernel_rfl) hS ?_ ?_
   ·
    refine And.intro (fun β w hS => ?_) ?_
    ·
     refine WL.sub (σ' := [(10, .pointer (some ⟨b24, 0, none⟩))]) ⟨rfl, trivial⟩ ?_
     refine WL.fieldAddr fo_94_0 rfl rfl rfl ?_
     exact WL.nil (N.cut () ⟨rfl, trivial⟩ (Below.refl _ _))
    refine And.intro (fun β w hS => ?_) ?_
    ·
     refine WL.sub (σ' := [(94, .pointer (some ⟨b24, 0, none⟩))]) ⟨rfl, trivial⟩ ?_
     refine WL.load1 (v := .slice advo qo capvo) one_25 rfl rfl rfl (hS.cell 0 rfl rfl) ?_
     exact WL.nil (N.cut () ⟨rfl, trivial⟩ (Below.refl _ _))
    refine And.intro (fun β w hS => ?_) ?_
    ·
     refine WL.sub (σ' := [(7, .slice adv2 ((locs x5).length) capv2)]) ⟨rfl, trivial⟩ ?_
     refine WL.move rfl rfl rfl ?_
     exact WL.nil (N.cut () ⟨rfl, trivial⟩ (Below.refl _ _))
    refine And.intro (fun β w hS => ?_) ?_
    ·
     refine WL.sub (σ' := [(11, .int .i64 (k : Int))]) ⟨rfl, trivial⟩ ?_
     refine WL.move rfl rfl rfl ?_
     exact WL.nil (N.cut () ⟨rfl, trivial⟩ (Below.refl _ _))
    refine And.intro (fun β w hS => ?_) ?_
    ·
     refine WL.sub (σ' := [(96, .slice adv2 ((locs x5).length) capv2), (97, .int .i64 (k : Int))]) ⟨rfl, rfl, trivial⟩ ?_
     refine WL.indexAddrE (j := k) Tryd.underlying25 isz_9 rfl rfl rfl rfl hj29 hE29 ?_
     exact WL.nil (N.cut () ⟨rfl, trivial⟩ (Below.refl _ _))
    refine And.intro (fun β w hS => ?_) ?_
    ·
     refine WL.sub (σ' := [(98, .pointer (some ⟨b29, o29 + k * 1, none⟩))]) ⟨rfl, trivial⟩ ?_
     refine WL.load1 (v := .string x29) one_9 rfl rfl rfl (hS.roCells hr29 hc29 0 _ rfl) ?_
     exact WL.nil (N.cut () ⟨rfl, trivial⟩ (Below.refl _ _))
    refine And.intro (fun β w hS => ?_) ?_
    ·
     refine WL.sub (σ' := [(95, .slice advo qo capvo), (99, .string x29)]) ⟨rfl, rfl, trivial⟩ ?_
     refine WL.callF (vs := [.slice advo qo capvo, .string x29]) Tryd.func35 (by kernel_rfl) rfl rfl rfl (has8_ret (gmod ns n0 ((locs x5).take k)).1.1 x29 _ (ro := fun z => z < w.heap.size) (fun _ h => h) (row_slv (hS.rows _ List.mem_cons_self) hco hqo (fun b hb => (hS.keys b (by simp only [keysOf, List.mem_append, List.mem_filterMap]; exact .inr ⟨_, List.mem_cons_self, hb⟩)).2.1))) ?_
     rintro v w31 ⟨rfl, hbl⟩
     replace hS := hS.grow hbl
     exact WL.nil (N.cut () ⟨rfl, trivial⟩ hbl)
    trivial
   clear hS; intro w32 β hS
   refine WL.sub (σ' := [(0, .slice adl ms.length capl), (2, .slice none 0 0), (3, .slice adn ns.length capn), (4, .int .i64 (nn : Int)), (5, .slice adv i capv), (6, .int .i64 (i : Int)), (7, .slice adv2 ((locs x5).length) capv2), (10, .pointer (some ⟨b24, 0, none⟩)), (11, .int .i64 (k : Int)), (100, .bool (decide (x29 ∈ (gmod ns n0 ((locs x5).take k)).1.1)))]) (Sub.ofEq (by kernel_rfl)) ?_
   refine WL.assign rfl rfl rfl (WL.nil (N.seq (W.seq (W.seq (W.region (WL.move rfl rfl rfl (WL.nil (N.seq ?_))))))))
   refine W.cond rfl (fun hc33 => ?_) (fun hc33 => ?_)
   ·
    have hc33p : x29 ∈ (gmod ns n0 ((locs x5).take k)).1.1 := by simpa using hc33
    refine W.exit (X.seq (X.blk (N.seq (W.region (WL.move rfl rfl rfl ?_)))))
    refine WL.add (c := (k : Int) + 1) rfl rfl rfl rfl (rfl) (by omega) ?_
    refine WL.assign rfl rfl rfl (WL.nil ?_)
    have hgn := gmod_next (t := ns) (n := n0) hx29
    rw [gstep_had hc33p] at hgn
    exact N.loop (k + 1, .slice advo qo capvo, co, .slice advw qo capvw, cw, qo, nn) ⟨rfl, rfl, rfl, rfl, rfl, rfl, rfl, rfl, rfl, trivial⟩ ⟨hS, by omega, by rw [hgn]; exact hco, by rw [hgn]; exact hcw, by rw [hgn]; exact hqo, by rw [hgn]; exact hqw, by omega, by rw [hgn]; exact hnu⟩ (by first | omega | (simp only; omega))
   have hc33p : ¬ (x29 ∈ (gmod ns n0 ((locs x5).take k)).1.1) := by simpa using hc33
   refine W.skip (N.seq (W.seq (W.region (WL.move rfl rfl rfl (WL.move rfl rfl rfl ?_)))))
   refine WL.callF (vs := [.int .i64 (nn : Int), .slice adn ns.length capn]) Tryd.func71 (by kernel_rfl) rfl rfl rfl (rlocal_ret nn ns _ (ro := (fun x => R2 x ∨ (.slice adv2 q2 capv2 : Value).ownBlock = some x)) (fun b hb => (hS.snap b hb).1) (SlV.keep hnv hS.alike (fun _ _ q => q)) (by omega)) ?_
   rintro v w34 ⟨rfl, hbl⟩
   replace hS := hS.grow hbl
   refine WL.move rfl rfl rfl (WL.extract (v := .string (dot10 (loc10 ns nn))) rfl rfl rfl rfl (WL.extract (v := .int .i64 ((loc10 ns nn : Nat) + 1 : Int)) rfl rfl rfl rfl ?_))
   refine WL.set 107 (v' := .int .i64 ((loc10 ns nn + 1 : Nat) : Int)) rfl rfl ?_
   refine WL.assign rfl rfl rfl (WL.assign rfl rfl rfl (WL.nil (N.seq (W.seq (W.region (WL.move rfl rfl rfl (WL.assign rfl rfl rfl (WL.nil (N.seq ?_)))))))))
   refine W.seq ?_
   refine W.drawA0 (S := fun u => True) (by kernel_rfl) (fun w35 hbd => ?_)
   replace hS := hS.grow hbd
   refine WA.conv (fuel' := 7 + 3) (listed' := #[false, false, false, false, false, false, false, false, false, false]) (by kernel_rfl) (by kernel_rfl) (WA.phaseI [(0, (fun v _ => v = .pointer (some ⟨b24, 0, none⟩))), (1, (fun v _ => v = .slice advo qo capvo)), (2, (fun v _ => v = .slice adv2 ((locs x5).length) capv2)), (3, (fun v _ => v = .int .i64 (k : Int))), (4, (fun v _ => v = .pointer (some ⟨b29, o29 + k * 1, none⟩))), (5, (fun v _ => v = .string x29)), (6, (fun v u => ∃ b, v = .slice (some ⟨b, 0, none⟩) 1 1 ∧ u.heap[b]? = some (.cells [.string x29].toArray 9 (0, 0))))] (by kernel_rfl) [(0, .slice adl ms.length capl), (2, .slice none 0 0), (3, .slice adn ns.length capn), (4, .int .i64 ((loc10 ns nn + 1 : Nat) : Int)), (5, .slice adv i capv), (6, .int .i64 (i : Int)), (7, .slice adv2 ((locs x5).length) capv2), (10, .pointer (some ⟨b24, 0, none⟩)), (11, .int .i64 (k : Int)), (13, .string (dot10 (loc10 ns nn)))] ⟨rfl, rfl, rfl, rfl, rfl, rfl, rfl, rfl, rfl, rfl, trivial⟩ (by kernel_rfl) ⟨stays_eq, stays_eq, stays_eq, stays_eq, stays_eq, stays_eq, (fun v u u2 h hb => h.elim fun b h => ⟨b, h.1, (hb.block b (Array.getElem?_eq_some_iff.1 h.2).1).trans h.2⟩), trivial⟩ ?_ (fun _ _ => trivial) ?_)
   ·
    refine ⟨fun β wd hb hD => ⟨_, rfl, ?_⟩, ?_⟩
    ·
     refine WL.sub (σ' := [(10, .pointer (some ⟨b24, 0, none⟩))]) ⟨rfl, trivial⟩ ?_
     have hS := hS.grow hb
     refine WL.fieldAddr fo_94_0 rfl rfl rfl ?_
     exact WL.nil (N.cut (.pointer (some ⟨b24, 0, none⟩)) ⟨rfl, trivial⟩ ⟨(Below.refl _ _), rfl⟩)
    refine ⟨fun β wd hb hD => ⟨_, rfl, ?_⟩, ?_⟩
    ·
     obtain ⟨hp0, _⟩ := hD
     replace hp0 : β 0 = .pointer (some ⟨b24, 0, none⟩) := hp0
     refine WL.sub (σ' := [(109, .pointer (some ⟨b24, 0, none⟩))]) ⟨congrArg some hp0, trivial⟩ ?_
     have hS := hS.grow hb
     refine WL.load1 (v := .slice advo qo capvo) one_25 rfl rfl rfl (hS.cell 0 rfl rfl) ?_
     exact WL.nil (N.cut (.slice advo qo capvo) ⟨rfl, trivial⟩ ⟨(Below.refl _ _), rfl⟩)
    refine ⟨fun β wd hb hD => ⟨_, rfl, ?_⟩, ?_⟩
    ·
     refine WL.sub (σ' := [(7, .slice adv2 ((locs x5).length) capv2)]) ⟨rfl, trivial⟩ ?_
     have hS := hS.grow hb
     refine WL.move rfl rfl rfl ?_
     exact WL.nil (N.cut (.slice adv2 ((locs x5).length) capv2) ⟨rfl, trivial⟩ ⟨(Below.refl _ _), rfl⟩)
    refine ⟨fun β wd hb hD => ⟨_, rfl, ?_⟩, ?_⟩
    ·
     refine WL.sub (σ' := [(11, .int .i64 (k : Int))]) ⟨rfl, trivial⟩ ?_
     have hS := hS.grow hb
     refine WL.move rfl rfl rfl ?_
     exact WL.nil (N.cut (.int .i64 (k : Int)) ⟨rfl, trivial⟩ ⟨(Below.refl _ _), rfl⟩)
    refine ⟨fun β wd hb hD => ⟨_, rfl, ?_⟩, ?_⟩
    ·
     obtain ⟨hp2, hp3, _⟩ := hD
     replace hp2 : β 2 = .slice adv2 ((locs x5).length) capv2 := hp2
     replace hp3 : β 3 = .int .i64 (k : Int) := hp3
     refine WL.sub (σ' := [(111, .slice adv2 ((locs x5).length) capv2), (112, .int .i64 (k : Int))]) ⟨congrArg some hp2, congrArg some hp3, trivial⟩ ?_
     have hS := hS.grow hb
     refine WL.indexAddrE (j := k) Tryd.underlying25 isz_9 rfl rfl rfl rfl hj29 hE29 ?_
     exact WL.nil (N.cut (.pointer (some ⟨b29, o29 + k * 1, none⟩)) ⟨rfl, trivial⟩ ⟨(Below.refl _ _), rfl⟩)
    refine ⟨fun β wd hb hD => ⟨_, rfl, ?_⟩, ?_⟩
    ·
     obtain ⟨hp4, _⟩ := hD
     replace hp4 : β 4 = .pointer (some ⟨b29, o29 + k * 1, none⟩) := hp4
     refine WL.sub (σ' := [(113, .pointer (some ⟨b29, o29 + k * 1, none⟩))]) ⟨congrArg some hp4, trivial⟩ ?_
     have hS := hS.grow hb
     refine WL.load1 (v := .string x29) one_9 rfl rfl rfl (hS.roCells hr29 hc29 0 _ rfl) ?_
     exact WL.nil (N.cut (.string x29) ⟨rfl, trivial⟩ ⟨(Below.refl _ _), rfl⟩)
    refine ⟨fun β wd hb hD => ⟨_, rfl, ?_⟩, ?_⟩
    ·
     obtain ⟨hp5, _⟩ := hD
     replace hp5 : β 5 = .string x29 := hp5
     refine WL.sub (σ' := [(114, .string x29)]) ⟨congrArg some hp5, trivial⟩ ?_
     have hS := hS.grow hb
     have hX := St.start (w := wd) (ro := fun z => z < wd.heap.size) (fun _ h => h)
     refine WL.buildSlice (ps := [(0, .string x29)]) (cs := [.string x29]) Tryd.underlying25 (tyZero_spec zer_9) rfl rfl rfl rfl (by kernel_rfl) hX ?_
     clear hX; intro w37 b36 hb_b36 hX
     exact WL.nil (N.cut (.slice (some ⟨b36, 0, none⟩) 1 1) ⟨rfl, trivial⟩ ⟨hX.below, ⟨_, rfl, hX.own _ List.mem_cons_self⟩⟩)
    trivial
   intro β w38 hb hD
   obtain ⟨hp0, hp1, hp2, hp3, hp4, hp5, hp6, _⟩ := hD
   refine WA.sub (σ' := [(0, .slice adl ms.length capl), (2, .slice none 0 0), (3, .slice adn ns.length capn), (4, .int .i64 ((loc10 ns nn + 1 : Nat) : Int)), (5, .slice adv i capv), (6, .int .i64 (i : Int)), (7, .slice adv2 ((locs x5).length) capv2), (10, .pointer (some ⟨b24, 0, none⟩)), (11, .int .i64 (k : Int)), (13, .string (dot10 (loc10 ns nn))), (110, .slice advo qo capvo), (115, (β 6))]) ⟨rfl, rfl, rfl, rfl, rfl, rfl, rfl, rfl, rfl, rfl, congrArg some (show β 1 = .slice advo qo capvo from hp1), rfl, trivial⟩ ?_
   have hSd := hS
   replace hS := hS.grow hb
   replace hp6 : (fun v u => ∃ b, v = .slice (some ⟨b, 0, none⟩) 1 1 ∧ u.heap[b]? = some (.cells [.string x29].toArray 9 (0, 0))) (β 6) w38 := hp6
   generalize β 6 = z6 at hp6 ⊢
   refine WA.conv (fuel' := 2 + 1) (listed' := #[true, true, true, true, true, true, true, false, false, false]) (by kernel_rfl) (by kernel_rfl) (WA.stepS 7 (by kernel_rfl) rfl ?_)
   obtain ⟨bq6, rfl, hbq6⟩ := hp6
   have hcq6 := cellsAt_block hbq6
   refine WL.appendRo (r := ⟨.slice advo qo capvo, 9, 1, qo, co⟩) (news := [.string x29]) 16 Tryd.underlying25 (tyZero_spec zer_9) byt_9 rfl rfl rfl rfl rfl rfl (fun e => by cases e) (fun b off e => by cases e; exact hcq6) (fun a e _ => by cases e; rfl) ?_ rfl rfl hS (by simp only; unfold maxLen; omega) (by simp only; omega) ?_
   ·
    intro u hu; simp only [List.mem_cons, List.not_mem_nil, or_false] at hu; rcases hu with rfl <;> rfl
   clear hS; intro w39 v40 hS hnn
   have hrow : w39.ownsRow w.heap.size 9 1 v40 (qo + 1) _ := hS.rows _ List.mem_cons_self
   obtain ⟨av40, cv40, rfl, hc1_v40, hc2_v40, hc3_v40⟩ := row_shape hrow
   clear hrow
   refine WL.nil (N.restS trivial ?_)
   refine WA.conv (fuel' := 1 + 1) (listed' := #[true, true, true, true, true, true, true, true, false, false]) (by kernel_rfl) (by kernel_rfl) (WA.stepS 8 (by kernel_rfl) rfl ?_)
   refine WL.fieldAddr fo_94_0 rfl rfl rfl ?_
   refine WL.nil (N.restS trivial ?_)
   refine WA.conv (fuel' := 0 + 1) (listed' := #[true, true, true, true, true, true, true, true, true, false]) (by kernel_rfl) (by kernel_rfl) (WA.stepS 9 (by kernel_rfl) rfl ?_)
   refine WL.store (L' := [(b24, .cells #[.slice av40 (qo + 1) cv40, .slice advw qo capvw] 94 (0, 0))]) 0 rfl rfl rfl rfl siz_25 rfl rfl rfl rfl rfl hS ?_
   clear hS; intro w41 hS
   refine WL.nil (N.restS trivial ?_)
   refine WA.doneN (by kernel_rfl) ?_
   refine N.seq (W.region (WL.fieldAddr fo_94_1 rfl rfl rfl (WL.load1 (v := .slice advw qo capvw) one_25 rfl rfl rfl (hS.cell 0 rfl rfl) (WL.move rfl rfl rfl ?_))))
   refine WL.buildSlice (ps := [(0, .string (dot10 (loc10 ns nn)))]) (cs := [.string (dot10 (loc10 ns nn))]) Tryd.underlying25 (tyZero_spec zer_9) rfl rfl rfl rfl (by kernel_rfl) hS ?_
   clear hS; intro w43 b42 hb_b42 hS
   replace hS : St w w14 w43 (fun x => R2 x ∨ (.slice adv2 q2 capv2 : Value).ownBlock = some x) [(b42, .cells #[.string (dot10 (loc10 ns nn))] 9 (0, 0)), (b24, .cells #[.slice av40 (qo + 1) cv40, .slice advw qo capvw] 94 (0, 0))] [⟨.slice advw qo capvw, 9, 1, qo, cw⟩, ⟨.slice av40 (qo + 1) cv40, 9, 1, qo + 1, co ++ [.string x29]⟩, ⟨.slice adv i capv, 94, 2, i, cs⟩] := hS.permR ((List.Perm.swap _ _ _))
   refine WL.append (r := ⟨.slice advw qo capvw, 9, 1, qo, cw⟩) (cs := [.string (dot10 (loc10 ns nn))]) 16 Tryd.underlying25 (tyZero_spec zer_9) byt_9 rfl rfl rfl rfl rfl rfl rfl rfl rfl hS (by unfold maxLen; simp only; omega) (by simp only; omega) ?_
   clear hS; intro w44 v45 hn_v45 hS
   have hrow : w44.ownsRow w.heap.size 9 1 v45 (qo + 1) _ := hS.rows _ List.mem_cons_self
   obtain ⟨av45, cv45, rfl, hc1_v45, hc2_v45, hc3_v45⟩ := row_shape hrow
   clear hrow
   refine WL.fieldAddr fo_94_1 rfl rfl rfl ?_
   refine WL.store (L' := [(b24, .cells #[.slice av40 (qo + 1) cv40, .slice av45 (qo + 1) cv45] 94 (0, 0))]) 0 rfl rfl rfl rfl siz_25 rfl rfl rfl rfl rfl hS ?_
   clear hS; intro w46 hS
   refine WL.nil (N.blk (N.seq (W.region (WL.move rfl rfl rfl ?_))))
   refine WL.add (c := (k : Int) + 1) rfl rfl rfl rfl (rfl) (by omega) ?_
   refine WL.assign rfl rfl rfl (WL.nil ?_)
   have hgn := gmod_next (t := ns) (n := n0) hx29
   rw [gstep_new hc33p, ← hnu] at hgn
   replace hS : St w w14 w46 (fun x => R2 x ∨ (.slice adv2 q2 capv2 : Value).ownBlock = some x) [(b24, .cells #[.slice av40 (qo + 1) cv40, .slice av45 (qo + 1) cv45] 94 (0, 0))] [⟨.slice av40 (qo + 1) cv40, 9, 1, qo + 1, co ++ [.string x29]⟩, ⟨.slice av45 (qo + 1) cv45, 9, 1, qo + 1, cw ++ ([.string (dot10 (loc10 ns nn))] : List Value)⟩, ⟨.slice adv i capv, 94, 2, i, cs⟩] := hS.permR ((List.Perm.swap _ _ _))
   exact N.loop (k + 1, .slice av40 (qo + 1) cv40, co ++ [.string x29], .slice av45 (qo + 1) cv45, cw ++ ([.string (dot10 (loc10 ns nn))] : List Value), qo + 1, loc10 ns nn + 1) ⟨rfl, rfl, rfl, rfl, rfl, rfl, rfl, rfl, rfl, trivial⟩ ⟨hS, by omega, by rw [hgn]; exact hco.snoc rfl ⟨rfl, hsz29⟩, by rw [hgn]; exact hcw.snoc rfl ⟨rfl, Nat.le_trans (dot10_le _ (by have := loc10_bounds ns nn; omega)) (by decide)⟩, by rw [hgn, List.length_append, ← hqo]; rfl, by rw [hgn, List.length_append, ← hqw]; rfl, by omega, by rw [hgn]⟩ (by first | omega | (simp only; omega))
  have hc28p : ¬ ((k : Int) < ((locs x5).length : Int)) := by simpa using hc28
  refine W.exit (X.seq (X.loop (X.blk (N.seq ?_))))
  have hke : k = (locs x5).length := by omega
  rw [hke, List.take_length] at hco hcw hqo hqw hnu
  have hal47 := hS.giveRowAlike
  replace hsub : ∀ b, (fun x => (fun x => R2 x ∨ (.slice adv2 q2 capv2 : Value).ownBlock = some x) x ∨ (.slice advo qo capvo : Value).ownBlock = some x) b → ro b ∨ w.heap.size ≤ b := fun b hb => hb.elim (hsub b) (fun h => .inr (hS.giveRowLe b h))
  replace halL0 := halL0.trans hal47
  replace hx := SlV.keep hx hal47 (fun _ _ h => h.keep hal47)
  replace hch := hch.mono fun _ _ h => h.keep hal47
  have hrow48 := hS.rows _ List.mem_cons_self
  replace hS := hS.giveRow
  have hs1 : SlV (fun x => (fun x => R2 x ∨ (.slice adv2 q2 capv2 : Value).ownBlock = some x) x ∨ (.slice advo qo capvo : Value).ownBlock = some x) w27 1 StrC (.slice advo qo capvo) (gmod ns n0 (locs x5)).1.1 := row_slv hrow48 hco hqo (fun b hb => .inr hb)
  have hal49 := hS.giveRowAlike
  replace hsub : ∀ b, (fun x => (fun x => (fun x => R2 x ∨ (.slice adv2 q2 capv2 : Value).ownBlock = some x) x ∨ (.slice advo qo capvo : Value).ownBlock = some x) x ∨ (.slice advw qo capvw : Value).ownBlock = some x) b → ro b ∨ w.heap.size ≤ b := fun b hb => hb.elim (hsub b) (fun h => .inr (hS.giveRowLe b h))
  replace halL0 := halL0.trans hal49
  replace hx := SlV.keep hx hal49 (fun _ _ h => h.keep hal49)
  replace hch := hch.mono fun _ _ h => h.keep hal49
  replace hs1 := SlV.keep hs1 hal49 (fun _ _ h => h)
  have hrow50 := hS.rows _ List.mem_cons_self
  replace hS := hS.giveRow
  have hs2 : SlV (fun x => (fun x => (fun x => R2 x ∨ (.slice adv2 q2 capv2 : Value).ownBlock = some x) x ∨ (.slice advo qo capvo : Value).ownBlock = some x) x ∨ (.slice advw qo capvw : Value).ownBlock = some x) w27 1 StrC (.slice advw qo capvw) (gmod ns n0 (locs x5)).1.2 := row_slv hrow50 hcw hqw (fun b hb => .inr hb)
  refine W.region (WL.move rfl rfl rfl (WL.loadN (cs := [.slice advo qo capvo, .slice advw qo capvw]) agg_94 rfl rfl rfl rfl (hS.cells 0 (m := 2) rfl rfl) ?_))
  refine WL.buildSlice (ps := [(0, .agg #[.slice advo qo capvo, .slice advw qo capvw])]) (cs := [.slice advo qo capvo, .slice advw qo capvw]) Tryd.underlying80 (tyZero_spec zer_94) rfl rfl rfl rfl (by kernel_rfl) hS ?_
  clear hS; intro w52 b51 hb_b51 hS
  refine WL.append (r := ⟨.slice adv i capv, 94, 2, i, cs⟩) (cs := [.slice advo qo capvo, .slice advw qo capvw]) 48 Tryd.underlying80 (tyZero_spec zer_94) byt_94 rfl rfl rfl rfl rfl rfl rfl rfl rfl hS (by unfold maxLen; simp only; omega) (by simp only; omega) ?_
  clear hS; intro w53 v54 hn_v54 hS
  have hrow : w53.ownsRow w.heap.size 94 2 v54 (i + 1) _ := hS.rows _ List.mem_cons_self
  obtain ⟨av54, cv54, rfl, hc1_v54, hc2_v54, hc3_v54⟩ := row_shape hrow
  clear hrow
  have hgx := gnam_next (t := ns) hx5
  rw [← hn0] at hgx
  have hch5 : Chunks 2 (GivC (fun x => (fun x => (fun x => R2 x ∨ (.slice adv2 q2 capv2 : Value).ownBlock = some x) x ∨ (.slice advo qo capvo : Value).ownBlock = some x) x ∨ (.slice advw qo capvw : Value).ownBlock = some x) w27) (cs ++ ([.slice advo qo capvo, .slice advw qo capvw] : List Value)) (gnam ns (ms.take (i + 1))).1 := by rw [hgx]; exact hch.snoc rfl ⟨_, _, rfl, hs1, hs2⟩
  have hn5 : nn = (gnam ns (ms.take (i + 1))).2 := by rw [hgx]; exact hnu
  refine WL.assign rfl rfl rfl (WL.nil (N.blk (N.seq (W.region (WL.move rfl rfl rfl ?_)))))
  refine WL.add (c := (i : Int) + 1) rfl rfl rfl rfl (rfl) (by omega) ?_
  refine WL.assign rfl rfl rfl (WL.nil ?_)
  have hS := hS.dropN 1
  exact N.loop (i + 1, .slice av54 (i + 1) cv54, cs ++ ([.slice advo qo capvo, .slice advw qo capvw] : List Value), nn, (fun x => (fun x => (fun x => R2 x ∨ (.slice adv2 q2 capv2 : Value).ownBlock = some x) x ∨ (.slice advo qo capvo : Value).ownBlock = some x) x ∨ (.slice advw qo capvw : Value).ownBlock = some x), w27) ⟨rfl, rfl, rfl, rfl, rfl, rfl, trivial⟩ ⟨hS, by omega, hch5, hn5, halL0, hsub⟩ (by first | omega | (simp only; omega))
 have hc4p : ¬ ((i : Int) < (ms.length : Int)) := by simpa using hc4
 refine W.exit (X.seq (X.loop (X.blk (N.seq (W.seq (W.region (WL.move rfl rfl rfl (WL.assign rfl rfl rfl (WL.nil ?_)))))))))
 refine N.seq ?_
 refine Fin.ret1 rfl (v := .slice adv i capv) rfl ?_
 have hfin : Alike R2 ws2 (roFrom ro w w3) w3 := fun b hb => ⟨(hsub b hb).elim .inl (fun h => .inr ⟨h, (hS.snap b hb).1⟩), (hS.snap b hb).2⟩
 have hie : i = ms.length := by omega
 have hlen : (gnam ns ms).1.length = ms.length := by rw [← List.length_map (f := rG), (gnam_rel ns ms).1]; exact nam10_length _ _
 rw [hie, List.take_length] at hch
 rw [← hns2]
 exact ⟨row_slv (hS.rows _ List.mem_cons_self) (hch.mono fun _ _ h => h.keep hfin) (by simp only; omega) (fun x hx => .inr ((hS.keys x (by simp only [keysOf, List.mem_append, List.mem_filterMap]; exact .inr ⟨_, List.mem_cons_self, hx⟩)).imp id (·.1))), hS.below⟩

end Go.Proofs.YtapjejjmhmdmdaaDoor
