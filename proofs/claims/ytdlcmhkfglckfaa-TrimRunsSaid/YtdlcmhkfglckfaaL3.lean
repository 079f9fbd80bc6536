/-
  A trimmed module is right where the module was, and trimming it again changes nothing. No condition beyond those that each theorem states.
-/
import Derived.Test.YtdlcmhkfglckfaaU10
namespace Go.Proofs.Ytdlcmhkfglckfaa

theorem inst5_of {x : DInst} {n : Int} (h1 : 1 ≤ x.op ∧ x.op ≤ 16) (hb : below5 (uses5 x) n = true) (h6 : x.args.length ≤ 6) (ha : ¬ ((2 ≤ x.op ∧ x.op ≤ 11) ∨ x.op = 13 ∨ x.op = 16) → x.a = 0) (hb0 : ¬ (2 ≤ x.op ∧ x.op ≤ 11) → x.b = 0)
    (hk : x.op ≠ 1 → x.k = 0) (hl : x.op ≠ 14 → x.args.length = 0) (hn : named5 x = true → name5 x.name = true) (hn2 : named5 x = false → x.name = ⟨#[]⟩) : inst5 x n = true := by
  unfold inst5
  rw [if_neg, if_neg]
  · split
    · rename_i h; exact hn h
    · rename_i h; rw [decide_eq_true (hn2 (by simpa using h))]
  · rintro (⟨c, e⟩ | ⟨c, e⟩ | ⟨c, e⟩ | ⟨c, e⟩)
    · exact e (ha c)
    · exact e (hb0 c)
    · exact e (hk c)
    · have := hl c; omega
  · rintro (c | c | c | c)
    · omega
    · omega
    · rw [hb] at c; cases c
    · omega
theorem allFrom_of : ∀ (l : List DInst) (p : Int), (∀ (i : Nat) x, l[i]? = some x → inst5 x (p + i) = true) → allFrom p l = true
  | [], _, _ => rfl
  | x :: r, p, h => by
    simp only [allFrom, Bool.and_eq_true]
    refine ⟨by simpa using h 0 x rfl, allFrom_of r (p + 1) fun i y hy => ?_⟩
    have := h (i + 1) y (by simpa using hy)
    rwa [show p + ((i + 1 : Nat) : Int) = p + 1 + (i : Int) by omega] at this
theorem func5_of {f : DFunc} (h1 : name5 f.name = true) (h2 : 1 ≤ f.bind) (h3 : f.bind ≤ 3) (h4 : 0 ≤ f.params) (h5 : f.params ≤ 6) (h6 : f.blocks.length ≤ 16) (h7 : f.blocks.length = 0 → f.bind ≠ 1)
    (h8 : ∀ b, f.blocks[0]? = some b → b.params = f.params) (h9 : ∀ b ∈ f.blocks, block5 f b = true) : func5 f = true := by
  unfold func5
  rw [if_neg (by rw [h1]; simp only [Bool.true_eq_false, false_or]; omega)]
  split
  · rename_i e; exact decide_eq_true (h7 (by rw [e]; rfl))
  · rename_i b r e
    simp only [Bool.and_eq_true, decide_eq_true_eq, List.all_eq_true]
    exact ⟨h8 b (by rw [e]; rfl), h9⟩
theorem uses_nil {x : DInst} (h1 : ¬ (2 ≤ x.op ∧ x.op ≤ 11)) (h2 : ¬ (x.op = 13 ∨ x.op = 16)) (h3 : ¬ x.op = 14) : uses5 x = [] := by unfold uses5; rw [if_neg h1, if_neg h2, if_neg h3]
theorem args_inst13 (g : Int → Option Int) (x : DInst) : (inst13 g x).args.length = x.args.length := by
  unfold inst13; dsimp only; split
  · rw [anew13, List.length_map]
  · rfl
theorem inst5_13 {x : DInst} {n m : Int} {g : Int → Option Int} (h : inst5 x n = true) (hb : below5 (uses5 (inst13 g x)) m = true) : inst5 (inst13 g x) m = true := by
  obtain ⟨h6, _, o1, o2⟩ := inst5_all h
  obtain ⟨_, ha, hb0, hk, hl, hn, hn2⟩ := inst5_more h
  refine inst5_of ⟨o1, o2⟩ hb (by rw [args_inst13]; exact h6) (fun c => ?_) (fun c => ?_) hk (fun c => by rw [args_inst13]; exact hl c) hn hn2
  · have c' : ¬ ((2 ≤ x.op ∧ x.op ≤ 11) ∨ x.op = 13 ∨ x.op = 16) := c
    by_cases e : x.op = 14
    · exact (i13_a14 e).symm
    · rw [← i13_aN e (by rw [uses_nil (fun h => c' (.inl h)) (fun h => c' (.inr h)) e]; simp)]; exact ha c'
  · have c' : ¬ (2 ≤ x.op ∧ x.op ≤ 11) := c
    by_cases e : x.op = 14 ∨ x.op = 13 ∨ x.op = 16
    · exact (i13_b0 e).symm
    · rw [← i13_bN e (by rw [uses_nil c' (fun h => e (.inr h)) (fun h => e (.inl h))]; simp)]; exact hb0 c'
/-- Where an instruction of a trimmed block comes from. -/
theorem ins_src {b : DBlock} {j : Nat} {y : DInst} (hy : (block13 b).ins[j]? = some y) : ∃ (i : Nat) (x : DInst) (g : Int → Option Int), b.ins[i]? = some x ∧ y = inst13 g x := by
  have hj := (List.getElem?_eq_some_iff.1 hy).1
  obtain ⟨i, x, h1, h2, h3⟩ := ins_from b.ins.length (Nat.le_refl _) j (by rw [← len_block13]; exact hj)
  have := ins_at h1
  rw [h3, hy] at this
  exact ⟨i, x, _, h1.1, Option.some.inj this⟩
theorem below5_of {l : List Int} {n : Int} (h : ∀ v ∈ l, 0 ≤ v ∧ v < n) : below5 l n = true := by
  unfold below5
  rw [List.all_eq_true]
  intro v hv
  have := h v hv
  simp only [Bool.and_eq_true, decide_eq_true_eq]; exact this
theorem block5_13 {f : DFunc} {k : Nat} {b : DBlock} (h : func5 f = true) (hr : (reached13 f)[k]? = some true) (hb : f.blocks[k]? = some b) : block5 (func13 f) (blk13 (numAt (reached13 f) f.blocks.length).1 b) = true := by
  have hbm := List.mem_of_getElem? hb
  have hgo := goes13_of5 h
  have hs := sc13_of5 h hbm
  have hsb := sc_block13 hs
  have hb5 := (func5_all h).2 b hbm
  obtain ⟨p0, p1, pl⟩ := block5_all hb5
  obtain ⟨hall, hterm⟩ := block5_more hb5
  have hcl := cnt_le b
  have hlen : (block13 b).ins.length ≤ b.ins.length := hcl
  have hN : ((b.params.toNat + (block13 b).ins.length : Nat) : Int) = b.params + (block13 b).ins.length := by omega
  obtain ⟨k1, k3, t1, t3, tg, tg2, ta⟩ := term5_more hterm
  have hends := hsb.ok.ends
  have hgo' := blk13_goes hgo hr hb
  obtain ⟨a1, a2, _⟩ := term5_all hterm h
  unfold block5
  show (if b.params < 0 ∨ 6 < b.params ∨ 32 < (block13 b).ins.length then false else if allFrom b.params (block13 b).ins = false then false else term5 _ (blk13 _ b).fin (b.params + (block13 b).ins.length)) = true
  rw [if_neg (by omega), if_neg]
  · have E : ∀ v ∈ ends13 (block13 b).fin, 0 ≤ v ∧ v < b.params + (block13 b).ins.length := fun v hv => by
      have := hends v hv
      rw [show (block13 b).params = b.params from rfl] at this
      omega
    have G : ∀ (to : Int) (args : List Int), (∀ v ∈ anew13 (at13 b b.ins.length).1 args, v ∈ ends13 (block13 b).fin) → goes5 f to args (b.params + b.ins.length) = true → (reached13 f)[to.toNat]? = some true →
        goes5 (func13 f) (cntR (reached13 f) to.toNat : Int) (anew13 (at13 b b.ins.length).1 args) (b.params + (block13 b).ins.length) = true := fun to args hm hg hrt => by
      obtain ⟨g0, g1, _, gp⟩ := goes5_more hg
      obtain ⟨c, hc⟩ : ∃ c, f.blocks[to.toNat]? = some c := ⟨_, List.getElem?_eq_getElem (by omega)⟩
      have hp := gp c hc
      unfold goes5
      rw [if_neg (by omega), Int.toNat_natCast, func13_at hrt hc]
      dsimp only
      rw [if_pos (by rw [anew13, List.length_map]; exact hp)]
      exact below5_of fun v hv => E v (hm v hv)
    have hkind : (blk13 (numAt (reached13 f) f.blocks.length).1 b).fin.kind = b.fin.kind := rfl
    have hargs : (blk13 (numAt (reached13 f) f.blocks.length).1 b).fin.args = anew13 (at13 b b.ins.length).1 b.fin.args := rfl
    have helses : (blk13 (numAt (reached13 f) f.blocks.length).1 b).fin.elses = anew13 (at13 b b.ins.length).1 b.fin.elses := rfl
    have ha : (blk13 (numAt (reached13 f) f.blocks.length).1 b).fin.a = (block13 b).fin.a := rfl
    have mA : ∀ v ∈ anew13 (at13 b b.ins.length).1 b.fin.args, v ∈ ends13 (block13 b).fin := fun v hv => by
      unfold ends13; exact List.mem_append_left _ (List.mem_append_left _ hv)
    have mE : ∀ v ∈ anew13 (at13 b b.ins.length).1 b.fin.elses, v ∈ ends13 (block13 b).fin := fun v hv => by
      unfold ends13; exact List.mem_append_left _ (List.mem_append_right _ hv)
    have mT : b.fin.kind ≠ 1 → (block13 b).fin.a ∈ ends13 (block13 b).fin := fun hk => by
      unfold ends13; rw [if_neg (show ¬ (block13 b).fin.kind = 1 from hk)]; exact List.mem_append_right _ (List.mem_singleton.2 rfl)
    unfold term5
    rw [hkind, hargs, helses, ha]
    by_cases c1 : b.fin.kind = 1
    · rw [if_pos c1]
      obtain ⟨q1, q2, q3⟩ := t1 c1
      have g := hgo'.1 (by omega)
      rw [g.2, G _ _ mA (tg (by omega)) g.1]
      have e1 : (block13 b).fin.a = 0 := by show (if b.fin.kind = 1 then b.fin.a else _) = 0; rw [if_pos c1]; exact q1
      have e2 : (blk13 (numAt (reached13 f) f.blocks.length).1 b).fin.els = 0 := by show (if b.fin.kind = 2 then _ else b.fin.els) = 0; rw [if_neg (by omega)]; exact q2
      rw [e1, e2, anew13, List.length_map, q3]; rfl
    · rw [if_neg c1]
      have hA := E _ (mT c1)
      by_cases c2 : b.fin.kind = 2
      · rw [if_pos c2]
        have g := hgo'.1 (by omega)
        have g' := hgo'.2 c2
        rw [g.2, g'.2, G _ _ mA (tg (by omega)) g.1, G _ _ mE (tg2 c2) g'.1]
        simp only [Bool.and_true, Bool.and_eq_true, decide_eq_true_eq]; exact hA
      · rw [if_neg c2]
        have c3 : b.fin.kind = 3 := by omega
        obtain ⟨q1, q2, q3, q4⟩ := t3 c3
        have e1 : (blk13 (numAt (reached13 f) f.blocks.length).1 b).fin.to = 0 := by show (if b.fin.kind = 3 then b.fin.to else _) = 0; rw [if_pos c3]; exact q3
        have e2 : (blk13 (numAt (reached13 f) f.blocks.length).1 b).fin.els = 0 := by show (if b.fin.kind = 2 then _ else b.fin.els) = 0; rw [if_neg c2]; exact q1
        rw [e1, e2, anew13, anew13, List.length_map, List.length_map, q2, q4, c3]
        simp only [decide_true, Bool.and_true, Bool.true_and, Bool.and_eq_true, decide_eq_true_eq]
        exact hA
  · rw [allFrom_of]
    · simp
    · intro j y hy
      obtain ⟨i, x, g, hx, rfl⟩ := ins_src hy
      refine inst5_13 (allFrom_at b.ins b.params i x hall hx) (below5_of fun v hv => ?_)
      have h1 := hsb.ok.uses _ (List.mem_of_getElem? hy) v hv
      have h2 := hsb.sc j _ hy v hv
      rw [show (block13 b).params = b.params from rfl] at h2
      omega
theorem func5_13 {f : DFunc} (h : func5 f = true) : func5 (func13 f) = true := by
  obtain ⟨h1, h2, h3, h4, h5, h6, h7, h8, h9⟩ := func5_more h
  have hgo := goes13_of5 h
  have hle : (func13 f).blocks.length ≤ f.blocks.length := outs13_len _ _ _
  have c0 : cntR (reached13 f) 0 = 0 := by simp [cntR, numAt]
  have r0 : 0 < f.blocks.length → (reached13 f)[0]? = some true := fun hp => (reached13_iff hgo 0).2 (.zero hp)
  refine func5_of h1 h2 h3 h4 h5 (by omega) (fun e => h7 ?_) (fun c hc => ?_) fun c hc => ?_
  · apply Classical.byContradiction
    intro hne
    obtain ⟨b, hb⟩ : ∃ b, f.blocks[0]? = some b := ⟨_, List.getElem?_eq_getElem (by omega)⟩
    have := (List.getElem?_eq_some_iff.1 (func13_at (r0 (by omega)) hb)).1
    omega
  · have hl : 0 < f.blocks.length := by have := (List.getElem?_eq_some_iff.1 hc).1; omega
    obtain ⟨b, hb⟩ : ∃ b, f.blocks[0]? = some b := ⟨_, List.getElem?_eq_getElem hl⟩
    have := func13_at (r0 hl) hb
    rw [c0, hc] at this
    cases this
    exact h8 b hb
  · obtain ⟨j, hj⟩ := List.mem_iff_getElem?.1 hc
    obtain ⟨k, b, hr, hb, _, rfl⟩ := func13_from hj
    exact block5_13 h hr hb
/-! ### A second time nothing changes -/
theorem idG_at {n : Nat} {v : Int} (h : 0 ≤ v ∧ v < (n : Int)) : (idG n v).getD 0 = v := by unfold idG; rw [if_pos h]; rfl
theorem anew_id {n : Nat} {l : List Int} (h : ∀ v ∈ l, 0 ≤ v ∧ v < (n : Int)) : anew13 (idG n) l = l := by
  unfold anew13
  have : ∀ v ∈ l, (idG n v).getD 0 = id v := fun v hv => idG_at (h v hv)
  rw [List.map_congr_left this, List.map_id]
theorem inst13_id {n : Nat} {x : DInst} {m : Int} (h5 : inst5 x m = true) (h : ∀ v ∈ uses5 x, 0 ≤ v ∧ v < (n : Int)) : inst13 (idG n) x = x := by
  obtain ⟨_, ha, hb0, hk, hl, _, _⟩ := inst5_more h5
  have nil : ∀ l : List Int, l.length = 0 → anew13 (idG n) l = l := fun l e => by rw [List.eq_nil_of_length_eq_zero e]; rfl
  obtain ⟨op, a, b, k, nm, args⟩ := x
  dsimp only at ha hb0 hk hl
  by_cases h1 : 2 ≤ op ∧ op ≤ 11
  · have e : uses5 ⟨op, a, b, k, nm, args⟩ = [a, b] := by unfold uses5; rw [if_pos h1]
    rw [e] at h
    unfold inst13
    rw [e]
    dsimp only
    rw [if_neg (by omega), if_pos (by simp), if_neg (by omega), if_pos (by simp), if_pos (by simp), idG_at (h a (by simp)), idG_at (h b (by simp)), nil args (hl (by omega))]
  · by_cases h2 : op = 13 ∨ op = 16
    · have e : uses5 ⟨op, a, b, k, nm, args⟩ = [a] := by unfold uses5; rw [if_neg h1, if_pos h2]
      rw [e] at h
      unfold inst13
      rw [e]
      dsimp only
      rw [if_neg (by omega), if_pos (by simp), if_pos (by omega), if_pos (by simp), idG_at (h a (by simp)), nil args (hl (by omega)), hb0 h1]
    · by_cases h3 : op = 14
      · have e : uses5 ⟨op, a, b, k, nm, args⟩ = args := by unfold uses5; rw [if_neg h1, if_neg h2, if_pos h3]
        rw [e] at h
        unfold inst13
        rw [e]
        dsimp only
        rw [if_pos h3, if_pos (.inl h3), anew_id h, hb0 h1, ha (by omega)]
        split <;> rfl
      · have e := uses_nil (x := ⟨op, a, b, k, nm, args⟩) h1 h2 h3
        unfold inst13
        rw [e]
        dsimp only
        rw [if_neg h3, if_neg (by simp), if_neg (by omega), if_neg (by simp), if_neg (by simp)]
theorem block13_id {f : DFunc} {b : DBlock} (h : func5 f = true) (hb : b ∈ f.blocks) (hall : ∀ {j : Nat} {y : DInst}, b.ins[j]? = some y → does13 y = true ∨ (used13 b)[b.params.toNat + j]? = some true) : block13 b = b := by
  have hs := sc13_of5 h hb
  obtain ⟨ha, hterm⟩ := block5_more ((func5_all h).2 b hb)
  have H : ∀ k, k ≤ b.ins.length → at13 b k = (idG (b.params.toNat + k), b.ins.take k) := fun k => by
    induction k with
    | zero => intro _; simp [at13, go13]
    | succ k ih =>
      intro hk
      have hx : b.ins[k]? = some b.ins[k] := List.getElem?_eq_getElem (by omega)
      rw [at13_yes hx (hall hx), ih (by omega)]
      dsimp only
      rw [List.length_take, Nat.min_eq_left (by omega), idG_succ, take_next hx, inst13_id (allFrom_at b.ins b.params k _ ha hx) fun v hv => ?_]
      · rfl
      · have h1 := hs.ok.uses _ (List.mem_of_getElem? hx) v hv
        have h2 := hs.sc k _ hx v hv
        omega
  have e := H b.ins.length (Nat.le_refl _)
  have he := hs.ok.ends
  unfold block13
  rw [e]
  dsimp only
  rw [List.take_length]
  have tt : term13 (idG (b.params.toNat + b.ins.length)) b.fin = b.fin := by
    unfold ends13 at he
    unfold term13
    rw [anew_id fun v hv => he v (List.mem_append_left _ (List.mem_append_left _ hv)), anew_id fun v hv => he v (List.mem_append_left _ (List.mem_append_right _ hv))]
    by_cases c : b.fin.kind = 1
    · rw [if_pos c]
    · rw [if_neg c, idG_at (he _ (List.mem_append_right _ (by rw [if_neg c]; exact List.mem_singleton.2 rfl)))]
  rw [tt]
theorem cntR_all {us : List Bool} {n : Nat} (h : ∀ j, j < n → us[j]? = some true) : ∀ k, k ≤ n → cntR us k = k
  | 0, _ => by simp [cntR, numAt]
  | k + 1, hk => by rw [cntR_step, if_pos (h k (by omega)), cntR_all h k (by omega)]
theorem func13_id {f : DFunc} (h : func5 f = true) (hr : ∀ j, j < f.blocks.length → (reached13 f)[j]? = some true) (hall : ∀ {c : DBlock}, c ∈ f.blocks → ∀ {j : Nat} {y : DInst}, c.ins[j]? = some y → does13 y = true ∨ (used13 c)[c.params.toNat + j]? = some true) : func13 f = f := by
  have hgo := goes13_of5 h
  have hc := cntR_all hr
  have hlen : (func13 f).blocks.length = f.blocks.length := by rw [func13_len, hc _ (Nat.le_refl _)]
  have hbl : (func13 f).blocks = f.blocks := by
    apply List.ext_getElem?
    intro j
    by_cases hj : j < f.blocks.length
    · have hb : f.blocks[j]? = some f.blocks[j] := List.getElem?_eq_getElem hj
      have hbm := List.mem_of_getElem? hb
      have h1 := func13_at (hr j hj) hb
      rw [hc j (by omega)] at h1
      rw [h1, hb]
      have h2 := blk13_goes hgo (hr j hj) hb
      have hg := hgo _ hbm
      have e := block13_id h hbm (fun hy => hall hbm hy)
      have e1 : (blk13 (numAt (reached13 f) f.blocks.length).1 f.blocks[j]).fin.to = f.blocks[j].fin.to := by
        by_cases c : f.blocks[j].fin.kind = 3
        · show (if f.blocks[j].fin.kind = 3 then f.blocks[j].fin.to else _) = _; rw [if_pos c]
        · have := hg.1 c; rw [(h2.1 c).2, hc _ (by omega)]; omega
      have e2 : (blk13 (numAt (reached13 f) f.blocks.length).1 f.blocks[j]).fin.els = f.blocks[j].fin.els := by
        by_cases c : f.blocks[j].fin.kind = 2
        · have := hg.2 c; rw [(h2.2 c).2, hc _ (by omega)]; omega
        · show (if f.blocks[j].fin.kind = 2 then _ else f.blocks[j].fin.els) = _; rw [if_neg c]
      have hz : blk13 (numAt (reached13 f) f.blocks.length).1 f.blocks[j] = ⟨(block13 f.blocks[j]).params, (block13 f.blocks[j]).ins, ⟨(block13 f.blocks[j]).fin.kind, (block13 f.blocks[j]).fin.a, f.blocks[j].fin.to, (block13 f.blocks[j]).fin.args, f.blocks[j].fin.els, (block13 f.blocks[j]).fin.elses⟩⟩ := by
        rw [← e1, ← e2]; rfl
      rw [hz, e]
    · rw [List.getElem?_eq_none (by omega), List.getElem?_eq_none (by omega)]
  show (⟨f.name, f.bind, f.params, (func13 f).blocks⟩ : DFunc) = f
  rw [hbl]
theorem func13_twice {f : DFunc} (h : func5 f = true) : func13 (func13 f) = func13 f :=
  func13_id (func5_13 h) (fun _ hj => all_func13 (goes13_of5 h) hj) (fun hc => all_ins13 (fun b hb => sc13_of5 h hb) hc)
theorem mod13_twice {m : DMod} (h : ∀ f ∈ m.funcs, func5 f = true) : mod13 (mod13 m) = mod13 m := by
  have e : (m.funcs.map func13).map func13 = m.funcs.map func13 := by
    rw [List.map_map]
    exact List.map_congr_left fun f hf => func13_twice (h f hf)
  show (⟨(m.funcs.map func13).map func13, m.globs⟩ : DMod) = _
  rw [e]; rfl
theorem func5_mod13 {m : DMod} (h : ∀ f ∈ m.funcs, func5 f = true) : ∀ f ∈ (mod13 m).funcs, func5 f = true := fun f hf => by
  obtain ⟨g, hg, rfl⟩ := List.mem_map.1 hf
  exact func5_13 (h g hg)
end Go.Proofs.Ytdlcmhkfglckfaa
