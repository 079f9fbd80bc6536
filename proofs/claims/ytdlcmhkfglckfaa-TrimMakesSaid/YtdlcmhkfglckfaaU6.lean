/-
  Contracts of layer 13 (trim). No condition beyond those that each theorem states.
-/
import Derived.Test.YtdlcmhkfglckfaaU5
namespace Go.Proofs.Ytdlcmhkfglckfaa
open Go.RowKit
theorem one_66 : tyOne Try.prog 66 = true := by kernel_rfl
theorem siz_66 : tySize Try.prog 66 1 = true := by kernel_rfl
theorem zer_66 : tyZero Try.prog 66 = some [.nilFunc] := by kernel_rfl
def falses (us : List Bool) : Nat := us.count false
theorem falses_set {us : List Bool} {k : Nat} (h : us[k]? = some false) : falses (us.set k true) + 1 = falses us := by
  induction us generalizing k with
  | nil => simp at h
  | cons x r ih =>
    cases k with
    | zero =>
      simp only [List.getElem?_cons_zero, Option.some.injEq] at h
      subst h
      simp [falses]
    | succ k =>
      have := ih (k := k) (by simpa using h)
      simp only [List.set_cons_succ, falses, List.count_cons] at *
      omega
theorem falses_set_le (us : List Bool) (k : Nat) : falses (us.set k true) ≤ falses us := by
  cases h : us[k]? with
  | none => rw [List.set_eq_of_length_le (by rwa [List.getElem?_eq_none_iff] at h)]; exact Nat.le_refl _
  | some b =>
    cases b with
    | false => have := falses_set h; omega
    | true =>
      have : us.set k true = us := by
        apply List.ext_getElem?
        intro i
        rw [List.getElem?_set]
        split
        · rename_i e; subst e; rw [h]; split
          · rfl
          · have := (List.getElem?_eq_some_iff.1 h).1; omega
        · rfl
      rw [this]; exact Nat.le_refl _
theorem falses_pos {us : List Bool} {k : Nat} (h : us[k]? = some false) : 0 < falses us := by have := falses_set h; omega
def reach13 (f : DFunc) : Nat → List Bool → Nat → List Bool
  | 0, us, _ => us
  | n + 1, us, k => if us[k]? = some true then us else match f.blocks[k]? with
    | none => us
    | some b => if b.fin.kind = 2 then reach13 f n (if b.fin.kind = 3 then us.set k true else reach13 f n (us.set k true) b.fin.to.toNat) b.fin.els.toNat else (if b.fin.kind = 3 then us.set k true else reach13 f n (us.set k true) b.fin.to.toNat)
theorem reach13_length (f : DFunc) : ∀ (n : Nat) (us : List Bool) (k : Nat), (reach13 f n us k).length = us.length
  | 0, _, _ => rfl
  | n + 1, us, k => by
    rw [reach13]
    split
    · rfl
    · split
      · rfl
      · split <;> split <;> simp only [reach13_length f n, List.length_set]
theorem reach13_falses (f : DFunc) : ∀ (n : Nat) (us : List Bool) (k : Nat), falses (reach13 f n us k) ≤ falses us
  | 0, _, _ => Nat.le_refl _
  | n + 1, us, k => by
    rw [reach13]
    have h := falses_set_le us k
    split
    · exact Nat.le_refl _
    · split
      · exact Nat.le_refl _
      · split <;> split
        · exact Nat.le_trans (reach13_falses f n _ _) h
        · exact Nat.le_trans (reach13_falses f n _ _) (Nat.le_trans (reach13_falses f n _ _) h)
        · exact h
        · exact Nat.le_trans (reach13_falses f n _ _) h
def reached13 (f : DFunc) : List Bool := if f.blocks.length = 0 then [] else reach13 f (f.blocks.length + 1) (List.replicate f.blocks.length false) 0
theorem reached13_length (f : DFunc) : (reached13 f).length = f.blocks.length := by
  unfold reached13; split
  · rename_i h; simp [h]
  · rw [reach13_length, List.length_replicate]
def Goes13 (f : DFunc) : Prop := ∀ b ∈ f.blocks, (b.fin.kind ≠ 3 → 0 ≤ b.fin.to ∧ b.fin.to < f.blocks.length) ∧ (b.fin.kind = 2 → 0 ≤ b.fin.els ∧ b.fin.els < f.blocks.length)
theorem goes13_of5 {f : DFunc} (h : func5 f = true) : Goes13 f := fun b hb => by
  obtain ⟨_, hterm⟩ := block5_more ((func5_all h).2 b hb)
  obtain ⟨_, _, _, _, _, _, _, t8, t9⟩ := term5_all hterm h
  exact ⟨t8, t9⟩

set_option maxRecDepth 10000 in
set_option maxHeartbeats 2000000 in
theorem reach_ret {w0 ws w : World} {ro : Nat → Prop} {L : List (Nat × Obj)} {Rs : List Row} (n : Nat) (f : DFunc) (adb : Option Addr) (capb bu g bf qr k : Nat) (us : List Bool) (hN : us.length = f.blocks.length) (hk : k < f.blocks.length) (hfl : falses us ≤ n) (hel : Elems ro ws 8 (BlockC ro ws) adb f.blocks) (hgo : Goes13 f) (hlm : f.blocks.length ≤ 1000000) (hS : St w0 ws w ro ((bu, .cells #[.slice (some ⟨g, 0, none⟩) f.blocks.length f.blocks.length] 40 (0, 0)) :: (g, arrO Value.bool 4 us) :: (bf, .cells #[.string f.name, .int .i64 f.bind, .int .i64 f.params, .slice adb f.blocks.length capb] 24 (0, 0)) :: (qr, .cells #[.func (.func 34) #[] #[.pointer (some ⟨bu, 0, none⟩), .pointer (some ⟨bf, 0, none⟩), .pointer (some ⟨qr, 0, none⟩)]] 66 (0, 0)) :: L) Rs) : Ret Try.prog 34 #[.int .i64 (k : Int), .pointer (some ⟨bu, 0, none⟩), .pointer (some ⟨bf, 0, none⟩), .pointer (some ⟨qr, 0, none⟩)] w fun v w' => v = .tuple #[] ∧ St w0 ws w' ro ((bu, .cells #[.slice (some ⟨g, 0, none⟩) f.blocks.length f.blocks.length] 40 (0, 0)) :: (g, arrO Value.bool 4 (reach13 f (n + 1) us k)) :: (bf, .cells #[.string f.name, .int .i64 f.bind, .int .i64 f.params, .slice adb f.blocks.length capb] 24 (0, 0)) :: (qr, .cells #[.func (.func 34) #[] #[.pointer (some ⟨bu, 0, none⟩), .pointer (some ⟨bf, 0, none⟩), .pointer (some ⟨qr, 0, none⟩)]] 66 (0, 0)) :: L) Rs := by
  induction n generalizing w us k L with
  | zero =>
    refine Ret.enter (P := Try.prog) (n := 33) (args := [.int .i64 (k : Int), .pointer (some ⟨bu, 0, none⟩), .pointer (some ⟨bf, 0, none⟩), .pointer (some ⟨qr, 0, none⟩)]) (σ := [(0, .int .i64 (k : Int)), (1, .pointer (some ⟨bu, 0, none⟩)), (2, .pointer (some ⟨bf, 0, none⟩)), (3, .pointer (some ⟨qr, 0, none⟩))]) Try.func34 rfl rfl rfl rfl ?_
    refine W.seq ?_
    refine W.seq ?_
    refine W.region ?_
    refine WL.load1 (v := .slice (some ⟨g, 0, none⟩) f.blocks.length f.blocks.length) one_40 rfl rfl rfl (hS.cell 0 rfl rfl) ?_
    refine WL.move rfl rfl rfl ?_
    refine WL.indexAddr (j := k) Try.underlying40 isz_4 rfl rfl rfl rfl (by omega) ?_
    obtain ⟨xu, hxu⟩ : ∃ zz, us[k]? = some zz := ⟨_, List.getElem?_eq_getElem (by omega)⟩
    refine WL.load1 (v := .bool xu) one_4 rfl rfl rfl (hS.arr 1 rfl hxu) ?_
    refine WL.nil ?_
    refine N.seq ?_
    refine W.cond rfl (fun hc1 => ?_) (fun hc1 => ?_)
    ·
      rw [hc1] at hxu
      refine Fin.ret0 rfl ?_
      have hr : reach13 f (0 + 1) us k = us := by rw [reach13, if_pos hxu]
      rw [hr]
      exact ⟨rfl, hS⟩
    ·
      rw [hc1] at hxu
      exact absurd (falses_pos hxu) (by omega)
  | succ n ih0 =>
    have ih : ∀ {w : World} {L : List (Nat × Obj)} (k : Nat) (us : List Bool) (hN : us.length = f.blocks.length) (hk : k < f.blocks.length) (hfl : falses us ≤ n) (hS : St w0 ws w ro ((bu, .cells #[.slice (some ⟨g, 0, none⟩) f.blocks.length f.blocks.length] 40 (0, 0)) :: (g, arrO Value.bool 4 us) :: (bf, .cells #[.string f.name, .int .i64 f.bind, .int .i64 f.params, .slice adb f.blocks.length capb] 24 (0, 0)) :: (qr, .cells #[.func (.func 34) #[] #[.pointer (some ⟨bu, 0, none⟩), .pointer (some ⟨bf, 0, none⟩), .pointer (some ⟨qr, 0, none⟩)]] 66 (0, 0)) :: L) Rs), _ := fun k us hN hk hfl hS => ih0 k us hN hk hfl hS
    clear ih0
    refine Ret.enter (P := Try.prog) (n := 33) (args := [.int .i64 (k : Int), .pointer (some ⟨bu, 0, none⟩), .pointer (some ⟨bf, 0, none⟩), .pointer (some ⟨qr, 0, none⟩)]) (σ := [(0, .int .i64 (k : Int)), (1, .pointer (some ⟨bu, 0, none⟩)), (2, .pointer (some ⟨bf, 0, none⟩)), (3, .pointer (some ⟨qr, 0, none⟩))]) Try.func34 rfl rfl rfl rfl ?_
    refine W.seq ?_
    refine W.seq ?_
    refine W.region ?_
    refine WL.load1 (v := .slice (some ⟨g, 0, none⟩) f.blocks.length f.blocks.length) one_40 rfl rfl rfl (hS.cell 0 rfl rfl) ?_
    refine WL.move rfl rfl rfl ?_
    refine WL.indexAddr (j := k) Try.underlying40 isz_4 rfl rfl rfl rfl (by omega) ?_
    obtain ⟨xu, hxu⟩ : ∃ zz, us[k]? = some zz := ⟨_, List.getElem?_eq_getElem (by omega)⟩
    refine WL.load1 (v := .bool xu) one_4 rfl rfl rfl (hS.arr 1 rfl hxu) ?_
    refine WL.nil ?_
    refine N.seq ?_
    refine W.cond rfl (fun hc1 => ?_) (fun hc1 => ?_)
    ·
      rw [hc1] at hxu
      refine Fin.ret0 rfl ?_
      have hr : reach13 f (n + 1 + 1) us k = us := by rw [reach13, if_pos hxu]
      rw [hr]
      exact ⟨rfl, hS⟩
    ·
      rw [hc1] at hxu
      refine W.skip ?_
      refine N.seq ?_
      refine W.seq ?_
      refine W.region ?_
      refine WL.load1 (v := .slice (some ⟨g, 0, none⟩) f.blocks.length f.blocks.length) one_40 rfl rfl rfl (hS.cell 0 rfl rfl) ?_
      refine WL.move rfl rfl rfl ?_
      refine WL.indexAddr (j := k) Try.underlying40 isz_4 rfl rfl rfl rfl (by omega) ?_
      refine WL.storeArr (v := true) 1 rfl rfl rfl rfl siz_4 rfl rfl (by omega) hS ?_
      clear hS; intro w2 hS
      refine WL.nil ?_
      refine N.seq ?_
      refine W.seq ?_
      refine W.region ?_
      refine WL.fieldAddr fo_24_3 rfl rfl rfl ?_
      refine WL.load1 (v := .slice adb f.blocks.length capb) one_22 rfl rfl rfl (hS.cell 2 rfl rfl) ?_
      refine WL.move rfl rfl rfl ?_
      have hj3 : k < f.blocks.length := by omega
      obtain ⟨x3, hx3⟩ : ∃ zz, f.blocks[k]? = some zz := ⟨_, List.getElem?_eq_getElem hj3⟩
      obtain ⟨b3, o3, cs3, hE3, hr3, hl3, hc3, hQ3⟩ := hel k _ hx3
      obtain ⟨si3, tsx3, rfl, hin3, hfin3, hpar3⟩ := id hQ3
      obtain ⟨adi3, capi3, rfl, hin3a, hin3b, hin3c, hin3d⟩ := id hin3
      have hin3m : x3.ins.length ≤ 9223372036854775807 := by have h1 := hin3a; have h2 := hin3b; unfold maxLen at h2; omega
      obtain ⟨sp3, sq3, rfl, ht13, ht23, htk3, hta3, htt3, hte3⟩ := id hfin3
      obtain ⟨adp3, capp3, rfl, htp3a, htp3b, htp3c, htp3d⟩ := id ht13
      have htp3m : x3.fin.args.length ≤ 9223372036854775807 := by have h1 := htp3a; have h2 := htp3b; unfold maxLen at h2; omega
      obtain ⟨adq3, capq3, rfl, htq3a, htq3b, htq3c, htq3d⟩ := id ht23
      have htq3m : x3.fin.elses.length ≤ 9223372036854775807 := by have h1 := htq3a; have h2 := htq3b; unfold maxLen at h2; omega
      refine WL.indexAddrE (j := k) Try.underlying22 isz_32 rfl rfl rfl rfl hj3 hE3 ?_
      refine WL.fieldAddr fo_32_2 rfl rfl rfl ?_
      refine WL.loadN (cs := [.int .i64 x3.fin.kind, .int .i64 x3.fin.a, .int .i64 x3.fin.to, .slice adp3 x3.fin.args.length capp3, .int .i64 x3.fin.els, .slice adq3 x3.fin.elses.length capq3]) agg_30 rfl rfl rfl rfl (CellsAt.part (hS.roCells hr3 hc3) 2 6 rfl) ?_
      refine WL.alloc (tyZero_spec zer_30) rfl rfl hS ?_
      clear hS; intro w5 b4 hb_b4 hS
      refine WL.store (L' := ((b4, .cells #[.int .i64 x3.fin.kind, .int .i64 x3.fin.a, .int .i64 x3.fin.to, .slice adp3 x3.fin.args.length capp3, .int .i64 x3.fin.els, .slice adq3 x3.fin.elses.length capq3] 30 (0, 0)) :: (bu, .cells #[.slice (some ⟨g, 0, none⟩) f.blocks.length f.blocks.length] 40 (0, 0)) :: (g, arrO Value.bool 4 (us.set k true)) :: (bf, .cells #[.string f.name, .int .i64 f.bind, .int .i64 f.params, .slice adb f.blocks.length capb] 24 (0, 0)) :: (qr, .cells #[.func (.func 34) #[] #[.pointer (some ⟨bu, 0, none⟩), .pointer (some ⟨bf, 0, none⟩), .pointer (some ⟨qr, 0, none⟩)]] 66 (0, 0)) :: L)) 0 rfl rfl rfl rfl siz_30 rfl rfl rfl rfl rfl hS ?_
      clear hS; intro w6 hS
      refine WL.nil ?_
      refine N.seq ?_
      refine W.seq ?_
      refine W.seq ?_
      refine W.region ?_
      refine WL.fieldAddr fo_30_0 rfl rfl rfl ?_
      refine WL.load1 (v := .int .i64 x3.fin.kind) one_3 rfl rfl rfl (hS.cell 0 rfl rfl) ?_
      refine WL.bin rfl rfl rfl rfl rfl ?_
      refine WL.nil ?_
      refine N.seq ?_
      refine W.cond rfl (fun hc7 => ?_) (fun hc7 => ?_)
      ·
        have hc7p : ¬ (x3.fin.kind = 3) := by simpa using hc7
        refine W.region ?_
        refine WL.load1 (v := .func (.func 34) #[] #[.pointer (some ⟨bu, 0, none⟩), .pointer (some ⟨bf, 0, none⟩), .pointer (some ⟨qr, 0, none⟩)]) one_66 rfl rfl rfl (hS.cell 4 rfl rfl) ?_
        refine WL.fieldAddr fo_30_2 rfl rfl rfl ?_
        refine WL.load1 (v := .int .i64 x3.fin.to) one_3 rfl rfl rfl (hS.cell 0 rfl rfl) ?_
        replace hS : St w0 ws w6 ro ((bu, .cells #[.slice (some ⟨g, 0, none⟩) f.blocks.length f.blocks.length] 40 (0, 0)) :: (g, arrO Value.bool 4 (us.set k true)) :: (bf, .cells #[.string f.name, .int .i64 f.bind, .int .i64 f.params, .slice adb f.blocks.length capb] 24 (0, 0)) :: (qr, .cells #[.func (.func 34) #[] #[.pointer (some ⟨bu, 0, none⟩), .pointer (some ⟨bf, 0, none⟩), .pointer (some ⟨qr, 0, none⟩)]] 66 (0, 0)) :: (b4, .cells #[.int .i64 x3.fin.kind, .int .i64 x3.fin.a, .int .i64 x3.fin.to, .slice adp3 x3.fin.args.length capp3, .int .i64 x3.fin.els, .slice adq3 x3.fin.elses.length capq3] 30 (0, 0)) :: L) (Rs) := hS.perm (List.perm_middle (l₁ := [(bu, .cells #[.slice (some ⟨g, 0, none⟩) f.blocks.length f.blocks.length] 40 (0, 0)), (g, arrO Value.bool 4 (us.set k true)), (bf, .cells #[.string f.name, .int .i64 f.bind, .int .i64 f.params, .slice adb f.blocks.length capb] 24 (0, 0)), (qr, .cells #[.func (.func 34) #[] #[.pointer (some ⟨bu, 0, none⟩), .pointer (some ⟨bf, 0, none⟩), .pointer (some ⟨qr, 0, none⟩)]] 66 (0, 0))]) (a := (b4, .cells #[.int .i64 x3.fin.kind, .int .i64 x3.fin.a, .int .i64 x3.fin.to, .slice adp3 x3.fin.args.length capp3, .int .i64 x3.fin.els, .slice adq3 x3.fin.elses.length capq3] 30 (0, 0))) (l₂ := (L))).symm
        have hgo0 := (hgo x3 (List.mem_of_getElem? hx3)).1 (by omega)
        refine WL.set 24 (v' := .int .i64 ((x3.fin.to.toNat : Nat) : Int)) rfl (by congr 1; omega) ?_
        have hu1 := falses_set hxu
        refine WL.callV (vs := [.int .i64 ((x3.fin.to.toNat : Nat) : Int)]) (cs := #[.pointer (some ⟨bu, 0, none⟩), .pointer (some ⟨bf, 0, none⟩), .pointer (some ⟨qr, 0, none⟩)]) Try.func34 (by kernel_rfl) rfl rfl rfl rfl (ih x3.fin.to.toNat (us.set k true) (by simp only [reach13_length, List.length_set]; exact hN) (by omega) (by have h1 := falses_set hxu; generalize falses (us.set k true) = z at *; omega) hS) ?_
        rintro v w8 ⟨rfl, hS⟩
        refine WL.nil ?_
        refine N.seq ?_
        refine W.seq ?_
        refine W.region ?_
        refine WL.fieldAddr fo_30_0 rfl rfl rfl ?_
        refine WL.load1 (v := .int .i64 x3.fin.kind) one_3 rfl rfl rfl (hS.cell 4 rfl rfl) ?_
        refine WL.bin rfl rfl rfl rfl rfl ?_
        refine WL.nil ?_
        refine N.seq ?_
        refine W.cond rfl (fun hc9 => ?_) (fun hc9 => ?_)
        ·
          have hc9p : x3.fin.kind = 2 := by simpa using hc9
          refine W.region ?_
          refine WL.load1 (v := .func (.func 34) #[] #[.pointer (some ⟨bu, 0, none⟩), .pointer (some ⟨bf, 0, none⟩), .pointer (some ⟨qr, 0, none⟩)]) one_66 rfl rfl rfl (hS.cell 3 rfl rfl) ?_
          refine WL.fieldAddr fo_30_4 rfl rfl rfl ?_
          refine WL.load1 (v := .int .i64 x3.fin.els) one_3 rfl rfl rfl (hS.cell 4 rfl rfl) ?_
          have hgo1 := (hgo x3 (List.mem_of_getElem? hx3)).2 (by omega)
          refine WL.set 31 (v' := .int .i64 ((x3.fin.els.toNat : Nat) : Int)) rfl (by congr 1; omega) ?_
          refine WL.callV (vs := [.int .i64 ((x3.fin.els.toNat : Nat) : Int)]) (cs := #[.pointer (some ⟨bu, 0, none⟩), .pointer (some ⟨bf, 0, none⟩), .pointer (some ⟨qr, 0, none⟩)]) Try.func34 (by kernel_rfl) rfl rfl rfl rfl (ih x3.fin.els.toNat (reach13 f (n + 1) (us.set k true) x3.fin.to.toNat) (by simp only [reach13_length, List.length_set]; exact hN) (by omega) (by have h1 := falses_set hxu; have h2 := reach13_falses f (n + 1) (us.set k true) x3.fin.to.toNat; generalize falses (us.set k true) = z at *; omega) hS) ?_
          rintro v w10 ⟨rfl, hS⟩
          refine WL.nil ?_
          refine Fin.end0 rfl ?_
          have hr : reach13 f (n + 1 + 1) us k = (reach13 f (n + 1) (reach13 f (n + 1) (us.set k true) x3.fin.to.toNat) x3.fin.els.toNat) := by
            rw [reach13, if_neg (by rw [hxu]; simp), hx3]
            dsimp only
            rw [if_pos (by omega), if_neg (by omega)]
          rw [hr]
          exact ⟨rfl, hS.drop (L' := ((bu, .cells #[.slice (some ⟨g, 0, none⟩) f.blocks.length f.blocks.length] 40 (0, 0)) :: (g, arrO Value.bool 4 (reach13 f (n + 1) (reach13 f (n + 1) (us.set k true) x3.fin.to.toNat) x3.fin.els.toNat)) :: (bf, .cells #[.string f.name, .int .i64 f.bind, .int .i64 f.params, .slice adb f.blocks.length capb] 24 (0, 0)) :: (qr, .cells #[.func (.func 34) #[] #[.pointer (some ⟨bu, 0, none⟩), .pointer (some ⟨bf, 0, none⟩), .pointer (some ⟨qr, 0, none⟩)]] 66 (0, 0)) :: L)) (List.Sublist.append_left (List.sublist_cons_self (b4, .cells #[.int .i64 x3.fin.kind, .int .i64 x3.fin.a, .int .i64 x3.fin.to, .slice adp3 x3.fin.args.length capp3, .int .i64 x3.fin.els, .slice adq3 x3.fin.elses.length capq3] 30 (0, 0)) L) [(bu, .cells #[.slice (some ⟨g, 0, none⟩) f.blocks.length f.blocks.length] 40 (0, 0)), (g, arrO Value.bool 4 (reach13 f (n + 1) (reach13 f (n + 1) (us.set k true) x3.fin.to.toNat) x3.fin.els.toNat)), (bf, .cells #[.string f.name, .int .i64 f.bind, .int .i64 f.params, .slice adb f.blocks.length capb] 24 (0, 0)), (qr, .cells #[.func (.func 34) #[] #[.pointer (some ⟨bu, 0, none⟩), .pointer (some ⟨bf, 0, none⟩), .pointer (some ⟨qr, 0, none⟩)]] 66 (0, 0))]) (List.Sublist.refl _)⟩
        ·
          have hc9p : ¬ (x3.fin.kind = 2) := by simpa using hc9
          refine W.skip ?_
          refine Fin.end0 rfl ?_
          have hr : reach13 f (n + 1 + 1) us k = (reach13 f (n + 1) (us.set k true) x3.fin.to.toNat) := by
            rw [reach13, if_neg (by rw [hxu]; simp), hx3]
            dsimp only
            rw [if_neg (by omega), if_neg (by omega)]
          rw [hr]
          exact ⟨rfl, hS.drop (L' := ((bu, .cells #[.slice (some ⟨g, 0, none⟩) f.blocks.length f.blocks.length] 40 (0, 0)) :: (g, arrO Value.bool 4 (reach13 f (n + 1) (us.set k true) x3.fin.to.toNat)) :: (bf, .cells #[.string f.name, .int .i64 f.bind, .int .i64 f.params, .slice adb f.blocks.length capb] 24 (0, 0)) :: (qr, .cells #[.func (.func 34) #[] #[.pointer (some ⟨bu, 0, none⟩), .pointer (some ⟨bf, 0, none⟩), .pointer (some ⟨qr, 0, none⟩)]] 66 (0, 0)) :: L)) (List.Sublist.append_left (List.sublist_cons_self (b4, .cells #[.int .i64 x3.fin.kind, .int .i64 x3.fin.a, .int .i64 x3.fin.to, .slice adp3 x3.fin.args.length capp3, .int .i64 x3.fin.els, .slice adq3 x3.fin.elses.length capq3] 30 (0, 0)) L) [(bu, .cells #[.slice (some ⟨g, 0, none⟩) f.blocks.length f.blocks.length] 40 (0, 0)), (g, arrO Value.bool 4 (reach13 f (n + 1) (us.set k true) x3.fin.to.toNat)), (bf, .cells #[.string f.name, .int .i64 f.bind, .int .i64 f.params, .slice adb f.blocks.length capb] 24 (0, 0)), (qr, .cells #[.func (.func 34) #[] #[.pointer (some ⟨bu, 0, none⟩), .pointer (some ⟨bf, 0, none⟩), .pointer (some ⟨qr, 0, none⟩)]] 66 (0, 0))]) (List.Sublist.refl _)⟩
      ·
        have hc7p : x3.fin.kind = 3 := by simpa using hc7
        refine W.skip ?_
        refine N.seq ?_
        refine W.seq ?_
        refine W.region ?_
        refine WL.fieldAddr fo_30_0 rfl rfl rfl ?_
        refine WL.load1 (v := .int .i64 x3.fin.kind) one_3 rfl rfl rfl (hS.cell 0 rfl rfl) ?_
        refine WL.bin rfl rfl rfl rfl rfl ?_
        refine WL.nil ?_
        refine N.seq ?_
        refine W.cond rfl (fun hc11 => ?_) (fun hc11 => ?_)
        ·
          have hc11p : x3.fin.kind = 2 := by simpa using hc11
          refine W.region ?_
          refine WL.load1 (v := .func (.func 34) #[] #[.pointer (some ⟨bu, 0, none⟩), .pointer (some ⟨bf, 0, none⟩), .pointer (some ⟨qr, 0, none⟩)]) one_66 rfl rfl rfl (hS.cell 4 rfl rfl) ?_
          refine WL.fieldAddr fo_30_4 rfl rfl rfl ?_
          refine WL.load1 (v := .int .i64 x3.fin.els) one_3 rfl rfl rfl (hS.cell 0 rfl rfl) ?_
          replace hS : St w0 ws w6 ro ((bu, .cells #[.slice (some ⟨g, 0, none⟩) f.blocks.length f.blocks.length] 40 (0, 0)) :: (g, arrO Value.bool 4 (us.set k true)) :: (bf, .cells #[.string f.name, .int .i64 f.bind, .int .i64 f.params, .slice adb f.blocks.length capb] 24 (0, 0)) :: (qr, .cells #[.func (.func 34) #[] #[.pointer (some ⟨bu, 0, none⟩), .pointer (some ⟨bf, 0, none⟩), .pointer (some ⟨qr, 0, none⟩)]] 66 (0, 0)) :: (b4, .cells #[.int .i64 x3.fin.kind, .int .i64 x3.fin.a, .int .i64 x3.fin.to, .slice adp3 x3.fin.args.length capp3, .int .i64 x3.fin.els, .slice adq3 x3.fin.elses.length capq3] 30 (0, 0)) :: L) (Rs) := hS.perm (List.perm_middle (l₁ := [(bu, .cells #[.slice (some ⟨g, 0, none⟩) f.blocks.length f.blocks.length] 40 (0, 0)), (g, arrO Value.bool 4 (us.set k true)), (bf, .cells #[.string f.name, .int .i64 f.bind, .int .i64 f.params, .slice adb f.blocks.length capb] 24 (0, 0)), (qr, .cells #[.func (.func 34) #[] #[.pointer (some ⟨bu, 0, none⟩), .pointer (some ⟨bf, 0, none⟩), .pointer (some ⟨qr, 0, none⟩)]] 66 (0, 0))]) (a := (b4, .cells #[.int .i64 x3.fin.kind, .int .i64 x3.fin.a, .int .i64 x3.fin.to, .slice adp3 x3.fin.args.length capp3, .int .i64 x3.fin.els, .slice adq3 x3.fin.elses.length capq3] 30 (0, 0))) (l₂ := (L))).symm
          have hgo1 := (hgo x3 (List.mem_of_getElem? hx3)).2 (by omega)
          refine WL.set 31 (v' := .int .i64 ((x3.fin.els.toNat : Nat) : Int)) rfl (by congr 1; omega) ?_
          refine WL.callV (vs := [.int .i64 ((x3.fin.els.toNat : Nat) : Int)]) (cs := #[.pointer (some ⟨bu, 0, none⟩), .pointer (some ⟨bf, 0, none⟩), .pointer (some ⟨qr, 0, none⟩)]) Try.func34 (by kernel_rfl) rfl rfl rfl rfl (ih x3.fin.els.toNat (us.set k true) (by simp only [reach13_length, List.length_set]; exact hN) (by omega) (by have h1 := falses_set hxu; generalize falses (us.set k true) = z at *; omega) hS) ?_
          rintro v w12 ⟨rfl, hS⟩
          refine WL.nil ?_
          refine Fin.end0 rfl ?_
          have hr : reach13 f (n + 1 + 1) us k = (reach13 f (n + 1) (us.set k true) x3.fin.els.toNat) := by
            rw [reach13, if_neg (by rw [hxu]; simp), hx3]
            dsimp only
            rw [if_pos (by omega), if_pos (by omega)]
          rw [hr]
          exact ⟨rfl, hS.drop (L' := ((bu, .cells #[.slice (some ⟨g, 0, none⟩) f.blocks.length f.blocks.length] 40 (0, 0)) :: (g, arrO Value.bool 4 (reach13 f (n + 1) (us.set k true) x3.fin.els.toNat)) :: (bf, .cells #[.string f.name, .int .i64 f.bind, .int .i64 f.params, .slice adb f.blocks.length capb] 24 (0, 0)) :: (qr, .cells #[.func (.func 34) #[] #[.pointer (some ⟨bu, 0, none⟩), .pointer (some ⟨bf, 0, none⟩), .pointer (some ⟨qr, 0, none⟩)]] 66 (0, 0)) :: L)) (List.Sublist.append_left (List.sublist_cons_self (b4, .cells #[.int .i64 x3.fin.kind, .int .i64 x3.fin.a, .int .i64 x3.fin.to, .slice adp3 x3.fin.args.length capp3, .int .i64 x3.fin.els, .slice adq3 x3.fin.elses.length capq3] 30 (0, 0)) L) [(bu, .cells #[.slice (some ⟨g, 0, none⟩) f.blocks.length f.blocks.length] 40 (0, 0)), (g, arrO Value.bool 4 (reach13 f (n + 1) (us.set k true) x3.fin.els.toNat)), (bf, .cells #[.string f.name, .int .i64 f.bind, .int .i64 f.params, .slice adb f.blocks.length capb] 24 (0, 0)), (qr, .cells #[.func (.func 34) #[] #[.pointer (some ⟨bu, 0, none⟩), .pointer (some ⟨bf, 0, none⟩), .pointer (some ⟨qr, 0, none⟩)]] 66 (0, 0))]) (List.Sublist.refl _)⟩
        ·
          have hc11p : ¬ (x3.fin.kind = 2) := by simpa using hc11
          refine W.skip ?_
          refine Fin.end0 rfl ?_
          have hr : reach13 f (n + 1 + 1) us k = us.set k true := by
            rw [reach13, if_neg (by rw [hxu]; simp), hx3]
            dsimp only
            rw [if_neg (by omega), if_pos (by omega)]
          rw [hr]
          exact ⟨rfl, hS.dropN 1⟩

theorem reached_ret (f : DFunc) (cf : List Value) {w : World} {ro : Nat → Prop} (hro : ∀ b, ro b → b < w.heap.size) (hx : FuncC ro w cf f) (hgo : Goes13 f) (hl : f.blocks.length ≤ 1000) : Ret Try.prog 14 #[.agg cf.toArray] w fun v w' => SlV (fun b => w.heap.size ≤ b ∧ b < w'.heap.size) w' 1 BoolC v (reached13 f) ∧ Below w.heap.size w w' := by
 obtain ⟨sbF, rfl, hblF, hnmF, hbdF, hprF⟩ := id hx
 obtain ⟨adbF, capbF, rfl, hbkFa, hbkFb, hbkFc, hbkFd⟩ := id hblF
 have hbkFm : f.blocks.length ≤ 9223372036854775807 := by have h1 := hbkFa; have h2 := hbkFb; unfold maxLen at h2; omega
 refine Ret.enter (P := Try.prog) (n := 16) (args := [.agg #[.string f.name, .int .i64 f.bind, .int .i64 f.params, .slice adbF f.blocks.length capbF]]) (σ := [(0, .agg #[.string f.name, .int .i64 f.bind, .int .i64 f.params, .slice adbF f.blocks.length capbF])]) Try.func14 rfl rfl rfl rfl ?_
 have hS := St.start (ro := ro) hro
 refine W.seq (W.region ?_)
 refine WL.box (v := .agg #[.string f.name, .int .i64 f.bind, .int .i64 f.params, .slice adbF f.blocks.length capbF]) (cs := [.string f.name, .int .i64 f.bind, .int .i64 f.params, .slice adbF f.blocks.length capbF]) rfl rfl rfl rfl hS ?_
 clear hS; intro w2 b1 hb_b1 hS
 refine WL.assign rfl rfl rfl (WL.nil (N.seq (W.seq (W.region (WL.fieldAddr fo_24_3 rfl rfl rfl (WL.load1 (v := .slice adbF f.blocks.length capbF) one_22 rfl rfl rfl (hS.cell 0 rfl rfl) (WL.lenSlice Try.underlying22 rfl rfl rfl ?_)))))))
 refine WL.makeSliceL (m := f.blocks.length) (f := Value.bool) (z := false) 1 Try.underlying40 (tyZero_spec zer_4) byt_4 rfl rfl rfl rfl hS (by unfold maxLen; omega) (by omega) ?_
 clear hS; intro w4 b3 hS
 refine WL.alloc (tyZero_spec zer_40) rfl rfl hS ?_
 clear hS; intro w6 b5 hb_b5 hS
 refine WL.store (L' := [(b5, .cells #[.slice (some ⟨b3, 0, none⟩) f.blocks.length f.blocks.length] 40 (0, 0)), (b3, arrO Value.bool 4 (List.replicate f.blocks.length false)), (b1, .cells #[.string f.name, .int .i64 f.bind, .int .i64 f.params, .slice adbF f.blocks.length capbF] 24 (0, 0))]) 0 rfl rfl rfl rfl siz_40 rfl rfl rfl rfl rfl hS ?_
 clear hS; intro w7 hS
 refine WL.nil (N.seq (W.seq (W.region ?_)))
 refine WL.alloc (tyZero_spec zer_66) rfl rfl hS ?_
 clear hS; intro w9 b8 hb_b8 hS
 refine WL.nil (N.seq (W.seq (W.region ?_)))
 refine WL.makeFunc (vs := #[.pointer (some ⟨b5, 0, none⟩), .pointer (some ⟨b1, 0, none⟩), .pointer (some ⟨b8, 0, none⟩)]) rfl rfl rfl ?_
 refine WL.store (L' := [(b8, .cells #[.func (.func 34) #[] #[.pointer (some ⟨b5, 0, none⟩), .pointer (some ⟨b1, 0, none⟩), .pointer (some ⟨b8, 0, none⟩)]] 66 (0, 0)), (b5, .cells #[.slice (some ⟨b3, 0, none⟩) f.blocks.length f.blocks.length] 40 (0, 0)), (b3, arrO Value.bool 4 (List.replicate f.blocks.length false)), (b1, .cells #[.string f.name, .int .i64 f.bind, .int .i64 f.params, .slice adbF f.blocks.length capbF] 24 (0, 0))]) 0 rfl rfl rfl rfl siz_66 rfl rfl rfl rfl rfl hS ?_
 clear hS; intro w10 hS
 refine WL.nil (N.seq (W.seq (W.seq (W.region (WL.load1 (v := .slice (some ⟨b3, 0, none⟩) f.blocks.length f.blocks.length) one_40 rfl rfl rfl (hS.cell 1 rfl rfl) (WL.lenSlice Try.underlying40 rfl rfl rfl (WL.bin rfl rfl rfl rfl rfl (WL.nil (N.seq ?_)))))))))
 refine W.cond rfl (fun hc11 => ?_) (fun hc11 => ?_)
 ·
  have hc11p : 0 < (f.blocks.length : Int) := by simpa using hc11
  refine W.region (WL.load1 (v := .func (.func 34) #[] #[.pointer (some ⟨b5, 0, none⟩), .pointer (some ⟨b1, 0, none⟩), .pointer (some ⟨b8, 0, none⟩)]) one_66 rfl rfl rfl (hS.cell 0 rfl rfl) ?_)
  replace hS : St w w w10 ro [(b5, .cells #[.slice (some ⟨b3, 0, none⟩) f.blocks.length f.blocks.length] 40 (0, 0)), (b3, arrO Value.bool 4 (List.replicate f.blocks.length false)), (b1, .cells #[.string f.name, .int .i64 f.bind, .int .i64 f.params, .slice adbF f.blocks.length capbF] 24 (0, 0)), (b8, .cells #[.func (.func 34) #[] #[.pointer (some ⟨b5, 0, none⟩), .pointer (some ⟨b1, 0, none⟩), .pointer (some ⟨b8, 0, none⟩)]] 66 (0, 0))] [] := hS.perm (List.perm_middle (l₁ := [(b5, .cells #[.slice (some ⟨b3, 0, none⟩) f.blocks.length f.blocks.length] 40 (0, 0)), (b3, arrO Value.bool 4 (List.replicate f.blocks.length false)), (b1, .cells #[.string f.name, .int .i64 f.bind, .int .i64 f.params, .slice adbF f.blocks.length capbF] 24 (0, 0))]) (a := (b8, .cells #[.func (.func 34) #[] #[.pointer (some ⟨b5, 0, none⟩), .pointer (some ⟨b1, 0, none⟩), .pointer (some ⟨b8, 0, none⟩)]] 66 (0, 0))) (l₂ := [])).symm
  refine WL.callV (vs := [.int .i64 0]) (cs := #[.pointer (some ⟨b5, 0, none⟩), .pointer (some ⟨b1, 0, none⟩), .pointer (some ⟨b8, 0, none⟩)]) Try.func34 (by kernel_rfl) rfl rfl rfl rfl (reach_ret f.blocks.length f _ _ b5 b3 b1 b8 0 (List.replicate f.blocks.length false) (List.length_replicate) (by omega) (by unfold falses; rw [List.count_replicate_self]; exact Nat.le_refl _) hbkFd hgo (by omega) hS) ?_
  rintro v w12 ⟨rfl, hS⟩
  refine WL.nil (N.seq (W.seq (W.region (WL.load1 (v := .slice (some ⟨b3, 0, none⟩) f.blocks.length f.blocks.length) one_40 rfl rfl rfl (hS.cell 0 rfl rfl) (WL.assign rfl rfl rfl (WL.nil (N.seq ?_)))))))
  refine Fin.ret1 rfl (v := .slice (some ⟨b3, 0, none⟩) f.blocks.length f.blocks.length) rfl ?_
  have he : reached13 f = (reach13 f (f.blocks.length + 1) (List.replicate f.blocks.length false) 0) := by unfold reached13; rw [if_neg (by omega)]
  rw [he]
  exact ⟨arr_row (hS.dropN 1) (by rw [← he, reached13_length]; unfold maxLen; omega) (by rw [← he, reached13_length]) rfl (fun _ _ => rfl) ((hS.keys b3 (by simp [keysOf])).imp id (·.1)), hS.below⟩
 have hc11p : ¬ (0 < (f.blocks.length : Int)) := by simpa using hc11
 refine W.skip (N.seq (W.seq (W.region (WL.load1 (v := .slice (some ⟨b3, 0, none⟩) f.blocks.length f.blocks.length) one_40 rfl rfl rfl (hS.cell 1 rfl rfl) (WL.assign rfl rfl rfl (WL.nil (N.seq ?_)))))))
 refine Fin.ret1 rfl (v := .slice (some ⟨b3, 0, none⟩) f.blocks.length f.blocks.length) rfl ?_
 have he : reached13 f = List.replicate f.blocks.length false := by unfold reached13; rw [if_pos (by omega)]; rw [show f.blocks.length = 0 by omega]; rfl
 rw [he]
 exact ⟨arr_row (hS.dropN 2) (by rw [← he, reached13_length]; unfold maxLen; omega) (by rw [← he, reached13_length]) rfl (fun _ _ => rfl) ((hS.keys b3 (by simp [keysOf])).imp id (·.1)), hS.below⟩

end Go.Proofs.Ytdlcmhkfglckfaa
