/-
  Contracts of layer 13 (trim). No condition beyond those that each theorem states.
-/
import Derived.Test.YtdlcmhkfglckfaaU7
namespace Go.Proofs.Ytdlcmhkfglckfaa
open Go.RowKit

theorem empty_size {s : ByteArray} (h : s = ⟨#[]⟩) : s.size = 0 := by rw [h]; rfl
theorem inst5_more {x : DInst} {n : Int} (h : inst5 x n = true) : below5 (uses5 x) n = true ∧ (¬ ((2 ≤ x.op ∧ x.op ≤ 11) ∨ x.op = 13 ∨ x.op = 16) → x.a = 0) ∧ (¬ (2 ≤ x.op ∧ x.op ≤ 11) → x.b = 0) ∧ (x.op ≠ 1 → x.k = 0) ∧ (x.op ≠ 14 → x.args.length = 0) ∧ (named5 x = true → name5 x.name = true) ∧ (named5 x = false → x.name = ⟨#[]⟩) := by
  have h0 := (inst5_all h).2.1
  have hb : below5 (uses5 x) n = true := by
    unfold below5; rw [List.all_eq_true]; intro v hv
    have := h0 v hv
    simp only [Bool.and_eq_true, decide_eq_true_eq]; exact this
  unfold inst5 at h
  split at h
  · cases h
  split at h
  · cases h
  rename_i h1 h2
  refine ⟨hb, fun c => ?_, fun c => ?_, fun c => ?_, fun c => ?_, fun c => ?_, fun c => ?_⟩
  · exact Classical.byContradiction fun e => h2 (.inl ⟨c, e⟩)
  · exact Classical.byContradiction fun e => h2 (.inr (.inl ⟨c, e⟩))
  · exact Classical.byContradiction fun e => h2 (.inr (.inr (.inl ⟨c, e⟩)))
  · exact Classical.byContradiction fun e => h2 (.inr (.inr (.inr ⟨c, by omega⟩)))
  · rw [if_pos c] at h; exact h
  · rw [if_neg (by rw [c]; simp)] at h; simpa using h
theorem goes5_more {f : DFunc} {to : Int} {args : List Int} {n : Int} (h : goes5 f to args n = true) : 0 ≤ to ∧ to < f.blocks.length ∧ below5 args n = true ∧ ∀ b, f.blocks[to.toNat]? = some b → (args.length : Int) = b.params := by
  unfold goes5 at h
  split at h
  · cases h
  rename_i h0
  split at h
  · rename_i b hb
    split at h
    · rename_i hl
      have := (List.getElem?_eq_some_iff.1 hb).1
      exact ⟨by omega, by omega, h, fun c hc => by rw [hb] at hc; cases hc; exact hl⟩
    · cases h
  · cases h
theorem term5_more {f : DFunc} {t : DTerm} {n : Int} (h : term5 f t n = true) : 1 ≤ t.kind ∧ t.kind ≤ 3 ∧ (t.kind = 1 → t.a = 0 ∧ t.els = 0 ∧ t.elses.length = 0) ∧ (t.kind = 3 → t.els = 0 ∧ t.elses.length = 0 ∧ t.to = 0 ∧ t.args.length = 0) ∧
    (t.kind ≠ 3 → goes5 f t.to t.args n = true) ∧ (t.kind = 2 → goes5 f t.els t.elses n = true) ∧ (t.kind ≠ 1 → below5 [t.a] n = true) := by
  unfold term5 at h
  have hb : (0 ≤ t.a ∧ t.a < n) → below5 [t.a] n = true := fun h => by unfold below5; simp; exact h
  split at h
  · rename_i h1
    simp only [Bool.and_eq_true, decide_eq_true_eq] at h
    obtain ⟨⟨⟨hg, ha⟩, he⟩, hl⟩ := h
    exact ⟨by omega, by omega, fun _ => ⟨ha, he, hl⟩, fun c => by omega, fun _ => hg, fun c => by omega, fun c => absurd h1 c⟩
  · split at h
    · rename_i h1 h2
      simp only [Bool.and_eq_true, decide_eq_true_eq] at h
      obtain ⟨⟨ha, hg⟩, he⟩ := h
      exact ⟨by omega, by omega, fun c => by omega, fun c => by omega, fun _ => hg, fun _ => he, fun _ => hb ha⟩
    · rename_i h1 h2
      simp only [Bool.and_eq_true, decide_eq_true_eq] at h
      obtain ⟨⟨⟨⟨⟨k3, ha⟩, h3⟩, h4⟩, h5⟩, h6⟩ := h
      exact ⟨by omega, by omega, fun c => by omega, fun _ => ⟨h5, h6, h3, h4⟩, fun c => absurd k3 c, fun c => by omega, fun _ => hb ha⟩
theorem name5_more {s : ByteArray} (h : name5 s = true) : 1 ≤ s.size ∧ s.size ≤ 16 := by unfold name5 at h; simpa using h
theorem func5_more {f : DFunc} (h : func5 f = true) : name5 f.name = true ∧ 1 ≤ f.bind ∧ f.bind ≤ 3 ∧ 0 ≤ f.params ∧ f.params ≤ 6 ∧ f.blocks.length ≤ 16 ∧ (f.blocks.length = 0 → f.bind ≠ 1) ∧ (∀ b, f.blocks[0]? = some b → b.params = f.params) ∧ ∀ b ∈ f.blocks, block5 f b = true := by
  have hall := (func5_all h).2
  unfold func5 at h
  split at h
  · cases h
  rename_i h1
  have hn : name5 f.name = true := by cases e : name5 f.name with
    | true => rfl
    | false => exact absurd (.inl e) h1
  refine ⟨hn, by omega, by omega, by omega, by omega, by omega, ?_, ?_, hall⟩
  · intro h0
    split at h
    · simpa using h
    · rename_i e; rw [e] at h0; simp at h0
  · intro b hb
    split at h
    · rename_i e; rw [e] at hb; simp at hb
    · rename_i c r e
      rw [e] at hb
      simp only [List.getElem?_cons_zero, Option.some.injEq] at hb
      subst hb
      simp only [Bool.and_eq_true, decide_eq_true_eq] at h
      exact h.1

theorem irname_ret (s : ByteArray) (hs : name5 s = true) {w : World} {ro : Nat → Prop} (hro : ∀ b, ro b → b < w.heap.size) : Ret Try.prog 54 #[.string s] w fun v w' => v = .bool true ∧ Below w.heap.size w w' := by
 refine Ret.enter (P := Try.prog) (n := 10) (args := [.string s]) (σ := [(0, .string s)]) Try.func54 rfl rfl rfl rfl ?_
 have hS := St.start (ro := ro) hro
 have hsz := name5_more hs
 refine W.seq (W.region (WL.assign rfl rfl rfl (WL.nil (N.seq (W.seq (W.region (WL.move rfl rfl rfl (WL.neStr rfl rfl rfl rfl ?_))))))))
 refine WL.set 4 (v' := .bool true) rfl (by rw [decide_eq_false (fun e => by have := empty_size e; omega)]; rfl) ?_
 refine WL.move rfl rfl rfl (WL.move rfl rfl rfl (WL.lenStr Try.underlying9 rfl rfl rfl (WL.bin rfl rfl rfl rfl rfl ?_)))
 refine WL.set 8 (v' := .bool true) rfl (congrArg Value.bool (show (decide ((s.size : Int) ≤ 16)) = true from decide_eq_true (by omega))) ?_
 refine WL.pick (v := .bool true) rfl rfl rfl rfl rfl rfl (WL.assign rfl rfl rfl (WL.nil (N.seq ?_)))
 refine Fin.ret1 rfl (v := .bool true) rfl ?_
 exact ⟨rfl, hS.below⟩

theorem irnamed_ret (x : DInst) (cx : List Value) {w : World} {ro : Nat → Prop} (hro : ∀ b, ro b → b < w.heap.size) (hx : InstC ro w cx x) : Ret Try.prog 68 #[.agg cx.toArray] w fun v w' => v = .bool (named5 x) ∧ Below w.heap.size w w' := by
 have hQx := hx
 obtain ⟨sx, rfl, hsx, hox, hax, hbx, hkx, hnx⟩ := id hx
 obtain ⟨adx, capx, rfl, hsxa, hsxb, hsxc, hsxd⟩ := id hsx
 have hsxm : x.args.length ≤ 9223372036854775807 := by have h1 := hsxa; have h2 := hsxb; unfold maxLen at h2; omega
 refine Ret.enter (P := Try.prog) (n := 16) (args := [.agg #[.int .i64 x.op, .int .i64 x.a, .int .i64 x.b, .int .u64 x.k, .string x.name, .slice adx x.args.length capx]]) (σ := [(0, .agg #[.int .i64 x.op, .int .i64 x.a, .int .i64 x.b, .int .u64 x.k, .string x.name, .slice adx x.args.length capx])]) Try.func68 rfl rfl rfl rfl ?_
 have hS := St.start (ro := ro) hro
 refine W.seq (W.region ?_)
 refine WL.box (v := .agg #[.int .i64 x.op, .int .i64 x.a, .int .i64 x.b, .int .u64 x.k, .string x.name, .slice adx x.args.length capx]) (cs := [.int .i64 x.op, .int .i64 x.a, .int .i64 x.b, .int .u64 x.k, .string x.name, .slice adx x.args.length capx]) rfl rfl rfl rfl hS ?_
 clear hS; intro w2 b1 hb_b1 hS
 refine WL.assign rfl rfl rfl (WL.nil (N.seq (W.seq (W.region (WL.fieldAddr fo_36_0 rfl rfl rfl (WL.load1 (v := .int .i64 x.op) one_3 rfl rfl rfl (hS.cell 0 rfl rfl) (WL.bin rfl rfl rfl rfl rfl (WL.move rfl rfl rfl ?_))))))))
 cases hg3 : (decide (x.op = 12))
 ·
  have hg3p : ¬ (x.op = 12) := by simpa using hg3
  refine WL.fieldAddr fo_36_0 rfl rfl rfl (WL.load1 (v := .int .i64 x.op) one_3 rfl rfl rfl (hS.cell 0 rfl rfl) (WL.bin rfl rfl rfl rfl rfl (WL.pick (v := .bool (decide (x.op = 13))) rfl rfl rfl rfl rfl rfl (WL.move rfl rfl rfl ?_))))
  cases hg4 : (decide (x.op = 13))
  ·
   have hg4p : ¬ (x.op = 13) := by simpa using hg4
   refine WL.fieldAddr fo_36_0 rfl rfl rfl (WL.load1 (v := .int .i64 x.op) one_3 rfl rfl rfl (hS.cell 0 rfl rfl) (WL.bin rfl rfl rfl rfl rfl (WL.pick (v := .bool (decide (x.op = 14))) rfl rfl rfl rfl rfl rfl (WL.assign rfl rfl rfl (WL.nil (N.seq ?_))))))
   refine Fin.ret1 rfl (v := .bool (decide (x.op = 14))) rfl ?_
   have hbz := hS.below
   clear hS
   refine ⟨?_, hbz⟩
   congr 1
   simp only [named5]
   simp_all
  have hg4p : x.op = 13 := by simpa using hg4
  refine WL.skp rfl rfl (WL.skp rfl rfl (WL.skp rfl rfl (WL.pick (v := .bool true) rfl rfl rfl rfl rfl rfl (WL.assign rfl rfl rfl (WL.nil (N.seq ?_))))))
  refine Fin.ret1 rfl (v := .bool true) rfl ?_
  have hbz := hS.below
  clear hS
  refine ⟨?_, hbz⟩
  congr 1
  simp only [named5]
  simp_all
 have hg3p : x.op = 12 := by simpa using hg3
 refine WL.skp rfl rfl (WL.skp rfl rfl (WL.skp rfl rfl (WL.pick (v := .bool true) rfl rfl rfl rfl rfl rfl (WL.move rfl rfl rfl (WL.skp rfl rfl (WL.skp rfl rfl (WL.skp rfl rfl (WL.pick (v := .bool true) rfl rfl rfl rfl rfl rfl (WL.assign rfl rfl rfl ?_)))))))))
 refine WL.nil (N.seq ?_)
 refine Fin.ret1 rfl (v := .bool true) rfl ?_
 have hbz := hS.below
 clear hS
 refine ⟨?_, hbz⟩
 congr 1
 simp only [named5]
 simp_all

theorem irall1_ret (x n : Int) (bn : Nat) {w : World} {ro : Nat → Prop} (hro : ∀ b, ro b → b < w.heap.size) (hbn : ro bn) (hcn : CellsAt w bn 0 [.int .i64 n]) (hx : 0 ≤ x ∧ x < n) : Ret Try.prog 72 #[.int .i64 x, .pointer (some ⟨bn, 0, none⟩)] w fun v w' => v = .bool false ∧ Below w.heap.size w w' := by
 refine Ret.enter (P := Try.prog) (n := 11) (args := [.int .i64 x, .pointer (some ⟨bn, 0, none⟩)]) (σ := [(0, .int .i64 x), (1, .pointer (some ⟨bn, 0, none⟩))]) Try.func72 rfl rfl rfl rfl ?_
 have hS := St.start (ro := ro) hro
 refine W.seq (W.region (WL.assign rfl rfl rfl (WL.nil (N.seq (W.seq (W.region (WL.move rfl rfl rfl (WL.bin rfl rfl rfl rfl rfl ?_))))))))
 refine WL.set 5 (v' := .bool false) rfl (congrArg Value.bool (show (decide (x < 0)) = false from decide_eq_false (by omega))) ?_
 refine WL.move rfl rfl rfl (WL.move rfl rfl rfl (WL.load1 (v := .int .i64 n) one_3 rfl rfl rfl (hS.roCells hbn hcn 0 _ rfl) (WL.bin rfl rfl rfl rfl rfl ?_)))
 refine WL.set 9 (v' := .bool false) rfl (congrArg Value.bool (show (decide (n ≤ x)) = false from decide_eq_false (by omega))) ?_
 refine WL.pick (v := .bool false) rfl rfl rfl rfl rfl rfl (WL.assign rfl rfl rfl (WL.nil (N.seq ?_)))
 refine Fin.ret1 rfl (v := .bool false) rfl ?_
 exact ⟨rfl, hS.below⟩

theorem irix_ret (xs : List Int) (vx : Value) (n : Int) (bn : Nat) {w : World} {ro : Nat → Prop} (hro : ∀ b, ro b → b < w.heap.size) (hx : SlV ro w 1 IntC vx xs) (hbn : ro bn) (hcn : CellsAt w bn 0 [.int .i64 n]) (hin : ∀ x ∈ xs, 0 ≤ x ∧ x < n) : Ret Try.prog 73 #[vx, .func (.func 72) #[] #[.pointer (some ⟨bn, 0, none⟩)]] w fun v w' => v = .int .i64 (-1) ∧ Below w.heap.size w w' := by
 obtain ⟨ad, cap, rfl, haa, hab, hac, had⟩ := id hx
 have ham : xs.length ≤ 9223372036854775807 := by have h1 := haa; have h2 := hab; unfold maxLen at h2; omega
 refine Ret.enter (P := Try.prog) (n := 19) (args := [.slice ad xs.length cap, .func (.func 72) #[] #[.pointer (some ⟨bn, 0, none⟩)]]) (σ := [(0, .slice ad xs.length cap), (1, .func (.func 72) #[] #[.pointer (some ⟨bn, 0, none⟩)])]) Try.func73 rfl rfl rfl rfl ?_
 have hS := St.start (ro := ro) hro
 refine W.seq (W.region (WL.assign rfl rfl rfl (WL.nil (N.seq (W.seq (W.seq (W.region (WL.move rfl rfl rfl (WL.lenSlice Try.underlying28 rfl rfl rfl ?_)))))))))
 refine WL.move rfl rfl rfl (WL.nil (N.seq (W.block ?_)))
 refine W.loop (α := Nat) (fun (k : Nat) => [(0, .slice ad xs.length cap), (1, .func (.func 72) #[] #[.pointer (some ⟨bn, 0, none⟩)]), (7, .int .i64 (xs.length : Int)), (8, .int .i64 (k : Int))]) (fun (k : Nat) u => St w w u ro [] [] ∧ k ≤ xs.length) (fun (k : Nat) => xs.length - k) 0 ⟨rfl, rfl, rfl, rfl, trivial⟩ ⟨hS, Nat.zero_le _⟩ ?_
 clear hS
 rintro k w1 ⟨hS, hk⟩
 refine W.seq (W.region (WL.bin rfl rfl rfl rfl rfl (WL.nil (N.seq (W.seq ?_)))))
 refine W.cond rfl (fun hc2 => ?_) (fun hc2 => ?_)
 ·
  have hc2p : (k : Int) < (xs.length : Int) := by simpa using hc2
  refine W.skip (N.seq (W.seq (W.block (W.seq (W.region (WL.move rfl rfl rfl (WL.assign rfl rfl rfl (WL.nil (N.seq ?_)))))))))
  refine W.seq (W.region (WL.move rfl rfl rfl (WL.move rfl rfl rfl (WL.move rfl rfl rfl ?_))))
  have hj3 : k < xs.length := by omega
  obtain ⟨x3, hx3⟩ : ∃ zz, xs[k]? = some zz := ⟨_, List.getElem?_eq_getElem hj3⟩
  obtain ⟨b3, o3, cs3, hE3, hr3, hl3, hc3, hQ3⟩ := had k _ hx3
  obtain ⟨rfl, hi3⟩ := hQ3
  refine WL.indexAddrE (j := k) Try.underlying28 isz_3 rfl rfl rfl rfl hj3 hE3 (WL.load1 (v := .int .i64 x3) one_3 rfl rfl rfl (hS.roCells hr3 hc3 0 _ rfl) ?_)
  refine WL.callV (vs := [.int .i64 x3]) (cs := #[.pointer (some ⟨bn, 0, none⟩)]) Try.func72 (by kernel_rfl) rfl rfl rfl rfl (irall1_ret x3 n bn (ro := ro) (fun b hb => (hS.snap b hb).1) hbn (hcn.keep (hS.snap _ hbn).2) (hin _ (List.mem_of_getElem? hx3))) ?_
  rintro v w4 ⟨rfl, hbl⟩
  replace hS := hS.grow hbl
  refine WL.nil (N.seq (W.condF rfl (W.skip (N.blk (N.seq (W.region ?_))))))
  refine WL.add (c := (k : Int) + 1) rfl rfl rfl rfl (rfl) (by omega) ?_
  refine WL.move rfl rfl rfl (WL.nil ?_)
  exact N.loop (k + 1) ⟨rfl, rfl, rfl, rfl, trivial⟩ ⟨hS, by omega⟩ (by first | omega | (simp only; omega))
 have hc2p : ¬ ((k : Int) < (xs.length : Int)) := by simpa using hc2
 refine W.exit (X.seq (X.loop (X.blk (N.seq (W.seq (W.region (WL.assign rfl rfl rfl (WL.nil (N.seq ?_)))))))))
 refine Fin.ret1 rfl (v := .int .i64 (-1)) rfl ?_
 exact ⟨rfl, hS.below⟩

theorem irco_ret (xs : List Int) (vx : Value) (n : Int) (bn : Nat) {w : World} {ro : Nat → Prop} (hro : ∀ b, ro b → b < w.heap.size) (hx : SlV ro w 1 IntC vx xs) (hbn : ro bn) (hcn : CellsAt w bn 0 [.int .i64 n]) (hin : ∀ x ∈ xs, 0 ≤ x ∧ x < n) : Ret Try.prog 71 #[vx, .func (.func 72) #[] #[.pointer (some ⟨bn, 0, none⟩)]] w fun v w' => v = .bool false ∧ Below w.heap.size w w' := by
 obtain ⟨ad, cap, rfl, haa, hab, hac, had⟩ := id hx
 have ham : xs.length ≤ 9223372036854775807 := by have h1 := haa; have h2 := hab; unfold maxLen at h2; omega
 refine Ret.enter (P := Try.prog) (n := 9) (args := [.slice ad xs.length cap, .func (.func 72) #[] #[.pointer (some ⟨bn, 0, none⟩)]]) (σ := [(0, .slice ad xs.length cap), (1, .func (.func 72) #[] #[.pointer (some ⟨bn, 0, none⟩)])]) Try.func71 rfl rfl rfl rfl ?_
 have hS := St.start (ro := ro) hro
 refine W.seq (W.region (WL.assign rfl rfl rfl (WL.nil (N.seq (W.seq (W.region (WL.move rfl rfl rfl (WL.move rfl rfl rfl ?_))))))))
 refine WL.callF (vs := [.slice ad xs.length cap, .func (.func 72) #[] #[.pointer (some ⟨bn, 0, none⟩)]]) Try.func73 (by kernel_rfl) rfl rfl rfl (irix_ret xs _ n bn (ro := ro) (fun b hb => (hS.snap b hb).1) (SlV.keep hx hS.alike (fun _ _ q => q)) hbn (hcn.keep (hS.snap _ hbn).2) hin) ?_
 rintro v w1 ⟨rfl, hbl⟩
 replace hS := hS.grow hbl
 refine WL.bin rfl rfl rfl rfl rfl ?_
 refine WL.set 8 (v' := .bool false) rfl rfl ?_
 refine WL.assign rfl rfl rfl (WL.nil (N.seq ?_))
 refine Fin.ret1 rfl (v := .bool false) rfl ?_
 exact ⟨rfl, hS.below⟩

theorem irall_ret (xs : List Int) (vx : Value) (n : Int) {w : World} {ro : Nat → Prop} (hro : ∀ b, ro b → b < w.heap.size) (hx : SlV ro w 1 IntC vx xs) (hb5 : below5 xs n = true) : Ret Try.prog 67 #[vx, .int .i64 n] w fun v w' => v = .bool true ∧ Below w.heap.size w w' := by
 obtain ⟨ad, cap, rfl, haa, hab, hac, had⟩ := id hx
 have ham : xs.length ≤ 9223372036854775807 := by have h1 := haa; have h2 := hab; unfold maxLen at h2; omega
 refine Ret.enter (P := Try.prog) (n := 9) (args := [.slice ad xs.length cap, .int .i64 n]) (σ := [(0, .slice ad xs.length cap), (1, .int .i64 n)]) Try.func67 rfl rfl rfl rfl ?_
 have hS := St.start (ro := ro) hro
 have hin : ∀ x ∈ xs, 0 ≤ x ∧ x < n := fun x hx => by unfold below5 at hb5; have := List.all_eq_true.1 hb5 x hx; simpa using this
 refine W.seq (W.region ?_)
 refine WL.box (v := .int .i64 n) (cs := [.int .i64 n]) rfl rfl rfl rfl hS ?_
 clear hS; intro w2 b1 hb_b1 hS
 refine WL.assign rfl rfl rfl (WL.nil (N.seq (W.seq (W.region (WL.move rfl rfl rfl ?_)))))
 refine WL.makeFunc (vs := #[.pointer (some ⟨b1, 0, none⟩)]) rfl rfl rfl ?_
 refine WL.callF (vs := [.slice ad xs.length cap, .func (.func 72) #[] #[.pointer (some ⟨b1, 0, none⟩)]]) Try.func71 (by kernel_rfl) rfl rfl rfl (irco_ret xs _ n b1 (ro := fun x => x < w2.heap.size) (fun _ h => h) (SlV.keep hx (fun b hb => hS.snap b hb) (fun _ _ q => q)) (hS.keys b1 (by simp [keysOf])).2.1 (hS.cells 0 (m := 1) rfl rfl) hin) ?_
 rintro v w3 ⟨rfl, hbl⟩
 replace hS := hS.grow hbl
 refine WL.not rfl rfl rfl ?_
 refine WL.set 8 (v' := .bool true) rfl rfl ?_
 refine WL.assign rfl rfl rfl (WL.nil (N.seq ?_))
 refine Fin.ret1 rfl (v := .bool true) rfl ?_
 exact ⟨rfl, hS.below⟩

set_option maxHeartbeats 2000000 in
theorem irInst_ret (x : DInst) (cx : List Value) (n : Int) {w : World} {ro : Nat → Prop} (hro : ∀ b, ro b → b < w.heap.size) (hx : InstC ro w cx x) (h5 : inst5 x n = true) : Ret Try.prog 64 #[.agg cx.toArray, .int .i64 n] w fun v w' => v = .bool true ∧ Below w.heap.size w w' := by
 have hQx := hx
 obtain ⟨sx, rfl, hsx, hox, hax, hbx, hkx, hnx⟩ := id hx
 obtain ⟨adx, capx, rfl, hsxa, hsxb, hsxc, hsxd⟩ := id hsx
 have hsxm : x.args.length ≤ 9223372036854775807 := by have h1 := hsxa; have h2 := hsxb; unfold maxLen at h2; omega
 refine Ret.enter (P := Try.prog) (n := 91) (args := [.agg #[.int .i64 x.op, .int .i64 x.a, .int .i64 x.b, .int .u64 x.k, .string x.name, .slice adx x.args.length capx], .int .i64 n]) (σ := [(0, .agg #[.int .i64 x.op, .int .i64 x.a, .int .i64 x.b, .int .u64 x.k, .string x.name, .slice adx x.args.length capx]), (1, .int .i64 n)]) Try.func64 rfl rfl rfl rfl ?_
 have hS := St.start (ro := ro) hro
 obtain ⟨hm1, hm2, hm3, hm4, hm5, hm6, hm7⟩ := inst5_more h5; obtain ⟨ha1, _, ha2, ha3⟩ := inst5_all h5
 refine W.seq (W.region ?_)
 refine WL.box (v := .agg #[.int .i64 x.op, .int .i64 x.a, .int .i64 x.b, .int .u64 x.k, .string x.name, .slice adx x.args.length capx]) (cs := [.int .i64 x.op, .int .i64 x.a, .int .i64 x.b, .int .u64 x.k, .string x.name, .slice adx x.args.length capx]) rfl rfl rfl rfl hS ?_
 clear hS; intro w2 b1 hb_b1 hS
 refine WL.assign rfl rfl rfl (WL.nil (N.seq (W.seq (W.seq (W.region (WL.fieldAddr fo_36_0 rfl rfl rfl (WL.load1 (v := .int .i64 x.op) one_3 rfl rfl rfl (hS.cell 0 rfl rfl) (WL.bin rfl rfl rfl rfl rfl ?_))))))))
 refine WL.set 9 (v' := .bool false) rfl (congrArg Value.bool (show (decide (x.op < 1)) = false from decide_eq_false (by omega))) ?_
 refine WL.move rfl rfl rfl (WL.fieldAddr fo_36_0 rfl rfl rfl (WL.load1 (v := .int .i64 x.op) one_3 rfl rfl rfl (hS.cell 0 rfl rfl) (WL.bin rfl rfl rfl rfl rfl ?_)))
 refine WL.set 13 (v' := .bool false) rfl (congrArg Value.bool (show (decide (16 < x.op)) = false from decide_eq_false (by omega))) ?_
 refine WL.pick (v := .bool false) rfl rfl rfl rfl rfl rfl (WL.move rfl rfl rfl (WL.loadN (cs := [.int .i64 x.op, .int .i64 x.a, .int .i64 x.b, .int .u64 x.k, .string x.name, .slice adx x.args.length capx]) agg_36 rfl rfl rfl rfl (hS.cells 0 (m := 6) rfl rfl) ?_))
 refine WL.callF (vs := [.agg #[.int .i64 x.op, .int .i64 x.a, .int .i64 x.b, .int .u64 x.k, .string x.name, .slice adx x.args.length capx]]) Try.func32 (by kernel_rfl) rfl rfl rfl (iuses_ret x _ (ro := ro) (fun b hb => (hS.snap b hb).1) (hQx.keep hS.alike) (by have := (inst5_all h5).1; omega)) ?_
 rintro v w3 ⟨hus, hbl⟩
 replace hS := hS.grow hbl
 refine WL.move rfl rfl rfl ?_
 refine WL.callF (vs := [v, .int .i64 n]) Try.func67 (by kernel_rfl) rfl rfl rfl (irall_ret (uses5 x) _ n (ro := fun b => w2.heap.size ≤ b ∧ b < w3.heap.size) (fun _ h => h.2) hus hm1) ?_
 rintro v w4 ⟨rfl, hbl⟩
 replace hS := hS.grow hbl
 refine WL.not rfl rfl rfl ?_
 refine WL.set 20 (v' := .bool false) rfl rfl ?_
 refine WL.pick (v := .bool false) rfl rfl rfl rfl rfl rfl (WL.nil (N.seq (W.condF rfl (W.skip (N.seq (W.seq (W.region (WL.fieldAddr fo_36_0 rfl rfl rfl (WL.load1 (v := .int .i64 x.op) one_3 rfl rfl rfl (hS.cell 0 rfl rfl) ?_)))))))))
 refine WL.bin rfl rfl rfl rfl rfl (WL.move rfl rfl rfl ?_)
 cases hg5 : (decide (2 ≤ x.op))
 ·
  have hg5p : ¬ (2 ≤ x.op) := by simpa using hg5
  refine WL.skp rfl rfl (WL.skp rfl rfl (WL.skp rfl rfl (WL.pick (v := .bool false) rfl rfl rfl rfl rfl rfl (WL.assign rfl rfl rfl (WL.nil (N.seq (W.seq (W.region (WL.move rfl rfl rfl ?_)))))))))
  refine WL.move rfl rfl rfl (WL.fieldAddr fo_36_0 rfl rfl rfl (WL.load1 (v := .int .i64 x.op) one_3 rfl rfl rfl (hS.cell 0 rfl rfl) (WL.bin rfl rfl rfl rfl rfl (WL.pick (v := .bool (decide (x.op = 13))) rfl rfl rfl rfl rfl rfl (WL.move rfl rfl rfl ?_)))))
  cases hg6 : (decide (x.op = 13))
  ·
   have hg6p : ¬ (x.op = 13) := by simpa using hg6
   refine WL.fieldAddr fo_36_0 rfl rfl rfl (WL.load1 (v := .int .i64 x.op) one_3 rfl rfl rfl (hS.cell 0 rfl rfl) (WL.bin rfl rfl rfl rfl rfl (WL.pick (v := .bool (decide (x.op = 16))) rfl rfl rfl rfl rfl rfl (WL.assign rfl rfl rfl (WL.nil (N.seq (W.seq (W.block (W.seq ?_)))))))))
   refine W.region (WL.move rfl rfl rfl (WL.not rfl rfl rfl (WL.move rfl rfl rfl ?_)))
   cases hg7 : (!(decide (x.op = 16)))
   ·
    have hg7p : x.op = 16 := by simpa using hg7
    refine WL.skp rfl rfl (WL.skp rfl rfl (WL.skp rfl rfl (WL.pick (v := .bool false) rfl rfl rfl rfl rfl rfl (WL.move rfl rfl rfl (WL.move rfl rfl rfl (WL.not rfl rfl rfl ?_))))))
    refine WL.set 51 (v' := .bool true) rfl rfl ?_
    refine WL.move rfl rfl rfl (WL.fieldAddr fo_36_2 rfl rfl rfl (WL.load1 (v := .int .i64 x.b) one_3 rfl rfl rfl (hS.cell 0 rfl rfl) (WL.bin rfl rfl rfl rfl rfl ?_)))
    refine WL.set 55 (v' := .bool false) rfl (by rw [decide_eq_true (hm3 (by omega))]; rfl) ?_
    refine WL.pick (v := .bool false) rfl rfl rfl rfl rfl rfl (WL.pick (v := .bool false) rfl rfl rfl rfl rfl rfl (WL.assign rfl rfl rfl (WL.nil (N.seq (W.condF rfl (W.seq (W.region (WL.fieldAddr fo_36_0 rfl rfl rfl (WL.load1 (v := .int .i64 x.op) one_3 rfl rfl rfl (hS.cell 0 rfl rfl) ?_)))))))))
    refine WL.bin rfl rfl rfl rfl rfl (WL.move rfl rfl rfl ?_)
    cases hg8 : (!decide (x.op = 1))
    ·
     have hg8p : x.op = 1 := by simpa using hg8
     refine WL.skp rfl rfl (WL.skp rfl rfl (WL.skp rfl rfl (WL.pick (v := .bool false) rfl rfl rfl rfl rfl rfl (WL.assign rfl rfl rfl (WL.nil (N.seq (W.condF rfl (W.seq (W.region ?_)))))))))
     refine WL.fieldAddr fo_36_0 rfl rfl rfl (WL.load1 (v := .int .i64 x.op) one_3 rfl rfl rfl (hS.cell 0 rfl rfl) (WL.bin rfl rfl rfl rfl rfl (WL.move rfl rfl rfl ?_)))
     cases hg9 : (!decide (x.op = 14))
     ·
      have hg9p : x.op = 14 := by simpa using hg9
      refine WL.skp rfl rfl (WL.skp rfl rfl (WL.skp rfl rfl (WL.skp rfl rfl (WL.pick (v := .bool false) rfl rfl rfl rfl rfl rfl (WL.move rfl rfl rfl (WL.fieldAddr fo_36_5 rfl rfl rfl (WL.load1 (v := .slice adx x.args.length capx) one_28 rfl rfl rfl (hS.cell 0 rfl rfl) (WL.lenSlice Try.underlying28 rfl rfl rfl (WL.bin rfl rfl rfl rfl rfl ?_)))))))))
      refine WL.set 81 (v' := .bool false) rfl (congrArg Value.bool (show (decide (6 < (x.args.length : Int))) = false from decide_eq_false (by omega))) ?_
      refine WL.pick (v := .bool false) rfl rfl rfl rfl rfl rfl (WL.assign rfl rfl rfl (WL.nil (N.seq (W.condF rfl (W.skip (N.blk (N.seq (W.seq (W.seq ?_)))))))))
      refine W.region (WL.loadN (cs := [.int .i64 x.op, .int .i64 x.a, .int .i64 x.b, .int .u64 x.k, .string x.name, .slice adx x.args.length capx]) agg_36 rfl rfl rfl rfl (hS.cells 0 (m := 6) rfl rfl) ?_)
      refine WL.callF (vs := [.agg #[.int .i64 x.op, .int .i64 x.a, .int .i64 x.b, .int .u64 x.k, .string x.name, .slice adx x.args.length capx]]) Try.func68 (by kernel_rfl) rfl rfl rfl (irnamed_ret x _ (ro := ro) (fun b hb => (hS.snap b hb).1) (hQx.keep hS.alike)) ?_
      rintro v w10 ⟨rfl, hbl⟩
      replace hS := hS.grow hbl
      refine WL.nil (N.seq ?_)
      refine W.cond rfl (fun hc11 => ?_) (fun hc11 => ?_)
      ·
       refine W.seq (W.region (WL.fieldAddr fo_36_4 rfl rfl rfl (WL.load1 (v := .string x.name) one_9 rfl rfl rfl (hS.cell 0 rfl rfl) ?_)))
       refine WL.callF (vs := [.string x.name]) Try.func54 (by kernel_rfl) rfl rfl rfl (irname_ret x.name (hm6 hc11) (ro := ro) (fun b hb => (hS.snap b hb).1)) ?_
       rintro v w12 ⟨rfl, hbl⟩
       replace hS := hS.grow hbl
       refine WL.assign rfl rfl rfl (WL.nil (N.seq ?_))
       refine Fin.ret1 rfl (v := .bool true) rfl ?_
       exact ⟨rfl, hS.below⟩
      refine W.skip (N.seq (W.seq (W.region (WL.fieldAddr fo_36_4 rfl rfl rfl (WL.load1 (v := .string x.name) one_9 rfl rfl rfl (hS.cell 0 rfl rfl) (WL.eqStr rfl rfl rfl rfl ?_))))))
      refine WL.set 90 (v' := .bool true) rfl (congrArg Value.bool (show (decide (x.name = ⟨#[]⟩)) = true from decide_eq_true (hm7 hc11))) ?_
      refine WL.assign rfl rfl rfl (WL.nil (N.seq ?_))
      refine Fin.ret1 rfl (v := .bool true) rfl ?_
      exact ⟨rfl, hS.below⟩
     have hg9p : ¬ (x.op = 14) := by simpa using hg9
     refine WL.fieldAddr fo_36_5 rfl rfl rfl (WL.load1 (v := .slice adx x.args.length capx) one_28 rfl rfl rfl (hS.cell 0 rfl rfl) (WL.lenSlice Try.underlying28 rfl rfl rfl (WL.bin rfl rfl rfl rfl rfl ?_)))
     refine WL.set 75 (v' := .bool false) rfl (congrArg Value.bool (show (decide (0 < (x.args.length : Int))) = false from decide_eq_false (by have := hm5 (by omega); omega))) ?_
     refine WL.pick (v := .bool false) rfl rfl rfl rfl rfl rfl (WL.move rfl rfl rfl (WL.fieldAddr fo_36_5 rfl rfl rfl (WL.load1 (v := .slice adx x.args.length capx) one_28 rfl rfl rfl (hS.cell 0 rfl rfl) (WL.lenSlice Try.underlying28 rfl rfl rfl (WL.bin rfl rfl rfl rfl rfl ?_)))))
     refine WL.set 81 (v' := .bool false) rfl (congrArg Value.bool (show (decide (6 < (x.args.length : Int))) = false from decide_eq_false (by omega))) ?_
     refine WL.pick (v := .bool false) rfl rfl rfl rfl rfl rfl (WL.assign rfl rfl rfl (WL.nil (N.seq (W.condF rfl (W.skip (N.blk (N.seq (W.seq (W.seq ?_)))))))))
     refine W.region (WL.loadN (cs := [.int .i64 x.op, .int .i64 x.a, .int .i64 x.b, .int .u64 x.k, .string x.name, .slice adx x.args.length capx]) agg_36 rfl rfl rfl rfl (hS.cells 0 (m := 6) rfl rfl) ?_)
     refine WL.callF (vs := [.agg #[.int .i64 x.op, .int .i64 x.a, .int .i64 x.b, .int .u64 x.k, .string x.name, .slice adx x.args.length capx]]) Try.func68 (by kernel_rfl) rfl rfl rfl (irnamed_ret x _ (ro := ro) (fun b hb => (hS.snap b hb).1) (hQx.keep hS.alike)) ?_
     rintro v w13 ⟨rfl, hbl⟩
     replace hS := hS.grow hbl
     refine WL.nil (N.seq ?_)
     refine W.cond rfl (fun hc14 => ?_) (fun hc14 => ?_)
     ·
      refine W.seq (W.region (WL.fieldAddr fo_36_4 rfl rfl rfl (WL.load1 (v := .string x.name) one_9 rfl rfl rfl (hS.cell 0 rfl rfl) ?_)))
      refine WL.callF (vs := [.string x.name]) Try.func54 (by kernel_rfl) rfl rfl rfl (irname_ret x.name (hm6 hc14) (ro := ro) (fun b hb => (hS.snap b hb).1)) ?_
      rintro v w15 ⟨rfl, hbl⟩
      replace hS := hS.grow hbl
      refine WL.assign rfl rfl rfl (WL.nil (N.seq ?_))
      refine Fin.ret1 rfl (v := .bool true) rfl ?_
      exact ⟨rfl, hS.below⟩
     refine W.skip (N.seq (W.seq (W.region (WL.fieldAddr fo_36_4 rfl rfl rfl (WL.load1 (v := .string x.name) one_9 rfl rfl rfl (hS.cell 0 rfl rfl) (WL.eqStr rfl rfl rfl rfl ?_))))))
     refine WL.set 90 (v' := .bool true) rfl (congrArg Value.bool (show (decide (x.name = ⟨#[]⟩)) = true from decide_eq_true (hm7 hc14))) ?_
     refine WL.assign rfl rfl rfl (WL.nil (N.seq ?_))
     refine Fin.ret1 rfl (v := .bool true) rfl ?_
     exact ⟨rfl, hS.below⟩
    have hg8p : ¬ (x.op = 1) := by simpa using hg8
    refine WL.fieldAddr fo_36_3 rfl rfl rfl (WL.load1 (v := .int .u64 x.k) one_34 rfl rfl rfl (hS.cell 0 rfl rfl) (WL.bin rfl rfl rfl rfl rfl ?_))
    refine WL.set 65 (v' := .bool false) rfl (by rw [decide_eq_true (hm4 (by omega))]; rfl) ?_
    refine WL.pick (v := .bool false) rfl rfl rfl rfl rfl rfl (WL.assign rfl rfl rfl (WL.nil (N.seq (W.condF rfl (W.seq (W.region (WL.fieldAddr fo_36_0 rfl rfl rfl (WL.load1 (v := .int .i64 x.op) one_3 rfl rfl rfl (hS.cell 0 rfl rfl) (WL.bin rfl rfl rfl rfl rfl ?_)))))))))
    refine WL.move rfl rfl rfl ?_
    cases hg16 : (!decide (x.op = 14))
    ·
     have hg16p : x.op = 14 := by simpa using hg16
     refine WL.skp rfl rfl (WL.skp rfl rfl (WL.skp rfl rfl (WL.skp rfl rfl (WL.pick (v := .bool false) rfl rfl rfl rfl rfl rfl (WL.move rfl rfl rfl (WL.fieldAddr fo_36_5 rfl rfl rfl (WL.load1 (v := .slice adx x.args.length capx) one_28 rfl rfl rfl (hS.cell 0 rfl rfl) (WL.lenSlice Try.underlying28 rfl rfl rfl (WL.bin rfl rfl rfl rfl rfl ?_)))))))))
     refine WL.set 81 (v' := .bool false) rfl (congrArg Value.bool (show (decide (6 < (x.args.length : Int))) = false from decide_eq_false (by omega))) ?_
     refine WL.pick (v := .bool false) rfl rfl rfl rfl rfl rfl (WL.assign rfl rfl rfl (WL.nil (N.seq (W.condF rfl (W.skip (N.blk (N.seq (W.seq (W.seq ?_)))))))))
     refine W.region (WL.loadN (cs := [.int .i64 x.op, .int .i64 x.a, .int .i64 x.b, .int .u64 x.k, .string x.name, .slice adx x.args.length capx]) agg_36 rfl rfl rfl rfl (hS.cells 0 (m := 6) rfl rfl) ?_)
     refine WL.callF (vs := [.agg #[.int .i64 x.op, .int .i64 x.a, .int .i64 x.b, .int .u64 x.k, .string x.name, .slice adx x.args.length capx]]) Try.func68 (by kernel_rfl) rfl rfl rfl (irnamed_ret x _ (ro := ro) (fun b hb => (hS.snap b hb).1) (hQx.keep hS.alike)) ?_
     rintro v w17 ⟨rfl, hbl⟩
     replace hS := hS.grow hbl
     refine WL.nil (N.seq ?_)
     refine W.cond rfl (fun hc18 => ?_) (fun hc18 => ?_)
     ·
      refine W.seq (W.region (WL.fieldAddr fo_36_4 rfl rfl rfl (WL.load1 (v := .string x.name) one_9 rfl rfl rfl (hS.cell 0 rfl rfl) ?_)))
      refine WL.callF (vs := [.string x.name]) Try.func54 (by kernel_rfl) rfl rfl rfl (irname_ret x.name (hm6 hc18) (ro := ro) (fun b hb => (hS.snap b hb).1)) ?_
      rintro v w19 ⟨rfl, hbl⟩
      replace hS := hS.grow hbl
      refine WL.assign rfl rfl rfl (WL.nil (N.seq ?_))
      refine Fin.ret1 rfl (v := .bool true) rfl ?_
      exact ⟨rfl, hS.below⟩
     refine W.skip (N.seq (W.seq (W.region (WL.fieldAddr fo_36_4 rfl rfl rfl (WL.load1 (v := .string x.name) one_9 rfl rfl rfl (hS.cell 0 rfl rfl) (WL.eqStr rfl rfl rfl rfl ?_))))))
     refine WL.set 90 (v' := .bool true) rfl (congrArg Value.bool (show (decide (x.name = ⟨#[]⟩)) = true from decide_eq_true (hm7 hc18))) ?_
     refine WL.assign rfl rfl rfl (WL.nil (N.seq ?_))
     refine Fin.ret1 rfl (v := .bool true) rfl ?_
     exact ⟨rfl, hS.below⟩
    have hg16p : ¬ (x.op = 14) := by simpa using hg16
    refine WL.fieldAddr fo_36_5 rfl rfl rfl (WL.load1 (v := .slice adx x.args.length capx) one_28 rfl rfl rfl (hS.cell 0 rfl rfl) (WL.lenSlice Try.underlying28 rfl rfl rfl (WL.bin rfl rfl rfl rfl rfl ?_)))
    refine WL.set 75 (v' := .bool false) rfl (congrArg Value.bool (show (decide (0 < (x.args.length : Int))) = false from decide_eq_false (by have := hm5 (by omega); omega))) ?_
    refine WL.pick (v := .bool false) rfl rfl rfl rfl rfl rfl (WL.move rfl rfl rfl (WL.fieldAddr fo_36_5 rfl rfl rfl (WL.load1 (v := .slice adx x.args.length capx) one_28 rfl rfl rfl (hS.cell 0 rfl rfl) (WL.lenSlice Try.underlying28 rfl rfl rfl (WL.bin rfl rfl rfl rfl rfl ?_)))))
    refine WL.set 81 (v' := .bool false) rfl (congrArg Value.bool (show (decide (6 < (x.args.length : Int))) = false from decide_eq_false (by omega))) ?_
    refine WL.pick (v := .bool false) rfl rfl rfl rfl rfl rfl (WL.assign rfl rfl rfl (WL.nil (N.seq (W.condF rfl (W.skip (N.blk (N.seq (W.seq (W.seq ?_)))))))))
    refine W.region (WL.loadN (cs := [.int .i64 x.op, .int .i64 x.a, .int .i64 x.b, .int .u64 x.k, .string x.name, .slice adx x.args.length capx]) agg_36 rfl rfl rfl rfl (hS.cells 0 (m := 6) rfl rfl) ?_)
    refine WL.callF (vs := [.agg #[.int .i64 x.op, .int .i64 x.a, .int .i64 x.b, .int .u64 x.k, .string x.name, .slice adx x.args.length capx]]) Try.func68 (by kernel_rfl) rfl rfl rfl (irnamed_ret x _ (ro := ro) (fun b hb => (hS.snap b hb).1) (hQx.keep hS.alike)) ?_
    rintro v w20 ⟨rfl, hbl⟩
    replace hS := hS.grow hbl
    refine WL.nil (N.seq ?_)
    refine W.cond rfl (fun hc21 => ?_) (fun hc21 => ?_)
    ·
     refine W.seq (W.region (WL.fieldAddr fo_36_4 rfl rfl rfl (WL.load1 (v := .string x.name) one_9 rfl rfl rfl (hS.cell 0 rfl rfl) ?_)))
     refine WL.callF (vs := [.string x.name]) Try.func54 (by kernel_rfl) rfl rfl rfl (irname_ret x.name (hm6 hc21) (ro := ro) (fun b hb => (hS.snap b hb).1)) ?_
     rintro v w22 ⟨rfl, hbl⟩
     replace hS := hS.grow hbl
     refine WL.assign rfl rfl rfl (WL.nil (N.seq ?_))
     refine Fin.ret1 rfl (v := .bool true) rfl ?_
     exact ⟨rfl, hS.below⟩
    refine W.skip (N.seq (W.seq (W.region (WL.fieldAddr fo_36_4 rfl rfl rfl (WL.load1 (v := .string x.name) one_9 rfl rfl rfl (hS.cell 0 rfl rfl) (WL.eqStr rfl rfl rfl rfl ?_))))))
    refine WL.set 90 (v' := .bool true) rfl (congrArg Value.bool (show (decide (x.name = ⟨#[]⟩)) = true from decide_eq_true (hm7 hc21))) ?_
    refine WL.assign rfl rfl rfl (WL.nil (N.seq ?_))
    refine Fin.ret1 rfl (v := .bool true) rfl ?_
    exact ⟨rfl, hS.below⟩
   have hg7p : ¬ (x.op = 16) := by simpa using hg7
   refine WL.fieldAddr fo_36_1 rfl rfl rfl (WL.load1 (v := .int .i64 x.a) one_3 rfl rfl rfl (hS.cell 0 rfl rfl) (WL.bin rfl rfl rfl rfl rfl ?_))
   refine WL.set 47 (v' := .bool false) rfl (by rw [decide_eq_true (hm2 (by omega))]; rfl) ?_
   refine WL.pick (v := .bool false) rfl rfl rfl rfl rfl rfl (WL.move rfl rfl rfl (WL.move rfl rfl rfl (WL.not rfl rfl rfl ?_)))
   refine WL.set 51 (v' := .bool true) rfl rfl ?_
   refine WL.move rfl rfl rfl (WL.fieldAddr fo_36_2 rfl rfl rfl (WL.load1 (v := .int .i64 x.b) one_3 rfl rfl rfl (hS.cell 0 rfl rfl) (WL.bin rfl rfl rfl rfl rfl ?_)))
   refine WL.set 55 (v' := .bool false) rfl (by rw [decide_eq_true (hm3 (by omega))]; rfl) ?_
   refine WL.pick (v := .bool false) rfl rfl rfl rfl rfl rfl (WL.pick (v := .bool false) rfl rfl rfl rfl rfl rfl (WL.assign rfl rfl rfl (WL.nil (N.seq (W.condF rfl (W.seq (W.region (WL.fieldAddr fo_36_0 rfl rfl rfl (WL.load1 (v := .int .i64 x.op) one_3 rfl rfl rfl (hS.cell 0 rfl rfl) ?_)))))))))
   refine WL.bin rfl rfl rfl rfl rfl (WL.move rfl rfl rfl ?_)
   cases hg23 : (!decide (x.op = 1))
   ·
    have hg23p : x.op = 1 := by simpa using hg23
    refine WL.skp rfl rfl (WL.skp rfl rfl (WL.skp rfl rfl (WL.pick (v := .bool false) rfl rfl rfl rfl rfl rfl (WL.assign rfl rfl rfl (WL.nil (N.seq (W.condF rfl (W.seq (W.region ?_)))))))))
    refine WL.fieldAddr fo_36_0 rfl rfl rfl (WL.load1 (v := .int .i64 x.op) one_3 rfl rfl rfl (hS.cell 0 rfl rfl) (WL.bin rfl rfl rfl rfl rfl (WL.move rfl rfl rfl ?_)))
    cases hg24 : (!decide (x.op = 14))
    ·
     have hg24p : x.op = 14 := by simpa using hg24
     refine WL.skp rfl rfl (WL.skp rfl rfl (WL.skp rfl rfl (WL.skp rfl rfl (WL.pick (v := .bool false) rfl rfl rfl rfl rfl rfl (WL.move rfl rfl rfl (WL.fieldAddr fo_36_5 rfl rfl rfl (WL.load1 (v := .slice adx x.args.length capx) one_28 rfl rfl rfl (hS.cell 0 rfl rfl) (WL.lenSlice Try.underlying28 rfl rfl rfl (WL.bin rfl rfl rfl rfl rfl ?_)))))))))
     refine WL.set 81 (v' := .bool false) rfl (congrArg Value.bool (show (decide (6 < (x.args.length : Int))) = false from decide_eq_false (by omega))) ?_
     refine WL.pick (v := .bool false) rfl rfl rfl rfl rfl rfl (WL.assign rfl rfl rfl (WL.nil (N.seq (W.condF rfl (W.skip (N.blk (N.seq (W.seq (W.seq ?_)))))))))
     refine W.region (WL.loadN (cs := [.int .i64 x.op, .int .i64 x.a, .int .i64 x.b, .int .u64 x.k, .string x.name, .slice adx x.args.length capx]) agg_36 rfl rfl rfl rfl (hS.cells 0 (m := 6) rfl rfl) ?_)
     refine WL.callF (vs := [.agg #[.int .i64 x.op, .int .i64 x.a, .int .i64 x.b, .int .u64 x.k, .string x.name, .slice adx x.args.length capx]]) Try.func68 (by kernel_rfl) rfl rfl rfl (irnamed_ret x _ (ro := ro) (fun b hb => (hS.snap b hb).1) (hQx.keep hS.alike)) ?_
     rintro v w25 ⟨rfl, hbl⟩
     replace hS := hS.grow hbl
     refine WL.nil (N.seq ?_)
     refine W.cond rfl (fun hc26 => ?_) (fun hc26 => ?_)
     ·
      refine W.seq (W.region (WL.fieldAddr fo_36_4 rfl rfl rfl (WL.load1 (v := .string x.name) one_9 rfl rfl rfl (hS.cell 0 rfl rfl) ?_)))
      refine WL.callF (vs := [.string x.name]) Try.func54 (by kernel_rfl) rfl rfl rfl (irname_ret x.name (hm6 hc26) (ro := ro) (fun b hb => (hS.snap b hb).1)) ?_
      rintro v w27 ⟨rfl, hbl⟩
      replace hS := hS.grow hbl
      refine WL.assign rfl rfl rfl (WL.nil (N.seq ?_))
      refine Fin.ret1 rfl (v := .bool true) rfl ?_
      exact ⟨rfl, hS.below⟩
     refine W.skip (N.seq (W.seq (W.region (WL.fieldAddr fo_36_4 rfl rfl rfl (WL.load1 (v := .string x.name) one_9 rfl rfl rfl (hS.cell 0 rfl rfl) (WL.eqStr rfl rfl rfl rfl ?_))))))
     refine WL.set 90 (v' := .bool true) rfl (congrArg Value.bool (show (decide (x.name = ⟨#[]⟩)) = true from decide_eq_true (hm7 hc26))) ?_
     refine WL.assign rfl rfl rfl (WL.nil (N.seq ?_))
     refine Fin.ret1 rfl (v := .bool true) rfl ?_
     exact ⟨rfl, hS.below⟩
    have hg24p : ¬ (x.op = 14) := by simpa using hg24
    refine WL.fieldAddr fo_36_5 rfl rfl rfl (WL.load1 (v := .slice adx x.args.length capx) one_28 rfl rfl rfl (hS.cell 0 rfl rfl) (WL.lenSlice Try.underlying28 rfl rfl rfl (WL.bin rfl rfl rfl rfl rfl ?_)))
    refine WL.set 75 (v' := .bool false) rfl (congrArg Value.bool (show (decide (0 < (x.args.length : Int))) = false from decide_eq_false (by have := hm5 (by omega); omega))) ?_
    refine WL.pick (v := .bool false) rfl rfl rfl rfl rfl rfl (WL.move rfl rfl rfl (WL.fieldAddr fo_36_5 rfl rfl rfl (WL.load1 (v := .slice adx x.args.length capx) one_28 rfl rfl rfl (hS.cell 0 rfl rfl) (WL.lenSlice Try.underlying28 rfl rfl rfl (WL.bin rfl rfl rfl rfl rfl ?_)))))
    refine WL.set 81 (v' := .bool false) rfl (congrArg Value.bool (show (decide (6 < (x.args.length : Int))) = false from decide_eq_false (by omega))) ?_
    refine WL.pick (v := .bool false) rfl rfl rfl rfl rfl rfl (WL.assign rfl rfl rfl (WL.nil (N.seq (W.condF rfl (W.skip (N.blk (N.seq (W.seq (W.seq ?_)))))))))
    refine W.region (WL.loadN (cs := [.int .i64 x.op, .int .i64 x.a, .int .i64 x.b, .int .u64 x.k, .string x.name, .slice adx x.args.length capx]) agg_36 rfl rfl rfl rfl (hS.cells 0 (m := 6) rfl rfl) ?_)
    refine WL.callF (vs := [.agg #[.int .i64 x.op, .int .i64 x.a, .int .i64 x.b, .int .u64 x.k, .string x.name, .slice adx x.args.length capx]]) Try.func68 (by kernel_rfl) rfl rfl rfl (irnamed_ret x _ (ro := ro) (fun b hb => (hS.snap b hb).1) (hQx.keep hS.alike)) ?_
    rintro v w28 ⟨rfl, hbl⟩
    replace hS := hS.grow hbl
    refine WL.nil (N.seq ?_)
    refine W.cond rfl (fun hc29 => ?_) (fun hc29 => ?_)
    ·
     refine W.seq (W.region (WL.fieldAddr fo_36_4 rfl rfl rfl (WL.load1 (v := .string x.name) one_9 rfl rfl rfl (hS.cell 0 rfl rfl) ?_)))
     refine WL.callF (vs := [.string x.name]) Try.func54 (by kernel_rfl) rfl rfl rfl (irname_ret x.name (hm6 hc29) (ro := ro) (fun b hb => (hS.snap b hb).1)) ?_
     rintro v w30 ⟨rfl, hbl⟩
     replace hS := hS.grow hbl
     refine WL.assign rfl rfl rfl (WL.nil (N.seq ?_))
     refine Fin.ret1 rfl (v := .bool true) rfl ?_
     exact ⟨rfl, hS.below⟩
    refine W.skip (N.seq (W.seq (W.region (WL.fieldAddr fo_36_4 rfl rfl rfl (WL.load1 (v := .string x.name) one_9 rfl rfl rfl (hS.cell 0 rfl rfl) (WL.eqStr rfl rfl rfl rfl ?_))))))
    refine WL.set 90 (v' := .bool true) rfl (congrArg Value.bool (show (decide (x.name = ⟨#[]⟩)) = true from decide_eq_true (hm7 hc29))) ?_
    refine WL.assign rfl rfl rfl (WL.nil (N.seq ?_))
    refine Fin.ret1 rfl (v := .bool true) rfl ?_
    exact ⟨rfl, hS.below⟩
   have hg23p : ¬ (x.op = 1) := by simpa using hg23
   refine WL.fieldAddr fo_36_3 rfl rfl rfl (WL.load1 (v := .int .u64 x.k) one_34 rfl rfl rfl (hS.cell 0 rfl rfl) (WL.bin rfl rfl rfl rfl rfl ?_))
   refine WL.set 65 (v' := .bool false) rfl (by rw [decide_eq_true (hm4 (by omega))]; rfl) ?_
   refine WL.pick (v := .bool false) rfl rfl rfl rfl rfl rfl (WL.assign rfl rfl rfl (WL.nil (N.seq (W.condF rfl (W.seq (W.region (WL.fieldAddr fo_36_0 rfl rfl rfl (WL.load1 (v := .int .i64 x.op) one_3 rfl rfl rfl (hS.cell 0 rfl rfl) (WL.bin rfl rfl rfl rfl rfl ?_)))))))))
   refine WL.move rfl rfl rfl ?_
   cases hg31 : (!decide (x.op = 14))
   ·
    have hg31p : x.op = 14 := by simpa using hg31
    refine WL.skp rfl rfl (WL.skp rfl rfl (WL.skp rfl rfl (WL.skp rfl rfl (WL.pick (v := .bool false) rfl rfl rfl rfl rfl rfl (WL.move rfl rfl rfl (WL.fieldAddr fo_36_5 rfl rfl rfl (WL.load1 (v := .slice adx x.args.length capx) one_28 rfl rfl rfl (hS.cell 0 rfl rfl) (WL.lenSlice Try.underlying28 rfl rfl rfl (WL.bin rfl rfl rfl rfl rfl ?_)))))))))
    refine WL.set 81 (v' := .bool false) rfl (congrArg Value.bool (show (decide (6 < (x.args.length : Int))) = false from decide_eq_false (by omega))) ?_
    refine WL.pick (v := .bool false) rfl rfl rfl rfl rfl rfl (WL.assign rfl rfl rfl (WL.nil (N.seq (W.condF rfl (W.skip (N.blk (N.seq (W.seq (W.seq ?_)))))))))
    refine W.region (WL.loadN (cs := [.int .i64 x.op, .int .i64 x.a, .int .i64 x.b, .int .u64 x.k, .string x.name, .slice adx x.args.length capx]) agg_36 rfl rfl rfl rfl (hS.cells 0 (m := 6) rfl rfl) ?_)
    refine WL.callF (vs := [.agg #[.int .i64 x.op, .int .i64 x.a, .int .i64 x.b, .int .u64 x.k, .string x.name, .slice adx x.args.length capx]]) Try.func68 (by kernel_rfl) rfl rfl rfl (irnamed_ret x _ (ro := ro) (fun b hb => (hS.snap b hb).1) (hQx.keep hS.alike)) ?_
    rintro v w32 ⟨rfl, hbl⟩
    replace hS := hS.grow hbl
    refine WL.nil (N.seq ?_)
    refine W.cond rfl (fun hc33 => ?_) (fun hc33 => ?_)
    ·
     refine W.seq (W.region (WL.fieldAddr fo_36_4 rfl rfl rfl (WL.load1 (v := .string x.name) one_9 rfl rfl rfl (hS.cell 0 rfl rfl) ?_)))
     refine WL.callF (vs := [.string x.name]) Try.func54 (by kernel_rfl) rfl rfl rfl (irname_ret x.name (hm6 hc33) (ro := ro) (fun b hb => (hS.snap b hb).1)) ?_
     rintro v w34 ⟨rfl, hbl⟩
     replace hS := hS.grow hbl
     refine WL.assign rfl rfl rfl (WL.nil (N.seq ?_))
     refine Fin.ret1 rfl (v := .bool true) rfl ?_
     exact ⟨rfl, hS.below⟩
    refine W.skip (N.seq (W.seq (W.region (WL.fieldAddr fo_36_4 rfl rfl rfl (WL.load1 (v := .string x.name) one_9 rfl rfl rfl (hS.cell 0 rfl rfl) (WL.eqStr rfl rfl rfl rfl ?_))))))
    refine WL.set 90 (v' := .bool true) rfl (congrArg Value.bool (show (decide (x.name = ⟨#[]⟩)) = true from decide_eq_true (hm7 hc33))) ?_
    refine WL.assign rfl rfl rfl (WL.nil (N.seq ?_))
    refine Fin.ret1 rfl (v := .bool true) rfl ?_
    exact ⟨rfl, hS.below⟩
   have hg31p : ¬ (x.op = 14) := by simpa using hg31
   refine WL.fieldAddr fo_36_5 rfl rfl rfl (WL.load1 (v := .slice adx x.args.length capx) one_28 rfl rfl rfl (hS.cell 0 rfl rfl) (WL.lenSlice Try.underlying28 rfl rfl rfl (WL.bin rfl rfl rfl rfl rfl ?_)))
   refine WL.set 75 (v' := .bool false) rfl (congrArg Value.bool (show (decide (0 < (x.args.length : Int))) = false from decide_eq_false (by have := hm5 (by omega); omega))) ?_
   refine WL.pick (v := .bool false) rfl rfl rfl rfl rfl rfl (WL.move rfl rfl rfl (WL.fieldAddr fo_36_5 rfl rfl rfl (WL.load1 (v := .slice adx x.args.length capx) one_28 rfl rfl rfl (hS.cell 0 rfl rfl) (WL.lenSlice Try.underlying28 rfl rfl rfl (WL.bin rfl rfl rfl rfl rfl ?_)))))
   refine WL.set 81 (v' := .bool false) rfl (congrArg Value.bool (show (decide (6 < (x.args.length : Int))) = false from decide_eq_false (by omega))) ?_
   refine WL.pick (v := .bool false) rfl rfl rfl rfl rfl rfl (WL.assign rfl rfl rfl (WL.nil (N.seq (W.condF rfl (W.skip (N.blk (N.seq (W.seq (W.seq ?_)))))))))
   refine W.region (WL.loadN (cs := [.int .i64 x.op, .int .i64 x.a, .int .i64 x.b, .int .u64 x.k, .string x.name, .slice adx x.args.length capx]) agg_36 rfl rfl rfl rfl (hS.cells 0 (m := 6) rfl rfl) ?_)
   refine WL.callF (vs := [.agg #[.int .i64 x.op, .int .i64 x.a, .int .i64 x.b, .int .u64 x.k, .string x.name, .slice adx x.args.length capx]]) Try.func68 (by kernel_rfl) rfl rfl rfl (irnamed_ret x _ (ro := ro) (fun b hb => (hS.snap b hb).1) (hQx.keep hS.alike)) ?_
   rintro v w35 ⟨rfl, hbl⟩
   replace hS := hS.grow hbl
   refine WL.nil (N.seq ?_)
   refine W.cond rfl (fun hc36 => ?_) (fun hc36 => ?_)
   ·
    refine W.seq (W.region (WL.fieldAddr fo_36_4 rfl rfl rfl (WL.load1 (v := .string x.name) one_9 rfl rfl rfl (hS.cell 0 rfl rfl) ?_)))
    refine WL.callF (vs := [.string x.name]) Try.func54 (by kernel_rfl) rfl rfl rfl (irname_ret x.name (hm6 hc36) (ro := ro) (fun b hb => (hS.snap b hb).1)) ?_
    rintro v w37 ⟨rfl, hbl⟩
    replace hS := hS.grow hbl
    refine WL.assign rfl rfl rfl (WL.nil (N.seq ?_))
    refine Fin.ret1 rfl (v := .bool true) rfl ?_
    exact ⟨rfl, hS.below⟩
   refine W.skip (N.seq (W.seq (W.region (WL.fieldAddr fo_36_4 rfl rfl rfl (WL.load1 (v := .string x.name) one_9 rfl rfl rfl (hS.cell 0 rfl rfl) (WL.eqStr rfl rfl rfl rfl ?_))))))
   refine WL.set 90 (v' := .bool true) rfl (congrArg Value.bool (show (decide (x.name = ⟨#[]⟩)) = true from decide_eq_true (hm7 hc36))) ?_
   refine WL.assign rfl rfl rfl (WL.nil (N.seq ?_))
   refine Fin.ret1 rfl (v := .bool true) rfl ?_
   exact ⟨rfl, hS.below⟩
  have hg6p : x.op = 13 := by simpa using hg6
  refine WL.skp rfl rfl (WL.skp rfl rfl (WL.skp rfl rfl (WL.pick (v := .bool true) rfl rfl rfl rfl rfl rfl (WL.assign rfl rfl rfl (WL.nil (N.seq (W.seq (W.block (W.seq ?_)))))))))
  refine W.region (WL.move rfl rfl rfl (WL.not rfl rfl rfl ?_))
  refine WL.set 43 (v' := .bool false) rfl rfl ?_
  refine WL.move rfl rfl rfl (WL.skp rfl rfl (WL.skp rfl rfl (WL.skp rfl rfl (WL.pick (v := .bool false) rfl rfl rfl rfl rfl rfl (WL.move rfl rfl rfl (WL.move rfl rfl rfl (WL.not rfl rfl rfl ?_)))))))
  refine WL.set 51 (v' := .bool true) rfl rfl ?_
  refine WL.move rfl rfl rfl (WL.fieldAddr fo_36_2 rfl rfl rfl (WL.load1 (v := .int .i64 x.b) one_3 rfl rfl rfl (hS.cell 0 rfl rfl) (WL.bin rfl rfl rfl rfl rfl ?_)))
  refine WL.set 55 (v' := .bool false) rfl (by rw [decide_eq_true (hm3 (by omega))]; rfl) ?_
  refine WL.pick (v := .bool false) rfl rfl rfl rfl rfl rfl (WL.pick (v := .bool false) rfl rfl rfl rfl rfl rfl (WL.assign rfl rfl rfl (WL.nil (N.seq (W.condF rfl (W.seq (W.region (WL.fieldAddr fo_36_0 rfl rfl rfl (WL.load1 (v := .int .i64 x.op) one_3 rfl rfl rfl (hS.cell 0 rfl rfl) ?_)))))))))
  refine WL.bin rfl rfl rfl rfl rfl (WL.move rfl rfl rfl ?_)
  cases hg38 : (!decide (x.op = 1))
  ·
   have hg38p : x.op = 1 := by simpa using hg38
   refine WL.skp rfl rfl (WL.skp rfl rfl (WL.skp rfl rfl (WL.pick (v := .bool false) rfl rfl rfl rfl rfl rfl (WL.assign rfl rfl rfl (WL.nil (N.seq (W.condF rfl (W.seq (W.region ?_)))))))))
   refine WL.fieldAddr fo_36_0 rfl rfl rfl (WL.load1 (v := .int .i64 x.op) one_3 rfl rfl rfl (hS.cell 0 rfl rfl) (WL.bin rfl rfl rfl rfl rfl (WL.move rfl rfl rfl ?_)))
   cases hg39 : (!decide (x.op = 14))
   ·
    have hg39p : x.op = 14 := by simpa using hg39
    refine WL.skp rfl rfl (WL.skp rfl rfl (WL.skp rfl rfl (WL.skp rfl rfl (WL.pick (v := .bool false) rfl rfl rfl rfl rfl rfl (WL.move rfl rfl rfl (WL.fieldAddr fo_36_5 rfl rfl rfl (WL.load1 (v := .slice adx x.args.length capx) one_28 rfl rfl rfl (hS.cell 0 rfl rfl) (WL.lenSlice Try.underlying28 rfl rfl rfl (WL.bin rfl rfl rfl rfl rfl ?_)))))))))
    refine WL.set 81 (v' := .bool false) rfl (congrArg Value.bool (show (decide (6 < (x.args.length : Int))) = false from decide_eq_false (by omega))) ?_
    refine WL.pick (v := .bool false) rfl rfl rfl rfl rfl rfl (WL.assign rfl rfl rfl (WL.nil (N.seq (W.condF rfl (W.skip (N.blk (N.seq (W.seq (W.seq ?_)))))))))
    refine W.region (WL.loadN (cs := [.int .i64 x.op, .int .i64 x.a, .int .i64 x.b, .int .u64 x.k, .string x.name, .slice adx x.args.length capx]) agg_36 rfl rfl rfl rfl (hS.cells 0 (m := 6) rfl rfl) ?_)
    refine WL.callF (vs := [.agg #[.int .i64 x.op, .int .i64 x.a, .int .i64 x.b, .int .u64 x.k, .string x.name, .slice adx x.args.length capx]]) Try.func68 (by kernel_rfl) rfl rfl rfl (irnamed_ret x _ (ro := ro) (fun b hb => (hS.snap b hb).1) (hQx.keep hS.alike)) ?_
    rintro v w40 ⟨rfl, hbl⟩
    replace hS := hS.grow hbl
    refine WL.nil (N.seq ?_)
    refine W.cond rfl (fun hc41 => ?_) (fun hc41 => ?_)
    ·
     refine W.seq (W.region (WL.fieldAddr fo_36_4 rfl rfl rfl (WL.load1 (v := .string x.name) one_9 rfl rfl rfl (hS.cell 0 rfl rfl) ?_)))
     refine WL.callF (vs := [.string x.name]) Try.func54 (by kernel_rfl) rfl rfl rfl (irname_ret x.name (hm6 hc41) (ro := ro) (fun b hb => (hS.snap b hb).1)) ?_
     rintro v w42 ⟨rfl, hbl⟩
     replace hS := hS.grow hbl
     refine WL.assign rfl rfl rfl (WL.nil (N.seq ?_))
     refine Fin.ret1 rfl (v := .bool true) rfl ?_
     exact ⟨rfl, hS.below⟩
    refine W.skip (N.seq (W.seq (W.region (WL.fieldAddr fo_36_4 rfl rfl rfl (WL.load1 (v := .string x.name) one_9 rfl rfl rfl (hS.cell 0 rfl rfl) (WL.eqStr rfl rfl rfl rfl ?_))))))
    refine WL.set 90 (v' := .bool true) rfl (congrArg Value.bool (show (decide (x.name = ⟨#[]⟩)) = true from decide_eq_true (hm7 hc41))) ?_
    refine WL.assign rfl rfl rfl (WL.nil (N.seq ?_))
    refine Fin.ret1 rfl (v := .bool true) rfl ?_
    exact ⟨rfl, hS.below⟩
   have hg39p : ¬ (x.op = 14) := by simpa using hg39
   refine WL.fieldAddr fo_36_5 rfl rfl rfl (WL.load1 (v := .slice adx x.args.length capx) one_28 rfl rfl rfl (hS.cell 0 rfl rfl) (WL.lenSlice Try.underlying28 rfl rfl rfl (WL.bin rfl rfl rfl rfl rfl ?_)))
   refine WL.set 75 (v' := .bool false) rfl (congrArg Value.bool (show (decide (0 < (x.args.length : Int))) = false from decide_eq_false (by have := hm5 (by omega); omega))) ?_
   refine WL.pick (v := .bool false) rfl rfl rfl rfl rfl rfl (WL.move rfl rfl rfl (WL.fieldAddr fo_36_5 rfl rfl rfl (WL.load1 (v := .slice adx x.args.length capx) one_28 rfl rfl rfl (hS.cell 0 rfl rfl) (WL.lenSlice Try.underlying28 rfl rfl rfl (WL.bin rfl rfl rfl rfl rfl ?_)))))
   refine WL.set 81 (v' := .bool false) rfl (congrArg Value.bool (show (decide (6 < (x.args.length : Int))) = false from decide_eq_false (by omega))) ?_
   refine WL.pick (v := .bool false) rfl rfl rfl rfl rfl rfl (WL.assign rfl rfl rfl (WL.nil (N.seq (W.condF rfl (W.skip (N.blk (N.seq (W.seq (W.seq ?_)))))))))
   refine W.region (WL.loadN (cs := [.int .i64 x.op, .int .i64 x.a, .int .i64 x.b, .int .u64 x.k, .string x.name, .slice adx x.args.length capx]) agg_36 rfl rfl rfl rfl (hS.cells 0 (m := 6) rfl rfl) ?_)
   refine WL.callF (vs := [.agg #[.int .i64 x.op, .int .i64 x.a, .int .i64 x.b, .int .u64 x.k, .string x.name, .slice adx x.args.length capx]]) Try.func68 (by kernel_rfl) rfl rfl rfl (irnamed_ret x _ (ro := ro) (fun b hb => (hS.snap b hb).1) (hQx.keep hS.alike)) ?_
   rintro v w43 ⟨rfl, hbl⟩
   replace hS := hS.grow hbl
   refine WL.nil (N.seq ?_)
   refine W.cond rfl (fun hc44 => ?_) (fun hc44 => ?_)
   ·
    refine W.seq (W.region (WL.fieldAddr fo_36_4 rfl rfl rfl (WL.load1 (v := .string x.name) one_9 rfl rfl rfl (hS.cell 0 rfl rfl) ?_)))
    refine WL.callF (vs := [.string x.name]) Try.func54 (by kernel_rfl) rfl rfl rfl (irname_ret x.name (hm6 hc44) (ro := ro) (fun b hb => (hS.snap b hb).1)) ?_
    rintro v w45 ⟨rfl, hbl⟩
    replace hS := hS.grow hbl
    refine WL.assign rfl rfl rfl (WL.nil (N.seq ?_))
    refine Fin.ret1 rfl (v := .bool true) rfl ?_
    exact ⟨rfl, hS.below⟩
   refine W.skip (N.seq (W.seq (W.region (WL.fieldAddr fo_36_4 rfl rfl rfl (WL.load1 (v := .string x.name) one_9 rfl rfl rfl (hS.cell 0 rfl rfl) (WL.eqStr rfl rfl rfl rfl ?_))))))
   refine WL.set 90 (v' := .bool true) rfl (congrArg Value.bool (show (decide (x.name = ⟨#[]⟩)) = true from decide_eq_true (hm7 hc44))) ?_
   refine WL.assign rfl rfl rfl (WL.nil (N.seq ?_))
   refine Fin.ret1 rfl (v := .bool true) rfl ?_
   exact ⟨rfl, hS.below⟩
  have hg38p : ¬ (x.op = 1) := by simpa using hg38
  refine WL.fieldAddr fo_36_3 rfl rfl rfl (WL.load1 (v := .int .u64 x.k) one_34 rfl rfl rfl (hS.cell 0 rfl rfl) (WL.bin rfl rfl rfl rfl rfl ?_))
  refine WL.set 65 (v' := .bool false) rfl (by rw [decide_eq_true (hm4 (by omega))]; rfl) ?_
  refine WL.pick (v := .bool false) rfl rfl rfl rfl rfl rfl (WL.assign rfl rfl rfl (WL.nil (N.seq (W.condF rfl (W.seq (W.region (WL.fieldAddr fo_36_0 rfl rfl rfl (WL.load1 (v := .int .i64 x.op) one_3 rfl rfl rfl (hS.cell 0 rfl rfl) (WL.bin rfl rfl rfl rfl rfl ?_)))))))))
  refine WL.move rfl rfl rfl ?_
  cases hg46 : (!decide (x.op = 14))
  ·
   have hg46p : x.op = 14 := by simpa using hg46
   refine WL.skp rfl rfl (WL.skp rfl rfl (WL.skp rfl rfl (WL.skp rfl rfl (WL.pick (v := .bool false) rfl rfl rfl rfl rfl rfl (WL.move rfl rfl rfl (WL.fieldAddr fo_36_5 rfl rfl rfl (WL.load1 (v := .slice adx x.args.length capx) one_28 rfl rfl rfl (hS.cell 0 rfl rfl) (WL.lenSlice Try.underlying28 rfl rfl rfl (WL.bin rfl rfl rfl rfl rfl ?_)))))))))
   refine WL.set 81 (v' := .bool false) rfl (congrArg Value.bool (show (decide (6 < (x.args.length : Int))) = false from decide_eq_false (by omega))) ?_
   refine WL.pick (v := .bool false) rfl rfl rfl rfl rfl rfl (WL.assign rfl rfl rfl (WL.nil (N.seq (W.condF rfl (W.skip (N.blk (N.seq (W.seq (W.seq ?_)))))))))
   refine W.region (WL.loadN (cs := [.int .i64 x.op, .int .i64 x.a, .int .i64 x.b, .int .u64 x.k, .string x.name, .slice adx x.args.length capx]) agg_36 rfl rfl rfl rfl (hS.cells 0 (m := 6) rfl rfl) ?_)
   refine WL.callF (vs := [.agg #[.int .i64 x.op, .int .i64 x.a, .int .i64 x.b, .int .u64 x.k, .string x.name, .slice adx x.args.length capx]]) Try.func68 (by kernel_rfl) rfl rfl rfl (irnamed_ret x _ (ro := ro) (fun b hb => (hS.snap b hb).1) (hQx.keep hS.alike)) ?_
   rintro v w47 ⟨rfl, hbl⟩
   replace hS := hS.grow hbl
   refine WL.nil (N.seq ?_)
   refine W.cond rfl (fun hc48 => ?_) (fun hc48 => ?_)
   ·
    refine W.seq (W.region (WL.fieldAddr fo_36_4 rfl rfl rfl (WL.load1 (v := .string x.name) one_9 rfl rfl rfl (hS.cell 0 rfl rfl) ?_)))
    refine WL.callF (vs := [.string x.name]) Try.func54 (by kernel_rfl) rfl rfl rfl (irname_ret x.name (hm6 hc48) (ro := ro) (fun b hb => (hS.snap b hb).1)) ?_
    rintro v w49 ⟨rfl, hbl⟩
    replace hS := hS.grow hbl
    refine WL.assign rfl rfl rfl (WL.nil (N.seq ?_))
    refine Fin.ret1 rfl (v := .bool true) rfl ?_
    exact ⟨rfl, hS.below⟩
   refine W.skip (N.seq (W.seq (W.region (WL.fieldAddr fo_36_4 rfl rfl rfl (WL.load1 (v := .string x.name) one_9 rfl rfl rfl (hS.cell 0 rfl rfl) (WL.eqStr rfl rfl rfl rfl ?_))))))
   refine WL.set 90 (v' := .bool true) rfl (congrArg Value.bool (show (decide (x.name = ⟨#[]⟩)) = true from decide_eq_true (hm7 hc48))) ?_
   refine WL.assign rfl rfl rfl (WL.nil (N.seq ?_))
   refine Fin.ret1 rfl (v := .bool true) rfl ?_
   exact ⟨rfl, hS.below⟩
  have hg46p : ¬ (x.op = 14) := by simpa using hg46
  refine WL.fieldAddr fo_36_5 rfl rfl rfl (WL.load1 (v := .slice adx x.args.length capx) one_28 rfl rfl rfl (hS.cell 0 rfl rfl) (WL.lenSlice Try.underlying28 rfl rfl rfl (WL.bin rfl rfl rfl rfl rfl ?_)))
  refine WL.set 75 (v' := .bool false) rfl (congrArg Value.bool (show (decide (0 < (x.args.length : Int))) = false from decide_eq_false (by have := hm5 (by omega); omega))) ?_
  refine WL.pick (v := .bool false) rfl rfl rfl rfl rfl rfl (WL.move rfl rfl rfl (WL.fieldAddr fo_36_5 rfl rfl rfl (WL.load1 (v := .slice adx x.args.length capx) one_28 rfl rfl rfl (hS.cell 0 rfl rfl) (WL.lenSlice Try.underlying28 rfl rfl rfl (WL.bin rfl rfl rfl rfl rfl ?_)))))
  refine WL.set 81 (v' := .bool false) rfl (congrArg Value.bool (show (decide (6 < (x.args.length : Int))) = false from decide_eq_false (by omega))) ?_
  refine WL.pick (v := .bool false) rfl rfl rfl rfl rfl rfl (WL.assign rfl rfl rfl (WL.nil (N.seq (W.condF rfl (W.skip (N.blk (N.seq (W.seq (W.seq ?_)))))))))
  refine W.region (WL.loadN (cs := [.int .i64 x.op, .int .i64 x.a, .int .i64 x.b, .int .u64 x.k, .string x.name, .slice adx x.args.length capx]) agg_36 rfl rfl rfl rfl (hS.cells 0 (m := 6) rfl rfl) ?_)
  refine WL.callF (vs := [.agg #[.int .i64 x.op, .int .i64 x.a, .int .i64 x.b, .int .u64 x.k, .string x.name, .slice adx x.args.length capx]]) Try.func68 (by kernel_rfl) rfl rfl rfl (irnamed_ret x _ (ro := ro) (fun b hb => (hS.snap b hb).1) (hQx.keep hS.alike)) ?_
  rintro v w50 ⟨rfl, hbl⟩
  replace hS := hS.grow hbl
  refine WL.nil (N.seq ?_)
  refine W.cond rfl (fun hc51 => ?_) (fun hc51 => ?_)
  ·
   refine W.seq (W.region (WL.fieldAddr fo_36_4 rfl rfl rfl (WL.load1 (v := .string x.name) one_9 rfl rfl rfl (hS.cell 0 rfl rfl) ?_)))
   refine WL.callF (vs := [.string x.name]) Try.func54 (by kernel_rfl) rfl rfl rfl (irname_ret x.name (hm6 hc51) (ro := ro) (fun b hb => (hS.snap b hb).1)) ?_
   rintro v w52 ⟨rfl, hbl⟩
   replace hS := hS.grow hbl
   refine WL.assign rfl rfl rfl (WL.nil (N.seq ?_))
   refine Fin.ret1 rfl (v := .bool true) rfl ?_
   exact ⟨rfl, hS.below⟩
  refine W.skip (N.seq (W.seq (W.region (WL.fieldAddr fo_36_4 rfl rfl rfl (WL.load1 (v := .string x.name) one_9 rfl rfl rfl (hS.cell 0 rfl rfl) (WL.eqStr rfl rfl rfl rfl ?_))))))
  refine WL.set 90 (v' := .bool true) rfl (congrArg Value.bool (show (decide (x.name = ⟨#[]⟩)) = true from decide_eq_true (hm7 hc51))) ?_
  refine WL.assign rfl rfl rfl (WL.nil (N.seq ?_))
  refine Fin.ret1 rfl (v := .bool true) rfl ?_
  exact ⟨rfl, hS.below⟩
 have hg5p : 2 ≤ x.op := by simpa using hg5
 refine WL.fieldAddr fo_36_0 rfl rfl rfl (WL.load1 (v := .int .i64 x.op) one_3 rfl rfl rfl (hS.cell 0 rfl rfl) (WL.bin rfl rfl rfl rfl rfl (WL.pick (v := .bool (decide (x.op ≤ 11))) rfl rfl rfl rfl rfl rfl (WL.assign rfl rfl rfl (WL.nil (N.seq (W.seq (W.region (WL.move rfl rfl rfl ?_)))))))))
 refine WL.move rfl rfl rfl ?_
 cases hg53 : (decide (x.op ≤ 11))
 ·
  have hg53p : ¬ (x.op ≤ 11) := by simpa using hg53
  refine WL.fieldAddr fo_36_0 rfl rfl rfl (WL.load1 (v := .int .i64 x.op) one_3 rfl rfl rfl (hS.cell 0 rfl rfl) (WL.bin rfl rfl rfl rfl rfl (WL.pick (v := .bool (decide (x.op = 13))) rfl rfl rfl rfl rfl rfl (WL.move rfl rfl rfl ?_))))
  cases hg54 : (decide (x.op = 13))
  ·
   have hg54p : ¬ (x.op = 13) := by simpa using hg54
   refine WL.fieldAddr fo_36_0 rfl rfl rfl (WL.load1 (v := .int .i64 x.op) one_3 rfl rfl rfl (hS.cell 0 rfl rfl) (WL.bin rfl rfl rfl rfl rfl (WL.pick (v := .bool (decide (x.op = 16))) rfl rfl rfl rfl rfl rfl (WL.assign rfl rfl rfl (WL.nil (N.seq (W.seq (W.block (W.seq ?_)))))))))
   refine W.region (WL.move rfl rfl rfl (WL.not rfl rfl rfl (WL.move rfl rfl rfl ?_)))
   cases hg55 : (!(decide (x.op = 16)))
   ·
    have hg55p : x.op = 16 := by simpa using hg55
    refine WL.skp rfl rfl (WL.skp rfl rfl (WL.skp rfl rfl (WL.pick (v := .bool false) rfl rfl rfl rfl rfl rfl (WL.move rfl rfl rfl (WL.move rfl rfl rfl (WL.not rfl rfl rfl ?_))))))
    refine WL.set 51 (v' := .bool true) rfl rfl ?_
    refine WL.move rfl rfl rfl (WL.fieldAddr fo_36_2 rfl rfl rfl (WL.load1 (v := .int .i64 x.b) one_3 rfl rfl rfl (hS.cell 0 rfl rfl) (WL.bin rfl rfl rfl rfl rfl ?_)))
    refine WL.set 55 (v' := .bool false) rfl (by rw [decide_eq_true (hm3 (by omega))]; rfl) ?_
    refine WL.pick (v := .bool false) rfl rfl rfl rfl rfl rfl (WL.pick (v := .bool false) rfl rfl rfl rfl rfl rfl (WL.assign rfl rfl rfl (WL.nil (N.seq (W.condF rfl (W.seq (W.region (WL.fieldAddr fo_36_0 rfl rfl rfl (WL.load1 (v := .int .i64 x.op) one_3 rfl rfl rfl (hS.cell 0 rfl rfl) ?_)))))))))
    refine WL.bin rfl rfl rfl rfl rfl (WL.move rfl rfl rfl ?_)
    cases hg56 : (!decide (x.op = 1))
    ·
     have hg56p : x.op = 1 := by simpa using hg56
     refine WL.skp rfl rfl (WL.skp rfl rfl (WL.skp rfl rfl (WL.pick (v := .bool false) rfl rfl rfl rfl rfl rfl (WL.assign rfl rfl rfl (WL.nil (N.seq (W.condF rfl (W.seq (W.region ?_)))))))))
     refine WL.fieldAddr fo_36_0 rfl rfl rfl (WL.load1 (v := .int .i64 x.op) one_3 rfl rfl rfl (hS.cell 0 rfl rfl) (WL.bin rfl rfl rfl rfl rfl (WL.move rfl rfl rfl ?_)))
     cases hg57 : (!decide (x.op = 14))
     ·
      have hg57p : x.op = 14 := by simpa using hg57
      refine WL.skp rfl rfl (WL.skp rfl rfl (WL.skp rfl rfl (WL.skp rfl rfl (WL.pick (v := .bool false) rfl rfl rfl rfl rfl rfl (WL.move rfl rfl rfl (WL.fieldAddr fo_36_5 rfl rfl rfl (WL.load1 (v := .slice adx x.args.length capx) one_28 rfl rfl rfl (hS.cell 0 rfl rfl) (WL.lenSlice Try.underlying28 rfl rfl rfl (WL.bin rfl rfl rfl rfl rfl ?_)))))))))
      refine WL.set 81 (v' := .bool false) rfl (congrArg Value.bool (show (decide (6 < (x.args.length : Int))) = false from decide_eq_false (by omega))) ?_
      refine WL.pick (v := .bool false) rfl rfl rfl rfl rfl rfl (WL.assign rfl rfl rfl (WL.nil (N.seq (W.condF rfl (W.skip (N.blk (N.seq (W.seq (W.seq ?_)))))))))
      refine W.region (WL.loadN (cs := [.int .i64 x.op, .int .i64 x.a, .int .i64 x.b, .int .u64 x.k, .string x.name, .slice adx x.args.length capx]) agg_36 rfl rfl rfl rfl (hS.cells 0 (m := 6) rfl rfl) ?_)
      refine WL.callF (vs := [.agg #[.int .i64 x.op, .int .i64 x.a, .int .i64 x.b, .int .u64 x.k, .string x.name, .slice adx x.args.length capx]]) Try.func68 (by kernel_rfl) rfl rfl rfl (irnamed_ret x _ (ro := ro) (fun b hb => (hS.snap b hb).1) (hQx.keep hS.alike)) ?_
      rintro v w58 ⟨rfl, hbl⟩
      replace hS := hS.grow hbl
      refine WL.nil (N.seq ?_)
      refine W.cond rfl (fun hc59 => ?_) (fun hc59 => ?_)
      ·
       refine W.seq (W.region (WL.fieldAddr fo_36_4 rfl rfl rfl (WL.load1 (v := .string x.name) one_9 rfl rfl rfl (hS.cell 0 rfl rfl) ?_)))
       refine WL.callF (vs := [.string x.name]) Try.func54 (by kernel_rfl) rfl rfl rfl (irname_ret x.name (hm6 hc59) (ro := ro) (fun b hb => (hS.snap b hb).1)) ?_
       rintro v w60 ⟨rfl, hbl⟩
       replace hS := hS.grow hbl
       refine WL.assign rfl rfl rfl (WL.nil (N.seq ?_))
       refine Fin.ret1 rfl (v := .bool true) rfl ?_
       exact ⟨rfl, hS.below⟩
      refine W.skip (N.seq (W.seq (W.region (WL.fieldAddr fo_36_4 rfl rfl rfl (WL.load1 (v := .string x.name) one_9 rfl rfl rfl (hS.cell 0 rfl rfl) (WL.eqStr rfl rfl rfl rfl ?_))))))
      refine WL.set 90 (v' := .bool true) rfl (congrArg Value.bool (show (decide (x.name = ⟨#[]⟩)) = true from decide_eq_true (hm7 hc59))) ?_
      refine WL.assign rfl rfl rfl (WL.nil (N.seq ?_))
      refine Fin.ret1 rfl (v := .bool true) rfl ?_
      exact ⟨rfl, hS.below⟩
     have hg57p : ¬ (x.op = 14) := by simpa using hg57
     refine WL.fieldAddr fo_36_5 rfl rfl rfl (WL.load1 (v := .slice adx x.args.length capx) one_28 rfl rfl rfl (hS.cell 0 rfl rfl) (WL.lenSlice Try.underlying28 rfl rfl rfl (WL.bin rfl rfl rfl rfl rfl ?_)))
     refine WL.set 75 (v' := .bool false) rfl (congrArg Value.bool (show (decide (0 < (x.args.length : Int))) = false from decide_eq_false (by have := hm5 (by omega); omega))) ?_
     refine WL.pick (v := .bool false) rfl rfl rfl rfl rfl rfl (WL.move rfl rfl rfl (WL.fieldAddr fo_36_5 rfl rfl rfl (WL.load1 (v := .slice adx x.args.length capx) one_28 rfl rfl rfl (hS.cell 0 rfl rfl) (WL.lenSlice Try.underlying28 rfl rfl rfl (WL.bin rfl rfl rfl rfl rfl ?_)))))
     refine WL.set 81 (v' := .bool false) rfl (congrArg Value.bool (show (decide (6 < (x.args.length : Int))) = false from decide_eq_false (by omega))) ?_
     refine WL.pick (v := .bool false) rfl rfl rfl rfl rfl rfl (WL.assign rfl rfl rfl (WL.nil (N.seq (W.condF rfl (W.skip (N.blk (N.seq (W.seq (W.seq ?_)))))))))
     refine W.region (WL.loadN (cs := [.int .i64 x.op, .int .i64 x.a, .int .i64 x.b, .int .u64 x.k, .string x.name, .slice adx x.args.length capx]) agg_36 rfl rfl rfl rfl (hS.cells 0 (m := 6) rfl rfl) ?_)
     refine WL.callF (vs := [.agg #[.int .i64 x.op, .int .i64 x.a, .int .i64 x.b, .int .u64 x.k, .string x.name, .slice adx x.args.length capx]]) Try.func68 (by kernel_rfl) rfl rfl rfl (irnamed_ret x _ (ro := ro) (fun b hb => (hS.snap b hb).1) (hQx.keep hS.alike)) ?_
     rintro v w61 ⟨rfl, hbl⟩
     replace hS := hS.grow hbl
     refine WL.nil (N.seq ?_)
     refine W.cond rfl (fun hc62 => ?_) (fun hc62 => ?_)
     ·
      refine W.seq (W.region (WL.fieldAddr fo_36_4 rfl rfl rfl (WL.load1 (v := .string x.name) one_9 rfl rfl rfl (hS.cell 0 rfl rfl) ?_)))
      refine WL.callF (vs := [.string x.name]) Try.func54 (by kernel_rfl) rfl rfl rfl (irname_ret x.name (hm6 hc62) (ro := ro) (fun b hb => (hS.snap b hb).1)) ?_
      rintro v w63 ⟨rfl, hbl⟩
      replace hS := hS.grow hbl
      refine WL.assign rfl rfl rfl (WL.nil (N.seq ?_))
      refine Fin.ret1 rfl (v := .bool true) rfl ?_
      exact ⟨rfl, hS.below⟩
     refine W.skip (N.seq (W.seq (W.region (WL.fieldAddr fo_36_4 rfl rfl rfl (WL.load1 (v := .string x.name) one_9 rfl rfl rfl (hS.cell 0 rfl rfl) (WL.eqStr rfl rfl rfl rfl ?_))))))
     refine WL.set 90 (v' := .bool true) rfl (congrArg Value.bool (show (decide (x.name = ⟨#[]⟩)) = true from decide_eq_true (hm7 hc62))) ?_
     refine WL.assign rfl rfl rfl (WL.nil (N.seq ?_))
     refine Fin.ret1 rfl (v := .bool true) rfl ?_
     exact ⟨rfl, hS.below⟩
    have hg56p : ¬ (x.op = 1) := by simpa using hg56
    refine WL.fieldAddr fo_36_3 rfl rfl rfl (WL.load1 (v := .int .u64 x.k) one_34 rfl rfl rfl (hS.cell 0 rfl rfl) (WL.bin rfl rfl rfl rfl rfl ?_))
    refine WL.set 65 (v' := .bool false) rfl (by rw [decide_eq_true (hm4 (by omega))]; rfl) ?_
    refine WL.pick (v := .bool false) rfl rfl rfl rfl rfl rfl (WL.assign rfl rfl rfl (WL.nil (N.seq (W.condF rfl (W.seq (W.region (WL.fieldAddr fo_36_0 rfl rfl rfl (WL.load1 (v := .int .i64 x.op) one_3 rfl rfl rfl (hS.cell 0 rfl rfl) (WL.bin rfl rfl rfl rfl rfl ?_)))))))))
    refine WL.move rfl rfl rfl ?_
    cases hg64 : (!decide (x.op = 14))
    ·
     have hg64p : x.op = 14 := by simpa using hg64
     refine WL.skp rfl rfl (WL.skp rfl rfl (WL.skp rfl rfl (WL.skp rfl rfl (WL.pick (v := .bool false) rfl rfl rfl rfl rfl rfl (WL.move rfl rfl rfl (WL.fieldAddr fo_36_5 rfl rfl rfl (WL.load1 (v := .slice adx x.args.length capx) one_28 rfl rfl rfl (hS.cell 0 rfl rfl) (WL.lenSlice Try.underlying28 rfl rfl rfl (WL.bin rfl rfl rfl rfl rfl ?_)))))))))
     refine WL.set 81 (v' := .bool false) rfl (congrArg Value.bool (show (decide (6 < (x.args.length : Int))) = false from decide_eq_false (by omega))) ?_
     refine WL.pick (v := .bool false) rfl rfl rfl rfl rfl rfl (WL.assign rfl rfl rfl (WL.nil (N.seq (W.condF rfl (W.skip (N.blk (N.seq (W.seq (W.seq ?_)))))))))
     refine W.region (WL.loadN (cs := [.int .i64 x.op, .int .i64 x.a, .int .i64 x.b, .int .u64 x.k, .string x.name, .slice adx x.args.length capx]) agg_36 rfl rfl rfl rfl (hS.cells 0 (m := 6) rfl rfl) ?_)
     refine WL.callF (vs := [.agg #[.int .i64 x.op, .int .i64 x.a, .int .i64 x.b, .int .u64 x.k, .string x.name, .slice adx x.args.length capx]]) Try.func68 (by kernel_rfl) rfl rfl rfl (irnamed_ret x _ (ro := ro) (fun b hb => (hS.snap b hb).1) (hQx.keep hS.alike)) ?_
     rintro v w65 ⟨rfl, hbl⟩
     replace hS := hS.grow hbl
     refine WL.nil (N.seq ?_)
     refine W.cond rfl (fun hc66 => ?_) (fun hc66 => ?_)
     ·
      refine W.seq (W.region (WL.fieldAddr fo_36_4 rfl rfl rfl (WL.load1 (v := .string x.name) one_9 rfl rfl rfl (hS.cell 0 rfl rfl) ?_)))
      refine WL.callF (vs := [.string x.name]) Try.func54 (by kernel_rfl) rfl rfl rfl (irname_ret x.name (hm6 hc66) (ro := ro) (fun b hb => (hS.snap b hb).1)) ?_
      rintro v w67 ⟨rfl, hbl⟩
      replace hS := hS.grow hbl
      refine WL.assign rfl rfl rfl (WL.nil (N.seq ?_))
      refine Fin.ret1 rfl (v := .bool true) rfl ?_
      exact ⟨rfl, hS.below⟩
     refine W.skip (N.seq (W.seq (W.region (WL.fieldAddr fo_36_4 rfl rfl rfl (WL.load1 (v := .string x.name) one_9 rfl rfl rfl (hS.cell 0 rfl rfl) (WL.eqStr rfl rfl rfl rfl ?_))))))
     refine WL.set 90 (v' := .bool true) rfl (congrArg Value.bool (show (decide (x.name = ⟨#[]⟩)) = true from decide_eq_true (hm7 hc66))) ?_
     refine WL.assign rfl rfl rfl (WL.nil (N.seq ?_))
     refine Fin.ret1 rfl (v := .bool true) rfl ?_
     exact ⟨rfl, hS.below⟩
    have hg64p : ¬ (x.op = 14) := by simpa using hg64
    refine WL.fieldAddr fo_36_5 rfl rfl rfl (WL.load1 (v := .slice adx x.args.length capx) one_28 rfl rfl rfl (hS.cell 0 rfl rfl) (WL.lenSlice Try.underlying28 rfl rfl rfl (WL.bin rfl rfl rfl rfl rfl ?_)))
    refine WL.set 75 (v' := .bool false) rfl (congrArg Value.bool (show (decide (0 < (x.args.length : Int))) = false from decide_eq_false (by have := hm5 (by omega); omega))) ?_
    refine WL.pick (v := .bool false) rfl rfl rfl rfl rfl rfl (WL.move rfl rfl rfl (WL.fieldAddr fo_36_5 rfl rfl rfl (WL.load1 (v := .slice adx x.args.length capx) one_28 rfl rfl rfl (hS.cell 0 rfl rfl) (WL.lenSlice Try.underlying28 rfl rfl rfl (WL.bin rfl rfl rfl rfl rfl ?_)))))
    refine WL.set 81 (v' := .bool false) rfl (congrArg Value.bool (show (decide (6 < (x.args.length : Int))) = false from decide_eq_false (by omega))) ?_
    refine WL.pick (v := .bool false) rfl rfl rfl rfl rfl rfl (WL.assign rfl rfl rfl (WL.nil (N.seq (W.condF rfl (W.skip (N.blk (N.seq (W.seq (W.seq ?_)))))))))
    refine W.region (WL.loadN (cs := [.int .i64 x.op, .int .i64 x.a, .int .i64 x.b, .int .u64 x.k, .string x.name, .slice adx x.args.length capx]) agg_36 rfl rfl rfl rfl (hS.cells 0 (m := 6) rfl rfl) ?_)
    refine WL.callF (vs := [.agg #[.int .i64 x.op, .int .i64 x.a, .int .i64 x.b, .int .u64 x.k, .string x.name, .slice adx x.args.length capx]]) Try.func68 (by kernel_rfl) rfl rfl rfl (irnamed_ret x _ (ro := ro) (fun b hb => (hS.snap b hb).1) (hQx.keep hS.alike)) ?_
    rintro v w68 ⟨rfl, hbl⟩
    replace hS := hS.grow hbl
    refine WL.nil (N.seq ?_)
    refine W.cond rfl (fun hc69 => ?_) (fun hc69 => ?_)
    ·
     refine W.seq (W.region (WL.fieldAddr fo_36_4 rfl rfl rfl (WL.load1 (v := .string x.name) one_9 rfl rfl rfl (hS.cell 0 rfl rfl) ?_)))
     refine WL.callF (vs := [.string x.name]) Try.func54 (by kernel_rfl) rfl rfl rfl (irname_ret x.name (hm6 hc69) (ro := ro) (fun b hb => (hS.snap b hb).1)) ?_
     rintro v w70 ⟨rfl, hbl⟩
     replace hS := hS.grow hbl
     refine WL.assign rfl rfl rfl (WL.nil (N.seq ?_))
     refine Fin.ret1 rfl (v := .bool true) rfl ?_
     exact ⟨rfl, hS.below⟩
    refine W.skip (N.seq (W.seq (W.region (WL.fieldAddr fo_36_4 rfl rfl rfl (WL.load1 (v := .string x.name) one_9 rfl rfl rfl (hS.cell 0 rfl rfl) (WL.eqStr rfl rfl rfl rfl ?_))))))
    refine WL.set 90 (v' := .bool true) rfl (congrArg Value.bool (show (decide (x.name = ⟨#[]⟩)) = true from decide_eq_true (hm7 hc69))) ?_
    refine WL.assign rfl rfl rfl (WL.nil (N.seq ?_))
    refine Fin.ret1 rfl (v := .bool true) rfl ?_
    exact ⟨rfl, hS.below⟩
   have hg55p : ¬ (x.op = 16) := by simpa using hg55
   refine WL.fieldAddr fo_36_1 rfl rfl rfl (WL.load1 (v := .int .i64 x.a) one_3 rfl rfl rfl (hS.cell 0 rfl rfl) (WL.bin rfl rfl rfl rfl rfl ?_))
   refine WL.set 47 (v' := .bool false) rfl (by rw [decide_eq_true (hm2 (by omega))]; rfl) ?_
   refine WL.pick (v := .bool false) rfl rfl rfl rfl rfl rfl (WL.move rfl rfl rfl (WL.move rfl rfl rfl (WL.not rfl rfl rfl ?_)))
   refine WL.set 51 (v' := .bool true) rfl rfl ?_
   refine WL.move rfl rfl rfl (WL.fieldAddr fo_36_2 rfl rfl rfl (WL.load1 (v := .int .i64 x.b) one_3 rfl rfl rfl (hS.cell 0 rfl rfl) (WL.bin rfl rfl rfl rfl rfl ?_)))
   refine WL.set 55 (v' := .bool false) rfl (by rw [decide_eq_true (hm3 (by omega))]; rfl) ?_
   refine WL.pick (v := .bool false) rfl rfl rfl rfl rfl rfl (WL.pick (v := .bool false) rfl rfl rfl rfl rfl rfl (WL.assign rfl rfl rfl (WL.nil (N.seq (W.condF rfl (W.seq (W.region (WL.fieldAddr fo_36_0 rfl rfl rfl (WL.load1 (v := .int .i64 x.op) one_3 rfl rfl rfl (hS.cell 0 rfl rfl) ?_)))))))))
   refine WL.bin rfl rfl rfl rfl rfl (WL.move rfl rfl rfl ?_)
   cases hg71 : (!decide (x.op = 1))
   ·
    have hg71p : x.op = 1 := by simpa using hg71
    refine WL.skp rfl rfl (WL.skp rfl rfl (WL.skp rfl rfl (WL.pick (v := .bool false) rfl rfl rfl rfl rfl rfl (WL.assign rfl rfl rfl (WL.nil (N.seq (W.condF rfl (W.seq (W.region ?_)))))))))
    refine WL.fieldAddr fo_36_0 rfl rfl rfl (WL.load1 (v := .int .i64 x.op) one_3 rfl rfl rfl (hS.cell 0 rfl rfl) (WL.bin rfl rfl rfl rfl rfl (WL.move rfl rfl rfl ?_)))
    cases hg72 : (!decide (x.op = 14))
    ·
     have hg72p : x.op = 14 := by simpa using hg72
     refine WL.skp rfl rfl (WL.skp rfl rfl (WL.skp rfl rfl (WL.skp rfl rfl (WL.pick (v := .bool false) rfl rfl rfl rfl rfl rfl (WL.move rfl rfl rfl (WL.fieldAddr fo_36_5 rfl rfl rfl (WL.load1 (v := .slice adx x.args.length capx) one_28 rfl rfl rfl (hS.cell 0 rfl rfl) (WL.lenSlice Try.underlying28 rfl rfl rfl (WL.bin rfl rfl rfl rfl rfl ?_)))))))))
     refine WL.set 81 (v' := .bool false) rfl (congrArg Value.bool (show (decide (6 < (x.args.length : Int))) = false from decide_eq_false (by omega))) ?_
     refine WL.pick (v := .bool false) rfl rfl rfl rfl rfl rfl (WL.assign rfl rfl rfl (WL.nil (N.seq (W.condF rfl (W.skip (N.blk (N.seq (W.seq (W.seq ?_)))))))))
     refine W.region (WL.loadN (cs := [.int .i64 x.op, .int .i64 x.a, .int .i64 x.b, .int .u64 x.k, .string x.name, .slice adx x.args.length capx]) agg_36 rfl rfl rfl rfl (hS.cells 0 (m := 6) rfl rfl) ?_)
     refine WL.callF (vs := [.agg #[.int .i64 x.op, .int .i64 x.a, .int .i64 x.b, .int .u64 x.k, .string x.name, .slice adx x.args.length capx]]) Try.func68 (by kernel_rfl) rfl rfl rfl (irnamed_ret x _ (ro := ro) (fun b hb => (hS.snap b hb).1) (hQx.keep hS.alike)) ?_
     rintro v w73 ⟨rfl, hbl⟩
     replace hS := hS.grow hbl
     refine WL.nil (N.seq ?_)
     refine W.cond rfl (fun hc74 => ?_) (fun hc74 => ?_)
     ·
      refine W.seq (W.region (WL.fieldAddr fo_36_4 rfl rfl rfl (WL.load1 (v := .string x.name) one_9 rfl rfl rfl (hS.cell 0 rfl rfl) ?_)))
      refine WL.callF (vs := [.string x.name]) Try.func54 (by kernel_rfl) rfl rfl rfl (irname_ret x.name (hm6 hc74) (ro := ro) (fun b hb => (hS.snap b hb).1)) ?_
      rintro v w75 ⟨rfl, hbl⟩
      replace hS := hS.grow hbl
      refine WL.assign rfl rfl rfl (WL.nil (N.seq ?_))
      refine Fin.ret1 rfl (v := .bool true) rfl ?_
      exact ⟨rfl, hS.below⟩
     refine W.skip (N.seq (W.seq (W.region (WL.fieldAddr fo_36_4 rfl rfl rfl (WL.load1 (v := .string x.name) one_9 rfl rfl rfl (hS.cell 0 rfl rfl) (WL.eqStr rfl rfl rfl rfl ?_))))))
     refine WL.set 90 (v' := .bool true) rfl (congrArg Value.bool (show (decide (x.name = ⟨#[]⟩)) = true from decide_eq_true (hm7 hc74))) ?_
     refine WL.assign rfl rfl rfl (WL.nil (N.seq ?_))
     refine Fin.ret1 rfl (v := .bool true) rfl ?_
     exact ⟨rfl, hS.below⟩
    have hg72p : ¬ (x.op = 14) := by simpa using hg72
    refine WL.fieldAddr fo_36_5 rfl rfl rfl (WL.load1 (v := .slice adx x.args.length capx) one_28 rfl rfl rfl (hS.cell 0 rfl rfl) (WL.lenSlice Try.underlying28 rfl rfl rfl (WL.bin rfl rfl rfl rfl rfl ?_)))
    refine WL.set 75 (v' := .bool false) rfl (congrArg Value.bool (show (decide (0 < (x.args.length : Int))) = false from decide_eq_false (by have := hm5 (by omega); omega))) ?_
    refine WL.pick (v := .bool false) rfl rfl rfl rfl rfl rfl (WL.move rfl rfl rfl (WL.fieldAddr fo_36_5 rfl rfl rfl (WL.load1 (v := .slice adx x.args.length capx) one_28 rfl rfl rfl (hS.cell 0 rfl rfl) (WL.lenSlice Try.underlying28 rfl rfl rfl (WL.bin rfl rfl rfl rfl rfl ?_)))))
    refine WL.set 81 (v' := .bool false) rfl (congrArg Value.bool (show (decide (6 < (x.args.length : Int))) = false from decide_eq_false (by omega))) ?_
    refine WL.pick (v := .bool false) rfl rfl rfl rfl rfl rfl (WL.assign rfl rfl rfl (WL.nil (N.seq (W.condF rfl (W.skip (N.blk (N.seq (W.seq (W.seq ?_)))))))))
    refine W.region (WL.loadN (cs := [.int .i64 x.op, .int .i64 x.a, .int .i64 x.b, .int .u64 x.k, .string x.name, .slice adx x.args.length capx]) agg_36 rfl rfl rfl rfl (hS.cells 0 (m := 6) rfl rfl) ?_)
    refine WL.callF (vs := [.agg #[.int .i64 x.op, .int .i64 x.a, .int .i64 x.b, .int .u64 x.k, .string x.name, .slice adx x.args.length capx]]) Try.func68 (by kernel_rfl) rfl rfl rfl (irnamed_ret x _ (ro := ro) (fun b hb => (hS.snap b hb).1) (hQx.keep hS.alike)) ?_
    rintro v w76 ⟨rfl, hbl⟩
    replace hS := hS.grow hbl
    refine WL.nil (N.seq ?_)
    refine W.cond rfl (fun hc77 => ?_) (fun hc77 => ?_)
    ·
     refine W.seq (W.region (WL.fieldAddr fo_36_4 rfl rfl rfl (WL.load1 (v := .string x.name) one_9 rfl rfl rfl (hS.cell 0 rfl rfl) ?_)))
     refine WL.callF (vs := [.string x.name]) Try.func54 (by kernel_rfl) rfl rfl rfl (irname_ret x.name (hm6 hc77) (ro := ro) (fun b hb => (hS.snap b hb).1)) ?_
     rintro v w78 ⟨rfl, hbl⟩
     replace hS := hS.grow hbl
     refine WL.assign rfl rfl rfl (WL.nil (N.seq ?_))
     refine Fin.ret1 rfl (v := .bool true) rfl ?_
     exact ⟨rfl, hS.below⟩
    refine W.skip (N.seq (W.seq (W.region (WL.fieldAddr fo_36_4 rfl rfl rfl (WL.load1 (v := .string x.name) one_9 rfl rfl rfl (hS.cell 0 rfl rfl) (WL.eqStr rfl rfl rfl rfl ?_))))))
    refine WL.set 90 (v' := .bool true) rfl (congrArg Value.bool (show (decide (x.name = ⟨#[]⟩)) = true from decide_eq_true (hm7 hc77))) ?_
    refine WL.assign rfl rfl rfl (WL.nil (N.seq ?_))
    refine Fin.ret1 rfl (v := .bool true) rfl ?_
    exact ⟨rfl, hS.below⟩
   have hg71p : ¬ (x.op = 1) := by simpa using hg71
   refine WL.fieldAddr fo_36_3 rfl rfl rfl (WL.load1 (v := .int .u64 x.k) one_34 rfl rfl rfl (hS.cell 0 rfl rfl) (WL.bin rfl rfl rfl rfl rfl ?_))
   refine WL.set 65 (v' := .bool false) rfl (by rw [decide_eq_true (hm4 (by omega))]; rfl) ?_
   refine WL.pick (v := .bool false) rfl rfl rfl rfl rfl rfl (WL.assign rfl rfl rfl (WL.nil (N.seq (W.condF rfl (W.seq (W.region (WL.fieldAddr fo_36_0 rfl rfl rfl (WL.load1 (v := .int .i64 x.op) one_3 rfl rfl rfl (hS.cell 0 rfl rfl) (WL.bin rfl rfl rfl rfl rfl ?_)))))))))
   refine WL.move rfl rfl rfl ?_
   cases hg79 : (!decide (x.op = 14))
   ·
    have hg79p : x.op = 14 := by simpa using hg79
    refine WL.skp rfl rfl (WL.skp rfl rfl (WL.skp rfl rfl (WL.skp rfl rfl (WL.pick (v := .bool false) rfl rfl rfl rfl rfl rfl (WL.move rfl rfl rfl (WL.fieldAddr fo_36_5 rfl rfl rfl (WL.load1 (v := .slice adx x.args.length capx) one_28 rfl rfl rfl (hS.cell 0 rfl rfl) (WL.lenSlice Try.underlying28 rfl rfl rfl (WL.bin rfl rfl rfl rfl rfl ?_)))))))))
    refine WL.set 81 (v' := .bool false) rfl (congrArg Value.bool (show (decide (6 < (x.args.length : Int))) = false from decide_eq_false (by omega))) ?_
    refine WL.pick (v := .bool false) rfl rfl rfl rfl rfl rfl (WL.assign rfl rfl rfl (WL.nil (N.seq (W.condF rfl (W.skip (N.blk (N.seq (W.seq (W.seq ?_)))))))))
    refine W.region (WL.loadN (cs := [.int .i64 x.op, .int .i64 x.a, .int .i64 x.b, .int .u64 x.k, .string x.name, .slice adx x.args.length capx]) agg_36 rfl rfl rfl rfl (hS.cells 0 (m := 6) rfl rfl) ?_)
    refine WL.callF (vs := [.agg #[.int .i64 x.op, .int .i64 x.a, .int .i64 x.b, .int .u64 x.k, .string x.name, .slice adx x.args.length capx]]) Try.func68 (by kernel_rfl) rfl rfl rfl (irnamed_ret x _ (ro := ro) (fun b hb => (hS.snap b hb).1) (hQx.keep hS.alike)) ?_
    rintro v w80 ⟨rfl, hbl⟩
    replace hS := hS.grow hbl
    refine WL.nil (N.seq ?_)
    refine W.cond rfl (fun hc81 => ?_) (fun hc81 => ?_)
    ·
     refine W.seq (W.region (WL.fieldAddr fo_36_4 rfl rfl rfl (WL.load1 (v := .string x.name) one_9 rfl rfl rfl (hS.cell 0 rfl rfl) ?_)))
     refine WL.callF (vs := [.string x.name]) Try.func54 (by kernel_rfl) rfl rfl rfl (irname_ret x.name (hm6 hc81) (ro := ro) (fun b hb => (hS.snap b hb).1)) ?_
     rintro v w82 ⟨rfl, hbl⟩
     replace hS := hS.grow hbl
     refine WL.assign rfl rfl rfl (WL.nil (N.seq ?_))
     refine Fin.ret1 rfl (v := .bool true) rfl ?_
     exact ⟨rfl, hS.below⟩
    refine W.skip (N.seq (W.seq (W.region (WL.fieldAddr fo_36_4 rfl rfl rfl (WL.load1 (v := .string x.name) one_9 rfl rfl rfl (hS.cell 0 rfl rfl) (WL.eqStr rfl rfl rfl rfl ?_))))))
    refine WL.set 90 (v' := .bool true) rfl (congrArg Value.bool (show (decide (x.name = ⟨#[]⟩)) = true from decide_eq_true (hm7 hc81))) ?_
    refine WL.assign rfl rfl rfl (WL.nil (N.seq ?_))
    refine Fin.ret1 rfl (v := .bool true) rfl ?_
    exact ⟨rfl, hS.below⟩
   have hg79p : ¬ (x.op = 14) := by simpa using hg79
   refine WL.fieldAddr fo_36_5 rfl rfl rfl (WL.load1 (v := .slice adx x.args.length capx) one_28 rfl rfl rfl (hS.cell 0 rfl rfl) (WL.lenSlice Try.underlying28 rfl rfl rfl (WL.bin rfl rfl rfl rfl rfl ?_)))
   refine WL.set 75 (v' := .bool false) rfl (congrArg Value.bool (show (decide (0 < (x.args.length : Int))) = false from decide_eq_false (by have := hm5 (by omega); omega))) ?_
   refine WL.pick (v := .bool false) rfl rfl rfl rfl rfl rfl (WL.move rfl rfl rfl (WL.fieldAddr fo_36_5 rfl rfl rfl (WL.load1 (v := .slice adx x.args.length capx) one_28 rfl rfl rfl (hS.cell 0 rfl rfl) (WL.lenSlice Try.underlying28 rfl rfl rfl (WL.bin rfl rfl rfl rfl rfl ?_)))))
   refine WL.set 81 (v' := .bool false) rfl (congrArg Value.bool (show (decide (6 < (x.args.length : Int))) = false from decide_eq_false (by omega))) ?_
   refine WL.pick (v := .bool false) rfl rfl rfl rfl rfl rfl (WL.assign rfl rfl rfl (WL.nil (N.seq (W.condF rfl (W.skip (N.blk (N.seq (W.seq (W.seq ?_)))))))))
   refine W.region (WL.loadN (cs := [.int .i64 x.op, .int .i64 x.a, .int .i64 x.b, .int .u64 x.k, .string x.name, .slice adx x.args.length capx]) agg_36 rfl rfl rfl rfl (hS.cells 0 (m := 6) rfl rfl) ?_)
   refine WL.callF (vs := [.agg #[.int .i64 x.op, .int .i64 x.a, .int .i64 x.b, .int .u64 x.k, .string x.name, .slice adx x.args.length capx]]) Try.func68 (by kernel_rfl) rfl rfl rfl (irnamed_ret x _ (ro := ro) (fun b hb => (hS.snap b hb).1) (hQx.keep hS.alike)) ?_
   rintro v w83 ⟨rfl, hbl⟩
   replace hS := hS.grow hbl
   refine WL.nil (N.seq ?_)
   refine W.cond rfl (fun hc84 => ?_) (fun hc84 => ?_)
   ·
    refine W.seq (W.region (WL.fieldAddr fo_36_4 rfl rfl rfl (WL.load1 (v := .string x.name) one_9 rfl rfl rfl (hS.cell 0 rfl rfl) ?_)))
    refine WL.callF (vs := [.string x.name]) Try.func54 (by kernel_rfl) rfl rfl rfl (irname_ret x.name (hm6 hc84) (ro := ro) (fun b hb => (hS.snap b hb).1)) ?_
    rintro v w85 ⟨rfl, hbl⟩
    replace hS := hS.grow hbl
    refine WL.assign rfl rfl rfl (WL.nil (N.seq ?_))
    refine Fin.ret1 rfl (v := .bool true) rfl ?_
    exact ⟨rfl, hS.below⟩
   refine W.skip (N.seq (W.seq (W.region (WL.fieldAddr fo_36_4 rfl rfl rfl (WL.load1 (v := .string x.name) one_9 rfl rfl rfl (hS.cell 0 rfl rfl) (WL.eqStr rfl rfl rfl rfl ?_))))))
   refine WL.set 90 (v' := .bool true) rfl (congrArg Value.bool (show (decide (x.name = ⟨#[]⟩)) = true from decide_eq_true (hm7 hc84))) ?_
   refine WL.assign rfl rfl rfl (WL.nil (N.seq ?_))
   refine Fin.ret1 rfl (v := .bool true) rfl ?_
   exact ⟨rfl, hS.below⟩
  have hg54p : x.op = 13 := by simpa using hg54
  refine WL.skp rfl rfl (WL.skp rfl rfl (WL.skp rfl rfl (WL.pick (v := .bool true) rfl rfl rfl rfl rfl rfl (WL.assign rfl rfl rfl (WL.nil (N.seq (W.seq (W.block (W.seq ?_)))))))))
  refine W.region (WL.move rfl rfl rfl (WL.not rfl rfl rfl ?_))
  refine WL.set 43 (v' := .bool false) rfl rfl ?_
  refine WL.move rfl rfl rfl (WL.skp rfl rfl (WL.skp rfl rfl (WL.skp rfl rfl (WL.pick (v := .bool false) rfl rfl rfl rfl rfl rfl (WL.move rfl rfl rfl (WL.move rfl rfl rfl (WL.not rfl rfl rfl ?_)))))))
  refine WL.set 51 (v' := .bool true) rfl rfl ?_
  refine WL.move rfl rfl rfl (WL.fieldAddr fo_36_2 rfl rfl rfl (WL.load1 (v := .int .i64 x.b) one_3 rfl rfl rfl (hS.cell 0 rfl rfl) (WL.bin rfl rfl rfl rfl rfl ?_)))
  refine WL.set 55 (v' := .bool false) rfl (by rw [decide_eq_true (hm3 (by omega))]; rfl) ?_
  refine WL.pick (v := .bool false) rfl rfl rfl rfl rfl rfl (WL.pick (v := .bool false) rfl rfl rfl rfl rfl rfl (WL.assign rfl rfl rfl (WL.nil (N.seq (W.condF rfl (W.seq (W.region (WL.fieldAddr fo_36_0 rfl rfl rfl (WL.load1 (v := .int .i64 x.op) one_3 rfl rfl rfl (hS.cell 0 rfl rfl) ?_)))))))))
  refine WL.bin rfl rfl rfl rfl rfl (WL.move rfl rfl rfl ?_)
  cases hg86 : (!decide (x.op = 1))
  ·
   have hg86p : x.op = 1 := by simpa using hg86
   refine WL.skp rfl rfl (WL.skp rfl rfl (WL.skp rfl rfl (WL.pick (v := .bool false) rfl rfl rfl rfl rfl rfl (WL.assign rfl rfl rfl (WL.nil (N.seq (W.condF rfl (W.seq (W.region ?_)))))))))
   refine WL.fieldAddr fo_36_0 rfl rfl rfl (WL.load1 (v := .int .i64 x.op) one_3 rfl rfl rfl (hS.cell 0 rfl rfl) (WL.bin rfl rfl rfl rfl rfl (WL.move rfl rfl rfl ?_)))
   cases hg87 : (!decide (x.op = 14))
   ·
    have hg87p : x.op = 14 := by simpa using hg87
    refine WL.skp rfl rfl (WL.skp rfl rfl (WL.skp rfl rfl (WL.skp rfl rfl (WL.pick (v := .bool false) rfl rfl rfl rfl rfl rfl (WL.move rfl rfl rfl (WL.fieldAddr fo_36_5 rfl rfl rfl (WL.load1 (v := .slice adx x.args.length capx) one_28 rfl rfl rfl (hS.cell 0 rfl rfl) (WL.lenSlice Try.underlying28 rfl rfl rfl (WL.bin rfl rfl rfl rfl rfl ?_)))))))))
    refine WL.set 81 (v' := .bool false) rfl (congrArg Value.bool (show (decide (6 < (x.args.length : Int))) = false from decide_eq_false (by omega))) ?_
    refine WL.pick (v := .bool false) rfl rfl rfl rfl rfl rfl (WL.assign rfl rfl rfl (WL.nil (N.seq (W.condF rfl (W.skip (N.blk (N.seq (W.seq (W.seq ?_)))))))))
    refine W.region (WL.loadN (cs := [.int .i64 x.op, .int .i64 x.a, .int .i64 x.b, .int .u64 x.k, .string x.name, .slice adx x.args.length capx]) agg_36 rfl rfl rfl rfl (hS.cells 0 (m := 6) rfl rfl) ?_)
    refine WL.callF (vs := [.agg #[.int .i64 x.op, .int .i64 x.a, .int .i64 x.b, .int .u64 x.k, .string x.name, .slice adx x.args.length capx]]) Try.func68 (by kernel_rfl) rfl rfl rfl (irnamed_ret x _ (ro := ro) (fun b hb => (hS.snap b hb).1) (hQx.keep hS.alike)) ?_
    rintro v w88 ⟨rfl, hbl⟩
    replace hS := hS.grow hbl
    refine WL.nil (N.seq ?_)
    refine W.cond rfl (fun hc89 => ?_) (fun hc89 => ?_)
    ·
     refine W.seq (W.region (WL.fieldAddr fo_36_4 rfl rfl rfl (WL.load1 (v := .string x.name) one_9 rfl rfl rfl (hS.cell 0 rfl rfl) ?_)))
     refine WL.callF (vs := [.string x.name]) Try.func54 (by kernel_rfl) rfl rfl rfl (irname_ret x.name (hm6 hc89) (ro := ro) (fun b hb => (hS.snap b hb).1)) ?_
     rintro v w90 ⟨rfl, hbl⟩
     replace hS := hS.grow hbl
     refine WL.assign rfl rfl rfl (WL.nil (N.seq ?_))
     refine Fin.ret1 rfl (v := .bool true) rfl ?_
     exact ⟨rfl, hS.below⟩
    refine W.skip (N.seq (W.seq (W.region (WL.fieldAddr fo_36_4 rfl rfl rfl (WL.load1 (v := .string x.name) one_9 rfl rfl rfl (hS.cell 0 rfl rfl) (WL.eqStr rfl rfl rfl rfl ?_))))))
    refine WL.set 90 (v' := .bool true) rfl (congrArg Value.bool (show (decide (x.name = ⟨#[]⟩)) = true from decide_eq_true (hm7 hc89))) ?_
    refine WL.assign rfl rfl rfl (WL.nil (N.seq ?_))
    refine Fin.ret1 rfl (v := .bool true) rfl ?_
    exact ⟨rfl, hS.below⟩
   have hg87p : ¬ (x.op = 14) := by simpa using hg87
   refine WL.fieldAddr fo_36_5 rfl rfl rfl (WL.load1 (v := .slice adx x.args.length capx) one_28 rfl rfl rfl (hS.cell 0 rfl rfl) (WL.lenSlice Try.underlying28 rfl rfl rfl (WL.bin rfl rfl rfl rfl rfl ?_)))
   refine WL.set 75 (v' := .bool false) rfl (congrArg Value.bool (show (decide (0 < (x.args.length : Int))) = false from decide_eq_false (by have := hm5 (by omega); omega))) ?_
   refine WL.pick (v := .bool false) rfl rfl rfl rfl rfl rfl (WL.move rfl rfl rfl (WL.fieldAddr fo_36_5 rfl rfl rfl (WL.load1 (v := .slice adx x.args.length capx) one_28 rfl rfl rfl (hS.cell 0 rfl rfl) (WL.lenSlice Try.underlying28 rfl rfl rfl (WL.bin rfl rfl rfl rfl rfl ?_)))))
   refine WL.set 81 (v' := .bool false) rfl (congrArg Value.bool (show (decide (6 < (x.args.length : Int))) = false from decide_eq_false (by omega))) ?_
   refine WL.pick (v := .bool false) rfl rfl rfl rfl rfl rfl (WL.assign rfl rfl rfl (WL.nil (N.seq (W.condF rfl (W.skip (N.blk (N.seq (W.seq (W.seq ?_)))))))))
   refine W.region (WL.loadN (cs := [.int .i64 x.op, .int .i64 x.a, .int .i64 x.b, .int .u64 x.k, .string x.name, .slice adx x.args.length capx]) agg_36 rfl rfl rfl rfl (hS.cells 0 (m := 6) rfl rfl) ?_)
   refine WL.callF (vs := [.agg #[.int .i64 x.op, .int .i64 x.a, .int .i64 x.b, .int .u64 x.k, .string x.name, .slice adx x.args.length capx]]) Try.func68 (by kernel_rfl) rfl rfl rfl (irnamed_ret x _ (ro := ro) (fun b hb => (hS.snap b hb).1) (hQx.keep hS.alike)) ?_
   rintro v w91 ⟨rfl, hbl⟩
   replace hS := hS.grow hbl
   refine WL.nil (N.seq ?_)
   refine W.cond rfl (fun hc92 => ?_) (fun hc92 => ?_)
   ·
    refine W.seq (W.region (WL.fieldAddr fo_36_4 rfl rfl rfl (WL.load1 (v := .string x.name) one_9 rfl rfl rfl (hS.cell 0 rfl rfl) ?_)))
    refine WL.callF (vs := [.string x.name]) Try.func54 (by kernel_rfl) rfl rfl rfl (irname_ret x.name (hm6 hc92) (ro := ro) (fun b hb => (hS.snap b hb).1)) ?_
    rintro v w93 ⟨rfl, hbl⟩
    replace hS := hS.grow hbl
    refine WL.assign rfl rfl rfl (WL.nil (N.seq ?_))
    refine Fin.ret1 rfl (v := .bool true) rfl ?_
    exact ⟨rfl, hS.below⟩
   refine W.skip (N.seq (W.seq (W.region (WL.fieldAddr fo_36_4 rfl rfl rfl (WL.load1 (v := .string x.name) one_9 rfl rfl rfl (hS.cell 0 rfl rfl) (WL.eqStr rfl rfl rfl rfl ?_))))))
   refine WL.set 90 (v' := .bool true) rfl (congrArg Value.bool (show (decide (x.name = ⟨#[]⟩)) = true from decide_eq_true (hm7 hc92))) ?_
   refine WL.assign rfl rfl rfl (WL.nil (N.seq ?_))
   refine Fin.ret1 rfl (v := .bool true) rfl ?_
   exact ⟨rfl, hS.below⟩
  have hg86p : ¬ (x.op = 1) := by simpa using hg86
  refine WL.fieldAddr fo_36_3 rfl rfl rfl (WL.load1 (v := .int .u64 x.k) one_34 rfl rfl rfl (hS.cell 0 rfl rfl) (WL.bin rfl rfl rfl rfl rfl ?_))
  refine WL.set 65 (v' := .bool false) rfl (by rw [decide_eq_true (hm4 (by omega))]; rfl) ?_
  refine WL.pick (v := .bool false) rfl rfl rfl rfl rfl rfl (WL.assign rfl rfl rfl (WL.nil (N.seq (W.condF rfl (W.seq (W.region (WL.fieldAddr fo_36_0 rfl rfl rfl (WL.load1 (v := .int .i64 x.op) one_3 rfl rfl rfl (hS.cell 0 rfl rfl) (WL.bin rfl rfl rfl rfl rfl ?_)))))))))
  refine WL.move rfl rfl rfl ?_
  cases hg94 : (!decide (x.op = 14))
  ·
   have hg94p : x.op = 14 := by simpa using hg94
   refine WL.skp rfl rfl (WL.skp rfl rfl (WL.skp rfl rfl (WL.skp rfl rfl (WL.pick (v := .bool false) rfl rfl rfl rfl rfl rfl (WL.move rfl rfl rfl (WL.fieldAddr fo_36_5 rfl rfl rfl (WL.load1 (v := .slice adx x.args.length capx) one_28 rfl rfl rfl (hS.cell 0 rfl rfl) (WL.lenSlice Try.underlying28 rfl rfl rfl (WL.bin rfl rfl rfl rfl rfl ?_)))))))))
   refine WL.set 81 (v' := .bool false) rfl (congrArg Value.bool (show (decide (6 < (x.args.length : Int))) = false from decide_eq_false (by omega))) ?_
   refine WL.pick (v := .bool false) rfl rfl rfl rfl rfl rfl (WL.assign rfl rfl rfl (WL.nil (N.seq (W.condF rfl (W.skip (N.blk (N.seq (W.seq (W.seq ?_)))))))))
   refine W.region (WL.loadN (cs := [.int .i64 x.op, .int .i64 x.a, .int .i64 x.b, .int .u64 x.k, .string x.name, .slice adx x.args.length capx]) agg_36 rfl rfl rfl rfl (hS.cells 0 (m := 6) rfl rfl) ?_)
   refine WL.callF (vs := [.agg #[.int .i64 x.op, .int .i64 x.a, .int .i64 x.b, .int .u64 x.k, .string x.name, .slice adx x.args.length capx]]) Try.func68 (by kernel_rfl) rfl rfl rfl (irnamed_ret x _ (ro := ro) (fun b hb => (hS.snap b hb).1) (hQx.keep hS.alike)) ?_
   rintro v w95 ⟨rfl, hbl⟩
   replace hS := hS.grow hbl
   refine WL.nil (N.seq ?_)
   refine W.cond rfl (fun hc96 => ?_) (fun hc96 => ?_)
   ·
    refine W.seq (W.region (WL.fieldAddr fo_36_4 rfl rfl rfl (WL.load1 (v := .string x.name) one_9 rfl rfl rfl (hS.cell 0 rfl rfl) ?_)))
    refine WL.callF (vs := [.string x.name]) Try.func54 (by kernel_rfl) rfl rfl rfl (irname_ret x.name (hm6 hc96) (ro := ro) (fun b hb => (hS.snap b hb).1)) ?_
    rintro v w97 ⟨rfl, hbl⟩
    replace hS := hS.grow hbl
    refine WL.assign rfl rfl rfl (WL.nil (N.seq ?_))
    refine Fin.ret1 rfl (v := .bool true) rfl ?_
    exact ⟨rfl, hS.below⟩
   refine W.skip (N.seq (W.seq (W.region (WL.fieldAddr fo_36_4 rfl rfl rfl (WL.load1 (v := .string x.name) one_9 rfl rfl rfl (hS.cell 0 rfl rfl) (WL.eqStr rfl rfl rfl rfl ?_))))))
   refine WL.set 90 (v' := .bool true) rfl (congrArg Value.bool (show (decide (x.name = ⟨#[]⟩)) = true from decide_eq_true (hm7 hc96))) ?_
   refine WL.assign rfl rfl rfl (WL.nil (N.seq ?_))
   refine Fin.ret1 rfl (v := .bool true) rfl ?_
   exact ⟨rfl, hS.below⟩
  have hg94p : ¬ (x.op = 14) := by simpa using hg94
  refine WL.fieldAddr fo_36_5 rfl rfl rfl (WL.load1 (v := .slice adx x.args.length capx) one_28 rfl rfl rfl (hS.cell 0 rfl rfl) (WL.lenSlice Try.underlying28 rfl rfl rfl (WL.bin rfl rfl rfl rfl rfl ?_)))
  refine WL.set 75 (v' := .bool false) rfl (congrArg Value.bool (show (decide (0 < (x.args.length : Int))) = false from decide_eq_false (by have := hm5 (by omega); omega))) ?_
  refine WL.pick (v := .bool false) rfl rfl rfl rfl rfl rfl (WL.move rfl rfl rfl (WL.fieldAddr fo_36_5 rfl rfl rfl (WL.load1 (v := .slice adx x.args.length capx) one_28 rfl rfl rfl (hS.cell 0 rfl rfl) (WL.lenSlice Try.underlying28 rfl rfl rfl (WL.bin rfl rfl rfl rfl rfl ?_)))))
  refine WL.set 81 (v' := .bool false) rfl (congrArg Value.bool (show (decide (6 < (x.args.length : Int))) = false from decide_eq_false (by omega))) ?_
  refine WL.pick (v := .bool false) rfl rfl rfl rfl rfl rfl (WL.assign rfl rfl rfl (WL.nil (N.seq (W.condF rfl (W.skip (N.blk (N.seq (W.seq (W.seq ?_)))))))))
  refine W.region (WL.loadN (cs := [.int .i64 x.op, .int .i64 x.a, .int .i64 x.b, .int .u64 x.k, .string x.name, .slice adx x.args.length capx]) agg_36 rfl rfl rfl rfl (hS.cells 0 (m := 6) rfl rfl) ?_)
  refine WL.callF (vs := [.agg #[.int .i64 x.op, .int .i64 x.a, .int .i64 x.b, .int .u64 x.k, .string x.name, .slice adx x.args.length capx]]) Try.func68 (by kernel_rfl) rfl rfl rfl (irnamed_ret x _ (ro := ro) (fun b hb => (hS.snap b hb).1) (hQx.keep hS.alike)) ?_
  rintro v w98 ⟨rfl, hbl⟩
  replace hS := hS.grow hbl
  refine WL.nil (N.seq ?_)
  refine W.cond rfl (fun hc99 => ?_) (fun hc99 => ?_)
  ·
   refine W.seq (W.region (WL.fieldAddr fo_36_4 rfl rfl rfl (WL.load1 (v := .string x.name) one_9 rfl rfl rfl (hS.cell 0 rfl rfl) ?_)))
   refine WL.callF (vs := [.string x.name]) Try.func54 (by kernel_rfl) rfl rfl rfl (irname_ret x.name (hm6 hc99) (ro := ro) (fun b hb => (hS.snap b hb).1)) ?_
   rintro v w100 ⟨rfl, hbl⟩
   replace hS := hS.grow hbl
   refine WL.assign rfl rfl rfl (WL.nil (N.seq ?_))
   refine Fin.ret1 rfl (v := .bool true) rfl ?_
   exact ⟨rfl, hS.below⟩
  refine W.skip (N.seq (W.seq (W.region (WL.fieldAddr fo_36_4 rfl rfl rfl (WL.load1 (v := .string x.name) one_9 rfl rfl rfl (hS.cell 0 rfl rfl) (WL.eqStr rfl rfl rfl rfl ?_))))))
  refine WL.set 90 (v' := .bool true) rfl (congrArg Value.bool (show (decide (x.name = ⟨#[]⟩)) = true from decide_eq_true (hm7 hc99))) ?_
  refine WL.assign rfl rfl rfl (WL.nil (N.seq ?_))
  refine Fin.ret1 rfl (v := .bool true) rfl ?_
  exact ⟨rfl, hS.below⟩
 have hg53p : x.op ≤ 11 := by simpa using hg53
 refine WL.skp rfl rfl (WL.skp rfl rfl (WL.skp rfl rfl (WL.pick (v := .bool true) rfl rfl rfl rfl rfl rfl (WL.move rfl rfl rfl (WL.skp rfl rfl (WL.skp rfl rfl (WL.skp rfl rfl (WL.pick (v := .bool true) rfl rfl rfl rfl rfl rfl (WL.assign rfl rfl rfl ?_)))))))))
 refine WL.nil (N.seq (W.seq (W.block (W.seq (W.region (WL.move rfl rfl rfl (WL.not rfl rfl rfl ?_)))))))
 refine WL.set 43 (v' := .bool false) rfl rfl ?_
 refine WL.move rfl rfl rfl (WL.skp rfl rfl (WL.skp rfl rfl (WL.skp rfl rfl (WL.pick (v := .bool false) rfl rfl rfl rfl rfl rfl (WL.move rfl rfl rfl (WL.move rfl rfl rfl (WL.not rfl rfl rfl ?_)))))))
 refine WL.set 51 (v' := .bool false) rfl rfl ?_
 refine WL.move rfl rfl rfl (WL.skp rfl rfl (WL.skp rfl rfl (WL.skp rfl rfl (WL.pick (v := .bool false) rfl rfl rfl rfl rfl rfl (WL.pick (v := .bool false) rfl rfl rfl rfl rfl rfl (WL.assign rfl rfl rfl (WL.nil (N.seq (W.condF rfl ?_)))))))))
 refine W.seq (W.region (WL.fieldAddr fo_36_0 rfl rfl rfl (WL.load1 (v := .int .i64 x.op) one_3 rfl rfl rfl (hS.cell 0 rfl rfl) (WL.bin rfl rfl rfl rfl rfl (WL.move rfl rfl rfl ?_)))))
 cases hg101 : (!decide (x.op = 1))
 ·
  have hg101p : x.op = 1 := by simpa using hg101
  refine WL.skp rfl rfl (WL.skp rfl rfl (WL.skp rfl rfl (WL.pick (v := .bool false) rfl rfl rfl rfl rfl rfl (WL.assign rfl rfl rfl (WL.nil (N.seq (W.condF rfl (W.seq (W.region ?_)))))))))
  refine WL.fieldAddr fo_36_0 rfl rfl rfl (WL.load1 (v := .int .i64 x.op) one_3 rfl rfl rfl (hS.cell 0 rfl rfl) (WL.bin rfl rfl rfl rfl rfl (WL.move rfl rfl rfl ?_)))
  cases hg102 : (!decide (x.op = 14))
  ·
   have hg102p : x.op = 14 := by simpa using hg102
   refine WL.skp rfl rfl (WL.skp rfl rfl (WL.skp rfl rfl (WL.skp rfl rfl (WL.pick (v := .bool false) rfl rfl rfl rfl rfl rfl (WL.move rfl rfl rfl (WL.fieldAddr fo_36_5 rfl rfl rfl (WL.load1 (v := .slice adx x.args.length capx) one_28 rfl rfl rfl (hS.cell 0 rfl rfl) (WL.lenSlice Try.underlying28 rfl rfl rfl (WL.bin rfl rfl rfl rfl rfl ?_)))))))))
   refine WL.set 81 (v' := .bool false) rfl (congrArg Value.bool (show (decide (6 < (x.args.length : Int))) = false from decide_eq_false (by omega))) ?_
   refine WL.pick (v := .bool false) rfl rfl rfl rfl rfl rfl (WL.assign rfl rfl rfl (WL.nil (N.seq (W.condF rfl (W.skip (N.blk (N.seq (W.seq (W.seq ?_)))))))))
   refine W.region (WL.loadN (cs := [.int .i64 x.op, .int .i64 x.a, .int .i64 x.b, .int .u64 x.k, .string x.name, .slice adx x.args.length capx]) agg_36 rfl rfl rfl rfl (hS.cells 0 (m := 6) rfl rfl) ?_)
   refine WL.callF (vs := [.agg #[.int .i64 x.op, .int .i64 x.a, .int .i64 x.b, .int .u64 x.k, .string x.name, .slice adx x.args.length capx]]) Try.func68 (by kernel_rfl) rfl rfl rfl (irnamed_ret x _ (ro := ro) (fun b hb => (hS.snap b hb).1) (hQx.keep hS.alike)) ?_
   rintro v w103 ⟨rfl, hbl⟩
   replace hS := hS.grow hbl
   refine WL.nil (N.seq ?_)
   refine W.cond rfl (fun hc104 => ?_) (fun hc104 => ?_)
   ·
    refine W.seq (W.region (WL.fieldAddr fo_36_4 rfl rfl rfl (WL.load1 (v := .string x.name) one_9 rfl rfl rfl (hS.cell 0 rfl rfl) ?_)))
    refine WL.callF (vs := [.string x.name]) Try.func54 (by kernel_rfl) rfl rfl rfl (irname_ret x.name (hm6 hc104) (ro := ro) (fun b hb => (hS.snap b hb).1)) ?_
    rintro v w105 ⟨rfl, hbl⟩
    replace hS := hS.grow hbl
    refine WL.assign rfl rfl rfl (WL.nil (N.seq ?_))
    refine Fin.ret1 rfl (v := .bool true) rfl ?_
    exact ⟨rfl, hS.below⟩
   refine W.skip (N.seq (W.seq (W.region (WL.fieldAddr fo_36_4 rfl rfl rfl (WL.load1 (v := .string x.name) one_9 rfl rfl rfl (hS.cell 0 rfl rfl) (WL.eqStr rfl rfl rfl rfl ?_))))))
   refine WL.set 90 (v' := .bool true) rfl (congrArg Value.bool (show (decide (x.name = ⟨#[]⟩)) = true from decide_eq_true (hm7 hc104))) ?_
   refine WL.assign rfl rfl rfl (WL.nil (N.seq ?_))
   refine Fin.ret1 rfl (v := .bool true) rfl ?_
   exact ⟨rfl, hS.below⟩
  have hg102p : ¬ (x.op = 14) := by simpa using hg102
  refine WL.fieldAddr fo_36_5 rfl rfl rfl (WL.load1 (v := .slice adx x.args.length capx) one_28 rfl rfl rfl (hS.cell 0 rfl rfl) (WL.lenSlice Try.underlying28 rfl rfl rfl (WL.bin rfl rfl rfl rfl rfl ?_)))
  refine WL.set 75 (v' := .bool false) rfl (congrArg Value.bool (show (decide (0 < (x.args.length : Int))) = false from decide_eq_false (by have := hm5 (by omega); omega))) ?_
  refine WL.pick (v := .bool false) rfl rfl rfl rfl rfl rfl (WL.move rfl rfl rfl (WL.fieldAddr fo_36_5 rfl rfl rfl (WL.load1 (v := .slice adx x.args.length capx) one_28 rfl rfl rfl (hS.cell 0 rfl rfl) (WL.lenSlice Try.underlying28 rfl rfl rfl (WL.bin rfl rfl rfl rfl rfl ?_)))))
  refine WL.set 81 (v' := .bool false) rfl (congrArg Value.bool (show (decide (6 < (x.args.length : Int))) = false from decide_eq_false (by omega))) ?_
  refine WL.pick (v := .bool false) rfl rfl rfl rfl rfl rfl (WL.assign rfl rfl rfl (WL.nil (N.seq (W.condF rfl (W.skip (N.blk (N.seq (W.seq (W.seq ?_)))))))))
  refine W.region (WL.loadN (cs := [.int .i64 x.op, .int .i64 x.a, .int .i64 x.b, .int .u64 x.k, .string x.name, .slice adx x.args.length capx]) agg_36 rfl rfl rfl rfl (hS.cells 0 (m := 6) rfl rfl) ?_)
  refine WL.callF (vs := [.agg #[.int .i64 x.op, .int .i64 x.a, .int .i64 x.b, .int .u64 x.k, .string x.name, .slice adx x.args.length capx]]) Try.func68 (by kernel_rfl) rfl rfl rfl (irnamed_ret x _ (ro := ro) (fun b hb => (hS.snap b hb).1) (hQx.keep hS.alike)) ?_
  rintro v w106 ⟨rfl, hbl⟩
  replace hS := hS.grow hbl
  refine WL.nil (N.seq ?_)
  refine W.cond rfl (fun hc107 => ?_) (fun hc107 => ?_)
  ·
   refine W.seq (W.region (WL.fieldAddr fo_36_4 rfl rfl rfl (WL.load1 (v := .string x.name) one_9 rfl rfl rfl (hS.cell 0 rfl rfl) ?_)))
   refine WL.callF (vs := [.string x.name]) Try.func54 (by kernel_rfl) rfl rfl rfl (irname_ret x.name (hm6 hc107) (ro := ro) (fun b hb => (hS.snap b hb).1)) ?_
   rintro v w108 ⟨rfl, hbl⟩
   replace hS := hS.grow hbl
   refine WL.assign rfl rfl rfl (WL.nil (N.seq ?_))
   refine Fin.ret1 rfl (v := .bool true) rfl ?_
   exact ⟨rfl, hS.below⟩
  refine W.skip (N.seq (W.seq (W.region (WL.fieldAddr fo_36_4 rfl rfl rfl (WL.load1 (v := .string x.name) one_9 rfl rfl rfl (hS.cell 0 rfl rfl) (WL.eqStr rfl rfl rfl rfl ?_))))))
  refine WL.set 90 (v' := .bool true) rfl (congrArg Value.bool (show (decide (x.name = ⟨#[]⟩)) = true from decide_eq_true (hm7 hc107))) ?_
  refine WL.assign rfl rfl rfl (WL.nil (N.seq ?_))
  refine Fin.ret1 rfl (v := .bool true) rfl ?_
  exact ⟨rfl, hS.below⟩
 have hg101p : ¬ (x.op = 1) := by simpa using hg101
 refine WL.fieldAddr fo_36_3 rfl rfl rfl (WL.load1 (v := .int .u64 x.k) one_34 rfl rfl rfl (hS.cell 0 rfl rfl) (WL.bin rfl rfl rfl rfl rfl ?_))
 refine WL.set 65 (v' := .bool false) rfl (by rw [decide_eq_true (hm4 (by omega))]; rfl) ?_
 refine WL.pick (v := .bool false) rfl rfl rfl rfl rfl rfl (WL.assign rfl rfl rfl (WL.nil (N.seq (W.condF rfl (W.seq (W.region (WL.fieldAddr fo_36_0 rfl rfl rfl (WL.load1 (v := .int .i64 x.op) one_3 rfl rfl rfl (hS.cell 0 rfl rfl) (WL.bin rfl rfl rfl rfl rfl ?_)))))))))
 refine WL.move rfl rfl rfl ?_
 cases hg109 : (!decide (x.op = 14))
 ·
  have hg109p : x.op = 14 := by simpa using hg109
  refine WL.skp rfl rfl (WL.skp rfl rfl (WL.skp rfl rfl (WL.skp rfl rfl (WL.pick (v := .bool false) rfl rfl rfl rfl rfl rfl (WL.move rfl rfl rfl (WL.fieldAddr fo_36_5 rfl rfl rfl (WL.load1 (v := .slice adx x.args.length capx) one_28 rfl rfl rfl (hS.cell 0 rfl rfl) (WL.lenSlice Try.underlying28 rfl rfl rfl (WL.bin rfl rfl rfl rfl rfl ?_)))))))))
  refine WL.set 81 (v' := .bool false) rfl (congrArg Value.bool (show (decide (6 < (x.args.length : Int))) = false from decide_eq_false (by omega))) ?_
  refine WL.pick (v := .bool false) rfl rfl rfl rfl rfl rfl (WL.assign rfl rfl rfl (WL.nil (N.seq (W.condF rfl (W.skip (N.blk (N.seq (W.seq (W.seq ?_)))))))))
  refine W.region (WL.loadN (cs := [.int .i64 x.op, .int .i64 x.a, .int .i64 x.b, .int .u64 x.k, .string x.name, .slice adx x.args.length capx]) agg_36 rfl rfl rfl rfl (hS.cells 0 (m := 6) rfl rfl) ?_)
  refine WL.callF (vs := [.agg #[.int .i64 x.op, .int .i64 x.a, .int .i64 x.b, .int .u64 x.k, .string x.name, .slice adx x.args.length capx]]) Try.func68 (by kernel_rfl) rfl rfl rfl (irnamed_ret x _ (ro := ro) (fun b hb => (hS.snap b hb).1) (hQx.keep hS.alike)) ?_
  rintro v w110 ⟨rfl, hbl⟩
  replace hS := hS.grow hbl
  refine WL.nil (N.seq ?_)
  refine W.cond rfl (fun hc111 => ?_) (fun hc111 => ?_)
  ·
   refine W.seq (W.region (WL.fieldAddr fo_36_4 rfl rfl rfl (WL.load1 (v := .string x.name) one_9 rfl rfl rfl (hS.cell 0 rfl rfl) ?_)))
   refine WL.callF (vs := [.string x.name]) Try.func54 (by kernel_rfl) rfl rfl rfl (irname_ret x.name (hm6 hc111) (ro := ro) (fun b hb => (hS.snap b hb).1)) ?_
   rintro v w112 ⟨rfl, hbl⟩
   replace hS := hS.grow hbl
   refine WL.assign rfl rfl rfl (WL.nil (N.seq ?_))
   refine Fin.ret1 rfl (v := .bool true) rfl ?_
   exact ⟨rfl, hS.below⟩
  refine W.skip (N.seq (W.seq (W.region (WL.fieldAddr fo_36_4 rfl rfl rfl (WL.load1 (v := .string x.name) one_9 rfl rfl rfl (hS.cell 0 rfl rfl) (WL.eqStr rfl rfl rfl rfl ?_))))))
  refine WL.set 90 (v' := .bool true) rfl (congrArg Value.bool (show (decide (x.name = ⟨#[]⟩)) = true from decide_eq_true (hm7 hc111))) ?_
  refine WL.assign rfl rfl rfl (WL.nil (N.seq ?_))
  refine Fin.ret1 rfl (v := .bool true) rfl ?_
  exact ⟨rfl, hS.below⟩
 have hg109p : ¬ (x.op = 14) := by simpa using hg109
 refine WL.fieldAddr fo_36_5 rfl rfl rfl (WL.load1 (v := .slice adx x.args.length capx) one_28 rfl rfl rfl (hS.cell 0 rfl rfl) (WL.lenSlice Try.underlying28 rfl rfl rfl (WL.bin rfl rfl rfl rfl rfl ?_)))
 refine WL.set 75 (v' := .bool false) rfl (congrArg Value.bool (show (decide (0 < (x.args.length : Int))) = false from decide_eq_false (by have := hm5 (by omega); omega))) ?_
 refine WL.pick (v := .bool false) rfl rfl rfl rfl rfl rfl (WL.move rfl rfl rfl (WL.fieldAddr fo_36_5 rfl rfl rfl (WL.load1 (v := .slice adx x.args.length capx) one_28 rfl rfl rfl (hS.cell 0 rfl rfl) (WL.lenSlice Try.underlying28 rfl rfl rfl (WL.bin rfl rfl rfl rfl rfl ?_)))))
 refine WL.set 81 (v' := .bool false) rfl (congrArg Value.bool (show (decide (6 < (x.args.length : Int))) = false from decide_eq_false (by omega))) ?_
 refine WL.pick (v := .bool false) rfl rfl rfl rfl rfl rfl (WL.assign rfl rfl rfl (WL.nil (N.seq (W.condF rfl (W.skip (N.blk (N.seq (W.seq (W.seq ?_)))))))))
 refine W.region (WL.loadN (cs := [.int .i64 x.op, .int .i64 x.a, .int .i64 x.b, .int .u64 x.k, .string x.name, .slice adx x.args.length capx]) agg_36 rfl rfl rfl rfl (hS.cells 0 (m := 6) rfl rfl) ?_)
 refine WL.callF (vs := [.agg #[.int .i64 x.op, .int .i64 x.a, .int .i64 x.b, .int .u64 x.k, .string x.name, .slice adx x.args.length capx]]) Try.func68 (by kernel_rfl) rfl rfl rfl (irnamed_ret x _ (ro := ro) (fun b hb => (hS.snap b hb).1) (hQx.keep hS.alike)) ?_
 rintro v w113 ⟨rfl, hbl⟩
 replace hS := hS.grow hbl
 refine WL.nil (N.seq ?_)
 refine W.cond rfl (fun hc114 => ?_) (fun hc114 => ?_)
 ·
  refine W.seq (W.region (WL.fieldAddr fo_36_4 rfl rfl rfl (WL.load1 (v := .string x.name) one_9 rfl rfl rfl (hS.cell 0 rfl rfl) ?_)))
  refine WL.callF (vs := [.string x.name]) Try.func54 (by kernel_rfl) rfl rfl rfl (irname_ret x.name (hm6 hc114) (ro := ro) (fun b hb => (hS.snap b hb).1)) ?_
  rintro v w115 ⟨rfl, hbl⟩
  replace hS := hS.grow hbl
  refine WL.assign rfl rfl rfl (WL.nil (N.seq ?_))
  refine Fin.ret1 rfl (v := .bool true) rfl ?_
  exact ⟨rfl, hS.below⟩
 refine W.skip (N.seq (W.seq (W.region (WL.fieldAddr fo_36_4 rfl rfl rfl (WL.load1 (v := .string x.name) one_9 rfl rfl rfl (hS.cell 0 rfl rfl) (WL.eqStr rfl rfl rfl rfl ?_))))))
 refine WL.set 90 (v' := .bool true) rfl (congrArg Value.bool (show (decide (x.name = ⟨#[]⟩)) = true from decide_eq_true (hm7 hc114))) ?_
 refine WL.assign rfl rfl rfl (WL.nil (N.seq ?_))
 refine Fin.ret1 rfl (v := .bool true) rfl ?_
 exact ⟨rfl, hS.below⟩

theorem irgoes_ret (f : DFunc) (cf : List Value) (to : Int) (args : List Int) (va : Value) (n : Int) (bf bn : Nat) {w : World} {ro : Nat → Prop} (hro : ∀ b, ro b → b < w.heap.size) (hx : FuncC ro w cf f) (hbf : ro bf) (hcf : CellsAt w bf 0 cf) (hbn : ro bn) (hcn : CellsAt w bn 0 [.int .i64 n]) (hy : SlV ro w 1 IntC va args) (hg : goes5 f to args n = true) : Ret Try.prog 69 #[.int .i64 to, va, .pointer (some ⟨bf, 0, none⟩), .pointer (some ⟨bn, 0, none⟩)] w fun v w' => v = .bool true ∧ Below w.heap.size w w' := by
 obtain ⟨sb, hcfe, hblx, _, _, _⟩ := id hx
 obtain ⟨adb, capb, rfl, hbka, hbkb, hbkc, hbkd⟩ := id hblx
 have hbkm : f.blocks.length ≤ 9223372036854775807 := by have h1 := hbka; have h2 := hbkb; unfold maxLen at h2; omega
 obtain ⟨ada, capa, rfl, hya, hyb, hyc, hyd⟩ := id hy
 have hym : args.length ≤ 9223372036854775807 := by have h1 := hya; have h2 := hyb; unfold maxLen at h2; omega
 subst hcfe
 refine Ret.enter (P := Try.prog) (n := 32) (args := [.int .i64 to, .slice ada args.length capa, .pointer (some ⟨bf, 0, none⟩), .pointer (some ⟨bn, 0, none⟩)]) (σ := [(0, .int .i64 to), (1, .slice ada args.length capa), (2, .pointer (some ⟨bf, 0, none⟩)), (3, .pointer (some ⟨bn, 0, none⟩))]) Try.func69 rfl rfl rfl rfl ?_
 have hS := St.start (ro := ro) hro
 obtain ⟨hg1, hg2, hg3, hg4⟩ := goes5_more hg
 refine W.seq (W.region (WL.assign rfl rfl rfl (WL.nil (N.seq (W.seq (W.region (WL.move rfl rfl rfl (WL.bin rfl rfl rfl rfl rfl ?_))))))))
 refine WL.set 8 (v' := .bool true) rfl (congrArg Value.bool (show (decide (0 ≤ to)) = true from decide_eq_true (by omega))) ?_
 refine WL.move rfl rfl rfl (WL.move rfl rfl rfl (WL.fieldAddr fo_24_3 rfl rfl rfl (WL.load1 (v := .slice adb f.blocks.length capb) one_22 rfl rfl rfl (hS.roCells hbf hcf 3 _ rfl) (WL.lenSlice Try.underlying22 rfl rfl rfl (WL.bin rfl rfl rfl rfl rfl ?_)))))
 refine WL.set 14 (v' := .bool true) rfl (congrArg Value.bool (show (decide (to < (f.blocks.length : Int))) = true from decide_eq_true (by omega))) ?_
 refine WL.pick (v := .bool true) rfl rfl rfl rfl rfl rfl (WL.move rfl rfl rfl (WL.move rfl rfl rfl (WL.lenSlice Try.underlying28 rfl rfl rfl (WL.fieldAddr fo_24_3 rfl rfl rfl (WL.load1 (v := .slice adb f.blocks.length capb) one_22 rfl rfl rfl (hS.roCells hbf hcf 3 _ rfl) (WL.move rfl rfl rfl ?_))))))
 refine WL.set 21 (v' := .int .i64 (to.toNat : Int)) rfl (by congr 1; omega) ?_
 have hj1 : to.toNat < f.blocks.length := by omega
 obtain ⟨x1, hx1⟩ : ∃ zz, f.blocks[to.toNat]? = some zz := ⟨_, List.getElem?_eq_getElem hj1⟩
 obtain ⟨b1, o1, cs1, hE1, hr1, hl1, hc1, hQ1⟩ := hbkd to.toNat _ hx1
 obtain ⟨si1, tsx1, rfl, hin1, hfin1, hpar1⟩ := id hQ1
 obtain ⟨adi1, capi1, rfl, hin1a, hin1b, hin1c, hin1d⟩ := id hin1
 have hin1m : x1.ins.length ≤ 9223372036854775807 := by have h1 := hin1a; have h2 := hin1b; unfold maxLen at h2; omega
 obtain ⟨sp1, sq1, rfl, ht11, ht21, htk1, hta1, htt1, hte1⟩ := id hfin1
 obtain ⟨adp1, capp1, rfl, htp1a, htp1b, htp1c, htp1d⟩ := id ht11
 have htp1m : x1.fin.args.length ≤ 9223372036854775807 := by have h1 := htp1a; have h2 := htp1b; unfold maxLen at h2; omega
 obtain ⟨adq1, capq1, rfl, htq1a, htq1b, htq1c, htq1d⟩ := id ht21
 have htq1m : x1.fin.elses.length ≤ 9223372036854775807 := by have h1 := htq1a; have h2 := htq1b; unfold maxLen at h2; omega
 refine WL.indexAddrE (j := to.toNat) Try.underlying22 isz_32 rfl rfl rfl rfl hj1 hE1 (WL.fieldAddr fo_32_0 rfl rfl rfl (WL.load1 (v := .int .i64 x1.params) one_3 rfl rfl rfl (hS.roCells hr1 hc1 0 _ rfl) (WL.bin rfl rfl rfl rfl rfl ?_)))
 refine WL.set 25 (v' := .bool true) rfl (congrArg Value.bool (show (decide ((args.length : Int) = x1.params)) = true from decide_eq_true (hg4 _ hx1))) ?_
 refine WL.pick (v := .bool true) rfl rfl rfl rfl rfl rfl (WL.move rfl rfl rfl (WL.move rfl rfl rfl (WL.load1 (v := .int .i64 n) one_3 rfl rfl rfl (hS.roCells hbn hcn 0 _ rfl) ?_)))
 refine WL.callF (vs := [.slice ada args.length capa, .int .i64 n]) Try.func67 (by kernel_rfl) rfl rfl rfl (irall_ret args _ n (ro := ro) (fun b hb => (hS.snap b hb).1) (SlV.keep hy hS.alike (fun _ _ q => q)) hg3) ?_
 rintro v w2 ⟨rfl, hbl⟩
 replace hS := hS.grow hbl
 refine WL.pick (v := .bool true) rfl rfl rfl rfl rfl rfl (WL.assign rfl rfl rfl (WL.nil (N.seq ?_)))
 refine Fin.ret1 rfl (v := .bool true) rfl ?_
 exact ⟨rfl, hS.below⟩

set_option maxHeartbeats 2000000 in
theorem irend_ret (f : DFunc) (cf : List Value) (b : DBlock) (cb : List Value) {w : World} {ro : Nat → Prop} (hro : ∀ b, ro b → b < w.heap.size) (hx : FuncC ro w cf f) (hb : BlockC ro w cb b) (hp : 0 ≤ b.params ∧ b.params ≤ 1000) (hl : b.ins.length ≤ 1000) (h5 : term5 f b.fin (b.params + b.ins.length) = true) : Ret Try.prog 65 #[.agg cf.toArray, .agg cb.toArray] w fun v w' => v = .bool true ∧ Below w.heap.size w w' := by
 obtain ⟨sbF, rfl, hblF, hnmF, hbdF, hprF⟩ := id hx
 obtain ⟨adbF, capbF, rfl, hbkFa, hbkFb, hbkFc, hbkFd⟩ := id hblF
 have hbkFm : f.blocks.length ≤ 9223372036854775807 := by have h1 := hbkFa; have h2 := hbkFb; unfold maxLen at h2; omega
 obtain ⟨si, tsx, rfl, hin, hfin, hpar⟩ := id hb
 obtain ⟨adi, capi, rfl, hina, hinb, hinc, hind⟩ := id hin
 have hinm : b.ins.length ≤ 9223372036854775807 := by have h1 := hina; have h2 := hinb; unfold maxLen at h2; omega
 obtain ⟨sp, sq, rfl, ht1, ht2, htk, hta, htt, hte⟩ := id hfin
 obtain ⟨adp, capp, rfl, htpa, htpb, htpc, htpd⟩ := id ht1
 have htpm : b.fin.args.length ≤ 9223372036854775807 := by have h1 := htpa; have h2 := htpb; unfold maxLen at h2; omega
 obtain ⟨adq, capq, rfl, htqa, htqb, htqc, htqd⟩ := id ht2
 have htqm : b.fin.elses.length ≤ 9223372036854775807 := by have h1 := htqa; have h2 := htqb; unfold maxLen at h2; omega
 refine Ret.enter (P := Try.prog) (n := 85) (args := [.agg #[.string f.name, .int .i64 f.bind, .int .i64 f.params, .slice adbF f.blocks.length capbF], .agg #[.int .i64 b.params, .slice adi b.ins.length capi, .int .i64 b.fin.kind, .int .i64 b.fin.a, .int .i64 b.fin.to, .slice adp b.fin.args.length capp, .int .i64 b.fin.els, .slice adq b.fin.elses.length capq]]) (σ := [(0, .agg #[.string f.name, .int .i64 f.bind, .int .i64 f.params, .slice adbF f.blocks.length capbF]), (1, .agg #[.int .i64 b.params, .slice adi b.ins.length capi, .int .i64 b.fin.kind, .int .i64 b.fin.a, .int .i64 b.fin.to, .slice adp b.fin.args.length capp, .int .i64 b.fin.els, .slice adq b.fin.elses.length capq])]) Try.func65 rfl rfl rfl rfl ?_
 have hS := St.start (ro := ro) hro
 obtain ⟨htk1, htk2, htk3, htk4, ht5_, ht6_, ht7_⟩ := term5_more h5; have hN : ((b.params.toNat + b.ins.length : Nat) : Int) = b.params + b.ins.length := by omega
 refine W.seq (W.region ?_)
 refine WL.box (v := .agg #[.string f.name, .int .i64 f.bind, .int .i64 f.params, .slice adbF f.blocks.length capbF]) (cs := [.string f.name, .int .i64 f.bind, .int .i64 f.params, .slice adbF f.blocks.length capbF]) rfl rfl rfl rfl hS ?_
 clear hS; intro w2 b1 hb_b1 hS
 refine WL.box (v := .agg #[.int .i64 b.params, .slice adi b.ins.length capi, .int .i64 b.fin.kind, .int .i64 b.fin.a, .int .i64 b.fin.to, .slice adp b.fin.args.length capp, .int .i64 b.fin.els, .slice adq b.fin.elses.length capq]) (cs := [.int .i64 b.params, .slice adi b.ins.length capi, .int .i64 b.fin.kind, .int .i64 b.fin.a, .int .i64 b.fin.to, .slice adp b.fin.args.length capp, .int .i64 b.fin.els, .slice adq b.fin.elses.length capq]) rfl rfl rfl rfl hS ?_
 clear hS; intro w4 b3 hb_b3 hS
 refine WL.assign rfl rfl rfl (WL.nil (N.seq (W.seq (W.region (WL.loadN (cs := [.int .i64 b.params, .slice adi b.ins.length capi, .int .i64 b.fin.kind, .int .i64 b.fin.a, .int .i64 b.fin.to, .slice adp b.fin.args.length capp, .int .i64 b.fin.els, .slice adq b.fin.elses.length capq]) agg_32 rfl rfl rfl rfl (hS.cells 0 (m := 8) rfl rfl) ?_)))))
 refine WL.callF (vs := [.agg #[.int .i64 b.params, .slice adi b.ins.length capi, .int .i64 b.fin.kind, .int .i64 b.fin.a, .int .i64 b.fin.to, .slice adp b.fin.args.length capp, .int .i64 b.fin.els, .slice adq b.fin.elses.length capq]]) Try.func35 (by kernel_rfl) rfl rfl rfl (ivalues_ret b _ (ro := ro) (fun b hb => (hS.snap b hb).1) (hb.keep hS.alike) hp hl) ?_
 rintro v w5 ⟨rfl, hbl⟩
 replace hS := hS.grow hbl
 refine WL.alloc (tyZero_spec zer_3) rfl rfl hS ?_
 clear hS; intro w7 b6 hb_b6 hS
 refine WL.store (L' := [(b6, .cells #[.int .i64 ((b.params.toNat + b.ins.length : Nat) : Int)] 3 (0, 0)), (b3, .cells #[.int .i64 b.params, .slice adi b.ins.length capi, .int .i64 b.fin.kind, .int .i64 b.fin.a, .int .i64 b.fin.to, .slice adp b.fin.args.length capp, .int .i64 b.fin.els, .slice adq b.fin.elses.length capq] 32 (0, 0)), (b1, .cells #[.string f.name, .int .i64 f.bind, .int .i64 f.params, .slice adbF f.blocks.length capbF] 24 (0, 0))]) 0 rfl rfl rfl rfl siz_3 rfl rfl rfl rfl rfl hS ?_
 clear hS; intro w8 hS
 refine WL.nil (N.seq (W.seq (W.region ?_)))
 refine WL.makeFunc (vs := #[.pointer (some ⟨b1, 0, none⟩), .pointer (some ⟨b6, 0, none⟩)]) rfl rfl rfl ?_
 refine WL.assign rfl rfl rfl (WL.nil (N.seq (W.seq (W.region (WL.fieldAddr fo_32_2 rfl rfl rfl (WL.loadN (cs := [.int .i64 b.fin.kind, .int .i64 b.fin.a, .int .i64 b.fin.to, .slice adp b.fin.args.length capp, .int .i64 b.fin.els, .slice adq b.fin.elses.length capq]) agg_30 rfl rfl rfl rfl (hS.cells 1 (m := 6) rfl rfl) ?_))))))
 refine WL.alloc (tyZero_spec zer_30) rfl rfl hS ?_
 clear hS; intro w10 b9 hb_b9 hS
 refine WL.store (L' := [(b9, .cells #[.int .i64 b.fin.kind, .int .i64 b.fin.a, .int .i64 b.fin.to, .slice adp b.fin.args.length capp, .int .i64 b.fin.els, .slice adq b.fin.elses.length capq] 30 (0, 0)), (b6, .cells #[.int .i64 ((b.params.toNat + b.ins.length : Nat) : Int)] 3 (0, 0)), (b3, .cells #[.int .i64 b.params, .slice adi b.ins.length capi, .int .i64 b.fin.kind, .int .i64 b.fin.a, .int .i64 b.fin.to, .slice adp b.fin.args.length capp, .int .i64 b.fin.els, .slice adq b.fin.elses.length capq] 32 (0, 0)), (b1, .cells #[.string f.name, .int .i64 f.bind, .int .i64 f.params, .slice adbF f.blocks.length capbF] 24 (0, 0))]) 0 rfl rfl rfl rfl siz_30 rfl rfl rfl rfl rfl hS ?_
 clear hS; intro w11 hS
 refine WL.nil (N.seq (W.seq (W.region (WL.fieldAddr fo_30_4 rfl rfl rfl (WL.load1 (v := .int .i64 b.fin.els) one_3 rfl rfl rfl (hS.cell 0 rfl rfl) (WL.bin rfl rfl rfl rfl rfl (WL.move rfl rfl rfl ?_)))))))
 cases hg12 : (decide (b.fin.els = 0))
 ·
  have hg12p : ¬ (b.fin.els = 0) := by simpa using hg12
  refine WL.skp rfl rfl (WL.skp rfl rfl (WL.skp rfl rfl (WL.skp rfl rfl (WL.pick (v := .bool false) rfl rfl rfl rfl rfl rfl (WL.assign rfl rfl rfl (WL.nil (N.seq (W.seq (W.seq ?_)))))))))
  refine W.region (WL.fieldAddr fo_30_0 rfl rfl rfl (WL.load1 (v := .int .i64 b.fin.kind) one_3 rfl rfl rfl (hS.cell 0 rfl rfl) (WL.nil (N.seq (W.block (W.seq (W.region (WL.bin rfl rfl rfl rfl rfl (WL.assign rfl rfl rfl ?_)))))))))
  refine WL.nil (N.seq ?_)
  refine W.cond rfl (fun hc13 => ?_) (fun hc13 => ?_)
  ·
   have hc13p : b.fin.kind = 1 := by simpa using hc13
   refine W.seq (W.region (WL.fieldAddr fo_30_1 rfl rfl rfl (WL.load1 (v := .int .i64 b.fin.a) one_3 rfl rfl rfl (hS.cell 0 rfl rfl) (WL.bin rfl rfl rfl rfl rfl ?_))))
   refine WL.set 29 (v' := .bool true) rfl (congrArg Value.bool (show (decide (b.fin.a = 0)) = true from decide_eq_true (by omega))) ?_
   refine WL.move rfl rfl rfl (WL.move rfl rfl rfl (WL.pick (v := .bool false) rfl rfl rfl rfl rfl rfl (WL.move rfl rfl rfl (WL.skp rfl rfl (WL.skp rfl rfl (WL.skp rfl rfl (WL.skp rfl rfl (WL.skp rfl rfl (WL.skp rfl rfl ?_)))))))))
   refine WL.pick (v := .bool false) rfl rfl rfl rfl rfl rfl (WL.assign rfl rfl rfl (WL.nil (N.seq ?_)))
   refine Fin.ret1 rfl (v := .bool false) rfl ?_
   exfalso; omega
  have hc13p : ¬ (b.fin.kind = 1) := by simpa using hc13
  refine W.seq (W.region (WL.bin rfl rfl rfl rfl rfl (WL.assign rfl rfl rfl (WL.nil (N.seq ?_)))))
  refine W.cond rfl (fun hc14 => ?_) (fun hc14 => ?_)
  ·
   have hc14p : b.fin.kind = 2 := by simpa using hc14
   refine W.seq (W.region (WL.fieldAddr fo_30_1 rfl rfl rfl (WL.load1 (v := .int .i64 b.fin.a) one_3 rfl rfl rfl (hS.cell 0 rfl rfl) ?_)))
   refine WL.buildSlice (ps := [(0, .int .i64 b.fin.a)]) (cs := [.int .i64 b.fin.a]) Try.underlying28 (tyZero_spec zer_3) rfl rfl rfl rfl (by kernel_rfl) hS ?_
   clear hS; intro w16 b15 hb_b15 hS
   refine WL.load1 (v := .int .i64 ((b.params.toNat + b.ins.length : Nat) : Int)) one_3 rfl rfl rfl (hS.cell 2 rfl rfl) ?_
   have hlit : SlV (fun x => x < w16.heap.size) w16 1 IntC (.slice (some ⟨b15, 0, none⟩) 1 1) [b.fin.a] := slv_blk (hS.own _ List.mem_cons_self) rfl (Chunks.nil.snoc (c := [.int .i64 b.fin.a]) rfl ⟨rfl, hta⟩) (hS.keys b15 (by simp [keysOf])).2.1 rfl (by simp [maxLen])
   refine WL.callF (vs := [.slice (some ⟨b15, 0, none⟩) 1 1, .int .i64 ((b.params.toNat + b.ins.length : Nat) : Int)]) Try.func67 (by kernel_rfl) rfl rfl rfl (irall_ret [b.fin.a] _ _ (ro := fun x => x < w16.heap.size) (fun _ h => h) hlit (by rw [hN]; exact ht7_ (by omega))) ?_
   rintro v w17 ⟨rfl, hbl⟩
   replace hS := hS.grow hbl
   refine WL.move rfl rfl rfl (WL.move rfl rfl rfl (WL.fieldAddr fo_30_2 rfl rfl rfl (WL.load1 (v := .int .i64 b.fin.to) one_3 rfl rfl rfl (hS.cell 1 rfl rfl) (WL.fieldAddr fo_30_3 rfl rfl rfl (WL.load1 (v := .slice adp b.fin.args.length capp) one_28 rfl rfl rfl (hS.cell 1 rfl rfl) ?_)))))
   refine WL.callV (vs := [.int .i64 b.fin.to, .slice adp b.fin.args.length capp]) (cs := #[.pointer (some ⟨b1, 0, none⟩), .pointer (some ⟨b6, 0, none⟩)]) Try.func69 (by kernel_rfl) rfl rfl rfl rfl (irgoes_ret f _ b.fin.to b.fin.args _ _ b1 b6 (ro := fun x => x < w17.heap.size) (fun _ h => h) (hx.keep (fun b hb => hS.snap b hb)) (hS.keys b1 (by simp [keysOf])).2.1 (hS.cells 4 (m := 4) rfl rfl) (hS.keys b6 (by simp [keysOf])).2.1 (hS.cells 2 (m := 1) rfl rfl) (SlV.keep ht1 (fun b hb => hS.snap b hb) (fun _ _ q => q)) (by rw [hN]; exact ht5_ (by omega))) ?_
   rintro v w18 ⟨rfl, hbl⟩
   replace hS := hS.grow hbl
   refine WL.pick (v := .bool true) rfl rfl rfl rfl rfl rfl (WL.move rfl rfl rfl (WL.move rfl rfl rfl (WL.fieldAddr fo_30_4 rfl rfl rfl (WL.load1 (v := .int .i64 b.fin.els) one_3 rfl rfl rfl (hS.cell 1 rfl rfl) (WL.fieldAddr fo_30_5 rfl rfl rfl (WL.load1 (v := .slice adq b.fin.elses.length capq) one_28 rfl rfl rfl (hS.cell 1 rfl rfl) ?_))))))
   refine WL.callV (vs := [.int .i64 b.fin.els, .slice adq b.fin.elses.length capq]) (cs := #[.pointer (some ⟨b1, 0, none⟩), .pointer (some ⟨b6, 0, none⟩)]) Try.func69 (by kernel_rfl) rfl rfl rfl rfl (irgoes_ret f _ b.fin.els b.fin.elses _ _ b1 b6 (ro := fun x => x < w18.heap.size) (fun _ h => h) (hx.keep (fun b hb => hS.snap b hb)) (hS.keys b1 (by simp [keysOf])).2.1 (hS.cells 4 (m := 4) rfl rfl) (hS.keys b6 (by simp [keysOf])).2.1 (hS.cells 2 (m := 1) rfl rfl) (SlV.keep ht2 (fun b hb => hS.snap b hb) (fun _ _ q => q)) (by rw [hN]; exact ht6_ (by omega))) ?_
   rintro v w19 ⟨rfl, hbl⟩
   replace hS := hS.grow hbl
   refine WL.pick (v := .bool true) rfl rfl rfl rfl rfl rfl (WL.assign rfl rfl rfl (WL.nil (N.seq ?_)))
   refine Fin.ret1 rfl (v := .bool true) rfl ?_
   exact ⟨rfl, hS.below⟩
  have hc14p : ¬ (b.fin.kind = 2) := by simpa using hc14
  refine W.seq (W.region (WL.bin rfl rfl rfl rfl rfl ?_))
  refine WL.set 65 (v' := .bool true) rfl (congrArg Value.bool (show (decide (b.fin.kind = 3)) = true from decide_eq_true (by omega))) ?_
  refine WL.assign rfl rfl rfl (WL.nil (N.seq (W.condT rfl (W.seq (W.region (WL.fieldAddr fo_30_1 rfl rfl rfl (WL.load1 (v := .int .i64 b.fin.a) one_3 rfl rfl rfl (hS.cell 0 rfl rfl) ?_)))))))
  refine WL.buildSlice (ps := [(0, .int .i64 b.fin.a)]) (cs := [.int .i64 b.fin.a]) Try.underlying28 (tyZero_spec zer_3) rfl rfl rfl rfl (by kernel_rfl) hS ?_
  clear hS; intro w21 b20 hb_b20 hS
  refine WL.load1 (v := .int .i64 ((b.params.toNat + b.ins.length : Nat) : Int)) one_3 rfl rfl rfl (hS.cell 2 rfl rfl) ?_
  have hlit : SlV (fun x => x < w21.heap.size) w21 1 IntC (.slice (some ⟨b20, 0, none⟩) 1 1) [b.fin.a] := slv_blk (hS.own _ List.mem_cons_self) rfl (Chunks.nil.snoc (c := [.int .i64 b.fin.a]) rfl ⟨rfl, hta⟩) (hS.keys b20 (by simp [keysOf])).2.1 rfl (by simp [maxLen])
  refine WL.callF (vs := [.slice (some ⟨b20, 0, none⟩) 1 1, .int .i64 ((b.params.toNat + b.ins.length : Nat) : Int)]) Try.func67 (by kernel_rfl) rfl rfl rfl (irall_ret [b.fin.a] _ _ (ro := fun x => x < w21.heap.size) (fun _ h => h) hlit (by rw [hN]; exact ht7_ (by omega))) ?_
  rintro v w22 ⟨rfl, hbl⟩
  replace hS := hS.grow hbl
  refine WL.move rfl rfl rfl (WL.move rfl rfl rfl (WL.pick (v := .bool false) rfl rfl rfl rfl rfl rfl (WL.move rfl rfl rfl (WL.skp rfl rfl (WL.skp rfl rfl (WL.skp rfl rfl (WL.pick (v := .bool false) rfl rfl rfl rfl rfl rfl (WL.move rfl rfl rfl (WL.skp rfl rfl ?_)))))))))
  refine WL.skp rfl rfl (WL.skp rfl rfl (WL.skp rfl rfl (WL.pick (v := .bool false) rfl rfl rfl rfl rfl rfl (WL.assign rfl rfl rfl (WL.nil (N.seq ?_))))))
  refine Fin.ret1 rfl (v := .bool false) rfl ?_
  exfalso; omega
 have hg12p : b.fin.els = 0 := by simpa using hg12
 refine WL.fieldAddr fo_30_5 rfl rfl rfl (WL.load1 (v := .slice adq b.fin.elses.length capq) one_28 rfl rfl rfl (hS.cell 0 rfl rfl) (WL.lenSlice Try.underlying28 rfl rfl rfl (WL.bin rfl rfl rfl rfl rfl (WL.pick (v := .bool (decide ((b.fin.elses.length : Int) = 0))) rfl rfl rfl rfl rfl rfl (WL.assign rfl rfl rfl (WL.nil (N.seq (W.seq (W.seq ?_)))))))))
 refine W.region (WL.fieldAddr fo_30_0 rfl rfl rfl (WL.load1 (v := .int .i64 b.fin.kind) one_3 rfl rfl rfl (hS.cell 0 rfl rfl) (WL.nil (N.seq (W.block (W.seq (W.region (WL.bin rfl rfl rfl rfl rfl (WL.assign rfl rfl rfl ?_)))))))))
 refine WL.nil (N.seq ?_)
 refine W.cond rfl (fun hc23 => ?_) (fun hc23 => ?_)
 ·
  have hc23p : b.fin.kind = 1 := by simpa using hc23
  refine W.seq (W.region (WL.fieldAddr fo_30_1 rfl rfl rfl (WL.load1 (v := .int .i64 b.fin.a) one_3 rfl rfl rfl (hS.cell 0 rfl rfl) (WL.bin rfl rfl rfl rfl rfl ?_))))
  refine WL.set 29 (v' := .bool true) rfl (congrArg Value.bool (show (decide (b.fin.a = 0)) = true from decide_eq_true (by omega))) ?_
  refine WL.move rfl rfl rfl (WL.move rfl rfl rfl (WL.pick (v := .bool (decide ((b.fin.elses.length : Int) = 0))) rfl rfl rfl rfl rfl rfl (WL.move rfl rfl rfl ?_)))
  cases hg24 : (decide ((b.fin.elses.length : Int) = 0))
  ·
   have hg24p : ¬ ((b.fin.elses.length : Int) = 0) := by simpa using hg24
   refine WL.skp rfl rfl (WL.skp rfl rfl (WL.skp rfl rfl (WL.skp rfl rfl (WL.skp rfl rfl (WL.skp rfl rfl (WL.pick (v := .bool false) rfl rfl rfl rfl rfl rfl (WL.assign rfl rfl rfl (WL.nil (N.seq ?_)))))))))
   refine Fin.ret1 rfl (v := .bool false) rfl ?_
   exfalso; omega
  have hg24p : (b.fin.elses.length : Int) = 0 := by simpa using hg24
  refine WL.move rfl rfl rfl (WL.fieldAddr fo_30_2 rfl rfl rfl (WL.load1 (v := .int .i64 b.fin.to) one_3 rfl rfl rfl (hS.cell 0 rfl rfl) (WL.fieldAddr fo_30_3 rfl rfl rfl (WL.load1 (v := .slice adp b.fin.args.length capp) one_28 rfl rfl rfl (hS.cell 0 rfl rfl) ?_))))
  refine WL.callV (vs := [.int .i64 b.fin.to, .slice adp b.fin.args.length capp]) (cs := #[.pointer (some ⟨b1, 0, none⟩), .pointer (some ⟨b6, 0, none⟩)]) Try.func69 (by kernel_rfl) rfl rfl rfl rfl (irgoes_ret f _ b.fin.to b.fin.args _ _ b1 b6 (ro := fun x => x < w11.heap.size) (fun _ h => h) (hx.keep (fun b hb => hS.snap b hb)) (hS.keys b1 (by simp [keysOf])).2.1 (hS.cells 3 (m := 4) rfl rfl) (hS.keys b6 (by simp [keysOf])).2.1 (hS.cells 1 (m := 1) rfl rfl) (SlV.keep ht1 (fun b hb => hS.snap b hb) (fun _ _ q => q)) (by rw [hN]; exact ht5_ (by omega))) ?_
  rintro v w25 ⟨rfl, hbl⟩
  replace hS := hS.grow hbl
  refine WL.pick (v := .bool true) rfl rfl rfl rfl rfl rfl (WL.assign rfl rfl rfl (WL.nil (N.seq ?_)))
  refine Fin.ret1 rfl (v := .bool true) rfl ?_
  exact ⟨rfl, hS.below⟩
 have hc23p : ¬ (b.fin.kind = 1) := by simpa using hc23
 refine W.seq (W.region (WL.bin rfl rfl rfl rfl rfl (WL.assign rfl rfl rfl (WL.nil (N.seq ?_)))))
 refine W.cond rfl (fun hc26 => ?_) (fun hc26 => ?_)
 ·
  have hc26p : b.fin.kind = 2 := by simpa using hc26
  refine W.seq (W.region (WL.fieldAddr fo_30_1 rfl rfl rfl (WL.load1 (v := .int .i64 b.fin.a) one_3 rfl rfl rfl (hS.cell 0 rfl rfl) ?_)))
  refine WL.buildSlice (ps := [(0, .int .i64 b.fin.a)]) (cs := [.int .i64 b.fin.a]) Try.underlying28 (tyZero_spec zer_3) rfl rfl rfl rfl (by kernel_rfl) hS ?_
  clear hS; intro w28 b27 hb_b27 hS
  refine WL.load1 (v := .int .i64 ((b.params.toNat + b.ins.length : Nat) : Int)) one_3 rfl rfl rfl (hS.cell 2 rfl rfl) ?_
  have hlit : SlV (fun x => x < w28.heap.size) w28 1 IntC (.slice (some ⟨b27, 0, none⟩) 1 1) [b.fin.a] := slv_blk (hS.own _ List.mem_cons_self) rfl (Chunks.nil.snoc (c := [.int .i64 b.fin.a]) rfl ⟨rfl, hta⟩) (hS.keys b27 (by simp [keysOf])).2.1 rfl (by simp [maxLen])
  refine WL.callF (vs := [.slice (some ⟨b27, 0, none⟩) 1 1, .int .i64 ((b.params.toNat + b.ins.length : Nat) : Int)]) Try.func67 (by kernel_rfl) rfl rfl rfl (irall_ret [b.fin.a] _ _ (ro := fun x => x < w28.heap.size) (fun _ h => h) hlit (by rw [hN]; exact ht7_ (by omega))) ?_
  rintro v w29 ⟨rfl, hbl⟩
  replace hS := hS.grow hbl
  refine WL.move rfl rfl rfl (WL.move rfl rfl rfl (WL.fieldAddr fo_30_2 rfl rfl rfl (WL.load1 (v := .int .i64 b.fin.to) one_3 rfl rfl rfl (hS.cell 1 rfl rfl) (WL.fieldAddr fo_30_3 rfl rfl rfl (WL.load1 (v := .slice adp b.fin.args.length capp) one_28 rfl rfl rfl (hS.cell 1 rfl rfl) ?_)))))
  refine WL.callV (vs := [.int .i64 b.fin.to, .slice adp b.fin.args.length capp]) (cs := #[.pointer (some ⟨b1, 0, none⟩), .pointer (some ⟨b6, 0, none⟩)]) Try.func69 (by kernel_rfl) rfl rfl rfl rfl (irgoes_ret f _ b.fin.to b.fin.args _ _ b1 b6 (ro := fun x => x < w29.heap.size) (fun _ h => h) (hx.keep (fun b hb => hS.snap b hb)) (hS.keys b1 (by simp [keysOf])).2.1 (hS.cells 4 (m := 4) rfl rfl) (hS.keys b6 (by simp [keysOf])).2.1 (hS.cells 2 (m := 1) rfl rfl) (SlV.keep ht1 (fun b hb => hS.snap b hb) (fun _ _ q => q)) (by rw [hN]; exact ht5_ (by omega))) ?_
  rintro v w30 ⟨rfl, hbl⟩
  replace hS := hS.grow hbl
  refine WL.pick (v := .bool true) rfl rfl rfl rfl rfl rfl (WL.move rfl rfl rfl (WL.move rfl rfl rfl (WL.fieldAddr fo_30_4 rfl rfl rfl (WL.load1 (v := .int .i64 b.fin.els) one_3 rfl rfl rfl (hS.cell 1 rfl rfl) (WL.fieldAddr fo_30_5 rfl rfl rfl (WL.load1 (v := .slice adq b.fin.elses.length capq) one_28 rfl rfl rfl (hS.cell 1 rfl rfl) ?_))))))
  refine WL.callV (vs := [.int .i64 b.fin.els, .slice adq b.fin.elses.length capq]) (cs := #[.pointer (some ⟨b1, 0, none⟩), .pointer (some ⟨b6, 0, none⟩)]) Try.func69 (by kernel_rfl) rfl rfl rfl rfl (irgoes_ret f _ b.fin.els b.fin.elses _ _ b1 b6 (ro := fun x => x < w30.heap.size) (fun _ h => h) (hx.keep (fun b hb => hS.snap b hb)) (hS.keys b1 (by simp [keysOf])).2.1 (hS.cells 4 (m := 4) rfl rfl) (hS.keys b6 (by simp [keysOf])).2.1 (hS.cells 2 (m := 1) rfl rfl) (SlV.keep ht2 (fun b hb => hS.snap b hb) (fun _ _ q => q)) (by rw [hN]; exact ht6_ (by omega))) ?_
  rintro v w31 ⟨rfl, hbl⟩
  replace hS := hS.grow hbl
  refine WL.pick (v := .bool true) rfl rfl rfl rfl rfl rfl (WL.assign rfl rfl rfl (WL.nil (N.seq ?_)))
  refine Fin.ret1 rfl (v := .bool true) rfl ?_
  exact ⟨rfl, hS.below⟩
 have hc26p : ¬ (b.fin.kind = 2) := by simpa using hc26
 refine W.seq (W.region (WL.bin rfl rfl rfl rfl rfl ?_))
 refine WL.set 65 (v' := .bool true) rfl (congrArg Value.bool (show (decide (b.fin.kind = 3)) = true from decide_eq_true (by omega))) ?_
 refine WL.assign rfl rfl rfl (WL.nil (N.seq (W.condT rfl (W.seq (W.region (WL.fieldAddr fo_30_1 rfl rfl rfl (WL.load1 (v := .int .i64 b.fin.a) one_3 rfl rfl rfl (hS.cell 0 rfl rfl) ?_)))))))
 refine WL.buildSlice (ps := [(0, .int .i64 b.fin.a)]) (cs := [.int .i64 b.fin.a]) Try.underlying28 (tyZero_spec zer_3) rfl rfl rfl rfl (by kernel_rfl) hS ?_
 clear hS; intro w33 b32 hb_b32 hS
 refine WL.load1 (v := .int .i64 ((b.params.toNat + b.ins.length : Nat) : Int)) one_3 rfl rfl rfl (hS.cell 2 rfl rfl) ?_
 have hlit : SlV (fun x => x < w33.heap.size) w33 1 IntC (.slice (some ⟨b32, 0, none⟩) 1 1) [b.fin.a] := slv_blk (hS.own _ List.mem_cons_self) rfl (Chunks.nil.snoc (c := [.int .i64 b.fin.a]) rfl ⟨rfl, hta⟩) (hS.keys b32 (by simp [keysOf])).2.1 rfl (by simp [maxLen])
 refine WL.callF (vs := [.slice (some ⟨b32, 0, none⟩) 1 1, .int .i64 ((b.params.toNat + b.ins.length : Nat) : Int)]) Try.func67 (by kernel_rfl) rfl rfl rfl (irall_ret [b.fin.a] _ _ (ro := fun x => x < w33.heap.size) (fun _ h => h) hlit (by rw [hN]; exact ht7_ (by omega))) ?_
 rintro v w34 ⟨rfl, hbl⟩
 replace hS := hS.grow hbl
 refine WL.move rfl rfl rfl (WL.move rfl rfl rfl (WL.pick (v := .bool (decide ((b.fin.elses.length : Int) = 0))) rfl rfl rfl rfl rfl rfl (WL.move rfl rfl rfl ?_)))
 cases hg35 : (decide ((b.fin.elses.length : Int) = 0))
 ·
  have hg35p : ¬ ((b.fin.elses.length : Int) = 0) := by simpa using hg35
  refine WL.skp rfl rfl (WL.skp rfl rfl (WL.skp rfl rfl (WL.pick (v := .bool false) rfl rfl rfl rfl rfl rfl (WL.move rfl rfl rfl (WL.skp rfl rfl (WL.skp rfl rfl (WL.skp rfl rfl (WL.skp rfl rfl (WL.pick (v := .bool false) rfl rfl rfl rfl rfl rfl ?_)))))))))
  refine WL.assign rfl rfl rfl (WL.nil (N.seq ?_))
  refine Fin.ret1 rfl (v := .bool false) rfl ?_
  exfalso; omega
 have hg35p : (b.fin.elses.length : Int) = 0 := by simpa using hg35
 refine WL.fieldAddr fo_30_2 rfl rfl rfl (WL.load1 (v := .int .i64 b.fin.to) one_3 rfl rfl rfl (hS.cell 1 rfl rfl) (WL.bin rfl rfl rfl rfl rfl ?_))
 refine WL.set 77 (v' := .bool true) rfl (congrArg Value.bool (show (decide (b.fin.to = 0)) = true from decide_eq_true (by omega))) ?_
 refine WL.pick (v := .bool true) rfl rfl rfl rfl rfl rfl (WL.move rfl rfl rfl (WL.fieldAddr fo_30_3 rfl rfl rfl (WL.load1 (v := .slice adp b.fin.args.length capp) one_28 rfl rfl rfl (hS.cell 1 rfl rfl) (WL.lenSlice Try.underlying28 rfl rfl rfl (WL.bin rfl rfl rfl rfl rfl ?_)))))
 refine WL.set 83 (v' := .bool true) rfl (congrArg Value.bool (show (decide ((b.fin.args.length : Int) = 0)) = true from decide_eq_true (by omega))) ?_
 refine WL.pick (v := .bool true) rfl rfl rfl rfl rfl rfl (WL.assign rfl rfl rfl (WL.nil (N.seq ?_)))
 refine Fin.ret1 rfl (v := .bool true) rfl ?_
 exact ⟨rfl, hS.below⟩

theorem irblock_ret (f : DFunc) (cf : List Value) (b : DBlock) (cb : List Value) {w : World} {ro : Nat → Prop} (hro : ∀ b, ro b → b < w.heap.size) (hx : FuncC ro w cf f) (hb : BlockC ro w cb b) (h5 : block5 f b = true) : Ret Try.prog 57 #[.agg cf.toArray, .agg cb.toArray] w fun v w' => v = .bool true ∧ Below w.heap.size w w' := by
 obtain ⟨sbF, rfl, hblF, hnmF, hbdF, hprF⟩ := id hx
 obtain ⟨adbF, capbF, rfl, hbkFa, hbkFb, hbkFc, hbkFd⟩ := id hblF
 have hbkFm : f.blocks.length ≤ 9223372036854775807 := by have h1 := hbkFa; have h2 := hbkFb; unfold maxLen at h2; omega
 obtain ⟨si, tsx, rfl, hin, hfin, hpar⟩ := id hb
 obtain ⟨adi, capi, rfl, hina, hinb, hinc, hind⟩ := id hin
 have hinm : b.ins.length ≤ 9223372036854775807 := by have h1 := hina; have h2 := hinb; unfold maxLen at h2; omega
 obtain ⟨sp, sq, rfl, ht1, ht2, htk, hta, htt, hte⟩ := id hfin
 obtain ⟨adp, capp, rfl, htpa, htpb, htpc, htpd⟩ := id ht1
 have htpm : b.fin.args.length ≤ 9223372036854775807 := by have h1 := htpa; have h2 := htpb; unfold maxLen at h2; omega
 obtain ⟨adq, capq, rfl, htqa, htqb, htqc, htqd⟩ := id ht2
 have htqm : b.fin.elses.length ≤ 9223372036854775807 := by have h1 := htqa; have h2 := htqb; unfold maxLen at h2; omega
 refine Ret.enter (P := Try.prog) (n := 40) (args := [.agg #[.string f.name, .int .i64 f.bind, .int .i64 f.params, .slice adbF f.blocks.length capbF], .agg #[.int .i64 b.params, .slice adi b.ins.length capi, .int .i64 b.fin.kind, .int .i64 b.fin.a, .int .i64 b.fin.to, .slice adp b.fin.args.length capp, .int .i64 b.fin.els, .slice adq b.fin.elses.length capq]]) (σ := [(0, .agg #[.string f.name, .int .i64 f.bind, .int .i64 f.params, .slice adbF f.blocks.length capbF]), (1, .agg #[.int .i64 b.params, .slice adi b.ins.length capi, .int .i64 b.fin.kind, .int .i64 b.fin.a, .int .i64 b.fin.to, .slice adp b.fin.args.length capp, .int .i64 b.fin.els, .slice adq b.fin.elses.length capq])]) Try.func57 rfl rfl rfl rfl ?_
 have hS := St.start (ro := ro) hro
 obtain ⟨hall, hterm⟩ := block5_more h5; obtain ⟨hb1, hb2, hb3⟩ := block5_all h5
 refine W.seq (W.region ?_)
 refine WL.box (v := .agg #[.string f.name, .int .i64 f.bind, .int .i64 f.params, .slice adbF f.blocks.length capbF]) (cs := [.string f.name, .int .i64 f.bind, .int .i64 f.params, .slice adbF f.blocks.length capbF]) rfl rfl rfl rfl hS ?_
 clear hS; intro w2 b1 hb_b1 hS
 refine WL.box (v := .agg #[.int .i64 b.params, .slice adi b.ins.length capi, .int .i64 b.fin.kind, .int .i64 b.fin.a, .int .i64 b.fin.to, .slice adp b.fin.args.length capp, .int .i64 b.fin.els, .slice adq b.fin.elses.length capq]) (cs := [.int .i64 b.params, .slice adi b.ins.length capi, .int .i64 b.fin.kind, .int .i64 b.fin.a, .int .i64 b.fin.to, .slice adp b.fin.args.length capp, .int .i64 b.fin.els, .slice adq b.fin.elses.length capq]) rfl rfl rfl rfl hS ?_
 clear hS; intro w4 b3 hb_b3 hS
 refine WL.assign rfl rfl rfl (WL.nil (N.seq (W.seq (W.seq (W.region (WL.fieldAddr fo_32_0 rfl rfl rfl (WL.load1 (v := .int .i64 b.params) one_3 rfl rfl rfl (hS.cell 0 rfl rfl) (WL.bin rfl rfl rfl rfl rfl ?_))))))))
 refine WL.set 9 (v' := .bool false) rfl (congrArg Value.bool (show (decide (b.params < 0)) = false from decide_eq_false (by omega))) ?_
 refine WL.move rfl rfl rfl (WL.fieldAddr fo_32_0 rfl rfl rfl (WL.load1 (v := .int .i64 b.params) one_3 rfl rfl rfl (hS.cell 0 rfl rfl) (WL.bin rfl rfl rfl rfl rfl ?_)))
 refine WL.set 13 (v' := .bool false) rfl (congrArg Value.bool (show (decide (6 < b.params)) = false from decide_eq_false (by omega))) ?_
 refine WL.pick (v := .bool false) rfl rfl rfl rfl rfl rfl (WL.move rfl rfl rfl (WL.fieldAddr fo_32_1 rfl rfl rfl (WL.load1 (v := .slice adi b.ins.length capi) one_27 rfl rfl rfl (hS.cell 0 rfl rfl) (WL.lenSlice Try.underlying27 rfl rfl rfl (WL.bin rfl rfl rfl rfl rfl ?_)))))
 refine WL.set 19 (v' := .bool false) rfl (congrArg Value.bool (show (decide (32 < (b.ins.length : Int))) = false from decide_eq_false (by omega))) ?_
 refine WL.pick (v := .bool false) rfl rfl rfl rfl rfl rfl (WL.nil (N.seq (W.condF rfl (W.skip (N.seq (W.seq (W.seq (W.region (WL.fieldAddr fo_32_1 rfl rfl rfl ?_)))))))))
 refine WL.load1 (v := .slice adi b.ins.length capi) one_27 rfl rfl rfl (hS.cell 0 rfl rfl) (WL.lenSlice Try.underlying27 rfl rfl rfl (WL.move rfl rfl rfl (WL.nil (N.seq (W.block ?_)))))
 refine W.loop (α := Nat) (fun (k : Nat) => [(2, .pointer (some ⟨b1, 0, none⟩)), (3, .pointer (some ⟨b3, 0, none⟩)), (22, .slice adi b.ins.length capi), (23, .int .i64 (b.ins.length : Int)), (24, .int .i64 (k : Int))]) (fun (k : Nat) u => St w w u ro [(b3, .cells #[.int .i64 b.params, .slice adi b.ins.length capi, .int .i64 b.fin.kind, .int .i64 b.fin.a, .int .i64 b.fin.to, .slice adp b.fin.args.length capp, .int .i64 b.fin.els, .slice adq b.fin.elses.length capq] 32 (0, 0)), (b1, .cells #[.string f.name, .int .i64 f.bind, .int .i64 f.params, .slice adbF f.blocks.length capbF] 24 (0, 0))] [] ∧ k ≤ b.ins.length) (fun (k : Nat) => b.ins.length - k) 0 ⟨rfl, rfl, rfl, rfl, rfl, trivial⟩ ⟨hS, Nat.zero_le _⟩ ?_
 clear hS
 rintro k w5 ⟨hS, hk⟩
 refine W.seq (W.region (WL.bin rfl rfl rfl rfl rfl (WL.nil (N.seq (W.seq ?_)))))
 refine W.cond rfl (fun hc6 => ?_) (fun hc6 => ?_)
 ·
  have hc6p : (k : Int) < (b.ins.length : Int) := by simpa using hc6
  refine W.skip (N.seq (W.seq (W.block (W.seq (W.region (WL.move rfl rfl rfl ?_))))))
  have hj7 : k < b.ins.length := by omega
  obtain ⟨x7, hx7⟩ : ∃ zz, b.ins[k]? = some zz := ⟨_, List.getElem?_eq_getElem hj7⟩
  obtain ⟨b7, o7, cs7, hE7, hr7, hl7, hc7, hQ7⟩ := hind k _ hx7
  have hQk7 := hQ7
  obtain ⟨sv7, rfl, hs7, ho7, ha7, hb7, hk7, hn7⟩ := hQ7
  obtain ⟨ad7, cap7, rfl, hs7a, hs7b, hs7c, hs7d⟩ := id hs7
  have hs7m : x7.args.length ≤ 9223372036854775807 := by have h1 := hs7a; have h2 := hs7b; unfold maxLen at h2; omega
  refine WL.indexAddrE (j := k) Try.underlying27 isz_36 rfl rfl rfl rfl hj7 hE7 (WL.loadN (cs := [.int .i64 x7.op, .int .i64 x7.a, .int .i64 x7.b, .int .u64 x7.k, .string x7.name, .slice ad7 x7.args.length cap7]) agg_36 rfl rfl rfl rfl (hS.roCells hr7 hc7) ?_)
  refine WL.alloc (tyZero_spec zer_36) rfl rfl hS ?_
  clear hS; intro w9 b8 hb_b8 hS
  refine WL.assign rfl rfl rfl ?_
  refine WL.store (L' := [(b8, .cells #[.int .i64 x7.op, .int .i64 x7.a, .int .i64 x7.b, .int .u64 x7.k, .string x7.name, .slice ad7 x7.args.length cap7] 36 (0, 0)), (b3, .cells #[.int .i64 b.params, .slice adi b.ins.length capi, .int .i64 b.fin.kind, .int .i64 b.fin.a, .int .i64 b.fin.to, .slice adp b.fin.args.length capp, .int .i64 b.fin.els, .slice adq b.fin.elses.length capq] 32 (0, 0)), (b1, .cells #[.string f.name, .int .i64 f.bind, .int .i64 f.params, .slice adbF f.blocks.length capbF] 24 (0, 0))]) 0 rfl rfl rfl rfl siz_36 rfl rfl rfl rfl rfl hS ?_
  clear hS; intro w10 hS
  refine WL.nil (N.seq (W.seq (W.region (WL.loadN (cs := [.int .i64 x7.op, .int .i64 x7.a, .int .i64 x7.b, .int .u64 x7.k, .string x7.name, .slice ad7 x7.args.length cap7]) agg_36 rfl rfl rfl rfl (hS.cells 0 (m := 6) rfl rfl) (WL.fieldAddr fo_32_0 rfl rfl rfl (WL.load1 (v := .int .i64 b.params) one_3 rfl rfl rfl (hS.cell 1 rfl rfl) (WL.move rfl rfl rfl ?_)))))))
  refine WL.add (c := b.params + (k : Int)) rfl rfl rfl rfl (rfl) (by omega) ?_
  refine WL.callF (vs := [.agg #[.int .i64 x7.op, .int .i64 x7.a, .int .i64 x7.b, .int .u64 x7.k, .string x7.name, .slice ad7 x7.args.length cap7], .int .i64 (b.params + (k : Int))]) Try.func64 (by kernel_rfl) rfl rfl rfl (irInst_ret x7 _ _ (ro := ro) (fun b hb => (hS.snap b hb).1) (hQk7.keep hS.alike) (allFrom_at b.ins b.params k _ hall hx7)) ?_
  rintro v w11 ⟨rfl, hbl⟩
  replace hS := hS.grow hbl
  refine WL.not rfl rfl rfl ?_
  refine WL.set 35 (v' := .bool false) rfl rfl ?_
  refine WL.nil (N.seq (W.condF rfl (W.skip (N.blk (N.seq (W.region ?_))))))
  refine WL.add (c := (k : Int) + 1) rfl rfl rfl rfl (rfl) (by omega) ?_
  refine WL.move rfl rfl rfl (WL.nil ?_)
  have hS := hS.dropN 1
  exact N.loop (k + 1) ⟨rfl, rfl, rfl, rfl, rfl, trivial⟩ ⟨hS, by omega⟩ (by first | omega | (simp only; omega))
 have hc6p : ¬ ((k : Int) < (b.ins.length : Int)) := by simpa using hc6
 refine W.exit (X.seq (X.loop (X.blk (N.seq (W.seq (W.region (WL.loadN (cs := [.string f.name, .int .i64 f.bind, .int .i64 f.params, .slice adbF f.blocks.length capbF]) agg_24 rfl rfl rfl rfl (hS.cells 1 (m := 4) rfl rfl) (WL.loadN (cs := [.int .i64 b.params, .slice adi b.ins.length capi, .int .i64 b.fin.kind, .int .i64 b.fin.a, .int .i64 b.fin.to, .slice adp b.fin.args.length capp, .int .i64 b.fin.els, .slice adq b.fin.elses.length capq]) agg_32 rfl rfl rfl rfl (hS.cells 0 (m := 8) rfl rfl) ?_))))))))
 refine WL.callF (vs := [.agg #[.string f.name, .int .i64 f.bind, .int .i64 f.params, .slice adbF f.blocks.length capbF], .agg #[.int .i64 b.params, .slice adi b.ins.length capi, .int .i64 b.fin.kind, .int .i64 b.fin.a, .int .i64 b.fin.to, .slice adp b.fin.args.length capp, .int .i64 b.fin.els, .slice adq b.fin.elses.length capq]]) Try.func65 (by kernel_rfl) rfl rfl rfl (irend_ret f _ b _ (ro := ro) (fun b hb => (hS.snap b hb).1) (hx.keep hS.alike) (hb.keep hS.alike) (by omega) (by omega) hterm) ?_
 rintro v w12 ⟨rfl, hbl⟩
 replace hS := hS.grow hbl
 refine WL.assign rfl rfl rfl (WL.nil (N.seq ?_))
 refine Fin.ret1 rfl (v := .bool true) rfl ?_
 exact ⟨rfl, hS.below⟩

theorem irf1_ret (f : DFunc) (cf : List Value) (bf : Nat) {w : World} {ro : Nat → Prop} (hro : ∀ b, ro b → b < w.heap.size) (hx : FuncC ro w cf f) (hbf : ro bf) (hcf : CellsAt w bf 0 cf) (b : DBlock) (cb : List Value) (hb : BlockC ro w cb b) (h5 : block5 f b = true) : Ret Try.prog 56 #[.agg cb.toArray, .pointer (some ⟨bf, 0, none⟩)] w fun v w' => v = .bool false ∧ Below w.heap.size w w' := by
 obtain ⟨sb, hcfe, hblx, _, _, _⟩ := id hx
 obtain ⟨adb, capb, rfl, hbka, hbkb, hbkc, hbkd⟩ := id hblx
 have hbkm : f.blocks.length ≤ 9223372036854775807 := by have h1 := hbka; have h2 := hbkb; unfold maxLen at h2; omega
 subst hcfe
 obtain ⟨si, tsx, rfl, hin, hfin, hpar⟩ := id hb
 obtain ⟨adi, capi, rfl, hina, hinb, hinc, hind⟩ := id hin
 have hinm : b.ins.length ≤ 9223372036854775807 := by have h1 := hina; have h2 := hinb; unfold maxLen at h2; omega
 obtain ⟨sp, sq, rfl, ht1, ht2, htk, hta, htt, hte⟩ := id hfin
 obtain ⟨adp, capp, rfl, htpa, htpb, htpc, htpd⟩ := id ht1
 have htpm : b.fin.args.length ≤ 9223372036854775807 := by have h1 := htpa; have h2 := htpb; unfold maxLen at h2; omega
 obtain ⟨adq, capq, rfl, htqa, htqb, htqc, htqd⟩ := id ht2
 have htqm : b.fin.elses.length ≤ 9223372036854775807 := by have h1 := htqa; have h2 := htqb; unfold maxLen at h2; omega
 refine Ret.enter (P := Try.prog) (n := 8) (args := [.agg #[.int .i64 b.params, .slice adi b.ins.length capi, .int .i64 b.fin.kind, .int .i64 b.fin.a, .int .i64 b.fin.to, .slice adp b.fin.args.length capp, .int .i64 b.fin.els, .slice adq b.fin.elses.length capq], .pointer (some ⟨bf, 0, none⟩)]) (σ := [(0, .agg #[.int .i64 b.params, .slice adi b.ins.length capi, .int .i64 b.fin.kind, .int .i64 b.fin.a, .int .i64 b.fin.to, .slice adp b.fin.args.length capp, .int .i64 b.fin.els, .slice adq b.fin.elses.length capq]), (1, .pointer (some ⟨bf, 0, none⟩))]) Try.func56 rfl rfl rfl rfl ?_
 have hS := St.start (ro := ro) hro
 refine W.seq (W.region ?_)
 refine WL.box (v := .agg #[.int .i64 b.params, .slice adi b.ins.length capi, .int .i64 b.fin.kind, .int .i64 b.fin.a, .int .i64 b.fin.to, .slice adp b.fin.args.length capp, .int .i64 b.fin.els, .slice adq b.fin.elses.length capq]) (cs := [.int .i64 b.params, .slice adi b.ins.length capi, .int .i64 b.fin.kind, .int .i64 b.fin.a, .int .i64 b.fin.to, .slice adp b.fin.args.length capp, .int .i64 b.fin.els, .slice adq b.fin.elses.length capq]) rfl rfl rfl rfl hS ?_
 clear hS; intro w2 b1 hb_b1 hS
 refine WL.assign rfl rfl rfl (WL.nil (N.seq (W.seq (W.region (WL.loadN (cs := [.string f.name, .int .i64 f.bind, .int .i64 f.params, .slice adb f.blocks.length capb]) agg_24 rfl rfl rfl rfl (hS.roCells hbf hcf) (WL.loadN (cs := [.int .i64 b.params, .slice adi b.ins.length capi, .int .i64 b.fin.kind, .int .i64 b.fin.a, .int .i64 b.fin.to, .slice adp b.fin.args.length capp, .int .i64 b.fin.els, .slice adq b.fin.elses.length capq]) agg_32 rfl rfl rfl rfl (hS.cells 0 (m := 8) rfl rfl) ?_))))))
 refine WL.callF (vs := [.agg #[.string f.name, .int .i64 f.bind, .int .i64 f.params, .slice adb f.blocks.length capb], .agg #[.int .i64 b.params, .slice adi b.ins.length capi, .int .i64 b.fin.kind, .int .i64 b.fin.a, .int .i64 b.fin.to, .slice adp b.fin.args.length capp, .int .i64 b.fin.els, .slice adq b.fin.elses.length capq]]) Try.func57 (by kernel_rfl) rfl rfl rfl (irblock_ret f _ b _ (ro := ro) (fun b hb => (hS.snap b hb).1) (hx.keep hS.alike) (hb.keep hS.alike) h5) ?_
 rintro v w3 ⟨rfl, hbl⟩
 replace hS := hS.grow hbl
 refine WL.not rfl rfl rfl ?_
 refine WL.set 7 (v' := .bool false) rfl rfl ?_
 refine WL.assign rfl rfl rfl (WL.nil (N.seq ?_))
 refine Fin.ret1 rfl (v := .bool false) rfl ?_
 exact ⟨rfl, hS.below⟩

theorem irbix_ret (f : DFunc) (adb : Option Addr) (capb : Nat) (bf : Nat) {w : World} {ro : Nat → Prop} (hro : ∀ b, ro b → b < w.heap.size) (hx : FuncC ro w [.string f.name, .int .i64 f.bind, .int .i64 f.params, .slice adb f.blocks.length capb] f) (hbf : ro bf) (hcf : CellsAt w bf 0 [.string f.name, .int .i64 f.bind, .int .i64 f.params, .slice adb f.blocks.length capb]) (hall : ∀ b ∈ f.blocks, block5 f b = true) : Ret Try.prog 63 #[.slice adb f.blocks.length capb, .func (.func 56) #[] #[.pointer (some ⟨bf, 0, none⟩)]] w fun v w' => v = .int .i64 (-1) ∧ Below w.heap.size w w' := by
 have hbkd : Elems ro w 8 (BlockC ro w) adb f.blocks := by obtain ⟨sb, e, hblx, _, _, _⟩ := id hx; cases e; obtain ⟨_, _, e2, _, _, _, h⟩ := hblx; cases e2; exact h
 have hbkm : f.blocks.length ≤ 9223372036854775807 := by obtain ⟨sb, e, hblx, _, _, _⟩ := id hx; cases e; obtain ⟨_, _, e2, h1, h2, _, _⟩ := hblx; cases e2; unfold maxLen at h2; omega
 refine Ret.enter (P := Try.prog) (n := 19) (args := [.slice adb f.blocks.length capb, .func (.func 56) #[] #[.pointer (some ⟨bf, 0, none⟩)]]) (σ := [(0, .slice adb f.blocks.length capb), (1, .func (.func 56) #[] #[.pointer (some ⟨bf, 0, none⟩)])]) Try.func63 rfl rfl rfl rfl ?_
 have hS := St.start (ro := ro) hro
 refine W.seq (W.region (WL.assign rfl rfl rfl (WL.nil (N.seq (W.seq (W.seq (W.region (WL.move rfl rfl rfl (WL.lenSlice Try.underlying22 rfl rfl rfl ?_)))))))))
 refine WL.move rfl rfl rfl (WL.nil (N.seq (W.block ?_)))
 refine W.loop (α := Nat) (fun (k : Nat) => [(0, .slice adb f.blocks.length capb), (1, .func (.func 56) #[] #[.pointer (some ⟨bf, 0, none⟩)]), (7, .int .i64 (f.blocks.length : Int)), (8, .int .i64 (k : Int))]) (fun (k : Nat) u => St w w u ro [] [] ∧ k ≤ f.blocks.length) (fun (k : Nat) => f.blocks.length - k) 0 ⟨rfl, rfl, rfl, rfl, trivial⟩ ⟨hS, Nat.zero_le _⟩ ?_
 clear hS
 rintro k w1 ⟨hS, hk⟩
 refine W.seq (W.region (WL.bin rfl rfl rfl rfl rfl (WL.nil (N.seq (W.seq ?_)))))
 refine W.cond rfl (fun hc2 => ?_) (fun hc2 => ?_)
 ·
  have hc2p : (k : Int) < (f.blocks.length : Int) := by simpa using hc2
  refine W.skip (N.seq (W.seq (W.block (W.seq (W.region (WL.move rfl rfl rfl (WL.assign rfl rfl rfl (WL.nil (N.seq ?_)))))))))
  refine W.seq (W.region (WL.move rfl rfl rfl (WL.move rfl rfl rfl (WL.move rfl rfl rfl ?_))))
  have hj3 : k < f.blocks.length := by omega
  obtain ⟨x3, hx3⟩ : ∃ zz, f.blocks[k]? = some zz := ⟨_, List.getElem?_eq_getElem hj3⟩
  obtain ⟨b3, o3, cs3, hE3, hr3, hl3, hc3, hQ3⟩ := hbkd k _ hx3
  obtain ⟨si3, tsx3, rfl, hin3, hfin3, hpar3⟩ := id hQ3
  obtain ⟨adi3, capi3, rfl, hin3a, hin3b, hin3c, hin3d⟩ := id hin3
  have hin3m : x3.ins.length ≤ 9223372036854775807 := by have h1 := hin3a; have h2 := hin3b; unfold maxLen at h2; omega
  obtain ⟨sp3, sq3, rfl, ht13, ht23, htk3, hta3, htt3, hte3⟩ := id hfin3
  obtain ⟨adp3, capp3, rfl, htp3a, htp3b, htp3c, htp3d⟩ := id ht13
  have htp3m : x3.fin.args.length ≤ 9223372036854775807 := by have h1 := htp3a; have h2 := htp3b; unfold maxLen at h2; omega
  obtain ⟨adq3, capq3, rfl, htq3a, htq3b, htq3c, htq3d⟩ := id ht23
  have htq3m : x3.fin.elses.length ≤ 9223372036854775807 := by have h1 := htq3a; have h2 := htq3b; unfold maxLen at h2; omega
  refine WL.indexAddrE (j := k) Try.underlying22 isz_32 rfl rfl rfl rfl hj3 hE3 (WL.loadN (cs := [.int .i64 x3.params, .slice adi3 x3.ins.length capi3, .int .i64 x3.fin.kind, .int .i64 x3.fin.a, .int .i64 x3.fin.to, .slice adp3 x3.fin.args.length capp3, .int .i64 x3.fin.els, .slice adq3 x3.fin.elses.length capq3]) agg_32 rfl rfl rfl rfl (hS.roCells hr3 hc3) ?_)
  refine WL.callV (vs := [.agg #[.int .i64 x3.params, .slice adi3 x3.ins.length capi3, .int .i64 x3.fin.kind, .int .i64 x3.fin.a, .int .i64 x3.fin.to, .slice adp3 x3.fin.args.length capp3, .int .i64 x3.fin.els, .slice adq3 x3.fin.elses.length capq3]]) (cs := #[.pointer (some ⟨bf, 0, none⟩)]) Try.func56 (by kernel_rfl) rfl rfl rfl rfl (irf1_ret f _ bf (ro := ro) (fun b hb => (hS.snap b hb).1) (hx.keep hS.alike) hbf (hcf.keep (hS.snap _ hbf).2) x3 _ (hQ3.keep hS.alike) (hall _ (List.mem_of_getElem? hx3))) ?_
  rintro v w4 ⟨rfl, hbl⟩
  replace hS := hS.grow hbl
  refine WL.nil (N.seq (W.condF rfl (W.skip (N.blk (N.seq (W.region ?_))))))
  refine WL.add (c := (k : Int) + 1) rfl rfl rfl rfl (rfl) (by omega) ?_
  refine WL.move rfl rfl rfl (WL.nil ?_)
  exact N.loop (k + 1) ⟨rfl, rfl, rfl, rfl, trivial⟩ ⟨hS, by omega⟩ (by first | omega | (simp only; omega))
 have hc2p : ¬ ((k : Int) < (f.blocks.length : Int)) := by simpa using hc2
 refine W.exit (X.seq (X.loop (X.blk (N.seq (W.seq (W.region (WL.assign rfl rfl rfl (WL.nil (N.seq ?_)))))))))
 refine Fin.ret1 rfl (v := .int .i64 (-1)) rfl ?_
 exact ⟨rfl, hS.below⟩

theorem irbco_ret (f : DFunc) (adb : Option Addr) (capb : Nat) (bf : Nat) {w : World} {ro : Nat → Prop} (hro : ∀ b, ro b → b < w.heap.size) (hx : FuncC ro w [.string f.name, .int .i64 f.bind, .int .i64 f.params, .slice adb f.blocks.length capb] f) (hbf : ro bf) (hcf : CellsAt w bf 0 [.string f.name, .int .i64 f.bind, .int .i64 f.params, .slice adb f.blocks.length capb]) (hall : ∀ b ∈ f.blocks, block5 f b = true) : Ret Try.prog 55 #[.slice adb f.blocks.length capb, .func (.func 56) #[] #[.pointer (some ⟨bf, 0, none⟩)]] w fun v w' => v = .bool false ∧ Below w.heap.size w w' := by
 have hbkd : Elems ro w 8 (BlockC ro w) adb f.blocks := by obtain ⟨sb, e, hblx, _, _, _⟩ := id hx; cases e; obtain ⟨_, _, e2, _, _, _, h⟩ := hblx; cases e2; exact h
 have hbkm : f.blocks.length ≤ 9223372036854775807 := by obtain ⟨sb, e, hblx, _, _, _⟩ := id hx; cases e; obtain ⟨_, _, e2, h1, h2, _, _⟩ := hblx; cases e2; unfold maxLen at h2; omega
 refine Ret.enter (P := Try.prog) (n := 9) (args := [.slice adb f.blocks.length capb, .func (.func 56) #[] #[.pointer (some ⟨bf, 0, none⟩)]]) (σ := [(0, .slice adb f.blocks.length capb), (1, .func (.func 56) #[] #[.pointer (some ⟨bf, 0, none⟩)])]) Try.func55 rfl rfl rfl rfl ?_
 have hS := St.start (ro := ro) hro
 refine W.seq (W.region (WL.assign rfl rfl rfl (WL.nil (N.seq (W.seq (W.region (WL.move rfl rfl rfl (WL.move rfl rfl rfl ?_))))))))
 refine WL.callF (vs := [.slice adb f.blocks.length capb, .func (.func 56) #[] #[.pointer (some ⟨bf, 0, none⟩)]]) Try.func63 (by kernel_rfl) rfl rfl rfl (irbix_ret f adb capb bf (ro := ro) (fun b hb => (hS.snap b hb).1) (hx.keep hS.alike) hbf (hcf.keep (hS.snap _ hbf).2) hall) ?_
 rintro v w1 ⟨rfl, hbl⟩
 replace hS := hS.grow hbl
 refine WL.bin rfl rfl rfl rfl rfl ?_
 refine WL.set 8 (v' := .bool false) rfl rfl ?_
 refine WL.assign rfl rfl rfl (WL.nil (N.seq ?_))
 refine Fin.ret1 rfl (v := .bool false) rfl ?_
 exact ⟨rfl, hS.below⟩

theorem irFunc_ret (f : DFunc) (cf : List Value) {w : World} {ro : Nat → Prop} (hro : ∀ b, ro b → b < w.heap.size) (hx : FuncC ro w cf f) (h5 : func5 f = true) : Ret Try.prog 39 #[.agg cf.toArray] w fun v w' => v = .bool true ∧ Below w.heap.size w w' := by
 obtain ⟨sbF, rfl, hblF, hnmF, hbdF, hprF⟩ := id hx
 obtain ⟨adbF, capbF, rfl, hbkFa, hbkFb, hbkFc, hbkFd⟩ := id hblF
 have hbkFm : f.blocks.length ≤ 9223372036854775807 := by have h1 := hbkFa; have h2 := hbkFb; unfold maxLen at h2; omega
 refine Ret.enter (P := Try.prog) (n := 55) (args := [.agg #[.string f.name, .int .i64 f.bind, .int .i64 f.params, .slice adbF f.blocks.length capbF]]) (σ := [(0, .agg #[.string f.name, .int .i64 f.bind, .int .i64 f.params, .slice adbF f.blocks.length capbF])]) Try.func39 rfl rfl rfl rfl ?_
 have hS := St.start (ro := ro) hro
 obtain ⟨hq1, hq2, hq3, hq4, hq5, hq6, hq7, hq8, hq9⟩ := func5_more h5
 refine W.seq (W.region ?_)
 refine WL.box (v := .agg #[.string f.name, .int .i64 f.bind, .int .i64 f.params, .slice adbF f.blocks.length capbF]) (cs := [.string f.name, .int .i64 f.bind, .int .i64 f.params, .slice adbF f.blocks.length capbF]) rfl rfl rfl rfl hS ?_
 clear hS; intro w2 b1 hb_b1 hS
 refine WL.assign rfl rfl rfl (WL.nil (N.seq (W.seq (W.seq (W.region (WL.fieldAddr fo_24_0 rfl rfl rfl (WL.load1 (v := .string f.name) one_9 rfl rfl rfl (hS.cell 0 rfl rfl) ?_)))))))
 refine WL.callF (vs := [.string f.name]) Try.func54 (by kernel_rfl) rfl rfl rfl (irname_ret f.name hq1 (ro := ro) (fun b hb => (hS.snap b hb).1)) ?_
 rintro v w3 ⟨rfl, hbl⟩
 replace hS := hS.grow hbl
 refine WL.not rfl rfl rfl ?_
 refine WL.set 6 (v' := .bool false) rfl rfl ?_
 refine WL.move rfl rfl rfl (WL.fieldAddr fo_24_1 rfl rfl rfl (WL.load1 (v := .int .i64 f.bind) one_3 rfl rfl rfl (hS.cell 0 rfl rfl) (WL.bin rfl rfl rfl rfl rfl ?_)))
 refine WL.set 10 (v' := .bool false) rfl (congrArg Value.bool (show (decide (f.bind < 1)) = false from decide_eq_false (by omega))) ?_
 refine WL.pick (v := .bool false) rfl rfl rfl rfl rfl rfl (WL.move rfl rfl rfl (WL.fieldAddr fo_24_1 rfl rfl rfl (WL.load1 (v := .int .i64 f.bind) one_3 rfl rfl rfl (hS.cell 0 rfl rfl) (WL.bin rfl rfl rfl rfl rfl ?_))))
 refine WL.set 15 (v' := .bool false) rfl (congrArg Value.bool (show (decide (3 < f.bind)) = false from decide_eq_false (by omega))) ?_
 refine WL.pick (v := .bool false) rfl rfl rfl rfl rfl rfl (WL.move rfl rfl rfl (WL.fieldAddr fo_24_2 rfl rfl rfl (WL.load1 (v := .int .i64 f.params) one_3 rfl rfl rfl (hS.cell 0 rfl rfl) (WL.bin rfl rfl rfl rfl rfl ?_))))
 refine WL.set 20 (v' := .bool false) rfl (congrArg Value.bool (show (decide (f.params < 0)) = false from decide_eq_false (by omega))) ?_
 refine WL.pick (v := .bool false) rfl rfl rfl rfl rfl rfl (WL.move rfl rfl rfl (WL.fieldAddr fo_24_2 rfl rfl rfl (WL.load1 (v := .int .i64 f.params) one_3 rfl rfl rfl (hS.cell 0 rfl rfl) (WL.bin rfl rfl rfl rfl rfl ?_))))
 refine WL.set 25 (v' := .bool false) rfl (congrArg Value.bool (show (decide (6 < f.params)) = false from decide_eq_false (by omega))) ?_
 refine WL.pick (v := .bool false) rfl rfl rfl rfl rfl rfl (WL.move rfl rfl rfl (WL.fieldAddr fo_24_3 rfl rfl rfl (WL.load1 (v := .slice adbF f.blocks.length capbF) one_22 rfl rfl rfl (hS.cell 0 rfl rfl) (WL.lenSlice Try.underlying22 rfl rfl rfl (WL.bin rfl rfl rfl rfl rfl ?_)))))
 refine WL.set 31 (v' := .bool false) rfl (congrArg Value.bool (show (decide (16 < (f.blocks.length : Int))) = false from decide_eq_false (by omega))) ?_
 refine WL.pick (v := .bool false) rfl rfl rfl rfl rfl rfl (WL.nil (N.seq (W.condF rfl (W.skip (N.seq (W.seq (W.seq (W.region (WL.fieldAddr fo_24_3 rfl rfl rfl ?_)))))))))
 refine WL.load1 (v := .slice adbF f.blocks.length capbF) one_22 rfl rfl rfl (hS.cell 0 rfl rfl) (WL.lenSlice Try.underlying22 rfl rfl rfl (WL.bin rfl rfl rfl rfl rfl (WL.nil (N.seq ?_))))
 refine W.cond rfl (fun hc4 => ?_) (fun hc4 => ?_)
 ·
  have hc4p : (f.blocks.length : Int) = 0 := by simpa using hc4
  refine W.seq (W.region (WL.fieldAddr fo_24_1 rfl rfl rfl (WL.load1 (v := .int .i64 f.bind) one_3 rfl rfl rfl (hS.cell 0 rfl rfl) (WL.bin rfl rfl rfl rfl rfl ?_))))
  refine WL.set 39 (v' := .bool true) rfl (by rw [decide_eq_false (hq7 (by omega))]; rfl) ?_
  refine WL.assign rfl rfl rfl (WL.nil (N.seq ?_))
  refine Fin.ret1 rfl (v := .bool true) rfl ?_
  exact ⟨rfl, hS.below⟩
 have hc4p : ¬ ((f.blocks.length : Int) = 0) := by simpa using hc4
 refine W.skip (N.seq (W.seq ?_))
 have hj5 : 0 < f.blocks.length := by omega
 obtain ⟨x5, hx5⟩ : ∃ zz, f.blocks[0]? = some zz := ⟨_, List.getElem?_eq_getElem hj5⟩
 obtain ⟨b5, o5, cs5, hE5, hr5, hl5, hc5, hQ5⟩ := hbkFd 0 _ hx5
 obtain ⟨si5, tsx5, rfl, hin5, hfin5, hpar5⟩ := id hQ5
 obtain ⟨adi5, capi5, rfl, hin5a, hin5b, hin5c, hin5d⟩ := id hin5
 have hin5m : x5.ins.length ≤ 9223372036854775807 := by have h1 := hin5a; have h2 := hin5b; unfold maxLen at h2; omega
 obtain ⟨sp5, sq5, rfl, ht15, ht25, htk5, hta5, htt5, hte5⟩ := id hfin5
 obtain ⟨adp5, capp5, rfl, htp5a, htp5b, htp5c, htp5d⟩ := id ht15
 have htp5m : x5.fin.args.length ≤ 9223372036854775807 := by have h1 := htp5a; have h2 := htp5b; unfold maxLen at h2; omega
 obtain ⟨adq5, capq5, rfl, htq5a, htq5b, htq5c, htq5d⟩ := id ht25
 have htq5m : x5.fin.elses.length ≤ 9223372036854775807 := by have h1 := htq5a; have h2 := htq5b; unfold maxLen at h2; omega
 refine W.drawL (by kernel_rfl) 15 ((.q (.pointer (some ⟨b1, 3, none⟩))) :: (.q (.slice adbF f.blocks.length capbF)) :: (.q (.pointer (some ⟨b5, o5 + 0 * 8, none⟩))) :: (.q (.pointer (some ⟨b5, o5 + 0 * 8, none⟩))) :: (.q (.int .i64 x5.params)) :: (.q (.pointer (some ⟨b1, 2, none⟩))) :: (.q (.int .i64 f.params)) :: (.q (.bool true)) :: (.q (.bool true)) :: (.q (.pointer (some ⟨b1, 3, none⟩))) :: (.q (.slice adbF f.blocks.length capbF)) :: (.q (.func (.func 56) #[] #[.pointer (some ⟨b1, 0, none⟩)])) :: (.q (.bool false)) :: (.q (.bool true)) :: (.q (.bool true)) :: []) (by kernel_rfl) (by kernel_rfl) [(1, .pointer (some ⟨b1, 0, none⟩)), (2, .bool false)] ⟨rfl, rfl, trivial⟩ (by kernel_rfl) hS ?_ ?_
 ·
  refine And.intro (fun β w hS => ?_) ?_
  ·
   refine WL.sub (σ' := [(1, .pointer (some ⟨b1, 0, none⟩))]) ⟨rfl, trivial⟩ ?_
   refine WL.fieldAddr fo_24_3 rfl rfl rfl ?_
   exact WL.nil (N.cut () ⟨rfl, trivial⟩ (Below.refl _ _))
  refine And.intro (fun β w hS => ?_) ?_
  ·
   refine WL.sub (σ' := [(40, .pointer (some ⟨b1, 3, none⟩))]) ⟨rfl, trivial⟩ ?_
   refine WL.load1 (v := .slice adbF f.blocks.length capbF) one_22 rfl rfl rfl (hS.cell 0 rfl rfl) ?_
   exact WL.nil (N.cut () ⟨rfl, trivial⟩ (Below.refl _ _))
  refine And.intro (fun β w hS => ?_) ?_
  ·
   refine WL.sub (σ' := [(41, .slice adbF f.blocks.length capbF)]) ⟨rfl, trivial⟩ ?_
   refine WL.indexAddrE (j := 0) Try.underlying22 isz_32 rfl rfl rfl rfl hj5 hE5 ?_
   exact WL.nil (N.cut () ⟨rfl, trivial⟩ (Below.refl _ _))
  refine And.intro (fun β w hS => ?_) ?_
  ·
   refine WL.sub (σ' := [(42, .pointer (some ⟨b5, o5 + 0 * 8, none⟩))]) ⟨rfl, trivial⟩ ?_
   refine WL.fieldAddr fo_32_0 rfl rfl rfl ?_
   exact WL.nil (N.cut () ⟨rfl, trivial⟩ (Below.refl _ _))
  refine And.intro (fun β w hS => ?_) ?_
  ·
   refine WL.sub (σ' := [(43, .pointer (some ⟨b5, o5 + 0 * 8, none⟩))]) ⟨rfl, trivial⟩ ?_
   refine WL.load1 (v := .int .i64 x5.params) one_3 rfl rfl rfl (hS.roCells hr5 hc5 0 _ rfl) ?_
   exact WL.nil (N.cut () ⟨rfl, trivial⟩ (Below.refl _ _))
  refine And.intro (fun β w hS => ?_) ?_
  ·
   refine WL.sub (σ' := [(1, .pointer (some ⟨b1, 0, none⟩))]) ⟨rfl, trivial⟩ ?_
   refine WL.fieldAddr fo_24_2 rfl rfl rfl ?_
   exact WL.nil (N.cut () ⟨rfl, trivial⟩ (Below.refl _ _))
  refine And.intro (fun β w hS => ?_) ?_
  ·
   refine WL.sub (σ' := [(45, .pointer (some ⟨b1, 2, none⟩))]) ⟨rfl, trivial⟩ ?_
   refine WL.load1 (v := .int .i64 f.params) one_3 rfl rfl rfl (hS.cell 0 rfl rfl) ?_
   exact WL.nil (N.cut () ⟨rfl, trivial⟩ (Below.refl _ _))
  refine And.intro (fun β w hS => ?_) ?_
  ·
   refine WL.sub (σ' := [(44, .int .i64 x5.params), (46, .int .i64 f.params)]) ⟨rfl, rfl, trivial⟩ ?_
   refine WL.bin rfl rfl rfl rfl rfl ?_
   refine WL.set 47 (v' := .bool true) rfl (congrArg Value.bool (show (decide (x5.params = f.params)) = true from decide_eq_true (hq8 _ hx5))) ?_
   exact WL.nil (N.cut () ⟨rfl, trivial⟩ (Below.refl _ _))
  refine And.intro (fun β w hS => ?_) ?_
  ·
   refine WL.sub (σ' := [(47, .bool true)]) ⟨rfl, trivial⟩ ?_
   refine WL.move rfl rfl rfl ?_
   exact WL.nil (N.cut () ⟨rfl, trivial⟩ (Below.refl _ _))
  refine And.intro (fun β w hS => ?_) ?_
  ·
   refine WL.sub (σ' := [(1, .pointer (some ⟨b1, 0, none⟩)), (48, .bool true)]) ⟨rfl, rfl, trivial⟩ ?_
   refine WL.fieldAddr fo_24_3 rfl rfl rfl ?_
   exact WL.nil (N.cut () ⟨rfl, trivial⟩ (Below.refl _ _))
  refine And.intro (fun β w hS => ?_) ?_
  ·
   refine WL.sub (σ' := [(48, .bool true), (49, .pointer (some ⟨b1, 3, none⟩))]) ⟨rfl, rfl, trivial⟩ ?_
   refine WL.load1 (v := .slice adbF f.blocks.length capbF) one_22 rfl rfl rfl (hS.cell 0 rfl rfl) ?_
   exact WL.nil (N.cut () ⟨rfl, trivial⟩ (Below.refl _ _))
  refine And.intro (fun β w hS => ?_) ?_
  ·
   refine WL.sub (σ' := [(1, .pointer (some ⟨b1, 0, none⟩)), (48, .bool true)]) ⟨rfl, rfl, trivial⟩ ?_
   refine WL.makeFunc (vs := #[.pointer (some ⟨b1, 0, none⟩)]) rfl rfl rfl ?_
   exact WL.nil (N.cut () ⟨rfl, trivial⟩ (Below.refl _ _))
  refine And.intro (fun β w hS => ?_) ?_
  ·
   refine WL.sub (σ' := [(48, .bool true), (50, .slice adbF f.blocks.length capbF), (51, .func (.func 56) #[] #[.pointer (some ⟨b1, 0, none⟩)])]) ⟨rfl, rfl, rfl, trivial⟩ ?_
   refine WL.callF (vs := [.slice adbF f.blocks.length capbF, .func (.func 56) #[] #[.pointer (some ⟨b1, 0, none⟩)]]) Try.func55 (by kernel_rfl) rfl rfl rfl (irbco_ret f adbF capbF b1 (ro := fun x => x < w.heap.size) (fun _ h => h) (hx.keep (fun b hb => hS.snap b hb)) (hS.keys b1 (by simp [keysOf])).2.1 (hS.cells 0 (m := 4) rfl rfl) hq9) ?_
   rintro v w6 ⟨rfl, hbl⟩
   replace hS := hS.grow hbl
   exact WL.nil (N.cut () ⟨rfl, trivial⟩ hbl)
  refine And.intro (fun β w hS => ?_) ?_
  ·
   refine WL.sub (σ' := [(48, .bool true), (52, .bool false)]) ⟨rfl, rfl, trivial⟩ ?_
   refine WL.not rfl rfl rfl ?_
   refine WL.set 53 (v' := .bool true) rfl rfl ?_
   exact WL.nil (N.cut () ⟨rfl, trivial⟩ (Below.refl _ _))
  refine And.intro (fun β w hS => ?_) ?_
  ·
   refine WL.sub (σ' := [(48, .bool true), (53, .bool true)]) ⟨rfl, rfl, trivial⟩ ?_
   refine WL.pick (v := .bool true) rfl rfl rfl rfl rfl rfl ?_
   exact WL.nil (N.cut () ⟨rfl, trivial⟩ (Below.refl _ _))
  trivial
 clear hS; intro w7 β hS
 refine WL.sub (σ' := [(2, .bool false), (54, .bool true)]) ⟨rfl, rfl, trivial⟩ ?_
 refine WL.assign rfl rfl rfl (WL.nil (N.seq ?_))
 refine Fin.ret1 rfl (v := .bool true) rfl ?_
 exact ⟨rfl, hS.below⟩

end Go.Proofs.Ytdlcmhkfglckfaa
