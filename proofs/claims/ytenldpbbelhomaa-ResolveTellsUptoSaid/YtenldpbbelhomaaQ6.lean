/-
  Contracts of layer 9 (resolve). No condition beyond those that each theorem states.
-/
import Derived.Test.YtenldpbbelhomaaQ5
namespace Go.Proofs.Ytenldpbbelhomaa
open Go.RowKit
theorem fo_29_0 : fOff Try.prog 29 0 0 = true := by kernel_rfl
theorem fo_29_1 : fOff Try.prog 29 1 1 = true := by kernel_rfl
theorem fo_29_3 : fOff Try.prog 29 3 3 = true := by kernel_rfl
theorem zer_75 : tyZero Try.prog 75 = some [.int .i64 0, .slice none 0 0, .int .i64 0, .int .i64 0, .int .i64 0, .slice none 0 0, .int .i64 0, .slice none 0 0] := by kernel_rfl
theorem zer_77 : tyZero Try.prog 77 = some [.int .i64 0, .int .i64 0, .int .i64 0, .int .u64 0, .string ⟨#[]⟩, .slice none 0 0] := by kernel_rfl
instance decInI (x : Int) : Decidable (inI x) := by unfold inI; infer_instance
instance decInU (x : Int) : Decidable (inU x) := by unfold inU; infer_instance
theorem inI0 : inI 0 := by decide
def e0B : ByteArray := ⟨#[]⟩
def givesM (s : ByteArray) (b : Int) : DMod := ⟨[⟨s, b, 0, [⟨0, [⟨1, 0, 0, 0, e0B, []⟩], ⟨3, 0, 0, [], 0, []⟩⟩]⟩], []⟩
def fB : ByteArray := ⟨#[102]⟩
def shownMs : List DMod := [givesM fB 3, givesM fB 2, givesM mainB 2]
theorem chunk1 {α : Type} {sz : Nat} {Q : List Value → α → Prop} {cs : List Value} {x : α} (hl : cs.length = sz) (hq : Q cs x) : Chunks sz Q cs [x] := by simpa using Chunks.snoc Chunks.nil hl hq
theorem shown_all : all9 (items9 shownMs) = ([⟨fB, 1, true, false, true⟩, ⟨mainB, 2, true, false, true⟩], 0) := by kernel_rfl
theorem shown_items : items9 shownMs = [⟨fB, 0, true, 0, true, false⟩, ⟨fB, 1, true, 0, true, true⟩, ⟨mainB, 2, true, 0, true, true⟩] := by kernel_rfl

theorem gives_ret (s : ByteArray) (b : Int) (hs : s.size ≤ maxLen) (hb : inI b) {w : World} {ro : Nat → Prop} (hro : ∀ b, ro b → b < w.heap.size) : Ret Try.prog 22 #[.string s, .int .i64 b] w fun v w' => ∃ s1 s2, v = .agg #[s1, s2] ∧ FuncsV (fun b => w.heap.size ≤ b ∧ b < w'.heap.size) w' s1 (givesM s b).funcs ∧ GlobsV (fun b => w.heap.size ≤ b ∧ b < w'.heap.size) w' s2 (givesM s b).globs ∧ Below w.heap.size w w' := by
 refine Ret.enter (P := Try.prog) (n := 15) (args := [.string s, .int .i64 b]) (σ := [(0, .string s), (1, .int .i64 b)]) Try.func22 rfl rfl rfl rfl ?_
 have hS := St.start (ro := ro) hro
 refine W.seq ?_
 refine W.region ?_
 refine WL.alloc (tyZero_spec zer_33) rfl rfl hS ?_
 clear hS; intro w2 b1 hb_b1 hS
 refine WL.nil ?_
 refine N.seq ?_
 refine W.seq ?_
 refine W.region ?_
 refine WL.move rfl rfl rfl ?_
 refine WL.move rfl rfl rfl ?_
 refine WL.build (ps := [(0, .int .i64 1)]) (cs := [.int .i64 1, .int .i64 0, .int .i64 0, .int .u64 0, .string ⟨#[]⟩, .slice none 0 0]) rfl rfl rfl (by kernel_rfl) ?_
 refine WL.buildSlice (ps := [(0, .agg #[.int .i64 1, .int .i64 0, .int .i64 0, .int .u64 0, .string ⟨#[]⟩, .slice none 0 0])]) (cs := [.int .i64 1, .int .i64 0, .int .i64 0, .int .u64 0, .string ⟨#[]⟩, .slice none 0 0]) Try.underlying70 (tyZero_spec zer_77) rfl rfl rfl rfl (by kernel_rfl) hS ?_
 clear hS; intro w4 b3 hb_b3 hS
 refine WL.build (ps := [(0, .int .i64 3)]) (cs := [.int .i64 3, .int .i64 0, .int .i64 0, .slice none 0 0, .int .i64 0, .slice none 0 0]) rfl rfl rfl (by kernel_rfl) ?_
 refine WL.build (ps := [(1, .slice (some ⟨b3, 0, none⟩) 1 1), (2, .agg #[.int .i64 3, .int .i64 0, .int .i64 0, .slice none 0 0, .int .i64 0, .slice none 0 0])]) (cs := [.int .i64 0, .slice (some ⟨b3, 0, none⟩) 1 1, .int .i64 3, .int .i64 0, .int .i64 0, .slice none 0 0, .int .i64 0, .slice none 0 0]) rfl rfl rfl (by kernel_rfl) ?_
 refine WL.buildSlice (ps := [(0, .agg #[.int .i64 0, .slice (some ⟨b3, 0, none⟩) 1 1, .int .i64 3, .int .i64 0, .int .i64 0, .slice none 0 0, .int .i64 0, .slice none 0 0])]) (cs := [.int .i64 0, .slice (some ⟨b3, 0, none⟩) 1 1, .int .i64 3, .int .i64 0, .int .i64 0, .slice none 0 0, .int .i64 0, .slice none 0 0]) Try.underlying34 (tyZero_spec zer_75) rfl rfl rfl rfl (by kernel_rfl) hS ?_
 clear hS; intro w6 b5 hb_b5 hS
 refine WL.build (ps := [(0, .string s), (1, .int .i64 b), (3, .slice (some ⟨b5, 0, none⟩) 1 1)]) (cs := [.string s, .int .i64 b, .int .i64 0, .slice (some ⟨b5, 0, none⟩) 1 1]) rfl rfl rfl (by kernel_rfl) ?_
 refine WL.buildSlice (ps := [(0, .agg #[.string s, .int .i64 b, .int .i64 0, .slice (some ⟨b5, 0, none⟩) 1 1])]) (cs := [.string s, .int .i64 b, .int .i64 0, .slice (some ⟨b5, 0, none⟩) 1 1]) Try.underlying30 (tyZero_spec zer_36) rfl rfl rfl rfl (by kernel_rfl) hS ?_
 clear hS; intro w8 b7 hb_b7 hS
 refine WL.build (ps := [(0, .slice (some ⟨b7, 0, none⟩) 1 1)]) (cs := [.slice (some ⟨b7, 0, none⟩) 1 1, .slice none 0 0]) rfl rfl rfl (by kernel_rfl) ?_
 refine WL.store (cs := [.slice (some ⟨b7, 0, none⟩) 1 1, .slice none 0 0]) (c' := #[.slice (some ⟨b7, 0, none⟩) 1 1, .slice none 0 0]) (L' := [(b7, .cells #[.string s, .int .i64 b, .int .i64 0, .slice (some ⟨b5, 0, none⟩) 1 1] 36 (0, 0)), (b5, .cells #[.int .i64 0, .slice (some ⟨b3, 0, none⟩) 1 1, .int .i64 3, .int .i64 0, .int .i64 0, .slice none 0 0, .int .i64 0, .slice none 0 0] 75 (0, 0)), (b3, .cells #[.int .i64 1, .int .i64 0, .int .i64 0, .int .u64 0, .string ⟨#[]⟩, .slice none 0 0] 77 (0, 0)), (b1, .cells #[.slice (some ⟨b7, 0, none⟩) 1 1, .slice none 0 0] 33 (0, 0))]) 3 rfl rfl rfl rfl siz_33 rfl rfl rfl rfl rfl hS ?_
 clear hS; intro w9 hS
 refine WL.nil ?_
 refine N.seq ?_
 refine Fin.retC rfl (v := .agg #[.slice (some ⟨b7, 0, none⟩) 1 1, .slice none 0 0]) rfl (tyAgg_run agg_33 (cs := [.slice (some ⟨b7, 0, none⟩) 1 1, .slice none 0 0]) rfl (hS.cells 3 (m := 2) rfl rfl)) ?_
 have hI : SlV (fun b => w.heap.size ≤ b ∧ b < w9.heap.size) w9 6 (InstC (fun b => w.heap.size ≤ b ∧ b < w9.heap.size) w9) (.slice (some ⟨b3, 0, none⟩) 1 1) [⟨1, 0, 0, 0, e0B, []⟩] := slv_blk (hS.own _ (List.mem_of_getElem? (i := 2) rfl)) rfl (chunk1 rfl ⟨_, rfl, slv_nil, by decide, by decide, by decide, by decide, by decide⟩) ((hS.keys b3 (by simp [keysOf])).imp id (·.1)) rfl (by decide)
 have hB : SlV (fun b => w.heap.size ≤ b ∧ b < w9.heap.size) w9 8 (BlockC (fun b => w.heap.size ≤ b ∧ b < w9.heap.size) w9) (.slice (some ⟨b5, 0, none⟩) 1 1) [⟨0, [⟨1, 0, 0, 0, e0B, []⟩], ⟨3, 0, 0, [], 0, []⟩⟩] := slv_blk (hS.own _ (List.mem_of_getElem? (i := 1) rfl)) rfl (chunk1 rfl ⟨_, _, rfl, hI, ⟨_, _, rfl, slv_nil, slv_nil, by decide, by decide, by decide, by decide⟩, by decide⟩) ((hS.keys b5 (by simp [keysOf])).imp id (·.1)) rfl (by decide)
 have hF : SlV (fun b => w.heap.size ≤ b ∧ b < w9.heap.size) w9 4 (FuncC (fun b => w.heap.size ≤ b ∧ b < w9.heap.size) w9) (.slice (some ⟨b7, 0, none⟩) 1 1) [⟨s, b, 0, [⟨0, [⟨1, 0, 0, 0, e0B, []⟩], ⟨3, 0, 0, [], 0, []⟩⟩]⟩] := slv_blk (hS.own _ (List.mem_of_getElem? (i := 0) rfl)) rfl (chunk1 rfl ⟨_, rfl, hB, hs, hb, inI0⟩) ((hS.keys b7 (by simp [keysOf])).imp id (·.1)) rfl (by simp [maxLen])
 exact ⟨_, _, rfl, hF, slv_nil, hS.below⟩

theorem shown_ret {w : World} : Ret Try.prog 9 #[] w fun v w' => v = .bool true ∧ Below w.heap.size w w' := by
 refine Ret.enter (P := Try.prog) (n := 39) (args := []) (σ := []) Try.func9 rfl rfl rfl rfl ?_
 have hS := St.start (ro := (fun b => b < w.heap.size)) (fun _ h => h)
 have hsub : ∀ b, (fun b => b < w.heap.size) b → (fun b => b < w.heap.size) b ∨ w.heap.size ≤ b := fun _ h => .inl h
 have halT : Alike (fun b => b < w.heap.size) w (fun b => b < w.heap.size) w := Alike.refl
 refine W.seq ?_
 refine W.region ?_
 refine WL.assign rfl rfl rfl ?_
 refine WL.nil ?_
 refine N.seq ?_
 refine W.seq ?_
 refine W.region ?_
 refine WL.callF (vs := [.string ⟨#[102]⟩, .int .i64 3]) Try.func22 (by kernel_rfl) rfl rfl rfl (gives_ret fB 3 (by decide) (by decide) (ro := (fun b => b < w.heap.size)) (fun b hb => (hS.snap b hb).1)) ?_
 rintro v w1 ⟨s1a, s1b, rfl, hf1, hg1, hbl⟩
 have hal2 := hS.alikeTo hbl (ro' := (roFrom (fun b => b < w.heap.size) w w1)) (fun b hb => .inl hb)
 replace hsub : ∀ b, (roFrom (fun b => b < w.heap.size) w w1) b → (fun b => b < w.heap.size) b ∨ w.heap.size ≤ b := fun b hb => hb.elim (hsub b) (fun h => .inr (Nat.le_trans hS.below.size h.1))
 replace halT := halT.trans hal2
 replace hS := hS.readNew hbl
 replace hf1 := SlV.keep hf1 (ro' := (roFrom (fun b => b < w.heap.size) w w1)) (w' := w1) (Q' := FuncC (roFrom (fun b => b < w.heap.size) w w1) w1) (fun x hx => ⟨.inr hx, rfl⟩) (fun _ _ h => h.keep (fun x hx => ⟨.inr hx, rfl⟩))
 replace hg1 := SlV.keep hg1 (ro' := (roFrom (fun b => b < w.heap.size) w w1)) (w' := w1) (Q' := GlobC) (fun x hx => ⟨.inr hx, rfl⟩) (fun _ _ h => h)
 refine WL.callF (vs := [.string ⟨#[102]⟩, .int .i64 2]) Try.func22 (by kernel_rfl) rfl rfl rfl (gives_ret fB 2 (by decide) (by decide) (ro := (roFrom (fun b => b < w.heap.size) w w1)) (fun b hb => (hS.snap b hb).1)) ?_
 rintro v w3 ⟨s2a, s2b, rfl, hf2, hg2, hbl⟩
 have hal4 := hS.alikeTo hbl (ro' := (roFrom (roFrom (fun b => b < w.heap.size) w w1) w1 w3)) (fun b hb => .inl hb)
 replace hsub : ∀ b, (roFrom (roFrom (fun b => b < w.heap.size) w w1) w1 w3) b → (fun b => b < w.heap.size) b ∨ w.heap.size ≤ b := fun b hb => hb.elim (hsub b) (fun h => .inr (Nat.le_trans hS.below.size h.1))
 replace halT := halT.trans hal4
 replace hf1 : SlV (roFrom (roFrom (fun b => b < w.heap.size) w w1) w1 w3) w3 4 (FuncC (roFrom (roFrom (fun b => b < w.heap.size) w w1) w1 w3) w3) (s1a) ((givesM fB 3).funcs) := SlV.keep hf1 hal4 (fun _ _ h => h.keep hal4)
 replace hg1 : SlV (roFrom (roFrom (fun b => b < w.heap.size) w w1) w1 w3) w3 4 GlobC (s1b) ((givesM fB 3).globs) := SlV.keep hg1 hal4 (fun _ _ h => h)
 replace hS := hS.readNew hbl
 replace hf2 := SlV.keep hf2 (ro' := (roFrom (roFrom (fun b => b < w.heap.size) w w1) w1 w3)) (w' := w3) (Q' := FuncC (roFrom (roFrom (fun b => b < w.heap.size) w w1) w1 w3) w3) (fun x hx => ⟨.inr hx, rfl⟩) (fun _ _ h => h.keep (fun x hx => ⟨.inr hx, rfl⟩))
 replace hg2 := SlV.keep hg2 (ro' := (roFrom (roFrom (fun b => b < w.heap.size) w w1) w1 w3)) (w' := w3) (Q' := GlobC) (fun x hx => ⟨.inr hx, rfl⟩) (fun _ _ h => h)
 refine WL.callF (vs := [.string ⟨#[109, 97, 105, 110]⟩, .int .i64 2]) Try.func22 (by kernel_rfl) rfl rfl rfl (gives_ret mainB 2 (by decide) (by decide) (ro := (roFrom (roFrom (fun b => b < w.heap.size) w w1) w1 w3)) (fun b hb => (hS.snap b hb).1)) ?_
 rintro v w5 ⟨s3a, s3b, rfl, hf3, hg3, hbl⟩
 have hal6 := hS.alikeTo hbl (ro' := (roFrom (roFrom (roFrom (fun b => b < w.heap.size) w w1) w1 w3) w3 w5)) (fun b hb => .inl hb)
 replace hsub : ∀ b, (roFrom (roFrom (roFrom (fun b => b < w.heap.size) w w1) w1 w3) w3 w5) b → (fun b => b < w.heap.size) b ∨ w.heap.size ≤ b := fun b hb => hb.elim (hsub b) (fun h => .inr (Nat.le_trans hS.below.size h.1))
 replace halT := halT.trans hal6
 replace hf1 : SlV (roFrom (roFrom (roFrom (fun b => b < w.heap.size) w w1) w1 w3) w3 w5) w5 4 (FuncC (roFrom (roFrom (roFrom (fun b => b < w.heap.size) w w1) w1 w3) w3 w5) w5) (s1a) ((givesM fB 3).funcs) := SlV.keep hf1 hal6 (fun _ _ h => h.keep hal6)
 replace hg1 : SlV (roFrom (roFrom (roFrom (fun b => b < w.heap.size) w w1) w1 w3) w3 w5) w5 4 GlobC (s1b) ((givesM fB 3).globs) := SlV.keep hg1 hal6 (fun _ _ h => h)
 replace hf2 : SlV (roFrom (roFrom (roFrom (fun b => b < w.heap.size) w w1) w1 w3) w3 w5) w5 4 (FuncC (roFrom (roFrom (roFrom (fun b => b < w.heap.size) w w1) w1 w3) w3 w5) w5) (s2a) ((givesM fB 2).funcs) := SlV.keep hf2 hal6 (fun _ _ h => h.keep hal6)
 replace hg2 : SlV (roFrom (roFrom (roFrom (fun b => b < w.heap.size) w w1) w1 w3) w3 w5) w5 4 GlobC (s2b) ((givesM fB 2).globs) := SlV.keep hg2 hal6 (fun _ _ h => h)
 replace hS := hS.readNew hbl
 replace hf3 := SlV.keep hf3 (ro' := (roFrom (roFrom (roFrom (fun b => b < w.heap.size) w w1) w1 w3) w3 w5)) (w' := w5) (Q' := FuncC (roFrom (roFrom (roFrom (fun b => b < w.heap.size) w w1) w1 w3) w3 w5) w5) (fun x hx => ⟨.inr hx, rfl⟩) (fun _ _ h => h.keep (fun x hx => ⟨.inr hx, rfl⟩))
 replace hg3 := SlV.keep hg3 (ro' := (roFrom (roFrom (roFrom (fun b => b < w.heap.size) w w1) w1 w3) w3 w5)) (w' := w5) (Q' := GlobC) (fun x hx => ⟨.inr hx, rfl⟩) (fun _ _ h => h)
 refine WL.buildSlice (ps := [(0, .agg #[s1a, s1b]), (1, .agg #[s2a, s2b]), (2, .agg #[s3a, s3b])]) (cs := [s1a, s1b, s2a, s2b, s3a, s3b]) Try.underlying22 (tyZero_spec zer_33) rfl rfl rfl rfl (by kernel_rfl) hS ?_
 clear hS; intro w8 b7 hb_b7 hS
 have hall : Alike (roFrom (roFrom (roFrom (fun b => b < w.heap.size) w w1) w1 w3) w3 w5) w5 (fun z => z < w8.heap.size) w8 := fun z hz => ⟨(hS.snap z hz).1, (hS.snap z hz).2⟩
 have hlb : b7 < w8.heap.size := (hS.keys b7 (by simp [keysOf])).2.1
 have hms : SlV (fun z => z < w8.heap.size) w8 2 (ModC (fun z => z < w8.heap.size) w8) (.slice (some ⟨b7, 0, none⟩) 3 3) shownMs := slv_blk (cs := [s1a, s1b, s2a, s2b, s3a, s3b]) (hS.own _ (List.mem_of_getElem? (i := 0) rfl)) rfl (((chunk1 (cs := [s1a, s1b]) rfl ⟨_, _, rfl, FuncsV.keep hf1 hall, GlobsV.keep hg1 hall⟩).snoc (c := [s2a, s2b]) rfl ⟨_, _, rfl, FuncsV.keep hf2 hall, GlobsV.keep hg2 hall⟩).snoc (c := [s3a, s3b]) rfl ⟨_, _, rfl, FuncsV.keep hf3 hall, GlobsV.keep hg3 hall⟩) hlb rfl (by decide)
 refine WL.callF (vs := [.slice (some ⟨b7, 0, none⟩) 3 3]) Try.func10 (by kernel_rfl) rfl rfl rfl (all_ret shownMs _ (ro := fun z => z < w8.heap.size) (fun _ h => h) hms (by rw [shown_items]; decide) (by rw [shown_items]; decide)) ?_
 rintro v w9 ⟨sv, rfl, hdv, hbl⟩
 rw [shown_all] at hdv
 simp only at hdv
 replace hS := hS.readAll hbl
 replace hdv : SlV (fun x => x < w9.heap.size) w9 5 DefC sv [⟨fB, 1, true, false, true⟩, ⟨mainB, 2, true, false, true⟩] := SlV.keep hdv (alikeAll hbl) (fun _ _ h => h)
 obtain ⟨add, capd, rfl, hda, hdb, hdc, hdd⟩ := id hdv
 have hdm : ([⟨fB, 1, true, false, true⟩, ⟨mainB, 2, true, false, true⟩] : List DDef).length ≤ 9223372036854775807 := by have h1 := hda; have h2 := hdb; unfold maxLen at h2; omega
 refine WL.set 8 (v' := .tuple #[.slice add (([⟨fB, 1, true, false, true⟩, ⟨mainB, 2, true, false, true⟩] : List DDef).length) capd, .int .i64 0]) rfl (by rw [shown_all]) ?_
 refine WL.move rfl rfl rfl ?_
 refine WL.extract (v := .slice add (([⟨fB, 1, true, false, true⟩, ⟨mainB, 2, true, false, true⟩] : List DDef).length) capd) rfl rfl rfl rfl ?_
 refine WL.extract (v := .int .i64 0) rfl rfl rfl rfl ?_
 refine WL.assign rfl rfl rfl ?_
 refine WL.assign rfl rfl rfl ?_
 refine WL.nil ?_
 refine N.seq ?_
 refine W.seq ?_
 refine W.region ?_
 refine WL.move rfl rfl rfl ?_
 refine WL.bin rfl rfl rfl rfl rfl ?_
 refine WL.set 12 (v' := .bool true) rfl rfl ?_
 refine WL.move rfl rfl rfl ?_
 refine WL.move rfl rfl rfl ?_
 refine WL.lenSlice Try.underlying24 rfl rfl rfl ?_
 refine WL.bin rfl rfl rfl rfl rfl ?_
 refine WL.set 16 (v' := .bool true) rfl (congrArg Value.bool (show (decide ((([⟨fB, 1, true, false, true⟩, ⟨mainB, 2, true, false, true⟩] : List DDef).length : Int) = 2)) = true from decide_eq_true (by first | rfl | decide))) ?_
 refine WL.pick (v := .bool true) rfl rfl rfl rfl rfl rfl ?_
 refine WL.move rfl rfl rfl ?_
 refine WL.move rfl rfl rfl ?_
 have hj10 : 0 < ([⟨fB, 1, true, false, true⟩, ⟨mainB, 2, true, false, true⟩] : List DDef).length := by decide
 obtain ⟨x10, hx10⟩ : ∃ zz, ([⟨fB, 1, true, false, true⟩, ⟨mainB, 2, true, false, true⟩] : List DDef)[0]? = some zz := ⟨_, List.getElem?_eq_getElem hj10⟩
 obtain ⟨b10, o10, cs10, hE10, hr10, hl10, hc10, hQ10⟩ := hdd 0 _ hx10
 obtain rfl : (⟨fB, 1, true, false, true⟩ : DDef) = x10 := Option.some.inj hx10
 obtain ⟨rfl, hdn10, hdm10⟩ := hQ10
 refine WL.indexAddrE (j := 0) Try.underlying24 isz_29 rfl rfl rfl rfl hj10 hE10 ?_
 refine WL.fieldAddr fo_29_0 rfl rfl rfl ?_
 refine WL.load1 (v := .string ((⟨fB, 1, true, false, true⟩ : DDef).name)) one_9 rfl rfl rfl (hS.roCells hr10 hc10 0 _ rfl) ?_
 refine WL.eqStr rfl rfl rfl rfl ?_
 refine WL.set 23 (v' := .bool true) rfl (congrArg Value.bool (show (decide ((⟨fB, 1, true, false, true⟩ : DDef).name = ⟨#[102]⟩)) = true from decide_eq_true (by first | rfl | decide))) ?_
 refine WL.pick (v := .bool true) rfl rfl rfl rfl rfl rfl ?_
 refine WL.move rfl rfl rfl ?_
 refine WL.move rfl rfl rfl ?_
 refine WL.indexAddrE (j := 0) Try.underlying24 isz_29 rfl rfl rfl rfl hj10 hE10 ?_
 refine WL.fieldAddr fo_29_1 rfl rfl rfl ?_
 refine WL.load1 (v := .int .i64 ((⟨fB, 1, true, false, true⟩ : DDef).mod)) one_3 rfl rfl rfl (hS.roCells hr10 hc10 1 _ rfl) ?_
 refine WL.bin rfl rfl rfl rfl rfl ?_
 refine WL.set 30 (v' := .bool true) rfl (congrArg Value.bool (show (decide ((⟨fB, 1, true, false, true⟩ : DDef).mod = 1)) = true from decide_eq_true (by first | rfl | decide))) ?_
 refine WL.pick (v := .bool true) rfl rfl rfl rfl rfl rfl ?_
 refine WL.move rfl rfl rfl ?_
 refine WL.move rfl rfl rfl ?_
 refine WL.indexAddrE (j := 0) Try.underlying24 isz_29 rfl rfl rfl rfl hj10 hE10 ?_
 refine WL.fieldAddr fo_29_3 rfl rfl rfl ?_
 refine WL.load1 (v := .bool ((⟨fB, 1, true, false, true⟩ : DDef).weak)) one_4 rfl rfl rfl (hS.roCells hr10 hc10 3 _ rfl) ?_
 refine WL.not rfl rfl rfl ?_
 refine WL.pick (v := .bool (!((⟨fB, 1, true, false, true⟩ : DDef).weak))) rfl rfl rfl rfl rfl rfl ?_
 refine WL.assign rfl rfl rfl ?_
 refine WL.nil ?_
 refine N.seq ?_
 refine Fin.ret1 rfl (v := .bool (!((⟨fB, 1, true, false, true⟩ : DDef).weak))) rfl ?_
 exact ⟨rfl, hS.below⟩

end Go.Proofs.Ytenldpbbelhomaa
