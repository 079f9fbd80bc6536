/-
  The document's runs (marlineref07) as plain functions, with plain facts. No condition beyond those that each theorem states.
-/
import Derived.Test.YtdlcmhkfglckfaaEB
namespace Go.Proofs.Ytdlcmhkfglckfaa

structure DTr where
  ended : Bool
  code : Int
  out : ByteArray
  read : Int
  steps : Int
  deep : Int
  deriving DecidableEq
structure DW where
  t : DTr
  globs : List Int
  bad : Int
  deriving DecidableEq
def tr0 : DTr := ⟨false, 0, ⟨#[]⟩, 0, 0, 0⟩
def step7 (W : DW) (fuel : Int) : DW := if W.t.steps = fuel then { W with bad := 12 } else { W with t := { W.t with steps := W.t.steps + 1 } }
def deep7 (W : DW) (n : Int) : DW := if W.t.deep < n then { W with t := { W.t with deep := n } } else W
def pick7 (vals : List Int) (l : List Int) : List Int := l.map fun i => vals.getD i.toNat 0
def byteAt (s : ByteArray) (i : Int) : Int := ((s.data.toList.getD i.toNat 0).toNat : Int)
def byte8 (v : Int) : UInt8 := UInt8.ofNat (v.tmod 256).toNat
def gives7 (m : DMod) (W : DW) (inp : ByteArray) (x : DInst) (vals : List Int) : DW × Int :=
  if x.op = 1 then (W, x.k)
  else if x.op = 12 then (W, W.globs.getD (find5 (gnames m) x.name).toNat 0)
  else if x.op = 13 then ({ W with globs := W.globs.set (find5 (gnames m) x.name).toNat (vals.getD x.a.toNat 0) }, 0)
  else if x.op = 15 then
    if (inp.size : Int) ≤ W.t.read then (W, 256)
    else ({ W with t := { W.t with read := W.t.read + 1 } }, byteAt inp W.t.read)
  else if x.op = 16 then ({ W with t := { W.t with out := W.t.out ++ ⟨#[byte8 (vals.getD x.a.toNat 0)]⟩ } }, 0)
  else (W, reckI x.op (vals.getD x.a.toNat 0) (vals.getD x.b.toNat 0))
abbrev Cal := Option (DW → ByteArray → List Int → DW × Int)
/-- One instruction; 'cal' is what is called, if it may go deeper. -/
def ins7 (m : DMod) (inp : ByteArray) (cal : Cal) (W : DW) (vals : List Int) (x : DInst) : DW × Int :=
  if x.op = 14 then match cal with
    | none => ({ W with bad := 13 }, 0)
    | some c => c W x.name (pick7 vals x.args)
  else gives7 m W inp x vals
/-- A block's instructions; the world behind them says whether they came to their end. -/
def body7 (m : DMod) (inp : ByteArray) (fuel : Int) (cal : Cal) : DW → List Int → List DInst → DW × List Int
  | W, vals, [] => (W, vals)
  | W, vals, x :: r =>
    if (step7 W fuel).bad ≠ 0 then (step7 W fuel, vals)
    else if (ins7 m inp cal (step7 W fuel) vals x).1.bad ≠ 0 then ((ins7 m inp cal (step7 W fuel) vals x).1, vals)
    else body7 m inp fuel cal (ins7 m inp cal (step7 W fuel) vals x).1 (vals ++ [(ins7 m inp cal (step7 W fuel) vals x).2]) r
/-- Where an end goes to, with what. -/
def next7 (t : DTerm) (vals : List Int) : Int × List Int :=
  if t.kind = 2 ∧ vals.getD t.a.toNat 0 = 0 then (t.els, pick7 vals t.elses) else (t.to, pick7 vals t.args)
def blocks7 (m : DMod) (inp : ByteArray) (fuel : Int) (cal : Cal) (f : DFunc) : Nat → DW → Int → List Int → DW × Int
  | 0, W, _, _ => (W, 0)
  | g + 1, W, a, vals => match f.blocks[a.toNat]? with
    | none => (W, 0)
    | some b =>
      if (body7 m inp fuel cal W vals b.ins).1.bad ≠ 0 then ((body7 m inp fuel cal W vals b.ins).1, 0)
      else if (step7 (body7 m inp fuel cal W vals b.ins).1 fuel).bad ≠ 0 then (step7 (body7 m inp fuel cal W vals b.ins).1 fuel, 0)
      else if b.fin.kind = 3 then (step7 (body7 m inp fuel cal W vals b.ins).1 fuel, (body7 m inp fuel cal W vals b.ins).2.getD b.fin.a.toNat 0)
      else blocks7 m inp fuel cal f g (step7 (body7 m inp fuel cal W vals b.ins).1 fuel) (next7 b.fin (body7 m inp fuel cal W vals b.ins).2).1 (next7 b.fin (body7 m inp fuel cal W vals b.ins).2).2
/-- 'd': how much deeper calls may go. -/
def call7 (m : DMod) (inp : ByteArray) (fuel deep : Int) : Nat → DW → ByteArray → List Int → DW × Int
  | 0, W, s, args => match m.funcs[(find5 (fnames m) s).toNat]? with
    | none => (deep7 W deep, 0)
    | some f => blocks7 m inp fuel none f (fuel - W.t.steps).toNat.succ (deep7 W deep) 0 args
  | d + 1, W, s, args => match m.funcs[(find5 (fnames m) s).toNat]? with
    | none => (deep7 W (deep - (d + 1 : Nat)), 0)
    | some f => blocks7 m inp fuel (some (call7 m inp fuel deep d)) f (fuel - W.t.steps).toNat.succ (deep7 W (deep - (d + 1 : Nat))) 0 args
def calOf (m : DMod) (inp : ByteArray) (fuel deep : Int) : Nat → Cal
  | 0 => none
  | d + 1 => some (call7 m inp fuel deep d)
theorem call7_eq {m : DMod} {inp : ByteArray} {fuel deep : Int} {d : Nat} {W : DW} {s : ByteArray} {args : List Int} {f : DFunc} (hf : m.funcs[(find5 (fnames m) s).toNat]? = some f) :
    call7 m inp fuel deep d W s args = blocks7 m inp fuel (calOf m inp fuel deep d) f (fuel - W.t.steps).toNat.succ (deep7 W (deep - d)) 0 args := by
  cases d with
  | zero => simp only [call7, hf, calOf, Int.ofNat_zero, Int.natCast_zero, Int.sub_zero]
  | succ d => simp only [call7, hf, calOf]
def run7 (m : DMod) (inp : ByteArray) (fuel deep : Int) : DTr × Int :=
  if fuel < 0 ∨ 100000 < fuel ∨ deep < 1 ∨ 64 < deep then (tr0, 1)
  else if whole7 m ≠ 0 then (tr0, whole7 m)
  else if (call7 m inp fuel deep (deep - 1).toNat ⟨tr0, m.globs.map (·.init), 0⟩ mainB []).1.bad ≠ 0 then ((call7 m inp fuel deep (deep - 1).toNat ⟨tr0, m.globs.map (·.init), 0⟩ mainB []).1.t, (call7 m inp fuel deep (deep - 1).toNat ⟨tr0, m.globs.map (·.init), 0⟩ mainB []).1.bad)
  else ({ (call7 m inp fuel deep (deep - 1).toNat ⟨tr0, m.globs.map (·.init), 0⟩ mainB []).1.t with ended := true, code := (call7 m inp fuel deep (deep - 1).toNat ⟨tr0, m.globs.map (·.init), 0⟩ mainB []).2 }, 0)

/-! ### What stays so -/
/-- 's': how many steps have been counted ahead of what they do. -/
structure Inv7 (m : DMod) (fuel : Int) (s : Int) (W : DW) : Prop where
  gl : W.globs.length = m.globs.length
  r0 : 0 ≤ W.t.read
  rd : W.t.read + s ≤ W.t.steps
  s0 : 0 ≤ W.t.steps
  sf : W.t.steps ≤ fuel
  out : (W.t.out.size : Int) + s ≤ W.t.steps
theorem Inv7.less {m : DMod} {fuel : Int} {W : DW} (h : Inv7 m fuel 1 W) : Inv7 m fuel 0 W := ⟨h.gl, h.r0, by have := h.rd; omega, h.s0, h.sf, by have := h.out; omega⟩
theorem Inv7.bad {m : DMod} {fuel s : Int} {W : DW} (h : Inv7 m fuel s W) (z : Int) : Inv7 m fuel s { W with bad := z } := ⟨h.gl, h.r0, h.rd, h.s0, h.sf, h.out⟩
theorem Inv7.deep {m : DMod} {fuel s : Int} {W : DW} (h : Inv7 m fuel s W) (n : Int) : Inv7 m fuel s (deep7 W n) := by
  unfold deep7
  split
  · exact ⟨h.gl, h.r0, h.rd, h.s0, h.sf, h.out⟩
  · exact h
theorem deep7_globs (W : DW) (n : Int) : (deep7 W n).globs = W.globs := by unfold deep7; split <;> rfl
theorem deep7_steps (W : DW) (n : Int) : (deep7 W n).t.steps = W.t.steps := by unfold deep7; split <;> rfl
theorem deep7_bad (W : DW) (n : Int) : (deep7 W n).bad = W.bad := by unfold deep7; split <;> rfl
theorem Inv7.step0 {m : DMod} {fuel : Int} {W : DW} (h : Inv7 m fuel 0 W) : Inv7 m fuel 0 (step7 W fuel) := by
  obtain ⟨h1, h2, h3, h4, h5, h6⟩ := h
  unfold step7
  split
  · exact ⟨h1, h2, h3, h4, h5, h6⟩
  · exact ⟨h1, h2, by simp only; omega, by simp only; omega, by simp only; omega, by simp only; omega⟩
theorem Inv7.step1 {m : DMod} {fuel : Int} {W : DW} (h : Inv7 m fuel 0 W) (hb : (step7 W fuel).bad = 0) : Inv7 m fuel 1 (step7 W fuel) := by
  obtain ⟨h1, h2, h3, h4, h5, h6⟩ := h
  unfold step7 at hb ⊢
  split
  · rename_i e; rw [if_pos e] at hb; simp at hb
  · exact ⟨h1, h2, by simp only; omega, by simp only; omega, by simp only; omega, by simp only; omega⟩
theorem step7_globs (W : DW) (fuel : Int) : (step7 W fuel).globs = W.globs := by unfold step7; split <;> rfl
theorem step7_steps {W : DW} {fuel : Int} (hb : (step7 W fuel).bad = 0) : (step7 W fuel).t.steps = W.t.steps + 1 := by
  unfold step7 at hb ⊢
  split
  · rename_i e; rw [if_pos e] at hb; simp at hb
  · rfl
theorem step7_le (W : DW) (fuel : Int) : W.t.steps ≤ (step7 W fuel).t.steps := by unfold step7; split <;> (simp only; omega)
theorem byte_size (s : ByteArray) (z : UInt8) : (s ++ (⟨#[z]⟩ : ByteArray)).size = s.size + 1 := by rw [ByteArray.size_append]; rfl
theorem gives7_inv {m : DMod} {fuel : Int} {W : DW} {inp : ByteArray} {x : DInst} {vals : List Int} (h : Inv7 m fuel 1 W) : Inv7 m fuel 0 (gives7 m W inp x vals).1 ∧ (gives7 m W inp x vals).1.bad = W.bad ∧ (gives7 m W inp x vals).1.t.steps = W.t.steps := by
  have h0 := h.less
  obtain ⟨h1, h2, h3, h4, h5, h6⟩ := h
  unfold gives7
  split
  · exact ⟨h0, rfl, rfl⟩
  split
  · exact ⟨h0, rfl, rfl⟩
  split
  · exact ⟨⟨by simp [h1], h2, h0.rd, h4, h5, h0.out⟩, rfl, rfl⟩
  split
  · split
    · exact ⟨h0, rfl, rfl⟩
    · exact ⟨⟨h1, by simp only; omega, by simp only; omega, h4, h5, h0.out⟩, rfl, rfl⟩
  split
  · exact ⟨⟨h1, h2, h0.rd, h4, h5, by simp only [byte_size]; omega⟩, rfl, rfl⟩
  · exact ⟨h0, rfl, rfl⟩
/-- What is called keeps what stays so. -/
def CalInv (m : DMod) (fuel : Int) (cal : Cal) : Prop := ∀ c, cal = some c → ∀ W s args, Inv7 m fuel 0 W → Inv7 m fuel 0 (c W s args).1 ∧ W.t.steps ≤ (c W s args).1.t.steps
section
variable {m : DMod} {inp : ByteArray} {fuel : Int} {cal : Cal}
theorem ins7_inv (hc : CalInv m fuel cal) {W : DW} {vals : List Int} {x : DInst} (h : Inv7 m fuel 1 W) : Inv7 m fuel 0 (ins7 m inp cal W vals x).1 ∧ W.t.steps ≤ (ins7 m inp cal W vals x).1.t.steps := by
  unfold ins7
  split
  · cases hcal : cal with
    | none => exact ⟨h.less.bad 13, Int.le_refl _⟩
    | some c => exact hc c hcal W _ _ h.less
  · have h1 := gives7_inv (inp := inp) (x := x) (vals := vals) h
    exact ⟨h1.1, by rw [h1.2.2]; exact Int.le_refl _⟩
theorem body7_inv (hc : CalInv m fuel cal) : ∀ (l : List DInst) (W : DW) (vals : List Int), Inv7 m fuel 0 W → Inv7 m fuel 0 (body7 m inp fuel cal W vals l).1 ∧ W.t.steps ≤ (body7 m inp fuel cal W vals l).1.t.steps
  | [], W, vals, h => ⟨h, Int.le_refl _⟩
  | x :: r, W, vals, h => by
    unfold body7
    have hl := step7_le W fuel
    by_cases h1 : (step7 W fuel).bad ≠ 0
    · rw [if_pos h1]; exact ⟨h.step0, hl⟩
    · rw [if_neg h1]
      have h2 := ins7_inv (inp := inp) hc (vals := vals) (x := x) (h.step1 (Classical.not_not.1 h1))
      split
      · exact ⟨h2.1, by simp only; omega⟩
      · have h3 := body7_inv hc r _ (vals ++ [(ins7 m inp cal (step7 W fuel) vals x).2]) h2.1
        exact ⟨h3.1, by omega⟩
theorem blocks7_inv (hc : CalInv m fuel cal) {f : DFunc} : ∀ (g : Nat) (W : DW) (a : Int) (vals : List Int), Inv7 m fuel 0 W → Inv7 m fuel 0 (blocks7 m inp fuel cal f g W a vals).1 ∧ W.t.steps ≤ (blocks7 m inp fuel cal f g W a vals).1.t.steps
  | 0, W, _, _, h => ⟨h, Int.le_refl _⟩
  | g + 1, W, a, vals, h => by
    unfold blocks7
    cases f.blocks[a.toNat]? with
    | none => exact ⟨h, Int.le_refl _⟩
    | some b =>
      have h1 := body7_inv (inp := inp) hc b.ins W vals h
      have h2 := step7_le (body7 m inp fuel cal W vals b.ins).1 fuel
      dsimp only
      split
      · exact h1
      split
      · exact ⟨h1.1.step0, by simp only; omega⟩
      split
      · exact ⟨h1.1.step0, by simp only; omega⟩
      · have h3 := blocks7_inv hc (f := f) g _ (next7 b.fin (body7 m inp fuel cal W vals b.ins).2).1 (next7 b.fin (body7 m inp fuel cal W vals b.ins).2).2 h1.1.step0
        exact ⟨h3.1, by omega⟩
theorem call7_inv {deep : Int} : ∀ (d : Nat) (W : DW) (s : ByteArray) (args : List Int), Inv7 m fuel 0 W → Inv7 m fuel 0 (call7 m inp fuel deep d W s args).1 ∧ W.t.steps ≤ (call7 m inp fuel deep d W s args).1.t.steps
  | 0, W, s, args, h => by
    unfold call7
    cases m.funcs[(find5 (fnames m) s).toNat]? with
    | none => exact ⟨h.deep _, by rw [deep7_steps]; exact Int.le_refl _⟩
    | some f =>
      have := blocks7_inv (m := m) (inp := inp) (fuel := fuel) (cal := none) (fun c e => by cases e) (f := f) (fuel - W.t.steps).toNat.succ _ 0 args (h.deep deep)
      rw [deep7_steps] at this; exact this
  | d + 1, W, s, args, h => by
    unfold call7
    cases m.funcs[(find5 (fnames m) s).toNat]? with
    | none => exact ⟨h.deep _, by rw [deep7_steps]; exact Int.le_refl _⟩
    | some f =>
      have := blocks7_inv (m := m) (inp := inp) (fuel := fuel) (cal := some (call7 m inp fuel deep d)) (fun c e => by cases e; exact call7_inv d) (f := f) (fuel - W.t.steps).toNat.succ _ 0 args (h.deep (deep - (d + 1 : Nat)))
      rw [deep7_steps] at this; exact this
theorem calOf_inv {deep : Int} (d : Nat) : CalInv m fuel (calOf m inp fuel deep d) := by
  cases d with
  | zero => exact fun c e => by cases e
  | succ d => exact fun c e => by cases e; exact call7_inv d

/-! ### A block's run, step by step -/
theorem drop_next {α : Type} {l : List α} {j : Nat} {x : α} (h : l[j]? = some x) : l.drop j = x :: l.drop (j + 1) := by
  obtain ⟨h1, h2⟩ := List.getElem?_eq_some_iff.1 h
  rw [← h2]; exact List.drop_eq_getElem_cons h1
theorem body7_stop {W W' : DW} {vals : List Int} {l : List DInst} {j : Nat} {x : DInst} (hx : l[j]? = some x) (hw : step7 W fuel = W') (hb : W'.bad ≠ 0) : body7 m inp fuel cal W vals (l.drop j) = (W', vals) := by
  subst hw; rw [drop_next hx, body7, if_pos hb]
theorem body7_bad {W W' W2 : DW} {k : Int} {vals : List Int} {l : List DInst} {j : Nat} {x : DInst} (hx : l[j]? = some x) (hw : step7 W fuel = W') (hb : W'.bad = 0) (hi : ins7 m inp cal W' vals x = (W2, k)) (hb2 : W2.bad ≠ 0) : body7 m inp fuel cal W vals (l.drop j) = (W2, vals) := by
  subst hw; rw [drop_next hx, body7, if_neg (by rw [hb]; simp), hi, if_pos hb2]
theorem body7_go {W W' W2 : DW} {k : Int} {vals : List Int} {l : List DInst} {j : Nat} {x : DInst} (hx : l[j]? = some x) (hw : step7 W fuel = W') (hb : W'.bad = 0) (hi : ins7 m inp cal W' vals x = (W2, k)) (hb2 : W2.bad = 0) : body7 m inp fuel cal W vals (l.drop j) = body7 m inp fuel cal W2 (vals ++ [k]) (l.drop (j + 1)) := by
  subst hw; rw [drop_next hx, body7, if_neg (by rw [hb]; simp), hi, if_neg (by simp only; rw [hb2]; simp)]
theorem body7_end {W : DW} {vals : List Int} {l : List DInst} {j : Nat} (hj : l.length ≤ j) : body7 m inp fuel cal W vals (l.drop j) = (W, vals) := by
  rw [List.drop_eq_nil_of_le hj]; rfl
variable {f : DFunc} {g : Nat} {W W' W2 : DW} {a : Int} {vals vals' : List Int} {b : DBlock}
theorem blocks7_bad (hb : f.blocks[a.toNat]? = some b) (hg : 0 < g) (h : body7 m inp fuel cal W vals b.ins = (W', vals')) (h0 : W'.bad ≠ 0) : blocks7 m inp fuel cal f g W a vals = (W', 0) := by
  cases g with
  | zero => omega
  | succ g => rw [blocks7, hb]; dsimp only; rw [h, if_pos h0]
theorem blocks7_stop (hb : f.blocks[a.toNat]? = some b) (hg : 0 < g) (h : body7 m inp fuel cal W vals b.ins = (W', vals')) (h0 : W'.bad = 0) (hs : step7 W' fuel = W2) (h1 : W2.bad ≠ 0) : blocks7 m inp fuel cal f g W a vals = (W2, 0) := by
  subst hs
  cases g with
  | zero => omega
  | succ g => rw [blocks7, hb]; dsimp only; rw [h]; dsimp only; rw [if_neg (by rw [h0]; simp), if_pos h1]
theorem blocks7_ret (hb : f.blocks[a.toNat]? = some b) (hg : 0 < g) (h : body7 m inp fuel cal W vals b.ins = (W', vals')) (h0 : W'.bad = 0) (hs : step7 W' fuel = W2) (h1 : W2.bad = 0) (hk : b.fin.kind = 3) : blocks7 m inp fuel cal f g W a vals = (W2, vals'.getD b.fin.a.toNat 0) := by
  subst hs
  cases g with
  | zero => omega
  | succ g => rw [blocks7, hb]; dsimp only; rw [h]; dsimp only; rw [if_neg (by rw [h0]; simp), if_neg (by rw [h1]; simp), if_pos hk]
theorem blocks7_go (hb : f.blocks[a.toNat]? = some b) (hg : 0 < g) (h : body7 m inp fuel cal W vals b.ins = (W', vals')) (h0 : W'.bad = 0) (hs : step7 W' fuel = W2) (h1 : W2.bad = 0) (hk : b.fin.kind ≠ 3) : blocks7 m inp fuel cal f g W a vals = blocks7 m inp fuel cal f (g - 1) W2 (next7 b.fin vals').1 (next7 b.fin vals').2 := by
  subst hs
  cases g with
  | zero => omega
  | succ g => rw [blocks7, hb]; dsimp only; rw [h]; dsimp only; rw [if_neg (by rw [h0]; simp), if_neg (by rw [h1]; simp), if_neg hk]; rfl
end

/-! ### A whole module's calls -/
theorem whole7_all {m : DMod} (h : whole7 m = 0) : check5 m = 0 ∧ (∃ f, m.funcs[(find5 (fnames m) mainB).toNat]? = some f ∧ 0 ≤ find5 (fnames m) mainB ∧ f.blocks ≠ [] ∧ f.params = 0) ∧ ∀ s ∈ m.funcs.flatMap refs5, open7 m s = false := by
  unfold whole7 at h
  split at h
  · rename_i h1; exact absurd h h1
  rename_i h1
  split at h
  · omega
  rename_i h2
  cases hf : m.funcs[(find5 (fnames m) mainB).toNat]? with
  | none => rw [hf] at h; simp at h
  | some f =>
    rw [hf] at h
    dsimp only at h
    split at h
    · omega
    rename_i h3
    split at h
    · omega
    rename_i h4
    refine ⟨Classical.not_not.1 h1, ⟨f, rfl, by omega, fun e => h3 (.inl (by rw [e]; rfl)), ?_⟩, fun s hs => ?_⟩
    · exact Classical.not_not.1 fun e => h3 (.inr e)
    · cases e : open7 m s with
      | false => rfl
      | true => exact absurd (List.any_eq_true.2 ⟨s, hs, e⟩) h4
theorem mem_refs {f : DFunc} {b : DBlock} {x : DInst} (hb : b ∈ f.blocks) (hx : x ∈ b.ins) (hn : named5 x = true) : x.name ∈ refs5 f :=
  List.mem_map.2 ⟨x, List.mem_filter.2 ⟨List.mem_flatMap.2 ⟨b, hb, hx⟩, hn⟩, rfl⟩
theorem whole7_call {m : DMod} (h : whole7 m = 0) {f : DFunc} {b : DBlock} {x : DInst} (hf : f ∈ m.funcs) (hb : b ∈ f.blocks) (hx : x ∈ b.ins) (ho : x.op = 14) :
    ∃ g, m.funcs[(find5 (fnames m) x.name).toNat]? = some g ∧ 0 ≤ find5 (fnames m) x.name ∧ g.blocks ≠ [] ∧ g.params = (x.args.length : Int) := by
  obtain ⟨hc, _, hr⟩ := whole7_all h
  obtain ⟨_, _, _, _, _, hbad, hodd⟩ := check5_all hc
  have hxi := mem_insts hf hb hx
  have h1 := hbad x hxi
  have h2 := hodd x hxi
  have h3 := hr x.name (List.mem_flatMap.2 ⟨f, hf, mem_refs hb hx (by unfold named5; simp [ho])⟩)
  unfold bad5 at h1
  simp only [Bool.or_eq_false_iff, Bool.and_eq_false_iff, decide_eq_false_iff_not] at h1
  have h0 : 0 ≤ find5 (fnames m) x.name := by omega
  unfold open7 at h3
  rw [if_pos h0] at h3
  unfold odd5 at h2
  simp only [ho, decide_true, Bool.true_and] at h2
  have hlt := find5_lt (m := m) (s := x.name) rfl h0
  obtain ⟨g, hg⟩ : ∃ g, m.funcs[(find5 (fnames m) x.name).toNat]? = some g := ⟨_, List.getElem?_eq_getElem hlt⟩
  rw [hg] at h2 h3
  dsimp only at h2 h3
  refine ⟨g, hg, h0, fun e => ?_, ?_⟩
  · rw [e] at h3; simp at h3
  · simpa using h2
theorem whole7_glob {m : DMod} (h : whole7 m = 0) {f : DFunc} {b : DBlock} {x : DInst} (hf : f ∈ m.funcs) (hb : b ∈ f.blocks) (hx : x ∈ b.ins) (ho : x.op = 12 ∨ x.op = 13) :
    0 ≤ find5 (gnames m) x.name ∧ (find5 (gnames m) x.name).toNat < m.globs.length := by
  obtain ⟨hc, _, _⟩ := whole7_all h
  obtain ⟨_, _, _, _, _, hbad, _⟩ := check5_all hc
  have h1 := hbad x (mem_insts hf hb hx)
  unfold bad5 at h1
  simp only [Bool.or_eq_false_iff, Bool.and_eq_false_iff, decide_eq_false_iff_not] at h1
  have h0 : 0 ≤ find5 (gnames m) x.name := by omega
  exact ⟨h0, find5_ltg rfl h0⟩
theorem entry5 {f : DFunc} (h : func5 f = true) {b : DBlock} (hb : f.blocks[(0 : Int).toNat]? = some b) : b.params = f.params := by
  unfold func5 at h
  split at h
  · cases h
  split at h
  · rename_i e; rw [e] at hb; simp at hb
  · rename_i c r e
    rw [e] at hb
    simp only [Int.toNat_zero, List.getElem?_cons_zero, Option.some.injEq] at hb
    simp only [Bool.and_eq_true, decide_eq_true_eq] at h
    rw [← hb]; exact h.1
theorem goes5_to {f : DFunc} {to : Int} {args : List Int} {n : Int} (h : goes5 f to args n = true) : ∀ b, f.blocks[to.toNat]? = some b → (args.length : Int) = b.params := by
  unfold goes5 at h
  split at h
  · cases h
  · intro b hb
    rw [hb] at h
    dsimp only at h
    split at h
    · assumption
    · cases h
theorem next5 {f : DFunc} {t : DTerm} {n : Int} (h : term5 f t n = true) (hk : t.kind ≠ 3) : (∀ b, f.blocks[t.to.toNat]? = some b → (t.args.length : Int) = b.params) ∧ (t.kind = 2 → ∀ b, f.blocks[t.els.toNat]? = some b → (t.elses.length : Int) = b.params) := by
  unfold term5 at h
  split at h
  · rename_i h1
    simp only [Bool.and_eq_true, decide_eq_true_eq] at h
    exact ⟨goes5_to h.1.1.1, fun e => by omega⟩
  · split at h
    · simp only [Bool.and_eq_true, decide_eq_true_eq] at h
      exact ⟨goes5_to h.1.2, fun _ => goes5_to h.2⟩
    · simp only [Bool.and_eq_true, decide_eq_true_eq] at h
      exact absurd h.1.1.1.1.1 hk
theorem inst5_uses {x : DInst} {n : Int} (h : inst5 x n = true) : ((2 ≤ x.op ∧ x.op ≤ 11) ∨ x.op = 13 ∨ x.op = 16 → 0 ≤ x.a ∧ x.a < n) ∧ (2 ≤ x.op ∧ x.op ≤ 11 → 0 ≤ x.b ∧ x.b < n) ∧ (x.op = 14 → ∀ v ∈ x.args, 0 ≤ v ∧ v < n) := by
  obtain ⟨_, hu, _, _⟩ := inst5_all h
  unfold uses5 at hu
  refine ⟨fun ho => ?_, fun ho => ?_, fun ho v hv => ?_⟩
  · rcases ho with ho | ho
    · rw [if_pos ho] at hu; exact hu x.a (by simp)
    · rw [if_neg (by omega), if_pos ho] at hu; exact hu x.a (by simp)
  · rw [if_pos ho] at hu; exact hu x.b (by simp)
  · rw [if_neg (by omega), if_neg (by omega), if_pos ho] at hu; exact hu v hv
theorem byte8_int {v : Int} (h : 0 ≤ v) : IntKind.u8.wrap (v.tmod 256) = ((byte8 v).toNat : Int) := by
  have e : v.tmod 256 = v % 256 := Int.tmod_eq_emod_of_nonneg h
  have h1 : (byte8 v).toNat = (v % 256).toNat := by unfold byte8; rw [e, UInt8.toNat_ofNat']; omega
  rw [h1, e]
  unfold IntKind.wrap
  simp only [IntKind.signed, IntKind.bits]
  have e1 : (v % 256 % 2 ^ 8) = v % 256 := Int.emod_eq_of_lt (by omega) (by omega)
  simp [e1]
  omega
theorem byteAt_in (s : ByteArray) (i : Int) : inU (byteAt s i) := by
  unfold byteAt inU
  have := (s.data.toList.getD i.toNat 0).toNat_lt
  omega
theorem byteAt_get {s : ByteArray} {i : Int} (h0 : 0 ≤ i) (h1 : i < s.size) : (((s[i.toNat]'(by omega)).toNat : Nat) : Int) = byteAt s i := by
  unfold byteAt
  have h2 : i.toNat < s.data.toList.length := by rw [Array.length_toList]; show i.toNat < s.size; omega
  rw [List.getD_eq_getElem?_getD, List.getElem?_eq_getElem h2]
  simp only [Option.getD_some, Array.getElem_toList]
  rfl
end Go.Proofs.Ytdlcmhkfglckfaa
