/-
  Contracts of layer 9 (resolve). No condition beyond those that each theorem states.
-/
import Derived.Test.YtapjejjmhmdmdaaDoorQ3
namespace Go.Proofs.YtapjejjmhmdmdaaDoor
open Go.RowKit
theorem agg_66 : tyAgg Tryd.prog 66 5 = true := by kernel_rfl
theorem fo_110_1 : fOff Tryd.prog 110 1 1 = true := by kernel_rfl
theorem fo_110_2 : fOff Tryd.prog 110 2 2 = true := by kernel_rfl
theorem fo_110_3 : fOff Tryd.prog 110 3 3 = true := by kernel_rfl
theorem fo_110_4 : fOff Tryd.prog 110 4 4 = true := by kernel_rfl
theorem fo_110_5 : fOff Tryd.prog 110 5 5 = true := by kernel_rfl
theorem isz_110 : (Tryd.prog.info? 110).map (·.size) = some 6 := by kernel_rfl
theorem siz_66 : tySize Tryd.prog 66 5 = true := by kernel_rfl
theorem zer_66 : tyZero Tryd.prog 66 = some [.string ⟨#[]⟩, .int .i64 0, .bool false, .bool false, .bool false] := by kernel_rfl
structure DDef where
  name : ByteArray
  mod : Int
  fn : Bool
  weak : Bool
  here : Bool
  deriving DecidableEq
def defL (x : DDef) : List Value := [.string x.name, .int .i64 x.mod, .bool x.fn, .bool x.weak, .bool x.here]
def defV (x : DDef) : Value := .agg (defL x).toArray
def DefC (cs : List Value) (x : DDef) : Prop := cs = defL x ∧ x.name.size ≤ maxLen ∧ inI x.mod
def ixI {α : Type} (p : α → Bool) (g : List α) : Int := (g.findIdx? p).elim (-1) fun i => (i : Int)
theorem find_next {α : Type} {p : α → Bool} {g : List α} {k : Nat} {x : α} (h : (g.take k).findIdx? p = none) (hx : g[k]? = some x) (hp : p x = false) : (g.take (k + 1)).findIdx? p = none := by
  rw [take_next hx, List.findIdx?_append, h]; simp [hp]
theorem find_here {α : Type} {p : α → Bool} {g : List α} {k : Nat} {x : α} (h : (g.take k).findIdx? p = none) (hx : g[k]? = some x) (hp : p x = true) : ixI p g = k := by
  have hk : k < g.length := (List.getElem?_eq_some_iff.1 hx).1
  have e : g = g.take (k + 1) ++ g.drop (k + 1) := (List.take_append_drop _ _).symm
  unfold ixI
  rw [e, List.findIdx?_append, take_next hx, List.findIdx?_append, h]
  simp [hp, Nat.min_eq_left (Nat.le_of_lt hk)]
theorem find_end {α : Type} {p : α → Bool} {g : List α} (h : g.findIdx? p = none) : ixI p g = -1 := by unfold ixI; rw [h]; rfl
theorem ixI_cases {α : Type} (p : α → Bool) (g : List α) : (ixI p g = -1 ∧ g.any p = false) ∨ ∃ (i : Nat) (x : α), ixI p g = i ∧ g[i]? = some x ∧ p x = true ∧ g.any p = true := by
  unfold ixI
  cases h : g.findIdx? p with
  | none =>
    left
    rw [List.findIdx?_eq_none_iff] at h
    exact ⟨rfl, List.any_eq_false.2 fun x hx => by simp [h x hx]⟩
  | some i =>
    right
    rw [List.findIdx?_eq_some_iff_getElem] at h
    obtain ⟨hlt, hp, _⟩ := h
    exact ⟨i, _, rfl, List.getElem?_eq_getElem hlt, hp, List.any_eq_true.2 ⟨_, List.getElem_mem hlt, hp⟩⟩
theorem ixI_any {α : Type} (p : α → Bool) (g : List α) : decide (0 ≤ ixI p g) = g.any p := by
  rcases ixI_cases p g with ⟨h1, h2⟩ | ⟨i, x, h1, _, _, h2⟩
  · rw [h1, h2]; rfl
  · rw [h1, h2]; exact decide_eq_true (by omega)
theorem ixI_neg {α : Type} (p : α → Bool) (g : List α) : decide (ixI p g < 0) = !g.any p := by
  rcases ixI_cases p g with ⟨h1, h2⟩ | ⟨i, x, h1, _, _, h2⟩
  · rw [h1, h2]; rfl
  · rw [h1, h2]; exact decide_eq_false (by omega)
theorem ixI_nat {α : Type} {p : α → Bool} {g : List α} (h : ¬ ixI p g < 0) : ∃ i : Nat, ixI p g = (i : Int) ∧ i < g.length := by
  rcases ixI_cases p g with ⟨h1, _⟩ | ⟨i, x, h1, h2, _⟩
  · omega
  · exact ⟨i, h1, (List.getElem?_eq_some_iff.1 h2).1⟩
def item0 : DItem := ⟨⟨#[]⟩, 0, false, 0, false, false⟩
def odd9 (y x : DItem) : Bool := x.fn != y.fn || !decide (x.params = y.params)
def oddG (g : List DItem) : Bool := g.any fun x => odd9 (g.getD 0 item0) x
def sB9 (x : DItem) : Bool := x.here && x.strong
def hB9 (x : DItem) : Bool := x.here
def many9 (g : List DItem) : Int := ((g.filter sB9).length : Int)
def di9 (g : List DItem) : Nat := if ixI hB9 g < 0 then 0 else if ixI sB9 g < 0 then (ixI hB9 g).toNat else (ixI sB9 g).toNat
def def9 (g : List DItem) : DDef := ⟨(g.getD 0 item0).name, (g.getD (di9 g) item0).mod, (g.getD 0 item0).fn, decide (ixI sB9 g < 0), decide (0 ≤ ixI hB9 g)⟩
def missing9 (g : List DItem) : Bool := !g.any hB9 && g.any fun x => x.strong

theorem ixItem_ret {q : Nat} {fnq : Func} {caps : Array Value} (g : List (DItem)) (p : (DItem) → Bool) (vx : Value) {w : World} {ro : Nat → Prop} (hro : ∀ b, ro b → b < w.heap.size) (hx : SlV ro w 6 ItemC vx g) (hf : Tryd.prog.funcs[q]? = some fnq) (hfb : (fnq.body.isSome && !(fnq.name == "runtime.NumGoroutine")) = true) (hp : ∀ (x : DItem) (u : World), x ∈ g → Below w.heap.size w u → Ret Tryd.prog q (#[itemV x] ++ caps) u fun v u2 => v = .bool (p x) ∧ Below u.heap.size u u2) : Ret Tryd.prog 85 #[vx, .func (.func q) #[] caps] w fun v w' => v = .int .i64 (ixI p g) ∧ Below w.heap.size w w' := by
 obtain ⟨ad, cap, rfl, haa, hab, hac, had⟩ := id hx
 have ham : g.length ≤ 9223372036854775807 := by have h1 := haa; have h2 := hab; unfold maxLen at h2; omega
 refine Ret.enter (P := Tryd.prog) (n := 19) (args := [.slice ad g.length cap, .func (.func q) #[] caps]) (σ := [(0, .slice ad g.length cap), (1, .func (.func q) #[] caps)]) Tryd.func85 rfl rfl rfl rfl ?_
 have hS := St.start (ro := ro) hro
 refine W.seq (W.region (WL.assign rfl rfl rfl (WL.nil (N.seq (W.seq (W.seq (W.region (WL.move rfl rfl rfl (WL.lenSlice Tryd.underlying115 rfl rfl rfl ?_)))))))))
 refine WL.move rfl rfl rfl (WL.nil (N.seq (W.block ?_)))
 refine W.loop (α := Nat) (fun (k : Nat) => [(0, .slice ad g.length cap), (1, .func (.func q) #[] caps), (7, .int .i64 (g.length : Int)), (8, .int .i64 (k : Int))]) (fun (k : Nat) u => St w w u ro [] [] ∧ k ≤ g.length ∧ (g.take k).findIdx? p = none) (fun (k : Nat) => g.length - k) 0 ⟨rfl, rfl, rfl, rfl, trivial⟩ ⟨hS, Nat.zero_le _, rfl⟩ ?_
 clear hS
 rintro k w1 ⟨hS, hk, hno⟩
 refine W.seq (W.region (WL.bin rfl rfl rfl rfl rfl (WL.nil (N.seq (W.seq ?_)))))
 refine W.cond rfl (fun hc2 => ?_) (fun hc2 => ?_)
 ·
  have hc2p : (k : Int) < (g.length : Int) := by simpa using hc2
  refine W.skip (N.seq (W.seq (W.block (W.seq (W.region (WL.move rfl rfl rfl (WL.assign rfl rfl rfl (WL.nil (N.seq ?_)))))))))
  refine W.seq (W.region (WL.move rfl rfl rfl (WL.move rfl rfl rfl (WL.move rfl rfl rfl ?_))))
  have hj3 : k < g.length := by omega
  obtain ⟨x3, hx3⟩ : ∃ zz, g[k]? = some zz := ⟨_, List.getElem?_eq_getElem hj3⟩
  obtain ⟨b3, o3, cs3, hE3, hr3, hl3, hc3, hQ3⟩ := had k _ hx3
  obtain ⟨rfl, hin3, him3, hip3⟩ := hQ3
  refine WL.indexAddrE (j := k) Tryd.underlying115 isz_110 rfl rfl rfl rfl hj3 hE3 (WL.loadN (cs := [.string x3.name, .int .i64 x3.mod, .bool x3.fn, .int .i64 x3.params, .bool x3.here, .bool x3.strong]) agg_110 rfl rfl rfl rfl (hS.roCells hr3 hc3) ?_)
  refine WL.callV (vs := [.agg #[.string x3.name, .int .i64 x3.mod, .bool x3.fn, .int .i64 x3.params, .bool x3.here, .bool x3.strong]]) (cs := caps) hf hfb rfl rfl rfl rfl (hp x3 _ (List.mem_of_getElem? hx3) hS.below) ?_
  rintro v w4 ⟨rfl, hbl⟩
  replace hS := hS.grow hbl
  refine WL.nil (N.seq ?_)
  refine W.cond rfl (fun hc5 => ?_) (fun hc5 => ?_)
  ·
   refine W.seq (W.region (WL.move rfl rfl rfl (WL.assign rfl rfl rfl (WL.nil (N.seq ?_)))))
   refine Fin.ret1 rfl (v := .int .i64 (k : Int)) rfl ?_
   exact ⟨by rw [find_here hno hx3 hc5], hS.below⟩
  refine W.skip (N.blk (N.seq (W.region ?_)))
  refine WL.add (c := (k : Int) + 1) rfl rfl rfl rfl (rfl) (by omega) ?_
  refine WL.move rfl rfl rfl (WL.nil ?_)
  exact N.loop (k + 1) ⟨rfl, rfl, rfl, rfl, trivial⟩ ⟨hS, by omega, find_next hno hx3 hc5⟩ (by first | omega | (simp only; omega))
 have hc2p : ¬ ((k : Int) < (g.length : Int)) := by simpa using hc2
 refine W.exit (X.seq (X.loop (X.blk (N.seq (W.seq (W.region (WL.assign rfl rfl rfl (WL.nil (N.seq ?_)))))))))
 refine Fin.ret1 rfl (v := .int .i64 (-1)) rfl ?_
 have e : k = g.length := by omega
 subst e
 rw [List.take_length] at hno
 exact ⟨by rw [find_end hno], hS.below⟩

theorem coItem_ret {q : Nat} {fnq : Func} {caps : Array Value} (g : List (DItem)) (p : (DItem) → Bool) (vx : Value) {w : World} {ro : Nat → Prop} (hro : ∀ b, ro b → b < w.heap.size) (hx : SlV ro w 6 ItemC vx g) (hf : Tryd.prog.funcs[q]? = some fnq) (hfb : (fnq.body.isSome && !(fnq.name == "runtime.NumGoroutine")) = true) (hp : ∀ (x : DItem) (u : World), x ∈ g → Below w.heap.size w u → Ret Tryd.prog q (#[itemV x] ++ caps) u fun v u2 => v = .bool (p x) ∧ Below u.heap.size u u2) : Ret Tryd.prog 81 #[vx, .func (.func q) #[] caps] w fun v w' => v = .bool (g.any p) ∧ Below w.heap.size w w' := by
 obtain ⟨ad, cap, rfl, haa, hab, hac, had⟩ := id hx
 have ham : g.length ≤ 9223372036854775807 := by have h1 := haa; have h2 := hab; unfold maxLen at h2; omega
 refine Ret.enter (P := Tryd.prog) (n := 9) (args := [.slice ad g.length cap, .func (.func q) #[] caps]) (σ := [(0, .slice ad g.length cap), (1, .func (.func q) #[] caps)]) Tryd.func81 rfl rfl rfl rfl ?_
 have hS := St.start (ro := ro) hro
 refine W.seq (W.region (WL.assign rfl rfl rfl (WL.nil (N.seq (W.seq (W.region (WL.move rfl rfl rfl (WL.move rfl rfl rfl ?_))))))))
 refine WL.callF (vs := [.slice ad g.length cap, .func (.func q) #[] caps]) Tryd.func85 (by kernel_rfl) rfl rfl rfl (ixItem_ret g p _ (ro := ro) (fun b hb => (hS.snap b hb).1) (SlV.keep hx hS.alike (fun _ _ q => q)) hf hfb (fun x u hm hb => hp x u hm (hS.below.trans (hb.mono hS.below.size)))) ?_
 rintro v w1 ⟨rfl, hbl⟩
 replace hS := hS.grow hbl
 refine WL.bin rfl rfl rfl rfl rfl (WL.assign rfl rfl rfl (WL.nil (N.seq ?_)))
 refine Fin.ret1 rfl (v := .bool (decide (0 ≤ ixI p g))) rfl ?_
 exact ⟨by rw [ixI_any], hS.below⟩

theorem ixGroup_ret {q : Nat} {fnq : Func} {caps : Array Value} (g : List (List DItem)) (p : (List DItem) → Bool) (vx : Value) {w : World} {ro : Nat → Prop} (hro : ∀ b, ro b → b < w.heap.size) (hx : SlV ro w 1 (GroupC ro w) vx g) (hf : Tryd.prog.funcs[q]? = some fnq) (hfb : (fnq.body.isSome && !(fnq.name == "runtime.NumGoroutine")) = true) (hp : ∀ (x : List DItem) (sv : Value) (u : World), x ∈ g → SlV ro u 6 ItemC sv x → Below w.heap.size w u → Ret Tryd.prog q (#[sv] ++ caps) u fun v u2 => v = .bool (p x) ∧ Below u.heap.size u u2) : Ret Tryd.prog 56 #[vx, .func (.func q) #[] caps] w fun v w' => v = .int .i64 (ixI p g) ∧ Below w.heap.size w w' := by
 obtain ⟨ad, cap, rfl, haa, hab, hac, had⟩ := id hx
 have ham : g.length ≤ 9223372036854775807 := by have h1 := haa; have h2 := hab; unfold maxLen at h2; omega
 refine Ret.enter (P := Tryd.prog) (n := 19) (args := [.slice ad g.length cap, .func (.func q) #[] caps]) (σ := [(0, .slice ad g.length cap), (1, .func (.func q) #[] caps)]) Tryd.func56 rfl rfl rfl rfl ?_
 have hS := St.start (ro := ro) hro
 refine W.seq (W.region (WL.assign rfl rfl rfl (WL.nil (N.seq (W.seq (W.seq (W.region (WL.move rfl rfl rfl (WL.lenSlice Tryd.underlying111 rfl rfl rfl ?_)))))))))
 refine WL.move rfl rfl rfl (WL.nil (N.seq (W.block ?_)))
 refine W.loop (α := Nat) (fun (k : Nat) => [(0, .slice ad g.length cap), (1, .func (.func q) #[] caps), (7, .int .i64 (g.length : Int)), (8, .int .i64 (k : Int))]) (fun (k : Nat) u => St w w u ro [] [] ∧ k ≤ g.length ∧ (g.take k).findIdx? p = none) (fun (k : Nat) => g.length - k) 0 ⟨rfl, rfl, rfl, rfl, trivial⟩ ⟨hS, Nat.zero_le _, rfl⟩ ?_
 clear hS
 rintro k w1 ⟨hS, hk, hno⟩
 refine W.seq (W.region (WL.bin rfl rfl rfl rfl rfl (WL.nil (N.seq (W.seq ?_)))))
 refine W.cond rfl (fun hc2 => ?_) (fun hc2 => ?_)
 ·
  have hc2p : (k : Int) < (g.length : Int) := by simpa using hc2
  refine W.skip (N.seq (W.seq (W.block (W.seq (W.region (WL.move rfl rfl rfl (WL.assign rfl rfl rfl (WL.nil (N.seq ?_)))))))))
  refine W.seq (W.region (WL.move rfl rfl rfl (WL.move rfl rfl rfl (WL.move rfl rfl rfl ?_))))
  have hj3 : k < g.length := by omega
  obtain ⟨x3, hx3⟩ : ∃ zz, g[k]? = some zz := ⟨_, List.getElem?_eq_getElem hj3⟩
  obtain ⟨b3, o3, cs3, hE3, hr3, hl3, hc3, hQ3⟩ := had k _ hx3
  have hQk3 := hQ3
  obtain ⟨sg3, rfl, hsg3⟩ := hQ3
  obtain ⟨adg3, capg3, rfl, hsg3a, hsg3b, hsg3c, hsg3d⟩ := id hsg3
  have hsg3m : x3.length ≤ 9223372036854775807 := by have h1 := hsg3a; have h2 := hsg3b; unfold maxLen at h2; omega
  refine WL.indexAddrE (j := k) Tryd.underlying111 isz_115 rfl rfl rfl rfl hj3 hE3 (WL.load1 (v := .slice adg3 x3.length capg3) one_115 rfl rfl rfl (hS.roCells hr3 hc3 0 _ rfl) ?_)
  refine WL.callV (vs := [.slice adg3 x3.length capg3]) (cs := caps) hf hfb rfl rfl rfl rfl (hp x3 _ _ (List.mem_of_getElem? hx3) (SlV.keep hsg3 hS.alike (fun _ _ q => q)) hS.below) ?_
  rintro v w4 ⟨rfl, hbl⟩
  replace hS := hS.grow hbl
  refine WL.nil (N.seq ?_)
  refine W.cond rfl (fun hc5 => ?_) (fun hc5 => ?_)
  ·
   refine W.seq (W.region (WL.move rfl rfl rfl (WL.assign rfl rfl rfl (WL.nil (N.seq ?_)))))
   refine Fin.ret1 rfl (v := .int .i64 (k : Int)) rfl ?_
   exact ⟨by rw [find_here hno hx3 hc5], hS.below⟩
  refine W.skip (N.blk (N.seq (W.region ?_)))
  refine WL.add (c := (k : Int) + 1) rfl rfl rfl rfl (rfl) (by omega) ?_
  refine WL.move rfl rfl rfl (WL.nil ?_)
  exact N.loop (k + 1) ⟨rfl, rfl, rfl, rfl, trivial⟩ ⟨hS, by omega, find_next hno hx3 hc5⟩ (by first | omega | (simp only; omega))
 have hc2p : ¬ ((k : Int) < (g.length : Int)) := by simpa using hc2
 refine W.exit (X.seq (X.loop (X.blk (N.seq (W.seq (W.region (WL.assign rfl rfl rfl (WL.nil (N.seq ?_)))))))))
 refine Fin.ret1 rfl (v := .int .i64 (-1)) rfl ?_
 have e : k = g.length := by omega
 subst e
 rw [List.take_length] at hno
 exact ⟨by rw [find_end hno], hS.below⟩

theorem coGroup_ret {q : Nat} {fnq : Func} {caps : Array Value} (g : List (List DItem)) (p : (List DItem) → Bool) (vx : Value) {w : World} {ro : Nat → Prop} (hro : ∀ b, ro b → b < w.heap.size) (hx : SlV ro w 1 (GroupC ro w) vx g) (hf : Tryd.prog.funcs[q]? = some fnq) (hfb : (fnq.body.isSome && !(fnq.name == "runtime.NumGoroutine")) = true) (hp : ∀ (x : List DItem) (sv : Value) (u : World), x ∈ g → SlV ro u 6 ItemC sv x → Below w.heap.size w u → Ret Tryd.prog q (#[sv] ++ caps) u fun v u2 => v = .bool (p x) ∧ Below u.heap.size u u2) : Ret Tryd.prog 49 #[vx, .func (.func q) #[] caps] w fun v w' => v = .bool (g.any p) ∧ Below w.heap.size w w' := by
 obtain ⟨ad, cap, rfl, haa, hab, hac, had⟩ := id hx
 have ham : g.length ≤ 9223372036854775807 := by have h1 := haa; have h2 := hab; unfold maxLen at h2; omega
 refine Ret.enter (P := Tryd.prog) (n := 9) (args := [.slice ad g.length cap, .func (.func q) #[] caps]) (σ := [(0, .slice ad g.length cap), (1, .func (.func q) #[] caps)]) Tryd.func49 rfl rfl rfl rfl ?_
 have hS := St.start (ro := ro) hro
 refine W.seq (W.region (WL.assign rfl rfl rfl (WL.nil (N.seq (W.seq (W.region (WL.move rfl rfl rfl (WL.move rfl rfl rfl ?_))))))))
 refine WL.callF (vs := [.slice ad g.length cap, .func (.func q) #[] caps]) Tryd.func56 (by kernel_rfl) rfl rfl rfl (ixGroup_ret g p _ (ro := ro) (fun b hb => (hS.snap b hb).1) (SlV.keep hx hS.alike (fun _ _ q => q.keep hS.alike)) hf hfb (fun x sv u hm hs hb => hp x sv u hm hs (hS.below.trans (hb.mono hS.below.size)))) ?_
 rintro v w1 ⟨rfl, hbl⟩
 replace hS := hS.grow hbl
 refine WL.bin rfl rfl rfl rfl rfl (WL.assign rfl rfl rfl (WL.nil (N.seq ?_)))
 refine Fin.ret1 rfl (v := .bool (decide (0 ≤ ixI p g))) rfl ?_
 exact ⟨by rw [ixI_any], hS.below⟩

theorem missing1_ret (x : DItem) {w : World} {ro : Nat → Prop} (hro : ∀ b, ro b → b < w.heap.size) : Ret Tryd.prog 83 #[.agg #[.string x.name, .int .i64 x.mod, .bool x.fn, .int .i64 x.params, .bool x.here, .bool x.strong]] w fun v w' => v = .bool (x.here) ∧ Below w.heap.size w w' := by
 refine Ret.enter (P := Tryd.prog) (n := 5) (args := [.agg #[.string x.name, .int .i64 x.mod, .bool x.fn, .int .i64 x.params, .bool x.here, .bool x.strong]]) (σ := [(0, .agg #[.string x.name, .int .i64 x.mod, .bool x.fn, .int .i64 x.params, .bool x.here, .bool x.strong])]) Tryd.func83 rfl rfl rfl rfl ?_
 have hS := St.start (ro := ro) hro
 refine W.seq (W.region ?_)
 refine WL.box (v := .agg #[.string x.name, .int .i64 x.mod, .bool x.fn, .int .i64 x.params, .bool x.here, .bool x.strong]) (cs := [.string x.name, .int .i64 x.mod, .bool x.fn, .int .i64 x.params, .bool x.here, .bool x.strong]) rfl rfl rfl rfl hS ?_
 clear hS; intro w2 b1 hb_b1 hS
 refine WL.assign rfl rfl rfl (WL.nil (N.seq (W.seq (W.region (WL.fieldAddr fo_110_4 rfl rfl rfl (WL.load1 (v := .bool x.here) one_4 rfl rfl rfl (hS.cell 0 rfl rfl) (WL.assign rfl rfl rfl (WL.nil (N.seq ?_)))))))))
 refine Fin.ret1 rfl (v := .bool x.here) rfl ?_
 exact ⟨rfl, hS.below⟩

theorem missing2_ret (x : DItem) {w : World} {ro : Nat → Prop} (hro : ∀ b, ro b → b < w.heap.size) : Ret Tryd.prog 84 #[.agg #[.string x.name, .int .i64 x.mod, .bool x.fn, .int .i64 x.params, .bool x.here, .bool x.strong]] w fun v w' => v = .bool (x.strong) ∧ Below w.heap.size w w' := by
 refine Ret.enter (P := Tryd.prog) (n := 5) (args := [.agg #[.string x.name, .int .i64 x.mod, .bool x.fn, .int .i64 x.params, .bool x.here, .bool x.strong]]) (σ := [(0, .agg #[.string x.name, .int .i64 x.mod, .bool x.fn, .int .i64 x.params, .bool x.here, .bool x.strong])]) Tryd.func84 rfl rfl rfl rfl ?_
 have hS := St.start (ro := ro) hro
 refine W.seq (W.region ?_)
 refine WL.box (v := .agg #[.string x.name, .int .i64 x.mod, .bool x.fn, .int .i64 x.params, .bool x.here, .bool x.strong]) (cs := [.string x.name, .int .i64 x.mod, .bool x.fn, .int .i64 x.params, .bool x.here, .bool x.strong]) rfl rfl rfl rfl hS ?_
 clear hS; intro w2 b1 hb_b1 hS
 refine WL.assign rfl rfl rfl (WL.nil (N.seq (W.seq (W.region (WL.fieldAddr fo_110_5 rfl rfl rfl (WL.load1 (v := .bool x.strong) one_4 rfl rfl rfl (hS.cell 0 rfl rfl) (WL.assign rfl rfl rfl (WL.nil (N.seq ?_)))))))))
 refine Fin.ret1 rfl (v := .bool x.strong) rfl ?_
 exact ⟨rfl, hS.below⟩

theorem def2_ret (x : DItem) {w : World} {ro : Nat → Prop} (hro : ∀ b, ro b → b < w.heap.size) : Ret Tryd.prog 87 #[.agg #[.string x.name, .int .i64 x.mod, .bool x.fn, .int .i64 x.params, .bool x.here, .bool x.strong]] w fun v w' => v = .bool (x.here) ∧ Below w.heap.size w w' := by
 refine Ret.enter (P := Tryd.prog) (n := 5) (args := [.agg #[.string x.name, .int .i64 x.mod, .bool x.fn, .int .i64 x.params, .bool x.here, .bool x.strong]]) (σ := [(0, .agg #[.string x.name, .int .i64 x.mod, .bool x.fn, .int .i64 x.params, .bool x.here, .bool x.strong])]) Tryd.func87 rfl rfl rfl rfl ?_
 have hS := St.start (ro := ro) hro
 refine W.seq (W.region ?_)
 refine WL.box (v := .agg #[.string x.name, .int .i64 x.mod, .bool x.fn, .int .i64 x.params, .bool x.here, .bool x.strong]) (cs := [.string x.name, .int .i64 x.mod, .bool x.fn, .int .i64 x.params, .bool x.here, .bool x.strong]) rfl rfl rfl rfl hS ?_
 clear hS; intro w2 b1 hb_b1 hS
 refine WL.assign rfl rfl rfl (WL.nil (N.seq (W.seq (W.region (WL.fieldAddr fo_110_4 rfl rfl rfl (WL.load1 (v := .bool x.here) one_4 rfl rfl rfl (hS.cell 0 rfl rfl) (WL.assign rfl rfl rfl (WL.nil (N.seq ?_)))))))))
 refine Fin.ret1 rfl (v := .bool x.here) rfl ?_
 exact ⟨rfl, hS.below⟩

theorem def1_ret (x : DItem) {w : World} {ro : Nat → Prop} (hro : ∀ b, ro b → b < w.heap.size) : Ret Tryd.prog 86 #[.agg #[.string x.name, .int .i64 x.mod, .bool x.fn, .int .i64 x.params, .bool x.here, .bool x.strong]] w fun v w' => v = .bool (sB9 x) ∧ Below w.heap.size w w' := by
 refine Ret.enter (P := Tryd.prog) (n := 9) (args := [.agg #[.string x.name, .int .i64 x.mod, .bool x.fn, .int .i64 x.params, .bool x.here, .bool x.strong]]) (σ := [(0, .agg #[.string x.name, .int .i64 x.mod, .bool x.fn, .int .i64 x.params, .bool x.here, .bool x.strong])]) Tryd.func86 rfl rfl rfl rfl ?_
 have hS := St.start (ro := ro) hro
 refine W.seq (W.region ?_)
 refine WL.box (v := .agg #[.string x.name, .int .i64 x.mod, .bool x.fn, .int .i64 x.params, .bool x.here, .bool x.strong]) (cs := [.string x.name, .int .i64 x.mod, .bool x.fn, .int .i64 x.params, .bool x.here, .bool x.strong]) rfl rfl rfl rfl hS ?_
 clear hS; intro w2 b1 hb_b1 hS
 refine WL.assign rfl rfl rfl (WL.nil (N.seq (W.seq (W.region (WL.fieldAddr fo_110_4 rfl rfl rfl (WL.load1 (v := .bool x.here) one_4 rfl rfl rfl (hS.cell 0 rfl rfl) (WL.move rfl rfl rfl ?_)))))))
 cases hg3 : x.here
 ·
  refine WL.skp rfl rfl (WL.skp rfl rfl (WL.pick (v := .bool false) rfl rfl rfl rfl rfl rfl (WL.assign rfl rfl rfl (WL.nil (N.seq ?_)))))
  refine Fin.ret1 rfl (v := .bool false) rfl ?_
  refine ⟨?_, hS.below⟩
  congr 1
  simp_all [sB9]
 refine WL.fieldAddr fo_110_5 rfl rfl rfl (WL.load1 (v := .bool x.strong) one_4 rfl rfl rfl (hS.cell 0 rfl rfl) (WL.pick (v := .bool x.strong) rfl rfl rfl rfl rfl rfl (WL.assign rfl rfl rfl (WL.nil (N.seq ?_)))))
 refine Fin.ret1 rfl (v := .bool x.strong) rfl ?_
 refine ⟨?_, hS.below⟩
 congr 1
 simp_all [sB9]

theorem shaped1_ret (g : List DItem) (y x : DItem) (bg : Nat) (ad : Option Addr) (cap : Nat) {w : World} {ro : Nat → Prop} (hro : ∀ b, ro b → b < w.heap.size) (hx : SlV ro w 6 ItemC (.slice ad g.length cap) g) (hbg : ro bg) (hcg : CellsAt w bg 0 [.slice ad g.length cap]) (hy : g[0]? = some y) : Ret Tryd.prog 82 #[.agg #[.string x.name, .int .i64 x.mod, .bool x.fn, .int .i64 x.params, .bool x.here, .bool x.strong], .pointer (some ⟨bg, 0, none⟩)] w fun v w' => v = .bool (odd9 y x) ∧ Below w.heap.size w w' := by
 have had : Elems ro w 6 ItemC ad g := by obtain ⟨_, _, e, _, _, _, h⟩ := id hx; cases e; exact h
 refine Ret.enter (P := Tryd.prog) (n := 20) (args := [.agg #[.string x.name, .int .i64 x.mod, .bool x.fn, .int .i64 x.params, .bool x.here, .bool x.strong], .pointer (some ⟨bg, 0, none⟩)]) (σ := [(0, .agg #[.string x.name, .int .i64 x.mod, .bool x.fn, .int .i64 x.params, .bool x.here, .bool x.strong]), (1, .pointer (some ⟨bg, 0, none⟩))]) Tryd.func82 rfl rfl rfl rfl ?_
 have hS := St.start (ro := ro) hro
 have hS0 := hS
 have hlen0 : 0 < g.length := (List.getElem?_eq_some_iff.1 hy).1
 refine W.seq (W.region ?_)
 refine WL.box (v := .agg #[.string x.name, .int .i64 x.mod, .bool x.fn, .int .i64 x.params, .bool x.here, .bool x.strong]) (cs := [.string x.name, .int .i64 x.mod, .bool x.fn, .int .i64 x.params, .bool x.here, .bool x.strong]) rfl rfl rfl rfl hS ?_
 clear hS; intro w2 b1 hb_b1 hS
 refine WL.assign rfl rfl rfl (WL.nil (N.seq (W.seq ?_)))
 have hj3 : 0 < g.length := by omega
 obtain ⟨x3, hx3⟩ : ∃ zz, g[0]? = some zz := ⟨_, List.getElem?_eq_getElem hj3⟩
 obtain ⟨b3, o3, cs3, hE3, hr3, hl3, hc3, hQ3⟩ := had 0 _ hx3
 obtain ⟨rfl, hin3, him3, hip3⟩ := hQ3
 cases hg4 : (x.fn != x3.fn)
 ·
  refine W.drawL (by kernel_rfl) 16 ((.q (.pointer (some ⟨b1, 2, none⟩))) :: (.q (.bool x.fn)) :: (.q (.slice ad g.length cap)) :: (.q (.pointer (some ⟨b3, o3 + 0 * 6, none⟩))) :: (.q (.pointer (some ⟨b3, o3 + 0 * 6 + 2, none⟩))) :: (.q (.bool x3.fn)) :: (.q (.bool false)) :: (.q (.bool false)) :: (.q (.pointer (some ⟨b1, 3, none⟩))) :: (.q (.int .i64 x.params)) :: (.q (.slice ad g.length cap)) :: (.q (.pointer (some ⟨b3, o3 + 0 * 6, none⟩))) :: (.q (.pointer (some ⟨b3, o3 + 0 * 6 + 3, none⟩))) :: (.q (.int .i64 x3.params)) :: (.q (.bool (!decide (x.params = x3.params)))) :: (.q (.bool (!decide (x.params = x3.params)))) :: []) (by kernel_rfl) (by kernel_rfl) [(1, .pointer (some ⟨bg, 0, none⟩)), (2, .pointer (some ⟨b1, 0, none⟩)), (3, .bool false)] ⟨rfl, rfl, rfl, trivial⟩ (by kernel_rfl) hS ?_ ?_
  ·
   refine And.intro (fun β w hS => ?_) ?_
   ·
    refine WL.sub (σ' := [(2, .pointer (some ⟨b1, 0, none⟩))]) ⟨rfl, trivial⟩ ?_
    refine WL.fieldAddr fo_110_2 rfl rfl rfl ?_
    exact WL.nil (N.cut () ⟨rfl, trivial⟩ (Below.refl _ _))
   refine And.intro (fun β w hS => ?_) ?_
   ·
    refine WL.sub (σ' := [(4, .pointer (some ⟨b1, 2, none⟩))]) ⟨rfl, trivial⟩ ?_
    refine WL.load1 (v := .bool x.fn) one_4 rfl rfl rfl (hS.cell 0 rfl rfl) ?_
    exact WL.nil (N.cut () ⟨rfl, trivial⟩ (Below.refl _ _))
   refine And.intro (fun β w hS => ?_) ?_
   ·
    refine WL.sub (σ' := [(1, .pointer (some ⟨bg, 0, none⟩))]) ⟨rfl, trivial⟩ ?_
    refine WL.load1 (v := .slice ad g.length cap) one_115 rfl rfl rfl (hS.roCells hbg hcg 0 _ rfl) ?_
    exact WL.nil (N.cut () ⟨rfl, trivial⟩ (Below.refl _ _))
   refine And.intro (fun β w hS => ?_) ?_
   ·
    refine WL.sub (σ' := [(6, .slice ad g.length cap)]) ⟨rfl, trivial⟩ ?_
    refine WL.indexAddrE (j := 0) Tryd.underlying115 isz_110 rfl rfl rfl rfl hj3 hE3 ?_
    exact WL.nil (N.cut () ⟨rfl, trivial⟩ (Below.refl _ _))
   refine And.intro (fun β w hS => ?_) ?_
   ·
    refine WL.sub (σ' := [(7, .pointer (some ⟨b3, o3 + 0 * 6, none⟩))]) ⟨rfl, trivial⟩ ?_
    refine WL.fieldAddr fo_110_2 rfl rfl rfl ?_
    exact WL.nil (N.cut () ⟨rfl, trivial⟩ (Below.refl _ _))
   refine And.intro (fun β w hS => ?_) ?_
   ·
    refine WL.sub (σ' := [(8, .pointer (some ⟨b3, o3 + 0 * 6 + 2, none⟩))]) ⟨rfl, trivial⟩ ?_
    refine WL.load1 (v := .bool x3.fn) one_4 rfl rfl rfl (hS.roCells hr3 hc3 2 _ rfl) ?_
    exact WL.nil (N.cut () ⟨rfl, trivial⟩ (Below.refl _ _))
   refine And.intro (fun β w hS => ?_) ?_
   ·
    refine WL.sub (σ' := [(5, .bool x.fn), (9, .bool x3.fn)]) ⟨rfl, rfl, trivial⟩ ?_
    refine WL.neBool Tryd.underlying4 rfl rfl rfl rfl ?_
    refine WL.set 10 (v' := .bool false) rfl (by rw [hg4]) ?_
    exact WL.nil (N.cut () ⟨rfl, trivial⟩ (Below.refl _ _))
   refine And.intro (fun β w hS => ?_) ?_
   ·
    refine WL.sub (σ' := [(10, .bool false)]) ⟨rfl, trivial⟩ ?_
    refine WL.move rfl rfl rfl ?_
    exact WL.nil (N.cut () ⟨rfl, trivial⟩ (Below.refl _ _))
   refine And.intro (fun β w hS => ?_) ?_
   ·
    refine WL.sub (σ' := [(2, .pointer (some ⟨b1, 0, none⟩)), (11, .bool false)]) ⟨rfl, rfl, trivial⟩ ?_
    refine WL.fieldAddr fo_110_3 rfl rfl rfl ?_
    exact WL.nil (N.cut () ⟨rfl, trivial⟩ (Below.refl _ _))
   refine And.intro (fun β w hS => ?_) ?_
   ·
    refine WL.sub (σ' := [(11, .bool false), (12, .pointer (some ⟨b1, 3, none⟩))]) ⟨rfl, rfl, trivial⟩ ?_
    refine WL.load1 (v := .int .i64 x.params) one_3 rfl rfl rfl (hS.cell 0 rfl rfl) ?_
    exact WL.nil (N.cut () ⟨rfl, trivial⟩ (Below.refl _ _))
   refine And.intro (fun β w hS => ?_) ?_
   ·
    refine WL.sub (σ' := [(1, .pointer (some ⟨bg, 0, none⟩)), (11, .bool false)]) ⟨rfl, rfl, trivial⟩ ?_
    refine WL.load1 (v := .slice ad g.length cap) one_115 rfl rfl rfl (hS.roCells hbg hcg 0 _ rfl) ?_
    exact WL.nil (N.cut () ⟨rfl, trivial⟩ (Below.refl _ _))
   refine And.intro (fun β w hS => ?_) ?_
   ·
    refine WL.sub (σ' := [(11, .bool false), (14, .slice ad g.length cap)]) ⟨rfl, rfl, trivial⟩ ?_
    refine WL.indexAddrE (j := 0) Tryd.underlying115 isz_110 rfl rfl rfl rfl hj3 hE3 ?_
    exact WL.nil (N.cut () ⟨rfl, trivial⟩ (Below.refl _ _))
   refine And.intro (fun β w hS => ?_) ?_
   ·
    refine WL.sub (σ' := [(11, .bool false), (15, .pointer (some ⟨b3, o3 + 0 * 6, none⟩))]) ⟨rfl, rfl, trivial⟩ ?_
    refine WL.fieldAddr fo_110_3 rfl rfl rfl ?_
    exact WL.nil (N.cut () ⟨rfl, trivial⟩ (Below.refl _ _))
   refine And.intro (fun β w hS => ?_) ?_
   ·
    refine WL.sub (σ' := [(11, .bool false), (16, .pointer (some ⟨b3, o3 + 0 * 6 + 3, none⟩))]) ⟨rfl, rfl, trivial⟩ ?_
    refine WL.load1 (v := .int .i64 x3.params) one_3 rfl rfl rfl (hS.roCells hr3 hc3 3 _ rfl) ?_
    exact WL.nil (N.cut () ⟨rfl, trivial⟩ (Below.refl _ _))
   refine And.intro (fun β w hS => ?_) ?_
   ·
    refine WL.sub (σ' := [(11, .bool false), (13, .int .i64 x.params), (17, .int .i64 x3.params)]) ⟨rfl, rfl, rfl, trivial⟩ ?_
    refine WL.bin rfl rfl rfl rfl rfl ?_
    exact WL.nil (N.cut () ⟨rfl, trivial⟩ (Below.refl _ _))
   refine And.intro (fun β w hS => ?_) ?_
   ·
    refine WL.sub (σ' := [(11, .bool false), (18, .bool (!decide (x.params = x3.params)))]) ⟨rfl, rfl, trivial⟩ ?_
    refine WL.pick (v := .bool (!decide (x.params = x3.params))) rfl rfl rfl rfl rfl rfl ?_
    exact WL.nil (N.cut () ⟨rfl, trivial⟩ (Below.refl _ _))
   trivial
  clear hS; intro w5 β hS
  refine WL.sub (σ' := [(3, .bool false), (19, .bool (!decide (x.params = x3.params)))]) ⟨rfl, rfl, trivial⟩ ?_
  refine WL.assign rfl rfl rfl (WL.nil (N.seq ?_))
  refine Fin.ret1 rfl (v := .bool (!decide (x.params = x3.params))) rfl ?_
  clear hS0
  have hbz := hS.below
  clear hS
  obtain rfl : y = x3 := Option.some.inj (hy.symm.trans hx3)
  refine ⟨?_, hbz⟩
  congr 1
  unfold odd9
  simp_all
 refine W.drawL (by kernel_rfl) 16 ((.q (.pointer (some ⟨b1, 2, none⟩))) :: (.q (.bool x.fn)) :: (.q (.slice ad g.length cap)) :: (.q (.pointer (some ⟨b3, o3 + 0 * 6, none⟩))) :: (.q (.pointer (some ⟨b3, o3 + 0 * 6 + 2, none⟩))) :: (.q (.bool x3.fn)) :: (.q (.bool true)) :: (.q (.bool true)) :: (.q undef) :: (.q undef) :: (.q undef) :: (.q undef) :: (.q undef) :: (.q undef) :: (.q undef) :: (.q (.bool true)) :: []) (by kernel_rfl) (by kernel_rfl) [(1, .pointer (some ⟨bg, 0, none⟩)), (2, .pointer (some ⟨b1, 0, none⟩)), (3, .bool false)] ⟨rfl, rfl, rfl, trivial⟩ (by kernel_rfl) hS ?_ ?_
 ·
  refine And.intro (fun β w hS => ?_) ?_
  ·
   refine WL.sub (σ' := [(2, .pointer (some ⟨b1, 0, none⟩))]) ⟨rfl, trivial⟩ ?_
   refine WL.fieldAddr fo_110_2 rfl rfl rfl ?_
   exact WL.nil (N.cut () ⟨rfl, trivial⟩ (Below.refl _ _))
  refine And.intro (fun β w hS => ?_) ?_
  ·
   refine WL.sub (σ' := [(4, .pointer (some ⟨b1, 2, none⟩))]) ⟨rfl, trivial⟩ ?_
   refine WL.load1 (v := .bool x.fn) one_4 rfl rfl rfl (hS.cell 0 rfl rfl) ?_
   exact WL.nil (N.cut () ⟨rfl, trivial⟩ (Below.refl _ _))
  refine And.intro (fun β w hS => ?_) ?_
  ·
   refine WL.sub (σ' := [(1, .pointer (some ⟨bg, 0, none⟩))]) ⟨rfl, trivial⟩ ?_
   refine WL.load1 (v := .slice ad g.length cap) one_115 rfl rfl rfl (hS.roCells hbg hcg 0 _ rfl) ?_
   exact WL.nil (N.cut () ⟨rfl, trivial⟩ (Below.refl _ _))
  refine And.intro (fun β w hS => ?_) ?_
  ·
   refine WL.sub (σ' := [(6, .slice ad g.length cap)]) ⟨rfl, trivial⟩ ?_
   refine WL.indexAddrE (j := 0) Tryd.underlying115 isz_110 rfl rfl rfl rfl hj3 hE3 ?_
   exact WL.nil (N.cut () ⟨rfl, trivial⟩ (Below.refl _ _))
  refine And.intro (fun β w hS => ?_) ?_
  ·
   refine WL.sub (σ' := [(7, .pointer (some ⟨b3, o3 + 0 * 6, none⟩))]) ⟨rfl, trivial⟩ ?_
   refine WL.fieldAddr fo_110_2 rfl rfl rfl ?_
   exact WL.nil (N.cut () ⟨rfl, trivial⟩ (Below.refl _ _))
  refine And.intro (fun β w hS => ?_) ?_
  ·
   refine WL.sub (σ' := [(8, .pointer (some ⟨b3, o3 + 0 * 6 + 2, none⟩))]) ⟨rfl, trivial⟩ ?_
   refine WL.load1 (v := .bool x3.fn) one_4 rfl rfl rfl (hS.roCells hr3 hc3 2 _ rfl) ?_
   exact WL.nil (N.cut () ⟨rfl, trivial⟩ (Below.refl _ _))
  refine And.intro (fun β w hS => ?_) ?_
  ·
   refine WL.sub (σ' := [(5, .bool x.fn), (9, .bool x3.fn)]) ⟨rfl, rfl, trivial⟩ ?_
   refine WL.neBool Tryd.underlying4 rfl rfl rfl rfl ?_
   refine WL.set 10 (v' := .bool true) rfl (by rw [hg4]) ?_
   exact WL.nil (N.cut () ⟨rfl, trivial⟩ (Below.refl _ _))
  refine And.intro (fun β w hS => ?_) ?_
  ·
   refine WL.sub (σ' := [(10, .bool true)]) ⟨rfl, trivial⟩ ?_
   refine WL.move rfl rfl rfl ?_
   exact WL.nil (N.cut () ⟨rfl, trivial⟩ (Below.refl _ _))
  refine And.intro (fun β w hS => ?_) ?_
  ·
   refine WL.sub (σ' := [(2, .pointer (some ⟨b1, 0, none⟩)), (11, .bool true)]) ⟨rfl, rfl, trivial⟩ ?_
   refine WL.skp rfl rfl ?_
   exact WL.nil (N.cut () ⟨rfl, trivial⟩ (Below.refl _ _))
  refine And.intro (fun β w hS => ?_) ?_
  ·
   refine WL.sub (σ' := [(11, .bool true), (12, undef)]) ⟨rfl, rfl, trivial⟩ ?_
   refine WL.skp rfl rfl ?_
   exact WL.nil (N.cut () ⟨rfl, trivial⟩ (Below.refl _ _))
  refine And.intro (fun β w hS => ?_) ?_
  ·
   refine WL.sub (σ' := [(1, .pointer (some ⟨bg, 0, none⟩)), (11, .bool true)]) ⟨rfl, rfl, trivial⟩ ?_
   refine WL.skp rfl rfl ?_
   exact WL.nil (N.cut () ⟨rfl, trivial⟩ (Below.refl _ _))
  refine And.intro (fun β w hS => ?_) ?_
  ·
   refine WL.sub (σ' := [(11, .bool true), (14, undef)]) ⟨rfl, rfl, trivial⟩ ?_
   refine WL.skp rfl rfl ?_
   exact WL.nil (N.cut () ⟨rfl, trivial⟩ (Below.refl _ _))
  refine And.intro (fun β w hS => ?_) ?_
  ·
   refine WL.sub (σ' := [(11, .bool true), (15, undef)]) ⟨rfl, rfl, trivial⟩ ?_
   refine WL.skp rfl rfl ?_
   exact WL.nil (N.cut () ⟨rfl, trivial⟩ (Below.refl _ _))
  refine And.intro (fun β w hS => ?_) ?_
  ·
   refine WL.sub (σ' := [(11, .bool true), (16, undef)]) ⟨rfl, rfl, trivial⟩ ?_
   refine WL.skp rfl rfl ?_
   exact WL.nil (N.cut () ⟨rfl, trivial⟩ (Below.refl _ _))
  refine And.intro (fun β w hS => ?_) ?_
  ·
   refine WL.sub (σ' := [(11, .bool true), (13, undef), (17, undef)]) ⟨rfl, rfl, rfl, trivial⟩ ?_
   refine WL.skp rfl rfl ?_
   exact WL.nil (N.cut () ⟨rfl, trivial⟩ (Below.refl _ _))
  refine And.intro (fun β w hS => ?_) ?_
  ·
   refine WL.sub (σ' := [(11, .bool true), (18, undef)]) ⟨rfl, rfl, trivial⟩ ?_
   refine WL.pick (v := .bool true) rfl rfl rfl rfl rfl rfl ?_
   exact WL.nil (N.cut () ⟨rfl, trivial⟩ (Below.refl _ _))
  trivial
 clear hS; intro w6 β hS
 refine WL.sub (σ' := [(3, .bool false), (19, .bool true)]) ⟨rfl, rfl, trivial⟩ ?_
 refine WL.assign rfl rfl rfl (WL.nil (N.seq ?_))
 refine Fin.ret1 rfl (v := .bool true) rfl ?_
 clear hS0
 have hbz := hS.below
 clear hS
 obtain rfl : y = x3 := Option.some.inj (hy.symm.trans hx3)
 refine ⟨?_, hbz⟩
 congr 1
 unfold odd9
 simp_all

theorem shaped_ret (g : List DItem) (vx : Value) {w : World} {ro : Nat → Prop} (hro : ∀ b, ro b → b < w.heap.size) (hx : SlV ro w 6 ItemC vx g) : Ret Tryd.prog 51 #[vx] w fun v w' => v = .bool (!oddG g) ∧ Below w.heap.size w w' := by
 obtain ⟨ad, cap, rfl, haa, hab, hac, had⟩ := id hx
 have ham : g.length ≤ 9223372036854775807 := by have h1 := haa; have h2 := hab; unfold maxLen at h2; omega
 refine Ret.enter (P := Tryd.prog) (n := 7) (args := [.slice ad g.length cap]) (σ := [(0, .slice ad g.length cap)]) Tryd.func51 rfl rfl rfl rfl ?_
 have hS := St.start (ro := ro) hro
 refine W.seq (W.region ?_)
 refine WL.box (v := .slice ad g.length cap) (cs := [.slice ad g.length cap]) rfl rfl rfl rfl hS ?_
 clear hS; intro w2 b1 hb_b1 hS
 refine WL.assign rfl rfl rfl (WL.nil (N.seq (W.seq (W.region (WL.load1 (v := .slice ad g.length cap) one_115 rfl rfl rfl (hS.cell 0 rfl rfl) ?_)))))
 refine WL.makeFunc (vs := #[.pointer (some ⟨b1, 0, none⟩)]) rfl rfl rfl ?_
 refine WL.callF (vs := [.slice ad g.length cap, .func (.func 82) #[] #[.pointer (some ⟨b1, 0, none⟩)]]) Tryd.func81 (by kernel_rfl) rfl rfl rfl (coItem_ret g (fun x => odd9 (g.getD 0 item0) x) _ (ro := ro) (fun b hb => (hS.snap b hb).1) (SlV.keep hx hS.alike (fun _ _ q => q)) Tryd.func82 (by kernel_rfl) (fun x u hm hb => ?_)) ?_
 ·
  obtain ⟨y, hy⟩ : ∃ y, g[0]? = some y := by
   obtain ⟨i, hi⟩ := List.mem_iff_getElem?.1 hm
   exact ⟨_, List.getElem?_eq_getElem (by have := (List.getElem?_eq_some_iff.1 hi).1; omega)⟩
  have hgd : g.getD 0 item0 = y := by rw [List.getD_eq_getElem?_getD, hy]; rfl
  rw [hgd]
  exact shaped1_ret g y x b1 ad cap (ro := fun z => z < u.heap.size) (fun _ h => h) (SlV.keep hx (fun z hz => ⟨Nat.lt_of_lt_of_le (hS.snap z hz).1 hb.size, (hb.block z (hS.snap z hz).1).trans (hS.snap z hz).2⟩) (fun _ _ q => q)) (Nat.lt_of_lt_of_le (hS.keys b1 (by simp [keysOf])).2.1 hb.size) ((hS.cells 0 (m := 1) rfl rfl).keep (hb.block _ (hS.keys b1 (by simp [keysOf])).2.1)) hy
 rintro v w3 ⟨rfl, hbl⟩
 replace hS := hS.grow hbl
 refine WL.not rfl rfl rfl (WL.assign rfl rfl rfl (WL.nil (N.seq ?_)))
 refine Fin.ret1 rfl (v := .bool (!(oddG g))) rfl ?_
 exact ⟨rfl, hS.below⟩

theorem many_ret (g : List DItem) (vx : Value) {w : World} {ro : Nat → Prop} (hro : ∀ b, ro b → b < w.heap.size) (hx : SlV ro w 6 ItemC vx g) : Ret Tryd.prog 53 #[vx] w fun v w' => v = .int .i64 (many9 g) ∧ Below w.heap.size w w' := by
 obtain ⟨ad, cap, rfl, haa, hab, hac, had⟩ := id hx
 have ham : g.length ≤ 9223372036854775807 := by have h1 := haa; have h2 := hab; unfold maxLen at h2; omega
 refine Ret.enter (P := Tryd.prog) (n := 22) (args := [.slice ad g.length cap]) (σ := [(0, .slice ad g.length cap)]) Tryd.func53 rfl rfl rfl rfl ?_
 have hS := St.start (ro := ro) hro
 refine W.seq (W.region (WL.assign rfl rfl rfl (WL.nil (N.seq (W.seq (W.region (WL.assign rfl rfl rfl (WL.nil (N.seq ?_)))))))))
 refine W.seq (W.seq (W.region (WL.move rfl rfl rfl (WL.lenSlice Tryd.underlying115 rfl rfl rfl (WL.move rfl rfl rfl (WL.nil (N.seq (W.block ?_))))))))
 refine W.loop (α := Nat × Int) (fun ⟨k, cn⟩ => [(2, .int .i64 0), (3, .int .i64 cn), (6, .slice ad g.length cap), (7, .int .i64 (g.length : Int)), (8, .int .i64 (k : Int))]) (fun ⟨k, cn⟩ u => St w w u ro [] [] ∧ k ≤ g.length ∧ cn = (((g.take k).filter sB9).length : Int)) (fun ⟨k, cn⟩ => g.length - k) (0, 0) ⟨rfl, rfl, rfl, rfl, rfl, trivial⟩ ⟨hS, Nat.zero_le _, by simp⟩ ?_
 clear hS
 rintro ⟨k, cn⟩ w1 ⟨hS, hk, hcn⟩
 refine W.seq (W.region (WL.bin rfl rfl rfl rfl rfl (WL.nil (N.seq (W.seq ?_)))))
 refine W.cond rfl (fun hc2 => ?_) (fun hc2 => ?_)
 ·
  have hc2p : (k : Int) < (g.length : Int) := by simpa using hc2
  refine W.skip (N.seq (W.seq (W.block (W.seq (W.region ?_)))))
  have hj3 : k < g.length := by omega
  obtain ⟨x3, hx3⟩ : ∃ zz, g[k]? = some zz := ⟨_, List.getElem?_eq_getElem hj3⟩
  obtain ⟨b3, o3, cs3, hE3, hr3, hl3, hc3, hQ3⟩ := had k _ hx3
  obtain ⟨rfl, hin3, him3, hip3⟩ := hQ3
  refine WL.indexAddrE (j := k) Tryd.underlying115 isz_110 rfl rfl rfl rfl hj3 hE3 (WL.loadN (cs := [.string x3.name, .int .i64 x3.mod, .bool x3.fn, .int .i64 x3.params, .bool x3.here, .bool x3.strong]) agg_110 rfl rfl rfl rfl (hS.roCells hr3 hc3) ?_)
  refine WL.alloc (tyZero_spec zer_110) rfl rfl hS ?_
  clear hS; intro w5 b4 hb_b4 hS
  refine WL.store (L' := [(b4, .cells #[.string x3.name, .int .i64 x3.mod, .bool x3.fn, .int .i64 x3.params, .bool x3.here, .bool x3.strong] 110 (0, 0))]) 0 rfl rfl rfl rfl siz_110 rfl rfl rfl rfl rfl hS ?_
  clear hS; intro w6 hS
  refine WL.nil (N.seq (W.seq (W.region (WL.fieldAddr fo_110_4 rfl rfl rfl (WL.load1 (v := .bool x3.here) one_4 rfl rfl rfl (hS.cell 0 rfl rfl) (WL.move rfl rfl rfl ?_))))))
  cases hg7 : x3.here
  ·
   refine WL.skp rfl rfl (WL.skp rfl rfl (WL.pick (v := .bool false) rfl rfl rfl rfl rfl rfl (WL.nil (N.seq (W.condF rfl (W.skip (N.blk (N.seq (W.region ?_)))))))))
   refine WL.add (c := (k : Int) + 1) rfl rfl rfl rfl (rfl) (by omega) ?_
   refine WL.move rfl rfl rfl (WL.nil ?_)
   have hS := hS.dropN 1
   have hs : sB9 x3 = false := by simp [sB9, hg7]
   have hcn2 : (cn : Int) = (((g.take (k + 1)).filter sB9).length : Int) := by rw [take_next hx3, List.filter_append, List.length_append, hcn]; simp [hs]
   exact N.loop (k + 1, cn) ⟨rfl, rfl, rfl, rfl, rfl, trivial⟩ ⟨hS, by omega, hcn2⟩ (by first | omega | (simp only; omega))
  refine WL.fieldAddr fo_110_5 rfl rfl rfl (WL.load1 (v := .bool x3.strong) one_4 rfl rfl rfl (hS.cell 0 rfl rfl) (WL.pick (v := .bool x3.strong) rfl rfl rfl rfl rfl rfl (WL.nil (N.seq ?_))))
  refine W.cond rfl (fun hc8 => ?_) (fun hc8 => ?_)
  ·
   refine W.region (WL.move rfl rfl rfl ?_)
   refine WL.add (c := cn + 1) rfl rfl rfl rfl (rfl) (by have h1 := List.length_filter_le sB9 (g.take k); have h2 : (g.take k).length ≤ k := List.length_take_le k g; omega) ?_
   refine WL.assign rfl rfl rfl (WL.nil (N.blk (N.seq (W.region ?_))))
   refine WL.add (c := (k : Int) + 1) rfl rfl rfl rfl (rfl) (by omega) ?_
   refine WL.move rfl rfl rfl (WL.nil ?_)
   have hS := hS.dropN 1
   have hs : sB9 x3 = true := by simp [sB9, hg7, hc8]
   have hcn2 : (cn + 1 : Int) = (((g.take (k + 1)).filter sB9).length : Int) := by rw [take_next hx3, List.filter_append, List.length_append, hcn]; simp [hs]
   exact N.loop (k + 1, cn + 1) ⟨rfl, rfl, rfl, rfl, rfl, trivial⟩ ⟨hS, by omega, hcn2⟩ (by first | omega | (simp only; omega))
  refine W.skip (N.blk (N.seq (W.region ?_)))
  refine WL.add (c := (k : Int) + 1) rfl rfl rfl rfl (rfl) (by omega) ?_
  refine WL.move rfl rfl rfl (WL.nil ?_)
  have hS := hS.dropN 1
  have hs : sB9 x3 = false := by simp [sB9, hg7, hc8]
  have hcn2 : (cn : Int) = (((g.take (k + 1)).filter sB9).length : Int) := by rw [take_next hx3, List.filter_append, List.length_append, hcn]; simp [hs]
  exact N.loop (k + 1, cn) ⟨rfl, rfl, rfl, rfl, rfl, trivial⟩ ⟨hS, by omega, hcn2⟩ (by first | omega | (simp only; omega))
 have hc2p : ¬ ((k : Int) < (g.length : Int)) := by simpa using hc2
 refine W.exit (X.seq (X.loop (X.blk (N.seq (W.seq (W.region (WL.move rfl rfl rfl (WL.assign rfl rfl rfl (WL.nil ?_)))))))))
 refine N.seq ?_
 refine Fin.ret1 rfl (v := .int .i64 cn) rfl ?_
 have e : k = g.length := by omega
 subst e
 rw [List.take_length] at hcn
 exact ⟨by rw [hcn]; rfl, hS.below⟩

theorem missing_ret (g : List DItem) (vx : Value) {w : World} {ro : Nat → Prop} (hro : ∀ b, ro b → b < w.heap.size) (hx : SlV ro w 6 ItemC vx g) : Ret Tryd.prog 54 #[vx] w fun v w' => v = .bool (missing9 g) ∧ Below w.heap.size w w' := by
 obtain ⟨ad, cap, rfl, haa, hab, hac, had⟩ := id hx
 have ham : g.length ≤ 9223372036854775807 := by have h1 := haa; have h2 := hab; unfold maxLen at h2; omega
 refine Ret.enter (P := Tryd.prog) (n := 12) (args := [.slice ad g.length cap]) (σ := [(0, .slice ad g.length cap)]) Tryd.func54 rfl rfl rfl rfl ?_
 have hS := St.start (ro := ro) hro
 refine W.seq (W.region (WL.assign rfl rfl rfl (WL.nil (N.seq (W.seq (W.region (WL.move rfl rfl rfl ?_)))))))
 refine WL.callF (vs := [.slice ad g.length cap, .func (.func 83) #[] #[]]) Tryd.func81 (by kernel_rfl) rfl rfl rfl (coItem_ret g (fun x => x.here) _ (ro := ro) (fun b hb => (hS.snap b hb).1) (SlV.keep hx hS.alike (fun _ _ q => q)) Tryd.func83 (by kernel_rfl) (fun x u hm hb => missing1_ret x (ro := fun _ => False) (fun _ h => h.elim))) ?_
 rintro v w1 ⟨rfl, hbl⟩
 replace hS := hS.grow hbl
 refine WL.assign rfl rfl rfl (WL.nil (N.seq (W.seq (W.region (WL.move rfl rfl rfl (WL.not rfl rfl rfl (WL.move rfl rfl rfl ?_)))))))
 cases hg2 : (!(g.any (fun x => x.here)))
 ·
  refine WL.skp rfl rfl (WL.skp rfl rfl (WL.pick (v := .bool false) rfl rfl rfl rfl rfl rfl (WL.assign rfl rfl rfl (WL.nil (N.seq ?_)))))
  refine Fin.ret1 rfl (v := .bool false) rfl ?_
  have hbz := hS.below
  clear hS
  refine ⟨?_, hbz⟩
  congr 1
  unfold missing9
  have e : (g.any fun x => x.here) = g.any hB9 := rfl
  first | rw [e] at hg2 | skip
  generalize g.any hB9 = b at *
  cases b <;> simp_all
 refine WL.move rfl rfl rfl ?_
 refine WL.callF (vs := [.slice ad g.length cap, .func (.func 84) #[] #[]]) Tryd.func81 (by kernel_rfl) rfl rfl rfl (coItem_ret g (fun x => x.strong) _ (ro := ro) (fun b hb => (hS.snap b hb).1) (SlV.keep hx hS.alike (fun _ _ q => q)) Tryd.func84 (by kernel_rfl) (fun x u hm hb => missing2_ret x (ro := fun _ => False) (fun _ h => h.elim))) ?_
 rintro v w3 ⟨rfl, hbl⟩
 replace hS := hS.grow hbl
 refine WL.pick (v := .bool (g.any (fun x => x.strong))) rfl rfl rfl rfl rfl rfl (WL.assign rfl rfl rfl (WL.nil (N.seq ?_)))
 refine Fin.ret1 rfl (v := .bool (g.any (fun x => x.strong))) rfl ?_
 have hbz := hS.below
 clear hS
 refine ⟨?_, hbz⟩
 congr 1
 unfold missing9
 have e : (g.any fun x => x.here) = g.any hB9 := rfl
 first | rw [e] at hg2 | skip
 generalize g.any hB9 = b at *
 cases b <;> simp_all

theorem def_ret (g : List DItem) (vx : Value) {w : World} {ro : Nat → Prop} (hro : ∀ b, ro b → b < w.heap.size) (hx : SlV ro w 6 ItemC vx g) (hg0 : 0 < g.length) : Ret Tryd.prog 55 #[vx] w fun v w' => v = defV (def9 g) ∧ Below w.heap.size w w' := by
 obtain ⟨ad, cap, rfl, haa, hab, hac, had⟩ := id hx
 have ham : g.length ≤ 9223372036854775807 := by have h1 := haa; have h2 := hab; unfold maxLen at h2; omega
 refine Ret.enter (P := Tryd.prog) (n := 36) (args := [.slice ad g.length cap]) (σ := [(0, .slice ad g.length cap)]) Tryd.func55 rfl rfl rfl rfl ?_
 have hS := St.start (ro := ro) hro
 refine W.seq (W.region ?_)
 refine WL.alloc (tyZero_spec zer_66) rfl rfl hS ?_
 clear hS; intro w2 b1 hb_b1 hS
 refine WL.nil (N.seq (W.seq (W.region (WL.move rfl rfl rfl ?_))))
 refine WL.callF (vs := [.slice ad g.length cap, .func (.func 86) #[] #[]]) Tryd.func85 (by kernel_rfl) rfl rfl rfl (ixItem_ret g sB9 _ (ro := ro) (fun b hb => (hS.snap b hb).1) (SlV.keep hx hS.alike (fun _ _ q => q)) Tryd.func86 (by kernel_rfl) (fun x u hm hb => def1_ret x (ro := fun _ => False) (fun _ h => h.elim))) ?_
 rintro v w3 ⟨rfl, hbl⟩
 replace hS := hS.grow hbl
 refine WL.assign rfl rfl rfl (WL.nil (N.seq (W.seq (W.region (WL.move rfl rfl rfl ?_)))))
 refine WL.callF (vs := [.slice ad g.length cap, .func (.func 87) #[] #[]]) Tryd.func85 (by kernel_rfl) rfl rfl rfl (ixItem_ret g hB9 _ (ro := ro) (fun b hb => (hS.snap b hb).1) (SlV.keep hx hS.alike (fun _ _ q => q)) Tryd.func87 (by kernel_rfl) (fun x u hm hb => def2_ret x (ro := fun _ => False) (fun _ h => h.elim))) ?_
 rintro v w4 ⟨rfl, hbl⟩
 replace hS := hS.grow hbl
 refine WL.assign rfl rfl rfl (WL.nil (N.seq (W.seq (W.region (WL.move rfl rfl rfl (WL.assign rfl rfl rfl (WL.nil (N.seq (W.seq ?_)))))))))
 refine W.block (W.seq (W.region (WL.move rfl rfl rfl (WL.bin rfl rfl rfl rfl rfl (WL.assign rfl rfl rfl (WL.nil (N.seq ?_)))))))
 refine W.cond rfl (fun hc5 => ?_) (fun hc5 => ?_)
 ·
  have hc5p : ixI hB9 g < 0 := by simpa using hc5
  refine W.region (WL.assign rfl rfl rfl (WL.nil (N.blk (N.seq (W.seq ?_)))))
  have hj6 : 0 < g.length := hg0
  obtain ⟨x6, hx6⟩ : ∃ zz, g[0]? = some zz := ⟨_, List.getElem?_eq_getElem hj6⟩
  obtain ⟨b6, o6, cs6, hE6, hr6, hl6, hc6, hQ6⟩ := had 0 _ hx6
  obtain ⟨rfl, hin6, him6, hip6⟩ := hQ6
  refine W.drawL (by kernel_rfl) 18 ((.q (.slice ad g.length cap)) :: (.q (.pointer (some ⟨b6, o6 + 0 * 6, none⟩))) :: (.q (.pointer (some ⟨b6, o6 + 0 * 6, none⟩))) :: (.q (.string x6.name)) :: (.q (.slice ad g.length cap)) :: (.q (.int .i64 0)) :: (.q (.pointer (some ⟨b6, o6 + 0 * 6, none⟩))) :: (.q (.pointer (some ⟨b6, o6 + 0 * 6 + 1, none⟩))) :: (.q (.int .i64 x6.mod)) :: (.q (.slice ad g.length cap)) :: (.q (.pointer (some ⟨b6, o6 + 0 * 6, none⟩))) :: (.q (.pointer (some ⟨b6, o6 + 0 * 6 + 2, none⟩))) :: (.q (.bool x6.fn)) :: (.q (.int .i64 (ixI sB9 g))) :: (.q (.bool (decide (ixI sB9 g < 0)))) :: (.q (.int .i64 (ixI hB9 g))) :: (.q (.bool (decide (0 ≤ ixI hB9 g)))) :: (.q (.agg #[.string x6.name, .int .i64 x6.mod, .bool x6.fn, .bool (decide (ixI sB9 g < 0)), .bool (decide (0 ≤ ixI hB9 g))])) :: []) (by kernel_rfl) (by kernel_rfl) [(0, .slice ad g.length cap), (2, .pointer (some ⟨b1, 0, none⟩)), (3, .int .i64 (ixI sB9 g)), (4, .int .i64 (ixI hB9 g)), (5, .int .i64 0)] ⟨rfl, rfl, rfl, rfl, rfl, trivial⟩ (by kernel_rfl) hS ?_ ?_
  ·
   refine And.intro (fun β w hS => ?_) ?_
   ·
    refine WL.sub (σ' := [(0, .slice ad g.length cap)]) ⟨rfl, trivial⟩ ?_
    refine WL.move rfl rfl rfl ?_
    exact WL.nil (N.cut () ⟨rfl, trivial⟩ (Below.refl _ _))
   refine And.intro (fun β w hS => ?_) ?_
   ·
    refine WL.sub (σ' := [(18, .slice ad g.length cap)]) ⟨rfl, trivial⟩ ?_
    refine WL.indexAddrE (j := 0) Tryd.underlying115 isz_110 rfl rfl rfl rfl hj6 hE6 ?_
    exact WL.nil (N.cut () ⟨rfl, trivial⟩ (Below.refl _ _))
   refine And.intro (fun β w hS => ?_) ?_
   ·
    refine WL.sub (σ' := [(19, .pointer (some ⟨b6, o6 + 0 * 6, none⟩))]) ⟨rfl, trivial⟩ ?_
    refine WL.fieldAddr fo_110_0 rfl rfl rfl ?_
    exact WL.nil (N.cut () ⟨rfl, trivial⟩ (Below.refl _ _))
   refine And.intro (fun β w hS => ?_) ?_
   ·
    refine WL.sub (σ' := [(20, .pointer (some ⟨b6, o6 + 0 * 6, none⟩))]) ⟨rfl, trivial⟩ ?_
    refine WL.load1 (v := .string x6.name) one_9 rfl rfl rfl (hS.roCells hr6 hc6 0 _ rfl) ?_
    exact WL.nil (N.cut () ⟨rfl, trivial⟩ (Below.refl _ _))
   refine And.intro (fun β w hS => ?_) ?_
   ·
    refine WL.sub (σ' := [(0, .slice ad g.length cap)]) ⟨rfl, trivial⟩ ?_
    refine WL.move rfl rfl rfl ?_
    exact WL.nil (N.cut () ⟨rfl, trivial⟩ (Below.refl _ _))
   refine And.intro (fun β w hS => ?_) ?_
   ·
    refine WL.sub (σ' := [(5, .int .i64 0)]) ⟨rfl, trivial⟩ ?_
    refine WL.move rfl rfl rfl ?_
    exact WL.nil (N.cut () ⟨rfl, trivial⟩ (Below.refl _ _))
   refine And.intro (fun β w hS => ?_) ?_
   ·
    refine WL.sub (σ' := [(22, .slice ad g.length cap), (23, .int .i64 0)]) ⟨rfl, rfl, trivial⟩ ?_
    refine WL.indexAddrE (j := 0) Tryd.underlying115 isz_110 rfl rfl rfl rfl hj6 hE6 ?_
    exact WL.nil (N.cut () ⟨rfl, trivial⟩ (Below.refl _ _))
   refine And.intro (fun β w hS => ?_) ?_
   ·
    refine WL.sub (σ' := [(24, .pointer (some ⟨b6, o6 + 0 * 6, none⟩))]) ⟨rfl, trivial⟩ ?_
    refine WL.fieldAddr fo_110_1 rfl rfl rfl ?_
    exact WL.nil (N.cut () ⟨rfl, trivial⟩ (Below.refl _ _))
   refine And.intro (fun β w hS => ?_) ?_
   ·
    refine WL.sub (σ' := [(25, .pointer (some ⟨b6, o6 + 0 * 6 + 1, none⟩))]) ⟨rfl, trivial⟩ ?_
    refine WL.load1 (v := .int .i64 x6.mod) one_3 rfl rfl rfl (hS.roCells hr6 hc6 1 _ rfl) ?_
    exact WL.nil (N.cut () ⟨rfl, trivial⟩ (Below.refl _ _))
   refine And.intro (fun β w hS => ?_) ?_
   ·
    refine WL.sub (σ' := [(0, .slice ad g.length cap)]) ⟨rfl, trivial⟩ ?_
    refine WL.move rfl rfl rfl ?_
    exact WL.nil (N.cut () ⟨rfl, trivial⟩ (Below.refl _ _))
   refine And.intro (fun β w hS => ?_) ?_
   ·
    refine WL.sub (σ' := [(27, .slice ad g.length cap)]) ⟨rfl, trivial⟩ ?_
    refine WL.indexAddrE (j := 0) Tryd.underlying115 isz_110 rfl rfl rfl rfl hj6 hE6 ?_
    exact WL.nil (N.cut () ⟨rfl, trivial⟩ (Below.refl _ _))
   refine And.intro (fun β w hS => ?_) ?_
   ·
    refine WL.sub (σ' := [(28, .pointer (some ⟨b6, o6 + 0 * 6, none⟩))]) ⟨rfl, trivial⟩ ?_
    refine WL.fieldAddr fo_110_2 rfl rfl rfl ?_
    exact WL.nil (N.cut () ⟨rfl, trivial⟩ (Below.refl _ _))
   refine And.intro (fun β w hS => ?_) ?_
   ·
    refine WL.sub (σ' := [(29, .pointer (some ⟨b6, o6 + 0 * 6 + 2, none⟩))]) ⟨rfl, trivial⟩ ?_
    refine WL.load1 (v := .bool x6.fn) one_4 rfl rfl rfl (hS.roCells hr6 hc6 2 _ rfl) ?_
    exact WL.nil (N.cut () ⟨rfl, trivial⟩ (Below.refl _ _))
   refine And.intro (fun β w hS => ?_) ?_
   ·
    refine WL.sub (σ' := [(3, .int .i64 (ixI sB9 g))]) ⟨rfl, trivial⟩ ?_
    refine WL.move rfl rfl rfl ?_
    exact WL.nil (N.cut () ⟨rfl, trivial⟩ (Below.refl _ _))
   refine And.intro (fun β w hS => ?_) ?_
   ·
    refine WL.sub (σ' := [(31, .int .i64 (ixI sB9 g))]) ⟨rfl, trivial⟩ ?_
    refine WL.bin rfl rfl rfl rfl rfl ?_
    exact WL.nil (N.cut () ⟨rfl, trivial⟩ (Below.refl _ _))
   refine And.intro (fun β w hS => ?_) ?_
   ·
    refine WL.sub (σ' := [(4, .int .i64 (ixI hB9 g))]) ⟨rfl, trivial⟩ ?_
    refine WL.move rfl rfl rfl ?_
    exact WL.nil (N.cut () ⟨rfl, trivial⟩ (Below.refl _ _))
   refine And.intro (fun β w hS => ?_) ?_
   ·
    refine WL.sub (σ' := [(33, .int .i64 (ixI hB9 g))]) ⟨rfl, trivial⟩ ?_
    refine WL.bin rfl rfl rfl rfl rfl ?_
    exact WL.nil (N.cut () ⟨rfl, trivial⟩ (Below.refl _ _))
   refine And.intro (fun β w hS => ?_) ?_
   ·
    refine WL.sub (σ' := [(21, .string x6.name), (26, .int .i64 x6.mod), (30, .bool x6.fn), (32, .bool (decide (ixI sB9 g < 0))), (34, .bool (decide (0 ≤ ixI hB9 g)))]) ⟨rfl, rfl, rfl, rfl, rfl, trivial⟩ ?_
    refine WL.build (ps := [(0, .string x6.name), (1, .int .i64 x6.mod), (2, .bool x6.fn), (3, .bool (decide (ixI sB9 g < 0))), (4, .bool (decide (0 ≤ ixI hB9 g)))]) (cs := [.string x6.name, .int .i64 x6.mod, .bool x6.fn, .bool (decide (ixI sB9 g < 0)), .bool (decide (0 ≤ ixI hB9 g))]) rfl rfl rfl (by kernel_rfl) ?_
    exact WL.nil (N.cut () ⟨rfl, trivial⟩ (Below.refl _ _))
   trivial
  clear hS; intro w7 β hS
  refine WL.sub (σ' := [(2, .pointer (some ⟨b1, 0, none⟩)), (35, .agg #[.string x6.name, .int .i64 x6.mod, .bool x6.fn, .bool (decide (ixI sB9 g < 0)), .bool (decide (0 ≤ ixI hB9 g))])]) ⟨rfl, rfl, trivial⟩ ?_
  refine WL.store (L' := [(b1, .cells #[.string x6.name, .int .i64 x6.mod, .bool x6.fn, .bool (decide (ixI sB9 g < 0)), .bool (decide (0 ≤ ixI hB9 g))] 66 (0, 0))]) 0 rfl rfl rfl rfl siz_66 rfl rfl rfl rfl rfl hS ?_
  clear hS; intro w8 hS
  refine WL.nil (N.seq ?_)
  refine Fin.retC rfl (v := .agg #[.string x6.name, .int .i64 x6.mod, .bool x6.fn, .bool (decide (ixI sB9 g < 0)), .bool (decide (0 ≤ ixI hB9 g))]) rfl (tyAgg_run agg_66 (cs := [.string x6.name, .int .i64 x6.mod, .bool x6.fn, .bool (decide (ixI sB9 g < 0)), .bool (decide (0 ≤ ixI hB9 g))]) rfl (hS.cells 0 (m := 5) rfl rfl)) ?_
  have e0 : g.getD 0 item0 = x6 := by rw [List.getD_eq_getElem?_getD, hx6]; rfl
  have e1 : g.getD (di9 g) item0 = x6 := by
   have e2 : di9 g = 0 := by unfold di9; rw [if_pos hc5p]
   rw [e2, List.getD_eq_getElem?_getD, hx6]; rfl
  have hbz := hS.below
  clear hS
  refine ⟨?_, hbz⟩
  simp only [defV, defL, def9, e0, e1]
  first | done | simp [*]
 have hc5p : ¬ (ixI hB9 g < 0) := by simpa using hc5
 refine W.seq (W.region (WL.move rfl rfl rfl (WL.bin rfl rfl rfl rfl rfl (WL.assign rfl rfl rfl (WL.nil (N.seq ?_))))))
 refine W.cond rfl (fun hc9 => ?_) (fun hc9 => ?_)
 ·
  have hc9p : ixI sB9 g < 0 := by simpa using hc9
  refine W.region (WL.move rfl rfl rfl (WL.assign rfl rfl rfl (WL.nil (N.blk (N.seq (W.seq ?_))))))
  have hj10 : 0 < g.length := hg0
  obtain ⟨x10, hx10⟩ : ∃ zz, g[0]? = some zz := ⟨_, List.getElem?_eq_getElem hj10⟩
  obtain ⟨b10, o10, cs10, hE10, hr10, hl10, hc10, hQ10⟩ := had 0 _ hx10
  obtain ⟨rfl, hin10, him10, hip10⟩ := hQ10
  obtain ⟨jx, hjx, hjl⟩ := ixI_nat hc5p
  have hj11 : jx < g.length := hjl
  obtain ⟨x11, hx11⟩ : ∃ zz, g[jx]? = some zz := ⟨_, List.getElem?_eq_getElem hj11⟩
  obtain ⟨b11, o11, cs11, hE11, hr11, hl11, hc11, hQ11⟩ := had jx _ hx11
  obtain ⟨rfl, hin11, him11, hip11⟩ := hQ11
  refine W.drawL (by kernel_rfl) 18 ((.q (.slice ad g.length cap)) :: (.q (.pointer (some ⟨b10, o10 + 0 * 6, none⟩))) :: (.q (.pointer (some ⟨b10, o10 + 0 * 6, none⟩))) :: (.q (.string x10.name)) :: (.q (.slice ad g.length cap)) :: (.q (.int .i64 (ixI hB9 g))) :: (.q (.pointer (some ⟨b11, o11 + jx * 6, none⟩))) :: (.q (.pointer (some ⟨b11, o11 + jx * 6 + 1, none⟩))) :: (.q (.int .i64 x11.mod)) :: (.q (.slice ad g.length cap)) :: (.q (.pointer (some ⟨b10, o10 + 0 * 6, none⟩))) :: (.q (.pointer (some ⟨b10, o10 + 0 * 6 + 2, none⟩))) :: (.q (.bool x10.fn)) :: (.q (.int .i64 (ixI sB9 g))) :: (.q (.bool true)) :: (.q (.int .i64 (ixI hB9 g))) :: (.q (.bool (decide (0 ≤ ixI hB9 g)))) :: (.q (.agg #[.string x10.name, .int .i64 x11.mod, .bool x10.fn, .bool true, .bool (decide (0 ≤ ixI hB9 g))])) :: []) (by kernel_rfl) (by kernel_rfl) [(0, .slice ad g.length cap), (2, .pointer (some ⟨b1, 0, none⟩)), (3, .int .i64 (ixI sB9 g)), (4, .int .i64 (ixI hB9 g)), (5, .int .i64 (ixI hB9 g))] ⟨rfl, rfl, rfl, rfl, rfl, trivial⟩ (by kernel_rfl) hS ?_ ?_
  ·
   refine And.intro (fun β w hS => ?_) ?_
   ·
    refine WL.sub (σ' := [(0, .slice ad g.length cap)]) ⟨rfl, trivial⟩ ?_
    refine WL.move rfl rfl rfl ?_
    exact WL.nil (N.cut () ⟨rfl, trivial⟩ (Below.refl _ _))
   refine And.intro (fun β w hS => ?_) ?_
   ·
    refine WL.sub (σ' := [(18, .slice ad g.length cap)]) ⟨rfl, trivial⟩ ?_
    refine WL.indexAddrE (j := 0) Tryd.underlying115 isz_110 rfl rfl rfl rfl hj10 hE10 ?_
    exact WL.nil (N.cut () ⟨rfl, trivial⟩ (Below.refl _ _))
   refine And.intro (fun β w hS => ?_) ?_
   ·
    refine WL.sub (σ' := [(19, .pointer (some ⟨b10, o10 + 0 * 6, none⟩))]) ⟨rfl, trivial⟩ ?_
    refine WL.fieldAddr fo_110_0 rfl rfl rfl ?_
    exact WL.nil (N.cut () ⟨rfl, trivial⟩ (Below.refl _ _))
   refine And.intro (fun β w hS => ?_) ?_
   ·
    refine WL.sub (σ' := [(20, .pointer (some ⟨b10, o10 + 0 * 6, none⟩))]) ⟨rfl, trivial⟩ ?_
    refine WL.load1 (v := .string x10.name) one_9 rfl rfl rfl (hS.roCells hr10 hc10 0 _ rfl) ?_
    exact WL.nil (N.cut () ⟨rfl, trivial⟩ (Below.refl _ _))
   refine And.intro (fun β w hS => ?_) ?_
   ·
    refine WL.sub (σ' := [(0, .slice ad g.length cap)]) ⟨rfl, trivial⟩ ?_
    refine WL.move rfl rfl rfl ?_
    exact WL.nil (N.cut () ⟨rfl, trivial⟩ (Below.refl _ _))
   refine And.intro (fun β w hS => ?_) ?_
   ·
    refine WL.sub (σ' := [(5, .int .i64 (ixI hB9 g))]) ⟨rfl, trivial⟩ ?_
    refine WL.move rfl rfl rfl ?_
    exact WL.nil (N.cut () ⟨rfl, trivial⟩ (Below.refl _ _))
   refine And.intro (fun β w hS => ?_) ?_
   ·
    refine WL.sub (σ' := [(22, .slice ad g.length cap), (23, .int .i64 (ixI hB9 g))]) ⟨rfl, rfl, trivial⟩ ?_
    refine WL.set 23 (v' := .int .i64 (jx : Int)) rfl (by rw [hjx]) ?_
    refine WL.indexAddrE (j := jx) Tryd.underlying115 isz_110 rfl rfl rfl rfl hj11 hE11 ?_
    exact WL.nil (N.cut () ⟨rfl, trivial⟩ (Below.refl _ _))
   refine And.intro (fun β w hS => ?_) ?_
   ·
    refine WL.sub (σ' := [(24, .pointer (some ⟨b11, o11 + jx * 6, none⟩))]) ⟨rfl, trivial⟩ ?_
    refine WL.fieldAddr fo_110_1 rfl rfl rfl ?_
    exact WL.nil (N.cut () ⟨rfl, trivial⟩ (Below.refl _ _))
   refine And.intro (fun β w hS => ?_) ?_
   ·
    refine WL.sub (σ' := [(25, .pointer (some ⟨b11, o11 + jx * 6 + 1, none⟩))]) ⟨rfl, trivial⟩ ?_
    refine WL.load1 (v := .int .i64 x11.mod) one_3 rfl rfl rfl (hS.roCells hr11 hc11 1 _ rfl) ?_
    exact WL.nil (N.cut () ⟨rfl, trivial⟩ (Below.refl _ _))
   refine And.intro (fun β w hS => ?_) ?_
   ·
    refine WL.sub (σ' := [(0, .slice ad g.length cap)]) ⟨rfl, trivial⟩ ?_
    refine WL.move rfl rfl rfl ?_
    exact WL.nil (N.cut () ⟨rfl, trivial⟩ (Below.refl _ _))
   refine And.intro (fun β w hS => ?_) ?_
   ·
    refine WL.sub (σ' := [(27, .slice ad g.length cap)]) ⟨rfl, trivial⟩ ?_
    refine WL.indexAddrE (j := 0) Tryd.underlying115 isz_110 rfl rfl rfl rfl hj10 hE10 ?_
    exact WL.nil (N.cut () ⟨rfl, trivial⟩ (Below.refl _ _))
   refine And.intro (fun β w hS => ?_) ?_
   ·
    refine WL.sub (σ' := [(28, .pointer (some ⟨b10, o10 + 0 * 6, none⟩))]) ⟨rfl, trivial⟩ ?_
    refine WL.fieldAddr fo_110_2 rfl rfl rfl ?_
    exact WL.nil (N.cut () ⟨rfl, trivial⟩ (Below.refl _ _))
   refine And.intro (fun β w hS => ?_) ?_
   ·
    refine WL.sub (σ' := [(29, .pointer (some ⟨b10, o10 + 0 * 6 + 2, none⟩))]) ⟨rfl, trivial⟩ ?_
    refine WL.load1 (v := .bool x10.fn) one_4 rfl rfl rfl (hS.roCells hr10 hc10 2 _ rfl) ?_
    exact WL.nil (N.cut () ⟨rfl, trivial⟩ (Below.refl _ _))
   refine And.intro (fun β w hS => ?_) ?_
   ·
    refine WL.sub (σ' := [(3, .int .i64 (ixI sB9 g))]) ⟨rfl, trivial⟩ ?_
    refine WL.move rfl rfl rfl ?_
    exact WL.nil (N.cut () ⟨rfl, trivial⟩ (Below.refl _ _))
   refine And.intro (fun β w hS => ?_) ?_
   ·
    refine WL.sub (σ' := [(31, .int .i64 (ixI sB9 g))]) ⟨rfl, trivial⟩ ?_
    refine WL.bin rfl rfl rfl rfl rfl ?_
    refine WL.set 32 (v' := .bool true) rfl (by rw [hc9]) ?_
    exact WL.nil (N.cut () ⟨rfl, trivial⟩ (Below.refl _ _))
   refine And.intro (fun β w hS => ?_) ?_
   ·
    refine WL.sub (σ' := [(4, .int .i64 (ixI hB9 g))]) ⟨rfl, trivial⟩ ?_
    refine WL.move rfl rfl rfl ?_
    exact WL.nil (N.cut () ⟨rfl, trivial⟩ (Below.refl _ _))
   refine And.intro (fun β w hS => ?_) ?_
   ·
    refine WL.sub (σ' := [(33, .int .i64 (ixI hB9 g))]) ⟨rfl, trivial⟩ ?_
    refine WL.bin rfl rfl rfl rfl rfl ?_
    exact WL.nil (N.cut () ⟨rfl, trivial⟩ (Below.refl _ _))
   refine And.intro (fun β w hS => ?_) ?_
   ·
    refine WL.sub (σ' := [(21, .string x10.name), (26, .int .i64 x11.mod), (30, .bool x10.fn), (32, .bool true), (34, .bool (decide (0 ≤ ixI hB9 g)))]) ⟨rfl, rfl, rfl, rfl, rfl, trivial⟩ ?_
    refine WL.build (ps := [(0, .string x10.name), (1, .int .i64 x11.mod), (2, .bool x10.fn), (3, .bool true), (4, .bool (decide (0 ≤ ixI hB9 g)))]) (cs := [.string x10.name, .int .i64 x11.mod, .bool x10.fn, .bool true, .bool (decide (0 ≤ ixI hB9 g))]) rfl rfl rfl (by kernel_rfl) ?_
    exact WL.nil (N.cut () ⟨rfl, trivial⟩ (Below.refl _ _))
   trivial
  clear hS; intro w12 β hS
  refine WL.sub (σ' := [(2, .pointer (some ⟨b1, 0, none⟩)), (35, .agg #[.string x10.name, .int .i64 x11.mod, .bool x10.fn, .bool true, .bool (decide (0 ≤ ixI hB9 g))])]) ⟨rfl, rfl, trivial⟩ ?_
  refine WL.store (L' := [(b1, .cells #[.string x10.name, .int .i64 x11.mod, .bool x10.fn, .bool true, .bool (decide (0 ≤ ixI hB9 g))] 66 (0, 0))]) 0 rfl rfl rfl rfl siz_66 rfl rfl rfl rfl rfl hS ?_
  clear hS; intro w13 hS
  refine WL.nil (N.seq ?_)
  refine Fin.retC rfl (v := .agg #[.string x10.name, .int .i64 x11.mod, .bool x10.fn, .bool true, .bool (decide (0 ≤ ixI hB9 g))]) rfl (tyAgg_run agg_66 (cs := [.string x10.name, .int .i64 x11.mod, .bool x10.fn, .bool true, .bool (decide (0 ≤ ixI hB9 g))]) rfl (hS.cells 0 (m := 5) rfl rfl)) ?_
  have e0 : g.getD 0 item0 = x10 := by rw [List.getD_eq_getElem?_getD, hx10]; rfl
  have e1 : g.getD (di9 g) item0 = x11 := by
   have e2 : di9 g = jx := by unfold di9; rw [if_neg hc5p, if_pos hc9p, hjx]; rfl
   rw [e2, List.getD_eq_getElem?_getD, hx11]; rfl
  have hbz := hS.below
  clear hS
  refine ⟨?_, hbz⟩
  simp only [defV, defL, def9, e0, e1]
  first | done | simp [*]
 have hc9p : ¬ (ixI sB9 g < 0) := by simpa using hc9
 refine W.skip (N.blk (N.seq (W.seq ?_)))
 have hj14 : 0 < g.length := hg0
 obtain ⟨x14, hx14⟩ : ∃ zz, g[0]? = some zz := ⟨_, List.getElem?_eq_getElem hj14⟩
 obtain ⟨b14, o14, cs14, hE14, hr14, hl14, hc14, hQ14⟩ := had 0 _ hx14
 obtain ⟨rfl, hin14, him14, hip14⟩ := hQ14
 obtain ⟨jx, hjx, hjl⟩ := ixI_nat hc9p
 have hj15 : jx < g.length := hjl
 obtain ⟨x15, hx15⟩ : ∃ zz, g[jx]? = some zz := ⟨_, List.getElem?_eq_getElem hj15⟩
 obtain ⟨b15, o15, cs15, hE15, hr15, hl15, hc15, hQ15⟩ := had jx _ hx15
 obtain ⟨rfl, hin15, him15, hip15⟩ := hQ15
 refine W.drawL (by kernel_rfl) 18 ((.q (.slice ad g.length cap)) :: (.q (.pointer (some ⟨b14, o14 + 0 * 6, none⟩))) :: (.q (.pointer (some ⟨b14, o14 + 0 * 6, none⟩))) :: (.q (.string x14.name)) :: (.q (.slice ad g.length cap)) :: (.q (.int .i64 (ixI sB9 g))) :: (.q (.pointer (some ⟨b15, o15 + jx * 6, none⟩))) :: (.q (.pointer (some ⟨b15, o15 + jx * 6 + 1, none⟩))) :: (.q (.int .i64 x15.mod)) :: (.q (.slice ad g.length cap)) :: (.q (.pointer (some ⟨b14, o14 + 0 * 6, none⟩))) :: (.q (.pointer (some ⟨b14, o14 + 0 * 6 + 2, none⟩))) :: (.q (.bool x14.fn)) :: (.q (.int .i64 (ixI sB9 g))) :: (.q (.bool false)) :: (.q (.int .i64 (ixI hB9 g))) :: (.q (.bool (decide (0 ≤ ixI hB9 g)))) :: (.q (.agg #[.string x14.name, .int .i64 x15.mod, .bool x14.fn, .bool false, .bool (decide (0 ≤ ixI hB9 g))])) :: []) (by kernel_rfl) (by kernel_rfl) [(0, .slice ad g.length cap), (2, .pointer (some ⟨b1, 0, none⟩)), (3, .int .i64 (ixI sB9 g)), (4, .int .i64 (ixI hB9 g)), (5, .int .i64 (ixI sB9 g))] ⟨rfl, rfl, rfl, rfl, rfl, trivial⟩ (by kernel_rfl) hS ?_ ?_
 ·
  refine And.intro (fun β w hS => ?_) ?_
  ·
   refine WL.sub (σ' := [(0, .slice ad g.length cap)]) ⟨rfl, trivial⟩ ?_
   refine WL.move rfl rfl rfl ?_
   exact WL.nil (N.cut () ⟨rfl, trivial⟩ (Below.refl _ _))
  refine And.intro (fun β w hS => ?_) ?_
  ·
   refine WL.sub (σ' := [(18, .slice ad g.length cap)]) ⟨rfl, trivial⟩ ?_
   refine WL.indexAddrE (j := 0) Tryd.underlying115 isz_110 rfl rfl rfl rfl hj14 hE14 ?_
   exact WL.nil (N.cut () ⟨rfl, trivial⟩ (Below.refl _ _))
  refine And.intro (fun β w hS => ?_) ?_
  ·
   refine WL.sub (σ' := [(19, .pointer (some ⟨b14, o14 + 0 * 6, none⟩))]) ⟨rfl, trivial⟩ ?_
   refine WL.fieldAddr fo_110_0 rfl rfl rfl ?_
   exact WL.nil (N.cut () ⟨rfl, trivial⟩ (Below.refl _ _))
  refine And.intro (fun β w hS => ?_) ?_
  ·
   refine WL.sub (σ' := [(20, .pointer (some ⟨b14, o14 + 0 * 6, none⟩))]) ⟨rfl, trivial⟩ ?_
   refine WL.load1 (v := .string x14.name) one_9 rfl rfl rfl (hS.roCells hr14 hc14 0 _ rfl) ?_
   exact WL.nil (N.cut () ⟨rfl, trivial⟩ (Below.refl _ _))
  refine And.intro (fun β w hS => ?_) ?_
  ·
   refine WL.sub (σ' := [(0, .slice ad g.length cap)]) ⟨rfl, trivial⟩ ?_
   refine WL.move rfl rfl rfl ?_
   exact WL.nil (N.cut () ⟨rfl, trivial⟩ (Below.refl _ _))
  refine And.intro (fun β w hS => ?_) ?_
  ·
   refine WL.sub (σ' := [(5, .int .i64 (ixI sB9 g))]) ⟨rfl, trivial⟩ ?_
   refine WL.move rfl rfl rfl ?_
   exact WL.nil (N.cut () ⟨rfl, trivial⟩ (Below.refl _ _))
  refine And.intro (fun β w hS => ?_) ?_
  ·
   refine WL.sub (σ' := [(22, .slice ad g.length cap), (23, .int .i64 (ixI sB9 g))]) ⟨rfl, rfl, trivial⟩ ?_
   refine WL.set 23 (v' := .int .i64 (jx : Int)) rfl (by rw [hjx]) ?_
   refine WL.indexAddrE (j := jx) Tryd.underlying115 isz_110 rfl rfl rfl rfl hj15 hE15 ?_
   exact WL.nil (N.cut () ⟨rfl, trivial⟩ (Below.refl _ _))
  refine And.intro (fun β w hS => ?_) ?_
  ·
   refine WL.sub (σ' := [(24, .pointer (some ⟨b15, o15 + jx * 6, none⟩))]) ⟨rfl, trivial⟩ ?_
   refine WL.fieldAddr fo_110_1 rfl rfl rfl ?_
   exact WL.nil (N.cut () ⟨rfl, trivial⟩ (Below.refl _ _))
  refine And.intro (fun β w hS => ?_) ?_
  ·
   refine WL.sub (σ' := [(25, .pointer (some ⟨b15, o15 + jx * 6 + 1, none⟩))]) ⟨rfl, trivial⟩ ?_
   refine WL.load1 (v := .int .i64 x15.mod) one_3 rfl rfl rfl (hS.roCells hr15 hc15 1 _ rfl) ?_
   exact WL.nil (N.cut () ⟨rfl, trivial⟩ (Below.refl _ _))
  refine And.intro (fun β w hS => ?_) ?_
  ·
   refine WL.sub (σ' := [(0, .slice ad g.length cap)]) ⟨rfl, trivial⟩ ?_
   refine WL.move rfl rfl rfl ?_
   exact WL.nil (N.cut () ⟨rfl, trivial⟩ (Below.refl _ _))
  refine And.intro (fun β w hS => ?_) ?_
  ·
   refine WL.sub (σ' := [(27, .slice ad g.length cap)]) ⟨rfl, trivial⟩ ?_
   refine WL.indexAddrE (j := 0) Tryd.underlying115 isz_110 rfl rfl rfl rfl hj14 hE14 ?_
   exact WL.nil (N.cut () ⟨rfl, trivial⟩ (Below.refl _ _))
  refine And.intro (fun β w hS => ?_) ?_
  ·
   refine WL.sub (σ' := [(28, .pointer (some ⟨b14, o14 + 0 * 6, none⟩))]) ⟨rfl, trivial⟩ ?_
   refine WL.fieldAddr fo_110_2 rfl rfl rfl ?_
   exact WL.nil (N.cut () ⟨rfl, trivial⟩ (Below.refl _ _))
  refine And.intro (fun β w hS => ?_) ?_
  ·
   refine WL.sub (σ' := [(29, .pointer (some ⟨b14, o14 + 0 * 6 + 2, none⟩))]) ⟨rfl, trivial⟩ ?_
   refine WL.load1 (v := .bool x14.fn) one_4 rfl rfl rfl (hS.roCells hr14 hc14 2 _ rfl) ?_
   exact WL.nil (N.cut () ⟨rfl, trivial⟩ (Below.refl _ _))
  refine And.intro (fun β w hS => ?_) ?_
  ·
   refine WL.sub (σ' := [(3, .int .i64 (ixI sB9 g))]) ⟨rfl, trivial⟩ ?_
   refine WL.move rfl rfl rfl ?_
   exact WL.nil (N.cut () ⟨rfl, trivial⟩ (Below.refl _ _))
  refine And.intro (fun β w hS => ?_) ?_
  ·
   refine WL.sub (σ' := [(31, .int .i64 (ixI sB9 g))]) ⟨rfl, trivial⟩ ?_
   refine WL.bin rfl rfl rfl rfl rfl ?_
   refine WL.set 32 (v' := .bool false) rfl (by rw [hc9]) ?_
   exact WL.nil (N.cut () ⟨rfl, trivial⟩ (Below.refl _ _))
  refine And.intro (fun β w hS => ?_) ?_
  ·
   refine WL.sub (σ' := [(4, .int .i64 (ixI hB9 g))]) ⟨rfl, trivial⟩ ?_
   refine WL.move rfl rfl rfl ?_
   exact WL.nil (N.cut () ⟨rfl, trivial⟩ (Below.refl _ _))
  refine And.intro (fun β w hS => ?_) ?_
  ·
   refine WL.sub (σ' := [(33, .int .i64 (ixI hB9 g))]) ⟨rfl, trivial⟩ ?_
   refine WL.bin rfl rfl rfl rfl rfl ?_
   exact WL.nil (N.cut () ⟨rfl, trivial⟩ (Below.refl _ _))
  refine And.intro (fun β w hS => ?_) ?_
  ·
   refine WL.sub (σ' := [(21, .string x14.name), (26, .int .i64 x15.mod), (30, .bool x14.fn), (32, .bool false), (34, .bool (decide (0 ≤ ixI hB9 g)))]) ⟨rfl, rfl, rfl, rfl, rfl, trivial⟩ ?_
   refine WL.build (ps := [(0, .string x14.name), (1, .int .i64 x15.mod), (2, .bool x14.fn), (3, .bool false), (4, .bool (decide (0 ≤ ixI hB9 g)))]) (cs := [.string x14.name, .int .i64 x15.mod, .bool x14.fn, .bool false, .bool (decide (0 ≤ ixI hB9 g))]) rfl rfl rfl (by kernel_rfl) ?_
   exact WL.nil (N.cut () ⟨rfl, trivial⟩ (Below.refl _ _))
  trivial
 clear hS; intro w16 β hS
 refine WL.sub (σ' := [(2, .pointer (some ⟨b1, 0, none⟩)), (35, .agg #[.string x14.name, .int .i64 x15.mod, .bool x14.fn, .bool false, .bool (decide (0 ≤ ixI hB9 g))])]) ⟨rfl, rfl, trivial⟩ ?_
 refine WL.store (L' := [(b1, .cells #[.string x14.name, .int .i64 x15.mod, .bool x14.fn, .bool false, .bool (decide (0 ≤ ixI hB9 g))] 66 (0, 0))]) 0 rfl rfl rfl rfl siz_66 rfl rfl rfl rfl rfl hS ?_
 clear hS; intro w17 hS
 refine WL.nil (N.seq ?_)
 refine Fin.retC rfl (v := .agg #[.string x14.name, .int .i64 x15.mod, .bool x14.fn, .bool false, .bool (decide (0 ≤ ixI hB9 g))]) rfl (tyAgg_run agg_66 (cs := [.string x14.name, .int .i64 x15.mod, .bool x14.fn, .bool false, .bool (decide (0 ≤ ixI hB9 g))]) rfl (hS.cells 0 (m := 5) rfl rfl)) ?_
 have e0 : g.getD 0 item0 = x14 := by rw [List.getD_eq_getElem?_getD, hx14]; rfl
 have e1 : g.getD (di9 g) item0 = x15 := by
  have e2 : di9 g = jx := by unfold di9; rw [if_neg hc5p, if_neg hc9p, hjx]; rfl
  rw [e2, List.getD_eq_getElem?_getD, hx15]; rfl
 have hbz := hS.below
 clear hS
 refine ⟨?_, hbz⟩
 simp only [defV, defL, def9, e0, e1]
 first | done | simp [*]

end Go.Proofs.YtapjejjmhmdmdaaDoor
