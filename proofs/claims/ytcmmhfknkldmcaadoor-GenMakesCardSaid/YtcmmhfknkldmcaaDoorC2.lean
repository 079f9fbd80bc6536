/-
  DERIVED: THE SHELF's CONTRACTS AT THIS DUMP, IN PLAIN WORDS (tools/lay-plain.mjs out of 'YtcmmhfknkldmcaaDoorC0.lean', which tools/lay-shelf.mjs wrote): THE SAME DECLARATIONS UNDER THE SAME NAMES: 'import', 'namespace', 'open', 'def', 'theorem' AND NOTHING ELSE: no command of the shelf's: FOR A HAND-IN. Each laying: the table of numbers ('.._ren') and one theorem, a field a fact of the dump's own or the kernel's comparison; each contract: ONE APPLICATION.
-/
import Derived.Shelf.SlIterI.Collect
import Derived.Ground.GgzProg
import Derived.Shelf.SlGeneric
import Derived.Test.YtcmmhfknkldmcaaDoorProg
import Derived.Test.YtcmmhfknkldmcaaDoorS2
namespace Go.Proofs
open Go.Shelf
def Tryd.keysA_ren : Go.Shelf.Ren := ⟨fun | 7 => 46 | 10 => 65 | n => n, fun | 23 => 86 | 26 => 3 | 3 => 3 | 28 => 89 | 0 => 0 | 27 => 88 | 33 => 73 | 4 => 4 | n => n, fun | n => n⟩
theorem Tryd.keysA : Go.Proofs.SlLaysZI.n7 Tryd.prog Tryd.keysA_ren := {
  mixed := by kernel_rfl
  f7 := ⟨Tryd.f46.name, by decide, Tryd.func46.trans (congrArg some (by kernel_rfl))⟩
  f10 := ⟨Tryd.f65.name, by decide, Tryd.func65.trans (congrArg some (by kernel_rfl))⟩
  t0 := Tryd.underlying0
  a0 := Tryd.isAgg0
  z0 := Tryd.sizeOf0
  v0 := Tryd.zeroValue0
  t4 := Tryd.underlying4
  a4 := Tryd.isAgg4
  z4 := Tryd.sizeOf4
  v4 := Tryd.zeroValue4
  t23 := Tryd.underlying86
  a23 := Tryd.isAgg86
  z23 := Tryd.sizeOf86
  v23 := Tryd.zeroValue86
  t26 := Tryd.underlying3
  a26 := Tryd.isAgg3
  z26 := Tryd.sizeOf3
  v26 := Tryd.zeroValue3
  t27 := Tryd.underlying88
  a27 := Tryd.isAgg88
  z27 := Tryd.sizeOf88
  v27 := Tryd.zeroValue88
  t28 := Tryd.underlying89
  a28 := Tryd.isAgg89
  z28 := Tryd.sizeOf89
  v28 := Tryd.zeroValue89
  t33 := Tryd.underlying73
  a33 := Tryd.isAgg73
  z33 := Tryd.sizeOf73
  v33 := Tryd.zeroValue73 }
def Tryd.collA_ren : Go.Shelf.Ren := ⟨fun | 8 => 45 | 11 => 64 | n => n, fun | 26 => 3 | 28 => 89 | 24 => 55 | 0 => 0 | 33 => 73 | 4 => 4 | n => n, fun | n => n⟩
theorem Tryd.collA : Go.Proofs.SlLaysZI.n8 Tryd.prog Tryd.collA_ren := {
  mixed := by kernel_rfl
  f8 := ⟨Tryd.f45.name, by decide, Tryd.func45.trans (congrArg some (by kernel_rfl))⟩
  f11 := ⟨Tryd.f64.name, by decide, Tryd.func64.trans (congrArg some (by kernel_rfl))⟩
  t0 := Tryd.underlying0
  a0 := Tryd.isAgg0
  z0 := Tryd.sizeOf0
  v0 := Tryd.zeroValue0
  t24 := Tryd.underlying55
  a24 := Tryd.isAgg55
  z24 := Tryd.sizeOf55
  v24 := Tryd.zeroValue55
  t26 := Tryd.underlying3
  a26 := Tryd.isAgg3
  z26 := Tryd.sizeOf3
  v26 := Tryd.zeroValue3
  t28 := Tryd.underlying89
  a28 := Tryd.isAgg89
  z28 := Tryd.sizeOf89
  v28 := Tryd.zeroValue89
  i26 := by kernel_rfl }
end Go.Proofs

namespace Go.Proofs.YtcmmhfknkldmcaaDoor
open Go.RowKit Go.Maps Go.Shelf Go.WideElems
def unitR : Value → Option (DataW Unit × List MemPlace) := fun _ => some (.nil, [])
theorem rd_unit {x : MapEntry} {k : Int} (hx : x.key = kI k) (hk : inI k) : rd Tryd.prog 3 unitR x = some (.int .i64 k, .nil) := by
  have h1 : keyOf Tryd.prog 3 (.int .i64 k) = some (.int .i64 k) := Maps.keyOf_int_mk Tryd.underlying3 (by unfold inI at hk; simp [Lit.wf, IntKind.min, IntKind.max, IntKind.signed, IntKind.bits]; omega)
  unfold rd
  rw [hx, show kI k = Value.int .i64 k from rfl, h1]
  rfl
set_option maxRecDepth 100000 in
theorem ownsMap_of {w : World} {bm : Nat} {es : Array MapEntry} {ck n : Nat} {T : Int → Option Int} (hbm : w.heap[bm]? = some (.map es ck)) (hM : MapG kI kI es ck n T) (hTk : ∀ k v, T k = some v → inI k) (hn : n ≤ 1000000) :
    ∃ D0 : DataW Unit, w.ownsMap Tryd.prog 3 unitR bm n D0 ∧ Maps.size D0 ≤ n ∧ ∀ ss : List Int, ss.Perm (intKeys D0) → ss.Nodup ∧ (∀ x, x ∈ ss ↔ (T x).isSome = true) ∧ ss.length ≤ n := by
  have hrd : ∀ x ∈ es.toList, ∃ k v, x.key = kI k ∧ T k = some v ∧ rg Tryd.prog 3 unitR x = (.int .i64 k, .nil) := fun x hx => by
    obtain ⟨k, v, h1, _, h3⟩ := hM.key x hx
    exact ⟨k, v, h1, h3, by unfold rg; rw [rd_unit h1 (hTk k v h3)]; rfl⟩
  refine ⟨.map ((es.toList.map (rg Tryd.prog 3 unitR)).foldr DataW.insert []), ⟨es, ck, hbm, ⟨by have := hM.size; unfold maxLen; omega, hM.stamped, fun x hx => ?_⟩, hM.size, rfl⟩, ?_, fun ss hss => ?_⟩
  · obtain ⟨k, v, h1, _, h3⟩ := hM.key x hx
    exact ⟨_, rd_unit h1 (hTk k v h3)⟩
  · rw [Maps.size_eq, Go.length_sorted, List.length_map]; simpa using hM.size
  · have hp : (intKeys (DataW.map ((es.toList.map (rg Tryd.prog 3 unitR)).foldr DataW.insert []))).Perm (es.toList.map fun x => intOf (rg Tryd.prog 3 unitR x).1) := by
      show List.Perm (((es.toList.map (rg Tryd.prog 3 unitR)).foldr DataW.insert []).map fun p => intOf p.1) _
      have := (Go.WideShapes.sorted_perm (es.toList.map (rg Tryd.prog 3 unitR))).map fun p => intOf p.1
      rwa [List.map_map] at this
    have hq := hss.trans hp
    have hnd : (es.toList.map fun x => intOf (rg Tryd.prog 3 unitR x).1).Nodup := by
      have h3 := hM.stamped.2.2
      refine List.pairwise_map.2 ((List.pairwise_map.1 h3).imp_of_mem fun {x y} hx hy hne e => hne ?_)
      obtain ⟨k, _, hk, _, hr⟩ := hrd x hx
      obtain ⟨k', _, hk', _, hr'⟩ := hrd y hy
      rw [hr, hr'] at e
      have e' : k = k' := e
      rw [hk, hk', e']
    refine ⟨hq.nodup_iff.2 hnd, fun x => ?_, ?_⟩
    · rw [hq.mem_iff, List.mem_map]
      constructor
      · rintro ⟨y, hy, rfl⟩
        obtain ⟨k, v, _, hv, hr⟩ := hrd y hy
        rw [hr]
        show (T k).isSome = true
        rw [hv]; rfl
      · intro hx
        obtain ⟨v, hv⟩ := Option.isSome_iff_exists.1 hx
        obtain ⟨y, hy, hy1, _⟩ := hM.has x v hv
        obtain ⟨k, _, hk, _, hr⟩ := hrd y hy
        refine ⟨y, hy, ?_⟩
        rw [hr]
        have : kI x = kI k := by rw [← hy1, hk]
        simpa [kI, intOf] using this.symm
    · rw [hq.length_eq, List.length_map]; simpa using hM.size
theorem keys_ret (bm : Nat) (w : World) : Ret Tryd.prog 46 #[.map (some bm)] w fun v w' => ∃ bk, v = .func (.func 65) #[] #[.pointer (some ⟨bk, 0, none⟩)] ∧ ∀ (w0 ws : World) (ro : Nat → Prop) (L : List (Nat × Obj)) (Rs : List Row), St w0 ws w ro L Rs → St w0 ws w' ro ((bk, .cells #[.map (some bm)] 86 (0, 0)) :: L) Rs := by
  have h := AnyZI.keys_in Tryd.keysA Fence.wide 6 trivial rfl (some bm) w
  refine Calls.mono ((callsIn_wide (n := 6)).1 h) ?_
  rintro e w' ⟨rfl, rfl⟩
  exact ⟨_, rfl, _, rfl, fun w0 ws ro L Rs hS => hS.alloc _⟩
theorem coll_ret {w : World} (bk bm : Nat) (es : Array MapEntry) (ck n : Nat) (T : Int → Option Int) (hbk : w.heap[bk]? = some (.cells #[.map (some bm)] 86 (0, 0))) (hbm : w.heap[bm]? = some (.map es ck)) (hM : MapG kI kI es ck n T) (hTk : ∀ k v, T k = some v → inI k) (hn : n ≤ 1000000) :
    Ret Tryd.prog 45 #[.func (.func 65) #[] #[.pointer (some ⟨bk, 0, none⟩)]] w fun v w' => ∃ ss : List Int, w'.ownsRow w.heap.size 3 1 v ss.length (ss.map kI) ∧ ss.Nodup ∧ (∀ x, x ∈ ss ↔ (T x).isSome = true) ∧ ss.length ≤ n ∧ Below w.heap.size w w' := by
  obtain ⟨D0, hown, hsz, hss⟩ := ownsMap_of hbm hM hTk hn
  have hc : w.cell? ⟨bk, 0, none⟩ = some (.map (some bm)) := by rw [cell_of_row w bk 0 _ _ _ hbk]; rfl
  have hseq := AnyZI.keys_gives (ρ := Tryd.keysA_ren) { Tryd.keysA with } Fence.wide 4 trivial rfl (by omega) bk bm n D0 w (Array.getElem?_eq_some_iff.1 hbk).1 hc hown
  have cS := AnyZI.collect_in Tryd.collA Fence.wide 6 trivial trivial rfl (by omega) 65 #[.pointer (some ⟨bk, 0, none⟩)] trivial (enters_of Tryd.func65 (by kernel_rfl) rfl) _ (Maps.size D0) (by unfold maxLen; omega) (by omega) w hseq
  refine Calls.mono ((callsIn_wide (n := 6)).1 cS) ?_
  rintro e w' ⟨v, ss, rfl, hS, hrow, _, hb⟩
  obtain ⟨h1, h2, h3⟩ := hss ss hS
  exact ⟨v, rfl, ss, hrow, h1, h2, h3, hb⟩
end Go.Proofs.YtcmmhfknkldmcaaDoor
