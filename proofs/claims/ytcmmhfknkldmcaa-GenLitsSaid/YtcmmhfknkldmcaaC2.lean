/-
  The keys of a map of the call's own, collected in whatever order: each of them once. No condition beyond those that the theorem states.
-/
import Derived.Test.YtcmmhfknkldmcaaS2
import Derived.Test.YtcmmhfknkldmcaaC1
namespace Go.Proofs.Ytcmmhfknkldmcaa
open Go.RowKit Go.Maps Go.Shelf Go.WideElems
def unitR : Value → Option (DataW Unit × List MemPlace) := fun _ => some (.nil, [])
theorem rd_unit {x : MapEntry} {k : Int} (hx : x.key = kI k) (hk : inI k) : rd Try.prog 3 unitR x = some (.int .i64 k, .nil) := by
  have h1 : keyOf Try.prog 3 (.int .i64 k) = some (.int .i64 k) := Maps.keyOf_int_mk Try.underlying3 (by unfold inI at hk; simp [Lit.wf, IntKind.min, IntKind.max, IntKind.signed, IntKind.bits]; omega)
  unfold rd
  rw [hx, show kI k = Value.int .i64 k from rfl, h1]
  rfl
set_option maxRecDepth 100000 in
theorem ownsMap_of {w : World} {bm : Nat} {es : Array MapEntry} {ck n : Nat} {T : Int → Option Int} (hbm : w.heap[bm]? = some (.map es ck)) (hM : MapG kI kI es ck n T) (hTk : ∀ k v, T k = some v → inI k) (hn : n ≤ 1000000) :
    ∃ D0 : DataW Unit, w.ownsMap Try.prog 3 unitR bm n D0 ∧ Maps.size D0 ≤ n ∧ ∀ ss : List Int, ss.Perm (intKeys D0) → ss.Nodup ∧ (∀ x, x ∈ ss ↔ (T x).isSome = true) ∧ ss.length ≤ n := by
  have hrd : ∀ x ∈ es.toList, ∃ k v, x.key = kI k ∧ T k = some v ∧ rg Try.prog 3 unitR x = (.int .i64 k, .nil) := fun x hx => by
    obtain ⟨k, v, h1, _, h3⟩ := hM.key x hx
    exact ⟨k, v, h1, h3, by unfold rg; rw [rd_unit h1 (hTk k v h3)]; rfl⟩
  refine ⟨.map ((es.toList.map (rg Try.prog 3 unitR)).foldr DataW.insert []), ⟨es, ck, hbm, ⟨by have := hM.size; unfold maxLen; omega, hM.stamped, fun x hx => ?_⟩, hM.size, rfl⟩, ?_, fun ss hss => ?_⟩
  · obtain ⟨k, v, h1, _, h3⟩ := hM.key x hx
    exact ⟨_, rd_unit h1 (hTk k v h3)⟩
  · rw [Maps.size_eq, Go.length_sorted, List.length_map]; simpa using hM.size
  · have hp : (intKeys (DataW.map ((es.toList.map (rg Try.prog 3 unitR)).foldr DataW.insert []))).Perm (es.toList.map fun x => intOf (rg Try.prog 3 unitR x).1) := by
      show List.Perm (((es.toList.map (rg Try.prog 3 unitR)).foldr DataW.insert []).map fun p => intOf p.1) _
      have := (Go.WideShapes.sorted_perm (es.toList.map (rg Try.prog 3 unitR))).map fun p => intOf p.1
      rwa [List.map_map] at this
    have hq := hss.trans hp
    have hnd : (es.toList.map fun x => intOf (rg Try.prog 3 unitR x).1).Nodup := by
      have h3 := hM.stamped.2.2
      refine List.pairwise_map.2 ((List.pairwise_map.1 h3).imp_of_mem fun {x y} hx hy hne e => hne ?_)
      obtain ⟨k, _, hk, _, hr⟩ := hrd x hx
      obtain ⟨k', _, hk', _, hr'⟩ := hrd y hy
      rw [hr, hr'] at e
      have e' : k = k' := e
      rw [hk, hk', e']
    refine ⟨hq.nodup_iff.2 hnd, fun x => ?_, ?_⟩
    · rw [hq.mem_iff, List.mem_map]
      constructor
      · rintro ⟨y, hy, rfl⟩
        obtain ⟨k, v, _, hv, hr⟩ := hrd y hy
        rw [hr]
        show (T k).isSome = true
        rw [hv]; rfl
      · intro hx
        obtain ⟨v, hv⟩ := Option.isSome_iff_exists.1 hx
        obtain ⟨y, hy, hy1, _⟩ := hM.has x v hv
        obtain ⟨k, _, hk, _, hr⟩ := hrd y hy
        refine ⟨y, hy, ?_⟩
        rw [hr]
        have : kI x = kI k := by rw [← hy1, hk]
        simpa [kI, intOf] using this.symm
    · rw [hq.length_eq, List.length_map]; simpa using hM.size
theorem keys_ret (bm : Nat) (w : World) : Ret Try.prog 51 #[.map (some bm)] w fun v w' => ∃ bk, v = .func (.func 59) #[] #[.pointer (some ⟨bk, 0, none⟩)] ∧ ∀ (w0 ws : World) (ro : Nat → Prop) (L : List (Nat × Obj)) (Rs : List Row), St w0 ws w ro L Rs → St w0 ws w' ro ((bk, .cells #[.map (some bm)] 91 (0, 0)) :: L) Rs := by
  have h := AnyZI.keys_in Try.keysA Fence.wide 6 trivial rfl (some bm) w
  refine Calls.mono ((callsIn_wide (n := 6)).1 h) ?_
  rintro e w' ⟨rfl, rfl⟩
  exact ⟨_, rfl, _, rfl, fun w0 ws ro L Rs hS => hS.alloc _⟩
theorem coll_ret {w : World} (bk bm : Nat) (es : Array MapEntry) (ck n : Nat) (T : Int → Option Int) (hbk : w.heap[bk]? = some (.cells #[.map (some bm)] 91 (0, 0))) (hbm : w.heap[bm]? = some (.map es ck)) (hM : MapG kI kI es ck n T) (hTk : ∀ k v, T k = some v → inI k) (hn : n ≤ 1000000) :
    Ret Try.prog 50 #[.func (.func 59) #[] #[.pointer (some ⟨bk, 0, none⟩)]] w fun v w' => ∃ ss : List Int, w'.ownsRow w.heap.size 3 1 v ss.length (ss.map kI) ∧ ss.Nodup ∧ (∀ x, x ∈ ss ↔ (T x).isSome = true) ∧ ss.length ≤ n ∧ Below w.heap.size w w' := by
  obtain ⟨D0, hown, hsz, hss⟩ := ownsMap_of hbm hM hTk hn
  have hc : w.cell? ⟨bk, 0, none⟩ = some (.map (some bm)) := by rw [cell_of_row w bk 0 _ _ _ hbk]; rfl
  have hseq := AnyZI.keys_gives (ρ := Try.keysA_ren) { Try.keysA with } Fence.wide 4 trivial rfl (by omega) bk bm n D0 w (Array.getElem?_eq_some_iff.1 hbk).1 hc hown
  have cS := AnyZI.collect_in Try.collA Fence.wide 6 trivial trivial rfl (by omega) 59 #[.pointer (some ⟨bk, 0, none⟩)] trivial (enters_of Try.func59 (by kernel_rfl) rfl) _ (Maps.size D0) (by unfold maxLen; omega) (by omega) w hseq
  refine Calls.mono ((callsIn_wide (n := 6)).1 cS) ?_
  rintro e w' ⟨v, ss, rfl, hS, hrow, _, hb⟩
  obtain ⟨h1, h2, h3⟩ := hss ss hS
  exact ⟨v, rfl, ss, hrow, h1, h2, h3, hb⟩
end Go.Proofs.Ytcmmhfknkldmcaa
