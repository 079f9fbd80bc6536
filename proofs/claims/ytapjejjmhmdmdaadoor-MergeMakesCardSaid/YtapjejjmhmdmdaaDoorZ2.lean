/-
  A region that draws its order: a set of operations that only add to memory comes in any order; of each value a predicate that stays. No condition beyond those that each theorem states.
-/
import Derived.Test.YtapjejjmhmdmdaaDoorA26
import Derived.Test.YtapjejjmhmdmdaaDoorA17
import Derived.Test.YtapjejjmhmdmdaaDoorA25
import Derived.Test.YtapjejjmhmdmdaaDoorZ0
namespace Go.Proofs.YtapjejjmhmdmdaaDoor
open Go.RowKit

abbrev Phi := Value → World → Prop
def assocP (V : List (Nat × Phi)) (i : Nat) : Phi := (V.find? fun p => Nat.beq p.1 i).elim (fun _ _ => True) (·.2)
def DepsA (V : List (Nat × Phi)) (β : Nat → Value) (w : World) : List Nat → Prop
  | [] => True
  | i :: r => assocP V i (β i) w ∧ DepsA V β w r
theorem DepsA.of {V : List (Nat × Phi)} {β : Nat → Value} {w : World} : ∀ {is : List Nat}, (∀ i ∈ is, assocP V i (β i) w) → DepsA V β w is
  | [], _ => trivial
  | i :: r, h => ⟨h i List.mem_cons_self, DepsA.of fun j hj => h j (List.mem_cons_of_mem _ hj)⟩
def StaysA : List (Nat × Phi) → Prop
  | [] => True
  | p :: V => Stays p.2 ∧ StaysA V
theorem StaysA.at : ∀ {V : List (Nat × Phi)}, StaysA V → ∀ p ∈ V, Stays p.2
  | _ :: _, h, _, hm => by
    rcases List.mem_cons.1 hm with e | hm
    · rw [e]; exact h.1
    · exact StaysA.at h.2 _ hm
theorem assocP_mem {V : List (Nat × Phi)} (hnd : (V.map (·.1)).Nodup) {i : Nat} {Φ : Phi} (h : (i, Φ) ∈ V) : assocP V i = Φ := by
  induction V with
  | nil => cases h
  | cons p V ih =>
    obtain ⟨j, u⟩ := p
    obtain ⟨h1, h2⟩ := List.nodup_cons.1 hnd
    unfold assocP
    rcases List.mem_cons.1 h with e | h
    · cases e; simp
    · have hne : ¬ j = i := fun e => h1 (by subst e; exact List.mem_map.2 ⟨_, h, rfl⟩)
      simp only [List.find?_cons, beqF hne]
      exact ih h2 h
section
variable {P : Program} {n : Nat} {ops : Array Oper} {R : Exit → Act → World → Prop} {k : Kt} {σ : Env} {w : World} {Q : Exit → Act → World → Prop} {S : World → Prop} {fuel : Nat}
def AllA (P : Program) (n : Nat) (ops : Array Oper) (V0 : List (Nat × Phi)) (σ : Env) (w1 : World) : List (Nat × Phi) → Prop
  | [] => True
  | (i, Φ) :: V => (∀ β u, Below w1.heap.size w1 u → DepsA V0 β u ((depsOf ops i).filter fun j => V0.any fun p => Nat.beq p.1 j) → ∃ o, ops[i]? = some o ∧
      WL P n NoR ops [o] (.cut (CI n (fun v : Value => putS o.dst v []) (fun v w' => Below u.heap.size u w' ∧ Φ v w')) .fin) (PEnv β ops ((depsOf ops i).filter fun j => V0.any fun p => Nat.beq p.1 j) ++ σ) u) ∧ AllA P n ops V0 σ w1 V
theorem AllA.at {V0 : List (Nat × Phi)} {w1 : World} : ∀ (V : List (Nat × Phi)), AllA P n ops V0 σ w1 V → ∀ i Φ o, (i, Φ) ∈ V → ops[i]? = some o → ∀ β u, Below w1.heap.size w1 u → DepsA V0 β u ((depsOf ops i).filter fun j => V0.any fun p => Nat.beq p.1 j) →
    WL P n NoR ops [o] (.cut (CI n (fun v : Value => putS o.dst v []) (fun v w' => Below u.heap.size u w' ∧ Φ v w')) .fin) (PEnv β ops ((depsOf ops i).filter fun j => V0.any fun p => Nat.beq p.1 j) ++ σ) u
  | [], _, _, _, _, h, _ => by cases h
  | (j, Ψ) :: V, h, i, Φ, o, hm, ho => by
    rcases List.mem_cons.1 hm with e | hm
    · cases e
      intro β u hb hd
      obtain ⟨o', ho', hw⟩ := h.1 β u hb hd
      rw [ho'] at ho
      cases ho
      exact hw
    · exact AllA.at V h.2 i Φ o hm ho
theorem WA.phaseI (V : List (Nat × Phi)) {l0 : Array Bool} (hB : setB ops l0 (V.map (·.1)) = true) (σ : Env) {σ0 : Env} (hsub : Sub σ σ0) (hds : dstsI ops (V.map (·.1)) n σ = true) (hst : StaysA V) (hq : AllA P n ops V σ w V) (hS : ∀ u, Below w.heap.size w u → S u)
    (fin : ∀ β u, Below w.heap.size w u → DepsA V β u (V.map (·.1)) → WA P n ops Q S fuel (setAll l0 (V.map (·.1))) (PEnv β ops (V.map (·.1)) ++ σ) u) : WA P n ops Q S (V.length + fuel) l0 σ0 w := by
  obtain ⟨hs0, hnd, hidx, _⟩ := setB_at hB
  refine ⟨fun a hk0 => ?_⟩
  have hk := hk0.sub hsub
  refine wpAnyH_set (l0 := l0) (idx := V.map (·.1)) hB (fun p a u => Known n a σ ∧ Below w.heap.size w u ∧ ∀ i Φ, (i, Φ) ∈ V → p i = true → Φ (valAt ops a i) u) ?_ ?_ ?_ ?_ V.length l0 a w hs0 (fun _ _ => rfl) (fun i hi _ _ h1 => ?_) ?_ ⟨hk, Below.refl _ w, fun i Φ hi hp => ?_⟩
  · rintro _ _ u ⟨_, h2, _⟩; exact hS u h2
  · rintro p p' a u hpp ⟨h1, h2, h3⟩
    exact ⟨h1, h2, fun i Φ hi hp => h3 i Φ hi (by rw [hpp i (List.mem_map.2 ⟨_, hi, rfl⟩)]; exact hp)⟩
  · rintro p a u i o ⟨h2, hbu, h3⟩ hi ho hpi hdep
    obtain ⟨⟨i', Φ⟩, hm, rfl⟩ := List.mem_map.1 hi
    obtain ⟨d, hd, hdn, hdσ, hdj⟩ := dstsI_spec hds hi
    have hod : o.dst = some d := by rw [ho] at hd; exact hd
    have hw := AllA.at V hq i' Φ o hm ho (valAt ops a) u hbu (DepsA.of fun j hj => by
      obtain ⟨hj1, hj2⟩ := List.mem_filter.1 hj
      obtain ⟨⟨j', Ψ⟩, hju, hje⟩ := List.any_eq_true.1 hj2
      have hje : j' = j := Nat.eq_of_beq_eq_true hje
      subst hje
      simp only [depsOf, ho] at hj1
      obtain ⟨e, he, hee⟩ := List.mem_map.1 hj1
      obtain ⟨he1, he2⟩ := List.mem_filter.1 he
      rw [assocP_mem hnd hju]
      exact h3 j' Ψ hju (by rw [← hee]; exact hdep e (by simpa using he1) he2 (by rw [hee]; exact List.mem_map.2 ⟨_, hju, rfl⟩)))
    refine quietP_run ho hod hdn hw (known_PEnv h2) fun w' v hb hv => ⟨known_put h2 fun d' e => ?_, hbu.trans (hb.mono hbu.size), fun j Ψ hj hp => ?_⟩
    · rw [hod] at e; cases e; exact hdσ
    · by_cases e : j = i'
      · subst e
        have e2 : Ψ = Φ := by rw [← assocP_mem hnd hj, ← assocP_mem hnd hm]
        rw [valAt, hd, hod, e2]
        simp only
        rw [put_same (by rw [h2.size]; exact hdn)]
        exact hv
      · simp only [beqF e, cond_false] at hp
        have h4 := h3 j Ψ hj hp
        have h5 : valAt ops (a.put o.dst v) j = valAt ops a j := by
          unfold valAt
          cases hdj' : (ops[j]?).bind (·.dst) with
          | none => rfl
          | some dj =>
            simp only
            rw [hod]
            exact put_other fun e2 => hdj j dj (List.mem_map.2 ⟨_, hj, rfl⟩) e hdj' e2.symm
        rw [h5]
        exact StaysA.at hst _ hj _ _ _ h4 hb
  · rintro a u ⟨h2, hbu, h3⟩
    refine (fin (valAt ops a) u hbu (DepsA.of fun j hj => ?_)).out a (known_PEnv h2)
    obtain ⟨⟨i', Φ⟩, hm, rfl⟩ := List.mem_map.1 hj
    rw [assocP_mem hnd hm]
    exact h3 i' Φ hm rfl
  · rw [(hidx i hi).2] at h1; cases h1
  · rw [List.filter_eq_self.2 (fun i hi => by rw [(hidx i hi).2]; rfl), List.length_map]
  · have hmi := (hidx i (List.mem_map.2 ⟨_, hi, rfl⟩)).2
    replace hp : l0.getD i false = true := hp
    rw [hmi] at hp; cases hp
end
end Go.Proofs.YtapjejjmhmdmdaaDoor

namespace Go.Proofs.YtapjejjmhmdmdaaDoor
open Go.RowKit

section
variable {P : Program} {n : Nat} {R : Exit → Act → World → Prop} {k : Kt} {σ : Env} {w : World} {ops : Array Oper} {rest : List Oper} {d : Nat}
variable {ty : TypeId} {pos : String} {af : Array Edge} {g : Option (Nat × Bool)}
end
end Go.Proofs.YtapjejjmhmdmdaaDoor

namespace Go.Proofs.YtapjejjmhmdmdaaDoor
open Go.RowKit
theorem one_40 : tyOne Tryd.prog 40 = true := by kernel_rfl
theorem siz_3 : tySize Tryd.prog 3 1 = true := by kernel_rfl
theorem zb_9 : (Tryd.prog.info? 9).bind (·.zero) = some (.string ⟨#[]⟩) := by kernel_rfl
def MapC (ro : Nat → Prop) (w : World) (cs : List Value) (g : Ren) : Prop := ∃ b es ck c, cs = [.map (some b)] ∧ ro b ∧ w.heap[b]? = some (.map es ck) ∧ MapG kS kS es ck c g
theorem MapC.keep {ro ro' : Nat → Prop} {w w' : World} {cs : List Value} {g : Ren} (h : MapC ro w cs g) (ha : Alike ro w ro' w') : MapC ro' w' cs g := by
  obtain ⟨b, es, ck, c, h1, h2, h3, h4⟩ := h
  exact ⟨b, es, ck, c, h1, (ha b h2).1, (ha b h2).2.trans h3, h4⟩

theorem give10_ret {w0 ws w : World} {ro : Nat → Prop} {L : List (Nat × Obj)} {Rs : List Row} (bt bm bn bk : Nat) (es : Array MapEntry) (ck c nn : Nat) (g : Ren) (xs : List ByteArray) (vx : Value) (t : ByteArray) (bi : Int) (hS : St w0 ws w ro ((bt, .cells #[.map (some bm)] 40 (0, 0)) :: (bm, .map es ck) :: (bn, .cells #[.int .i64 (nn : Int)] 3 (0, 0)) :: (bk, .cells #[vx] 25 (0, 0)) :: L) Rs) (hM : MapG kS kS es ck c g) (hx : SlV ro ws 1 StrC vx xs) (hpw : PowT ro ws) (hn : nn + xs.length ≤ 9223372036854775800) : Ret Tryd.prog 25 #[.string t, .int .i64 bi, .pointer (some ⟨bt, 0, none⟩), .pointer (some ⟨bn, 0, none⟩), .pointer (some ⟨bk, 0, none⟩)] w fun v w' => v = .tuple #[] ∧ ∃ es' ck', MapG kS kS es' ck' (c + 1) (give10 xs (g, nn) (t, bi)).1 ∧ St w0 ws w' ro ((bt, .cells #[.map (some bm)] 40 (0, 0)) :: (bm, .map es' ck') :: (bn, .cells #[.int .i64 ((give10 xs (g, nn) (t, bi)).2 : Int)] 3 (0, 0)) :: (bk, .cells #[vx] 25 (0, 0)) :: L) Rs := by
 have hxl : xs.length ≤ 9223372036854775807 := slv_len hx
 refine Ret.enter (P := Tryd.prog) (n := 29) (args := [.string t, .int .i64 bi, .pointer (some ⟨bt, 0, none⟩), .pointer (some ⟨bn, 0, none⟩), .pointer (some ⟨bk, 0, none⟩)]) (σ := [(0, .string t), (1, .int .i64 bi), (2, .pointer (some ⟨bt, 0, none⟩)), (3, .pointer (some ⟨bn, 0, none⟩)), (4, .pointer (some ⟨bk, 0, none⟩))]) Tryd.func25 rfl rfl rfl rfl ?_
 refine W.seq (W.region (WL.load1 (v := .map (some bm)) one_40 rfl rfl rfl (hS.cell 0 rfl rfl) (WL.move rfl rfl rfl ?_)))
 refine WL.mapGetOk (c := (g t).isSome) t keyE_str Tryd.underlying40 Tryd.underlying9 zb_9 hM rfl rfl rfl rfl (hS.own _ (List.mem_of_getElem? (i := 1) rfl)) (v := .string ((g t).getD ⟨#[]⟩)) (by cases g t <;> rfl) rfl ?_
 refine WL.move rfl rfl rfl (WL.extract (v := .string ((g t).getD ⟨#[]⟩)) rfl rfl rfl rfl (WL.extract (v := .bool ((g t).isSome)) rfl rfl rfl rfl (WL.assign rfl rfl rfl (WL.assign rfl rfl rfl (WL.nil (N.seq (W.seq (W.region (WL.move rfl rfl rfl ?_)))))))))
 refine WL.bin rfl rfl rfl rfl rfl (WL.move rfl rfl rfl ?_)
 cases hg1 : (decide (bi = 1))
 ·
  have hg1p : ¬ (bi = 1) := by simpa using hg1
  refine WL.skp rfl rfl (WL.skp rfl rfl (WL.pick (v := .bool false) rfl rfl rfl rfl rfl rfl (WL.nil (N.seq (W.condF rfl (W.skip ?_))))))
  refine Fin.end0 rfl ?_
  rw [give10_no1 (x := (t, bi)) hg1p]
  exact ⟨rfl, es, ck, hM.mono (by omega), hS⟩
 have hg1p : bi = 1 := by simpa using hg1
 refine WL.move rfl rfl rfl (WL.not rfl rfl rfl (WL.pick (v := .bool (!((g t).isSome))) rfl rfl rfl rfl rfl rfl (WL.nil (N.seq ?_))))
 refine W.cond rfl (fun hc2 => ?_) (fun hc2 => ?_)
 ·
  refine W.drawA0 (S := fun u => CellsAt u bt (0) [.map (some bm)]) (by kernel_rfl) (fun w3 hbd => ?_)
  replace hS := hS.grow hbd
  refine WA.conv (fuel' := 9 + 1) (listed' := #[false, false, false, false, false, false, false, false, false, false]) (by kernel_rfl) (by kernel_rfl) (WA.take 0 (v := .map (some bm)) rfl rfl (by kernel_rfl) (by kernel_rfl) (by kernel_rfl) (fin_no_panic _) rfl (exec_load1 one_40 rfl (fun u hs => hs 0 _ rfl)) (hS.cells 0 (m := 1) rfl rfl) ?_)
  refine WA.conv (fuel' := 8 + 1) (listed' := #[true, false, false, false, false, false, false, false, false, false]) (by kernel_rfl) (by kernel_rfl) (WA.take 1 (v := .string t) rfl rfl (by kernel_rfl) (by kernel_rfl) (by kernel_rfl) (fin_no_panic _) rfl (exec_move rfl) (hS.cells 0 (m := 1) rfl rfl) ?_)
  refine WA.conv (fuel' := ([(2, .int .i64 (nn : Int)), (3, vx)] : List (Nat × Value)).length + 6) (listed' := #[true, true, false, false, false, false, false, false, false, false]) (by kernel_rfl) (by kernel_rfl) (WA.quiet [(2, .int .i64 (nn : Int)), (3, vx)] (by kernel_rfl) [(3, .pointer (some ⟨bn, 0, none⟩)), (4, .pointer (some ⟨bk, 0, none⟩)), (22, .map (some bm)), (23, .string t)] ⟨rfl, rfl, rfl, rfl, trivial⟩ (by kernel_rfl) ?_ (hS.cells 0 (m := 1) rfl rfl) ?_)
  ·
   refine ⟨⟨_, rfl, ?_⟩, ?_⟩
   ·
    refine WL.sub (σ' := [(3, .pointer (some ⟨bn, 0, none⟩))]) ⟨rfl, trivial⟩ ?_
    refine WL.load1 (v := .int .i64 (nn : Int)) one_3 rfl rfl rfl (hS.cell 2 rfl rfl) ?_
    exact WL.nil (N.cut () ⟨rfl, trivial⟩ rfl)
   refine ⟨⟨_, rfl, ?_⟩, ?_⟩
   ·
    refine WL.sub (σ' := [(4, .pointer (some ⟨bk, 0, none⟩))]) ⟨rfl, trivial⟩ ?_
    refine WL.load1 (v := vx) one_25 rfl rfl rfl (hS.cell 3 rfl rfl) ?_
    exact WL.nil (N.cut () ⟨rfl, trivial⟩ rfl)
   trivial
  refine WA.sub (σ' := [(3, .pointer (some ⟨bn, 0, none⟩)), (22, .map (some bm)), (23, .string t), (24, .int .i64 (nn : Int)), (25, vx)]) ⟨rfl, rfl, rfl, rfl, rfl, trivial⟩ ?_
  refine WA.conv (fuel' := 5 + 1) (listed' := #[true, true, true, true, false, false, false, false, false, false]) (by kernel_rfl) (by kernel_rfl) (WA.stepS 4 (by kernel_rfl) rfl ?_)
  refine WL.callF (vs := [.int .i64 (nn : Int), vx]) Tryd.func21 (by kernel_rfl) rfl rfl rfl (local_ret nn xs _ (ro := ro) (fun b hb => (hS.snap b hb).1) (SlV.keep hx hS.alike (fun _ _ q => q)) (hpw.keep hS.alike) (by omega)) ?_
  rintro v w4 ⟨rfl, hbl⟩
  replace hS := hS.grow hbl
  refine WL.nil (N.restS (hS.cells 0 (m := 1) rfl rfl) ?_)
  refine WA.conv (fuel' := 4 + 1) (listed' := #[true, true, true, true, true, false, false, false, false, false]) (by kernel_rfl) (by kernel_rfl) (WA.stepS 5 (by kernel_rfl) rfl ?_)
  refine WL.move rfl rfl rfl ?_
  refine WL.nil (N.restS (hS.cells 0 (m := 1) rfl rfl) ?_)
  refine WA.conv (fuel' := 3 + 1) (listed' := #[true, true, true, true, true, true, false, false, false, false]) (by kernel_rfl) (by kernel_rfl) (WA.take 7 (v := .int .i64 ((loc10 xs nn : Nat) + 1 : Int)) rfl rfl (by kernel_rfl) (by kernel_rfl) (by kernel_rfl) (fin_no_panic _) rfl (exec_extract rfl rfl) (hS.cells 0 (m := 1) rfl rfl) ?_)
  refine WA.conv (fuel' := 2 + 1) (listed' := #[true, true, true, true, true, true, false, true, false, false]) (by kernel_rfl) (by kernel_rfl) (WA.stepS 6 (by kernel_rfl) rfl ?_)
  refine WL.extract (v := .string (dot10 (loc10 xs nn))) rfl rfl rfl rfl ?_
  refine WL.nil (N.restS (hS.cells 0 (m := 1) rfl rfl) ?_)
  refine WA.conv (fuel' := 1 + 1) (listed' := #[true, true, true, true, true, true, true, true, false, false]) (by kernel_rfl) (by kernel_rfl) (WA.stepS 8 (by kernel_rfl) rfl ?_)
  refine WL.mapPut 1 t (dot10 (loc10 xs nn)) keyE_str Tryd.underlying40 Tryd.underlying9 hM rfl rfl rfl rfl rfl hS ?_
  clear hS; intro w6 es5 ck5 hM5 hS
  refine WL.nil (N.restS (hS.cells 0 (m := 1) rfl rfl) ?_)
  refine WA.conv (fuel' := 0 + 1) (listed' := #[true, true, true, true, true, true, true, true, true, false]) (by kernel_rfl) (by kernel_rfl) (WA.stepS 9 (by kernel_rfl) rfl ?_)
  refine WL.store (L' := ((bt, .cells #[.map (some bm)] 40 (0, 0)) :: (bm, .map es5 ck5) :: (bn, .cells #[.int .i64 ((loc10 xs nn : Nat) + 1 : Int)] 3 (0, 0)) :: (bk, .cells #[vx] 25 (0, 0)) :: L)) 2 rfl rfl rfl rfl siz_3 rfl rfl rfl rfl rfl hS ?_
  clear hS; intro w7 hS
  refine WL.nil (N.restS (hS.cells 0 (m := 1) rfl rfl) ?_)
  refine WA.doneN (by kernel_rfl) ?_
  refine Fin.end0 rfl ?_
  have hsm : (g t).isSome = false := by simpa using hc2
  rw [give10_yes (x := (t, bi)) hg1p hsm]
  exact ⟨rfl, es5, ck5, hM5, hS⟩
 refine W.skip ?_
 refine Fin.end0 rfl ?_
 have hsm : (g t).isSome = true := by simpa using hc2
 rw [give10_no2 (x := (t, bi)) hsm]
 exact ⟨rfl, es, ck, hM.mono (by omega), hS⟩

end Go.Proofs.YtapjejjmhmdmdaaDoor
