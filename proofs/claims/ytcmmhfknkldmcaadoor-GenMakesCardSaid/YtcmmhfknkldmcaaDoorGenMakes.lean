/-
  A right module's instructions, function by function, are as the document says; which are the same, too. No condition: every module, any two functions' instructions.
-/
import Derived.Test.YtcmmhfknkldmcaaDoorTL
import Derived.Test.YtcmmhfknkldmcaaDoorCards
import Derived.Test.YtcmmhfknkldmcaaDoorTie
import Derived.SevenTiedAt
import Derived.ProofKit
import Derived.LaidMore
namespace Go.Proofs.YtcmmhfknkldmcaaDoor.genMakes
open Go.ChangeShapes Go.WideShapes Go.ChangeAt Go.RowKit
open Go.ChangeMaps (open_string shut_string)
theorem own : ownKnob Tryd.prog.godebug = none := by kernel_rfl
theorem laid : laidOutB Tryd.prog = true := by kernel_rfl
theorem readable : ∀ t ∈ Tryd.f7.params.toList, Tryd.prog.readableRec t = true ∧ t < Tryd.prog.types.size := by
  rw [Tryd.params7]
  intro t ht
  simp only [List.mem_cons, List.not_mem_nil, or_false] at ht
  rcases ht with rfl | rfl | rfl <;> exact ⟨by kernel_rfl, of_decide_eq_true (by kernel_rfl)⟩

set_option maxRecDepth 100000 in
theorem contract (H : Type) (enc : TypeId × Value → H) (W : World) (base : Nat) (args : Array Value) (ds gs : List (DataW H)) (before : List MemPlace)
    (hval : ∀ (j : Nat) t v, Tryd.f7.params[j]? = some t → args[j]? = some v → Value.okWide Tryd.prog W .any base t v)
    (hW : DataW.Whole enc Tryd.prog Tryd.f7.params.toList Rows.genMakesSpec.vars false W args.toList ds gs before) (hz : (DataW.weightsEach Tryd.prog (Tryd.f7.params.toList ++ Rows.genMakesSpec.plain.varTypes Tryd.prog) (ds ++ gs)).all (· ≤ reachBytes) = true) (hL : laidMetH Tryd.prog [("marline/gen.reckons", Rows.laid_marline_gen_reckons)] W) :
    Calls Tryd.prog 7 args W fun e W' => ∃ v, e = .returned v ∧ Rows.genMakesSpec.post enc Tryd.prog Tryd.f7 false true false false W args v W' := by
  have hW' := hW
  obtain ⟨p, q, hA0, hV, rfl, hfz, hnd⟩ := hW
  have hA : DataW.TrodAll enc Tryd.prog W 0 (fun _ => true) true Tryd.f7.params.toList args.toList ds p := hA0
  rw [Tryd.params7] at hA hval
  obtain ⟨v0, vs0, d0, ds0, p0, q0, hargs, rfl, rfl, h0, r0⟩ := trodAll_cons hA
  obtain ⟨v1, vs1, d1, ds1, p1, q1, rfl, rfl, rfl, h1, r1⟩ := trodAll_cons r0
  obtain ⟨v2, vs2, d2, ds2, p2, q2, rfl, rfl, rfl, h2, r2⟩ := trodAll_cons r1
  obtain ⟨rfl, rfl, rfl⟩ := trodAll_nil r2
  obtain rfl : args = #[v0, v1, v2] := by cases args; simp_all
  obtain ⟨rfl, rfl⟩ := trodVars_none hV
  obtain ⟨cs0, m, rfl, hb0, hok0⟩ := open_agg Tryd.underlying44 (hval 0 44 v0 rfl rfl) h0 opens_mod (fun z hz0 => of_decide_eq_true (List.all_eq_true.1 hz z (mem_weightsEach (i := 0) (by rw [Tryd.params7]; rfl) rfl hz0)))
  obtain ⟨cs1, a, rfl, hb1, hok1⟩ := open_agg Tryd.underlying30 (hval 1 30 v1 rfl rfl) h1 opens_code (fun z hz0 => of_decide_eq_true (List.all_eq_true.1 hz z (mem_weightsEach (i := 1) (by rw [Tryd.params7]; rfl) rfl hz0)))
  obtain ⟨cs2, b, rfl, hb2, hok2⟩ := open_agg Tryd.underlying30 (hval 2 30 v2 rfl rfl) h2 opens_code (fun z hz0 => of_decide_eq_true (List.all_eq_true.1 hz z (mem_weightsEach (i := 2) (by rw [Tryd.params7]; rfl) rfl hz0)))
  refine Calls.mono (genMakes_ret m a b _ _ _ (w := W) (ro := roW W) (fun _ h => h) hb0 hb1 hb2 hok0 (of_laid hL).1 (of_laid hL).2) fun e W' ⟨v, he, hv, hb⟩ => ?_
  subst he
  subst hv
  exact ⟨_, rfl, post_true hW' hb (by kernel_rfl) Tryd.underlying4 rfl rfl rfl rfl laid readable⟩
set_option maxRecDepth 100000 in
theorem lifted (os : Os) (started : os.Started) (H : Type) (enc : TypeId × Value → H) :
    ReturnsInHanded {} Tryd.checked os 7 .any (fun w args => (Rows.genMakesSpec.pre enc Tryd.prog Tryd.f7 [] false w args ∧ laidMetH Tryd.prog [("marline/gen.reckons", Rows.laid_marline_gen_reckons)] w) ∧ sizedMet enc Tryd.prog Tryd.f7 (OpenSpec.ofChange Rows.genMakesSpec) false w args)
      (Rows.genMakesSpec.post enc Tryd.prog Tryd.f7 false true false false) := by
  refine returnsInHanded_of_change_and (C := Tryd.checked) (X := fun w _ => laidMetH Tryd.prog [("marline/gen.reckons", Rows.laid_marline_gen_reckons)] w) (fun _ _ _ hh h => h.of_heap hh) own started (by kernel_rfl) Tryd.func7
    (ChangeSpec.witness_shaped (enc := enc) (C := Tryd.checked) (os := os) (X := fun w _ => laidMetH Tryd.prog [("marline/gen.reckons", Rows.laid_marline_gen_reckons)] w) false (World.doorLaid Tryd.prog 400 os) #[.agg #[.slice none 0 0, .slice none 0 0], .agg #[.string ⟨#[]⟩, .slice none 0 0, .slice none 0 0], .agg #[.string ⟨#[]⟩, .slice none 0 0, .slice none 0 0]] 8 rfl (World.shaped_of_RefB (by kernel_rfl) (by kernel_rfl)) (by kernel_rfl) (by kernel_rfl) (by kernel_rfl) (door_met os _)) ?_
  intro W base args ds gs before hval hW _ hz hL _
  exact contract H enc W base args ds gs before hval hW hz hL
theorem proved : Rows.GenMakesSaid :=
  OpenClaim.holds_of_wide 7 Tryd.f7 rfl rfl rfl rfl rfl rfl rfl ⟨rfl, rfl, rfl, rfl, rfl⟩ rfl rfl rfl rfl rfl (by kernel_rfl) Tryd.func7 (by kernel_rfl)
    (of_decide_eq_true (by kernel_rfl)) (by unfold Func.isWrapper; first | (rw [if_pos (by decide +kernel)]; kernel_rfl) | (rw [if_neg (by decide +kernel)]; exact ⟨rfl, rfl⟩))
    (fun os started H enc _ => lifted os started H enc)
theorem card : Rows.GenMakesCardSaid :=
  Claim7.holds_tied_plain_at .later [] [.data] true (true, "d43260d8bf0800d4b4783a6442eaedddf3b37e7391df6f72d268e119042fcfdd") false
    proved (fun _ h => by cases h) (by kernel_rfl) (fun _ h => by cases h) genMakes_row_tie rfl ⟨rfl, rfl⟩ (by kernel_rfl) rfl
    (fun f fn hf hfn => by
      obtain rfl : f = 7 := Option.some.inj ((show Tryd.prog.funcNamed "marline/marlinelaw17.GenMakes" = some 7 by kernel_rfl).symm.trans hf) |>.symm
      obtain rfl : fn = Tryd.f7 := (Option.some.inj (Tryd.func7.symm.trans hfn)).symm
      exact ⟨by kernel_rfl, fun j t ht => by
        rw [Tryd.params7] at ht
        have h3 : t = 30 ∨ t = 44 := by
          rcases j with _ | _ | _ | j
          · exact .inr (by simpa using ht.symm)
          · exact .inl (by simpa using ht.symm)
          · exact .inl (by simpa using ht.symm)
          · simp at ht
        rcases h3 with rfl | rfl
        · exact (show Tryd.prog.wantsStandIn 30 = false by kernel_rfl)
        · exact (show Tryd.prog.wantsStandIn 44 = false by kernel_rfl)⟩)
    (by kernel_rfl)
#print axioms card
end Go.Proofs.YtcmmhfknkldmcaaDoor.genMakes
