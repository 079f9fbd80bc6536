/-
  DERIVED. GIVEN WITH THE SEED: THE CARDS: each row of YtapjejjmhmdmdaaDoorRows.lean that lists a variable, with what it lists TIED to the program's text (the seventh form; the later family's looks); each row that meets fmt, with fmt's text TOLD by the authors' own Lean function (tested against real Go, not proved from fmt's source: count such statements apart). THE CARD IS WHAT COUNTS. Prove the row's statement (the work); the ties are given (YtapjejjmhmdmdaaDoorTie.lean); close each card by the builder's one call (the guide's Derived/Test/ToyasCard.lean, 'card_holds'). Laid BY PROGRAM, IN A SANDBOX (cutbox-door.mjs). By AI agents, Wed Nov 11 2026. No macro, syntax, notation, axiom, sorry.
-/
import Derived.Test.YtapjejjmhmdmdaaDoorRows
import GoSem.ClaimSeven
namespace Go.Proofs.YtapjejjmhmdmdaaDoor
namespace Rows

/-- THE TIED CARD OF 'marlinelaw10.MergeApart'. -/
def mergeApartCard : Claim7 := { stood := { row := mergeApartRow, standIns := [], harness := (true, "18d5fcbd321ced5981c3eeb62d7e53b2be0432d5bce76a499f7d31d81fc8b4fc"), looks := false }, kinds := [], alts := [], laidByText := true, laidKinds := [.data, .data, .data], laidTests := true, laidLooks := .later }
def MergeApartCardSaid : Prop := Claim7.holds Tryd.pinned (.plain (OpenSpec.ofChange mergeApartSpec)) mergeApartCard

/-- THE TIED CARD OF 'marlinelaw10.MergeMakes'. -/
def mergeMakesCard : Claim7 := { stood := { row := mergeMakesRow, standIns := [], harness := (true, "18d5fcbd321ced5981c3eeb62d7e53b2be0432d5bce76a499f7d31d81fc8b4fc"), looks := false }, kinds := [], alts := [], laidByText := true, laidKinds := [.data, .data, .data], laidTests := true, laidLooks := .later }
def MergeMakesCardSaid : Prop := Claim7.holds Tryd.pinned (.plain (OpenSpec.ofChange mergeMakesSpec)) mergeMakesCard

/-- THE TIED CARD OF 'marlinelaw10.MergeWhole'. -/
def mergeWholeCard : Claim7 := { stood := { row := mergeWholeRow, standIns := [], harness := (true, "18d5fcbd321ced5981c3eeb62d7e53b2be0432d5bce76a499f7d31d81fc8b4fc"), looks := false }, kinds := [], alts := [], laidByText := true, laidKinds := [.data, .data, .data], laidTests := true, laidLooks := .later }
def MergeWholeCardSaid : Prop := Claim7.holds Tryd.pinned (.plain (OpenSpec.ofChange mergeWholeSpec)) mergeWholeCard

/-- THE TIED CARD OF 'marlinelaw10.MergeKeeps'. -/
def mergeKeepsCard : Claim7 := { stood := { row := mergeKeepsRow, standIns := [], harness := (true, "18d5fcbd321ced5981c3eeb62d7e53b2be0432d5bce76a499f7d31d81fc8b4fc"), looks := false }, kinds := [], alts := [], laidByText := true, laidKinds := [.data, .data, .data], laidTests := true, laidLooks := .later }
def MergeKeepsCardSaid : Prop := Claim7.holds Tryd.pinned (.plain (OpenSpec.ofChange mergeKeepsSpec)) mergeKeepsCard

/-- THE TIED CARD OF 'marlinelaw10.MergeAlone'. -/
def mergeAloneCard : Claim7 := { stood := { row := mergeAloneRow, standIns := [], harness := (true, "18d5fcbd321ced5981c3eeb62d7e53b2be0432d5bce76a499f7d31d81fc8b4fc"), looks := false }, kinds := [], alts := [], laidByText := true, laidKinds := [.data, .data, .data], laidTests := true, laidLooks := .later }
def MergeAloneCardSaid : Prop := Claim7.holds Tryd.pinned (.plain (OpenSpec.ofChange mergeAloneSpec)) mergeAloneCard

/-- THE TIED CARD OF 'marlinelaw10.MergeFew'. -/
def mergeFewCard : Claim7 := { stood := { row := mergeFewRow, standIns := [], harness := (true, "18d5fcbd321ced5981c3eeb62d7e53b2be0432d5bce76a499f7d31d81fc8b4fc"), looks := false }, kinds := [], alts := [], laidByText := true, laidKinds := [.data, .data, .data], laidTests := true, laidLooks := .later }
def MergeFewCardSaid : Prop := Claim7.holds Tryd.pinned (.plain (OpenSpec.ofChange mergeFewSpec)) mergeFewCard

/-- THE SECOND FORM's CARD OF 'marlinelaw10.MergeApart'. -/
def mergeApartUptoCard : Claim7 := { stood := { row := mergeApartUptoRow, standIns := [], harness := (true, "18d5fcbd321ced5981c3eeb62d7e53b2be0432d5bce76a499f7d31d81fc8b4fc"), looks := false }, kinds := [], alts := [], laidByText := true, laidKinds := [.data, .data, .data], laidTests := true, laidLooks := .later }
def MergeApartUptoCardSaid : Prop := Claim7.holds Tryd.pinned (.plain (OpenSpec.upto mergeApartSpec)) mergeApartUptoCard

/-- THE SECOND FORM's CARD OF 'marlinelaw10.MergeMakes'. -/
def mergeMakesUptoCard : Claim7 := { stood := { row := mergeMakesUptoRow, standIns := [], harness := (true, "18d5fcbd321ced5981c3eeb62d7e53b2be0432d5bce76a499f7d31d81fc8b4fc"), looks := false }, kinds := [], alts := [], laidByText := true, laidKinds := [.data, .data, .data], laidTests := true, laidLooks := .later }
def MergeMakesUptoCardSaid : Prop := Claim7.holds Tryd.pinned (.plain (OpenSpec.upto mergeMakesSpec)) mergeMakesUptoCard

/-- THE SECOND FORM's CARD OF 'marlinelaw10.MergeWhole'. -/
def mergeWholeUptoCard : Claim7 := { stood := { row := mergeWholeUptoRow, standIns := [], harness := (true, "18d5fcbd321ced5981c3eeb62d7e53b2be0432d5bce76a499f7d31d81fc8b4fc"), looks := false }, kinds := [], alts := [], laidByText := true, laidKinds := [.data, .data, .data], laidTests := true, laidLooks := .later }
def MergeWholeUptoCardSaid : Prop := Claim7.holds Tryd.pinned (.plain (OpenSpec.upto mergeWholeSpec)) mergeWholeUptoCard

/-- THE SECOND FORM's CARD OF 'marlinelaw10.MergeKeeps'. -/
def mergeKeepsUptoCard : Claim7 := { stood := { row := mergeKeepsUptoRow, standIns := [], harness := (true, "18d5fcbd321ced5981c3eeb62d7e53b2be0432d5bce76a499f7d31d81fc8b4fc"), looks := false }, kinds := [], alts := [], laidByText := true, laidKinds := [.data, .data, .data], laidTests := true, laidLooks := .later }
def MergeKeepsUptoCardSaid : Prop := Claim7.holds Tryd.pinned (.plain (OpenSpec.upto mergeKeepsSpec)) mergeKeepsUptoCard

/-- THE SECOND FORM's CARD OF 'marlinelaw10.MergeAlone'. -/
def mergeAloneUptoCard : Claim7 := { stood := { row := mergeAloneUptoRow, standIns := [], harness := (true, "18d5fcbd321ced5981c3eeb62d7e53b2be0432d5bce76a499f7d31d81fc8b4fc"), looks := false }, kinds := [], alts := [], laidByText := true, laidKinds := [.data, .data, .data], laidTests := true, laidLooks := .later }
def MergeAloneUptoCardSaid : Prop := Claim7.holds Tryd.pinned (.plain (OpenSpec.upto mergeAloneSpec)) mergeAloneUptoCard

/-- THE SECOND FORM's CARD OF 'marlinelaw10.MergeFew'. -/
def mergeFewUptoCard : Claim7 := { stood := { row := mergeFewUptoRow, standIns := [], harness := (true, "18d5fcbd321ced5981c3eeb62d7e53b2be0432d5bce76a499f7d31d81fc8b4fc"), looks := false }, kinds := [], alts := [], laidByText := true, laidKinds := [.data, .data, .data], laidTests := true, laidLooks := .later }
def MergeFewUptoCardSaid : Prop := Claim7.holds Tryd.pinned (.plain (OpenSpec.upto mergeFewSpec)) mergeFewUptoCard
end Rows
end Go.Proofs.YtapjejjmhmdmdaaDoor
