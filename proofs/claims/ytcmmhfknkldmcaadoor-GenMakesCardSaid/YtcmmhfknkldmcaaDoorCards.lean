/-
  DERIVED. GIVEN WITH THE SEED: THE CARDS: each row of YtcmmhfknkldmcaaDoorRows.lean that lists a variable, with what it lists TIED to the program's text (the seventh form; the later family's looks); each row that meets fmt, with fmt's text TOLD by the authors' own Lean function (tested against real Go, not proved from fmt's source: count such statements apart). THE CARD IS WHAT COUNTS. Prove the row's statement (the work); the ties are given (YtcmmhfknkldmcaaDoorTie.lean); close each card by the builder's one call (the guide's Derived/Test/ToyasCard.lean, 'card_holds'). Laid BY PROGRAM, IN A SANDBOX (cutbox-door.mjs). By AI agents, Wed Nov 11 2026. No macro, syntax, notation, axiom, sorry.
-/
import Derived.Test.YtcmmhfknkldmcaaDoorRows
import GoSem.ClaimSeven
namespace Go.Proofs.YtcmmhfknkldmcaaDoor
namespace Rows

/-- THE TIED CARD OF 'marlinelaw17.GenMay'. -/
def genMayCard : Claim7 := { stood := { row := genMayRow, standIns := [], harness := (true, "d43260d8bf0800d4b4783a6442eaedddf3b37e7391df6f72d268e119042fcfdd"), looks := false }, kinds := [], alts := [], laidByText := true, laidKinds := [.data], laidTests := true, laidLooks := .later }
def GenMayCardSaid : Prop := Claim7.holds Tryd.pinned (.plain (OpenSpec.ofChange genMaySpec)) genMayCard

/-- THE TIED CARD OF 'marlinelaw17.GenRels'. -/
def genRelsCard : Claim7 := { stood := { row := genRelsRow, standIns := [], harness := (true, "d43260d8bf0800d4b4783a6442eaedddf3b37e7391df6f72d268e119042fcfdd"), looks := false }, kinds := [], alts := [], laidByText := true, laidKinds := [.data], laidTests := true, laidLooks := .later }
def GenRelsCardSaid : Prop := Claim7.holds Tryd.pinned (.plain (OpenSpec.ofChange genRelsSpec)) genRelsCard

/-- THE TIED CARD OF 'marlinelaw17.GenFrame'. -/
def genFrameCard : Claim7 := { stood := { row := genFrameRow, standIns := [], harness := (true, "d43260d8bf0800d4b4783a6442eaedddf3b37e7391df6f72d268e119042fcfdd"), looks := false }, kinds := [], alts := [], laidByText := true, laidKinds := [.data], laidTests := true, laidLooks := .later }
def GenFrameCardSaid : Prop := Claim7.holds Tryd.pinned (.plain (OpenSpec.ofChange genFrameSpec)) genFrameCard

/-- THE TIED CARD OF 'marlinelaw17.GenInside'. -/
def genInsideCard : Claim7 := { stood := { row := genInsideRow, standIns := [], harness := (true, "d43260d8bf0800d4b4783a6442eaedddf3b37e7391df6f72d268e119042fcfdd"), looks := false }, kinds := [], alts := [], laidByText := true, laidKinds := [.data], laidTests := true, laidLooks := .later }
def GenInsideCardSaid : Prop := Claim7.holds Tryd.pinned (.plain (OpenSpec.ofChange genInsideSpec)) genInsideCard

/-- THE TIED CARD OF 'marlinelaw17.GenMakes'. -/
def genMakesCard : Claim7 := { stood := { row := genMakesRow, standIns := [], harness := (true, "d43260d8bf0800d4b4783a6442eaedddf3b37e7391df6f72d268e119042fcfdd"), looks := false }, kinds := [], alts := [], laidByText := true, laidKinds := [.data], laidTests := true, laidLooks := .later }
def GenMakesCardSaid : Prop := Claim7.holds Tryd.pinned (.plain (OpenSpec.ofChange genMakesSpec)) genMakesCard

/-- THE SECOND FORM's CARD OF 'marlinelaw17.GenMay'. -/
def genMayUptoCard : Claim7 := { stood := { row := genMayUptoRow, standIns := [], harness := (true, "d43260d8bf0800d4b4783a6442eaedddf3b37e7391df6f72d268e119042fcfdd"), looks := false }, kinds := [], alts := [], laidByText := true, laidKinds := [.data], laidTests := true, laidLooks := .later }
def GenMayUptoCardSaid : Prop := Claim7.holds Tryd.pinned (.plain (OpenSpec.upto genMaySpec)) genMayUptoCard

/-- THE SECOND FORM's CARD OF 'marlinelaw17.GenRels'. -/
def genRelsUptoCard : Claim7 := { stood := { row := genRelsUptoRow, standIns := [], harness := (true, "d43260d8bf0800d4b4783a6442eaedddf3b37e7391df6f72d268e119042fcfdd"), looks := false }, kinds := [], alts := [], laidByText := true, laidKinds := [.data], laidTests := true, laidLooks := .later }
def GenRelsUptoCardSaid : Prop := Claim7.holds Tryd.pinned (.plain (OpenSpec.upto genRelsSpec)) genRelsUptoCard

/-- THE SECOND FORM's CARD OF 'marlinelaw17.GenFrame'. -/
def genFrameUptoCard : Claim7 := { stood := { row := genFrameUptoRow, standIns := [], harness := (true, "d43260d8bf0800d4b4783a6442eaedddf3b37e7391df6f72d268e119042fcfdd"), looks := false }, kinds := [], alts := [], laidByText := true, laidKinds := [.data], laidTests := true, laidLooks := .later }
def GenFrameUptoCardSaid : Prop := Claim7.holds Tryd.pinned (.plain (OpenSpec.upto genFrameSpec)) genFrameUptoCard

/-- THE SECOND FORM's CARD OF 'marlinelaw17.GenInside'. -/
def genInsideUptoCard : Claim7 := { stood := { row := genInsideUptoRow, standIns := [], harness := (true, "d43260d8bf0800d4b4783a6442eaedddf3b37e7391df6f72d268e119042fcfdd"), looks := false }, kinds := [], alts := [], laidByText := true, laidKinds := [.data], laidTests := true, laidLooks := .later }
def GenInsideUptoCardSaid : Prop := Claim7.holds Tryd.pinned (.plain (OpenSpec.upto genInsideSpec)) genInsideUptoCard

/-- THE SECOND FORM's CARD OF 'marlinelaw17.GenMakes'. -/
def genMakesUptoCard : Claim7 := { stood := { row := genMakesUptoRow, standIns := [], harness := (true, "d43260d8bf0800d4b4783a6442eaedddf3b37e7391df6f72d268e119042fcfdd"), looks := false }, kinds := [], alts := [], laidByText := true, laidKinds := [.data], laidTests := true, laidLooks := .later }
def GenMakesUptoCardSaid : Prop := Claim7.holds Tryd.pinned (.plain (OpenSpec.upto genMakesSpec)) genMakesUptoCard
end Rows
end Go.Proofs.YtcmmhfknkldmcaaDoor
