/-
  No cell of these rows narrows 'for every input' (looked for: loops, veiled, ifaces, maps, wideKeys, modest, calm, conditions, laid).
  DERIVED. THE GIVEN ROWS OF THIS SEAT. 4 by the template 'for every input the law returns true; each argument reads behind the call as it read before'; 0 by the template 'total and deterministic' (their statements: YtkgmijhcaclpoaaTotals.lean).
  GIVEN WITH THE SEED: the statements are not yours to turn. If you find one false, say at which input.
  Laid BY PROGRAM, IN A SANDBOX (cutbox-rows.mjs): the forced cells as the released guide's own fill.sh prints them over the translation 9719da75b9def8ac… (all of the seat's roots in one cut). By AI agents, Wed Nov 11 2026. No macro, syntax, notation, axiom, sorry.
-/
import Derived.Test.YtkgmijhcaclpoaaChecked
import GoSem.Claim
import GoSem.ClaimJoined
import GoSem.ClaimMapViews
import Derived.JoinedTies
import Derived.KernelRfl
namespace Go.Proofs.Ytkgmijhcaclpoaa
/- THE CELL 'sum', in the pinned program and in every row, IS THE sha256 OF THE DUMP (.gsa) THAT YtkgmijhcaclpoaaProg.lean LOADS. Nothing in Lean hashes anything: it is a label: what it is worth is what the hold of that sum in a sandbox is worth. -/
noncomputable def Try.pinned : Pinned := { name := "ytkgmijhcaclpoaa", sum := "9719da75b9def8acf42cdcebbeab44a55d207c30a46c559e79767b1b5c1439c4", checked := Try.checked }
namespace Rows
def none {H : Type} : Left H := { results := [], args := [] }

/-- 'marlinelaw16.SlotApart': WHATEVER THE INPUT: true; the input reads as it did. -/
def slotApartSpec : ChangeSpec := { name := "slotApart", fn := fun _ => fun
  | [d1, d2] => { results := [.lit (.bool true)], args := [d1, d2] }
  | _ => none }
def slotApartRow : OpenClaim := { program := "ytkgmijhcaclpoaa", sum := "9719da75b9def8acf42cdcebbeab44a55d207c30a46c559e79767b1b5c1439c4", func := "marline/marlinelaw16.SlotApart", spec := "slotApart", unfollowed := true, recurses := true, apart := false }
def SlotApartSaid : Prop := slotApartRow.holds Try.pinned (OpenSpec.ofChange slotApartSpec)

/-- ITS FALSE NEIGHBOUR: 'it returns false'. Refute it at one input. -/
def slotApartWrong : ChangeSpec := { name := "slotApart", fn := fun _ => fun
  | [d1, d2] => { results := [.lit (.bool false)], args := [d1, d2] }
  | _ => none }
def SlotApartWrongFalsely : Prop := slotApartRow.holds Try.pinned (OpenSpec.ofChange slotApartWrong)

/-- 'marlinelaw16.SlotLast': WHATEVER THE INPUT: true; the input reads as it did. -/
def slotLastSpec : ChangeSpec := { name := "slotLast", fn := fun _ => fun
  | [d1, d2, d3] => { results := [.lit (.bool true)], args := [d1, d2, d3] }
  | _ => none }
def slotLastRow : OpenClaim := { program := "ytkgmijhcaclpoaa", sum := "9719da75b9def8acf42cdcebbeab44a55d207c30a46c559e79767b1b5c1439c4", func := "marline/marlinelaw16.SlotLast", spec := "slotLast", unfollowed := true, recurses := true, apart := false }
def SlotLastSaid : Prop := slotLastRow.holds Try.pinned (OpenSpec.ofChange slotLastSpec)

/-- ITS FALSE NEIGHBOUR: 'it returns false'. Refute it at one input. -/
def slotLastWrong : ChangeSpec := { name := "slotLast", fn := fun _ => fun
  | [d1, d2, d3] => { results := [.lit (.bool false)], args := [d1, d2, d3] }
  | _ => none }
def SlotLastWrongFalsely : Prop := slotLastRow.holds Try.pinned (OpenSpec.ofChange slotLastWrong)

/-- 'marlinelaw16.SlotTurned': WHATEVER THE INPUT: true; the input reads as it did. -/
def slotTurnedSpec : ChangeSpec := { name := "slotTurned", fn := fun _ => fun
  | [d1, d2, d3] => { results := [.lit (.bool true)], args := [d1, d2, d3] }
  | _ => none }
def slotTurnedRow : OpenClaim := { program := "ytkgmijhcaclpoaa", sum := "9719da75b9def8acf42cdcebbeab44a55d207c30a46c559e79767b1b5c1439c4", func := "marline/marlinelaw16.SlotTurned", spec := "slotTurned", unfollowed := true, recurses := true, apart := false }
def SlotTurnedSaid : Prop := slotTurnedRow.holds Try.pinned (OpenSpec.ofChange slotTurnedSpec)

/-- ITS FALSE NEIGHBOUR: 'it returns false'. Refute it at one input. -/
def slotTurnedWrong : ChangeSpec := { name := "slotTurned", fn := fun _ => fun
  | [d1, d2, d3] => { results := [.lit (.bool false)], args := [d1, d2, d3] }
  | _ => none }
def SlotTurnedWrongFalsely : Prop := slotTurnedRow.holds Try.pinned (OpenSpec.ofChange slotTurnedWrong)

/-- 'marlinelaw16.SlotFew': WHATEVER THE INPUT: true; the input reads as it did. -/
def slotFewSpec : ChangeSpec := { name := "slotFew", fn := fun _ => fun
  | [d] => { results := [.lit (.bool true)], args := [d] }
  | _ => none }
def slotFewRow : OpenClaim := { program := "ytkgmijhcaclpoaa", sum := "9719da75b9def8acf42cdcebbeab44a55d207c30a46c559e79767b1b5c1439c4", func := "marline/marlinelaw16.SlotFew", spec := "slotFew", unfollowed := true, recurses := true, apart := false }
def SlotFewSaid : Prop := slotFewRow.holds Try.pinned (OpenSpec.ofChange slotFewSpec)

/-- ITS FALSE NEIGHBOUR: 'it returns false'. Refute it at one input. -/
def slotFewWrong : ChangeSpec := { name := "slotFew", fn := fun _ => fun
  | [d] => { results := [.lit (.bool false)], args := [d] }
  | _ => none }
def SlotFewWrongFalsely : Prop := slotFewRow.holds Try.pinned (OpenSpec.ofChange slotFewWrong)

/- THE SECOND FORM. 'bulk': how many values and letters a reading holds, each counted each time it is reached (what is shared counts as often as it is met; a slice's spare places count too). A statement '..UptoSaid' is the law's where the arguments, and the package variables that the reading takes, are together of bulk at most 1048576: NARROWER than '..Said'. Prove '..Said' where nothing that the law and all that it calls make is longer than what came in: it says more and counts as full. Else prove '..UptoSaid'. A law counts once. -/
mutual
def uptoBulk {H : Type} : DataW H → Nat
  | .lit (.string bytes) => bytes.length + 1
  | .lit _ => 1
  | .nil => 1
  | .ptr d => uptoBulk d + 1
  | .slice elems spare => uptoBulkAll elems + uptoBulkAll spare + 1
  | .agg parts => uptoBulkAll parts + 1
  | .iface _ d => uptoBulk d + 1
  | .map entries => uptoBulkEntries entries + 1
  | .held _ => 1
def uptoBulkAll {H : Type} : List (DataW H) → Nat
  | [] => 0
  | d :: r => uptoBulk d + uptoBulkAll r
def uptoBulkEntries {H : Type} : List (Lit × DataW H) → Nat
  | [] => 0
  | x :: r => uptoBulkEntry x + uptoBulkEntries r
def uptoBulkEntry {H : Type} : Lit × DataW H → Nat
  | (.string bytes, d) => bytes.length + uptoBulk d + 1
  | (_, d) => uptoBulk d + 1
 end
def uptoSmall : (H : Type) → List (DataW H) → Bool := fun _ ds => decide (uptoBulkAll ds ≤ 1048576)
def OpenSpec.upto (s : _root_.Go.ChangeSpec) : _root_.Go.OpenSpec := { _root_.Go.OpenSpec.ofChange s with cond := some uptoSmall }

/-- 'marlinelaw16.SlotApart', WHERE WHAT IT READS IS OF BULK AT MOST 1048576: true; the input reads as it did. -/
def slotApartUptoRow : OpenClaim := { program := "ytkgmijhcaclpoaa", sum := "9719da75b9def8acf42cdcebbeab44a55d207c30a46c559e79767b1b5c1439c4", func := "marline/marlinelaw16.SlotApart", spec := "slotApart", unfollowed := true, recurses := true, apart := false, narrowed := true }
def SlotApartUptoSaid : Prop := slotApartUptoRow.holds Try.pinned (OpenSpec.upto slotApartSpec)

/-- 'marlinelaw16.SlotLast', WHERE WHAT IT READS IS OF BULK AT MOST 1048576: true; the input reads as it did. -/
def slotLastUptoRow : OpenClaim := { program := "ytkgmijhcaclpoaa", sum := "9719da75b9def8acf42cdcebbeab44a55d207c30a46c559e79767b1b5c1439c4", func := "marline/marlinelaw16.SlotLast", spec := "slotLast", unfollowed := true, recurses := true, apart := false, narrowed := true }
def SlotLastUptoSaid : Prop := slotLastUptoRow.holds Try.pinned (OpenSpec.upto slotLastSpec)

/-- 'marlinelaw16.SlotTurned', WHERE WHAT IT READS IS OF BULK AT MOST 1048576: true; the input reads as it did. -/
def slotTurnedUptoRow : OpenClaim := { program := "ytkgmijhcaclpoaa", sum := "9719da75b9def8acf42cdcebbeab44a55d207c30a46c559e79767b1b5c1439c4", func := "marline/marlinelaw16.SlotTurned", spec := "slotTurned", unfollowed := true, recurses := true, apart := false, narrowed := true }
def SlotTurnedUptoSaid : Prop := slotTurnedUptoRow.holds Try.pinned (OpenSpec.upto slotTurnedSpec)

/-- 'marlinelaw16.SlotFew', WHERE WHAT IT READS IS OF BULK AT MOST 1048576: true; the input reads as it did. -/
def slotFewUptoRow : OpenClaim := { program := "ytkgmijhcaclpoaa", sum := "9719da75b9def8acf42cdcebbeab44a55d207c30a46c559e79767b1b5c1439c4", func := "marline/marlinelaw16.SlotFew", spec := "slotFew", unfollowed := true, recurses := true, apart := false, narrowed := true }
def SlotFewUptoSaid : Prop := slotFewUptoRow.holds Try.pinned (OpenSpec.upto slotFewSpec)

end Rows
end Go.Proofs.Ytkgmijhcaclpoaa
