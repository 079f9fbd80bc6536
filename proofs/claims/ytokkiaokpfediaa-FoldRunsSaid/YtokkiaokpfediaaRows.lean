/-
  No cell of these rows narrows 'for every input' (looked for: loops, veiled, ifaces, maps, wideKeys, modest, calm, conditions, laid).
  DERIVED. THE GIVEN ROWS OF THIS SEAT. 5 by the template 'for every input the law returns true; each argument reads behind the call as it read before'; 0 by the template 'total and deterministic' (their statements: YtokkiaokpfediaaTotals.lean).
  GIVEN WITH THE SEED: the statements are not yours to turn. If you find one false, say at which input.
  Laid BY PROGRAM, IN A SANDBOX (cutbox-rows.mjs): the forced cells as the released guide's own fill.sh prints them over the translation 10fb20f564a7c176… (all of the seat's roots in one cut). By AI agents, Wed Nov 11 2026. No macro, syntax, notation, axiom, sorry.
-/
import Derived.Test.YtokkiaokpfediaaChecked
import GoSem.Claim
import GoSem.ClaimJoined
import GoSem.ClaimMapViews
import Derived.JoinedTies
import Derived.KernelRfl
namespace Go.Proofs.Ytokkiaokpfediaa
/- THE CELL 'sum', in the pinned program and in every row, IS THE sha256 OF THE DUMP (.gsa) THAT YtokkiaokpfediaaProg.lean LOADS. Nothing in Lean hashes anything: it is a label: what it is worth is what the hold of that sum in a sandbox is worth. -/
noncomputable def Try.pinned : Pinned := { name := "ytokkiaokpfediaa", sum := "10fb20f564a7c176c81c55aa38fc120ca0996dbbf8ff18af5a712444f4969793", checked := Try.checked }
namespace Rows
def none {H : Type} : Left H := { results := [], args := [] }

/-- 'marlinelaw12.FoldReckons': WHATEVER THE INPUT: true; the input reads as it did. -/
def foldReckonsSpec : ChangeSpec := { name := "foldReckons", fn := fun _ => fun
  | [d1, d2, d3] => { results := [.lit (.bool true)], args := [d1, d2, d3] }
  | _ => none }
def foldReckonsRow : OpenClaim := { program := "ytokkiaokpfediaa", sum := "10fb20f564a7c176c81c55aa38fc120ca0996dbbf8ff18af5a712444f4969793", func := "marline/marlinelaw12.FoldReckons", spec := "foldReckons", unfollowed := true, recurses := true, apart := false }
def FoldReckonsSaid : Prop := foldReckonsRow.holds Try.pinned (OpenSpec.ofChange foldReckonsSpec)

/-- ITS FALSE NEIGHBOUR: 'it returns false'. Refute it at one input. -/
def foldReckonsWrong : ChangeSpec := { name := "foldReckons", fn := fun _ => fun
  | [d1, d2, d3] => { results := [.lit (.bool false)], args := [d1, d2, d3] }
  | _ => none }
def FoldReckonsWrongFalsely : Prop := foldReckonsRow.holds Try.pinned (OpenSpec.ofChange foldReckonsWrong)

/-- 'marlinelaw12.FoldTwice': WHATEVER THE INPUT: true; the input reads as it did. -/
def foldTwiceSpec : ChangeSpec := { name := "foldTwice", fn := fun _ => fun
  | [d] => { results := [.lit (.bool true)], args := [d] }
  | _ => none }
def foldTwiceRow : OpenClaim := { program := "ytokkiaokpfediaa", sum := "10fb20f564a7c176c81c55aa38fc120ca0996dbbf8ff18af5a712444f4969793", func := "marline/marlinelaw12.FoldTwice", spec := "foldTwice", unfollowed := true, recurses := true, apart := false }
def FoldTwiceSaid : Prop := foldTwiceRow.holds Try.pinned (OpenSpec.ofChange foldTwiceSpec)

/-- ITS FALSE NEIGHBOUR: 'it returns false'. Refute it at one input. -/
def foldTwiceWrong : ChangeSpec := { name := "foldTwice", fn := fun _ => fun
  | [d] => { results := [.lit (.bool false)], args := [d] }
  | _ => none }
def FoldTwiceWrongFalsely : Prop := foldTwiceRow.holds Try.pinned (OpenSpec.ofChange foldTwiceWrong)

/-- 'marlinelaw12.FoldPlaces': WHATEVER THE INPUT: true; the input reads as it did. -/
def foldPlacesSpec : ChangeSpec := { name := "foldPlaces", fn := fun _ => fun
  | [d] => { results := [.lit (.bool true)], args := [d] }
  | _ => none }
def foldPlacesRow : OpenClaim := { program := "ytokkiaokpfediaa", sum := "10fb20f564a7c176c81c55aa38fc120ca0996dbbf8ff18af5a712444f4969793", func := "marline/marlinelaw12.FoldPlaces", spec := "foldPlaces", unfollowed := true, recurses := true, apart := false }
def FoldPlacesSaid : Prop := foldPlacesRow.holds Try.pinned (OpenSpec.ofChange foldPlacesSpec)

/-- ITS FALSE NEIGHBOUR: 'it returns false'. Refute it at one input. -/
def foldPlacesWrong : ChangeSpec := { name := "foldPlaces", fn := fun _ => fun
  | [d] => { results := [.lit (.bool false)], args := [d] }
  | _ => none }
def FoldPlacesWrongFalsely : Prop := foldPlacesRow.holds Try.pinned (OpenSpec.ofChange foldPlacesWrong)

/-- 'marlinelaw12.FoldRight': WHATEVER THE INPUT: true; the input reads as it did. -/
def foldRightSpec : ChangeSpec := { name := "foldRight", fn := fun _ => fun
  | [d] => { results := [.lit (.bool true)], args := [d] }
  | _ => none }
def foldRightRow : OpenClaim := { program := "ytokkiaokpfediaa", sum := "10fb20f564a7c176c81c55aa38fc120ca0996dbbf8ff18af5a712444f4969793", func := "marline/marlinelaw12.FoldRight", spec := "foldRight", unfollowed := true, recurses := true, apart := false }
def FoldRightSaid : Prop := foldRightRow.holds Try.pinned (OpenSpec.ofChange foldRightSpec)

/-- ITS FALSE NEIGHBOUR: 'it returns false'. Refute it at one input. -/
def foldRightWrong : ChangeSpec := { name := "foldRight", fn := fun _ => fun
  | [d] => { results := [.lit (.bool false)], args := [d] }
  | _ => none }
def FoldRightWrongFalsely : Prop := foldRightRow.holds Try.pinned (OpenSpec.ofChange foldRightWrong)

/-- 'marlinelaw12.FoldRuns': WHATEVER THE INPUT: true; the input reads as it did. -/
def foldRunsSpec : ChangeSpec := { name := "foldRuns", fn := fun _ => fun
  | [d] => { results := [.lit (.bool true)], args := [d] }
  | _ => none }
def foldRunsRow : OpenClaim := { program := "ytokkiaokpfediaa", sum := "10fb20f564a7c176c81c55aa38fc120ca0996dbbf8ff18af5a712444f4969793", func := "marline/marlinelaw12.FoldRuns", spec := "foldRuns", unfollowed := true, recurses := true, apart := false }
def FoldRunsSaid : Prop := foldRunsRow.holds Try.pinned (OpenSpec.ofChange foldRunsSpec)

/-- ITS FALSE NEIGHBOUR: 'it returns false'. Refute it at one input. -/
def foldRunsWrong : ChangeSpec := { name := "foldRuns", fn := fun _ => fun
  | [d] => { results := [.lit (.bool false)], args := [d] }
  | _ => none }
def FoldRunsWrongFalsely : Prop := foldRunsRow.holds Try.pinned (OpenSpec.ofChange foldRunsWrong)

/- THE SECOND FORM. 'bulk': how many values and letters a reading holds, each counted each time it is reached (what is shared counts as often as it is met; a slice's spare places count too). A statement '..UptoSaid' is the law's where the arguments, and the package variables that the reading takes, are together of bulk at most 1048576: NARROWER than '..Said'. Prove '..Said' where nothing that the law and all that it calls make is longer than what came in: it says more and counts as full. Else prove '..UptoSaid'. A law counts once. -/
mutual
def uptoBulk {H : Type} : DataW H → Nat
  | .lit (.string bytes) => bytes.length + 1
  | .lit _ => 1
  | .nil => 1
  | .ptr d => uptoBulk d + 1
  | .slice elems spare => uptoBulkAll elems + uptoBulkAll spare + 1
  | .agg parts => uptoBulkAll parts + 1
  | .iface _ d => uptoBulk d + 1
  | .map entries => uptoBulkEntries entries + 1
  | .held _ => 1
def uptoBulkAll {H : Type} : List (DataW H) → Nat
  | [] => 0
  | d :: r => uptoBulk d + uptoBulkAll r
def uptoBulkEntries {H : Type} : List (Lit × DataW H) → Nat
  | [] => 0
  | x :: r => uptoBulkEntry x + uptoBulkEntries r
def uptoBulkEntry {H : Type} : Lit × DataW H → Nat
  | (.string bytes, d) => bytes.length + uptoBulk d + 1
  | (_, d) => uptoBulk d + 1
 end
def uptoSmall : (H : Type) → List (DataW H) → Bool := fun _ ds => decide (uptoBulkAll ds ≤ 1048576)
def OpenSpec.upto (s : _root_.Go.ChangeSpec) : _root_.Go.OpenSpec := { _root_.Go.OpenSpec.ofChange s with cond := some uptoSmall }

/-- 'marlinelaw12.FoldReckons', WHERE WHAT IT READS IS OF BULK AT MOST 1048576: true; the input reads as it did. -/
def foldReckonsUptoRow : OpenClaim := { program := "ytokkiaokpfediaa", sum := "10fb20f564a7c176c81c55aa38fc120ca0996dbbf8ff18af5a712444f4969793", func := "marline/marlinelaw12.FoldReckons", spec := "foldReckons", unfollowed := true, recurses := true, apart := false, narrowed := true }
def FoldReckonsUptoSaid : Prop := foldReckonsUptoRow.holds Try.pinned (OpenSpec.upto foldReckonsSpec)

/-- 'marlinelaw12.FoldTwice', WHERE WHAT IT READS IS OF BULK AT MOST 1048576: true; the input reads as it did. -/
def foldTwiceUptoRow : OpenClaim := { program := "ytokkiaokpfediaa", sum := "10fb20f564a7c176c81c55aa38fc120ca0996dbbf8ff18af5a712444f4969793", func := "marline/marlinelaw12.FoldTwice", spec := "foldTwice", unfollowed := true, recurses := true, apart := false, narrowed := true }
def FoldTwiceUptoSaid : Prop := foldTwiceUptoRow.holds Try.pinned (OpenSpec.upto foldTwiceSpec)

/-- 'marlinelaw12.FoldPlaces', WHERE WHAT IT READS IS OF BULK AT MOST 1048576: true; the input reads as it did. -/
def foldPlacesUptoRow : OpenClaim := { program := "ytokkiaokpfediaa", sum := "10fb20f564a7c176c81c55aa38fc120ca0996dbbf8ff18af5a712444f4969793", func := "marline/marlinelaw12.FoldPlaces", spec := "foldPlaces", unfollowed := true, recurses := true, apart := false, narrowed := true }
def FoldPlacesUptoSaid : Prop := foldPlacesUptoRow.holds Try.pinned (OpenSpec.upto foldPlacesSpec)

/-- 'marlinelaw12.FoldRight', WHERE WHAT IT READS IS OF BULK AT MOST 1048576: true; the input reads as it did. -/
def foldRightUptoRow : OpenClaim := { program := "ytokkiaokpfediaa", sum := "10fb20f564a7c176c81c55aa38fc120ca0996dbbf8ff18af5a712444f4969793", func := "marline/marlinelaw12.FoldRight", spec := "foldRight", unfollowed := true, recurses := true, apart := false, narrowed := true }
def FoldRightUptoSaid : Prop := foldRightUptoRow.holds Try.pinned (OpenSpec.upto foldRightSpec)

/-- 'marlinelaw12.FoldRuns', WHERE WHAT IT READS IS OF BULK AT MOST 1048576: true; the input reads as it did. -/
def foldRunsUptoRow : OpenClaim := { program := "ytokkiaokpfediaa", sum := "10fb20f564a7c176c81c55aa38fc120ca0996dbbf8ff18af5a712444f4969793", func := "marline/marlinelaw12.FoldRuns", spec := "foldRuns", unfollowed := true, recurses := true, apart := false, narrowed := true }
def FoldRunsUptoSaid : Prop := foldRunsUptoRow.holds Try.pinned (OpenSpec.upto foldRunsSpec)

end Rows
end Go.Proofs.Ytokkiaokpfediaa
